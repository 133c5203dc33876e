/- PRINTED BY pt.py: functions. -/
import Derived.Test.YtpilffakhkagjaaPtS
namespace Go.Proofs.Ytpilffakhkagjaa
open Go Go.Pt
attribute [local irreducible] Code.wp Back bodyPost wpList FR WL WC WQ WA AW Tr Yc HC AllC
set_option maxRecDepth 20000
set_option maxHeartbeats 4000000
set_option linter.unusedVariables false
def b_hermitcrablaw10_AlarmTwins (S : Mem) (times : Sl) (byx : Int) (Q : Bool → Mem → Prop) : Prop :=
  jn (fun (Sx : Mem) =>
      al Sx 91 ([.slice (none) 0 0]) fun b Sx_1 =>
      jn (fun (Sx_2 : Mem) =>
          alarm_Clock_Twin Sx_2 (some (b, 0)) fun t Sx_3 =>
          alarm_Clock_All Sx_3 t fun t_1 Sx_4 =>
          alarm_Clock_Shift Sx_4 t byx fun Sx_5 =>
          alarm_Clock_Drop Sx_5 t 0 0 fun Sx_6 =>
          alarm_Clock_All Sx_6 (some (b, 0)) fun t_2 Sx_7 =>
          jn (fun (Sx_8 : Mem) =>
              jn (fun (Sx_9 : Mem) =>
                  sl t_1 fun b_1 o n n_1 =>
                  (0 : Int) < (n : Nat) ∧
                  gI (Sx_9.cell b_1 o) .u64 fun t_3 =>
                  (0 : Int) < (n : Nat) ∧
                  pt Sx_9 b_1 o 1 ([.int .u64 (IntKind.u64.wrap (t_3 + 1))]) fun Sx_10 =>
                  sl t_2 fun b_2 o_1 n_2 n_3 =>
                  (0 : Int) < (n_2 : Nat) ∧
                  gA (Sx_10.part b_2 o_1 3) fun t_4 =>
                  alarm_Clock_All Sx_10 (some (b, 0)) fun t_5 Sx_11 =>
                  Sx_11.part b_2 o_1 3 = some t_4 ∧
                  sl t_5 fun b_3 o_2 n_4 n_5 =>
                  (0 : Int) < (n_4 : Nat) ∧
                  gA (Sx_11.part b_3 o_2 3) fun t_6 =>
                  fits [.i .u64, .i .i64, .i .i64] t_6 = true ∧
                  fits [.i .u64, .i .i64, .i .i64] t_4 = true ∧
                  Q (eqL t_6 t_4) Sx_11) fun Jx =>
              lp (fun Xx (i : Int) (Sx_12 : Mem) =>
                  jn (fun (Sx_13 : Mem) =>
                      sl t_1 fun b_4 o_3 n_6 n_7 =>
                      0 ≤ i ∧ i < ((n_6 : Nat) : Int) ∧
                      gA (Sx_13.part b_4 (o_3 + i.toNat * 3) 3) fun t_7 =>
                      sl t_2 fun b_5 o_4 n_8 n_9 =>
                      0 ≤ i ∧ i < ((n_8 : Nat) : Int) ∧
                      gA (Sx_13.part b_5 (o_4 + i.toNat * 3) 3) fun t_8 =>
                      fits [.i .u64, .i .i64, .i .i64] t_7 = true ∧
                      fits [.i .u64, .i .i64, .i .i64] t_8 = true ∧
                      if (!(eqL t_7 t_8)) = true then
                        Q false Sx_13
                      else
                      Xx (IntKind.i64.wrap (i + 1)) Sx_13) fun Jx_1 =>
                  if i < (t_1.n : Int) then
                    Jx_1 Sx_12
                  else
                  Jx Sx_12) 0 Sx_8) fun Jx_2 =>
          if (t_1.n : Int) ≠ (times.n : Int) then
            Q false Sx_7
          else
          if (t_2.n : Int) ≠ (t_1.n : Int) then
            Q false Sx_7
          else
          alarm_Clock_All Sx_7 t fun t_9 Sx_14 =>
          if (t_9.n : Int) ≠ IntKind.i64.wrap ((t_1.n : Int) - 1) then
            Q false Sx_14
          else
          Jx_2 Sx_14) fun Jx_3 =>
      lp (fun Xx_1 (i_1 : Int) (Sx_15 : Mem) =>
          jn (fun (Sx_16 : Mem) =>
              sl times fun b_6 o_5 n_10 n_11 =>
              0 ≤ i_1 ∧ i_1 < ((n_10 : Nat) : Int) ∧
              gI (Sx_16.cell b_6 (o_5 + i_1.toNat * 1)) .u64 fun t_10 =>
              alarm_Clock_Set Sx_16 (some (b, 0)) (IntKind.i64.wrap (Int.tdiv i_1 3)) (Int.tmod i_1 3) t_10 fun t_11 Sx_17 =>
              Xx_1 (IntKind.i64.wrap (i_1 + 1)) Sx_17) fun Jx_4 =>
          if i_1 < (times.n : Int) then
            Jx_4 Sx_15
          else
          Jx_3 Sx_15) 0 Sx_1) fun Jx_5 =>
  hermitcrablaw10_awake S fun t_12 Sx_18 =>
  if t_12 = true then
    if (times.n : Int) = 0 then
      hermitcrablaw10_awake Sx_18 fun t_13 Sx_19 =>
      Q t_13 Sx_19
    else
    if 18 < (times.n : Int) then
      hermitcrablaw10_awake Sx_18 fun t_14 Sx_20 =>
      Q t_14 Sx_20
    else
    Jx_5 Sx_18
  else
  hermitcrablaw10_awake Sx_18 fun t_15 Sx_21 =>
  Q t_15 Sx_21
theorem t_hermitcrablaw10_AlarmTwins {S : Mem} {times : Sl} {byx : Int} {Q : Bool → Mem → Prop} (H : b_hermitcrablaw10_AlarmTwins S times byx Q) : hermitcrablaw10_AlarmTwins S times byx Q := by
  unfold b_hermitcrablaw10_AlarmTwins at H
  refine Tr.intro Try.func9 rfl Try.ntmps9 rfl fun w0 => ?_
  refine c_seq ?_
  refine c_region ?_
  refine s_p rfl (y_assign rfl) ?_
  refine s_nil (q_then ?_)
  refine c_join2 H (fun (J : Mem → Prop) (z : Unit) S => J S) (fun z => ⟨104, [(0, eL times), (1, .int .u64 byx)]⟩) (fun z => []) ?_ ?_
  · clear H
    rintro _ Sx H
    refine c_seq ?_
    refine c_region ?_
    refine s_p rfl (y_build rfl rfl) ?_
    refine s_box rfl rfl rfl fun b => ?_
    refine s_pub 0 rfl fun hb => ?_
    replace H := H b hb
    refine s_p rfl (y_assign rfl) ?_
    refine s_nil (q_then ?_)
    refine c_join2 H (fun (J : Mem → Prop) (z : Unit) S => J S) (fun z => ⟨104, [(0, eL times), (1, .int .u64 byx), (5, .pointer (some ⟨b, 0, none⟩))]⟩) (fun z => []) ?_ ?_
    · clear H
      rintro _ Sx_2 H
      refine c_seq ?_
      refine c_region ?_
      refine s_p rfl (y_move rfl) ?_
      refine s_call rfl rfl H fun rv Sx_3 H2 => ?_
      clear H
      obtain ⟨t, rfl, H⟩ := H2
      refine s_p rfl (y_assign rfl) ?_
      refine s_nil (q_then ?_)
      refine c_seq ?_
      refine c_region ?_
      refine s_p rfl (y_move rfl) ?_
      refine s_call rfl rfl H fun rv Sx_4 H2 => ?_
      clear H
      obtain ⟨t_1, rfl, H⟩ := H2
      refine s_p rfl (y_assign rfl) ?_
      refine s_nil (q_then ?_)
      refine c_seq ?_
      refine c_region ?_
      refine s_p rfl (y_move rfl) ?_
      refine s_p rfl (y_move rfl) ?_
      refine s_call rfl rfl H fun rv Sx_5 H2 => ?_
      clear H
      obtain ⟨rfl, H⟩ := H2
      refine s_nil (q_then ?_)
      refine c_seq ?_
      refine c_region ?_
      refine s_p rfl (y_move rfl) ?_
      refine s_call rfl rfl H fun rv Sx_6 H2 => ?_
      clear H
      obtain ⟨rfl, H⟩ := H2
      refine s_nil (q_then ?_)
      refine c_seq ?_
      refine c_region ?_
      refine s_p rfl (y_move rfl) ?_
      refine s_call rfl rfl H fun rv Sx_7 H2 => ?_
      clear H
      obtain ⟨t_2, rfl, H⟩ := H2
      refine s_p rfl (y_assign rfl) ?_
      refine s_nil (q_then ?_)
      refine c_join2 H (fun (J : Mem → Prop) (z : Unit) S => J S) (fun z => ⟨104, [(5, .pointer (some ⟨b, 0, none⟩)), (8, eL t_1), (9, eL t_2)]⟩) (fun z => []) ?_ ?_
      · clear H
        rintro _ Sx_8 H
        refine c_join2 H (fun (J : Mem → Prop) (z : Unit) S => J S) (fun z => ⟨104, [(5, .pointer (some ⟨b, 0, none⟩)), (8, eL t_1), (9, eL t_2)]⟩) (fun z => []) ?_ ?_
        · clear H
          rintro _ Sx_9 H
          refine c_seq ?_
          refine c_region ?_
          refine s_p rfl (y_move rfl) ?_
          obtain ⟨b_1, o, n, n_1, rfl, H⟩ := H
          obtain ⟨c_1, H⟩ := H
          refine s_p rfl (y_ixL rfl rfl (by decide) c_1 rfl) ?_
          refine s_p rfl (y_fa rfl rfl) ?_
          obtain ⟨t_3, ht_3, H⟩ := H
          refine s_v rfl (y_ld rfl) (hc_S ht_3) ?_
          refine s_p rfl (y_add rfl rfl) ?_
          obtain ⟨c_3, H⟩ := H
          refine s_p rfl (y_ixL rfl rfl (by decide) c_3 rfl) ?_
          refine s_p rfl (y_fa rfl rfl) ?_
          obtain ⟨c_4, H⟩ := H
          refine s_stS rfl rfl rfl rfl rfl c_4 rfl ?_
          refine s_nil (q_then ?_)
          refine c_seq ?_
          refine c_drawn (by kernel_rfl) ?_
          refine a_takeP 0 rfl (by decide +kernel) (np_then np_body) rfl (y_move rfl) ?_
          refine a_takeP 4 rfl (by decide +kernel) (np_then np_body) rfl (y_move rfl) ?_
          obtain ⟨b_2, o_1, n_2, n_3, rfl, H⟩ := H
          obtain ⟨c_6, H⟩ := H
          refine a_takeP 5 rfl (by decide +kernel) (np_then np_body) rfl (y_ixL rfl rfl (by decide) c_6 rfl) ?_
          obtain ⟨t_4, ht_4, H⟩ := H
          refine a_take 6 rfl (by decide +kernel) (np_then np_body) rfl (y_ldA rfl (part_len ht_4)) (hc_SP ht_4) ?_
          refine a_step 1 (by decide +kernel) rfl ?_
          refine s_call rfl rfl H fun rv Sx_11 H2 => ?_
          clear H
          obtain ⟨t_5, rfl, H⟩ := H2
          obtain ⟨k, H⟩ := H
          refine s_nil (q_any (ac_cons (hc_SP k) ac_nil) ?_)
          obtain ⟨b_3, o_2, n_4, n_5, rfl, H⟩ := H
          obtain ⟨c_8, H⟩ := H
          refine a_takeP 2 rfl (by decide +kernel) (np_then np_body) rfl (y_ixL rfl rfl (by decide) c_8 rfl) ?_
          obtain ⟨t_6, ht_6, H⟩ := H
          refine a_take 3 rfl (by decide +kernel) (np_then np_body) rfl (y_ldA rfl (part_len ht_6)) (hc_SP ht_6) ?_
          obtain ⟨c_9, H⟩ := H
          obtain ⟨c_10, H⟩ := H
          refine a_takeP 7 rfl (by decide +kernel) (np_then np_body) rfl (y_eqA rfl rfl c_9 c_10) ?_
          refine a_takeP 8 rfl (by decide +kernel) (np_then np_body) rfl (y_assign rfl) ?_
          refine a_done (by decide +kernel) ?_
          refine q_then ?_
          refine c_ret ?_
          exact q_ret Try.results9 (rv_tmp rfl rv_nil) ⟨_, rfl, H⟩
        · clear H
          intro Jx hJx H
          refine c_seq ?_
          refine c_region ?_
          refine s_p rfl (y_assign rfl) ?_
          refine s_nil (q_then ?_)
          refine c_block ?_
          refine c_loop (fun z => ⟨104, [(5, .pointer (some ⟨b, 0, none⟩)), (8, eL t_1), (9, eL t_2), (10, .int .i64 z)]⟩) (fun z => []) 0 (idx := []) H rfl ⟨rfl, rfl, rfl, rfl, True.intro⟩ rfl ?_
          clear H
          rintro Xx hXx i Sx_12 H
          refine c_join2 H (fun (J : Mem → Prop) (z : Unit) S => J S) (fun z => ⟨104, [(5, .pointer (some ⟨b, 0, none⟩)), (8, eL t_1), (9, eL t_2), (10, .int .i64 i)]⟩) (fun z => []) ?_ ?_
          · clear H
            rintro _ Sx_13 H
            refine c_seq ?_
            refine c_block ?_
            refine c_seq ?_
            refine c_drawn (by kernel_rfl) ?_
            refine a_takeP 0 rfl (by decide +kernel) (np_then (np_blk (np_then (np_then (np_blk (np_then np_body)))))) rfl (y_move rfl) ?_
            refine a_takeP 1 rfl (by decide +kernel) (np_then (np_blk (np_then (np_then (np_blk (np_then np_body)))))) rfl (y_move rfl) ?_
            obtain ⟨b_4, o_3, n_6, n_7, rfl, H⟩ := H
            obtain ⟨c_11, c_12, H⟩ := H
            refine a_takeP 2 rfl (by decide +kernel) (np_then (np_blk (np_then (np_then (np_blk (np_then np_body)))))) rfl (y_ixL rfl rfl c_11 c_12 rfl) ?_
            obtain ⟨t_7, ht_7, H⟩ := H
            refine a_take 3 rfl (by decide +kernel) (np_then (np_blk (np_then (np_then (np_blk (np_then np_body)))))) rfl (y_ldA rfl (part_len ht_7)) (hc_SP ht_7) ?_
            refine a_takeP 4 rfl (by decide +kernel) (np_then (np_blk (np_then (np_then (np_blk (np_then np_body)))))) rfl (y_move rfl) ?_
            refine a_takeP 5 rfl (by decide +kernel) (np_then (np_blk (np_then (np_then (np_blk (np_then np_body)))))) rfl (y_move rfl) ?_
            obtain ⟨b_5, o_4, n_8, n_9, rfl, H⟩ := H
            obtain ⟨c_13, c_14, H⟩ := H
            refine a_takeP 6 rfl (by decide +kernel) (np_then (np_blk (np_then (np_then (np_blk (np_then np_body)))))) rfl (y_ixL rfl rfl c_13 c_14 rfl) ?_
            obtain ⟨t_8, ht_8, H⟩ := H
            refine a_take 7 rfl (by decide +kernel) (np_then (np_blk (np_then (np_then (np_blk (np_then np_body)))))) rfl (y_ldA rfl (part_len ht_8)) (hc_SP ht_8) ?_
            obtain ⟨c_15, H⟩ := H
            obtain ⟨c_16, H⟩ := H
            replace H := ite_e H
            rcases H with ⟨c_17, H⟩ | ⟨c_17, H⟩
            · refine a_takeP 8 rfl (by decide +kernel) (np_then (np_blk (np_then (np_then (np_blk (np_then np_body)))))) rfl (yB (y_neA rfl rfl c_15 c_16) c_17) ?_
              refine a_done (by decide +kernel) ?_
              refine q_then ?_
              refine c_t rfl rfl ?_
              refine c_seq ?_
              refine c_region ?_
              refine s_p rfl (y_assign rfl) ?_
              refine s_nil (q_then ?_)
              refine c_ret (q_blk_ret (q_then_ret (q_then_ret (q_blk_ret (q_then_ret ?_)))))
              exact q_ret Try.results9 (rv_tmp rfl rv_nil) ⟨_, rfl, H⟩
            · refine a_takeP 8 rfl (by decide +kernel) (np_then (np_blk (np_then (np_then (np_blk (np_then np_body)))))) rfl (yB (y_neA rfl rfl c_15 c_16) (bf_of c_17)) ?_
              refine a_done (by decide +kernel) ?_
              refine q_then ?_
              refine c_f rfl rfl ?_
              refine c_skip (q_blk (q_then ?_))
              refine c_region ?_
              refine s_p rfl (y_move rfl) ?_
              refine s_p rfl (y_add rfl rfl) ?_
              refine s_p rfl (y_assign rfl) ?_
              refine s_nil ?_
              exact hXx (IntKind.i64.wrap (i + 1)) _ _ _ _ [] H rfl ⟨rfl, rfl, rfl, rfl, True.intro⟩ rfl
          · clear H
            intro Jx_1 hJx_1 H
            refine c_seq ?_
            refine c_region ?_
            refine s_p rfl (y_move rfl) ?_
            refine s_p rfl (y_move rfl) ?_
            refine s_p rfl (y_len rfl) ?_
            replace H := ite_e H
            rcases H with ⟨c_18, H⟩ | ⟨c_18, H⟩
            · refine s_p rfl (yT (y_lss rfl rfl) c_18) ?_
              refine s_nil (q_then ?_)
              refine c_t rfl rfl ?_
              refine c_skip ?_
              exact hJx_1 () _ _ _ _ [] H rfl ⟨rfl, rfl, rfl, rfl, True.intro⟩ rfl
            · refine s_p rfl (yF (y_lss rfl rfl) c_18) ?_
              refine s_nil (q_then ?_)
              refine c_f rfl rfl ?_
              refine c_exit (q_then_exit (q_then_exit (q_blk_out ?_)))
              exact hJx () _ _ _ _ [] H rfl ⟨rfl, rfl, rfl, True.intro⟩ rfl
      · clear H
        intro Jx_2 hJx_2 H
        refine c_seq ?_
        refine c_region ?_
        refine s_p rfl (y_move rfl) ?_
        refine s_p rfl (y_len rfl) ?_
        refine s_p rfl (y_move rfl) ?_
        refine s_p rfl (y_len rfl) ?_
        replace H := ite_e H
        rcases H with ⟨c_19, H⟩ | ⟨c_19, H⟩
        · refine s_p rfl (yT (y_neq rfl rfl) c_19) ?_
          refine s_p rfl (y_move rfl) ?_
          refine s_skip rfl ?_
          refine s_skip rfl ?_
          refine s_skip rfl ?_
          refine s_skip rfl ?_
          refine s_skip rfl ?_
          refine s_p rfl (y_pick rfl rfl) ?_
          refine s_p rfl (y_move rfl) ?_
          refine s_skip rfl ?_
          refine s_skip rfl ?_
          refine s_skip rfl ?_
          refine s_skip rfl ?_
          refine s_skip rfl ?_
          refine s_skip rfl ?_
          refine s_skip rfl ?_
          refine s_p rfl (y_pick rfl rfl) ?_
          refine s_nil (q_then ?_)
          refine c_t rfl rfl ?_
          refine c_seq ?_
          refine c_region ?_
          refine s_p rfl (y_assign rfl) ?_
          refine s_nil (q_then ?_)
          refine c_ret (q_then_ret ?_)
          exact q_ret Try.results9 (rv_tmp rfl rv_nil) ⟨_, rfl, H⟩
        · refine s_p rfl (yF (y_neq rfl rfl) c_19) ?_
          refine s_p rfl (y_move rfl) ?_
          refine s_p rfl (y_move rfl) ?_
          refine s_p rfl (y_len rfl) ?_
          refine s_p rfl (y_move rfl) ?_
          refine s_p rfl (y_len rfl) ?_
          replace H := ite_e H
          rcases H with ⟨c_20, H⟩ | ⟨c_20, H⟩
          · refine s_p rfl (yT (y_neq rfl rfl) c_20) ?_
            refine s_p rfl (y_pick rfl rfl) ?_
            refine s_p rfl (y_move rfl) ?_
            refine s_skip rfl ?_
            refine s_skip rfl ?_
            refine s_skip rfl ?_
            refine s_skip rfl ?_
            refine s_skip rfl ?_
            refine s_skip rfl ?_
            refine s_skip rfl ?_
            refine s_p rfl (y_pick rfl rfl) ?_
            refine s_nil (q_then ?_)
            refine c_t rfl rfl ?_
            refine c_seq ?_
            refine c_region ?_
            refine s_p rfl (y_assign rfl) ?_
            refine s_nil (q_then ?_)
            refine c_ret (q_then_ret ?_)
            exact q_ret Try.results9 (rv_tmp rfl rv_nil) ⟨_, rfl, H⟩
          · refine s_p rfl (yF (y_neq rfl rfl) c_20) ?_
            refine s_p rfl (y_pick rfl rfl) ?_
            refine s_p rfl (y_move rfl) ?_
            refine s_p rfl (y_move rfl) ?_
            refine s_call rfl rfl H fun rv Sx_14 H2 => ?_
            clear H
            obtain ⟨t_9, rfl, H⟩ := H2
            refine s_p rfl (y_len rfl) ?_
            refine s_p rfl (y_move rfl) ?_
            refine s_p rfl (y_len rfl) ?_
            refine s_p rfl (y_sub rfl rfl) ?_
            replace H := ite_e H
            rcases H with ⟨c_21, H⟩ | ⟨c_21, H⟩
            · refine s_p rfl (yT (y_neq rfl rfl) c_21) ?_
              refine s_p rfl (y_pick rfl rfl) ?_
              refine s_nil (q_then ?_)
              refine c_t rfl rfl ?_
              refine c_seq ?_
              refine c_region ?_
              refine s_p rfl (y_assign rfl) ?_
              refine s_nil (q_then ?_)
              refine c_ret (q_then_ret ?_)
              exact q_ret Try.results9 (rv_tmp rfl rv_nil) ⟨_, rfl, H⟩
            · refine s_p rfl (yF (y_neq rfl rfl) c_21) ?_
              refine s_p rfl (y_pick rfl rfl) ?_
              refine s_nil (q_then ?_)
              refine c_f rfl rfl ?_
              refine c_skip ?_
              exact hJx_2 () _ _ _ _ [] H rfl ⟨rfl, rfl, rfl, True.intro⟩ rfl
    · clear H
      intro Jx_3 hJx_3 H
      refine c_seq ?_
      refine c_region ?_
      refine s_p rfl (y_assign rfl) ?_
      refine s_nil (q_then ?_)
      refine c_block ?_
      refine c_loop (fun z => ⟨104, [(0, eL times), (1, .int .u64 byx), (5, .pointer (some ⟨b, 0, none⟩)), (6, .int .i64 z)]⟩) (fun z => []) 0 (idx := []) H rfl ⟨rfl, rfl, rfl, rfl, True.intro⟩ rfl ?_
      clear H
      rintro Xx_1 hXx_1 i_1 Sx_15 H
      refine c_join2 H (fun (J : Mem → Prop) (z : Unit) S => J S) (fun z => ⟨104, [(0, eL times), (1, .int .u64 byx), (5, .pointer (some ⟨b, 0, none⟩)), (6, .int .i64 i_1)]⟩) (fun z => []) ?_ ?_
      · clear H
        rintro _ Sx_16 H
        refine c_seq ?_
        refine c_block ?_
        refine c_region ?_
        refine s_p rfl (y_move rfl) ?_
        refine s_p rfl (y_move rfl) ?_
        refine s_p rfl (y_quo rfl rfl (by decide)) ?_
        refine s_p rfl (y_move rfl) ?_
        refine s_p rfl (y_rem rfl rfl (by decide)) ?_
        refine s_p rfl (y_move rfl) ?_
        refine s_p rfl (y_move rfl) ?_
        obtain ⟨b_6, o_5, n_10, n_11, rfl, H⟩ := H
        obtain ⟨c_22, c_23, H⟩ := H
        refine s_p rfl (y_ixL rfl rfl c_22 c_23 rfl) ?_
        obtain ⟨t_10, ht_10, H⟩ := H
        refine s_v rfl (y_ld rfl) (hc_S ht_10) ?_
        refine s_call rfl rfl H fun rv Sx_17 H2 => ?_
        clear H
        obtain ⟨t_11, rfl, H⟩ := H2
        refine s_nil (q_blk (q_then ?_))
        refine c_region ?_
        refine s_p rfl (y_move rfl) ?_
        refine s_p rfl (y_add rfl rfl) ?_
        refine s_p rfl (y_assign rfl) ?_
        refine s_nil ?_
        exact hXx_1 (IntKind.i64.wrap (i_1 + 1)) _ _ _ _ [] H rfl ⟨rfl, rfl, rfl, rfl, True.intro⟩ rfl
      · clear H
        intro Jx_4 hJx_4 H
        refine c_seq ?_
        refine c_region ?_
        refine s_p rfl (y_move rfl) ?_
        refine s_p rfl (y_move rfl) ?_
        refine s_p rfl (y_len rfl) ?_
        replace H := ite_e H
        rcases H with ⟨c_24, H⟩ | ⟨c_24, H⟩
        · refine s_p rfl (yT (y_lss rfl rfl) c_24) ?_
          refine s_nil (q_then ?_)
          refine c_t rfl rfl ?_
          refine c_skip ?_
          exact hJx_4 () _ _ _ _ [] H rfl ⟨rfl, rfl, rfl, rfl, True.intro⟩ rfl
        · refine s_p rfl (yF (y_lss rfl rfl) c_24) ?_
          refine s_nil (q_then ?_)
          refine c_f rfl rfl ?_
          refine c_exit (q_then_exit (q_then_exit (q_blk_out ?_)))
          exact hJx_3 () _ _ _ _ [] H rfl ⟨rfl, rfl, rfl, True.intro⟩ rfl
  · clear H
    intro Jx_5 hJx_5 H
    refine c_seq ?_
    refine c_region ?_
    refine s_call rfl rfl H fun rv Sx_18 H2 => ?_
    clear H
    obtain ⟨t_12, rfl, H⟩ := H2
    replace H := ib_e H
    rcases H with ⟨rfl, H⟩ | ⟨rfl, H⟩
    · skip
      refine s_p rfl (yB (y_not rfl) rfl) ?_
      refine s_p rfl (y_move rfl) ?_
      refine s_p rfl (y_move rfl) ?_
      refine s_p rfl (y_len rfl) ?_
      replace H := ite_e H
      rcases H with ⟨c_25, H⟩ | ⟨c_25, H⟩
      · refine s_p rfl (yT (y_eql rfl rfl) c_25) ?_
        refine s_p rfl (y_pick rfl rfl) ?_
        refine s_p rfl (y_move rfl) ?_
        refine s_skip rfl ?_
        refine s_skip rfl ?_
        refine s_skip rfl ?_
        refine s_p rfl (y_pick rfl rfl) ?_
        refine s_nil (q_then ?_)
        refine c_t rfl rfl ?_
        refine c_seq ?_
        refine c_region ?_
        refine s_call rfl rfl H fun rv Sx_19 H2 => ?_
        clear H
        obtain ⟨t_13, rfl, H⟩ := H2
        refine s_p rfl (y_assign rfl) ?_
        refine s_nil (q_then ?_)
        refine c_ret (q_then_ret ?_)
        exact q_ret Try.results9 (rv_tmp rfl rv_nil) ⟨_, rfl, H⟩
      · refine s_p rfl (yF (y_eql rfl rfl) c_25) ?_
        refine s_p rfl (y_pick rfl rfl) ?_
        refine s_p rfl (y_move rfl) ?_
        refine s_p rfl (y_move rfl) ?_
        refine s_p rfl (y_len rfl) ?_
        replace H := ite_e H
        rcases H with ⟨c_26, H⟩ | ⟨c_26, H⟩
        · refine s_p rfl (yT (y_gtr rfl rfl) c_26) ?_
          refine s_p rfl (y_pick rfl rfl) ?_
          refine s_nil (q_then ?_)
          refine c_t rfl rfl ?_
          refine c_seq ?_
          refine c_region ?_
          refine s_call rfl rfl H fun rv Sx_20 H2 => ?_
          clear H
          obtain ⟨t_14, rfl, H⟩ := H2
          refine s_p rfl (y_assign rfl) ?_
          refine s_nil (q_then ?_)
          refine c_ret (q_then_ret ?_)
          exact q_ret Try.results9 (rv_tmp rfl rv_nil) ⟨_, rfl, H⟩
        · refine s_p rfl (yF (y_gtr rfl rfl) c_26) ?_
          refine s_p rfl (y_pick rfl rfl) ?_
          refine s_nil (q_then ?_)
          refine c_f rfl rfl ?_
          refine c_skip ?_
          exact hJx_5 () _ _ _ _ [] H rfl ⟨rfl, rfl, True.intro⟩ rfl
    · skip
      refine s_p rfl (yB (y_not rfl) rfl) ?_
      refine s_p rfl (y_move rfl) ?_
      refine s_skip rfl ?_
      refine s_skip rfl ?_
      refine s_skip rfl ?_
      refine s_p rfl (y_pick rfl rfl) ?_
      refine s_p rfl (y_move rfl) ?_
      refine s_skip rfl ?_
      refine s_skip rfl ?_
      refine s_skip rfl ?_
      refine s_p rfl (y_pick rfl rfl) ?_
      refine s_nil (q_then ?_)
      refine c_t rfl rfl ?_
      refine c_seq ?_
      refine c_region ?_
      refine s_call rfl rfl H fun rv Sx_21 H2 => ?_
      clear H
      obtain ⟨t_15, rfl, H⟩ := H2
      refine s_p rfl (y_assign rfl) ?_
      refine s_nil (q_then ?_)
      refine c_ret (q_then_ret ?_)
      exact q_ret Try.results9 (rv_tmp rfl rv_nil) ⟨_, rfl, H⟩
end Go.Proofs.Ytpilffakhkagjaa
