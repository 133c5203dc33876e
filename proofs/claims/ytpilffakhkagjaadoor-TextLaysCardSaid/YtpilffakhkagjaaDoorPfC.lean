/- PRINTED BY pt.py: functions. -/
import Derived.Test.YtpilffakhkagjaaDoorPtS
namespace Go.Proofs.YtpilffakhkagjaaDoor
open Go Go.Pt
attribute [local irreducible] Code.wp Back bodyPost wpList FR WL WC WQ WA AW Tr Yc HC AllC
set_option maxRecDepth 20000
set_option maxHeartbeats 4000000
set_option linter.unusedVariables false
def b_hermitcrablaw03_TextLists (S : Mem) (p : Sl) (Q : Bool → Mem → Prop) : Prop :=
  jn (fun (Sx : Mem) =>
      text_List Sx p fun t Sx_1 =>
      jn (fun (Sx_2 : Mem) =>
          jn (fun (Sx_3 : Mem) =>
              Q true Sx_3) fun Jx =>
          lp (fun Xx (i : Int) (Sx_4 : Mem) =>
              jn (fun (Sx_5 : Mem) =>
                  jn (fun (Sx_6 : Mem) =>
                      Xx (IntKind.i64.wrap (i + 1)) Sx_6) fun Jx_1 =>
                  sl p fun b o n n_1 =>
                  0 ≤ IntKind.i64.wrap (4 * i) ∧ IntKind.i64.wrap (4 * i) < ((n : Nat) : Int) ∧
                  gI (Sx_5.cell b (o + (IntKind.i64.wrap (4 * i)).toNat * 1)) .u8 fun t_1 =>
                  0 ≤ IntKind.i64.wrap ((IntKind.i64.wrap (4 * i)) + 1) ∧ IntKind.i64.wrap ((IntKind.i64.wrap (4 * i)) + 1) < ((n : Nat) : Int) ∧
                  gI (Sx_5.cell b (o + (IntKind.i64.wrap ((IntKind.i64.wrap (4 * i)) + 1)).toNat * 1)) .u8 fun t_2 =>
                  0 ≤ IntKind.i64.wrap ((IntKind.i64.wrap (4 * i)) + 2) ∧ IntKind.i64.wrap ((IntKind.i64.wrap (4 * i)) + 2) < ((n : Nat) : Int) ∧
                  gI (Sx_5.cell b (o + (IntKind.i64.wrap ((IntKind.i64.wrap (4 * i)) + 2)).toNat * 1)) .u8 fun t_3 =>
                  0 ≤ IntKind.i64.wrap ((IntKind.i64.wrap (4 * i)) + 3) ∧ IntKind.i64.wrap ((IntKind.i64.wrap (4 * i)) + 3) < ((n : Nat) : Int) ∧
                  gI (Sx_5.cell b (o + (IntKind.i64.wrap ((IntKind.i64.wrap (4 * i)) + 3)).toNat * 1)) .u8 fun t_4 =>
                  jn (fun (ok : Bool) (o_1 : List Value) (Sx_7 : Mem) =>
                      o_1.length = 5 ∧
                      if ok = true then
                        gI (nthL o_1 0) .u8 fun t_5 =>
                        gI (nthL o_1 1) .u8 fun t_6 =>
                        gI (nthL o_1 2) .u8 fun t_7 =>
                        gI (nthL o_1 3) .u8 fun t_8 =>
                        gI (nthL o_1 4) .i16 fun t_9 =>
                        hermitcrabref01_Text Sx_7 t_5 t_6 t_7 t_8 t_9 fun t_10 Sx_8 =>
                        sl t fun b_2 o_2 n_2 n_3 =>
                        0 ≤ i ∧ i < ((n_2 : Nat) : Int) ∧
                        gS (Sx_8.cell b_2 (o_2 + i.toNat * 1)) fun t_11 =>
                        if t_11 ≠ t_10 then
                          Q false Sx_8
                        else
                        Jx_1 Sx_8
                      else
                      sl t fun b_3 o_3 n_4 n_5 =>
                      0 ≤ i ∧ i < ((n_4 : Nat) : Int) ∧
                      gS (Sx_7.cell b_3 (o_3 + i.toNat * 1)) fun t_12 =>
                      if t_12 ≠ ⟨#[63]⟩ then
                        Q false Sx_7
                      else
                      Jx_1 Sx_7) fun Jx_2 =>
                  code_Decode Sx_5 (ior .u32 (ior .u32 (ior .u32 (IntKind.u32.wrap t_1) (ishl .u32 (IntKind.u32.wrap t_2) 8)) (ishl .u32 (IntKind.u32.wrap t_3) 16)) (ishl .u32 (IntKind.u32.wrap t_4) 24)) fun t_13 t_14 Sx_9 =>
                  if t_14 = true then
                    t_13.all (·.oneCell') = true ∧
                    Jx_2 true t_13 Sx_9
                  else
                  t_13.all (·.oneCell') = true ∧
                  Jx_2 false t_13 Sx_9) fun Jx_3 =>
              if i < (t.n : Int) then
                Jx_3 Sx_4
              else
              Jx Sx_4) 0 Sx_2) fun Jx_4 =>
      if (t.n : Int) ≠ IntKind.i64.wrap (Int.tdiv (p.n : Int) 4) then
        Q false Sx_1
      else
      Jx_4 Sx_1) fun Jx_5 =>
  hermitcrablaw03_awake S fun t_15 Sx_10 =>
  if t_15 = true then
    if 100 < (p.n : Int) then
      hermitcrablaw03_awake Sx_10 fun t_16 Sx_11 =>
      Q t_16 Sx_11
    else
    Jx_5 Sx_10
  else
  hermitcrablaw03_awake Sx_10 fun t_17 Sx_12 =>
  Q t_17 Sx_12
theorem t_hermitcrablaw03_TextLists {S : Mem} {p : Sl} {Q : Bool → Mem → Prop} (H : b_hermitcrablaw03_TextLists S p Q) : hermitcrablaw03_TextLists S p Q := by
  unfold b_hermitcrablaw03_TextLists at H
  refine Tr.intro Tryd.func4 rfl Tryd.ntmps4 rfl fun w0 => ?_
  refine c_seq ?_
  refine c_region ?_
  refine s_p rfl (y_assign rfl) ?_
  refine s_nil (q_then ?_)
  refine c_join2 H (fun (J : Mem → Prop) (z : Unit) S => J S) (fun z => ⟨87, [(0, eL p)]⟩) (fun z => []) ?_ ?_
  · clear H
    rintro _ Sx H
    refine c_seq ?_
    refine c_region ?_
    refine s_p rfl (y_move rfl) ?_
    refine s_call rfl rfl H fun rv Sx_1 H2 => ?_
    clear H
    obtain ⟨t, rfl, H⟩ := H2
    refine s_p rfl (y_assign rfl) ?_
    refine s_nil (q_then ?_)
    refine c_join2 H (fun (J : Mem → Prop) (z : Unit) S => J S) (fun z => ⟨87, [(0, eL p), (3, eL t)]⟩) (fun z => []) ?_ ?_
    · clear H
      rintro _ Sx_2 H
      refine c_join2 H (fun (J : Mem → Prop) (z : Unit) S => J S) (fun z => ⟨87, []⟩) (fun z => []) ?_ ?_
      · clear H
        rintro _ Sx_3 H
        refine c_seq ?_
        refine c_region ?_
        refine s_p rfl (y_assign rfl) ?_
        refine s_nil (q_then ?_)
        refine c_ret ?_
        exact q_ret Tryd.results4 (rv_tmp rfl rv_nil) ⟨_, rfl, H⟩
      · clear H
        intro Jx hJx H
        refine c_seq ?_
        refine c_region ?_
        refine s_p rfl (y_assign rfl) ?_
        refine s_nil (q_then ?_)
        refine c_block ?_
        refine c_loop (fun z => ⟨87, [(0, eL p), (3, eL t), (4, .int .i64 z)]⟩) (fun z => []) 0 (idx := []) H rfl ⟨rfl, rfl, rfl, True.intro⟩ rfl ?_
        clear H
        rintro Xx hXx i Sx_4 H
        refine c_join2 H (fun (J : Mem → Prop) (z : Unit) S => J S) (fun z => ⟨87, [(0, eL p), (3, eL t), (4, .int .i64 i)]⟩) (fun z => []) ?_ ?_
        · clear H
          rintro _ Sx_5 H
          refine c_join2 H (fun (J : Mem → Prop) (z : Unit) S => J S) (fun z => ⟨87, [(0, eL p), (3, eL t), (4, .int .i64 i)]⟩) (fun z => []) ?_ ?_
          · clear H
            rintro _ Sx_6 H
            refine c_region ?_
            refine s_p rfl (y_move rfl) ?_
            refine s_p rfl (y_add rfl rfl) ?_
            refine s_p rfl (y_assign rfl) ?_
            refine s_nil ?_
            exact hXx (IntKind.i64.wrap (i + 1)) _ _ _ _ [] H rfl ⟨rfl, rfl, rfl, True.intro⟩ rfl
          · clear H
            intro Jx_1 hJx_1 H
            refine c_block ?_
            refine c_seq ?_
            refine c_drawn (by kernel_rfl) ?_
            refine a_takeP 0 rfl (by decide +kernel) (np_then (np_blk (np_then (np_then (np_blk (np_then np_body)))))) rfl (y_move rfl) ?_
            refine a_takeP 1 rfl (by decide +kernel) (np_then (np_blk (np_then (np_then (np_blk (np_then np_body)))))) rfl (y_move rfl) ?_
            refine a_takeP 2 rfl (by decide +kernel) (np_then (np_blk (np_then (np_then (np_blk (np_then np_body)))))) rfl (y_mul rfl rfl) ?_
            obtain ⟨b, o, n, n_1, rfl, H⟩ := H
            obtain ⟨c, c_1, H⟩ := H
            refine a_takeP 3 rfl (by decide +kernel) (np_then (np_blk (np_then (np_then (np_blk (np_then np_body)))))) rfl (y_ixL rfl rfl c c_1 rfl) ?_
            obtain ⟨t_1, ht_1, H⟩ := H
            refine a_take 4 rfl (by decide +kernel) (np_then (np_blk (np_then (np_then (np_blk (np_then np_body)))))) rfl (y_ld rfl) (hc_S ht_1) ?_
            refine a_takeP 5 rfl (by decide +kernel) (np_then (np_blk (np_then (np_then (np_blk (np_then np_body)))))) rfl (y_conv ⟨_, Tryd.underlying5⟩ rfl) ?_
            refine a_takeP 6 rfl (by decide +kernel) (np_then (np_blk (np_then (np_then (np_blk (np_then np_body)))))) rfl (y_move rfl) ?_
            refine a_takeP 7 rfl (by decide +kernel) (np_then (np_blk (np_then (np_then (np_blk (np_then np_body)))))) rfl (y_move rfl) ?_
            refine a_takeP 8 rfl (by decide +kernel) (np_then (np_blk (np_then (np_then (np_blk (np_then np_body)))))) rfl (y_mul rfl rfl) ?_
            refine a_takeP 9 rfl (by decide +kernel) (np_then (np_blk (np_then (np_then (np_blk (np_then np_body)))))) rfl (y_add rfl rfl) ?_
            obtain ⟨c_2, c_3, H⟩ := H
            refine a_takeP 10 rfl (by decide +kernel) (np_then (np_blk (np_then (np_then (np_blk (np_then np_body)))))) rfl (y_ixL rfl rfl c_2 c_3 rfl) ?_
            obtain ⟨t_2, ht_2, H⟩ := H
            refine a_take 11 rfl (by decide +kernel) (np_then (np_blk (np_then (np_then (np_blk (np_then np_body)))))) rfl (y_ld rfl) (hc_S ht_2) ?_
            refine a_takeP 12 rfl (by decide +kernel) (np_then (np_blk (np_then (np_then (np_blk (np_then np_body)))))) rfl (y_conv ⟨_, Tryd.underlying5⟩ rfl) ?_
            refine a_takeP 13 rfl (by decide +kernel) (np_then (np_blk (np_then (np_then (np_blk (np_then np_body)))))) rfl (y_shl rfl rfl (by decide)) ?_
            refine a_takeP 14 rfl (by decide +kernel) (np_then (np_blk (np_then (np_then (np_blk (np_then np_body)))))) rfl (y_or rfl rfl) ?_
            refine a_takeP 15 rfl (by decide +kernel) (np_then (np_blk (np_then (np_then (np_blk (np_then np_body)))))) rfl (y_move rfl) ?_
            refine a_takeP 16 rfl (by decide +kernel) (np_then (np_blk (np_then (np_then (np_blk (np_then np_body)))))) rfl (y_move rfl) ?_
            refine a_takeP 17 rfl (by decide +kernel) (np_then (np_blk (np_then (np_then (np_blk (np_then np_body)))))) rfl (y_mul rfl rfl) ?_
            refine a_takeP 18 rfl (by decide +kernel) (np_then (np_blk (np_then (np_then (np_blk (np_then np_body)))))) rfl (y_add rfl rfl) ?_
            obtain ⟨c_4, c_5, H⟩ := H
            refine a_takeP 19 rfl (by decide +kernel) (np_then (np_blk (np_then (np_then (np_blk (np_then np_body)))))) rfl (y_ixL rfl rfl c_4 c_5 rfl) ?_
            obtain ⟨t_3, ht_3, H⟩ := H
            refine a_take 20 rfl (by decide +kernel) (np_then (np_blk (np_then (np_then (np_blk (np_then np_body)))))) rfl (y_ld rfl) (hc_S ht_3) ?_
            refine a_takeP 21 rfl (by decide +kernel) (np_then (np_blk (np_then (np_then (np_blk (np_then np_body)))))) rfl (y_conv ⟨_, Tryd.underlying5⟩ rfl) ?_
            refine a_takeP 22 rfl (by decide +kernel) (np_then (np_blk (np_then (np_then (np_blk (np_then np_body)))))) rfl (y_shl rfl rfl (by decide)) ?_
            refine a_takeP 23 rfl (by decide +kernel) (np_then (np_blk (np_then (np_then (np_blk (np_then np_body)))))) rfl (y_or rfl rfl) ?_
            refine a_takeP 24 rfl (by decide +kernel) (np_then (np_blk (np_then (np_then (np_blk (np_then np_body)))))) rfl (y_move rfl) ?_
            refine a_takeP 25 rfl (by decide +kernel) (np_then (np_blk (np_then (np_then (np_blk (np_then np_body)))))) rfl (y_move rfl) ?_
            refine a_takeP 26 rfl (by decide +kernel) (np_then (np_blk (np_then (np_then (np_blk (np_then np_body)))))) rfl (y_mul rfl rfl) ?_
            refine a_takeP 27 rfl (by decide +kernel) (np_then (np_blk (np_then (np_then (np_blk (np_then np_body)))))) rfl (y_add rfl rfl) ?_
            obtain ⟨c_6, c_7, H⟩ := H
            refine a_takeP 28 rfl (by decide +kernel) (np_then (np_blk (np_then (np_then (np_blk (np_then np_body)))))) rfl (y_ixL rfl rfl c_6 c_7 rfl) ?_
            obtain ⟨t_4, ht_4, H⟩ := H
            refine a_take 29 rfl (by decide +kernel) (np_then (np_blk (np_then (np_then (np_blk (np_then np_body)))))) rfl (y_ld rfl) (hc_S ht_4) ?_
            refine a_takeP 30 rfl (by decide +kernel) (np_then (np_blk (np_then (np_then (np_blk (np_then np_body)))))) rfl (y_conv ⟨_, Tryd.underlying5⟩ rfl) ?_
            refine a_takeP 31 rfl (by decide +kernel) (np_then (np_blk (np_then (np_then (np_blk (np_then np_body)))))) rfl (y_shl rfl rfl (by decide)) ?_
            refine a_takeP 32 rfl (by decide +kernel) (np_then (np_blk (np_then (np_then (np_blk (np_then np_body)))))) rfl (y_or rfl rfl) ?_
            refine a_takeP 33 rfl (by decide +kernel) (np_then (np_blk (np_then (np_then (np_blk (np_then np_body)))))) rfl (y_assign rfl) ?_
            refine a_done (by decide +kernel) ?_
            refine q_then ?_
            refine c_join2 H (fun (J : Bool → List Value → Mem → Prop) (z : Bool × Nat × List Value) S => J z.1 z.2.2 S) (fun z => ⟨87, [(0, .slice (some ⟨b, o, none⟩) n n_1), (3, eL t), (4, .int .i64 i), (6, .pointer (some ⟨z.2.1, 0, none⟩)), (7, .bool z.1)]⟩) (fun z => [⟨z.2.1, 24, z.2.2⟩]) ?_ ?_
            · clear H
              rintro ⟨ok, b_1, o_1⟩ Sx_7 H
              obtain ⟨ho_1, H⟩ := H
              refine c_seq ?_
              refine c_region ?_
              refine s_p rfl (y_assign rfl) ?_
              refine s_nil (q_then ?_)
              refine c_seq ?_
              refine c_seq ?_
              refine c_region ?_
              replace H := ite_e H
              rcases H with ⟨c_8, H⟩ | ⟨c_8, H⟩
              · refine s_p rfl (y_moveB rfl c_8) ?_
                refine s_nil (q_then ?_)
                refine c_t rfl rfl ?_
                refine c_region ?_
                refine s_p rfl (y_fa rfl rfl) ?_
                obtain ⟨t_5, ht_5, H⟩ := H
                refine s_v rfl (y_ld rfl) (hc_V 0 rfl ht_5) ?_
                refine s_p rfl (y_fa rfl rfl) ?_
                obtain ⟨t_6, ht_6, H⟩ := H
                refine s_v rfl (y_ld rfl) (hc_V 0 rfl ht_6) ?_
                refine s_p rfl (y_fa rfl rfl) ?_
                obtain ⟨t_7, ht_7, H⟩ := H
                refine s_v rfl (y_ld rfl) (hc_V 0 rfl ht_7) ?_
                refine s_p rfl (y_fa rfl rfl) ?_
                obtain ⟨t_8, ht_8, H⟩ := H
                refine s_v rfl (y_ld rfl) (hc_V 0 rfl ht_8) ?_
                refine s_p rfl (y_fa rfl rfl) ?_
                obtain ⟨t_9, ht_9, H⟩ := H
                refine s_v rfl (y_ld rfl) (hc_V 0 rfl ht_9) ?_
                refine s_call rfl rfl H fun rv Sx_8 H2 => ?_
                clear H
                obtain ⟨t_10, rfl, H⟩ := H2
                refine s_p rfl (y_assign rfl) ?_
                refine s_nil (q_then ?_)
                refine c_seq ?_
                refine c_region ?_
                refine s_p rfl (y_move rfl) ?_
                refine s_p rfl (y_move rfl) ?_
                obtain ⟨b_2, o_2, n_2, n_3, rfl, H⟩ := H
                obtain ⟨c_9, c_10, H⟩ := H
                refine s_p rfl (y_ixL rfl rfl c_9 c_10 rfl) ?_
                obtain ⟨t_11, ht_11, H⟩ := H
                refine s_v rfl (y_ld rfl) (hc_S ht_11) ?_
                refine s_p rfl (y_move rfl) ?_
                replace H := ite_e H
                rcases H with ⟨c_11, H⟩ | ⟨c_11, H⟩
                · refine s_p rfl (yT (y_neS rfl rfl) c_11) ?_
                  refine s_nil (q_then ?_)
                  refine c_t rfl rfl ?_
                  refine c_seq ?_
                  refine c_region ?_
                  refine s_p rfl (y_assign rfl) ?_
                  refine s_nil (q_then ?_)
                  refine c_ret (q_blk_ret (q_then_ret (q_then_ret (q_blk_ret (q_then_ret ?_)))))
                  exact q_ret Tryd.results4 (rv_tmp rfl rv_nil) ⟨_, rfl, H⟩
                · refine s_p rfl (yF (y_neS rfl rfl) c_11) ?_
                  refine s_nil (q_then ?_)
                  refine c_f rfl rfl ?_
                  refine c_skip (q_blk ?_)
                  exact hJx_1 () _ _ _ _ [] H rfl ⟨rfl, rfl, rfl, True.intro⟩ rfl
              · refine s_p rfl (y_moveB rfl (bf_of c_8)) ?_
                refine s_nil (q_then ?_)
                refine c_f rfl rfl ?_
                refine c_skip (q_then ?_)
                refine c_seq ?_
                refine c_region ?_
                refine s_p rfl (y_move rfl) ?_
                refine s_p rfl (y_move rfl) ?_
                obtain ⟨b_3, o_3, n_4, n_5, rfl, H⟩ := H
                obtain ⟨c_12, c_13, H⟩ := H
                refine s_p rfl (y_ixL rfl rfl c_12 c_13 rfl) ?_
                obtain ⟨t_12, ht_12, H⟩ := H
                refine s_v rfl (y_ld rfl) (hc_S ht_12) ?_
                refine s_p rfl (y_move rfl) ?_
                replace H := ite_e H
                rcases H with ⟨c_14, H⟩ | ⟨c_14, H⟩
                · refine s_p rfl (yT (y_neS rfl rfl) c_14) ?_
                  refine s_nil (q_then ?_)
                  refine c_t rfl rfl ?_
                  refine c_seq ?_
                  refine c_region ?_
                  refine s_p rfl (y_assign rfl) ?_
                  refine s_nil (q_then ?_)
                  refine c_ret (q_blk_ret (q_then_ret (q_then_ret (q_blk_ret (q_then_ret ?_)))))
                  exact q_ret Tryd.results4 (rv_tmp rfl rv_nil) ⟨_, rfl, H⟩
                · refine s_p rfl (yF (y_neS rfl rfl) c_14) ?_
                  refine s_nil (q_then ?_)
                  refine c_f rfl rfl ?_
                  refine c_skip (q_blk ?_)
                  exact hJx_1 () _ _ _ _ [] H rfl ⟨rfl, rfl, rfl, True.intro⟩ rfl
            · clear H
              intro Jx_2 hJx_2 H
              refine c_region ?_
              refine s_p rfl (y_move rfl) ?_
              refine s_call rfl rfl H fun rv Sx_9 H2 => ?_
              clear H
              obtain ⟨t_13, t_14, rfl, ht_13, H⟩ := H2
              refine s_p rfl (y_move rfl) ?_
              refine s_p rfl (y_extract rfl rfl) ?_
              replace H := ite_e H
              rcases H with ⟨c_15, H⟩ | ⟨c_15, H⟩
              · refine s_p rfl (yB (y_extract rfl rfl) c_15) ?_
                refine s_alloc rfl fun b_4 => ?_
                obtain ⟨c_16, H⟩ := H
                refine s_stV_all 0 rfl rfl rfl rfl rfl ht_13 rfl c_16 ?_
                refine s_p rfl (y_assign rfl) ?_
                refine s_nil ?_
                exact hJx_2 (true, b_4, t_13) _ _ _ _ [0] H rfl ⟨rfl, rfl, rfl, rfl, rfl, True.intro⟩ rfl
              · refine s_p rfl (yB (y_extract rfl rfl) (bf_of c_15)) ?_
                refine s_alloc rfl fun b_5 => ?_
                obtain ⟨c_17, H⟩ := H
                refine s_stV_all 0 rfl rfl rfl rfl rfl ht_13 rfl c_17 ?_
                refine s_p rfl (y_assign rfl) ?_
                refine s_nil ?_
                exact hJx_2 (false, b_5, t_13) _ _ _ _ [0] H rfl ⟨rfl, rfl, rfl, rfl, rfl, True.intro⟩ rfl
        · clear H
          intro Jx_3 hJx_3 H
          refine c_seq ?_
          refine c_region ?_
          refine s_p rfl (y_move rfl) ?_
          refine s_p rfl (y_move rfl) ?_
          refine s_p rfl (y_len rfl) ?_
          replace H := ite_e H
          rcases H with ⟨c_18, H⟩ | ⟨c_18, H⟩
          · refine s_p rfl (yT (y_lss rfl rfl) c_18) ?_
            refine s_nil (q_then ?_)
            refine c_t rfl rfl ?_
            refine c_skip ?_
            exact hJx_3 () _ _ _ _ [] H rfl ⟨rfl, rfl, rfl, True.intro⟩ rfl
          · refine s_p rfl (yF (y_lss rfl rfl) c_18) ?_
            refine s_nil (q_then ?_)
            refine c_f rfl rfl ?_
            refine c_exit (q_then_exit (q_then_exit (q_blk_out ?_)))
            exact hJx () _ _ _ _ [] H rfl True.intro rfl
    · clear H
      intro Jx_4 hJx_4 H
      refine c_seq ?_
      refine c_region ?_
      refine s_p rfl (y_move rfl) ?_
      refine s_p rfl (y_len rfl) ?_
      refine s_p rfl (y_move rfl) ?_
      refine s_p rfl (y_len rfl) ?_
      refine s_p rfl (y_quo rfl rfl (by decide)) ?_
      replace H := ite_e H
      rcases H with ⟨c_19, H⟩ | ⟨c_19, H⟩
      · refine s_p rfl (yT (y_neq rfl rfl) c_19) ?_
        refine s_nil (q_then ?_)
        refine c_t rfl rfl ?_
        refine c_seq ?_
        refine c_region ?_
        refine s_p rfl (y_assign rfl) ?_
        refine s_nil (q_then ?_)
        refine c_ret (q_then_ret ?_)
        exact q_ret Tryd.results4 (rv_tmp rfl rv_nil) ⟨_, rfl, H⟩
      · refine s_p rfl (yF (y_neq rfl rfl) c_19) ?_
        refine s_nil (q_then ?_)
        refine c_f rfl rfl ?_
        refine c_skip ?_
        exact hJx_4 () _ _ _ _ [] H rfl ⟨rfl, rfl, True.intro⟩ rfl
  · clear H
    intro Jx_5 hJx_5 H
    refine c_seq ?_
    refine c_region ?_
    refine s_call rfl rfl H fun rv Sx_10 H2 => ?_
    clear H
    obtain ⟨t_15, rfl, H⟩ := H2
    replace H := ib_e H
    rcases H with ⟨rfl, H⟩ | ⟨rfl, H⟩
    · skip
      refine s_p rfl (yB (y_not rfl) rfl) ?_
      refine s_p rfl (y_move rfl) ?_
      refine s_p rfl (y_move rfl) ?_
      refine s_p rfl (y_len rfl) ?_
      replace H := ite_e H
      rcases H with ⟨c_20, H⟩ | ⟨c_20, H⟩
      · refine s_p rfl (yT (y_gtr rfl rfl) c_20) ?_
        refine s_p rfl (y_pick rfl rfl) ?_
        refine s_nil (q_then ?_)
        refine c_t rfl rfl ?_
        refine c_seq ?_
        refine c_region ?_
        refine s_call rfl rfl H fun rv Sx_11 H2 => ?_
        clear H
        obtain ⟨t_16, rfl, H⟩ := H2
        refine s_p rfl (y_assign rfl) ?_
        refine s_nil (q_then ?_)
        refine c_ret (q_then_ret ?_)
        exact q_ret Tryd.results4 (rv_tmp rfl rv_nil) ⟨_, rfl, H⟩
      · refine s_p rfl (yF (y_gtr rfl rfl) c_20) ?_
        refine s_p rfl (y_pick rfl rfl) ?_
        refine s_nil (q_then ?_)
        refine c_f rfl rfl ?_
        refine c_skip ?_
        exact hJx_5 () _ _ _ _ [] H rfl ⟨rfl, True.intro⟩ rfl
    · skip
      refine s_p rfl (yB (y_not rfl) rfl) ?_
      refine s_p rfl (y_move rfl) ?_
      refine s_skip rfl ?_
      refine s_skip rfl ?_
      refine s_skip rfl ?_
      refine s_p rfl (y_pick rfl rfl) ?_
      refine s_nil (q_then ?_)
      refine c_t rfl rfl ?_
      refine c_seq ?_
      refine c_region ?_
      refine s_call rfl rfl H fun rv Sx_12 H2 => ?_
      clear H
      obtain ⟨t_17, rfl, H⟩ := H2
      refine s_p rfl (y_assign rfl) ?_
      refine s_nil (q_then ?_)
      refine c_ret (q_then_ret ?_)
      exact q_ret Tryd.results4 (rv_tmp rfl rv_nil) ⟨_, rfl, H⟩
def b_hermitcrablaw03_TextFaults (S : Mem) (l : Sl) (atx : Int) (Q : Bool → Mem → Prop) : Prop :=
  jn (fun (Sx : Mem) =>
      (l.n : Int) ≠ 0 ∧
      jn (fun (s : ByteArray) (Sx_1 : Mem) =>
          text_Lay Sx_1 s fun t t_1 t_2 Sx_2 =>
          if t_2 = 4 then
            if t_1 = Int.tmod (IntKind.i64.wrap atx) (l.n : Int) then
              Q (decide ((t.n : Int) = 0)) Sx_2
            else
            Q false Sx_2
          else
          Q false Sx_2) fun Jx =>
      lp (fun Xx (z : ByteArray × Int) (Sx_3 : Mem) =>
          match z with
          | (s_1, i) =>
            jn (fun (Sx_4 : Mem) =>
                jn (fun (s_2 : ByteArray) (Sx_5 : Mem) =>
                    Xx (s_2, IntKind.i64.wrap (i + 1)) Sx_5) fun Jx_1 =>
                jn (fun (s_3 : ByteArray) (Sx_6 : Mem) =>
                    sl l fun b o n n_1 =>
                    0 ≤ i ∧ i < ((n : Nat) : Int) ∧
                    gA (Sx_6.part b (o + i.toNat * 5) 5) fun t_3 =>
                    hermitcrablaw03_near Sx_6 t_3 fun t_4 Sx_7 =>
                    t_4.all (·.oneCell') = true ∧
                    if i = Int.tmod (IntKind.i64.wrap atx) (n : Int) then
                      ByteArray.size s_3 + ByteArray.size (⟨#[119, 104, 97, 116]⟩) ≤ 9223372036854775807 ∧
                      Jx_1 (s_3 ++ (⟨#[119, 104, 97, 116]⟩)) Sx_7
                    else
                    gI (nthL t_4 0) .u8 fun t_5 =>
                    gI (nthL t_4 1) .u8 fun t_6 =>
                    gI (nthL t_4 2) .u8 fun t_7 =>
                    gI (nthL t_4 3) .u8 fun t_8 =>
                    gI (nthL t_4 4) .i16 fun t_9 =>
                    hermitcrabref01_Text Sx_7 t_5 t_6 t_7 t_8 t_9 fun t_10 Sx_8 =>
                    ByteArray.size s_3 + ByteArray.size t_10 ≤ 9223372036854775807 ∧
                    Jx_1 (s_3 ++ t_10) Sx_8) fun Jx_2 =>
                if 0 < i then
                  ByteArray.size s_1 + ByteArray.size (⟨#[59, 32]⟩) ≤ 9223372036854775807 ∧
                  Jx_2 (s_1 ++ (⟨#[59, 32]⟩)) Sx_4
                else
                Jx_2 s_1 Sx_4) fun Jx_3 =>
            if i < (l.n : Int) then
              Jx_3 Sx_3
            else
            Jx s_1 Sx_3) (⟨#[]⟩, 0) Sx) fun Jx_4 =>
  hermitcrablaw03_awake S fun t_11 Sx_9 =>
  if t_11 = true then
    if (l.n : Int) = 0 then
      hermitcrablaw03_awake Sx_9 fun t_12 Sx_10 =>
      Q t_12 Sx_10
    else
    if 20 < (l.n : Int) then
      hermitcrablaw03_awake Sx_9 fun t_13 Sx_11 =>
      Q t_13 Sx_11
    else
    Jx_4 Sx_9
  else
  hermitcrablaw03_awake Sx_9 fun t_14 Sx_12 =>
  Q t_14 Sx_12
theorem t_hermitcrablaw03_TextFaults {S : Mem} {l : Sl} {atx : Int} {Q : Bool → Mem → Prop} (H : b_hermitcrablaw03_TextFaults S l atx Q) : hermitcrablaw03_TextFaults S l atx Q := by
  unfold b_hermitcrablaw03_TextFaults at H
  refine Tr.intro Tryd.func5 rfl Tryd.ntmps5 rfl fun w0 => ?_
  refine c_seq ?_
  refine c_region ?_
  refine s_p rfl (y_assign rfl) ?_
  refine s_nil (q_then ?_)
  refine c_join2 H (fun (J : Mem → Prop) (z : Unit) S => J S) (fun z => ⟨81, [(0, eL l), (1, .int .u8 atx)]⟩) (fun z => []) ?_ ?_
  · clear H
    rintro _ Sx H
    refine c_seq ?_
    refine c_region ?_
    refine s_p rfl (y_move rfl) ?_
    refine s_p rfl (y_conv ⟨_, Tryd.underlying5⟩ rfl) ?_
    refine s_p rfl (y_move rfl) ?_
    refine s_p rfl (y_len rfl) ?_
    obtain ⟨c, H⟩ := H
    refine s_p rfl (y_rem rfl rfl c) ?_
    refine s_p rfl (y_assign rfl) ?_
    refine s_nil (q_then ?_)
    refine c_seq ?_
    refine c_region ?_
    refine s_p rfl (y_assign rfl) ?_
    refine s_nil (q_then ?_)
    refine c_join2 H (fun (J : ByteArray → Mem → Prop) (z : ByteArray) S => J z S) (fun z => ⟨81, [(5, .int .i64 (Int.tmod (IntKind.i64.wrap atx) (l.n : Int))), (6, .string z)]⟩) (fun z => []) ?_ ?_
    · clear H
      rintro s Sx_1 H
      refine c_seq ?_
      refine c_region ?_
      refine s_p rfl (y_move rfl) ?_
      refine s_call rfl rfl H fun rv Sx_2 H2 => ?_
      clear H
      obtain ⟨t, t_1, t_2, rfl, H⟩ := H2
      refine s_p rfl (y_move rfl) ?_
      refine s_p rfl (y_extract rfl rfl) ?_
      refine s_p rfl (y_extract rfl rfl) ?_
      refine s_p rfl (y_extract rfl rfl) ?_
      refine s_p rfl (y_assign rfl) ?_
      refine s_p rfl (y_assign rfl) ?_
      refine s_p rfl (y_assign rfl) ?_
      refine s_nil (q_then ?_)
      refine c_seq ?_
      refine c_region ?_
      refine s_p rfl (y_move rfl) ?_
      replace H := ite_e H
      rcases H with ⟨c_1, H⟩ | ⟨c_1, H⟩
      · refine s_p rfl (yT (y_eql rfl rfl) c_1) ?_
        refine s_p rfl (y_move rfl) ?_
        refine s_p rfl (y_move rfl) ?_
        refine s_p rfl (y_move rfl) ?_
        replace H := ite_e H
        rcases H with ⟨c_2, H⟩ | ⟨c_2, H⟩
        · refine s_p rfl (yT (y_eql rfl rfl) c_2) ?_
          refine s_p rfl (y_pick rfl rfl) ?_
          refine s_p rfl (y_move rfl) ?_
          refine s_p rfl (y_move rfl) ?_
          refine s_p rfl (y_len rfl) ?_
          refine s_p rfl (y_eql rfl rfl) ?_
          refine s_p rfl (y_pick rfl rfl) ?_
          refine s_p rfl (y_assign rfl) ?_
          refine s_nil (q_then ?_)
          refine c_ret ?_
          exact q_ret Tryd.results5 (rv_tmp rfl rv_nil) ⟨_, rfl, H⟩
        · refine s_p rfl (yF (y_eql rfl rfl) c_2) ?_
          refine s_p rfl (y_pick rfl rfl) ?_
          refine s_p rfl (y_move rfl) ?_
          refine s_skip rfl ?_
          refine s_skip rfl ?_
          refine s_skip rfl ?_
          refine s_p rfl (y_pick rfl rfl) ?_
          refine s_p rfl (y_assign rfl) ?_
          refine s_nil (q_then ?_)
          refine c_ret ?_
          exact q_ret Tryd.results5 (rv_tmp rfl rv_nil) ⟨_, rfl, H⟩
      · refine s_p rfl (yF (y_eql rfl rfl) c_1) ?_
        refine s_p rfl (y_move rfl) ?_
        refine s_skip rfl ?_
        refine s_skip rfl ?_
        refine s_skip rfl ?_
        refine s_p rfl (y_pick rfl rfl) ?_
        refine s_p rfl (y_move rfl) ?_
        refine s_skip rfl ?_
        refine s_skip rfl ?_
        refine s_skip rfl ?_
        refine s_p rfl (y_pick rfl rfl) ?_
        refine s_p rfl (y_assign rfl) ?_
        refine s_nil (q_then ?_)
        refine c_ret ?_
        exact q_ret Tryd.results5 (rv_tmp rfl rv_nil) ⟨_, rfl, H⟩
    · clear H
      intro Jx hJx H
      refine c_seq ?_
      refine c_region ?_
      refine s_p rfl (y_assign rfl) ?_
      refine s_nil (q_then ?_)
      refine c_block ?_
      refine c_loop (fun z => ⟨81, [(0, eL l), (5, .int .i64 (Int.tmod (IntKind.i64.wrap atx) (l.n : Int))), (6, .string z.1), (7, .int .i64 z.2)]⟩) (fun z => []) (⟨#[]⟩, 0) (idx := []) H rfl ⟨rfl, rfl, rfl, rfl, True.intro⟩ rfl ?_
      clear H
      rintro Xx hXx ⟨s_1, i⟩ Sx_3 H
      refine c_join2 H (fun (J : Mem → Prop) (z : Unit) S => J S) (fun z => ⟨81, [(0, eL l), (5, .int .i64 (Int.tmod (IntKind.i64.wrap atx) (l.n : Int))), (6, .string s_1), (7, .int .i64 i)]⟩) (fun z => []) ?_ ?_
      · clear H
        rintro _ Sx_4 H
        refine c_join2 H (fun (J : ByteArray → Mem → Prop) (z : ByteArray) S => J z S) (fun z => ⟨81, [(0, eL l), (5, .int .i64 (Int.tmod (IntKind.i64.wrap atx) (l.n : Int))), (6, .string z), (7, .int .i64 i)]⟩) (fun z => []) ?_ ?_
        · clear H
          rintro s_2 Sx_5 H
          refine c_region ?_
          refine s_p rfl (y_move rfl) ?_
          refine s_p rfl (y_add rfl rfl) ?_
          refine s_p rfl (y_assign rfl) ?_
          refine s_nil ?_
          exact hXx (s_2, IntKind.i64.wrap (i + 1)) _ _ _ _ [] H rfl ⟨rfl, rfl, rfl, rfl, True.intro⟩ rfl
        · clear H
          intro Jx_1 hJx_1 H
          refine c_block ?_
          refine c_join2 H (fun (J : ByteArray → Mem → Prop) (z : ByteArray) S => J z S) (fun z => ⟨81, [(0, eL l), (5, .int .i64 (Int.tmod (IntKind.i64.wrap atx) (l.n : Int))), (6, .string z), (7, .int .i64 i)]⟩) (fun z => []) ?_ ?_
          · clear H
            rintro s_3 Sx_6 H
            refine c_seq ?_
            refine c_region ?_
            refine s_p rfl (y_move rfl) ?_
            refine s_p rfl (y_move rfl) ?_
            obtain ⟨b, o, n, n_1, rfl, H⟩ := H
            obtain ⟨c_3, c_4, H⟩ := H
            refine s_p rfl (y_ixL rfl rfl c_3 c_4 rfl) ?_
            obtain ⟨t_3, ht_3, H⟩ := H
            refine s_v rfl (y_ldA rfl (part_len ht_3)) (hc_SP ht_3) ?_
            refine s_call rfl rfl H fun rv Sx_7 H2 => ?_
            clear H
            obtain ⟨t_4, rfl, ht_4, H⟩ := H2
            refine s_alloc rfl fun b_1 => ?_
            obtain ⟨c_5, H⟩ := H
            refine s_stV_all 0 rfl rfl rfl rfl rfl ht_4 rfl c_5 ?_
            refine s_nil (q_then ?_)
            refine c_seq ?_
            refine c_region ?_
            refine s_p rfl (y_move rfl) ?_
            refine s_p rfl (y_move rfl) ?_
            replace H := ite_e H
            rcases H with ⟨c_6, H⟩ | ⟨c_6, H⟩
            · refine s_p rfl (yT (y_eql rfl rfl) c_6) ?_
              refine s_nil (q_then ?_)
              refine c_t rfl rfl ?_
              refine c_region ?_
              refine s_p rfl (y_move rfl) ?_
              obtain ⟨c_7, H⟩ := H
              refine s_p rfl (y_addS rfl rfl c_7) ?_
              refine s_p rfl (y_assign rfl) ?_
              refine s_nil (q_blk ?_)
              exact hJx_1 (s_3 ++ (⟨#[119, 104, 97, 116]⟩)) _ _ _ _ [] H rfl ⟨rfl, rfl, rfl, rfl, True.intro⟩ rfl
            · refine s_p rfl (yF (y_eql rfl rfl) c_6) ?_
              refine s_nil (q_then ?_)
              refine c_f rfl rfl ?_
              refine c_region ?_
              refine s_p rfl (y_move rfl) ?_
              refine s_p rfl (y_fa rfl rfl) ?_
              obtain ⟨t_5, ht_5, H⟩ := H
              refine s_v rfl (y_ld rfl) (hc_V 0 rfl ht_5) ?_
              refine s_p rfl (y_fa rfl rfl) ?_
              obtain ⟨t_6, ht_6, H⟩ := H
              refine s_v rfl (y_ld rfl) (hc_V 0 rfl ht_6) ?_
              refine s_p rfl (y_fa rfl rfl) ?_
              obtain ⟨t_7, ht_7, H⟩ := H
              refine s_v rfl (y_ld rfl) (hc_V 0 rfl ht_7) ?_
              refine s_p rfl (y_fa rfl rfl) ?_
              obtain ⟨t_8, ht_8, H⟩ := H
              refine s_v rfl (y_ld rfl) (hc_V 0 rfl ht_8) ?_
              refine s_p rfl (y_fa rfl rfl) ?_
              obtain ⟨t_9, ht_9, H⟩ := H
              refine s_v rfl (y_ld rfl) (hc_V 0 rfl ht_9) ?_
              refine s_call rfl rfl H fun rv Sx_8 H2 => ?_
              clear H
              obtain ⟨t_10, rfl, H⟩ := H2
              obtain ⟨c_8, H⟩ := H
              refine s_p rfl (y_addS rfl rfl c_8) ?_
              refine s_p rfl (y_assign rfl) ?_
              refine s_nil (q_blk ?_)
              exact hJx_1 (s_3 ++ t_10) _ _ _ _ [] H rfl ⟨rfl, rfl, rfl, rfl, True.intro⟩ rfl
          · clear H
            intro Jx_2 hJx_2 H
            refine c_seq ?_
            refine c_region ?_
            refine s_p rfl (y_move rfl) ?_
            replace H := ite_e H
            rcases H with ⟨c_9, H⟩ | ⟨c_9, H⟩
            · refine s_p rfl (yT (y_gtr rfl rfl) c_9) ?_
              refine s_nil (q_then ?_)
              refine c_t rfl rfl ?_
              refine c_region ?_
              refine s_p rfl (y_move rfl) ?_
              obtain ⟨c_10, H⟩ := H
              refine s_p rfl (y_addS rfl rfl c_10) ?_
              refine s_p rfl (y_assign rfl) ?_
              refine s_nil ?_
              exact hJx_2 (s_1 ++ (⟨#[59, 32]⟩)) _ _ _ _ [] H rfl ⟨rfl, rfl, rfl, rfl, True.intro⟩ rfl
            · refine s_p rfl (yF (y_gtr rfl rfl) c_9) ?_
              refine s_nil (q_then ?_)
              refine c_f rfl rfl ?_
              refine c_skip ?_
              exact hJx_2 s_1 _ _ _ _ [] H rfl ⟨rfl, rfl, rfl, rfl, True.intro⟩ rfl
      · clear H
        intro Jx_3 hJx_3 H
        refine c_seq ?_
        refine c_region ?_
        refine s_p rfl (y_move rfl) ?_
        refine s_p rfl (y_move rfl) ?_
        refine s_p rfl (y_len rfl) ?_
        replace H := ite_e H
        rcases H with ⟨c_11, H⟩ | ⟨c_11, H⟩
        · refine s_p rfl (yT (y_lss rfl rfl) c_11) ?_
          refine s_nil (q_then ?_)
          refine c_t rfl rfl ?_
          refine c_skip ?_
          exact hJx_3 () _ _ _ _ [] H rfl ⟨rfl, rfl, rfl, rfl, True.intro⟩ rfl
        · refine s_p rfl (yF (y_lss rfl rfl) c_11) ?_
          refine s_nil (q_then ?_)
          refine c_f rfl rfl ?_
          refine c_exit (q_then_exit (q_then_exit (q_blk_out ?_)))
          exact hJx s_1 _ _ _ _ [] H rfl ⟨rfl, rfl, True.intro⟩ rfl
  · clear H
    intro Jx_4 hJx_4 H
    refine c_seq ?_
    refine c_region ?_
    refine s_call rfl rfl H fun rv Sx_9 H2 => ?_
    clear H
    obtain ⟨t_11, rfl, H⟩ := H2
    replace H := ib_e H
    rcases H with ⟨rfl, H⟩ | ⟨rfl, H⟩
    · skip
      refine s_p rfl (yB (y_not rfl) rfl) ?_
      refine s_p rfl (y_move rfl) ?_
      refine s_p rfl (y_move rfl) ?_
      refine s_p rfl (y_len rfl) ?_
      replace H := ite_e H
      rcases H with ⟨c_12, H⟩ | ⟨c_12, H⟩
      · refine s_p rfl (yT (y_eql rfl rfl) c_12) ?_
        refine s_p rfl (y_pick rfl rfl) ?_
        refine s_p rfl (y_move rfl) ?_
        refine s_skip rfl ?_
        refine s_skip rfl ?_
        refine s_skip rfl ?_
        refine s_p rfl (y_pick rfl rfl) ?_
        refine s_nil (q_then ?_)
        refine c_t rfl rfl ?_
        refine c_seq ?_
        refine c_region ?_
        refine s_call rfl rfl H fun rv Sx_10 H2 => ?_
        clear H
        obtain ⟨t_12, rfl, H⟩ := H2
        refine s_p rfl (y_assign rfl) ?_
        refine s_nil (q_then ?_)
        refine c_ret (q_then_ret ?_)
        exact q_ret Tryd.results5 (rv_tmp rfl rv_nil) ⟨_, rfl, H⟩
      · refine s_p rfl (yF (y_eql rfl rfl) c_12) ?_
        refine s_p rfl (y_pick rfl rfl) ?_
        refine s_p rfl (y_move rfl) ?_
        refine s_p rfl (y_move rfl) ?_
        refine s_p rfl (y_len rfl) ?_
        replace H := ite_e H
        rcases H with ⟨c_13, H⟩ | ⟨c_13, H⟩
        · refine s_p rfl (yT (y_gtr rfl rfl) c_13) ?_
          refine s_p rfl (y_pick rfl rfl) ?_
          refine s_nil (q_then ?_)
          refine c_t rfl rfl ?_
          refine c_seq ?_
          refine c_region ?_
          refine s_call rfl rfl H fun rv Sx_11 H2 => ?_
          clear H
          obtain ⟨t_13, rfl, H⟩ := H2
          refine s_p rfl (y_assign rfl) ?_
          refine s_nil (q_then ?_)
          refine c_ret (q_then_ret ?_)
          exact q_ret Tryd.results5 (rv_tmp rfl rv_nil) ⟨_, rfl, H⟩
        · refine s_p rfl (yF (y_gtr rfl rfl) c_13) ?_
          refine s_p rfl (y_pick rfl rfl) ?_
          refine s_nil (q_then ?_)
          refine c_f rfl rfl ?_
          refine c_skip ?_
          exact hJx_4 () _ _ _ _ [] H rfl ⟨rfl, rfl, True.intro⟩ rfl
    · skip
      refine s_p rfl (yB (y_not rfl) rfl) ?_
      refine s_p rfl (y_move rfl) ?_
      refine s_skip rfl ?_
      refine s_skip rfl ?_
      refine s_skip rfl ?_
      refine s_p rfl (y_pick rfl rfl) ?_
      refine s_p rfl (y_move rfl) ?_
      refine s_skip rfl ?_
      refine s_skip rfl ?_
      refine s_skip rfl ?_
      refine s_p rfl (y_pick rfl rfl) ?_
      refine s_nil (q_then ?_)
      refine c_t rfl rfl ?_
      refine c_seq ?_
      refine c_region ?_
      refine s_call rfl rfl H fun rv Sx_12 H2 => ?_
      clear H
      obtain ⟨t_14, rfl, H⟩ := H2
      refine s_p rfl (y_assign rfl) ?_
      refine s_nil (q_then ?_)
      refine c_ret (q_then_ret ?_)
      exact q_ret Tryd.results5 (rv_tmp rfl rv_nil) ⟨_, rfl, H⟩
def b_hermitcrablaw03_TextLays (S : Mem) (l : Sl) (blanks : Sl) (Q : Bool → Mem → Prop) : Prop :=
  jn (fun (Sx : Mem) =>
      jn (fun (s : ByteArray) (want : Sl) (Sx_1 : Mem) =>
          text_Lay Sx_1 s fun t t_1 t_2 Sx_2 =>
          text_List Sx_2 t fun t_3 Sx_3 =>
          jn (fun (Sx_4 : Mem) =>
              jn (fun (Sx_5 : Mem) =>
                  Q true Sx_5) fun Jx =>
              lp (fun Xx (i : Int) (Sx_6 : Mem) =>
                  jn (fun (Sx_7 : Mem) =>
                      sl l fun b o n n_1 =>
                      0 ≤ i ∧ i < ((n : Nat) : Int) ∧
                      gA (Sx_7.part b (o + i.toNat * 5) 5) fun t_4 =>
                      hermitcrablaw03_near Sx_7 t_4 fun t_5 Sx_8 =>
                      t_5.all (·.oneCell') = true ∧
                      sl t_3 fun b_2 o_1 n_2 n_3 =>
                      0 ≤ i ∧ i < ((n_2 : Nat) : Int) ∧
                      gS (Sx_8.cell b_2 (o_1 + i.toNat * 1)) fun t_6 =>
                      gI (nthL t_5 0) .u8 fun t_7 =>
                      gI (nthL t_5 1) .u8 fun t_8 =>
                      gI (nthL t_5 2) .u8 fun t_9 =>
                      gI (nthL t_5 3) .u8 fun t_10 =>
                      gI (nthL t_5 4) .i16 fun t_11 =>
                      hermitcrabref01_Text Sx_8 t_7 t_8 t_9 t_10 t_11 fun t_12 Sx_9 =>
                      Sx_9.cell b_2 (o_1 + i.toNat * 1) = some (.string t_6) ∧
                      if t_6 ≠ t_12 then
                        Q false Sx_9
                      else
                      Xx (IntKind.i64.wrap (i + 1)) Sx_9) fun Jx_1 =>
                  if i < (l.n : Int) then
                    Jx_1 Sx_6
                  else
                  Jx Sx_6) 0 Sx_4) fun Jx_2 =>
          if t_2 ≠ 0 then
            Q false Sx_3
          else
          if t_1 ≠ 0 then
            Q false Sx_3
          else
          bs Sx_3 t fun s_1 =>
          bs Sx_3 want fun s_2 =>
          if s_1 ≠ s_2 then
            Q false Sx_3
          else
          if (t_3.n : Int) ≠ (l.n : Int) then
            Q false Sx_3
          else
          Jx_2 Sx_3) fun Jx_3 =>
      lp (fun Xx_1 (z : ByteArray × Sl × Int) (Sx_10 : Mem) =>
          match z with
          | (s_3, want_1, i_1) =>
            jn (fun (Sx_11 : Mem) =>
                jn (fun (s_4 : ByteArray) (want_2 : Sl) (Sx_12 : Mem) =>
                    Xx_1 (s_4, want_2, IntKind.i64.wrap (i_1 + 1)) Sx_12) fun Jx_4 =>
                sl l fun b_3 o_2 n_4 n_5 =>
                0 ≤ i_1 ∧ i_1 < ((n_4 : Nat) : Int) ∧
                gA (Sx_11.part b_3 (o_2 + i_1.toNat * 5) 5) fun t_13 =>
                hermitcrablaw03_near Sx_11 t_13 fun t_14 Sx_13 =>
                t_14.all (·.oneCell') = true ∧
                jn (fun (s_5 : ByteArray) (Sx_14 : Mem) =>
                    jn (fun (pad : ByteArray) (Sx_15 : Mem) =>
                        gI (nthL t_14 0) .u8 fun t_15 =>
                        gI (nthL t_14 1) .u8 fun t_16 =>
                        gI (nthL t_14 2) .u8 fun t_17 =>
                        gI (nthL t_14 3) .u8 fun t_18 =>
                        gI (nthL t_14 4) .i16 fun t_19 =>
                        hermitcrabref01_Text Sx_15 t_15 t_16 t_17 t_18 t_19 fun t_20 Sx_16 =>
                        ByteArray.size pad + ByteArray.size t_20 ≤ 9223372036854775807 ∧
                        ByteArray.size (pad ++ t_20) + ByteArray.size pad ≤ 9223372036854775807 ∧
                        ByteArray.size s_5 + ByteArray.size ((pad ++ t_20) ++ pad) ≤ 9223372036854775807 ∧
                        gI (nthL t_14 0) .u8 fun t_21 =>
                        gI (nthL t_14 1) .u8 fun t_22 =>
                        gI (nthL t_14 2) .u8 fun t_23 =>
                        gI (nthL t_14 3) .u8 fun t_24 =>
                        gI (nthL t_14 4) .i16 fun t_25 =>
                        hermitcrabref01_Word Sx_16 t_21 t_22 t_23 t_24 t_25 fun t_26 Sx_17 =>
                        ap Sx_17 5 1 1 [.int .u8 0] want_1 4 ([.int .u8 (IntKind.u8.wrap t_26), .int .u8 (IntKind.u8.wrap (ishr .u32 t_26 8)), .int .u8 (IntKind.u8.wrap (ishr .u32 t_26 16)), .int .u8 (IntKind.u8.wrap (ishr .u32 t_26 24))]) fun t_27 Sx_18 =>
                        Jx_4 (s_5 ++ ((pad ++ t_20) ++ pad)) t_27 Sx_18) fun Jx_5 =>
                    lp (fun Xx_2 (z : ByteArray × Int) (Sx_19 : Mem) =>
                        match z with
                        | (pad_1, k_1) =>
                          if i_1 < (blanks.n : Int) then
                            sl blanks fun b_6 o_3 n_6 n_7 =>
                            0 ≤ i_1 ∧ i_1 < ((n_6 : Nat) : Int) ∧
                            gI (Sx_19.cell b_6 (o_3 + i_1.toNat * 1)) .u8 fun t_28 =>
                            if k_1 < IntKind.i64.wrap (Int.tmod t_28 4) then
                              ByteArray.size pad_1 + ByteArray.size (⟨#[32]⟩) ≤ 9223372036854775807 ∧
                              Xx_2 (pad_1 ++ (⟨#[32]⟩), IntKind.i64.wrap (k_1 + 1)) Sx_19
                            else
                            Jx_5 pad_1 Sx_19
                          else
                          Jx_5 pad_1 Sx_19) (⟨#[]⟩, 0) Sx_14) fun Jx_6 =>
                if 0 < i_1 then
                  ByteArray.size s_3 + ByteArray.size (⟨#[59]⟩) ≤ 9223372036854775807 ∧
                  Jx_6 (s_3 ++ (⟨#[59]⟩)) Sx_13
                else
                Jx_6 s_3 Sx_13) fun Jx_7 =>
            if i_1 < (l.n : Int) then
              Jx_7 Sx_10
            else
            Jx_3 s_3 want_1 Sx_10) (⟨#[]⟩, ⟨none, 0, 0⟩, 0) Sx) fun Jx_8 =>
  hermitcrablaw03_awake S fun t_29 Sx_20 =>
  if t_29 = true then
    if (l.n : Int) = 0 then
      hermitcrablaw03_awake Sx_20 fun t_30 Sx_21 =>
      Q t_30 Sx_21
    else
    if 20 < (l.n : Int) then
      hermitcrablaw03_awake Sx_20 fun t_31 Sx_22 =>
      Q t_31 Sx_22
    else
    Jx_8 Sx_20
  else
  hermitcrablaw03_awake Sx_20 fun t_32 Sx_23 =>
  Q t_32 Sx_23
theorem t_hermitcrablaw03_TextLays {S : Mem} {l : Sl} {blanks : Sl} {Q : Bool → Mem → Prop} (H : b_hermitcrablaw03_TextLays S l blanks Q) : hermitcrablaw03_TextLays S l blanks Q := by
  unfold b_hermitcrablaw03_TextLays at H
  refine Tr.intro Tryd.func6 rfl Tryd.ntmps6 rfl fun w0 => ?_
  refine c_seq ?_
  refine c_region ?_
  refine s_p rfl (y_assign rfl) ?_
  refine s_nil (q_then ?_)
  refine c_join2 H (fun (J : Mem → Prop) (z : Unit) S => J S) (fun z => ⟨161, [(0, eL l), (1, eL blanks)]⟩) (fun z => []) ?_ ?_
  · clear H
    rintro _ Sx H
    refine c_seq ?_
    refine c_region ?_
    refine s_p rfl (y_assign rfl) ?_
    refine s_nil (q_then ?_)
    refine c_seq ?_
    refine c_region ?_
    refine s_p rfl (y_assign rfl) ?_
    refine s_nil (q_then ?_)
    refine c_join2 H (fun (J : ByteArray → Sl → Mem → Prop) (z : ByteArray × Sl) S => J z.1 z.2 S) (fun z => ⟨161, [(0, eL l), (5, .string z.1), (6, eL z.2)]⟩) (fun z => []) ?_ ?_
    · clear H
      rintro ⟨s, want⟩ Sx_1 H
      refine c_seq ?_
      refine c_region ?_
      refine s_p rfl (y_move rfl) ?_
      refine s_call rfl rfl H fun rv Sx_2 H2 => ?_
      clear H
      obtain ⟨t, t_1, t_2, rfl, H⟩ := H2
      refine s_p rfl (y_move rfl) ?_
      refine s_p rfl (y_extract rfl rfl) ?_
      refine s_p rfl (y_extract rfl rfl) ?_
      refine s_p rfl (y_extract rfl rfl) ?_
      refine s_p rfl (y_assign rfl) ?_
      refine s_p rfl (y_assign rfl) ?_
      refine s_p rfl (y_assign rfl) ?_
      refine s_nil (q_then ?_)
      refine c_seq ?_
      refine c_region ?_
      refine s_p rfl (y_move rfl) ?_
      refine s_call rfl rfl H fun rv Sx_3 H2 => ?_
      clear H
      obtain ⟨t_3, rfl, H⟩ := H2
      refine s_p rfl (y_assign rfl) ?_
      refine s_nil (q_then ?_)
      refine c_join2 H (fun (J : Mem → Prop) (z : Unit) S => J S) (fun z => ⟨161, [(0, eL l), (15, eL t_3)]⟩) (fun z => []) ?_ ?_
      · clear H
        rintro _ Sx_4 H
        refine c_join2 H (fun (J : Mem → Prop) (z : Unit) S => J S) (fun z => ⟨161, []⟩) (fun z => []) ?_ ?_
        · clear H
          rintro _ Sx_5 H
          refine c_seq ?_
          refine c_region ?_
          refine s_p rfl (y_assign rfl) ?_
          refine s_nil (q_then ?_)
          refine c_ret ?_
          exact q_ret Tryd.results6 (rv_tmp rfl rv_nil) ⟨_, rfl, H⟩
        · clear H
          intro Jx hJx H
          refine c_seq ?_
          refine c_region ?_
          refine s_p rfl (y_assign rfl) ?_
          refine s_nil (q_then ?_)
          refine c_block ?_
          refine c_loop (fun z => ⟨161, [(0, eL l), (15, eL t_3), (16, .int .i64 z)]⟩) (fun z => []) 0 (idx := []) H rfl ⟨rfl, rfl, rfl, True.intro⟩ rfl ?_
          clear H
          rintro Xx hXx i Sx_6 H
          refine c_join2 H (fun (J : Mem → Prop) (z : Unit) S => J S) (fun z => ⟨161, [(0, eL l), (15, eL t_3), (16, .int .i64 i)]⟩) (fun z => []) ?_ ?_
          · clear H
            rintro _ Sx_7 H
            refine c_seq ?_
            refine c_block ?_
            refine c_seq ?_
            refine c_region ?_
            refine s_p rfl (y_move rfl) ?_
            refine s_p rfl (y_move rfl) ?_
            obtain ⟨b, o, n, n_1, rfl, H⟩ := H
            obtain ⟨c, c_1, H⟩ := H
            refine s_p rfl (y_ixL rfl rfl c c_1 rfl) ?_
            obtain ⟨t_4, ht_4, H⟩ := H
            refine s_v rfl (y_ldA rfl (part_len ht_4)) (hc_SP ht_4) ?_
            refine s_call rfl rfl H fun rv Sx_8 H2 => ?_
            clear H
            obtain ⟨t_5, rfl, ht_5, H⟩ := H2
            refine s_alloc rfl fun b_1 => ?_
            obtain ⟨c_2, H⟩ := H
            refine s_stV_all 0 rfl rfl rfl rfl rfl ht_5 rfl c_2 ?_
            refine s_nil (q_then ?_)
            refine c_seq ?_
            refine c_drawn (by kernel_rfl) ?_
            refine a_takeP 0 rfl (by decide +kernel) (np_then (np_blk (np_then (np_then (np_blk (np_then np_body)))))) rfl (y_move rfl) ?_
            refine a_takeP 1 rfl (by decide +kernel) (np_then (np_blk (np_then (np_then (np_blk (np_then np_body)))))) rfl (y_move rfl) ?_
            obtain ⟨b_2, o_1, n_2, n_3, rfl, H⟩ := H
            obtain ⟨c_3, c_4, H⟩ := H
            refine a_takeP 2 rfl (by decide +kernel) (np_then (np_blk (np_then (np_then (np_blk (np_then np_body)))))) rfl (y_ixL rfl rfl c_3 c_4 rfl) ?_
            obtain ⟨t_6, ht_6, H⟩ := H
            refine a_take 3 rfl (by decide +kernel) (np_then (np_blk (np_then (np_then (np_blk (np_then np_body)))))) rfl (y_ld rfl) (hc_S ht_6) ?_
            refine a_takeP 4 rfl (by decide +kernel) (np_then (np_blk (np_then (np_then (np_blk (np_then np_body)))))) rfl (y_fa rfl rfl) ?_
            obtain ⟨t_7, ht_7, H⟩ := H
            refine a_take 5 rfl (by decide +kernel) (np_then (np_blk (np_then (np_then (np_blk (np_then np_body)))))) rfl (y_ld rfl) (hc_V 0 rfl ht_7) ?_
            refine a_takeP 6 rfl (by decide +kernel) (np_then (np_blk (np_then (np_then (np_blk (np_then np_body)))))) rfl (y_fa rfl rfl) ?_
            obtain ⟨t_8, ht_8, H⟩ := H
            refine a_take 7 rfl (by decide +kernel) (np_then (np_blk (np_then (np_then (np_blk (np_then np_body)))))) rfl (y_ld rfl) (hc_V 0 rfl ht_8) ?_
            refine a_takeP 8 rfl (by decide +kernel) (np_then (np_blk (np_then (np_then (np_blk (np_then np_body)))))) rfl (y_fa rfl rfl) ?_
            obtain ⟨t_9, ht_9, H⟩ := H
            refine a_take 9 rfl (by decide +kernel) (np_then (np_blk (np_then (np_then (np_blk (np_then np_body)))))) rfl (y_ld rfl) (hc_V 0 rfl ht_9) ?_
            refine a_takeP 10 rfl (by decide +kernel) (np_then (np_blk (np_then (np_then (np_blk (np_then np_body)))))) rfl (y_fa rfl rfl) ?_
            obtain ⟨t_10, ht_10, H⟩ := H
            refine a_take 11 rfl (by decide +kernel) (np_then (np_blk (np_then (np_then (np_blk (np_then np_body)))))) rfl (y_ld rfl) (hc_V 0 rfl ht_10) ?_
            refine a_takeP 12 rfl (by decide +kernel) (np_then (np_blk (np_then (np_then (np_blk (np_then np_body)))))) rfl (y_fa rfl rfl) ?_
            obtain ⟨t_11, ht_11, H⟩ := H
            refine a_take 13 rfl (by decide +kernel) (np_then (np_blk (np_then (np_then (np_blk (np_then np_body)))))) rfl (y_ld rfl) (hc_V 0 rfl ht_11) ?_
            refine a_step 14 (by decide +kernel) rfl ?_
            refine s_call rfl rfl H fun rv Sx_9 H2 => ?_
            clear H
            obtain ⟨t_12, rfl, H⟩ := H2
            obtain ⟨k, H⟩ := H
            refine s_nil (q_any (ac_cons (hc_S k) ac_nil) ?_)
            replace H := ite_e H
            rcases H with ⟨c_5, H⟩ | ⟨c_5, H⟩
            · refine a_takeP 15 rfl (by decide +kernel) (np_then (np_blk (np_then (np_then (np_blk (np_then np_body)))))) rfl (yT (y_neS rfl rfl) c_5) ?_
              refine a_done (by decide +kernel) ?_
              refine q_then ?_
              refine c_t rfl rfl ?_
              refine c_seq ?_
              refine c_region ?_
              refine s_p rfl (y_assign rfl) ?_
              refine s_nil (q_then ?_)
              refine c_ret (q_blk_ret (q_then_ret (q_then_ret (q_blk_ret (q_then_ret ?_)))))
              exact q_ret Tryd.results6 (rv_tmp rfl rv_nil) ⟨_, rfl, H⟩
            · refine a_takeP 15 rfl (by decide +kernel) (np_then (np_blk (np_then (np_then (np_blk (np_then np_body)))))) rfl (yF (y_neS rfl rfl) c_5) ?_
              refine a_done (by decide +kernel) ?_
              refine q_then ?_
              refine c_f rfl rfl ?_
              refine c_skip (q_blk (q_then ?_))
              refine c_region ?_
              refine s_p rfl (y_move rfl) ?_
              refine s_p rfl (y_add rfl rfl) ?_
              refine s_p rfl (y_assign rfl) ?_
              refine s_nil ?_
              exact hXx (IntKind.i64.wrap (i + 1)) _ _ _ _ [] H rfl ⟨rfl, rfl, rfl, True.intro⟩ rfl
          · clear H
            intro Jx_1 hJx_1 H
            refine c_seq ?_
            refine c_region ?_
            refine s_p rfl (y_move rfl) ?_
            refine s_p rfl (y_move rfl) ?_
            refine s_p rfl (y_len rfl) ?_
            replace H := ite_e H
            rcases H with ⟨c_6, H⟩ | ⟨c_6, H⟩
            · refine s_p rfl (yT (y_lss rfl rfl) c_6) ?_
              refine s_nil (q_then ?_)
              refine c_t rfl rfl ?_
              refine c_skip ?_
              exact hJx_1 () _ _ _ _ [] H rfl ⟨rfl, rfl, rfl, True.intro⟩ rfl
            · refine s_p rfl (yF (y_lss rfl rfl) c_6) ?_
              refine s_nil (q_then ?_)
              refine c_f rfl rfl ?_
              refine c_exit (q_then_exit (q_then_exit (q_blk_out ?_)))
              exact hJx () _ _ _ _ [] H rfl True.intro rfl
      · clear H
        intro Jx_2 hJx_2 H
        refine c_seq ?_
        refine c_region ?_
        refine s_p rfl (y_move rfl) ?_
        replace H := ite_e H
        rcases H with ⟨c_7, H⟩ | ⟨c_7, H⟩
        · refine s_p rfl (yT (y_neq rfl rfl) c_7) ?_
          refine s_p rfl (y_move rfl) ?_
          refine s_skip rfl ?_
          refine s_skip rfl ?_
          refine s_p rfl (y_pick rfl rfl) ?_
          refine s_p rfl (y_move rfl) ?_
          refine s_skip rfl ?_
          refine s_skip rfl ?_
          refine s_skip rfl ?_
          refine s_skip rfl ?_
          refine s_skip rfl ?_
          refine s_p rfl (y_pick rfl rfl) ?_
          refine s_p rfl (y_move rfl) ?_
          refine s_skip rfl ?_
          refine s_skip rfl ?_
          refine s_skip rfl ?_
          refine s_skip rfl ?_
          refine s_skip rfl ?_
          refine s_p rfl (y_pick rfl rfl) ?_
          refine s_nil (q_then ?_)
          refine c_t rfl rfl ?_
          refine c_seq ?_
          refine c_region ?_
          refine s_p rfl (y_assign rfl) ?_
          refine s_nil (q_then ?_)
          refine c_ret (q_then_ret ?_)
          exact q_ret Tryd.results6 (rv_tmp rfl rv_nil) ⟨_, rfl, H⟩
        · refine s_p rfl (yF (y_neq rfl rfl) c_7) ?_
          refine s_p rfl (y_move rfl) ?_
          refine s_p rfl (y_move rfl) ?_
          replace H := ite_e H
          rcases H with ⟨c_8, H⟩ | ⟨c_8, H⟩
          · refine s_p rfl (yT (y_neq rfl rfl) c_8) ?_
            refine s_p rfl (y_pick rfl rfl) ?_
            refine s_p rfl (y_move rfl) ?_
            refine s_skip rfl ?_
            refine s_skip rfl ?_
            refine s_skip rfl ?_
            refine s_skip rfl ?_
            refine s_skip rfl ?_
            refine s_p rfl (y_pick rfl rfl) ?_
            refine s_p rfl (y_move rfl) ?_
            refine s_skip rfl ?_
            refine s_skip rfl ?_
            refine s_skip rfl ?_
            refine s_skip rfl ?_
            refine s_skip rfl ?_
            refine s_p rfl (y_pick rfl rfl) ?_
            refine s_nil (q_then ?_)
            refine c_t rfl rfl ?_
            refine c_seq ?_
            refine c_region ?_
            refine s_p rfl (y_assign rfl) ?_
            refine s_nil (q_then ?_)
            refine c_ret (q_then_ret ?_)
            exact q_ret Tryd.results6 (rv_tmp rfl rv_nil) ⟨_, rfl, H⟩
          · refine s_p rfl (yF (y_neq rfl rfl) c_8) ?_
            refine s_p rfl (y_pick rfl rfl) ?_
            refine s_p rfl (y_move rfl) ?_
            refine s_p rfl (y_move rfl) ?_
            obtain ⟨xs, h, H⟩ := H
            obtain ⟨s_1, es_1, H⟩ := lt_e H
            refine s_v rfl (eqv (y_bs (s := t) rfl h) (congrArg Value.string es_1)) (hc_bs h) ?_
            refine s_p rfl (y_move rfl) ?_
            obtain ⟨xs_1, h_1, H⟩ := H
            obtain ⟨s_2, es_2, H⟩ := lt_e H
            refine s_v rfl (eqv (y_bs (s := want) rfl h_1) (congrArg Value.string es_2)) (hc_bs h_1) ?_
            replace H := ite_e H
            rcases H with ⟨c_9, H⟩ | ⟨c_9, H⟩
            · refine s_p rfl (yT (y_neS rfl rfl) c_9) ?_
              refine s_p rfl (y_pick rfl rfl) ?_
              refine s_p rfl (y_move rfl) ?_
              refine s_skip rfl ?_
              refine s_skip rfl ?_
              refine s_skip rfl ?_
              refine s_skip rfl ?_
              refine s_skip rfl ?_
              refine s_p rfl (y_pick rfl rfl) ?_
              refine s_nil (q_then ?_)
              refine c_t rfl rfl ?_
              refine c_seq ?_
              refine c_region ?_
              refine s_p rfl (y_assign rfl) ?_
              refine s_nil (q_then ?_)
              refine c_ret (q_then_ret ?_)
              exact q_ret Tryd.results6 (rv_tmp rfl rv_nil) ⟨_, rfl, H⟩
            · refine s_p rfl (yF (y_neS rfl rfl) c_9) ?_
              refine s_p rfl (y_pick rfl rfl) ?_
              refine s_p rfl (y_move rfl) ?_
              refine s_p rfl (y_move rfl) ?_
              refine s_p rfl (y_len rfl) ?_
              refine s_p rfl (y_move rfl) ?_
              refine s_p rfl (y_len rfl) ?_
              replace H := ite_e H
              rcases H with ⟨c_10, H⟩ | ⟨c_10, H⟩
              · refine s_p rfl (yT (y_neq rfl rfl) c_10) ?_
                refine s_p rfl (y_pick rfl rfl) ?_
                refine s_nil (q_then ?_)
                refine c_t rfl rfl ?_
                refine c_seq ?_
                refine c_region ?_
                refine s_p rfl (y_assign rfl) ?_
                refine s_nil (q_then ?_)
                refine c_ret (q_then_ret ?_)
                exact q_ret Tryd.results6 (rv_tmp rfl rv_nil) ⟨_, rfl, H⟩
              · refine s_p rfl (yF (y_neq rfl rfl) c_10) ?_
                refine s_p rfl (y_pick rfl rfl) ?_
                refine s_nil (q_then ?_)
                refine c_f rfl rfl ?_
                refine c_skip ?_
                exact hJx_2 () _ _ _ _ [] H rfl ⟨rfl, rfl, True.intro⟩ rfl
    · clear H
      intro Jx_3 hJx_3 H
      refine c_seq ?_
      refine c_region ?_
      refine s_p rfl (y_assign rfl) ?_
      refine s_nil (q_then ?_)
      refine c_block ?_
      refine c_loop (fun z => ⟨161, [(0, eL l), (1, eL blanks), (5, .string z.1), (6, eL z.2.1), (7, .int .i64 z.2.2)]⟩) (fun z => []) (⟨#[]⟩, ⟨none, 0, 0⟩, 0) (idx := []) H rfl ⟨rfl, rfl, rfl, rfl, rfl, True.intro⟩ rfl ?_
      clear H
      rintro Xx_1 hXx_1 ⟨s_3, want_1, i_1⟩ Sx_10 H
      refine c_join2 H (fun (J : Mem → Prop) (z : Unit) S => J S) (fun z => ⟨161, [(0, eL l), (1, eL blanks), (5, .string s_3), (6, eL want_1), (7, .int .i64 i_1)]⟩) (fun z => []) ?_ ?_
      · clear H
        rintro _ Sx_11 H
        refine c_join2 H (fun (J : ByteArray → Sl → Mem → Prop) (z : ByteArray × Sl) S => J z.1 z.2 S) (fun z => ⟨161, [(0, eL l), (1, eL blanks), (5, .string z.1), (6, eL z.2), (7, .int .i64 i_1)]⟩) (fun z => []) ?_ ?_
        · clear H
          rintro ⟨s_4, want_2⟩ Sx_12 H
          refine c_region ?_
          refine s_p rfl (y_move rfl) ?_
          refine s_p rfl (y_add rfl rfl) ?_
          refine s_p rfl (y_assign rfl) ?_
          refine s_nil ?_
          exact hXx_1 (s_4, want_2, IntKind.i64.wrap (i_1 + 1)) _ _ _ _ [] H rfl ⟨rfl, rfl, rfl, rfl, rfl, True.intro⟩ rfl
        · clear H
          intro Jx_4 hJx_4 H
          refine c_block ?_
          refine c_seq ?_
          refine c_region ?_
          refine s_p rfl (y_move rfl) ?_
          refine s_p rfl (y_move rfl) ?_
          obtain ⟨b_3, o_2, n_4, n_5, rfl, H⟩ := H
          obtain ⟨c_11, c_12, H⟩ := H
          refine s_p rfl (y_ixL rfl rfl c_11 c_12 rfl) ?_
          obtain ⟨t_13, ht_13, H⟩ := H
          refine s_v rfl (y_ldA rfl (part_len ht_13)) (hc_SP ht_13) ?_
          refine s_call rfl rfl H fun rv Sx_13 H2 => ?_
          clear H
          obtain ⟨t_14, rfl, ht_14, H⟩ := H2
          refine s_alloc rfl fun b_4 => ?_
          obtain ⟨c_13, H⟩ := H
          refine s_stV_all 0 rfl rfl rfl rfl rfl ht_14 rfl c_13 ?_
          refine s_nil (q_then ?_)
          refine c_join2 H (fun (J : ByteArray → Mem → Prop) (z : ByteArray) S => J z S) (fun z => ⟨161, [(0, .slice (some ⟨b_3, o_2, none⟩) n_4 n_5), (1, eL blanks), (5, .string z), (6, eL want_1), (7, .int .i64 i_1), (8, .pointer (some ⟨b_4, 0, none⟩))]⟩) (fun z => [⟨b_4, 24, t_14⟩]) ?_ ?_
          · clear H
            rintro s_5 Sx_14 H
            refine c_seq ?_
            refine c_region ?_
            refine s_p rfl (y_assign rfl) ?_
            refine s_nil (q_then ?_)
            refine c_join2 H (fun (J : ByteArray → Mem → Prop) (z : ByteArray) S => J z S) (fun z => ⟨161, [(0, .slice (some ⟨b_3, o_2, none⟩) n_4 n_5), (1, eL blanks), (5, .string s_5), (6, eL want_1), (7, .int .i64 i_1), (8, .pointer (some ⟨b_4, 0, none⟩)), (9, .string z)]⟩) (fun z => [⟨b_4, 24, t_14⟩]) ?_ ?_
            · clear H
              rintro pad Sx_15 H
              refine c_seq ?_
              refine c_region ?_
              refine s_p rfl (y_move rfl) ?_
              refine s_p rfl (y_move rfl) ?_
              refine s_p rfl (y_fa rfl rfl) ?_
              obtain ⟨t_15, ht_15, H⟩ := H
              refine s_v rfl (y_ld rfl) (hc_V 0 rfl ht_15) ?_
              refine s_p rfl (y_fa rfl rfl) ?_
              obtain ⟨t_16, ht_16, H⟩ := H
              refine s_v rfl (y_ld rfl) (hc_V 0 rfl ht_16) ?_
              refine s_p rfl (y_fa rfl rfl) ?_
              obtain ⟨t_17, ht_17, H⟩ := H
              refine s_v rfl (y_ld rfl) (hc_V 0 rfl ht_17) ?_
              refine s_p rfl (y_fa rfl rfl) ?_
              obtain ⟨t_18, ht_18, H⟩ := H
              refine s_v rfl (y_ld rfl) (hc_V 0 rfl ht_18) ?_
              refine s_p rfl (y_fa rfl rfl) ?_
              obtain ⟨t_19, ht_19, H⟩ := H
              refine s_v rfl (y_ld rfl) (hc_V 0 rfl ht_19) ?_
              refine s_call rfl rfl H fun rv Sx_16 H2 => ?_
              clear H
              obtain ⟨t_20, rfl, H⟩ := H2
              obtain ⟨c_14, H⟩ := H
              refine s_p rfl (y_addS rfl rfl c_14) ?_
              refine s_p rfl (y_move rfl) ?_
              obtain ⟨c_15, H⟩ := H
              refine s_p rfl (y_addS rfl rfl c_15) ?_
              obtain ⟨c_16, H⟩ := H
              refine s_p rfl (y_addS rfl rfl c_16) ?_
              refine s_p rfl (y_assign rfl) ?_
              refine s_nil (q_then ?_)
              refine c_seq ?_
              refine c_region ?_
              refine s_p rfl (y_fa rfl rfl) ?_
              obtain ⟨t_21, ht_21, H⟩ := H
              refine s_v rfl (y_ld rfl) (hc_V 0 rfl ht_21) ?_
              refine s_p rfl (y_fa rfl rfl) ?_
              obtain ⟨t_22, ht_22, H⟩ := H
              refine s_v rfl (y_ld rfl) (hc_V 0 rfl ht_22) ?_
              refine s_p rfl (y_fa rfl rfl) ?_
              obtain ⟨t_23, ht_23, H⟩ := H
              refine s_v rfl (y_ld rfl) (hc_V 0 rfl ht_23) ?_
              refine s_p rfl (y_fa rfl rfl) ?_
              obtain ⟨t_24, ht_24, H⟩ := H
              refine s_v rfl (y_ld rfl) (hc_V 0 rfl ht_24) ?_
              refine s_p rfl (y_fa rfl rfl) ?_
              obtain ⟨t_25, ht_25, H⟩ := H
              refine s_v rfl (y_ld rfl) (hc_V 0 rfl ht_25) ?_
              refine s_call rfl rfl H fun rv Sx_17 H2 => ?_
              clear H
              obtain ⟨t_26, rfl, H⟩ := H2
              refine s_p rfl (y_assign rfl) ?_
              refine s_nil (q_then ?_)
              refine c_region ?_
              refine s_p rfl (y_move rfl) ?_
              refine s_p rfl (y_move rfl) ?_
              refine s_p rfl (y_conv ⟨_, Tryd.underlying37⟩ rfl) ?_
              refine s_p rfl (y_move rfl) ?_
              refine s_p rfl (y_shr rfl rfl (by decide)) ?_
              refine s_p rfl (y_conv ⟨_, Tryd.underlying37⟩ rfl) ?_
              refine s_p rfl (y_move rfl) ?_
              refine s_p rfl (y_shr rfl rfl (by decide)) ?_
              refine s_p rfl (y_conv ⟨_, Tryd.underlying37⟩ rfl) ?_
              refine s_p rfl (y_move rfl) ?_
              refine s_p rfl (y_shr rfl rfl (by decide)) ?_
              refine s_p rfl (y_conv ⟨_, Tryd.underlying37⟩ rfl) ?_
              refine s_bs rfl rfl (by decide) rfl fun b_5 => ?_
              refine s_app (sx := want_1) (vs := [.int .u8 (IntKind.u8.wrap t_26), .int .u8 (IntKind.u8.wrap (ishr .u32 t_26 8)), .int .u8 (IntKind.u8.wrap (ishr .u32 t_26 16)), .int .u8 (IntKind.u8.wrap (ishr .u32 t_26 24))]) rfl rfl rfl (fc_V 1 rfl rfl) rfl rfl (by decide) H fun t_27 Sx_18 H2 => ?_
              replace H := H2
              refine s_p rfl (y_assign rfl) ?_
              refine s_nil (q_blk ?_)
              exact hJx_4 (s_5 ++ ((pad ++ t_20) ++ pad), t_27) _ _ _ _ [] H rfl ⟨rfl, rfl, rfl, rfl, rfl, True.intro⟩ rfl
            · clear H
              intro Jx_5 hJx_5 H
              refine c_seq ?_
              refine c_region ?_
              refine s_p rfl (y_assign rfl) ?_
              refine s_nil (q_then ?_)
              refine c_block ?_
              refine c_loop (fun z => ⟨161, [(0, .slice (some ⟨b_3, o_2, none⟩) n_4 n_5), (1, eL blanks), (5, .string s_5), (6, eL want_1), (7, .int .i64 i_1), (8, .pointer (some ⟨b_4, 0, none⟩)), (9, .string z.1), (10, .int .i64 z.2)]⟩) (fun z => [⟨b_4, 24, t_14⟩]) (⟨#[]⟩, 0) (idx := [0]) H rfl ⟨rfl, rfl, rfl, rfl, rfl, rfl, rfl, rfl, True.intro⟩ rfl ?_
              clear H
              rintro Xx_2 hXx_2 ⟨pad_1, k_1⟩ Sx_19 H
              refine c_seq ?_
              refine c_seq ?_
              refine c_region ?_
              refine s_p rfl (y_move rfl) ?_
              refine s_p rfl (y_move rfl) ?_
              refine s_p rfl (y_len rfl) ?_
              replace H := ite_e H
              rcases H with ⟨c_17, H⟩ | ⟨c_17, H⟩
              · refine s_p rfl (yT (y_lss rfl rfl) c_17) ?_
                refine s_p rfl (y_move rfl) ?_
                refine s_p rfl (y_move rfl) ?_
                refine s_p rfl (y_move rfl) ?_
                refine s_p rfl (y_move rfl) ?_
                obtain ⟨b_6, o_3, n_6, n_7, rfl, H⟩ := H
                obtain ⟨c_18, c_19, H⟩ := H
                refine s_p rfl (y_ixL rfl rfl c_18 c_19 rfl) ?_
                obtain ⟨t_28, ht_28, H⟩ := H
                refine s_v rfl (y_ld rfl) (hc_S ht_28) ?_
                refine s_p rfl (y_rem rfl rfl (by decide)) ?_
                refine s_p rfl (y_conv ⟨_, Tryd.underlying5⟩ rfl) ?_
                replace H := ite_e H
                rcases H with ⟨c_20, H⟩ | ⟨c_20, H⟩
                · refine s_p rfl (yT (y_lss rfl rfl) c_20) ?_
                  refine s_p rfl (y_pick rfl rfl) ?_
                  refine s_nil (q_then ?_)
                  refine c_t rfl rfl ?_
                  refine c_skip (q_then ?_)
                  refine c_seq ?_
                  refine c_block ?_
                  refine c_region ?_
                  refine s_p rfl (y_move rfl) ?_
                  obtain ⟨c_21, H⟩ := H
                  refine s_p rfl (y_addS rfl rfl c_21) ?_
                  refine s_p rfl (y_assign rfl) ?_
                  refine s_nil (q_blk (q_then ?_))
                  refine c_region ?_
                  refine s_p rfl (y_move rfl) ?_
                  refine s_p rfl (y_add rfl rfl) ?_
                  refine s_p rfl (y_assign rfl) ?_
                  refine s_nil ?_
                  exact hXx_2 (pad_1 ++ (⟨#[32]⟩), IntKind.i64.wrap (k_1 + 1)) _ _ _ _ [0] H rfl ⟨rfl, rfl, rfl, rfl, rfl, rfl, rfl, rfl, True.intro⟩ rfl
                · refine s_p rfl (yF (y_lss rfl rfl) c_20) ?_
                  refine s_p rfl (y_pick rfl rfl) ?_
                  refine s_nil (q_then ?_)
                  refine c_f rfl rfl ?_
                  refine c_exit (q_then_exit (q_then_exit (q_blk_out ?_)))
                  exact hJx_5 pad_1 _ _ _ _ [0] H rfl ⟨rfl, rfl, rfl, rfl, rfl, rfl, rfl, True.intro⟩ rfl
              · refine s_p rfl (yF (y_lss rfl rfl) c_17) ?_
                refine s_p rfl (y_move rfl) ?_
                refine s_skip rfl ?_
                refine s_skip rfl ?_
                refine s_skip rfl ?_
                refine s_skip rfl ?_
                refine s_skip rfl ?_
                refine s_skip rfl ?_
                refine s_skip rfl ?_
                refine s_skip rfl ?_
                refine s_p rfl (y_pick rfl rfl) ?_
                refine s_nil (q_then ?_)
                refine c_f rfl rfl ?_
                refine c_exit (q_then_exit (q_then_exit (q_blk_out ?_)))
                exact hJx_5 pad_1 _ _ _ _ [0] H rfl ⟨rfl, rfl, rfl, rfl, rfl, rfl, rfl, True.intro⟩ rfl
          · clear H
            intro Jx_6 hJx_6 H
            refine c_seq ?_
            refine c_region ?_
            refine s_p rfl (y_move rfl) ?_
            replace H := ite_e H
            rcases H with ⟨c_22, H⟩ | ⟨c_22, H⟩
            · refine s_p rfl (yT (y_gtr rfl rfl) c_22) ?_
              refine s_nil (q_then ?_)
              refine c_t rfl rfl ?_
              refine c_region ?_
              refine s_p rfl (y_move rfl) ?_
              obtain ⟨c_23, H⟩ := H
              refine s_p rfl (y_addS rfl rfl c_23) ?_
              refine s_p rfl (y_assign rfl) ?_
              refine s_nil ?_
              exact hJx_6 (s_3 ++ (⟨#[59]⟩)) _ _ _ _ [0] H rfl ⟨rfl, rfl, rfl, rfl, rfl, rfl, True.intro⟩ rfl
            · refine s_p rfl (yF (y_gtr rfl rfl) c_22) ?_
              refine s_nil (q_then ?_)
              refine c_f rfl rfl ?_
              refine c_skip ?_
              exact hJx_6 s_3 _ _ _ _ [0] H rfl ⟨rfl, rfl, rfl, rfl, rfl, rfl, True.intro⟩ rfl
      · clear H
        intro Jx_7 hJx_7 H
        refine c_seq ?_
        refine c_region ?_
        refine s_p rfl (y_move rfl) ?_
        refine s_p rfl (y_move rfl) ?_
        refine s_p rfl (y_len rfl) ?_
        replace H := ite_e H
        rcases H with ⟨c_24, H⟩ | ⟨c_24, H⟩
        · refine s_p rfl (yT (y_lss rfl rfl) c_24) ?_
          refine s_nil (q_then ?_)
          refine c_t rfl rfl ?_
          refine c_skip ?_
          exact hJx_7 () _ _ _ _ [] H rfl ⟨rfl, rfl, rfl, rfl, rfl, True.intro⟩ rfl
        · refine s_p rfl (yF (y_lss rfl rfl) c_24) ?_
          refine s_nil (q_then ?_)
          refine c_f rfl rfl ?_
          refine c_exit (q_then_exit (q_then_exit (q_blk_out ?_)))
          exact hJx_3 (s_3, want_1) _ _ _ _ [] H rfl ⟨rfl, rfl, rfl, True.intro⟩ rfl
  · clear H
    intro Jx_8 hJx_8 H
    refine c_seq ?_
    refine c_region ?_
    refine s_call rfl rfl H fun rv Sx_20 H2 => ?_
    clear H
    obtain ⟨t_29, rfl, H⟩ := H2
    replace H := ib_e H
    rcases H with ⟨rfl, H⟩ | ⟨rfl, H⟩
    · skip
      refine s_p rfl (yB (y_not rfl) rfl) ?_
      refine s_p rfl (y_move rfl) ?_
      refine s_p rfl (y_move rfl) ?_
      refine s_p rfl (y_len rfl) ?_
      replace H := ite_e H
      rcases H with ⟨c_25, H⟩ | ⟨c_25, H⟩
      · refine s_p rfl (yT (y_eql rfl rfl) c_25) ?_
        refine s_p rfl (y_pick rfl rfl) ?_
        refine s_p rfl (y_move rfl) ?_
        refine s_skip rfl ?_
        refine s_skip rfl ?_
        refine s_skip rfl ?_
        refine s_p rfl (y_pick rfl rfl) ?_
        refine s_nil (q_then ?_)
        refine c_t rfl rfl ?_
        refine c_seq ?_
        refine c_region ?_
        refine s_call rfl rfl H fun rv Sx_21 H2 => ?_
        clear H
        obtain ⟨t_30, rfl, H⟩ := H2
        refine s_p rfl (y_assign rfl) ?_
        refine s_nil (q_then ?_)
        refine c_ret (q_then_ret ?_)
        exact q_ret Tryd.results6 (rv_tmp rfl rv_nil) ⟨_, rfl, H⟩
      · refine s_p rfl (yF (y_eql rfl rfl) c_25) ?_
        refine s_p rfl (y_pick rfl rfl) ?_
        refine s_p rfl (y_move rfl) ?_
        refine s_p rfl (y_move rfl) ?_
        refine s_p rfl (y_len rfl) ?_
        replace H := ite_e H
        rcases H with ⟨c_26, H⟩ | ⟨c_26, H⟩
        · refine s_p rfl (yT (y_gtr rfl rfl) c_26) ?_
          refine s_p rfl (y_pick rfl rfl) ?_
          refine s_nil (q_then ?_)
          refine c_t rfl rfl ?_
          refine c_seq ?_
          refine c_region ?_
          refine s_call rfl rfl H fun rv Sx_22 H2 => ?_
          clear H
          obtain ⟨t_31, rfl, H⟩ := H2
          refine s_p rfl (y_assign rfl) ?_
          refine s_nil (q_then ?_)
          refine c_ret (q_then_ret ?_)
          exact q_ret Tryd.results6 (rv_tmp rfl rv_nil) ⟨_, rfl, H⟩
        · refine s_p rfl (yF (y_gtr rfl rfl) c_26) ?_
          refine s_p rfl (y_pick rfl rfl) ?_
          refine s_nil (q_then ?_)
          refine c_f rfl rfl ?_
          refine c_skip ?_
          exact hJx_8 () _ _ _ _ [] H rfl ⟨rfl, rfl, True.intro⟩ rfl
    · skip
      refine s_p rfl (yB (y_not rfl) rfl) ?_
      refine s_p rfl (y_move rfl) ?_
      refine s_skip rfl ?_
      refine s_skip rfl ?_
      refine s_skip rfl ?_
      refine s_p rfl (y_pick rfl rfl) ?_
      refine s_p rfl (y_move rfl) ?_
      refine s_skip rfl ?_
      refine s_skip rfl ?_
      refine s_skip rfl ?_
      refine s_p rfl (y_pick rfl rfl) ?_
      refine s_nil (q_then ?_)
      refine c_t rfl rfl ?_
      refine c_seq ?_
      refine c_region ?_
      refine s_call rfl rfl H fun rv Sx_23 H2 => ?_
      clear H
      obtain ⟨t_32, rfl, H⟩ := H2
      refine s_p rfl (y_assign rfl) ?_
      refine s_nil (q_then ?_)
      refine c_ret (q_then_ret ?_)
      exact q_ret Tryd.results6 (rv_tmp rfl rv_nil) ⟨_, rfl, H⟩
end Go.Proofs.YtpilffakhkagjaaDoor
