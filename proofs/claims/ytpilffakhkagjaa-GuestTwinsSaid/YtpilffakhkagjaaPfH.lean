/- PRINTED BY pt.py: functions. -/
import Derived.Test.YtpilffakhkagjaaPtS
namespace Go.Proofs.Ytpilffakhkagjaa
open Go Go.Pt
attribute [local irreducible] Code.wp Back bodyPost wpList FR WL WC WQ WA AW Tr Yc HC AllC
set_option maxRecDepth 20000
set_option maxHeartbeats 4000000
set_option linter.unusedVariables false
def b_hermitcrablaw15_awake (S : Mem) (Q : Bool → Mem → Prop) : Prop :=
  guest_Make S 1 4 fun t t_1 Sx =>
  t.all (·.oneCell') = true ∧
  if t_1 = 0 then
    gB (nthL t 0) fun t_2 =>
    if t_2 = true then
      gL (nthL t 1) fun t_3 =>
      if (t_3.n : Int) = 1 then
        gL (nthL t 1) fun t_4 =>
        sl t_4 fun b_1 o n n_1 =>
        (0 : Int) < (n : Nat) ∧
        gA (Sx.part b_1 o 26) fun t_5 =>
        fits [.i .u64, .i .u64, .i .u64, .i .u64, .i .u64, .i .u64, .i .u64, .i .u64, .i .u64, .i .u64, .i .u64, .i .u64, .i .u64, .i .u64, .i .u64, .i .u64, .i .u64, .i .u64, .i .u64, .i .u64, .i .u64, .i .u64, .b, .i .u8, .i .u32, .i .u32] t_5 = true ∧
        if (eqL t_5 ([.int .u64 0, .int .u64 0, .int .u64 0, .int .u64 0, .int .u64 0, .int .u64 0, .int .u64 0, .int .u64 0, .int .u64 0, .int .u64 0, .int .u64 0, .int .u64 0, .int .u64 0, .int .u64 0, .int .u64 0, .int .u64 0, .int .u64 0, .int .u64 0, .int .u64 0, .int .u64 0, .int .u64 0, .int .u64 0, .bool false, .int .u8 0, .int .u32 0, .int .u32 0])) = true then
          gI (nthL t 4) .i64 fun t_6 =>
          if t_6 = 4 then
            gL (nthL t 10) fun t_7 =>
            Q (decide ((t_7.n : Int) = 256)) Sx
          else
          Q false Sx
        else
        Q false Sx
      else
      Q false Sx
    else
    Q false Sx
  else
  Q false Sx
theorem t_hermitcrablaw15_awake {S : Mem} {Q : Bool → Mem → Prop} (H : b_hermitcrablaw15_awake S Q) : hermitcrablaw15_awake S Q := by
  unfold b_hermitcrablaw15_awake at H
  refine Tr.intro Try.func12 rfl Try.ntmps12 rfl fun w0 => ?_
  refine c_seq ?_
  refine c_region ?_
  refine s_p rfl (y_assign rfl) ?_
  refine s_nil (q_then ?_)
  refine c_seq ?_
  refine c_region ?_
  refine s_call rfl rfl H fun rv Sx H2 => ?_
  clear H
  obtain ⟨t, t_1, rfl, ht, H⟩ := H2
  refine s_p rfl (y_move rfl) ?_
  refine s_p rfl (y_extract rfl rfl) ?_
  refine s_p rfl (y_extract rfl rfl) ?_
  refine s_alloc rfl fun b => ?_
  obtain ⟨c, H⟩ := H
  refine s_stV_all 0 rfl rfl rfl rfl rfl ht rfl c ?_
  refine s_p rfl (y_assign rfl) ?_
  refine s_nil (q_then ?_)
  refine c_seq ?_
  refine c_region ?_
  refine s_p rfl (y_move rfl) ?_
  replace H := ite_e H
  rcases H with ⟨c_1, H⟩ | ⟨c_1, H⟩
  · refine s_p rfl (yT (y_eql rfl rfl) c_1) ?_
    refine s_p rfl (y_move rfl) ?_
    refine s_p rfl (y_fa rfl rfl) ?_
    obtain ⟨t_2, ht_2, H⟩ := H
    replace H := ib_e H
    rcases H with ⟨rfl, H⟩ | ⟨rfl, H⟩
    · refine s_v rfl (y_ld rfl) (hc_V 0 rfl ht_2) ?_
      refine s_p rfl (y_pick rfl rfl) ?_
      refine s_p rfl (y_move rfl) ?_
      refine s_p rfl (y_fa rfl rfl) ?_
      obtain ⟨t_3, ht_3, H⟩ := H
      refine s_v rfl (y_ld rfl) (hc_V 0 rfl ht_3) ?_
      refine s_p rfl (y_len rfl) ?_
      replace H := ite_e H
      rcases H with ⟨c_2, H⟩ | ⟨c_2, H⟩
      · refine s_p rfl (yT (y_eql rfl rfl) c_2) ?_
        refine s_p rfl (y_pick rfl rfl) ?_
        refine s_p rfl (y_move rfl) ?_
        refine s_p rfl (y_fa rfl rfl) ?_
        obtain ⟨t_4, ht_4, H⟩ := H
        refine s_v rfl (y_ld rfl) (hc_V 0 rfl ht_4) ?_
        obtain ⟨b_1, o, n, n_1, rfl, H⟩ := H
        obtain ⟨c_4, H⟩ := H
        refine s_p rfl (y_ixL rfl rfl (by decide) c_4 rfl) ?_
        obtain ⟨t_5, ht_5, H⟩ := H
        refine s_v rfl (y_ldA rfl (part_len ht_5)) (hc_SP ht_5) ?_
        refine s_p rfl (y_build rfl rfl) ?_
        obtain ⟨c_5, H⟩ := H
        replace H := ite_e H
        rcases H with ⟨c_7, H⟩ | ⟨c_7, H⟩
        · refine s_p rfl (yB (y_eqA rfl rfl c_5 rfl) c_7) ?_
          refine s_p rfl (y_pick rfl rfl) ?_
          refine s_p rfl (y_move rfl) ?_
          refine s_p rfl (y_fa rfl rfl) ?_
          obtain ⟨t_6, ht_6, H⟩ := H
          refine s_v rfl (y_ld rfl) (hc_V 0 rfl ht_6) ?_
          replace H := ite_e H
          rcases H with ⟨c_8, H⟩ | ⟨c_8, H⟩
          · refine s_p rfl (yT (y_eql rfl rfl) c_8) ?_
            refine s_p rfl (y_pick rfl rfl) ?_
            refine s_p rfl (y_move rfl) ?_
            refine s_p rfl (y_fa rfl rfl) ?_
            refine s_p rfl (y_ixA rfl rfl (by decide) (by decide) rfl) ?_
            obtain ⟨t_7, ht_7, H⟩ := H
            refine s_v rfl (y_ld rfl) (hc_V 0 rfl ht_7) ?_
            refine s_p rfl (y_len rfl) ?_
            refine s_p rfl (y_eql rfl rfl) ?_
            refine s_p rfl (y_pick rfl rfl) ?_
            refine s_p rfl (y_assign rfl) ?_
            refine s_nil (q_then ?_)
            refine c_ret ?_
            exact q_ret Try.results12 (rv_tmp rfl rv_nil) ⟨_, rfl, H⟩
          · refine s_p rfl (yF (y_eql rfl rfl) c_8) ?_
            refine s_p rfl (y_pick rfl rfl) ?_
            refine s_p rfl (y_move rfl) ?_
            refine s_skip rfl ?_
            refine s_skip rfl ?_
            refine s_skip rfl ?_
            refine s_skip rfl ?_
            refine s_skip rfl ?_
            refine s_p rfl (y_pick rfl rfl) ?_
            refine s_p rfl (y_assign rfl) ?_
            refine s_nil (q_then ?_)
            refine c_ret ?_
            exact q_ret Try.results12 (rv_tmp rfl rv_nil) ⟨_, rfl, H⟩
        · refine s_p rfl (yB (y_eqA rfl rfl c_5 rfl) (bf_of c_7)) ?_
          refine s_p rfl (y_pick rfl rfl) ?_
          refine s_p rfl (y_move rfl) ?_
          refine s_skip rfl ?_
          refine s_skip rfl ?_
          refine s_skip rfl ?_
          refine s_p rfl (y_pick rfl rfl) ?_
          refine s_p rfl (y_move rfl) ?_
          refine s_skip rfl ?_
          refine s_skip rfl ?_
          refine s_skip rfl ?_
          refine s_skip rfl ?_
          refine s_skip rfl ?_
          refine s_p rfl (y_pick rfl rfl) ?_
          refine s_p rfl (y_assign rfl) ?_
          refine s_nil (q_then ?_)
          refine c_ret ?_
          exact q_ret Try.results12 (rv_tmp rfl rv_nil) ⟨_, rfl, H⟩
      · refine s_p rfl (yF (y_eql rfl rfl) c_2) ?_
        refine s_p rfl (y_pick rfl rfl) ?_
        refine s_p rfl (y_move rfl) ?_
        refine s_skip rfl ?_
        refine s_skip rfl ?_
        refine s_skip rfl ?_
        refine s_skip rfl ?_
        refine s_skip rfl ?_
        refine s_skip rfl ?_
        refine s_p rfl (y_pick rfl rfl) ?_
        refine s_p rfl (y_move rfl) ?_
        refine s_skip rfl ?_
        refine s_skip rfl ?_
        refine s_skip rfl ?_
        refine s_p rfl (y_pick rfl rfl) ?_
        refine s_p rfl (y_move rfl) ?_
        refine s_skip rfl ?_
        refine s_skip rfl ?_
        refine s_skip rfl ?_
        refine s_skip rfl ?_
        refine s_skip rfl ?_
        refine s_p rfl (y_pick rfl rfl) ?_
        refine s_p rfl (y_assign rfl) ?_
        refine s_nil (q_then ?_)
        refine c_ret ?_
        exact q_ret Try.results12 (rv_tmp rfl rv_nil) ⟨_, rfl, H⟩
    · refine s_v rfl (y_ld rfl) (hc_V 0 rfl ht_2) ?_
      refine s_p rfl (y_pick rfl rfl) ?_
      refine s_p rfl (y_move rfl) ?_
      refine s_skip rfl ?_
      refine s_skip rfl ?_
      refine s_skip rfl ?_
      refine s_skip rfl ?_
      refine s_p rfl (y_pick rfl rfl) ?_
      refine s_p rfl (y_move rfl) ?_
      refine s_skip rfl ?_
      refine s_skip rfl ?_
      refine s_skip rfl ?_
      refine s_skip rfl ?_
      refine s_skip rfl ?_
      refine s_skip rfl ?_
      refine s_p rfl (y_pick rfl rfl) ?_
      refine s_p rfl (y_move rfl) ?_
      refine s_skip rfl ?_
      refine s_skip rfl ?_
      refine s_skip rfl ?_
      refine s_p rfl (y_pick rfl rfl) ?_
      refine s_p rfl (y_move rfl) ?_
      refine s_skip rfl ?_
      refine s_skip rfl ?_
      refine s_skip rfl ?_
      refine s_skip rfl ?_
      refine s_skip rfl ?_
      refine s_p rfl (y_pick rfl rfl) ?_
      refine s_p rfl (y_assign rfl) ?_
      refine s_nil (q_then ?_)
      refine c_ret ?_
      exact q_ret Try.results12 (rv_tmp rfl rv_nil) ⟨_, rfl, H⟩
  · refine s_p rfl (yF (y_eql rfl rfl) c_1) ?_
    refine s_p rfl (y_move rfl) ?_
    refine s_skip rfl ?_
    refine s_skip rfl ?_
    refine s_p rfl (y_pick rfl rfl) ?_
    refine s_p rfl (y_move rfl) ?_
    refine s_skip rfl ?_
    refine s_skip rfl ?_
    refine s_skip rfl ?_
    refine s_skip rfl ?_
    refine s_p rfl (y_pick rfl rfl) ?_
    refine s_p rfl (y_move rfl) ?_
    refine s_skip rfl ?_
    refine s_skip rfl ?_
    refine s_skip rfl ?_
    refine s_skip rfl ?_
    refine s_skip rfl ?_
    refine s_skip rfl ?_
    refine s_p rfl (y_pick rfl rfl) ?_
    refine s_p rfl (y_move rfl) ?_
    refine s_skip rfl ?_
    refine s_skip rfl ?_
    refine s_skip rfl ?_
    refine s_p rfl (y_pick rfl rfl) ?_
    refine s_p rfl (y_move rfl) ?_
    refine s_skip rfl ?_
    refine s_skip rfl ?_
    refine s_skip rfl ?_
    refine s_skip rfl ?_
    refine s_skip rfl ?_
    refine s_p rfl (y_pick rfl rfl) ?_
    refine s_p rfl (y_assign rfl) ?_
    refine s_nil (q_then ?_)
    refine c_ret ?_
    exact q_ret Try.results12 (rv_tmp rfl rv_nil) ⟨_, rfl, H⟩
def b_hermitcrablaw15_state (S : Mem) (d : List Value) (Q : Pt → Mem → Prop) : Prop :=
  d.length = 45 ∧
  guest_New S 1 20 fun t Sx =>
  jn (fun (Sx_1 : Mem) =>
      gI (nthL d 19) .u64 fun t_1 =>
      nn t fun b_1 o =>
      pt Sx_1 b_1 (o + 1) 1 ([.int .u64 t_1]) fun Sx_2 =>
      jn (fun (Sx_3 : Mem) =>
          Q (some (b_1, o)) Sx_3) fun Jx =>
      lp (fun Xx (i : Int) (Sx_4 : Mem) =>
          jn (fun (Sx_5 : Mem) =>
              jn (fun (Sx_6 : Mem) =>
                  Xx (IntKind.i64.wrap (i + 1)) Sx_6) fun Jx_1 =>
              jn (fun (Sx_7 : Mem) =>
                  0 ≤ i ∧ i < 6 ∧
                  gI (nthL d (6 + i.toNat * 1)) .u8 fun t_2 =>
                  guest_Make Sx_7 (IntKind.i64.wrap (1 + (IntKind.i64.wrap (Int.tmod t_2 3)))) 8 fun t_3 t_4 Sx_8 =>
                  t_3.all (·.oneCell') = true ∧
                  jn (fun (Sx_9 : Mem) =>
                      gL (nthL d 12) fun t_5 =>
                      sp Sx_9 t_5 1 fun vs =>
                      ap Sx_9 5 1 1 [.int .u8 0] (⟨none, 0, 0⟩) t_5.n vs fun t_6 Sx_10 =>
                      0 ≤ i ∧ i < 6 ∧
                      gI (nthL d (13 + i.toNat * 1)) .u32 fun t_7 =>
                      0 ≤ i ∧ i < 6 ∧
                      gI (nthL d (20 + i.toNat * 1)) .u64 fun t_8 =>
                      jn (fun (Sx_11 : Mem) =>
                          0 ≤ i ∧ i < 6 ∧
                          (spl (spl (spl t_3 6 ([eL t_6])) 11 ([.int .u32 (Int.tmod t_7 64)])) 5 ([.int .u64 t_8])).all (·.oneCell') = true ∧
                          pt Sx_11 b_1 (o + 2 + i.toNat * 12) 12 (spl (spl (spl t_3 6 ([eL t_6])) 11 ([.int .u32 (Int.tmod t_7 64)])) 5 ([.int .u64 t_8])) fun Sx_12 =>
                          gP (Sx_12.cell b_1 (o + 74)) fun t_9 =>
                          owner_Book_Donate Sx_12 t_9 i i 0 fun t_10 Sx_13 =>
                          gP (Sx_13.cell b_1 (o + 171)) fun t_11 =>
                          gI (nthL d 26) .u64 fun t_12 =>
                          alarm_Clock_Set Sx_13 t_11 i 0 t_12 fun t_13 Sx_14 =>
                          Jx_1 Sx_14) fun Jx_2 =>
                      lp (fun Xx_1 (k : Int) (Sx_15 : Mem) =>
                          jn (fun (Sx_16 : Mem) =>
                              gL (nthL (spl (spl (spl t_3 6 ([eL t_6])) 11 ([.int .u32 (Int.tmod t_7 64)])) 5 ([.int .u64 t_8])) 1) fun t_14 =>
                              gI (nthL d 26) .u64 fun t_15 =>
                              sl t_14 fun b_3 o_1 n n_1 =>
                              0 ≤ k ∧ k < ((n : Nat) : Int) ∧
                              pt Sx_16 b_3 (o_1 + k.toNat * 26 + 3) 1 ([.int .u64 t_15]) fun Sx_17 =>
                              gL (nthL (spl (spl (spl t_3 6 ([eL t_6])) 11 ([.int .u32 (Int.tmod t_7 64)])) 5 ([.int .u64 t_8])) 1) fun t_16 =>
                              0 ≤ IntKind.i64.wrap ((IntKind.i64.wrap (3 * i)) + k) ∧ IntKind.i64.wrap ((IntKind.i64.wrap (3 * i)) + k) < 18 ∧
                              gI (nthL d (27 + (IntKind.i64.wrap ((IntKind.i64.wrap (3 * i)) + k)).toNat * 1)) .u8 fun t_17 =>
                              sl t_16 fun b_4 o_2 n_2 n_3 =>
                              0 ≤ k ∧ k < ((n_2 : Nat) : Int) ∧
                              pt Sx_17 b_4 (o_2 + k.toNat * 26 + 23) 1 ([.int .u8 (Int.tmod t_17 3)]) fun Sx_18 =>
                              Xx_1 (IntKind.i64.wrap (k + 1)) Sx_18) fun Jx_3 =>
                          gL (nthL (spl (spl (spl t_3 6 ([eL t_6])) 11 ([.int .u32 (Int.tmod t_7 64)])) 5 ([.int .u64 t_8])) 1) fun t_18 =>
                          if k < (t_18.n : Int) then
                            Jx_3 Sx_15
                          else
                          Jx_2 Sx_15) 0 Sx_10) fun Jx_4 =>
                  if t_4 ≠ 0 then
                    Q none Sx_8
                  else
                  Jx_4 Sx_8) fun Jx_5 =>
              0 ≤ i ∧ i < 6 ∧
              gB (nthL d (0 + i.toNat * 1)) fun t_19 =>
              if t_19 = true then
                Jx_5 Sx_5
              else
              Jx_1 Sx_5) fun Jx_6 =>
          if i < 6 then
            Jx_6 Sx_4
          else
          Jx Sx_4) 0 Sx_2) fun Jx_7 =>
  if t = none then
    Q none Sx
  else
  nn t fun b_5 o_3 =>
  gP (Sx.cell b_5 (o_3 + 74)) fun t_20 =>
  if t_20 = none then
    Q none Sx
  else
  gP (Sx.cell b_5 (o_3 + 171)) fun t_21 =>
  if t_21 = none then
    Q none Sx
  else
  Jx_7 Sx
theorem t_hermitcrablaw15_state {S : Mem} {d : List Value} {Q : Pt → Mem → Prop} (H : b_hermitcrablaw15_state S d Q) : hermitcrablaw15_state S d Q := by
  unfold b_hermitcrablaw15_state at H
  refine Tr.intro Try.func19 rfl Try.ntmps19 rfl fun w0 => ?_
  obtain ⟨hd, H⟩ := H
  refine c_seq ?_
  refine c_region ?_
  refine s_box rfl rfl rfl fun b => ?_
  refine s_p rfl (y_assign rfl) ?_
  refine s_nil (q_then ?_)
  refine c_seq ?_
  refine c_region ?_
  refine s_call rfl rfl H fun rv Sx H2 => ?_
  clear H
  obtain ⟨t, rfl, H⟩ := H2
  refine s_p rfl (y_assign rfl) ?_
  refine s_nil (q_then ?_)
  refine c_join2 H (fun (J : Mem → Prop) (z : Unit) S => J S) (fun z => ⟨117, [(1, .pointer (some ⟨b, 0, none⟩)), (3, eP t)]⟩) (fun z => [⟨b, 52, d⟩]) ?_ ?_
  · clear H
    rintro _ Sx_1 H
    refine c_seq ?_
    refine c_region ?_
    refine s_p rfl (y_move rfl) ?_
    refine s_p rfl (y_fa rfl rfl) ?_
    obtain ⟨t_1, ht_1, H⟩ := H
    refine s_v rfl (y_ld rfl) (hc_V 0 rfl ht_1) ?_
    obtain ⟨b_1, o, rfl, H⟩ := H
    refine s_p rfl (y_nc rfl) ?_
    refine s_p rfl (y_fa rfl rfl) ?_
    obtain ⟨c, H⟩ := H
    refine s_stS rfl rfl rfl rfl rfl c rfl ?_
    refine s_nil (q_then ?_)
    refine c_join2 H (fun (J : Mem → Prop) (z : Unit) S => J S) (fun z => ⟨117, [(3, .pointer (some ⟨b_1, o, none⟩))]⟩) (fun z => []) ?_ ?_
    · clear H
      rintro _ Sx_3 H
      refine c_seq ?_
      refine c_region ?_
      refine s_p rfl (y_move rfl) ?_
      refine s_p rfl (y_assign rfl) ?_
      refine s_nil (q_then ?_)
      refine c_ret ?_
      exact q_ret Try.results19 (rv_tmp rfl rv_nil) ⟨_, rfl, H⟩
    · clear H
      intro Jx hJx H
      refine c_seq ?_
      refine c_region ?_
      refine s_p rfl (y_assign rfl) ?_
      refine s_nil (q_then ?_)
      refine c_block ?_
      refine c_loop (fun z => ⟨117, [(1, .pointer (some ⟨b, 0, none⟩)), (3, .pointer (some ⟨b_1, o, none⟩)), (4, .int .i64 z)]⟩) (fun z => [⟨b, 52, d⟩]) 0 (idx := [0]) H rfl ⟨rfl, rfl, rfl, True.intro⟩ rfl ?_
      clear H
      rintro Xx hXx i Sx_4 H
      refine c_join2 H (fun (J : Mem → Prop) (z : Unit) S => J S) (fun z => ⟨117, [(1, .pointer (some ⟨b, 0, none⟩)), (3, .pointer (some ⟨b_1, o, none⟩)), (4, .int .i64 i)]⟩) (fun z => [⟨b, 52, d⟩]) ?_ ?_
      · clear H
        rintro _ Sx_5 H
        refine c_join2 H (fun (J : Mem → Prop) (z : Unit) S => J S) (fun z => ⟨117, [(1, .pointer (some ⟨b, 0, none⟩)), (3, .pointer (some ⟨b_1, o, none⟩)), (4, .int .i64 i)]⟩) (fun z => [⟨b, 52, d⟩]) ?_ ?_
        · clear H
          rintro _ Sx_6 H
          refine c_region ?_
          refine s_p rfl (y_move rfl) ?_
          refine s_p rfl (y_add rfl rfl) ?_
          refine s_p rfl (y_assign rfl) ?_
          refine s_nil ?_
          exact hXx (IntKind.i64.wrap (i + 1)) _ _ _ _ [0] H rfl ⟨rfl, rfl, rfl, True.intro⟩ rfl
        · clear H
          intro Jx_1 hJx_1 H
          refine c_block ?_
          refine c_join2 H (fun (J : Mem → Prop) (z : Unit) S => J S) (fun z => ⟨117, [(1, .pointer (some ⟨b, 0, none⟩)), (3, .pointer (some ⟨b_1, o, none⟩)), (4, .int .i64 i)]⟩) (fun z => [⟨b, 52, d⟩]) ?_ ?_
          · clear H
            rintro _ Sx_7 H
            refine c_seq ?_
            refine c_region ?_
            refine s_p rfl (y_move rfl) ?_
            refine s_p rfl (y_fa rfl rfl) ?_
            obtain ⟨c_1, c_2, H⟩ := H
            refine s_p rfl (y_ixA rfl rfl c_1 c_2 rfl) ?_
            obtain ⟨t_2, ht_2, H⟩ := H
            refine s_v rfl (y_ld rfl) (hc_V 0 rfl ht_2) ?_
            refine s_p rfl (y_rem rfl rfl (by decide)) ?_
            refine s_p rfl (y_conv ⟨_, Try.underlying5⟩ rfl) ?_
            refine s_p rfl (y_add rfl rfl) ?_
            refine s_call rfl rfl H fun rv Sx_8 H2 => ?_
            clear H
            obtain ⟨t_3, t_4, rfl, ht_3, H⟩ := H2
            refine s_p rfl (y_move rfl) ?_
            refine s_p rfl (y_extract rfl rfl) ?_
            refine s_p rfl (y_extract rfl rfl) ?_
            refine s_alloc rfl fun b_2 => ?_
            obtain ⟨c_3, H⟩ := H
            refine s_stV_all 1 rfl rfl rfl rfl rfl ht_3 rfl c_3 ?_
            refine s_p rfl (y_assign rfl) ?_
            refine s_nil (q_then ?_)
            refine c_join2 H (fun (J : Mem → Prop) (z : Unit) S => J S) (fun z => ⟨117, [(1, .pointer (some ⟨b, 0, none⟩)), (3, .pointer (some ⟨b_1, o, none⟩)), (4, .int .i64 i), (5, .pointer (some ⟨b_2, 0, none⟩))]⟩) (fun z => [⟨b, 52, d⟩, ⟨b_2, 31, t_3⟩]) ?_ ?_
            · clear H
              rintro _ Sx_9 H
              refine c_seq ?_
              refine c_region ?_
              refine s_p rfl (y_fa rfl rfl) ?_
              obtain ⟨t_5, ht_5, H⟩ := H
              refine s_v rfl (y_ld rfl) (hc_V 0 rfl ht_5) ?_
              obtain ⟨vs, h, c_4, H⟩ := H
              refine s_app (sx := ⟨none, 0, 0⟩) (vs := vs) rfl rfl rfl ((fc_sp h).1) ((fc_sp (P := Try.prog) (w0 := w0) (S0 := S) (V := []) h).2) c_4 (by decide) H fun t_6 Sx_10 H2 => ?_
              replace H := H2
              refine s_p rfl (y_fa rfl rfl) ?_
              refine s_stV (sz := 1) (vs := [eL t_6]) 1 rfl rfl rfl rfl rfl rfl (fit_of ht_3 (by omega)) rfl ?_
              refine s_nil (q_then ?_)
              refine c_seq ?_
              refine c_region ?_
              refine s_p rfl (y_move rfl) ?_
              refine s_p rfl (y_fa rfl rfl) ?_
              obtain ⟨c_5, c_6, H⟩ := H
              refine s_p rfl (y_ixA rfl rfl c_5 c_6 rfl) ?_
              obtain ⟨t_7, ht_7, H⟩ := H
              refine s_v rfl (y_ld rfl) (hc_V 0 rfl ht_7) ?_
              refine s_p rfl (y_rem rfl rfl (by decide)) ?_
              refine s_p rfl (y_fa rfl rfl) ?_
              refine s_stV (sz := 1) (vs := [.int .u32 (Int.tmod t_7 64)]) 1 rfl rfl rfl rfl rfl rfl (fit_of (spl_ln ht_3 (by have := True.intro; simp only [List.length_cons, List.length_nil]; omega)) (by omega)) rfl ?_
              refine s_nil (q_then ?_)
              refine c_seq ?_
              refine c_region ?_
              refine s_p rfl (y_move rfl) ?_
              refine s_p rfl (y_fa rfl rfl) ?_
              obtain ⟨c_7, c_8, H⟩ := H
              refine s_p rfl (y_ixA rfl rfl c_7 c_8 rfl) ?_
              obtain ⟨t_8, ht_8, H⟩ := H
              refine s_v rfl (y_ld rfl) (hc_V 0 rfl ht_8) ?_
              refine s_p rfl (y_fa rfl rfl) ?_
              refine s_stV (sz := 1) (vs := [.int .u64 t_8]) 1 rfl rfl rfl rfl rfl rfl (fit_of (spl_ln (spl_ln ht_3 (by have := True.intro; simp only [List.length_cons, List.length_nil]; omega)) (by have := True.intro; simp only [List.length_cons, List.length_nil]; omega)) (by omega)) rfl ?_
              refine s_nil (q_then ?_)
              refine c_join2 H (fun (J : Mem → Prop) (z : Unit) S => J S) (fun z => ⟨117, [(1, .pointer (some ⟨b, 0, none⟩)), (3, .pointer (some ⟨b_1, o, none⟩)), (4, .int .i64 i), (5, .pointer (some ⟨b_2, 0, none⟩))]⟩) (fun z => [⟨b, 52, d⟩, ⟨b_2, 31, spl (spl (spl t_3 6 ([eL t_6])) 11 ([.int .u32 (Int.tmod t_7 64)])) 5 ([.int .u64 t_8])⟩]) ?_ ?_
              · clear H
                rintro _ Sx_11 H
                refine c_seq ?_
                refine c_drawn (by kernel_rfl) ?_
                refine a_takeP 0 rfl (by decide +kernel) (np_then (np_blk (np_then (np_then (np_blk (np_then np_body)))))) rfl (y_move rfl) ?_
                refine a_takeP 1 rfl (by decide +kernel) (np_then (np_blk (np_then (np_then (np_blk (np_then np_body)))))) rfl (y_move rfl) ?_
                refine a_take 2 rfl (by decide +kernel) (np_then (np_blk (np_then (np_then (np_blk (np_then np_body)))))) rfl (y_ldA rfl (spl_ln (spl_ln (spl_ln ht_3 (by have := True.intro; simp only [List.length_cons, List.length_nil]; omega)) (by have := True.intro; simp only [List.length_cons, List.length_nil]; omega)) (by have := True.intro; simp only [List.length_cons, List.length_nil]; omega))) (hc_VP (k := 12) 1 rfl (lpart_all (spl_ln (spl_ln (spl_ln ht_3 (by have := True.intro; simp only [List.length_cons, List.length_nil]; omega)) (by have := True.intro; simp only [List.length_cons, List.length_nil]; omega)) (by have := True.intro; simp only [List.length_cons, List.length_nil]; omega)))) ?_
                refine a_takeP 3 rfl (by decide +kernel) (np_then (np_blk (np_then (np_then (np_blk (np_then np_body)))))) rfl (y_nc rfl) ?_
                refine a_takeP 4 rfl (by decide +kernel) (np_then (np_blk (np_then (np_then (np_blk (np_then np_body)))))) rfl (y_fa rfl rfl) ?_
                obtain ⟨c_9, c_10, H⟩ := H
                refine a_takeP 5 rfl (by decide +kernel) (np_then (np_blk (np_then (np_then (np_blk (np_then np_body)))))) rfl (y_ixA rfl rfl c_9 c_10 rfl) ?_
                refine a_step 6 (by decide +kernel) rfl ?_
                obtain ⟨c_11, H⟩ := H
                obtain ⟨c_12, H⟩ := H
                refine s_stS rfl rfl rfl rfl (spl_ln (spl_ln (spl_ln ht_3 (by have := True.intro; simp only [List.length_cons, List.length_nil]; omega)) (by have := True.intro; simp only [List.length_cons, List.length_nil]; omega)) (by have := True.intro; simp only [List.length_cons, List.length_nil]; omega)) c_12 c_11 ?_
                refine s_nil (q_any ac_nil ?_)
                refine a_done (by decide +kernel) ?_
                refine q_then ?_
                refine c_seq ?_
                refine c_region ?_
                refine s_p rfl (y_move rfl) ?_
                refine s_p rfl (y_nc rfl) ?_
                refine s_p rfl (y_fa rfl rfl) ?_
                obtain ⟨t_9, ht_9, H⟩ := H
                refine s_v rfl (y_ld rfl) (hc_S ht_9) ?_
                refine s_p rfl (y_move rfl) ?_
                refine s_p rfl (y_move rfl) ?_
                refine s_call rfl rfl H fun rv Sx_13 H2 => ?_
                clear H
                obtain ⟨t_10, rfl, H⟩ := H2
                refine s_nil (q_then ?_)
                refine c_drawn (by kernel_rfl) ?_
                refine a_takeP 0 rfl (by decide +kernel) (np_blk (np_then (np_then (np_blk (np_then np_body))))) rfl (y_move rfl) ?_
                refine a_takeP 1 rfl (by decide +kernel) (np_blk (np_then (np_then (np_blk (np_then np_body))))) rfl (y_nc rfl) ?_
                refine a_takeP 2 rfl (by decide +kernel) (np_blk (np_then (np_then (np_blk (np_then np_body))))) rfl (y_fa rfl rfl) ?_
                obtain ⟨t_11, ht_11, H⟩ := H
                refine a_take 3 rfl (by decide +kernel) (np_blk (np_then (np_then (np_blk (np_then np_body))))) rfl (y_ld rfl) (hc_S ht_11) ?_
                refine a_takeP 4 rfl (by decide +kernel) (np_blk (np_then (np_then (np_blk (np_then np_body))))) rfl (y_move rfl) ?_
                refine a_takeP 5 rfl (by decide +kernel) (np_blk (np_then (np_then (np_blk (np_then np_body))))) rfl (y_fa rfl rfl) ?_
                obtain ⟨t_12, ht_12, H⟩ := H
                refine a_take 6 rfl (by decide +kernel) (np_blk (np_then (np_then (np_blk (np_then np_body))))) rfl (y_ld rfl) (hc_V 0 rfl ht_12) ?_
                refine a_step 7 (by decide +kernel) rfl ?_
                refine s_call rfl rfl H fun rv Sx_14 H2 => ?_
                clear H
                obtain ⟨t_13, rfl, H⟩ := H2
                refine s_nil (q_any ac_nil ?_)
                refine a_done (by decide +kernel) ?_
                refine q_blk ?_
                exact hJx_1 () _ _ _ _ [0] H rfl ⟨rfl, rfl, rfl, True.intro⟩ rfl
              · clear H
                intro Jx_2 hJx_2 H
                refine c_seq ?_
                refine c_region ?_
                refine s_p rfl (y_assign rfl) ?_
                refine s_nil (q_then ?_)
                refine c_block ?_
                refine c_loop (fun z => ⟨117, [(1, .pointer (some ⟨b, 0, none⟩)), (3, .pointer (some ⟨b_1, o, none⟩)), (4, .int .i64 i), (5, .pointer (some ⟨b_2, 0, none⟩)), (7, .int .i64 z)]⟩) (fun z => [⟨b, 52, d⟩, ⟨b_2, 31, spl (spl (spl t_3 6 ([eL t_6])) 11 ([.int .u32 (Int.tmod t_7 64)])) 5 ([.int .u64 t_8])⟩]) 0 (idx := [0, 0]) H rfl ⟨rfl, rfl, rfl, rfl, rfl, True.intro⟩ rfl ?_
                clear H
                rintro Xx_1 hXx_1 k Sx_15 H
                refine c_join2 H (fun (J : Mem → Prop) (z : Unit) S => J S) (fun z => ⟨117, [(1, .pointer (some ⟨b, 0, none⟩)), (3, .pointer (some ⟨b_1, o, none⟩)), (4, .int .i64 i), (5, .pointer (some ⟨b_2, 0, none⟩)), (7, .int .i64 k)]⟩) (fun z => [⟨b, 52, d⟩, ⟨b_2, 31, spl (spl (spl t_3 6 ([eL t_6])) 11 ([.int .u32 (Int.tmod t_7 64)])) 5 ([.int .u64 t_8])⟩]) ?_ ?_
                · clear H
                  rintro _ Sx_16 H
                  refine c_seq ?_
                  refine c_block ?_
                  refine c_seq ?_
                  refine c_drawn (by kernel_rfl) ?_
                  refine a_takeP 0 rfl (by decide +kernel) (np_then (np_blk (np_then (np_then (np_blk (np_then (np_blk (np_then (np_then (np_blk (np_then np_body))))))))))) rfl (y_fa rfl rfl) ?_
                  obtain ⟨t_14, ht_14, H⟩ := H
                  refine a_take 1 rfl (by decide +kernel) (np_then (np_blk (np_then (np_then (np_blk (np_then (np_blk (np_then (np_then (np_blk (np_then np_body))))))))))) rfl (y_ld rfl) (hc_V 1 rfl ht_14) ?_
                  refine a_takeP 2 rfl (by decide +kernel) (np_then (np_blk (np_then (np_then (np_blk (np_then (np_blk (np_then (np_then (np_blk (np_then np_body))))))))))) rfl (y_move rfl) ?_
                  refine a_takeP 3 rfl (by decide +kernel) (np_then (np_blk (np_then (np_then (np_blk (np_then (np_blk (np_then (np_then (np_blk (np_then np_body))))))))))) rfl (y_fa rfl rfl) ?_
                  obtain ⟨t_15, ht_15, H⟩ := H
                  refine a_take 4 rfl (by decide +kernel) (np_then (np_blk (np_then (np_then (np_blk (np_then (np_blk (np_then (np_then (np_blk (np_then np_body))))))))))) rfl (y_ld rfl) (hc_V 0 rfl ht_15) ?_
                  obtain ⟨b_3, o_1, n, n_1, rfl, H⟩ := H
                  obtain ⟨c_13, c_14, H⟩ := H
                  refine a_takeP 5 rfl (by decide +kernel) (np_then (np_blk (np_then (np_then (np_blk (np_then (np_blk (np_then (np_then (np_blk (np_then np_body))))))))))) rfl (y_ixL rfl rfl c_13 c_14 rfl) ?_
                  refine a_takeP 6 rfl (by decide +kernel) (np_then (np_blk (np_then (np_then (np_blk (np_then (np_blk (np_then (np_then (np_blk (np_then np_body))))))))))) rfl (y_fa rfl rfl) ?_
                  refine a_takeP 7 rfl (by decide +kernel) (np_then (np_blk (np_then (np_then (np_blk (np_then (np_blk (np_then (np_then (np_blk (np_then np_body))))))))))) rfl (y_ixA rfl rfl (by decide) (by decide) rfl) ?_
                  refine a_step 8 (by decide +kernel) rfl ?_
                  obtain ⟨c_15, H⟩ := H
                  refine s_stS rfl rfl rfl rfl rfl c_15 rfl ?_
                  refine s_nil (q_any ac_nil ?_)
                  refine a_done (by decide +kernel) ?_
                  refine q_then ?_
                  refine c_drawn (by kernel_rfl) ?_
                  refine a_takeP 0 rfl (by decide +kernel) (np_blk (np_then (np_then (np_blk (np_then (np_blk (np_then (np_then (np_blk (np_then np_body)))))))))) rfl (y_fa rfl rfl) ?_
                  obtain ⟨t_16, ht_16, H⟩ := H
                  refine a_take 1 rfl (by decide +kernel) (np_blk (np_then (np_then (np_blk (np_then (np_blk (np_then (np_then (np_blk (np_then np_body)))))))))) rfl (y_ld rfl) (hc_V 1 rfl ht_16) ?_
                  refine a_takeP 2 rfl (by decide +kernel) (np_blk (np_then (np_then (np_blk (np_then (np_blk (np_then (np_then (np_blk (np_then np_body)))))))))) rfl (y_move rfl) ?_
                  refine a_takeP 3 rfl (by decide +kernel) (np_blk (np_then (np_then (np_blk (np_then (np_blk (np_then (np_then (np_blk (np_then np_body)))))))))) rfl (y_move rfl) ?_
                  refine a_takeP 4 rfl (by decide +kernel) (np_blk (np_then (np_then (np_blk (np_then (np_blk (np_then (np_then (np_blk (np_then np_body)))))))))) rfl (y_mul rfl rfl) ?_
                  refine a_takeP 5 rfl (by decide +kernel) (np_blk (np_then (np_then (np_blk (np_then (np_blk (np_then (np_then (np_blk (np_then np_body)))))))))) rfl (y_move rfl) ?_
                  refine a_takeP 6 rfl (by decide +kernel) (np_blk (np_then (np_then (np_blk (np_then (np_blk (np_then (np_then (np_blk (np_then np_body)))))))))) rfl (y_add rfl rfl) ?_
                  refine a_takeP 7 rfl (by decide +kernel) (np_blk (np_then (np_then (np_blk (np_then (np_blk (np_then (np_then (np_blk (np_then np_body)))))))))) rfl (y_fa rfl rfl) ?_
                  obtain ⟨c_16, c_17, H⟩ := H
                  refine a_takeP 8 rfl (by decide +kernel) (np_blk (np_then (np_then (np_blk (np_then (np_blk (np_then (np_then (np_blk (np_then np_body)))))))))) rfl (y_ixA rfl rfl c_16 c_17 rfl) ?_
                  obtain ⟨t_17, ht_17, H⟩ := H
                  refine a_take 9 rfl (by decide +kernel) (np_blk (np_then (np_then (np_blk (np_then (np_blk (np_then (np_then (np_blk (np_then np_body)))))))))) rfl (y_ld rfl) (hc_V 0 rfl ht_17) ?_
                  refine a_takeP 10 rfl (by decide +kernel) (np_blk (np_then (np_then (np_blk (np_then (np_blk (np_then (np_then (np_blk (np_then np_body)))))))))) rfl (y_rem rfl rfl (by decide)) ?_
                  obtain ⟨b_4, o_2, n_2, n_3, rfl, H⟩ := H
                  obtain ⟨c_18, c_19, H⟩ := H
                  refine a_takeP 11 rfl (by decide +kernel) (np_blk (np_then (np_then (np_blk (np_then (np_blk (np_then (np_then (np_blk (np_then np_body)))))))))) rfl (y_ixL rfl rfl c_18 c_19 rfl) ?_
                  refine a_takeP 12 rfl (by decide +kernel) (np_blk (np_then (np_then (np_blk (np_then (np_blk (np_then (np_then (np_blk (np_then np_body)))))))))) rfl (y_fa rfl rfl) ?_
                  refine a_step 13 (by decide +kernel) rfl ?_
                  obtain ⟨c_20, H⟩ := H
                  refine s_stS rfl rfl rfl rfl rfl c_20 rfl ?_
                  refine s_nil (q_any ac_nil ?_)
                  refine a_done (by decide +kernel) ?_
                  refine q_blk (q_then ?_)
                  refine c_region ?_
                  refine s_p rfl (y_move rfl) ?_
                  refine s_p rfl (y_add rfl rfl) ?_
                  refine s_p rfl (y_assign rfl) ?_
                  refine s_nil ?_
                  exact hXx_1 (IntKind.i64.wrap (k + 1)) _ _ _ _ [0, 0] H rfl ⟨rfl, rfl, rfl, rfl, rfl, True.intro⟩ rfl
                · clear H
                  intro Jx_3 hJx_3 H
                  refine c_seq ?_
                  refine c_region ?_
                  refine s_p rfl (y_move rfl) ?_
                  refine s_p rfl (y_fa rfl rfl) ?_
                  obtain ⟨t_18, ht_18, H⟩ := H
                  refine s_v rfl (y_ld rfl) (hc_V 1 rfl ht_18) ?_
                  refine s_p rfl (y_len rfl) ?_
                  replace H := ite_e H
                  rcases H with ⟨c_21, H⟩ | ⟨c_21, H⟩
                  · refine s_p rfl (yT (y_lss rfl rfl) c_21) ?_
                    refine s_nil (q_then ?_)
                    refine c_t rfl rfl ?_
                    refine c_skip ?_
                    exact hJx_3 () _ _ _ _ [0, 0] H rfl ⟨rfl, rfl, rfl, rfl, rfl, True.intro⟩ rfl
                  · refine s_p rfl (yF (y_lss rfl rfl) c_21) ?_
                    refine s_nil (q_then ?_)
                    refine c_f rfl rfl ?_
                    refine c_exit (q_then_exit (q_then_exit (q_blk_out ?_)))
                    exact hJx_2 () _ _ _ _ [0, 0] H rfl ⟨rfl, rfl, rfl, rfl, True.intro⟩ rfl
            · clear H
              intro Jx_4 hJx_4 H
              refine c_seq ?_
              refine c_region ?_
              refine s_p rfl (y_move rfl) ?_
              replace H := ite_e H
              rcases H with ⟨c_22, H⟩ | ⟨c_22, H⟩
              · refine s_p rfl (yT (y_neq rfl rfl) c_22) ?_
                refine s_nil (q_then ?_)
                refine c_t rfl rfl ?_
                refine c_seq ?_
                refine c_region ?_
                refine s_p rfl (y_assign rfl) ?_
                refine s_nil (q_then ?_)
                refine c_ret (q_then_ret (q_blk_ret (q_then_ret (q_then_ret (q_blk_ret (q_then_ret ?_))))))
                exact q_ret Try.results19 (rv_tmp rfl rv_nil) ⟨_, rfl, H⟩
              · refine s_p rfl (yF (y_neq rfl rfl) c_22) ?_
                refine s_nil (q_then ?_)
                refine c_f rfl rfl ?_
                refine c_skip ?_
                exact hJx_4 () _ _ _ _ [0, 0] H rfl ⟨rfl, rfl, rfl, rfl, True.intro⟩ rfl
          · clear H
            intro Jx_5 hJx_5 H
            refine c_seq ?_
            refine c_region ?_
            refine s_p rfl (y_move rfl) ?_
            refine s_p rfl (y_fa rfl rfl) ?_
            obtain ⟨c_23, c_24, H⟩ := H
            refine s_p rfl (y_ixA rfl rfl c_23 c_24 rfl) ?_
            obtain ⟨t_19, ht_19, H⟩ := H
            replace H := ib_e H
            rcases H with ⟨rfl, H⟩ | ⟨rfl, H⟩
            · refine s_v rfl (y_ld rfl) (hc_V 0 rfl ht_19) ?_
              refine s_p rfl (yB (y_not rfl) rfl) ?_
              refine s_nil (q_then ?_)
              refine c_f rfl rfl ?_
              refine c_skip ?_
              exact hJx_5 () _ _ _ _ [0] H rfl ⟨rfl, rfl, rfl, True.intro⟩ rfl
            · refine s_v rfl (y_ld rfl) (hc_V 0 rfl ht_19) ?_
              refine s_p rfl (yB (y_not rfl) rfl) ?_
              refine s_nil (q_then ?_)
              refine c_t rfl rfl ?_
              refine c_exit (q_then_exit (q_blk_out ?_))
              exact hJx_1 () _ _ _ _ [0] H rfl ⟨rfl, rfl, rfl, True.intro⟩ rfl
      · clear H
        intro Jx_6 hJx_6 H
        refine c_seq ?_
        refine c_region ?_
        refine s_p rfl (y_move rfl) ?_
        replace H := ite_e H
        rcases H with ⟨c_25, H⟩ | ⟨c_25, H⟩
        · refine s_p rfl (yT (y_lss rfl rfl) c_25) ?_
          refine s_nil (q_then ?_)
          refine c_t rfl rfl ?_
          refine c_skip ?_
          exact hJx_6 () _ _ _ _ [0] H rfl ⟨rfl, rfl, rfl, True.intro⟩ rfl
        · refine s_p rfl (yF (y_lss rfl rfl) c_25) ?_
          refine s_nil (q_then ?_)
          refine c_f rfl rfl ?_
          refine c_exit (q_then_exit (q_then_exit (q_blk_out ?_)))
          exact hJx () _ _ _ _ [] H rfl ⟨rfl, True.intro⟩ rfl
  · clear H
    intro Jx_7 hJx_7 H
    refine c_seq ?_
    refine c_region ?_
    refine s_p rfl (y_move rfl) ?_
    replace H := ite_e H
    rcases H with ⟨c_26, H⟩ | ⟨c_26, H⟩
    · refine s_p rfl (yT (y_pnil (p := t) rfl rfl) c_26) ?_
      refine s_p rfl (y_move rfl) ?_
      refine s_skip rfl ?_
      refine s_skip rfl ?_
      refine s_skip rfl ?_
      refine s_skip rfl ?_
      refine s_skip rfl ?_
      refine s_p rfl (y_pick rfl rfl) ?_
      refine s_p rfl (y_move rfl) ?_
      refine s_skip rfl ?_
      refine s_skip rfl ?_
      refine s_skip rfl ?_
      refine s_skip rfl ?_
      refine s_skip rfl ?_
      refine s_p rfl (y_pick rfl rfl) ?_
      refine s_nil (q_then ?_)
      refine c_t rfl rfl ?_
      refine c_seq ?_
      refine c_region ?_
      refine s_p rfl (y_assign rfl) ?_
      refine s_nil (q_then ?_)
      refine c_ret (q_then_ret ?_)
      exact q_ret Try.results19 (rv_tmp rfl rv_nil) ⟨_, rfl, H⟩
    · refine s_p rfl (yF (y_pnil (p := t) rfl rfl) c_26) ?_
      refine s_p rfl (y_move rfl) ?_
      refine s_p rfl (y_move rfl) ?_
      obtain ⟨b_5, o_3, rfl, H⟩ := H
      refine s_p rfl (y_nc rfl) ?_
      refine s_p rfl (y_fa rfl rfl) ?_
      obtain ⟨t_20, ht_20, H⟩ := H
      refine s_v rfl (y_ld rfl) (hc_S ht_20) ?_
      replace H := ite_e H
      rcases H with ⟨c_27, H⟩ | ⟨c_27, H⟩
      · refine s_p rfl (yT (y_pnil (p := t_20) rfl rfl) c_27) ?_
        refine s_p rfl (y_pick rfl rfl) ?_
        refine s_p rfl (y_move rfl) ?_
        refine s_skip rfl ?_
        refine s_skip rfl ?_
        refine s_skip rfl ?_
        refine s_skip rfl ?_
        refine s_skip rfl ?_
        refine s_p rfl (y_pick rfl rfl) ?_
        refine s_nil (q_then ?_)
        refine c_t rfl rfl ?_
        refine c_seq ?_
        refine c_region ?_
        refine s_p rfl (y_assign rfl) ?_
        refine s_nil (q_then ?_)
        refine c_ret (q_then_ret ?_)
        exact q_ret Try.results19 (rv_tmp rfl rv_nil) ⟨_, rfl, H⟩
      · refine s_p rfl (yF (y_pnil (p := t_20) rfl rfl) c_27) ?_
        refine s_p rfl (y_pick rfl rfl) ?_
        refine s_p rfl (y_move rfl) ?_
        refine s_p rfl (y_move rfl) ?_
        refine s_p rfl (y_nc rfl) ?_
        refine s_p rfl (y_fa rfl rfl) ?_
        obtain ⟨t_21, ht_21, H⟩ := H
        refine s_v rfl (y_ld rfl) (hc_S ht_21) ?_
        replace H := ite_e H
        rcases H with ⟨c_28, H⟩ | ⟨c_28, H⟩
        · refine s_p rfl (yT (y_pnil (p := t_21) rfl rfl) c_28) ?_
          refine s_p rfl (y_pick rfl rfl) ?_
          refine s_nil (q_then ?_)
          refine c_t rfl rfl ?_
          refine c_seq ?_
          refine c_region ?_
          refine s_p rfl (y_assign rfl) ?_
          refine s_nil (q_then ?_)
          refine c_ret (q_then_ret ?_)
          exact q_ret Try.results19 (rv_tmp rfl rv_nil) ⟨_, rfl, H⟩
        · refine s_p rfl (yF (y_pnil (p := t_21) rfl rfl) c_28) ?_
          refine s_p rfl (y_pick rfl rfl) ?_
          refine s_nil (q_then ?_)
          refine c_f rfl rfl ?_
          refine c_skip ?_
          exact hJx_7 () _ _ _ _ [0] H rfl ⟨rfl, rfl, True.intro⟩ rfl
def b_owner_Book_Donate (S : Mem) (b : Pt) (frame : Int) (n : Int) (page : Int) (Q : Int → Mem → Prop) : Prop :=
  owner_Book_row S b frame fun t t_1 Sx =>
  jn (fun (Sx_1 : Mem) =>
      nn t fun b_1 o =>
      pt Sx_1 b_1 o 4 ([.int .u8 3, .int .i64 n, .int .i64 page, .int .i64 0]) fun Sx_2 =>
      Q 0 Sx_2) fun Jx =>
  if t_1 ≠ 0 then
    Q t_1 Sx
  else
  owner_vm Sx n page fun t_2 Sx_3 =>
  if t_2 = true then
    nn t fun b_2 o_1 =>
    gI (Sx_3.cell b_2 o_1) .u8 fun t_3 =>
    if t_3 ≠ 0 then
      Q 8 Sx_3
    else
    Jx Sx_3
  else
  Q 1 Sx_3
theorem t_owner_Book_Donate {S : Mem} {b : Pt} {frame : Int} {n : Int} {page : Int} {Q : Int → Mem → Prop} (H : b_owner_Book_Donate S b frame n page Q) : owner_Book_Donate S b frame n page Q := by
  unfold b_owner_Book_Donate at H
  refine Tr.intro Try.func24 rfl Try.ntmps24 rfl fun w0 => ?_
  refine c_seq ?_
  refine c_region ?_
  refine s_p rfl (y_assign rfl) ?_
  refine s_nil (q_then ?_)
  refine c_seq ?_
  refine c_region ?_
  refine s_p rfl (y_move rfl) ?_
  refine s_p rfl (y_move rfl) ?_
  refine s_call rfl rfl H fun rv Sx H2 => ?_
  clear H
  obtain ⟨t, t_1, rfl, H⟩ := H2
  refine s_p rfl (y_move rfl) ?_
  refine s_p rfl (y_extract rfl rfl) ?_
  refine s_p rfl (y_extract rfl rfl) ?_
  refine s_p rfl (y_assign rfl) ?_
  refine s_p rfl (y_assign rfl) ?_
  refine s_nil (q_then ?_)
  refine c_join2 H (fun (J : Mem → Prop) (z : Unit) S => J S) (fun z => ⟨37, [(2, .int .i64 n), (3, .int .i64 page), (9, eP t)]⟩) (fun z => []) ?_ ?_
  · clear H
    rintro _ Sx_1 H
    refine c_seq ?_
    refine c_region ?_
    refine s_p rfl (y_move rfl) ?_
    refine s_p rfl (y_move rfl) ?_
    refine s_p rfl (y_move rfl) ?_
    refine s_p rfl (y_build rfl rfl) ?_
    obtain ⟨b_1, o, rfl, H⟩ := H
    refine s_p rfl (y_nc rfl) ?_
    obtain ⟨c, H⟩ := H
    refine s_stS rfl rfl rfl rfl rfl c rfl ?_
    refine s_nil (q_then ?_)
    refine c_seq ?_
    refine c_region ?_
    refine s_p rfl (y_assign rfl) ?_
    refine s_nil (q_then ?_)
    refine c_ret ?_
    exact q_ret Try.results24 (rv_tmp rfl rv_nil) ⟨_, rfl, H⟩
  · clear H
    intro Jx hJx H
    refine c_block ?_
    refine c_seq ?_
    refine c_region ?_
    refine s_p rfl (y_move rfl) ?_
    replace H := ite_e H
    rcases H with ⟨c_1, H⟩ | ⟨c_1, H⟩
    · refine s_p rfl (yT (y_neq rfl rfl) c_1) ?_
      refine s_p rfl (y_assign rfl) ?_
      refine s_nil (q_then ?_)
      refine c_t rfl rfl ?_
      refine c_seq ?_
      refine c_region ?_
      refine s_p rfl (y_move rfl) ?_
      refine s_p rfl (y_assign rfl) ?_
      refine s_nil (q_then ?_)
      refine c_ret (q_blk_ret (q_then_ret ?_))
      exact q_ret Try.results24 (rv_tmp rfl rv_nil) ⟨_, rfl, H⟩
    · refine s_p rfl (yF (y_neq rfl rfl) c_1) ?_
      refine s_p rfl (y_assign rfl) ?_
      refine s_nil (q_then ?_)
      refine c_f rfl rfl ?_
      refine c_seq ?_
      refine c_region ?_
      refine s_p rfl (y_move rfl) ?_
      refine s_p rfl (y_move rfl) ?_
      refine s_call rfl rfl H fun rv Sx_3 H2 => ?_
      clear H
      obtain ⟨t_2, rfl, H⟩ := H2
      replace H := ib_e H
      rcases H with ⟨rfl, H⟩ | ⟨rfl, H⟩
      · skip
        refine s_p rfl (yB (y_not rfl) rfl) ?_
        refine s_p rfl (y_assign rfl) ?_
        refine s_nil (q_then ?_)
        refine c_f rfl rfl ?_
        refine c_seq ?_
        refine c_region ?_
        refine s_p rfl (y_move rfl) ?_
        obtain ⟨b_2, o_1, rfl, H⟩ := H
        refine s_p rfl (y_nc rfl) ?_
        refine s_p rfl (y_fa rfl rfl) ?_
        obtain ⟨t_3, ht_3, H⟩ := H
        refine s_v rfl (y_ld rfl) (hc_S ht_3) ?_
        replace H := ite_e H
        rcases H with ⟨c_2, H⟩ | ⟨c_2, H⟩
        · refine s_p rfl (yT (y_neq rfl rfl) c_2) ?_
          refine s_p rfl (y_assign rfl) ?_
          refine s_nil (q_then ?_)
          refine c_t rfl rfl ?_
          refine c_seq ?_
          refine c_region ?_
          refine s_p rfl (y_assign rfl) ?_
          refine s_nil (q_then ?_)
          refine c_ret (q_blk_ret (q_then_ret ?_))
          exact q_ret Try.results24 (rv_tmp rfl rv_nil) ⟨_, rfl, H⟩
        · refine s_p rfl (yF (y_neq rfl rfl) c_2) ?_
          refine s_p rfl (y_assign rfl) ?_
          refine s_nil (q_then ?_)
          refine c_f rfl rfl ?_
          refine c_skip (q_blk ?_)
          exact hJx () _ _ _ _ [] H rfl ⟨rfl, rfl, rfl, True.intro⟩ rfl
      · skip
        refine s_p rfl (yB (y_not rfl) rfl) ?_
        refine s_p rfl (y_assign rfl) ?_
        refine s_nil (q_then ?_)
        refine c_t rfl rfl ?_
        refine c_seq ?_
        refine c_region ?_
        refine s_p rfl (y_assign rfl) ?_
        refine s_nil (q_then ?_)
        refine c_ret (q_blk_ret (q_then_ret ?_))
        exact q_ret Try.results24 (rv_tmp rfl rv_nil) ⟨_, rfl, H⟩
def b_guest_State_There (S : Mem) (s : Pt) (vm : Int) (Q : Bool → Mem → Prop) : Prop :=
  if s ≠ none then
    if 0 ≤ vm then
      if vm < 6 then
        nn s fun b o =>
        0 ≤ vm ∧ vm < 6 ∧
        gB (S.cell b (o + 2 + vm.toNat * 12)) fun t =>
        Q t S
      else
      Q false S
    else
    Q false S
  else
  Q false S
theorem t_guest_State_There {S : Mem} {s : Pt} {vm : Int} {Q : Bool → Mem → Prop} (H : b_guest_State_There S s vm Q) : guest_State_There S s vm Q := by
  unfold b_guest_State_There at H
  refine Tr.intro Try.func28 rfl Try.ntmps28 rfl fun w0 => ?_
  refine c_seq ?_
  refine c_region ?_
  refine s_p rfl (y_assign rfl) ?_
  refine s_nil (q_then ?_)
  refine c_seq ?_
  refine c_region ?_
  refine s_p rfl (y_move rfl) ?_
  replace H := ite_e H
  rcases H with ⟨c, H⟩ | ⟨c, H⟩
  · refine s_p rfl (yT (y_pnn (p := s) rfl rfl) c) ?_
    refine s_p rfl (y_move rfl) ?_
    refine s_p rfl (y_move rfl) ?_
    replace H := ite_e H
    rcases H with ⟨c_1, H⟩ | ⟨c_1, H⟩
    · refine s_p rfl (yT (y_geq rfl rfl) c_1) ?_
      refine s_p rfl (y_pick rfl rfl) ?_
      refine s_p rfl (y_move rfl) ?_
      refine s_p rfl (y_move rfl) ?_
      replace H := ite_e H
      rcases H with ⟨c_2, H⟩ | ⟨c_2, H⟩
      · refine s_p rfl (yT (y_lss rfl rfl) c_2) ?_
        refine s_p rfl (y_pick rfl rfl) ?_
        refine s_p rfl (y_move rfl) ?_
        refine s_p rfl (y_move rfl) ?_
        refine s_p rfl (y_move rfl) ?_
        obtain ⟨b, o, rfl, H⟩ := H
        refine s_p rfl (y_nc rfl) ?_
        refine s_p rfl (y_fa rfl rfl) ?_
        obtain ⟨c_3, c_4, H⟩ := H
        refine s_p rfl (y_ixA rfl rfl c_3 c_4 rfl) ?_
        refine s_p rfl (y_fa rfl rfl) ?_
        obtain ⟨t, ht, H⟩ := H
        refine s_v rfl (y_ld rfl) (hc_S ht) ?_
        refine s_p rfl (y_pick rfl rfl) ?_
        refine s_p rfl (y_assign rfl) ?_
        refine s_nil (q_then ?_)
        refine c_ret ?_
        exact q_ret Try.results28 (rv_tmp rfl rv_nil) ⟨_, rfl, H⟩
      · refine s_p rfl (yF (y_lss rfl rfl) c_2) ?_
        refine s_p rfl (y_pick rfl rfl) ?_
        refine s_p rfl (y_move rfl) ?_
        refine s_skip rfl ?_
        refine s_skip rfl ?_
        refine s_skip rfl ?_
        refine s_skip rfl ?_
        refine s_skip rfl ?_
        refine s_skip rfl ?_
        refine s_skip rfl ?_
        refine s_p rfl (y_pick rfl rfl) ?_
        refine s_p rfl (y_assign rfl) ?_
        refine s_nil (q_then ?_)
        refine c_ret ?_
        exact q_ret Try.results28 (rv_tmp rfl rv_nil) ⟨_, rfl, H⟩
    · refine s_p rfl (yF (y_geq rfl rfl) c_1) ?_
      refine s_p rfl (y_pick rfl rfl) ?_
      refine s_p rfl (y_move rfl) ?_
      refine s_skip rfl ?_
      refine s_skip rfl ?_
      refine s_p rfl (y_pick rfl rfl) ?_
      refine s_p rfl (y_move rfl) ?_
      refine s_skip rfl ?_
      refine s_skip rfl ?_
      refine s_skip rfl ?_
      refine s_skip rfl ?_
      refine s_skip rfl ?_
      refine s_skip rfl ?_
      refine s_skip rfl ?_
      refine s_p rfl (y_pick rfl rfl) ?_
      refine s_p rfl (y_assign rfl) ?_
      refine s_nil (q_then ?_)
      refine c_ret ?_
      exact q_ret Try.results28 (rv_tmp rfl rv_nil) ⟨_, rfl, H⟩
  · refine s_p rfl (yF (y_pnn (p := s) rfl rfl) c) ?_
    refine s_p rfl (y_move rfl) ?_
    refine s_skip rfl ?_
    refine s_skip rfl ?_
    refine s_p rfl (y_pick rfl rfl) ?_
    refine s_p rfl (y_move rfl) ?_
    refine s_skip rfl ?_
    refine s_skip rfl ?_
    refine s_p rfl (y_pick rfl rfl) ?_
    refine s_p rfl (y_move rfl) ?_
    refine s_skip rfl ?_
    refine s_skip rfl ?_
    refine s_skip rfl ?_
    refine s_skip rfl ?_
    refine s_skip rfl ?_
    refine s_skip rfl ?_
    refine s_skip rfl ?_
    refine s_p rfl (y_pick rfl rfl) ?_
    refine s_p rfl (y_assign rfl) ?_
    refine s_nil (q_then ?_)
    refine c_ret ?_
    exact q_ret Try.results28 (rv_tmp rfl rv_nil) ⟨_, rfl, H⟩
def b_guest_State_Seat (S : Mem) (s : Pt) (vm : Int) (n : Int) (Q : Pt → Mem → Prop) : Prop :=
  jn (fun (Sx : Mem) =>
      nn s fun b o =>
      0 ≤ vm ∧ vm < 6 ∧
      gL (Sx.cell b (o + 2 + vm.toNat * 12 + 1)) fun t =>
      sl t fun b_1 o_1 n_1 n_2 =>
      0 ≤ n ∧ n < ((n_1 : Nat) : Int) ∧
      Q (some (b_1, o_1 + n.toNat * 26)) Sx) fun Jx =>
  guest_State_There S s vm fun t_1 Sx_1 =>
  if t_1 = true then
    if n < 0 then
      Q none Sx_1
    else
    nn s fun b_2 o_2 =>
    0 ≤ vm ∧ vm < 6 ∧
    gL (Sx_1.cell b_2 (o_2 + 2 + vm.toNat * 12 + 1)) fun t_2 =>
    if (t_2.n : Int) ≤ n then
      Q none Sx_1
    else
    Jx Sx_1
  else
  Q none Sx_1
theorem t_guest_State_Seat {S : Mem} {s : Pt} {vm : Int} {n : Int} {Q : Pt → Mem → Prop} (H : b_guest_State_Seat S s vm n Q) : guest_State_Seat S s vm n Q := by
  unfold b_guest_State_Seat at H
  refine Tr.intro Try.func29 rfl Try.ntmps29 rfl fun w0 => ?_
  refine c_seq ?_
  refine c_region ?_
  refine s_p rfl (y_assign rfl) ?_
  refine s_nil (q_then ?_)
  refine c_join2 H (fun (J : Mem → Prop) (z : Unit) S => J S) (fun z => ⟨36, [(0, eP s), (1, .int .i64 vm), (2, .int .i64 n)]⟩) (fun z => []) ?_ ?_
  · clear H
    rintro _ Sx H
    refine c_seq ?_
    refine c_region ?_
    refine s_p rfl (y_move rfl) ?_
    refine s_p rfl (y_move rfl) ?_
    obtain ⟨b, o, rfl, H⟩ := H
    refine s_p rfl (y_nc rfl) ?_
    refine s_p rfl (y_fa rfl rfl) ?_
    obtain ⟨c, c_1, H⟩ := H
    refine s_p rfl (y_ixA rfl rfl c c_1 rfl) ?_
    refine s_p rfl (y_fa rfl rfl) ?_
    obtain ⟨t, ht, H⟩ := H
    refine s_v rfl (y_ld rfl) (hc_S ht) ?_
    refine s_p rfl (y_move rfl) ?_
    obtain ⟨b_1, o_1, n_1, n_2, rfl, H⟩ := H
    obtain ⟨c_2, c_3, H⟩ := H
    refine s_p rfl (y_ixL rfl rfl c_2 c_3 rfl) ?_
    refine s_p rfl (y_assign rfl) ?_
    refine s_nil (q_then ?_)
    refine c_ret ?_
    exact q_ret Try.results29 (rv_tmp rfl rv_nil) ⟨_, rfl, H⟩
  · clear H
    intro Jx hJx H
    refine c_seq ?_
    refine c_region ?_
    refine s_p rfl (y_move rfl) ?_
    refine s_p rfl (y_move rfl) ?_
    refine s_call rfl rfl H fun rv Sx_1 H2 => ?_
    clear H
    obtain ⟨t_1, rfl, H⟩ := H2
    replace H := ib_e H
    rcases H with ⟨rfl, H⟩ | ⟨rfl, H⟩
    · skip
      refine s_p rfl (yB (y_not rfl) rfl) ?_
      refine s_p rfl (y_move rfl) ?_
      refine s_p rfl (y_move rfl) ?_
      replace H := ite_e H
      rcases H with ⟨c_4, H⟩ | ⟨c_4, H⟩
      · refine s_p rfl (yT (y_lss rfl rfl) c_4) ?_
        refine s_p rfl (y_pick rfl rfl) ?_
        refine s_p rfl (y_move rfl) ?_
        refine s_skip rfl ?_
        refine s_skip rfl ?_
        refine s_skip rfl ?_
        refine s_skip rfl ?_
        refine s_skip rfl ?_
        refine s_skip rfl ?_
        refine s_skip rfl ?_
        refine s_skip rfl ?_
        refine s_skip rfl ?_
        refine s_skip rfl ?_
        refine s_p rfl (y_pick rfl rfl) ?_
        refine s_nil (q_then ?_)
        refine c_t rfl rfl ?_
        refine c_seq ?_
        refine c_region ?_
        refine s_p rfl (y_assign rfl) ?_
        refine s_nil (q_then ?_)
        refine c_ret (q_then_ret ?_)
        exact q_ret Try.results29 (rv_tmp rfl rv_nil) ⟨_, rfl, H⟩
      · refine s_p rfl (yF (y_lss rfl rfl) c_4) ?_
        refine s_p rfl (y_pick rfl rfl) ?_
        refine s_p rfl (y_move rfl) ?_
        refine s_p rfl (y_move rfl) ?_
        refine s_p rfl (y_move rfl) ?_
        refine s_p rfl (y_move rfl) ?_
        obtain ⟨b_2, o_2, rfl, H⟩ := H
        refine s_p rfl (y_nc rfl) ?_
        refine s_p rfl (y_fa rfl rfl) ?_
        obtain ⟨c_5, c_6, H⟩ := H
        refine s_p rfl (y_ixA rfl rfl c_5 c_6 rfl) ?_
        refine s_p rfl (y_fa rfl rfl) ?_
        obtain ⟨t_2, ht_2, H⟩ := H
        refine s_v rfl (y_ld rfl) (hc_S ht_2) ?_
        refine s_p rfl (y_len rfl) ?_
        replace H := ite_e H
        rcases H with ⟨c_7, H⟩ | ⟨c_7, H⟩
        · refine s_p rfl (yT (y_geq rfl rfl) c_7) ?_
          refine s_p rfl (y_pick rfl rfl) ?_
          refine s_nil (q_then ?_)
          refine c_t rfl rfl ?_
          refine c_seq ?_
          refine c_region ?_
          refine s_p rfl (y_assign rfl) ?_
          refine s_nil (q_then ?_)
          refine c_ret (q_then_ret ?_)
          exact q_ret Try.results29 (rv_tmp rfl rv_nil) ⟨_, rfl, H⟩
        · refine s_p rfl (yF (y_geq rfl rfl) c_7) ?_
          refine s_p rfl (y_pick rfl rfl) ?_
          refine s_nil (q_then ?_)
          refine c_f rfl rfl ?_
          refine c_skip ?_
          exact hJx () _ _ _ _ [] H rfl ⟨rfl, rfl, rfl, True.intro⟩ rfl
    · skip
      refine s_p rfl (yB (y_not rfl) rfl) ?_
      refine s_p rfl (y_move rfl) ?_
      refine s_skip rfl ?_
      refine s_skip rfl ?_
      refine s_p rfl (y_pick rfl rfl) ?_
      refine s_p rfl (y_move rfl) ?_
      refine s_skip rfl ?_
      refine s_skip rfl ?_
      refine s_skip rfl ?_
      refine s_skip rfl ?_
      refine s_skip rfl ?_
      refine s_skip rfl ?_
      refine s_skip rfl ?_
      refine s_skip rfl ?_
      refine s_skip rfl ?_
      refine s_skip rfl ?_
      refine s_p rfl (y_pick rfl rfl) ?_
      refine s_nil (q_then ?_)
      refine c_t rfl rfl ?_
      refine c_seq ?_
      refine c_region ?_
      refine s_p rfl (y_assign rfl) ?_
      refine s_nil (q_then ?_)
      refine c_ret (q_then_ret ?_)
      exact q_ret Try.results29 (rv_tmp rfl rv_nil) ⟨_, rfl, H⟩
def b_guest_State_Ready (S : Mem) (s : Pt) (Q : List Value → Mem → Prop) : Prop :=
  jn (fun (out : List Value) (Sx : Mem) =>
      out.length = 18 ∧
      out.all (·.oneCell') = true ∧
      Q out Sx) fun Jx =>
  lp (fun Xx (z : Int × List Value) (Sx_1 : Mem) =>
      match z with
      | (t, out_1) =>
        out_1.length = 18 ∧
        if t < 6 then
          jn (fun (out_2 : List Value) (Sx_2 : Mem) =>
              out_2.length = 18 ∧
              Xx (IntKind.i64.wrap (t + 1), out_2) Sx_2) fun Jx_1 =>
          lp (fun Xx_1 (z : Int × List Value) (Sx_3 : Mem) =>
              match z with
              | (t_1, out_3) =>
                out_3.length = 18 ∧
                if t_1 < 3 then
                  guest_State_Seat Sx_3 s t t_1 fun t_2 Sx_4 =>
                  if t_2 ≠ none then
                    nn t_2 fun b_2 o =>
                    gI (Sx_4.cell b_2 (o + 23)) .u8 fun t_3 =>
                    turn_Number Sx_4 t t_1 fun t_4 Sx_5 =>
                    Sx_5.cell b_2 (o + 23) = some (.int .u8 t_3) ∧
                    0 ≤ t_4 ∧ t_4 < 18 ∧
                    Xx_1 (IntKind.i64.wrap (t_1 + 1), spl out_3 (0 + t_4.toNat * 1) ([.bool (decide (t_3 = 0))])) Sx_5
                  else
                  Xx_1 (IntKind.i64.wrap (t_1 + 1), out_3) Sx_4
                else
                Jx_1 out_3 Sx_3) (0, out_1) Sx_1
        else
        Jx out_1 Sx_1) (0, [.bool false, .bool false, .bool false, .bool false, .bool false, .bool false, .bool false, .bool false, .bool false, .bool false, .bool false, .bool false, .bool false, .bool false, .bool false, .bool false, .bool false, .bool false]) S
theorem t_guest_State_Ready {S : Mem} {s : Pt} {Q : List Value → Mem → Prop} (H : b_guest_State_Ready S s Q) : guest_State_Ready S s Q := by
  unfold b_guest_State_Ready at H
  refine Tr.intro Try.func30 rfl Try.ntmps30 rfl fun w0 => ?_
  refine c_seq ?_
  refine c_region ?_
  refine s_alloc rfl fun b => ?_
  refine s_nil (q_then ?_)
  refine c_seq ?_
  refine c_region ?_
  refine s_alloc rfl fun b_1 => ?_
  refine s_nil (q_then ?_)
  refine c_join2 H (fun (J : List Value → Mem → Prop) (z : List Value) S => J z S) (fun z => ⟨31, [(2, .pointer (some ⟨b, 0, none⟩)), (3, .pointer (some ⟨b_1, 0, none⟩))]⟩) (fun z => [⟨b, 81, [.bool false, .bool false, .bool false, .bool false, .bool false, .bool false, .bool false, .bool false, .bool false, .bool false, .bool false, .bool false, .bool false, .bool false, .bool false, .bool false, .bool false, .bool false]⟩, ⟨b_1, 81, z⟩]) ?_ ?_
  · clear H
    rintro out Sx H
    obtain ⟨hout, H⟩ := H
    refine c_seq ?_
    refine c_region ?_
    refine s_v rfl (y_ldA rfl hout) (hc_VP (k := 18) 1 rfl (lpart_all hout)) ?_
    obtain ⟨c, H⟩ := H
    refine s_stV_all 0 rfl rfl rfl rfl rfl hout rfl c ?_
    refine s_nil (q_then ?_)
    refine c_ret ?_
    exact q_ret Try.results30 (rv_cellA rfl (hc_VP (k := 18) 0 rfl (lpart_all hout)) hout rv_nil) ⟨_, rfl, hout, H⟩
  · clear H
    intro Jx hJx H
    refine c_seq ?_
    refine c_region ?_
    refine s_p rfl (y_move rfl) ?_
    refine s_nil (q_then ?_)
    refine c_block ?_
    refine c_loop (fun z => ⟨31, [(0, eP s), (2, .pointer (some ⟨b, 0, none⟩)), (3, .pointer (some ⟨b_1, 0, none⟩)), (7, .int .i64 z.1)]⟩) (fun z => [⟨b, 81, [.bool false, .bool false, .bool false, .bool false, .bool false, .bool false, .bool false, .bool false, .bool false, .bool false, .bool false, .bool false, .bool false, .bool false, .bool false, .bool false, .bool false, .bool false]⟩, ⟨b_1, 81, z.2⟩]) (0, [.bool false, .bool false, .bool false, .bool false, .bool false, .bool false, .bool false, .bool false, .bool false, .bool false, .bool false, .bool false, .bool false, .bool false, .bool false, .bool false, .bool false, .bool false]) (idx := [0, 0]) H rfl ⟨rfl, rfl, rfl, rfl, True.intro⟩ rfl ?_
    clear H
    rintro Xx hXx ⟨t, out_1⟩ Sx_1 H
    obtain ⟨hout_1, H⟩ := H
    refine c_seq ?_
    refine c_region ?_
    replace H := ite_e H
    rcases H with ⟨c_1, H⟩ | ⟨c_1, H⟩
    · refine s_p rfl (yT (y_lss rfl rfl) c_1) ?_
      refine s_nil (q_then ?_)
      refine c_seq ?_
      refine c_t rfl rfl ?_
      refine c_skip (q_then ?_)
      refine c_join2 H (fun (J : List Value → Mem → Prop) (z : List Value) S => J z S) (fun z => ⟨31, [(0, eP s), (2, .pointer (some ⟨b, 0, none⟩)), (3, .pointer (some ⟨b_1, 0, none⟩)), (7, .int .i64 t)]⟩) (fun z => [⟨b, 81, [.bool false, .bool false, .bool false, .bool false, .bool false, .bool false, .bool false, .bool false, .bool false, .bool false, .bool false, .bool false, .bool false, .bool false, .bool false, .bool false, .bool false, .bool false]⟩, ⟨b_1, 81, z⟩]) ?_ ?_
      · clear H
        rintro out_2 Sx_2 H
        obtain ⟨hout_2, H⟩ := H
        refine c_region ?_
        refine s_p rfl (y_add rfl rfl) ?_
        refine s_p rfl (y_move rfl) ?_
        refine s_nil ?_
        exact hXx (IntKind.i64.wrap (t + 1), out_2) _ _ _ _ [0, 0] H rfl ⟨rfl, rfl, rfl, rfl, True.intro⟩ rfl
      · clear H
        intro Jx_1 hJx_1 H
        refine c_block ?_
        refine c_seq ?_
        refine c_region ?_
        refine s_p rfl (y_move rfl) ?_
        refine s_p rfl (y_assign rfl) ?_
        refine s_nil (q_then ?_)
        refine c_seq ?_
        refine c_region ?_
        refine s_p rfl (y_move rfl) ?_
        refine s_nil (q_then ?_)
        refine c_block ?_
        refine c_loop (fun z => ⟨31, [(0, eP s), (2, .pointer (some ⟨b, 0, none⟩)), (3, .pointer (some ⟨b_1, 0, none⟩)), (4, .int .i64 t), (7, .int .i64 t), (10, .int .i64 z.1)]⟩) (fun z => [⟨b, 81, [.bool false, .bool false, .bool false, .bool false, .bool false, .bool false, .bool false, .bool false, .bool false, .bool false, .bool false, .bool false, .bool false, .bool false, .bool false, .bool false, .bool false, .bool false]⟩, ⟨b_1, 81, z.2⟩]) (0, out_1) (idx := [0, 0]) H rfl ⟨rfl, rfl, rfl, rfl, rfl, rfl, True.intro⟩ rfl ?_
        clear H
        rintro Xx_1 hXx_1 ⟨t_1, out_3⟩ Sx_3 H
        obtain ⟨hout_3, H⟩ := H
        refine c_seq ?_
        refine c_region ?_
        replace H := ite_e H
        rcases H with ⟨c_2, H⟩ | ⟨c_2, H⟩
        · refine s_p rfl (yT (y_lss rfl rfl) c_2) ?_
          refine s_nil (q_then ?_)
          refine c_seq ?_
          refine c_t rfl rfl ?_
          refine c_skip (q_then ?_)
          refine c_seq ?_
          refine c_block ?_
          refine c_seq ?_
          refine c_region ?_
          refine s_p rfl (y_move rfl) ?_
          refine s_p rfl (y_assign rfl) ?_
          refine s_nil (q_then ?_)
          refine c_seq ?_
          refine c_region ?_
          refine s_p rfl (y_move rfl) ?_
          refine s_p rfl (y_move rfl) ?_
          refine s_p rfl (y_move rfl) ?_
          refine s_call rfl rfl H fun rv Sx_4 H2 => ?_
          clear H
          obtain ⟨t_2, rfl, H⟩ := H2
          refine s_p rfl (y_assign rfl) ?_
          refine s_nil (q_then ?_)
          refine c_seq ?_
          refine c_region ?_
          refine s_p rfl (y_move rfl) ?_
          replace H := ite_e H
          rcases H with ⟨c_3, H⟩ | ⟨c_3, H⟩
          · refine s_p rfl (yT (y_pnn (p := t_2) rfl rfl) c_3) ?_
            refine s_nil (q_then ?_)
            refine c_t rfl rfl ?_
            refine c_drawn (by kernel_rfl) ?_
            refine a_takeP 0 rfl (by decide +kernel) (np_blk (np_then (np_then (np_blk (np_blk (np_then (np_then (np_blk (np_then np_body))))))))) rfl (y_move rfl) ?_
            refine a_takeP 1 rfl (by decide +kernel) (np_blk (np_then (np_then (np_blk (np_blk (np_then (np_then (np_blk (np_then np_body))))))))) rfl (y_move rfl) ?_
            refine a_takeP 3 rfl (by decide +kernel) (np_blk (np_then (np_then (np_blk (np_blk (np_then (np_then (np_blk (np_then np_body))))))))) rfl (y_move rfl) ?_
            obtain ⟨b_2, o, rfl, H⟩ := H
            refine a_takeP 4 rfl (by decide +kernel) (np_blk (np_then (np_then (np_blk (np_blk (np_then (np_then (np_blk (np_then np_body))))))))) rfl (y_nc rfl) ?_
            refine a_takeP 5 rfl (by decide +kernel) (np_blk (np_then (np_then (np_blk (np_blk (np_then (np_then (np_blk (np_then np_body))))))))) rfl (y_fa rfl rfl) ?_
            obtain ⟨t_3, ht_3, H⟩ := H
            refine a_take 6 rfl (by decide +kernel) (np_blk (np_then (np_then (np_blk (np_blk (np_then (np_then (np_blk (np_then np_body))))))))) rfl (y_ld rfl) (hc_S ht_3) ?_
            refine a_takeP 7 rfl (by decide +kernel) (np_blk (np_then (np_then (np_blk (np_blk (np_then (np_then (np_blk (np_then np_body))))))))) rfl (y_eql rfl rfl) ?_
            refine a_step 2 (by decide +kernel) rfl ?_
            refine s_call rfl rfl H fun rv Sx_5 H2 => ?_
            clear H
            obtain ⟨t_4, rfl, H⟩ := H2
            obtain ⟨k, H⟩ := H
            refine s_nil (q_any (ac_cons (hc_S k) ac_nil) ?_)
            obtain ⟨c_4, c_5, H⟩ := H
            refine a_takeP 8 rfl (by decide +kernel) (np_blk (np_then (np_then (np_blk (np_blk (np_then (np_then (np_blk (np_then np_body))))))))) rfl (y_ixA rfl rfl c_4 c_5 rfl) ?_
            refine a_step 9 (by decide +kernel) rfl ?_
            refine s_stV (sz := 1) (vs := [.bool (decide (t_3 = 0))]) 1 rfl rfl rfl rfl rfl rfl (fit_of hout_3 (by omega)) rfl ?_
            refine s_nil (q_any ac_nil ?_)
            refine a_done (by decide +kernel) ?_
            refine q_blk (q_then ?_)
            refine c_region ?_
            refine s_p rfl (y_add rfl rfl) ?_
            refine s_p rfl (y_move rfl) ?_
            refine s_nil ?_
            exact hXx_1 (IntKind.i64.wrap (t_1 + 1), spl out_3 (0 + t_4.toNat * 1) ([.bool (decide (t_3 = 0))])) _ _ _ _ [0, 0] H rfl ⟨rfl, rfl, rfl, rfl, rfl, rfl, True.intro⟩ rfl
          · refine s_p rfl (yF (y_pnn (p := t_2) rfl rfl) c_3) ?_
            refine s_nil (q_then ?_)
            refine c_f rfl rfl ?_
            refine c_skip (q_blk (q_then ?_))
            refine c_region ?_
            refine s_p rfl (y_add rfl rfl) ?_
            refine s_p rfl (y_move rfl) ?_
            refine s_nil ?_
            exact hXx_1 (IntKind.i64.wrap (t_1 + 1), out_3) _ _ _ _ [0, 0] H rfl ⟨rfl, rfl, rfl, rfl, rfl, rfl, True.intro⟩ rfl
        · refine s_p rfl (yF (y_lss rfl rfl) c_2) ?_
          refine s_nil (q_then ?_)
          refine c_seq ?_
          refine c_f rfl rfl ?_
          refine c_exit (q_then_exit (q_then_exit (q_blk_out (q_blk ?_))))
          exact hJx_1 out_3 _ _ _ _ [0, 0] H rfl ⟨rfl, rfl, rfl, rfl, True.intro⟩ rfl
    · refine s_p rfl (yF (y_lss rfl rfl) c_1) ?_
      refine s_nil (q_then ?_)
      refine c_seq ?_
      refine c_f rfl rfl ?_
      refine c_exit (q_then_exit (q_then_exit (q_blk_out ?_)))
      exact hJx out_1 _ _ _ _ [0, 0] H rfl ⟨rfl, rfl, True.intro⟩ rfl
def b_guest_State_Joined (S : Mem) (s : Pt) (a : Int) (b : Int) (Q : Bool → Mem → Prop) : Prop :=
  guest_State_There S s a fun t Sx =>
  if t = true then
    guest_State_There Sx s b fun t_1 Sx_1 =>
    if t_1 = true then
      nn s fun b_1 o =>
      0 ≤ a ∧ a < 6 ∧
      gI (Sx_1.cell b_1 (o + 2 + a.toNat * 12 + 11)) .u32 fun t_2 =>
      0 ≤ b ∧
      Q (decide (iand .u32 (ishr .u32 t_2 b) 1 = 1)) Sx_1
    else
    Q false Sx_1
  else
  Q false Sx
theorem t_guest_State_Joined {S : Mem} {s : Pt} {a : Int} {b : Int} {Q : Bool → Mem → Prop} (H : b_guest_State_Joined S s a b Q) : guest_State_Joined S s a b Q := by
  unfold b_guest_State_Joined at H
  refine Tr.intro Try.func31 rfl Try.ntmps31 rfl fun w0 => ?_
  refine c_seq ?_
  refine c_region ?_
  refine s_p rfl (y_assign rfl) ?_
  refine s_nil (q_then ?_)
  refine c_seq ?_
  refine c_region ?_
  refine s_p rfl (y_move rfl) ?_
  refine s_p rfl (y_move rfl) ?_
  refine s_call rfl rfl H fun rv Sx H2 => ?_
  clear H
  obtain ⟨t, rfl, H⟩ := H2
  replace H := ib_e H
  rcases H with ⟨rfl, H⟩ | ⟨rfl, H⟩
  · skip
    refine s_p rfl (y_move rfl) ?_
    refine s_p rfl (y_move rfl) ?_
    refine s_p rfl (y_move rfl) ?_
    refine s_call rfl rfl H fun rv Sx_1 H2 => ?_
    clear H
    obtain ⟨t_1, rfl, H⟩ := H2
    replace H := ib_e H
    rcases H with ⟨rfl, H⟩ | ⟨rfl, H⟩
    · skip
      refine s_p rfl (y_pick rfl rfl) ?_
      refine s_p rfl (y_move rfl) ?_
      refine s_p rfl (y_move rfl) ?_
      refine s_p rfl (y_move rfl) ?_
      obtain ⟨b_1, o, rfl, H⟩ := H
      refine s_p rfl (y_nc rfl) ?_
      refine s_p rfl (y_fa rfl rfl) ?_
      obtain ⟨c, c_1, H⟩ := H
      refine s_p rfl (y_ixA rfl rfl c c_1 rfl) ?_
      refine s_p rfl (y_fa rfl rfl) ?_
      obtain ⟨t_2, ht_2, H⟩ := H
      refine s_v rfl (y_ld rfl) (hc_S ht_2) ?_
      refine s_p rfl (y_move rfl) ?_
      obtain ⟨c_2, H⟩ := H
      refine s_p rfl (y_shr rfl rfl c_2) ?_
      refine s_p rfl (y_and rfl rfl) ?_
      refine s_p rfl (y_eql rfl rfl) ?_
      refine s_p rfl (y_pick rfl rfl) ?_
      refine s_p rfl (y_assign rfl) ?_
      refine s_nil (q_then ?_)
      refine c_ret ?_
      exact q_ret Try.results31 (rv_tmp rfl rv_nil) ⟨_, rfl, H⟩
    · skip
      refine s_p rfl (y_pick rfl rfl) ?_
      refine s_p rfl (y_move rfl) ?_
      refine s_skip rfl ?_
      refine s_skip rfl ?_
      refine s_skip rfl ?_
      refine s_skip rfl ?_
      refine s_skip rfl ?_
      refine s_skip rfl ?_
      refine s_skip rfl ?_
      refine s_skip rfl ?_
      refine s_skip rfl ?_
      refine s_skip rfl ?_
      refine s_skip rfl ?_
      refine s_p rfl (y_pick rfl rfl) ?_
      refine s_p rfl (y_assign rfl) ?_
      refine s_nil (q_then ?_)
      refine c_ret ?_
      exact q_ret Try.results31 (rv_tmp rfl rv_nil) ⟨_, rfl, H⟩
  · skip
    refine s_p rfl (y_move rfl) ?_
    refine s_skip rfl ?_
    refine s_skip rfl ?_
    refine s_skip rfl ?_
    refine s_p rfl (y_pick rfl rfl) ?_
    refine s_p rfl (y_move rfl) ?_
    refine s_skip rfl ?_
    refine s_skip rfl ?_
    refine s_skip rfl ?_
    refine s_skip rfl ?_
    refine s_skip rfl ?_
    refine s_skip rfl ?_
    refine s_skip rfl ?_
    refine s_skip rfl ?_
    refine s_skip rfl ?_
    refine s_skip rfl ?_
    refine s_skip rfl ?_
    refine s_p rfl (y_pick rfl rfl) ?_
    refine s_p rfl (y_assign rfl) ?_
    refine s_nil (q_then ?_)
    refine c_ret ?_
    exact q_ret Try.results31 (rv_tmp rfl rv_nil) ⟨_, rfl, H⟩
def b_store_New (S : Mem) (frames : Int) (Q : Pt → Mem → Prop) : Prop :=
  0 ≤ IntKind.i64.wrap (256 * (if 512 < (if frames < 0 then 0 else frames) then 512 else (if frames < 0 then 0 else frames))) ∧ IntKind.i64.wrap (256 * (if 512 < (if frames < 0 then 0 else frames) then 512 else (if frames < 0 then 0 else frames))) ≤ IntKind.i64.wrap (256 * (if 512 < (if frames < 0 then 0 else frames) then 512 else (if frames < 0 then 0 else frames))) ∧ (1 : Int) * (IntKind.i64.wrap (256 * (if 512 < (if frames < 0 then 0 else frames) then 512 else (if frames < 0 then 0 else frames)))) ≤ 281474976710656 ∧ IntKind.i64.wrap (256 * (if 512 < (if frames < 0 then 0 else frames) then 512 else (if frames < 0 then 0 else frames))) ≤ 9223372036854775807 ∧
  al S 5 (zrep (Int.toNat (IntKind.i64.wrap (256 * (if 512 < (if frames < 0 then 0 else frames) then 512 else (if frames < 0 then 0 else frames))))) [.int .u8 0]) fun b Sx =>
  al Sx 151 ([.slice (some ⟨b, 0, none⟩) (Int.toNat (IntKind.i64.wrap (256 * (if 512 < (if frames < 0 then 0 else frames) then 512 else (if frames < 0 then 0 else frames))))) (Int.toNat (IntKind.i64.wrap (256 * (if 512 < (if frames < 0 then 0 else frames) then 512 else (if frames < 0 then 0 else frames)))))]) fun b_1 Sx_1 =>
  Q (some (b_1, 0)) Sx_1
theorem t_store_New {S : Mem} {frames : Int} {Q : Pt → Mem → Prop} (H : b_store_New S frames Q) : store_New S frames Q := by
  unfold b_store_New at H
  refine Tr.intro Try.func32 rfl Try.ntmps32 rfl fun w0 => ?_
  refine c_seq ?_
  refine c_region ?_
  refine s_p rfl (y_assign rfl) ?_
  refine s_nil (q_then ?_)
  refine c_seq ?_
  refine c_region ?_
  refine s_p rfl (y_move rfl) ?_
  refine s_p rfl (y_max rfl rfl) ?_
  refine s_p rfl (y_min rfl rfl) ?_
  refine s_p rfl (y_mul rfl rfl) ?_
  obtain ⟨c, c_1, c_2, c_3, H⟩ := H
  refine s_mk rfl rfl rfl c c_1 c_2 c_3 fun b => ?_
  refine s_pub 0 rfl fun hb => ?_
  replace H := H b hb
  refine s_p rfl (y_build rfl rfl) ?_
  refine s_box rfl rfl rfl fun b_1 => ?_
  refine s_pub 0 rfl fun hb_1 => ?_
  replace H := H b_1 hb_1
  refine s_p rfl (y_assign rfl) ?_
  refine s_nil (q_then ?_)
  refine c_ret ?_
  exact q_ret Try.results32 (rv_tmp rfl rv_nil) ⟨_, rfl, H⟩
def b_store_Store_Frames (S : Mem) (s : Pt) (Q : Int → Mem → Prop) : Prop :=
  if s = none then
    Q 0 S
  else
  nn s fun b o =>
  gL (S.cell b o) fun t =>
  Q (IntKind.i64.wrap (Int.tdiv (t.n : Int) 256)) S
theorem t_store_Store_Frames {S : Mem} {s : Pt} {Q : Int → Mem → Prop} (H : b_store_Store_Frames S s Q) : store_Store_Frames S s Q := by
  unfold b_store_Store_Frames at H
  refine Tr.intro Try.func33 rfl Try.ntmps33 rfl fun w0 => ?_
  refine c_seq ?_
  refine c_region ?_
  refine s_p rfl (y_assign rfl) ?_
  refine s_nil (q_then ?_)
  refine c_seq ?_
  refine c_seq ?_
  refine c_region ?_
  refine s_p rfl (y_move rfl) ?_
  replace H := ite_e H
  rcases H with ⟨c, H⟩ | ⟨c, H⟩
  · refine s_p rfl (yT (y_pnil (p := s) rfl rfl) c) ?_
    refine s_nil (q_then ?_)
    refine c_t rfl rfl ?_
    refine c_seq ?_
    refine c_region ?_
    refine s_p rfl (y_assign rfl) ?_
    refine s_nil (q_then ?_)
    refine c_ret (q_then_ret ?_)
    exact q_ret Try.results33 (rv_tmp rfl rv_nil) ⟨_, rfl, H⟩
  · refine s_p rfl (yF (y_pnil (p := s) rfl rfl) c) ?_
    refine s_nil (q_then ?_)
    refine c_f rfl rfl ?_
    refine c_skip (q_then ?_)
    refine c_seq ?_
    refine c_region ?_
    refine s_p rfl (y_move rfl) ?_
    obtain ⟨b, o, rfl, H⟩ := H
    refine s_p rfl (y_nc rfl) ?_
    refine s_p rfl (y_fa rfl rfl) ?_
    obtain ⟨t, ht, H⟩ := H
    refine s_v rfl (y_ld rfl) (hc_S ht) ?_
    refine s_p rfl (y_len rfl) ?_
    refine s_p rfl (y_quo rfl rfl (by decide)) ?_
    refine s_p rfl (y_assign rfl) ?_
    refine s_nil (q_then ?_)
    refine c_ret ?_
    exact q_ret Try.results33 (rv_tmp rfl rv_nil) ⟨_, rfl, H⟩
def b_hermitcrabref12_Line (S : Mem) (s : List Value) (Q : Int → Mem → Prop) : Prop :=
  s.length = 26 ∧
  jn (fun (Sx : Mem) =>
      Q (-1) Sx) fun Jx =>
  lp (fun Xx (i : Int) (Sx_1 : Mem) =>
      jn (fun (Sx_2 : Mem) =>
          gI (nthL s 24) .u32 fun t =>
          0 ≤ i ∧
          if Int.tmod (ishr .u32 t i) 2 = 1 then
            gI (nthL s 25) .u32 fun t_1 =>
            0 ≤ i ∧
            if Int.tmod (ishr .u32 t_1 i) 2 = 1 then
              Q i Sx_2
            else
            Xx (IntKind.i64.wrap (i + 1)) Sx_2
          else
          Xx (IntKind.i64.wrap (i + 1)) Sx_2) fun Jx_1 =>
      if i < 8 then
        gB (nthL s 22) fun t_2 =>
        if t_2 = true then
          Jx_1 Sx_1
        else
        Jx Sx_1
      else
      Jx Sx_1) 0 S
theorem t_hermitcrabref12_Line {S : Mem} {s : List Value} {Q : Int → Mem → Prop} (H : b_hermitcrabref12_Line S s Q) : hermitcrabref12_Line S s Q := by
  unfold b_hermitcrabref12_Line at H
  refine Tr.intro Try.func34 rfl Try.ntmps34 rfl fun w0 => ?_
  obtain ⟨hs, H⟩ := H
  refine c_seq ?_
  refine c_region ?_
  refine s_box rfl rfl rfl fun b => ?_
  refine s_p rfl (y_assign rfl) ?_
  refine s_nil (q_then ?_)
  refine c_join2 H (fun (J : Mem → Prop) (z : Unit) S => J S) (fun z => ⟨27, []⟩) (fun z => []) ?_ ?_
  · clear H
    rintro _ Sx H
    refine c_seq ?_
    refine c_region ?_
    refine s_p rfl (y_assign rfl) ?_
    refine s_nil (q_then ?_)
    refine c_ret ?_
    exact q_ret Try.results34 (rv_tmp rfl rv_nil) ⟨_, rfl, H⟩
  · clear H
    intro Jx hJx H
    refine c_seq ?_
    refine c_region ?_
    refine s_p rfl (y_assign rfl) ?_
    refine s_nil (q_then ?_)
    refine c_block ?_
    refine c_loop (fun z => ⟨27, [(1, .pointer (some ⟨b, 0, none⟩)), (3, .int .i64 z)]⟩) (fun z => [⟨b, 72, s⟩]) 0 (idx := [0]) H rfl ⟨rfl, rfl, True.intro⟩ rfl ?_
    clear H
    rintro Xx hXx i Sx_1 H
    refine c_join2 H (fun (J : Mem → Prop) (z : Unit) S => J S) (fun z => ⟨27, [(1, .pointer (some ⟨b, 0, none⟩)), (3, .int .i64 i)]⟩) (fun z => [⟨b, 72, s⟩]) ?_ ?_
    · clear H
      rintro _ Sx_2 H
      refine c_seq ?_
      refine c_block ?_
      refine c_seq ?_
      refine c_region ?_
      refine s_p rfl (y_fa rfl rfl) ?_
      obtain ⟨t, ht, H⟩ := H
      refine s_v rfl (y_ld rfl) (hc_V 0 rfl ht) ?_
      refine s_p rfl (y_move rfl) ?_
      obtain ⟨c, H⟩ := H
      refine s_p rfl (y_shr rfl rfl c) ?_
      refine s_p rfl (y_rem rfl rfl (by decide)) ?_
      replace H := ite_e H
      rcases H with ⟨c_1, H⟩ | ⟨c_1, H⟩
      · refine s_p rfl (yT (y_eql rfl rfl) c_1) ?_
        refine s_p rfl (y_move rfl) ?_
        refine s_p rfl (y_fa rfl rfl) ?_
        obtain ⟨t_1, ht_1, H⟩ := H
        refine s_v rfl (y_ld rfl) (hc_V 0 rfl ht_1) ?_
        refine s_p rfl (y_move rfl) ?_
        obtain ⟨c_2, H⟩ := H
        refine s_p rfl (y_shr rfl rfl c_2) ?_
        refine s_p rfl (y_rem rfl rfl (by decide)) ?_
        replace H := ite_e H
        rcases H with ⟨c_3, H⟩ | ⟨c_3, H⟩
        · refine s_p rfl (yT (y_eql rfl rfl) c_3) ?_
          refine s_p rfl (y_pick rfl rfl) ?_
          refine s_nil (q_then ?_)
          refine c_t rfl rfl ?_
          refine c_seq ?_
          refine c_region ?_
          refine s_p rfl (y_move rfl) ?_
          refine s_p rfl (y_assign rfl) ?_
          refine s_nil (q_then ?_)
          refine c_ret (q_blk_ret (q_then_ret (q_then_ret (q_blk_ret (q_then_ret ?_)))))
          exact q_ret Try.results34 (rv_tmp rfl rv_nil) ⟨_, rfl, H⟩
        · refine s_p rfl (yF (y_eql rfl rfl) c_3) ?_
          refine s_p rfl (y_pick rfl rfl) ?_
          refine s_nil (q_then ?_)
          refine c_f rfl rfl ?_
          refine c_skip (q_blk (q_then ?_))
          refine c_region ?_
          refine s_p rfl (y_move rfl) ?_
          refine s_p rfl (y_add rfl rfl) ?_
          refine s_p rfl (y_assign rfl) ?_
          refine s_nil ?_
          exact hXx (IntKind.i64.wrap (i + 1)) _ _ _ _ [0] H rfl ⟨rfl, rfl, True.intro⟩ rfl
      · refine s_p rfl (yF (y_eql rfl rfl) c_1) ?_
        refine s_p rfl (y_move rfl) ?_
        refine s_skip rfl ?_
        refine s_skip rfl ?_
        refine s_skip rfl ?_
        refine s_skip rfl ?_
        refine s_skip rfl ?_
        refine s_skip rfl ?_
        refine s_p rfl (y_pick rfl rfl) ?_
        refine s_nil (q_then ?_)
        refine c_f rfl rfl ?_
        refine c_skip (q_blk (q_then ?_))
        refine c_region ?_
        refine s_p rfl (y_move rfl) ?_
        refine s_p rfl (y_add rfl rfl) ?_
        refine s_p rfl (y_assign rfl) ?_
        refine s_nil ?_
        exact hXx (IntKind.i64.wrap (i + 1)) _ _ _ _ [0] H rfl ⟨rfl, rfl, True.intro⟩ rfl
    · clear H
      intro Jx_1 hJx_1 H
      refine c_seq ?_
      refine c_region ?_
      refine s_p rfl (y_move rfl) ?_
      replace H := ite_e H
      rcases H with ⟨c_4, H⟩ | ⟨c_4, H⟩
      · refine s_p rfl (yT (y_lss rfl rfl) c_4) ?_
        refine s_p rfl (y_move rfl) ?_
        refine s_p rfl (y_fa rfl rfl) ?_
        obtain ⟨t_2, ht_2, H⟩ := H
        replace H := ib_e H
        rcases H with ⟨rfl, H⟩ | ⟨rfl, H⟩
        · refine s_v rfl (y_ld rfl) (hc_V 0 rfl ht_2) ?_
          refine s_p rfl (y_pick rfl rfl) ?_
          refine s_nil (q_then ?_)
          refine c_t rfl rfl ?_
          refine c_skip ?_
          exact hJx_1 () _ _ _ _ [0] H rfl ⟨rfl, rfl, True.intro⟩ rfl
        · refine s_v rfl (y_ld rfl) (hc_V 0 rfl ht_2) ?_
          refine s_p rfl (y_pick rfl rfl) ?_
          refine s_nil (q_then ?_)
          refine c_f rfl rfl ?_
          refine c_exit (q_then_exit (q_then_exit (q_blk_out ?_)))
          exact hJx () _ _ _ _ [] H rfl True.intro rfl
      · refine s_p rfl (yF (y_lss rfl rfl) c_4) ?_
        refine s_p rfl (y_move rfl) ?_
        refine s_skip rfl ?_
        refine s_skip rfl ?_
        refine s_p rfl (y_pick rfl rfl) ?_
        refine s_nil (q_then ?_)
        refine c_f rfl rfl ?_
        refine c_exit (q_then_exit (q_then_exit (q_blk_out ?_)))
        exact hJx () _ _ _ _ [] H rfl True.intro rfl
def b_guest_New (S : Mem) (form : Int) (frames : Int) (Q : Pt → Mem → Prop) : Prop :=
  owner_New S frames fun t Sx =>
  al Sx 91 ([.slice (none) 0 0]) fun b Sx_1 =>
  al Sx_1 68 (spl (spl (spl z68 0 [.int .i64 form]) 74 [eP t]) 171 [.pointer (some ⟨b, 0, none⟩)]) fun b_1 Sx_2 =>
  Q (some (b_1, 0)) Sx_2
theorem t_guest_New {S : Mem} {form : Int} {frames : Int} {Q : Pt → Mem → Prop} (H : b_guest_New S form frames Q) : guest_New S form frames Q := by
  unfold b_guest_New at H
  refine Tr.intro Try.func48 rfl Try.ntmps48 rfl fun w0 => ?_
  refine c_seq ?_
  refine c_region ?_
  refine s_p rfl (y_assign rfl) ?_
  refine s_nil (q_then ?_)
  refine c_seq ?_
  refine c_region ?_
  refine s_p rfl (y_move rfl) ?_
  refine s_p rfl (y_move rfl) ?_
  refine s_call rfl rfl H fun rv Sx H2 => ?_
  clear H
  obtain ⟨t, rfl, H⟩ := H2
  refine s_p rfl (y_build rfl rfl) ?_
  refine s_box rfl rfl rfl fun b => ?_
  refine s_pub 0 rfl fun hb => ?_
  replace H := H b hb
  refine s_p rfl (y_build rfl (fill_cons (off := 0) (size := 1) rfl rfl (fit_of (n := 190) z68_len (by decide)) (fill_cons (off := 74) (size := 1) rfl rfl (fit_of (n := 190) (spl_at (m := 1) z68_len rfl (by decide)) (by decide)) (fill_cons (off := 171) (size := 1) rfl rfl (fit_of (n := 190) (spl_at (m := 1) (spl_at (m := 1) z68_len rfl (by decide)) rfl (by decide)) (by decide)) fill_nil)))) ?_
  refine s_box rfl rfl rfl fun b_1 => ?_
  refine s_pub 0 rfl fun hb_1 => ?_
  replace H := H b_1 hb_1
  refine s_p rfl (y_assign rfl) ?_
  refine s_nil (q_then ?_)
  refine c_ret ?_
  exact q_ret Try.results48 (rv_tmp rfl rv_nil) ⟨_, rfl, H⟩
def b_owner_Book_row (S : Mem) (b : Pt) (frame : Int) (Q : Pt → Int → Mem → Prop) : Prop :=
  jn (fun (Sx : Mem) =>
      nn b fun b_1 o =>
      gL (Sx.cell b_1 o) fun t =>
      sl t fun b_2 o_1 n n_1 =>
      0 ≤ frame ∧ frame < ((n : Nat) : Int) ∧
      Q (some (b_2, o_1 + frame.toNat * 4)) 0 Sx) fun Jx =>
  if b = none then
    Q none 1 S
  else
  if frame < 0 then
    Q none 1 S
  else
  nn b fun b_3 o_2 =>
  gL (S.cell b_3 o_2) fun t_1 =>
  if (t_1.n : Int) ≤ frame then
    Q none 1 S
  else
  Jx S
theorem t_owner_Book_row {S : Mem} {b : Pt} {frame : Int} {Q : Pt → Int → Mem → Prop} (H : b_owner_Book_row S b frame Q) : owner_Book_row S b frame Q := by
  unfold b_owner_Book_row at H
  refine Tr.intro Try.func57 rfl Try.ntmps57 rfl fun w0 => ?_
  refine c_seq ?_
  refine c_region ?_
  refine s_p rfl (y_assign rfl) ?_
  refine s_p rfl (y_assign rfl) ?_
  refine s_nil (q_then ?_)
  refine c_join2 H (fun (J : Mem → Prop) (z : Unit) S => J S) (fun z => ⟨27, [(0, eP b), (1, .int .i64 frame)]⟩) (fun z => []) ?_ ?_
  · clear H
    rintro _ Sx H
    refine c_seq ?_
    refine c_region ?_
    refine s_p rfl (y_move rfl) ?_
    obtain ⟨b_1, o, rfl, H⟩ := H
    refine s_p rfl (y_nc rfl) ?_
    refine s_p rfl (y_fa rfl rfl) ?_
    obtain ⟨t, ht, H⟩ := H
    refine s_v rfl (y_ld rfl) (hc_S ht) ?_
    refine s_p rfl (y_move rfl) ?_
    obtain ⟨b_2, o_1, n, n_1, rfl, H⟩ := H
    obtain ⟨c, c_1, H⟩ := H
    refine s_p rfl (y_ixL rfl rfl c c_1 rfl) ?_
    refine s_p rfl (y_assign rfl) ?_
    refine s_p rfl (y_assign rfl) ?_
    refine s_nil (q_then ?_)
    refine c_ret ?_
    exact q_ret Try.results57 (rv_tmp rfl (rv_tmp rfl rv_nil)) ⟨_, _, rfl, H⟩
  · clear H
    intro Jx hJx H
    refine c_seq ?_
    refine c_region ?_
    refine s_p rfl (y_move rfl) ?_
    replace H := ite_e H
    rcases H with ⟨c_2, H⟩ | ⟨c_2, H⟩
    · refine s_p rfl (yT (y_pnil (p := b) rfl rfl) c_2) ?_
      refine s_p rfl (y_move rfl) ?_
      refine s_skip rfl ?_
      refine s_skip rfl ?_
      refine s_p rfl (y_pick rfl rfl) ?_
      refine s_p rfl (y_move rfl) ?_
      refine s_skip rfl ?_
      refine s_skip rfl ?_
      refine s_skip rfl ?_
      refine s_skip rfl ?_
      refine s_skip rfl ?_
      refine s_skip rfl ?_
      refine s_skip rfl ?_
      refine s_p rfl (y_pick rfl rfl) ?_
      refine s_nil (q_then ?_)
      refine c_t rfl rfl ?_
      refine c_seq ?_
      refine c_region ?_
      refine s_p rfl (y_assign rfl) ?_
      refine s_p rfl (y_assign rfl) ?_
      refine s_nil (q_then ?_)
      refine c_ret (q_then_ret ?_)
      exact q_ret Try.results57 (rv_tmp rfl (rv_tmp rfl rv_nil)) ⟨_, _, rfl, H⟩
    · refine s_p rfl (yF (y_pnil (p := b) rfl rfl) c_2) ?_
      refine s_p rfl (y_move rfl) ?_
      refine s_p rfl (y_move rfl) ?_
      replace H := ite_e H
      rcases H with ⟨c_3, H⟩ | ⟨c_3, H⟩
      · refine s_p rfl (yT (y_lss rfl rfl) c_3) ?_
        refine s_p rfl (y_pick rfl rfl) ?_
        refine s_p rfl (y_move rfl) ?_
        refine s_skip rfl ?_
        refine s_skip rfl ?_
        refine s_skip rfl ?_
        refine s_skip rfl ?_
        refine s_skip rfl ?_
        refine s_skip rfl ?_
        refine s_skip rfl ?_
        refine s_p rfl (y_pick rfl rfl) ?_
        refine s_nil (q_then ?_)
        refine c_t rfl rfl ?_
        refine c_seq ?_
        refine c_region ?_
        refine s_p rfl (y_assign rfl) ?_
        refine s_p rfl (y_assign rfl) ?_
        refine s_nil (q_then ?_)
        refine c_ret (q_then_ret ?_)
        exact q_ret Try.results57 (rv_tmp rfl (rv_tmp rfl rv_nil)) ⟨_, _, rfl, H⟩
      · refine s_p rfl (yF (y_lss rfl rfl) c_3) ?_
        refine s_p rfl (y_pick rfl rfl) ?_
        refine s_p rfl (y_move rfl) ?_
        refine s_p rfl (y_move rfl) ?_
        refine s_p rfl (y_move rfl) ?_
        obtain ⟨b_3, o_2, rfl, H⟩ := H
        refine s_p rfl (y_nc rfl) ?_
        refine s_p rfl (y_fa rfl rfl) ?_
        obtain ⟨t_1, ht_1, H⟩ := H
        refine s_v rfl (y_ld rfl) (hc_S ht_1) ?_
        refine s_p rfl (y_len rfl) ?_
        replace H := ite_e H
        rcases H with ⟨c_4, H⟩ | ⟨c_4, H⟩
        · refine s_p rfl (yT (y_geq rfl rfl) c_4) ?_
          refine s_p rfl (y_pick rfl rfl) ?_
          refine s_nil (q_then ?_)
          refine c_t rfl rfl ?_
          refine c_seq ?_
          refine c_region ?_
          refine s_p rfl (y_assign rfl) ?_
          refine s_p rfl (y_assign rfl) ?_
          refine s_nil (q_then ?_)
          refine c_ret (q_then_ret ?_)
          exact q_ret Try.results57 (rv_tmp rfl (rv_tmp rfl rv_nil)) ⟨_, _, rfl, H⟩
        · refine s_p rfl (yF (y_geq rfl rfl) c_4) ?_
          refine s_p rfl (y_pick rfl rfl) ?_
          refine s_nil (q_then ?_)
          refine c_f rfl rfl ?_
          refine c_skip ?_
          exact hJx () _ _ _ _ [] H rfl ⟨rfl, rfl, True.intro⟩ rfl
def b_owner_vm (S : Mem) (n : Int) (page : Int) (Q : Bool → Mem → Prop) : Prop :=
  if 0 ≤ n then
    if n < 6 then
      if 0 ≤ page then
        Q (decide (page < 32)) S
      else
      Q false S
    else
    Q false S
  else
  Q false S
theorem t_owner_vm {S : Mem} {n : Int} {page : Int} {Q : Bool → Mem → Prop} (H : b_owner_vm S n page Q) : owner_vm S n page Q := by
  unfold b_owner_vm at H
  refine Tr.intro Try.func58 rfl Try.ntmps58 rfl fun w0 => ?_
  refine c_seq ?_
  refine c_region ?_
  refine s_p rfl (y_assign rfl) ?_
  refine s_nil (q_then ?_)
  refine c_seq ?_
  refine c_region ?_
  refine s_p rfl (y_move rfl) ?_
  replace H := ite_e H
  rcases H with ⟨c, H⟩ | ⟨c, H⟩
  · refine s_p rfl (yT (y_geq rfl rfl) c) ?_
    refine s_p rfl (y_move rfl) ?_
    refine s_p rfl (y_move rfl) ?_
    replace H := ite_e H
    rcases H with ⟨c_1, H⟩ | ⟨c_1, H⟩
    · refine s_p rfl (yT (y_lss rfl rfl) c_1) ?_
      refine s_p rfl (y_pick rfl rfl) ?_
      refine s_p rfl (y_move rfl) ?_
      refine s_p rfl (y_move rfl) ?_
      replace H := ite_e H
      rcases H with ⟨c_2, H⟩ | ⟨c_2, H⟩
      · refine s_p rfl (yT (y_geq rfl rfl) c_2) ?_
        refine s_p rfl (y_pick rfl rfl) ?_
        refine s_p rfl (y_move rfl) ?_
        refine s_p rfl (y_move rfl) ?_
        refine s_p rfl (y_lss rfl rfl) ?_
        refine s_p rfl (y_pick rfl rfl) ?_
        refine s_p rfl (y_assign rfl) ?_
        refine s_nil (q_then ?_)
        refine c_ret ?_
        exact q_ret Try.results58 (rv_tmp rfl rv_nil) ⟨_, rfl, H⟩
      · refine s_p rfl (yF (y_geq rfl rfl) c_2) ?_
        refine s_p rfl (y_pick rfl rfl) ?_
        refine s_p rfl (y_move rfl) ?_
        refine s_skip rfl ?_
        refine s_skip rfl ?_
        refine s_p rfl (y_pick rfl rfl) ?_
        refine s_p rfl (y_assign rfl) ?_
        refine s_nil (q_then ?_)
        refine c_ret ?_
        exact q_ret Try.results58 (rv_tmp rfl rv_nil) ⟨_, rfl, H⟩
    · refine s_p rfl (yF (y_lss rfl rfl) c_1) ?_
      refine s_p rfl (y_pick rfl rfl) ?_
      refine s_p rfl (y_move rfl) ?_
      refine s_skip rfl ?_
      refine s_skip rfl ?_
      refine s_p rfl (y_pick rfl rfl) ?_
      refine s_p rfl (y_move rfl) ?_
      refine s_skip rfl ?_
      refine s_skip rfl ?_
      refine s_p rfl (y_pick rfl rfl) ?_
      refine s_p rfl (y_assign rfl) ?_
      refine s_nil (q_then ?_)
      refine c_ret ?_
      exact q_ret Try.results58 (rv_tmp rfl rv_nil) ⟨_, rfl, H⟩
  · refine s_p rfl (yF (y_geq rfl rfl) c) ?_
    refine s_p rfl (y_move rfl) ?_
    refine s_skip rfl ?_
    refine s_skip rfl ?_
    refine s_p rfl (y_pick rfl rfl) ?_
    refine s_p rfl (y_move rfl) ?_
    refine s_skip rfl ?_
    refine s_skip rfl ?_
    refine s_p rfl (y_pick rfl rfl) ?_
    refine s_p rfl (y_move rfl) ?_
    refine s_skip rfl ?_
    refine s_skip rfl ?_
    refine s_p rfl (y_pick rfl rfl) ?_
    refine s_p rfl (y_assign rfl) ?_
    refine s_nil (q_then ?_)
    refine c_ret ?_
    exact q_ret Try.results58 (rv_tmp rfl rv_nil) ⟨_, rfl, H⟩
def b_owner_New (S : Mem) (frames : Int) (Q : Pt → Mem → Prop) : Prop :=
  0 ≤ (if 512 < (if frames < 0 then 0 else frames) then 512 else (if frames < 0 then 0 else frames)) ∧ (if 512 < (if frames < 0 then 0 else frames) then 512 else (if frames < 0 then 0 else frames)) ≤ (if 512 < (if frames < 0 then 0 else frames) then 512 else (if frames < 0 then 0 else frames)) ∧ (32 : Int) * (if 512 < (if frames < 0 then 0 else frames) then 512 else (if frames < 0 then 0 else frames)) ≤ 281474976710656 ∧ (if 512 < (if frames < 0 then 0 else frames) then 512 else (if frames < 0 then 0 else frames)) ≤ 9223372036854775807 ∧
  al S 135 (zrep (Int.toNat (if 512 < (if frames < 0 then 0 else frames) then 512 else (if frames < 0 then 0 else frames))) [.int .u8 0, .int .i64 0, .int .i64 0, .int .i64 0]) fun b Sx =>
  al Sx 137 ([.slice (some ⟨b, 0, none⟩) (Int.toNat (if 512 < (if frames < 0 then 0 else frames) then 512 else (if frames < 0 then 0 else frames))) (Int.toNat (if 512 < (if frames < 0 then 0 else frames) then 512 else (if frames < 0 then 0 else frames)))]) fun b_1 Sx_1 =>
  Q (some (b_1, 0)) Sx_1
theorem t_owner_New {S : Mem} {frames : Int} {Q : Pt → Mem → Prop} (H : b_owner_New S frames Q) : owner_New S frames Q := by
  unfold b_owner_New at H
  refine Tr.intro Try.func71 rfl Try.ntmps71 rfl fun w0 => ?_
  refine c_seq ?_
  refine c_region ?_
  refine s_p rfl (y_assign rfl) ?_
  refine s_nil (q_then ?_)
  refine c_seq ?_
  refine c_region ?_
  refine s_p rfl (y_move rfl) ?_
  refine s_p rfl (y_max rfl rfl) ?_
  refine s_p rfl (y_min rfl rfl) ?_
  obtain ⟨c, c_1, c_2, c_3, H⟩ := H
  refine s_mk rfl rfl rfl c c_1 c_2 c_3 fun b => ?_
  refine s_pub 0 rfl fun hb => ?_
  replace H := H b hb
  refine s_p rfl (y_build rfl rfl) ?_
  refine s_box rfl rfl rfl fun b_1 => ?_
  refine s_pub 0 rfl fun hb_1 => ?_
  replace H := H b_1 hb_1
  refine s_p rfl (y_assign rfl) ?_
  refine s_nil (q_then ?_)
  refine c_ret ?_
  exact q_ret Try.results71 (rv_tmp rfl rv_nil) ⟨_, rfl, H⟩
def b_turn_Number (S : Mem) (vm : Int) (seat : Int) (Q : Int → Mem → Prop) : Prop :=
  jn (fun (Sx : Mem) =>
      Q (IntKind.i64.wrap ((IntKind.i64.wrap (vm * 3)) + seat)) Sx) fun Jx =>
  if vm < 0 then
    Q (-1) S
  else
  if 6 ≤ vm then
    Q (-1) S
  else
  if seat < 0 then
    Q (-1) S
  else
  if 3 ≤ seat then
    Q (-1) S
  else
  Jx S
theorem t_turn_Number {S : Mem} {vm : Int} {seat : Int} {Q : Int → Mem → Prop} (H : b_turn_Number S vm seat Q) : turn_Number S vm seat Q := by
  unfold b_turn_Number at H
  refine Tr.intro Try.func60 rfl Try.ntmps60 rfl fun w0 => ?_
  refine c_seq ?_
  refine c_region ?_
  refine s_p rfl (y_assign rfl) ?_
  refine s_nil (q_then ?_)
  refine c_join2 H (fun (J : Mem → Prop) (z : Unit) S => J S) (fun z => ⟨23, [(0, .int .i64 vm), (1, .int .i64 seat)]⟩) (fun z => []) ?_ ?_
  · clear H
    rintro _ Sx H
    refine c_seq ?_
    refine c_region ?_
    refine s_p rfl (y_move rfl) ?_
    refine s_p rfl (y_mul rfl rfl) ?_
    refine s_p rfl (y_move rfl) ?_
    refine s_p rfl (y_add rfl rfl) ?_
    refine s_p rfl (y_assign rfl) ?_
    refine s_nil (q_then ?_)
    refine c_ret ?_
    exact q_ret Try.results60 (rv_tmp rfl rv_nil) ⟨_, rfl, H⟩
  · clear H
    intro Jx hJx H
    refine c_seq ?_
    refine c_region ?_
    refine s_p rfl (y_move rfl) ?_
    replace H := ite_e H
    rcases H with ⟨c, H⟩ | ⟨c, H⟩
    · refine s_p rfl (yT (y_lss rfl rfl) c) ?_
      refine s_p rfl (y_move rfl) ?_
      refine s_skip rfl ?_
      refine s_skip rfl ?_
      refine s_p rfl (y_pick rfl rfl) ?_
      refine s_p rfl (y_move rfl) ?_
      refine s_skip rfl ?_
      refine s_skip rfl ?_
      refine s_p rfl (y_pick rfl rfl) ?_
      refine s_p rfl (y_move rfl) ?_
      refine s_skip rfl ?_
      refine s_skip rfl ?_
      refine s_p rfl (y_pick rfl rfl) ?_
      refine s_nil (q_then ?_)
      refine c_t rfl rfl ?_
      refine c_seq ?_
      refine c_region ?_
      refine s_p rfl (y_assign rfl) ?_
      refine s_nil (q_then ?_)
      refine c_ret (q_then_ret ?_)
      exact q_ret Try.results60 (rv_tmp rfl rv_nil) ⟨_, rfl, H⟩
    · refine s_p rfl (yF (y_lss rfl rfl) c) ?_
      refine s_p rfl (y_move rfl) ?_
      refine s_p rfl (y_move rfl) ?_
      replace H := ite_e H
      rcases H with ⟨c_1, H⟩ | ⟨c_1, H⟩
      · refine s_p rfl (yT (y_geq rfl rfl) c_1) ?_
        refine s_p rfl (y_pick rfl rfl) ?_
        refine s_p rfl (y_move rfl) ?_
        refine s_skip rfl ?_
        refine s_skip rfl ?_
        refine s_p rfl (y_pick rfl rfl) ?_
        refine s_p rfl (y_move rfl) ?_
        refine s_skip rfl ?_
        refine s_skip rfl ?_
        refine s_p rfl (y_pick rfl rfl) ?_
        refine s_nil (q_then ?_)
        refine c_t rfl rfl ?_
        refine c_seq ?_
        refine c_region ?_
        refine s_p rfl (y_assign rfl) ?_
        refine s_nil (q_then ?_)
        refine c_ret (q_then_ret ?_)
        exact q_ret Try.results60 (rv_tmp rfl rv_nil) ⟨_, rfl, H⟩
      · refine s_p rfl (yF (y_geq rfl rfl) c_1) ?_
        refine s_p rfl (y_pick rfl rfl) ?_
        refine s_p rfl (y_move rfl) ?_
        refine s_p rfl (y_move rfl) ?_
        replace H := ite_e H
        rcases H with ⟨c_2, H⟩ | ⟨c_2, H⟩
        · refine s_p rfl (yT (y_lss rfl rfl) c_2) ?_
          refine s_p rfl (y_pick rfl rfl) ?_
          refine s_p rfl (y_move rfl) ?_
          refine s_skip rfl ?_
          refine s_skip rfl ?_
          refine s_p rfl (y_pick rfl rfl) ?_
          refine s_nil (q_then ?_)
          refine c_t rfl rfl ?_
          refine c_seq ?_
          refine c_region ?_
          refine s_p rfl (y_assign rfl) ?_
          refine s_nil (q_then ?_)
          refine c_ret (q_then_ret ?_)
          exact q_ret Try.results60 (rv_tmp rfl rv_nil) ⟨_, rfl, H⟩
        · refine s_p rfl (yF (y_lss rfl rfl) c_2) ?_
          refine s_p rfl (y_pick rfl rfl) ?_
          refine s_p rfl (y_move rfl) ?_
          refine s_p rfl (y_move rfl) ?_
          replace H := ite_e H
          rcases H with ⟨c_3, H⟩ | ⟨c_3, H⟩
          · refine s_p rfl (yT (y_geq rfl rfl) c_3) ?_
            refine s_p rfl (y_pick rfl rfl) ?_
            refine s_nil (q_then ?_)
            refine c_t rfl rfl ?_
            refine c_seq ?_
            refine c_region ?_
            refine s_p rfl (y_assign rfl) ?_
            refine s_nil (q_then ?_)
            refine c_ret (q_then_ret ?_)
            exact q_ret Try.results60 (rv_tmp rfl rv_nil) ⟨_, rfl, H⟩
          · refine s_p rfl (yF (y_geq rfl rfl) c_3) ?_
            refine s_p rfl (y_pick rfl rfl) ?_
            refine s_nil (q_then ?_)
            refine c_f rfl rfl ?_
            refine c_skip ?_
            exact hJx () _ _ _ _ [] H rfl ⟨rfl, rfl, True.intro⟩ rfl
def b_guest_State_Twin (S : Mem) (s : Pt) (Q : Pt → Mem → Prop) : Prop :=
  jn (fun (Sx : Mem) =>
      nn s fun b o =>
      gA (Sx.part b o 190) fun t =>
      al Sx 68 z68 fun b_1 Sx_1 =>
      t.all (·.oneCell') = true ∧
      pt Sx_1 b_1 0 190 t fun Sx_2 =>
      jn (fun (Sx_3 : Mem) =>
          gP (Sx_3.cell b (o + 74)) fun t_1 =>
          gP (Sx_3.cell b (o + 171)) fun t_2 =>
          owner_Book_Twin Sx_3 t_1 fun t_3 Sx_4 =>
          Sx_4.cell b (o + 171) = some (eP t_2) ∧
          alarm_Clock_Twin Sx_4 t_2 fun t_4 Sx_5 =>
          pt Sx_5 b_1 74 1 ([eP t_3]) fun Sx_6 =>
          pt Sx_6 b_1 171 1 ([eP t_4]) fun Sx_7 =>
          Q (some (b_1, 0)) Sx_7) fun Jx =>
      lp (fun Xx (t_5 : Int) (Sx_8 : Mem) =>
          if t_5 < 6 then
            0 ≤ t_5 ∧ t_5 < 6 ∧
            gA (Sx_8.part b_1 (2 + t_5.toNat * 12) 12) fun t_6 =>
            guest_Copy Sx_8 t_6 fun t_7 Sx_9 =>
            0 ≤ t_5 ∧ t_5 < 6 ∧
            t_7.all (·.oneCell') = true ∧
            pt Sx_9 b_1 (2 + t_5.toNat * 12) 12 t_7 fun Sx_10 =>
            Xx (IntKind.i64.wrap (t_5 + 1)) Sx_10
          else
          Jx Sx_8) 0 Sx_2) fun Jx_1 =>
  if s = none then
    Q none S
  else
  Jx_1 S
theorem t_guest_State_Twin {S : Mem} {s : Pt} {Q : Pt → Mem → Prop} (H : b_guest_State_Twin S s Q) : guest_State_Twin S s Q := by
  unfold b_guest_State_Twin at H
  refine Tr.intro Try.func20 rfl Try.ntmps20 rfl fun w0 => ?_
  refine c_seq ?_
  refine c_region ?_
  refine s_p rfl (y_assign rfl) ?_
  refine s_nil (q_then ?_)
  refine c_join2 H (fun (J : Mem → Prop) (z : Unit) S => J S) (fun z => ⟨34, [(0, eP s)]⟩) (fun z => []) ?_ ?_
  · clear H
    rintro _ Sx H
    refine c_seq ?_
    refine c_region ?_
    refine s_p rfl (y_move rfl) ?_
    obtain ⟨b, o, rfl, H⟩ := H
    refine s_p rfl (y_nc rfl) ?_
    obtain ⟨t, ht, H⟩ := H
    refine s_v rfl (y_ldA rfl (part_len ht)) (hc_SP ht) ?_
    refine s_alloc rfl fun b_1 => ?_
    refine s_pub 0 rfl fun hb_1 => ?_
    replace H := H b_1 hb_1
    obtain ⟨c, H⟩ := H
    obtain ⟨c_1, H⟩ := H
    refine s_stS rfl rfl rfl rfl (part_len ht) c_1 c ?_
    refine s_nil (q_then ?_)
    refine c_join2 H (fun (J : Mem → Prop) (z : Unit) S => J S) (fun z => ⟨34, [(0, .pointer (some ⟨b, o, none⟩)), (3, .pointer (some ⟨b_1, 0, none⟩))]⟩) (fun z => []) ?_ ?_
    · clear H
      rintro _ Sx_3 H
      refine c_seq ?_
      refine c_drawn (by kernel_rfl) ?_
      refine a_takeP 0 rfl (by decide +kernel) (np_then np_body) rfl (y_move rfl) ?_
      refine a_takeP 1 rfl (by decide +kernel) (np_then np_body) rfl (y_nc rfl) ?_
      refine a_takeP 2 rfl (by decide +kernel) (np_then np_body) rfl (y_fa rfl rfl) ?_
      obtain ⟨t_1, ht_1, H⟩ := H
      refine a_take 3 rfl (by decide +kernel) (np_then np_body) rfl (y_ld rfl) (hc_S ht_1) ?_
      refine a_takeP 5 rfl (by decide +kernel) (np_then np_body) rfl (y_move rfl) ?_
      refine a_takeP 6 rfl (by decide +kernel) (np_then np_body) rfl (y_nc rfl) ?_
      refine a_takeP 7 rfl (by decide +kernel) (np_then np_body) rfl (y_fa rfl rfl) ?_
      obtain ⟨t_2, ht_2, H⟩ := H
      refine a_take 8 rfl (by decide +kernel) (np_then np_body) rfl (y_ld rfl) (hc_S ht_2) ?_
      refine a_step 4 (by decide +kernel) rfl ?_
      refine s_call rfl rfl H fun rv Sx_4 H2 => ?_
      clear H
      obtain ⟨t_3, rfl, H⟩ := H2
      obtain ⟨k, H⟩ := H
      refine s_nil (q_any (ac_cons (hc_S k) ac_nil) ?_)
      refine a_step 9 (by decide +kernel) rfl ?_
      refine s_call rfl rfl H fun rv Sx_5 H2 => ?_
      clear H
      obtain ⟨t_4, rfl, H⟩ := H2
      refine s_nil (q_any ac_nil ?_)
      refine a_takeP 10 rfl (by decide +kernel) (np_then np_body) rfl (y_fa rfl rfl) ?_
      refine a_step 11 (by decide +kernel) rfl ?_
      obtain ⟨c_2, H⟩ := H
      refine s_stS rfl rfl rfl rfl rfl c_2 rfl ?_
      refine s_nil (q_any ac_nil ?_)
      refine a_takeP 12 rfl (by decide +kernel) (np_then np_body) rfl (y_fa rfl rfl) ?_
      refine a_step 13 (by decide +kernel) rfl ?_
      obtain ⟨c_3, H⟩ := H
      refine s_stS rfl rfl rfl rfl rfl c_3 rfl ?_
      refine s_nil (q_any ac_nil ?_)
      refine a_done (by decide +kernel) ?_
      refine q_then ?_
      refine c_seq ?_
      refine c_region ?_
      refine s_p rfl (y_assign rfl) ?_
      refine s_nil (q_then ?_)
      refine c_ret ?_
      exact q_ret Try.results20 (rv_tmp rfl rv_nil) ⟨_, rfl, H⟩
    · clear H
      intro Jx hJx H
      refine c_seq ?_
      refine c_region ?_
      refine s_p rfl (y_move rfl) ?_
      refine s_nil (q_then ?_)
      refine c_block ?_
      refine c_loop (fun z => ⟨34, [(0, .pointer (some ⟨b, o, none⟩)), (3, .pointer (some ⟨b_1, 0, none⟩)), (10, .int .i64 z)]⟩) (fun z => []) 0 (idx := []) H rfl ⟨rfl, rfl, rfl, True.intro⟩ rfl ?_
      clear H
      rintro Xx hXx t_5 Sx_8 H
      refine c_seq ?_
      refine c_region ?_
      replace H := ite_e H
      rcases H with ⟨c_4, H⟩ | ⟨c_4, H⟩
      · refine s_p rfl (yT (y_lss rfl rfl) c_4) ?_
        refine s_nil (q_then ?_)
        refine c_seq ?_
        refine c_t rfl rfl ?_
        refine c_skip (q_then ?_)
        refine c_seq ?_
        refine c_block ?_
        refine c_seq ?_
        refine c_region ?_
        refine s_p rfl (y_move rfl) ?_
        refine s_p rfl (y_assign rfl) ?_
        refine s_nil (q_then ?_)
        refine c_region ?_
        refine s_p rfl (y_move rfl) ?_
        refine s_p rfl (y_move rfl) ?_
        refine s_p rfl (y_fa rfl rfl) ?_
        obtain ⟨c_5, c_6, H⟩ := H
        refine s_p rfl (y_ixA rfl rfl c_5 c_6 rfl) ?_
        obtain ⟨t_6, ht_6, H⟩ := H
        refine s_v rfl (y_ldA rfl (part_len ht_6)) (hc_SP ht_6) ?_
        refine s_call rfl rfl H fun rv Sx_9 H2 => ?_
        clear H
        obtain ⟨t_7, rfl, ht_7, H⟩ := H2
        refine s_p rfl (y_fa rfl rfl) ?_
        obtain ⟨c_7, c_8, H⟩ := H
        refine s_p rfl (y_ixA rfl rfl c_7 c_8 rfl) ?_
        obtain ⟨c_9, H⟩ := H
        obtain ⟨c_10, H⟩ := H
        refine s_stS rfl rfl rfl rfl ht_7 c_10 c_9 ?_
        refine s_nil (q_blk (q_then ?_))
        refine c_region ?_
        refine s_p rfl (y_add rfl rfl) ?_
        refine s_p rfl (y_move rfl) ?_
        refine s_nil ?_
        exact hXx (IntKind.i64.wrap (t_5 + 1)) _ _ _ _ [] H rfl ⟨rfl, rfl, rfl, True.intro⟩ rfl
      · refine s_p rfl (yF (y_lss rfl rfl) c_4) ?_
        refine s_nil (q_then ?_)
        refine c_seq ?_
        refine c_f rfl rfl ?_
        refine c_exit (q_then_exit (q_then_exit (q_blk_out ?_)))
        exact hJx () _ _ _ _ [] H rfl ⟨rfl, rfl, True.intro⟩ rfl
  · clear H
    intro Jx_1 hJx_1 H
    refine c_seq ?_
    refine c_region ?_
    refine s_p rfl (y_move rfl) ?_
    replace H := ite_e H
    rcases H with ⟨c_11, H⟩ | ⟨c_11, H⟩
    · refine s_p rfl (yT (y_pnil (p := s) rfl rfl) c_11) ?_
      refine s_nil (q_then ?_)
      refine c_t rfl rfl ?_
      refine c_seq ?_
      refine c_region ?_
      refine s_p rfl (y_assign rfl) ?_
      refine s_nil (q_then ?_)
      refine c_ret (q_then_ret ?_)
      exact q_ret Try.results20 (rv_tmp rfl rv_nil) ⟨_, rfl, H⟩
    · refine s_p rfl (yF (y_pnil (p := s) rfl rfl) c_11) ?_
      refine s_nil (q_then ?_)
      refine c_f rfl rfl ?_
      refine c_skip ?_
      exact hJx_1 () _ _ _ _ [] H rfl ⟨rfl, True.intro⟩ rfl
def b_guest_Same (S : Mem) (a : Pt) (b : Pt) (Q : Bool → Mem → Prop) : Prop :=
  jn (fun (Sx : Mem) =>
      jn (fun (Sx_1 : Mem) =>
          nn a fun b_1 o =>
          gA (Sx_1.part b_1 (o + 75) 96) fun t =>
          nn b fun b_2 o_1 =>
          gA (Sx_1.part b_2 (o_1 + 75) 96) fun t_1 =>
          fits ck63 t = true ∧
          fits ck63 t_1 = true ∧
          if (eqL t t_1) = true then
            gA (Sx_1.part b_1 (o + 172) 18) fun t_2 =>
            gA (Sx_1.part b_2 (o_1 + 172) 18) fun t_3 =>
            fits [.i .i64, .i .i64, .i .i64, .i .i64, .i .i64, .i .i64, .i .i64, .i .i64, .i .i64, .i .i64, .i .i64, .i .i64, .i .i64, .i .i64, .i .i64, .i .i64, .i .i64, .i .i64] t_2 = true ∧
            fits [.i .i64, .i .i64, .i .i64, .i .i64, .i .i64, .i .i64, .i .i64, .i .i64, .i .i64, .i .i64, .i .i64, .i .i64, .i .i64, .i .i64, .i .i64, .i .i64, .i .i64, .i .i64] t_3 = true ∧
            if (eqL t_2 t_3) = true then
              gP (Sx_1.cell b_1 (o + 74)) fun t_4 =>
              nn t_4 fun b_3 o_2 =>
              gL (Sx_1.cell b_3 o_2) fun t_5 =>
              gP (Sx_1.cell b_2 (o_1 + 74)) fun t_6 =>
              nn t_6 fun b_4 o_3 =>
              gL (Sx_1.cell b_4 o_3) fun t_7 =>
              slices_EqualFunc_owner_Row_owner_Row_owner_Row_owner_Row Sx_1 t_5 t_7 (.func (.func 51) #[] #[]) fun t_8 Sx_2 =>
              Sx_2.cell b_2 (o_1 + 74) = some (.pointer (some ⟨b_4, o_3, none⟩)) ∧
              Sx_2.cell b_1 (o + 74) = some (.pointer (some ⟨b_3, o_2, none⟩)) ∧
              Sx_2.part b_2 (o_1 + 172) 18 = some t_3 ∧
              Sx_2.part b_1 (o + 172) 18 = some t_2 ∧
              Sx_2.part b_2 (o_1 + 75) 96 = some t_1 ∧
              Sx_2.part b_1 (o + 75) 96 = some t ∧
              Q t_8 Sx_2
            else
            Q false Sx_1
          else
          Q false Sx_1) fun Jx =>
      lp (fun Xx (t_9 : Int) (Sx_3 : Mem) =>
          if t_9 < 6 then
            nn a fun b_5 o_4 =>
            0 ≤ t_9 ∧ t_9 < 6 ∧
            gA (Sx_3.part b_5 (o_4 + 2 + t_9.toNat * 12) 12) fun t_10 =>
            nn b fun b_6 o_5 =>
            0 ≤ t_9 ∧ t_9 < 6 ∧
            gA (Sx_3.part b_6 (o_5 + 2 + t_9.toNat * 12) 12) fun t_11 =>
            guest_SameVM Sx_3 t_10 t_11 fun t_12 Sx_4 =>
            if t_12 = true then
              Xx (IntKind.i64.wrap (t_9 + 1)) Sx_4
            else
            Q false Sx_4
          else
          Jx Sx_3) 0 Sx) fun Jx_1 =>
  if a = none then
    if a = none then
      Q (decide (b = none)) S
    else
    Q false S
  else
  if b = none then
    if a = none then
      Q (decide (b = none)) S
    else
    Q false S
  else
  Jx_1 S
theorem t_guest_Same {S : Mem} {a : Pt} {b : Pt} {Q : Bool → Mem → Prop} (H : b_guest_Same S a b Q) : guest_Same S a b Q := by
  unfold b_guest_Same at H
  refine Tr.intro Try.func21 rfl Try.ntmps21 rfl fun w0 => ?_
  refine c_seq ?_
  refine c_region ?_
  refine s_p rfl (y_assign rfl) ?_
  refine s_nil (q_then ?_)
  refine c_join2 H (fun (J : Mem → Prop) (z : Unit) S => J S) (fun z => ⟨73, [(0, eP a), (1, eP b)]⟩) (fun z => []) ?_ ?_
  · clear H
    rintro _ Sx H
    refine c_join2 H (fun (J : Mem → Prop) (z : Unit) S => J S) (fun z => ⟨73, [(0, eP a), (1, eP b)]⟩) (fun z => []) ?_ ?_
    · clear H
      rintro _ Sx_1 H
      refine c_seq ?_
      refine c_drawn (by kernel_rfl) ?_
      refine a_takeP 0 rfl (by decide +kernel) (np_then np_body) rfl (y_move rfl) ?_
      obtain ⟨b_1, o, rfl, H⟩ := H
      refine a_takeP 1 rfl (by decide +kernel) (np_then np_body) rfl (y_nc rfl) ?_
      refine a_takeP 2 rfl (by decide +kernel) (np_then np_body) rfl (y_fa rfl rfl) ?_
      obtain ⟨t, ht, H⟩ := H
      refine a_take 3 rfl (by decide +kernel) (np_then np_body) rfl (y_ldA rfl (part_len ht)) (hc_SP ht) ?_
      refine a_takeP 4 rfl (by decide +kernel) (np_then np_body) rfl (y_move rfl) ?_
      obtain ⟨b_2, o_1, rfl, H⟩ := H
      refine a_takeP 5 rfl (by decide +kernel) (np_then np_body) rfl (y_nc rfl) ?_
      refine a_takeP 6 rfl (by decide +kernel) (np_then np_body) rfl (y_fa rfl rfl) ?_
      obtain ⟨t_1, ht_1, H⟩ := H
      refine a_take 7 rfl (by decide +kernel) (np_then np_body) rfl (y_ldA rfl (part_len ht_1)) (hc_SP ht_1) ?_
      obtain ⟨c, H⟩ := H
      obtain ⟨c_1, H⟩ := H
      replace H := ite_e H
      rcases H with ⟨c_2, H⟩ | ⟨c_2, H⟩
      · refine a_takeP 8 rfl (by decide +kernel) (np_then np_body) rfl (yB (y_eqA rfl rfl c c_1) c_2) ?_
        refine a_takeP 9 rfl (by decide +kernel) (np_then np_body) rfl (y_move rfl) ?_
        refine a_takeP 10 rfl (by decide +kernel) (np_then np_body) rfl (y_move rfl) ?_
        refine a_takeP 11 rfl (by decide +kernel) (np_then np_body) rfl (y_nc rfl) ?_
        refine a_takeP 12 rfl (by decide +kernel) (np_then np_body) rfl (y_fa rfl rfl) ?_
        obtain ⟨t_2, ht_2, H⟩ := H
        refine a_take 13 rfl (by decide +kernel) (np_then np_body) rfl (y_ldA rfl (part_len ht_2)) (hc_SP ht_2) ?_
        refine a_takeP 14 rfl (by decide +kernel) (np_then np_body) rfl (y_move rfl) ?_
        refine a_takeP 15 rfl (by decide +kernel) (np_then np_body) rfl (y_nc rfl) ?_
        refine a_takeP 16 rfl (by decide +kernel) (np_then np_body) rfl (y_fa rfl rfl) ?_
        obtain ⟨t_3, ht_3, H⟩ := H
        refine a_take 17 rfl (by decide +kernel) (np_then np_body) rfl (y_ldA rfl (part_len ht_3)) (hc_SP ht_3) ?_
        obtain ⟨c_3, H⟩ := H
        obtain ⟨c_4, H⟩ := H
        replace H := ite_e H
        rcases H with ⟨c_5, H⟩ | ⟨c_5, H⟩
        · refine a_takeP 18 rfl (by decide +kernel) (np_then np_body) rfl (yB (y_eqA rfl rfl c_3 c_4) c_5) ?_
          refine a_takeP 19 rfl (by decide +kernel) (np_then np_body) rfl (y_pick rfl rfl) ?_
          refine a_takeP 20 rfl (by decide +kernel) (np_then np_body) rfl (y_move rfl) ?_
          refine a_takeP 21 rfl (by decide +kernel) (np_then np_body) rfl (y_move rfl) ?_
          refine a_takeP 22 rfl (by decide +kernel) (np_then np_body) rfl (y_nc rfl) ?_
          refine a_takeP 23 rfl (by decide +kernel) (np_then np_body) rfl (y_fa rfl rfl) ?_
          obtain ⟨t_4, ht_4, H⟩ := H
          refine a_take 24 rfl (by decide +kernel) (np_then np_body) rfl (y_ld rfl) (hc_S ht_4) ?_
          obtain ⟨b_3, o_2, rfl, H⟩ := H
          refine a_takeP 25 rfl (by decide +kernel) (np_then np_body) rfl (y_nc rfl) ?_
          refine a_takeP 26 rfl (by decide +kernel) (np_then np_body) rfl (y_fa rfl rfl) ?_
          obtain ⟨t_5, ht_5, H⟩ := H
          refine a_take 27 rfl (by decide +kernel) (np_then np_body) rfl (y_ld rfl) (hc_S ht_5) ?_
          refine a_takeP 28 rfl (by decide +kernel) (np_then np_body) rfl (y_move rfl) ?_
          refine a_takeP 29 rfl (by decide +kernel) (np_then np_body) rfl (y_nc rfl) ?_
          refine a_takeP 30 rfl (by decide +kernel) (np_then np_body) rfl (y_fa rfl rfl) ?_
          obtain ⟨t_6, ht_6, H⟩ := H
          refine a_take 31 rfl (by decide +kernel) (np_then np_body) rfl (y_ld rfl) (hc_S ht_6) ?_
          obtain ⟨b_4, o_3, rfl, H⟩ := H
          refine a_takeP 32 rfl (by decide +kernel) (np_then np_body) rfl (y_nc rfl) ?_
          refine a_takeP 33 rfl (by decide +kernel) (np_then np_body) rfl (y_fa rfl rfl) ?_
          obtain ⟨t_7, ht_7, H⟩ := H
          refine a_take 34 rfl (by decide +kernel) (np_then np_body) rfl (y_ld rfl) (hc_S ht_7) ?_
          refine a_step 35 (by decide +kernel) rfl ?_
          refine s_call rfl rfl H fun rv Sx_2 H2 => ?_
          clear H
          obtain ⟨t_8, rfl, H⟩ := H2
          obtain ⟨k, H⟩ := H
          obtain ⟨k_1, H⟩ := H
          obtain ⟨k_2, H⟩ := H
          obtain ⟨k_3, H⟩ := H
          obtain ⟨k_4, H⟩ := H
          obtain ⟨k_5, H⟩ := H
          refine s_nil (q_any (ac_cons (hc_S k) (ac_cons (hc_S k_1) (ac_cons (hc_SP k_2) (ac_cons (hc_SP k_3) (ac_cons (hc_SP k_4) (ac_cons (hc_SP k_5) ac_nil)))))) ?_)
          refine a_takeP 36 rfl (by decide +kernel) (np_then np_body) rfl (y_pick rfl rfl) ?_
          refine a_takeP 37 rfl (by decide +kernel) (np_then np_body) rfl (y_assign rfl) ?_
          refine a_done (by decide +kernel) ?_
          refine q_then ?_
          refine c_ret ?_
          exact q_ret Try.results21 (rv_tmp rfl rv_nil) ⟨_, rfl, H⟩
        · refine a_takeP 18 rfl (by decide +kernel) (np_then np_body) rfl (yB (y_eqA rfl rfl c_3 c_4) (bf_of c_5)) ?_
          refine a_takeP 19 rfl (by decide +kernel) (np_then np_body) rfl (y_pick rfl rfl) ?_
          refine a_takeP 20 rfl (by decide +kernel) (np_then np_body) rfl (y_move rfl) ?_
          refine a_skip 21 rfl (by decide +kernel) (np_then np_body) rfl ?_
          refine a_skip 22 rfl (by decide +kernel) (np_then np_body) rfl ?_
          refine a_skip 23 rfl (by decide +kernel) (np_then np_body) rfl ?_
          refine a_skip 24 rfl (by decide +kernel) (np_then np_body) rfl ?_
          refine a_skip 25 rfl (by decide +kernel) (np_then np_body) rfl ?_
          refine a_skip 26 rfl (by decide +kernel) (np_then np_body) rfl ?_
          refine a_skip 27 rfl (by decide +kernel) (np_then np_body) rfl ?_
          refine a_skip 28 rfl (by decide +kernel) (np_then np_body) rfl ?_
          refine a_skip 29 rfl (by decide +kernel) (np_then np_body) rfl ?_
          refine a_skip 30 rfl (by decide +kernel) (np_then np_body) rfl ?_
          refine a_skip 31 rfl (by decide +kernel) (np_then np_body) rfl ?_
          refine a_skip 32 rfl (by decide +kernel) (np_then np_body) rfl ?_
          refine a_skip 33 rfl (by decide +kernel) (np_then np_body) rfl ?_
          refine a_skip 34 rfl (by decide +kernel) (np_then np_body) rfl ?_
          refine a_skip 35 rfl (by decide +kernel) (np_then np_body) rfl ?_
          refine a_takeP 36 rfl (by decide +kernel) (np_then np_body) rfl (y_pick rfl rfl) ?_
          refine a_takeP 37 rfl (by decide +kernel) (np_then np_body) rfl (y_assign rfl) ?_
          refine a_done (by decide +kernel) ?_
          refine q_then ?_
          refine c_ret ?_
          exact q_ret Try.results21 (rv_tmp rfl rv_nil) ⟨_, rfl, H⟩
      · refine a_takeP 8 rfl (by decide +kernel) (np_then np_body) rfl (yB (y_eqA rfl rfl c c_1) (bf_of c_2)) ?_
        refine a_takeP 9 rfl (by decide +kernel) (np_then np_body) rfl (y_move rfl) ?_
        refine a_skip 10 rfl (by decide +kernel) (np_then np_body) rfl ?_
        refine a_skip 11 rfl (by decide +kernel) (np_then np_body) rfl ?_
        refine a_skip 12 rfl (by decide +kernel) (np_then np_body) rfl ?_
        refine a_skip 13 rfl (by decide +kernel) (np_then np_body) rfl ?_
        refine a_skip 14 rfl (by decide +kernel) (np_then np_body) rfl ?_
        refine a_skip 15 rfl (by decide +kernel) (np_then np_body) rfl ?_
        refine a_skip 16 rfl (by decide +kernel) (np_then np_body) rfl ?_
        refine a_skip 17 rfl (by decide +kernel) (np_then np_body) rfl ?_
        refine a_skip 18 rfl (by decide +kernel) (np_then np_body) rfl ?_
        refine a_takeP 19 rfl (by decide +kernel) (np_then np_body) rfl (y_pick rfl rfl) ?_
        refine a_takeP 20 rfl (by decide +kernel) (np_then np_body) rfl (y_move rfl) ?_
        refine a_skip 21 rfl (by decide +kernel) (np_then np_body) rfl ?_
        refine a_skip 22 rfl (by decide +kernel) (np_then np_body) rfl ?_
        refine a_skip 23 rfl (by decide +kernel) (np_then np_body) rfl ?_
        refine a_skip 24 rfl (by decide +kernel) (np_then np_body) rfl ?_
        refine a_skip 25 rfl (by decide +kernel) (np_then np_body) rfl ?_
        refine a_skip 26 rfl (by decide +kernel) (np_then np_body) rfl ?_
        refine a_skip 27 rfl (by decide +kernel) (np_then np_body) rfl ?_
        refine a_skip 28 rfl (by decide +kernel) (np_then np_body) rfl ?_
        refine a_skip 29 rfl (by decide +kernel) (np_then np_body) rfl ?_
        refine a_skip 30 rfl (by decide +kernel) (np_then np_body) rfl ?_
        refine a_skip 31 rfl (by decide +kernel) (np_then np_body) rfl ?_
        refine a_skip 32 rfl (by decide +kernel) (np_then np_body) rfl ?_
        refine a_skip 33 rfl (by decide +kernel) (np_then np_body) rfl ?_
        refine a_skip 34 rfl (by decide +kernel) (np_then np_body) rfl ?_
        refine a_skip 35 rfl (by decide +kernel) (np_then np_body) rfl ?_
        refine a_takeP 36 rfl (by decide +kernel) (np_then np_body) rfl (y_pick rfl rfl) ?_
        refine a_takeP 37 rfl (by decide +kernel) (np_then np_body) rfl (y_assign rfl) ?_
        refine a_done (by decide +kernel) ?_
        refine q_then ?_
        refine c_ret ?_
        exact q_ret Try.results21 (rv_tmp rfl rv_nil) ⟨_, rfl, H⟩
    · clear H
      intro Jx hJx H
      refine c_seq ?_
      refine c_region ?_
      refine s_p rfl (y_move rfl) ?_
      refine s_nil (q_then ?_)
      refine c_block ?_
      refine c_loop (fun z => ⟨73, [(0, eP a), (1, eP b), (18, .int .i64 z)]⟩) (fun z => []) 0 (idx := []) H rfl ⟨rfl, rfl, rfl, True.intro⟩ rfl ?_
      clear H
      rintro Xx hXx t_9 Sx_3 H
      refine c_seq ?_
      refine c_region ?_
      replace H := ite_e H
      rcases H with ⟨c_6, H⟩ | ⟨c_6, H⟩
      · refine s_p rfl (yT (y_lss rfl rfl) c_6) ?_
        refine s_nil (q_then ?_)
        refine c_seq ?_
        refine c_t rfl rfl ?_
        refine c_skip (q_then ?_)
        refine c_seq ?_
        refine c_block ?_
        refine c_seq ?_
        refine c_region ?_
        refine s_p rfl (y_move rfl) ?_
        refine s_p rfl (y_assign rfl) ?_
        refine s_nil (q_then ?_)
        refine c_seq ?_
        refine c_drawn (by kernel_rfl) ?_
        refine a_takeP 0 rfl (by decide +kernel) (np_then (np_blk (np_then (np_then (np_blk (np_then np_body)))))) rfl (y_move rfl) ?_
        refine a_takeP 1 rfl (by decide +kernel) (np_then (np_blk (np_then (np_then (np_blk (np_then np_body)))))) rfl (y_move rfl) ?_
        obtain ⟨b_5, o_4, rfl, H⟩ := H
        refine a_takeP 2 rfl (by decide +kernel) (np_then (np_blk (np_then (np_then (np_blk (np_then np_body)))))) rfl (y_nc rfl) ?_
        refine a_takeP 3 rfl (by decide +kernel) (np_then (np_blk (np_then (np_then (np_blk (np_then np_body)))))) rfl (y_fa rfl rfl) ?_
        obtain ⟨c_7, c_8, H⟩ := H
        refine a_takeP 4 rfl (by decide +kernel) (np_then (np_blk (np_then (np_then (np_blk (np_then np_body)))))) rfl (y_ixA rfl rfl c_7 c_8 rfl) ?_
        obtain ⟨t_10, ht_10, H⟩ := H
        refine a_take 5 rfl (by decide +kernel) (np_then (np_blk (np_then (np_then (np_blk (np_then np_body)))))) rfl (y_ldA rfl (part_len ht_10)) (hc_SP ht_10) ?_
        refine a_takeP 6 rfl (by decide +kernel) (np_then (np_blk (np_then (np_then (np_blk (np_then np_body)))))) rfl (y_move rfl) ?_
        refine a_takeP 7 rfl (by decide +kernel) (np_then (np_blk (np_then (np_then (np_blk (np_then np_body)))))) rfl (y_move rfl) ?_
        obtain ⟨b_6, o_5, rfl, H⟩ := H
        refine a_takeP 8 rfl (by decide +kernel) (np_then (np_blk (np_then (np_then (np_blk (np_then np_body)))))) rfl (y_nc rfl) ?_
        refine a_takeP 9 rfl (by decide +kernel) (np_then (np_blk (np_then (np_then (np_blk (np_then np_body)))))) rfl (y_fa rfl rfl) ?_
        obtain ⟨c_9, c_10, H⟩ := H
        refine a_takeP 10 rfl (by decide +kernel) (np_then (np_blk (np_then (np_then (np_blk (np_then np_body)))))) rfl (y_ixA rfl rfl c_9 c_10 rfl) ?_
        obtain ⟨t_11, ht_11, H⟩ := H
        refine a_take 11 rfl (by decide +kernel) (np_then (np_blk (np_then (np_then (np_blk (np_then np_body)))))) rfl (y_ldA rfl (part_len ht_11)) (hc_SP ht_11) ?_
        refine a_step 12 (by decide +kernel) rfl ?_
        refine s_call rfl rfl H fun rv Sx_4 H2 => ?_
        clear H
        obtain ⟨t_12, rfl, H⟩ := H2
        replace H := ib_e H
        rcases H with ⟨rfl, H⟩ | ⟨rfl, H⟩
        · skip
          refine s_nil (q_any ac_nil ?_)
          refine a_takeP 13 rfl (by decide +kernel) (np_then (np_blk (np_then (np_then (np_blk (np_then np_body)))))) rfl (yB (y_not rfl) rfl) ?_
          refine a_done (by decide +kernel) ?_
          refine q_then ?_
          refine c_f rfl rfl ?_
          refine c_skip (q_blk (q_then ?_))
          refine c_region ?_
          refine s_p rfl (y_add rfl rfl) ?_
          refine s_p rfl (y_move rfl) ?_
          refine s_nil ?_
          exact hXx (IntKind.i64.wrap (t_9 + 1)) _ _ _ _ [] H rfl ⟨rfl, rfl, rfl, True.intro⟩ rfl
        · skip
          refine s_nil (q_any ac_nil ?_)
          refine a_takeP 13 rfl (by decide +kernel) (np_then (np_blk (np_then (np_then (np_blk (np_then np_body)))))) rfl (yB (y_not rfl) rfl) ?_
          refine a_done (by decide +kernel) ?_
          refine q_then ?_
          refine c_t rfl rfl ?_
          refine c_seq ?_
          refine c_region ?_
          refine s_p rfl (y_assign rfl) ?_
          refine s_nil (q_then ?_)
          refine c_ret (q_blk_ret (q_then_ret (q_then_ret (q_blk_ret (q_then_ret ?_)))))
          exact q_ret Try.results21 (rv_tmp rfl rv_nil) ⟨_, rfl, H⟩
      · refine s_p rfl (yF (y_lss rfl rfl) c_6) ?_
        refine s_nil (q_then ?_)
        refine c_seq ?_
        refine c_f rfl rfl ?_
        refine c_exit (q_then_exit (q_then_exit (q_blk_out ?_)))
        exact hJx () _ _ _ _ [] H rfl ⟨rfl, rfl, True.intro⟩ rfl
  · clear H
    intro Jx_1 hJx_1 H
    refine c_seq ?_
    refine c_region ?_
    refine s_p rfl (y_move rfl) ?_
    replace H := ite_e H
    rcases H with ⟨c_11, H⟩ | ⟨c_11, H⟩
    · refine s_p rfl (yT (y_pnil (p := a) rfl rfl) c_11) ?_
      refine s_p rfl (y_move rfl) ?_
      refine s_skip rfl ?_
      refine s_skip rfl ?_
      refine s_p rfl (y_pick rfl rfl) ?_
      refine s_nil (q_then ?_)
      refine c_t rfl rfl ?_
      refine c_seq ?_
      refine c_region ?_
      refine s_p rfl (y_move rfl) ?_
      replace H := ite_e H
      rcases H with ⟨c_12, H⟩ | ⟨c_12, H⟩
      · refine s_p rfl (yT (y_pnil (p := a) rfl rfl) c_12) ?_
        refine s_p rfl (y_move rfl) ?_
        refine s_p rfl (y_move rfl) ?_
        refine s_p rfl (y_pnil (p := b) rfl rfl) ?_
        refine s_p rfl (y_pick rfl rfl) ?_
        refine s_p rfl (y_assign rfl) ?_
        refine s_nil (q_then ?_)
        refine c_ret (q_then_ret ?_)
        exact q_ret Try.results21 (rv_tmp rfl rv_nil) ⟨_, rfl, H⟩
      · refine s_p rfl (yF (y_pnil (p := a) rfl rfl) c_12) ?_
        refine s_p rfl (y_move rfl) ?_
        refine s_skip rfl ?_
        refine s_skip rfl ?_
        refine s_p rfl (y_pick rfl rfl) ?_
        refine s_p rfl (y_assign rfl) ?_
        refine s_nil (q_then ?_)
        refine c_ret (q_then_ret ?_)
        exact q_ret Try.results21 (rv_tmp rfl rv_nil) ⟨_, rfl, H⟩
    · refine s_p rfl (yF (y_pnil (p := a) rfl rfl) c_11) ?_
      refine s_p rfl (y_move rfl) ?_
      refine s_p rfl (y_move rfl) ?_
      replace H := ite_e H
      rcases H with ⟨c_13, H⟩ | ⟨c_13, H⟩
      · refine s_p rfl (yT (y_pnil (p := b) rfl rfl) c_13) ?_
        refine s_p rfl (y_pick rfl rfl) ?_
        refine s_nil (q_then ?_)
        refine c_t rfl rfl ?_
        refine c_seq ?_
        refine c_region ?_
        refine s_p rfl (y_move rfl) ?_
        replace H := ite_e H
        rcases H with ⟨c_14, H⟩ | ⟨c_14, H⟩
        · refine s_p rfl (yT (y_pnil (p := a) rfl rfl) c_14) ?_
          refine s_p rfl (y_move rfl) ?_
          refine s_p rfl (y_move rfl) ?_
          refine s_p rfl (y_pnil (p := b) rfl rfl) ?_
          refine s_p rfl (y_pick rfl rfl) ?_
          refine s_p rfl (y_assign rfl) ?_
          refine s_nil (q_then ?_)
          refine c_ret (q_then_ret ?_)
          exact q_ret Try.results21 (rv_tmp rfl rv_nil) ⟨_, rfl, H⟩
        · refine s_p rfl (yF (y_pnil (p := a) rfl rfl) c_14) ?_
          refine s_p rfl (y_move rfl) ?_
          refine s_skip rfl ?_
          refine s_skip rfl ?_
          refine s_p rfl (y_pick rfl rfl) ?_
          refine s_p rfl (y_assign rfl) ?_
          refine s_nil (q_then ?_)
          refine c_ret (q_then_ret ?_)
          exact q_ret Try.results21 (rv_tmp rfl rv_nil) ⟨_, rfl, H⟩
      · refine s_p rfl (yF (y_pnil (p := b) rfl rfl) c_13) ?_
        refine s_p rfl (y_pick rfl rfl) ?_
        refine s_nil (q_then ?_)
        refine c_f rfl rfl ?_
        refine c_skip ?_
        exact hJx_1 () _ _ _ _ [] H rfl ⟨rfl, rfl, True.intro⟩ rfl
def b_guest_SameVM (S : Mem) (a : List Value) (b : List Value) (Q : Bool → Mem → Prop) : Prop :=
  a.length = 12 ∧
  b.length = 12 ∧
  jn (fun (Sx : Mem) =>
      jn (fun (Sx_1 : Mem) =>
          Q true Sx_1) fun Jx =>
      lp (fun Xx (t : Int) (Sx_2 : Mem) =>
          if t < 4 then
            0 ≤ t ∧ t < 4 ∧
            gL (nthL a (7 + t.toNat * 1)) fun t_1 =>
            0 ≤ t ∧ t < 4 ∧
            gL (nthL b (7 + t.toNat * 1)) fun t_2 =>
            bytes_Equal Sx_2 t_1 t_2 fun t_3 Sx_3 =>
            if t_3 = true then
              Xx (IntKind.i64.wrap (t + 1)) Sx_3
            else
            Q false Sx_3
          else
          Jx Sx_2) 0 Sx) fun Jx_1 =>
  gB (nthL a 0) fun t_4 =>
  gB (nthL b 0) fun t_5 =>
  if t_4 ≠ t_5 then
    Q false S
  else
  gI (nthL a 4) .i64 fun t_6 =>
  gI (nthL b 4) .i64 fun t_7 =>
  if t_6 ≠ t_7 then
    Q false S
  else
  gI (nthL a 11) .u32 fun t_8 =>
  gI (nthL b 11) .u32 fun t_9 =>
  if t_8 ≠ t_9 then
    Q false S
  else
  gL (nthL a 1) fun t_10 =>
  gL (nthL b 1) fun t_11 =>
  slices_Equal_api_Seat_api_Seat S t_10 t_11 fun t_12 Sx_4 =>
  if t_12 = true then
    gL (nthL a 6) fun t_13 =>
    gL (nthL b 6) fun t_14 =>
    bytes_Equal Sx_4 t_13 t_14 fun t_15 Sx_5 =>
    if t_15 = true then
      Jx_1 Sx_5
    else
    Q false Sx_5
  else
  Q false Sx_4
theorem t_guest_SameVM {S : Mem} {a : List Value} {b : List Value} {Q : Bool → Mem → Prop} (H : b_guest_SameVM S a b Q) : guest_SameVM S a b Q := by
  unfold b_guest_SameVM at H
  refine Tr.intro Try.func22 rfl Try.ntmps22 rfl fun w0 => ?_
  obtain ⟨ha, H⟩ := H
  obtain ⟨hb, H⟩ := H
  refine c_seq ?_
  refine c_region ?_
  refine s_box rfl rfl rfl fun b_1 => ?_
  refine s_box rfl rfl rfl fun b_2 => ?_
  refine s_p rfl (y_assign rfl) ?_
  refine s_nil (q_then ?_)
  refine c_join2 H (fun (J : Mem → Prop) (z : Unit) S => J S) (fun z => ⟨55, [(2, .pointer (some ⟨b_1, 0, none⟩)), (3, .pointer (some ⟨b_2, 0, none⟩))]⟩) (fun z => [⟨b_1, 31, a⟩, ⟨b_2, 31, b⟩]) ?_ ?_
  · clear H
    rintro _ Sx H
    refine c_join2 H (fun (J : Mem → Prop) (z : Unit) S => J S) (fun z => ⟨55, []⟩) (fun z => []) ?_ ?_
    · clear H
      rintro _ Sx_1 H
      refine c_seq ?_
      refine c_region ?_
      refine s_p rfl (y_assign rfl) ?_
      refine s_nil (q_then ?_)
      refine c_ret ?_
      exact q_ret Try.results22 (rv_tmp rfl rv_nil) ⟨_, rfl, H⟩
    · clear H
      intro Jx hJx H
      refine c_seq ?_
      refine c_region ?_
      refine s_p rfl (y_move rfl) ?_
      refine s_nil (q_then ?_)
      refine c_block ?_
      refine c_loop (fun z => ⟨55, [(2, .pointer (some ⟨b_1, 0, none⟩)), (3, .pointer (some ⟨b_2, 0, none⟩)), (41, .int .i64 z)]⟩) (fun z => [⟨b_1, 31, a⟩, ⟨b_2, 31, b⟩]) 0 (idx := [0, 0]) H rfl ⟨rfl, rfl, rfl, True.intro⟩ rfl ?_
      clear H
      rintro Xx hXx t Sx_2 H
      refine c_seq ?_
      refine c_region ?_
      replace H := ite_e H
      rcases H with ⟨c, H⟩ | ⟨c, H⟩
      · refine s_p rfl (yT (y_lss rfl rfl) c) ?_
        refine s_nil (q_then ?_)
        refine c_seq ?_
        refine c_t rfl rfl ?_
        refine c_skip (q_then ?_)
        refine c_seq ?_
        refine c_block ?_
        refine c_seq ?_
        refine c_region ?_
        refine s_p rfl (y_move rfl) ?_
        refine s_p rfl (y_assign rfl) ?_
        refine s_nil (q_then ?_)
        refine c_seq ?_
        refine c_drawn (by kernel_rfl) ?_
        refine a_takeP 0 rfl (by decide +kernel) (np_then (np_blk (np_then (np_then (np_blk (np_then np_body)))))) rfl (y_move rfl) ?_
        refine a_takeP 1 rfl (by decide +kernel) (np_then (np_blk (np_then (np_then (np_blk (np_then np_body)))))) rfl (y_fa rfl rfl) ?_
        obtain ⟨c_1, c_2, H⟩ := H
        refine a_takeP 2 rfl (by decide +kernel) (np_then (np_blk (np_then (np_then (np_blk (np_then np_body)))))) rfl (y_ixA rfl rfl c_1 c_2 rfl) ?_
        obtain ⟨t_1, ht_1, H⟩ := H
        refine a_take 3 rfl (by decide +kernel) (np_then (np_blk (np_then (np_then (np_blk (np_then np_body)))))) rfl (y_ld rfl) (hc_V 0 rfl ht_1) ?_
        refine a_takeP 4 rfl (by decide +kernel) (np_then (np_blk (np_then (np_then (np_blk (np_then np_body)))))) rfl (y_move rfl) ?_
        refine a_takeP 5 rfl (by decide +kernel) (np_then (np_blk (np_then (np_then (np_blk (np_then np_body)))))) rfl (y_fa rfl rfl) ?_
        obtain ⟨c_3, c_4, H⟩ := H
        refine a_takeP 6 rfl (by decide +kernel) (np_then (np_blk (np_then (np_then (np_blk (np_then np_body)))))) rfl (y_ixA rfl rfl c_3 c_4 rfl) ?_
        obtain ⟨t_2, ht_2, H⟩ := H
        refine a_take 7 rfl (by decide +kernel) (np_then (np_blk (np_then (np_then (np_blk (np_then np_body)))))) rfl (y_ld rfl) (hc_V 1 rfl ht_2) ?_
        refine a_step 8 (by decide +kernel) rfl ?_
        refine s_call rfl rfl H fun rv Sx_3 H2 => ?_
        clear H
        obtain ⟨t_3, rfl, H⟩ := H2
        replace H := ib_e H
        rcases H with ⟨rfl, H⟩ | ⟨rfl, H⟩
        · skip
          refine s_nil (q_any ac_nil ?_)
          refine a_takeP 9 rfl (by decide +kernel) (np_then (np_blk (np_then (np_then (np_blk (np_then np_body)))))) rfl (yB (y_not rfl) rfl) ?_
          refine a_done (by decide +kernel) ?_
          refine q_then ?_
          refine c_f rfl rfl ?_
          refine c_skip (q_blk (q_then ?_))
          refine c_region ?_
          refine s_p rfl (y_add rfl rfl) ?_
          refine s_p rfl (y_move rfl) ?_
          refine s_nil ?_
          exact hXx (IntKind.i64.wrap (t + 1)) _ _ _ _ [0, 0] H rfl ⟨rfl, rfl, rfl, True.intro⟩ rfl
        · skip
          refine s_nil (q_any ac_nil ?_)
          refine a_takeP 9 rfl (by decide +kernel) (np_then (np_blk (np_then (np_then (np_blk (np_then np_body)))))) rfl (yB (y_not rfl) rfl) ?_
          refine a_done (by decide +kernel) ?_
          refine q_then ?_
          refine c_t rfl rfl ?_
          refine c_seq ?_
          refine c_region ?_
          refine s_p rfl (y_assign rfl) ?_
          refine s_nil (q_then ?_)
          refine c_ret (q_blk_ret (q_then_ret (q_then_ret (q_blk_ret (q_then_ret ?_)))))
          exact q_ret Try.results22 (rv_tmp rfl rv_nil) ⟨_, rfl, H⟩
      · refine s_p rfl (yF (y_lss rfl rfl) c) ?_
        refine s_nil (q_then ?_)
        refine c_seq ?_
        refine c_f rfl rfl ?_
        refine c_exit (q_then_exit (q_then_exit (q_blk_out ?_)))
        exact hJx () _ _ _ _ [] H rfl True.intro rfl
  · clear H
    intro Jx_1 hJx_1 H
    refine c_seq ?_
    refine c_region ?_
    refine s_p rfl (y_fa rfl rfl) ?_
    obtain ⟨t_4, ht_4, H⟩ := H
    refine s_v rfl (y_ld rfl) (hc_V 0 rfl ht_4) ?_
    refine s_p rfl (y_fa rfl rfl) ?_
    obtain ⟨t_5, ht_5, H⟩ := H
    refine s_v rfl (y_ld rfl) (hc_V 1 rfl ht_5) ?_
    replace H := ite_e H
    rcases H with ⟨c_5, H⟩ | ⟨c_5, H⟩
    · refine s_p rfl (yT (y_neB rfl rfl) c_5) ?_
      refine s_p rfl (y_move rfl) ?_
      refine s_skip rfl ?_
      refine s_skip rfl ?_
      refine s_skip rfl ?_
      refine s_skip rfl ?_
      refine s_skip rfl ?_
      refine s_p rfl (y_pick rfl rfl) ?_
      refine s_p rfl (y_move rfl) ?_
      refine s_skip rfl ?_
      refine s_skip rfl ?_
      refine s_skip rfl ?_
      refine s_skip rfl ?_
      refine s_skip rfl ?_
      refine s_p rfl (y_pick rfl rfl) ?_
      refine s_p rfl (y_move rfl) ?_
      refine s_skip rfl ?_
      refine s_skip rfl ?_
      refine s_skip rfl ?_
      refine s_skip rfl ?_
      refine s_skip rfl ?_
      refine s_skip rfl ?_
      refine s_p rfl (y_pick rfl rfl) ?_
      refine s_p rfl (y_move rfl) ?_
      refine s_skip rfl ?_
      refine s_skip rfl ?_
      refine s_skip rfl ?_
      refine s_skip rfl ?_
      refine s_skip rfl ?_
      refine s_skip rfl ?_
      refine s_p rfl (y_pick rfl rfl) ?_
      refine s_nil (q_then ?_)
      refine c_t rfl rfl ?_
      refine c_seq ?_
      refine c_region ?_
      refine s_p rfl (y_assign rfl) ?_
      refine s_nil (q_then ?_)
      refine c_ret (q_then_ret ?_)
      exact q_ret Try.results22 (rv_tmp rfl rv_nil) ⟨_, rfl, H⟩
    · refine s_p rfl (yF (y_neB rfl rfl) c_5) ?_
      refine s_p rfl (y_move rfl) ?_
      refine s_p rfl (y_fa rfl rfl) ?_
      obtain ⟨t_6, ht_6, H⟩ := H
      refine s_v rfl (y_ld rfl) (hc_V 0 rfl ht_6) ?_
      refine s_p rfl (y_fa rfl rfl) ?_
      obtain ⟨t_7, ht_7, H⟩ := H
      refine s_v rfl (y_ld rfl) (hc_V 1 rfl ht_7) ?_
      replace H := ite_e H
      rcases H with ⟨c_6, H⟩ | ⟨c_6, H⟩
      · refine s_p rfl (yT (y_neq rfl rfl) c_6) ?_
        refine s_p rfl (y_pick rfl rfl) ?_
        refine s_p rfl (y_move rfl) ?_
        refine s_skip rfl ?_
        refine s_skip rfl ?_
        refine s_skip rfl ?_
        refine s_skip rfl ?_
        refine s_skip rfl ?_
        refine s_p rfl (y_pick rfl rfl) ?_
        refine s_p rfl (y_move rfl) ?_
        refine s_skip rfl ?_
        refine s_skip rfl ?_
        refine s_skip rfl ?_
        refine s_skip rfl ?_
        refine s_skip rfl ?_
        refine s_skip rfl ?_
        refine s_p rfl (y_pick rfl rfl) ?_
        refine s_p rfl (y_move rfl) ?_
        refine s_skip rfl ?_
        refine s_skip rfl ?_
        refine s_skip rfl ?_
        refine s_skip rfl ?_
        refine s_skip rfl ?_
        refine s_skip rfl ?_
        refine s_p rfl (y_pick rfl rfl) ?_
        refine s_nil (q_then ?_)
        refine c_t rfl rfl ?_
        refine c_seq ?_
        refine c_region ?_
        refine s_p rfl (y_assign rfl) ?_
        refine s_nil (q_then ?_)
        refine c_ret (q_then_ret ?_)
        exact q_ret Try.results22 (rv_tmp rfl rv_nil) ⟨_, rfl, H⟩
      · refine s_p rfl (yF (y_neq rfl rfl) c_6) ?_
        refine s_p rfl (y_pick rfl rfl) ?_
        refine s_p rfl (y_move rfl) ?_
        refine s_p rfl (y_fa rfl rfl) ?_
        obtain ⟨t_8, ht_8, H⟩ := H
        refine s_v rfl (y_ld rfl) (hc_V 0 rfl ht_8) ?_
        refine s_p rfl (y_fa rfl rfl) ?_
        obtain ⟨t_9, ht_9, H⟩ := H
        refine s_v rfl (y_ld rfl) (hc_V 1 rfl ht_9) ?_
        replace H := ite_e H
        rcases H with ⟨c_7, H⟩ | ⟨c_7, H⟩
        · refine s_p rfl (yT (y_neq rfl rfl) c_7) ?_
          refine s_p rfl (y_pick rfl rfl) ?_
          refine s_p rfl (y_move rfl) ?_
          refine s_skip rfl ?_
          refine s_skip rfl ?_
          refine s_skip rfl ?_
          refine s_skip rfl ?_
          refine s_skip rfl ?_
          refine s_skip rfl ?_
          refine s_p rfl (y_pick rfl rfl) ?_
          refine s_p rfl (y_move rfl) ?_
          refine s_skip rfl ?_
          refine s_skip rfl ?_
          refine s_skip rfl ?_
          refine s_skip rfl ?_
          refine s_skip rfl ?_
          refine s_skip rfl ?_
          refine s_p rfl (y_pick rfl rfl) ?_
          refine s_nil (q_then ?_)
          refine c_t rfl rfl ?_
          refine c_seq ?_
          refine c_region ?_
          refine s_p rfl (y_assign rfl) ?_
          refine s_nil (q_then ?_)
          refine c_ret (q_then_ret ?_)
          exact q_ret Try.results22 (rv_tmp rfl rv_nil) ⟨_, rfl, H⟩
        · refine s_p rfl (yF (y_neq rfl rfl) c_7) ?_
          refine s_p rfl (y_pick rfl rfl) ?_
          refine s_p rfl (y_move rfl) ?_
          refine s_p rfl (y_fa rfl rfl) ?_
          obtain ⟨t_10, ht_10, H⟩ := H
          refine s_v rfl (y_ld rfl) (hc_V 0 rfl ht_10) ?_
          refine s_p rfl (y_fa rfl rfl) ?_
          obtain ⟨t_11, ht_11, H⟩ := H
          refine s_v rfl (y_ld rfl) (hc_V 1 rfl ht_11) ?_
          refine s_call rfl rfl H fun rv Sx_4 H2 => ?_
          clear H
          obtain ⟨t_12, rfl, H⟩ := H2
          replace H := ib_e H
          rcases H with ⟨rfl, H⟩ | ⟨rfl, H⟩
          · skip
            refine s_p rfl (yB (y_not rfl) rfl) ?_
            refine s_p rfl (y_pick rfl rfl) ?_
            refine s_p rfl (y_move rfl) ?_
            refine s_p rfl (y_fa rfl rfl) ?_
            obtain ⟨t_13, ht_13, H⟩ := H
            refine s_v rfl (y_ld rfl) (hc_V 0 rfl ht_13) ?_
            refine s_p rfl (y_fa rfl rfl) ?_
            obtain ⟨t_14, ht_14, H⟩ := H
            refine s_v rfl (y_ld rfl) (hc_V 1 rfl ht_14) ?_
            refine s_call rfl rfl H fun rv Sx_5 H2 => ?_
            clear H
            obtain ⟨t_15, rfl, H⟩ := H2
            replace H := ib_e H
            rcases H with ⟨rfl, H⟩ | ⟨rfl, H⟩
            · skip
              refine s_p rfl (yB (y_not rfl) rfl) ?_
              refine s_p rfl (y_pick rfl rfl) ?_
              refine s_nil (q_then ?_)
              refine c_f rfl rfl ?_
              refine c_skip ?_
              exact hJx_1 () _ _ _ _ [0, 0] H rfl ⟨rfl, rfl, True.intro⟩ rfl
            · skip
              refine s_p rfl (yB (y_not rfl) rfl) ?_
              refine s_p rfl (y_pick rfl rfl) ?_
              refine s_nil (q_then ?_)
              refine c_t rfl rfl ?_
              refine c_seq ?_
              refine c_region ?_
              refine s_p rfl (y_assign rfl) ?_
              refine s_nil (q_then ?_)
              refine c_ret (q_then_ret ?_)
              exact q_ret Try.results22 (rv_tmp rfl rv_nil) ⟨_, rfl, H⟩
          · skip
            refine s_p rfl (yB (y_not rfl) rfl) ?_
            refine s_p rfl (y_pick rfl rfl) ?_
            refine s_p rfl (y_move rfl) ?_
            refine s_skip rfl ?_
            refine s_skip rfl ?_
            refine s_skip rfl ?_
            refine s_skip rfl ?_
            refine s_skip rfl ?_
            refine s_skip rfl ?_
            refine s_p rfl (y_pick rfl rfl) ?_
            refine s_nil (q_then ?_)
            refine c_t rfl rfl ?_
            refine c_seq ?_
            refine c_region ?_
            refine s_p rfl (y_assign rfl) ?_
            refine s_nil (q_then ?_)
            refine c_ret (q_then_ret ?_)
            exact q_ret Try.results22 (rv_tmp rfl rv_nil) ⟨_, rfl, H⟩
def b_guest_Copy (S : Mem) (v : List Value) (Q : List Value → Mem → Prop) : Prop :=
  v.length = 12 ∧
  gL (nthL v 1) fun t =>
  gL (nthL v 6) fun t_1 =>
  slices_Clone_api_Seat_api_Seat S t fun t_2 Sx =>
  bytes_Clone Sx t_1 fun t_3 Sx_1 =>
  gL (nthL (spl (spl v 1 ([eL t_2])) 6 ([eL t_3])) 3) fun t_4 =>
  slices_Clone_int_int Sx_1 t_4 fun t_5 Sx_2 =>
  jn (fun (v_1 : List Value) (Sx_3 : Mem) =>
      v_1.length = 12 ∧
      v_1.all (·.oneCell') = true ∧
      Q v_1 Sx_3) fun Jx =>
  lp (fun Xx (z : Int × List Value) (Sx_4 : Mem) =>
      match z with
      | (t_6, v_2) =>
        v_2.length = 12 ∧
        if t_6 < 4 then
          0 ≤ t_6 ∧ t_6 < 4 ∧
          gL (nthL v_2 (7 + t_6.toNat * 1)) fun t_7 =>
          bytes_Clone Sx_4 t_7 fun t_8 Sx_5 =>
          0 ≤ t_6 ∧ t_6 < 4 ∧
          Xx (IntKind.i64.wrap (t_6 + 1), spl v_2 (7 + t_6.toNat * 1) ([eL t_8])) Sx_5
        else
        Jx v_2 Sx_4) (0, spl (spl (spl v 1 ([eL t_2])) 6 ([eL t_3])) 3 ([eL t_5])) Sx_2
theorem t_guest_Copy {S : Mem} {v : List Value} {Q : List Value → Mem → Prop} (H : b_guest_Copy S v Q) : guest_Copy S v Q := by
  unfold b_guest_Copy at H
  refine Tr.intro Try.func23 rfl Try.ntmps23 rfl fun w0 => ?_
  obtain ⟨hv, H⟩ := H
  refine c_seq ?_
  refine c_region ?_
  refine s_box rfl rfl rfl fun b => ?_
  refine s_alloc rfl fun b_1 => ?_
  refine s_nil (q_then ?_)
  refine c_seq ?_
  refine c_drawn (by kernel_rfl) ?_
  refine a_takeP 0 rfl (by decide +kernel) (np_then np_body) rfl (y_fa rfl rfl) ?_
  obtain ⟨t, ht, H⟩ := H
  refine a_take 1 rfl (by decide +kernel) (np_then np_body) rfl (y_ld rfl) (hc_V 0 rfl ht) ?_
  refine a_takeP 3 rfl (by decide +kernel) (np_then np_body) rfl (y_fa rfl rfl) ?_
  obtain ⟨t_1, ht_1, H⟩ := H
  refine a_take 4 rfl (by decide +kernel) (np_then np_body) rfl (y_ld rfl) (hc_V 0 rfl ht_1) ?_
  refine a_step 2 (by decide +kernel) rfl ?_
  refine s_call rfl rfl H fun rv Sx H2 => ?_
  clear H
  obtain ⟨t_2, rfl, H⟩ := H2
  refine s_nil (q_any (ac_cons (hc_V 0 rfl ht_1) ac_nil) ?_)
  refine a_takeP 6 rfl (by decide +kernel) (np_then np_body) rfl (y_fa rfl rfl) ?_
  refine a_step 5 (by decide +kernel) rfl ?_
  refine s_call rfl rfl H fun rv Sx_1 H2 => ?_
  clear H
  obtain ⟨t_3, rfl, H⟩ := H2
  refine s_nil (q_any ac_nil ?_)
  refine a_step 7 (by decide +kernel) rfl ?_
  refine s_stV (sz := 1) (vs := [eL t_2]) 0 rfl rfl rfl rfl rfl rfl (fit_of hv (by omega)) rfl ?_
  refine s_nil (q_any ac_nil ?_)
  refine a_takeP 8 rfl (by decide +kernel) (np_then np_body) rfl (y_fa rfl rfl) ?_
  refine a_step 9 (by decide +kernel) rfl ?_
  refine s_stV (sz := 1) (vs := [eL t_3]) 0 rfl rfl rfl rfl rfl rfl (fit_of (spl_ln hv (by have := True.intro; simp only [List.length_cons, List.length_nil]; omega)) (by omega)) rfl ?_
  refine s_nil (q_any ac_nil ?_)
  refine a_done (by decide +kernel) ?_
  refine q_then ?_
  refine c_seq ?_
  refine c_region ?_
  refine s_p rfl (y_fa rfl rfl) ?_
  refine s_p rfl (y_fa rfl rfl) ?_
  obtain ⟨t_4, ht_4, H⟩ := H
  refine s_v rfl (y_ld rfl) (hc_V 0 rfl ht_4) ?_
  refine s_call rfl rfl H fun rv Sx_2 H2 => ?_
  clear H
  obtain ⟨t_5, rfl, H⟩ := H2
  refine s_p rfl (y_fa rfl rfl) ?_
  refine s_p rfl (y_fa rfl rfl) ?_
  refine s_stV (sz := 1) (vs := [eL t_5]) 0 rfl rfl rfl rfl rfl rfl (fit_of (spl_ln (spl_ln hv (by have := True.intro; simp only [List.length_cons, List.length_nil]; omega)) (by have := True.intro; simp only [List.length_cons, List.length_nil]; omega)) (by omega)) rfl ?_
  refine s_nil (q_then ?_)
  refine c_join2 H (fun (J : List Value → Mem → Prop) (z : List Value) S => J z S) (fun z => ⟨31, [(1, .pointer (some ⟨b, 0, none⟩)), (2, .pointer (some ⟨b_1, 0, none⟩))]⟩) (fun z => [⟨b, 31, z⟩, ⟨b_1, 31, [.bool false, .slice (none) 0 0, .int .i64 0, .slice (none) 0 0, .int .i64 0, .int .u64 0, .slice (none) 0 0, .slice (none) 0 0, .slice (none) 0 0, .slice (none) 0 0, .slice (none) 0 0, .int .u32 0]⟩]) ?_ ?_
  · clear H
    rintro v_1 Sx_3 H
    obtain ⟨hv_1, H⟩ := H
    refine c_seq ?_
    refine c_region ?_
    refine s_v rfl (y_ldA rfl hv_1) (hc_VP (k := 12) 0 rfl (lpart_all hv_1)) ?_
    obtain ⟨c, H⟩ := H
    refine s_stV_all 1 rfl rfl rfl rfl rfl hv_1 rfl c ?_
    refine s_nil (q_then ?_)
    refine c_ret ?_
    exact q_ret Try.results23 (rv_cellA rfl (hc_VP (k := 12) 1 rfl (lpart_all hv_1)) hv_1 rv_nil) ⟨_, rfl, hv_1, H⟩
  · clear H
    intro Jx hJx H
    refine c_seq ?_
    refine c_region ?_
    refine s_p rfl (y_move rfl) ?_
    refine s_nil (q_then ?_)
    refine c_block ?_
    refine c_loop (fun z => ⟨31, [(1, .pointer (some ⟨b, 0, none⟩)), (2, .pointer (some ⟨b_1, 0, none⟩)), (18, .int .i64 z.1)]⟩) (fun z => [⟨b, 31, z.2⟩, ⟨b_1, 31, [.bool false, .slice (none) 0 0, .int .i64 0, .slice (none) 0 0, .int .i64 0, .int .u64 0, .slice (none) 0 0, .slice (none) 0 0, .slice (none) 0 0, .slice (none) 0 0, .slice (none) 0 0, .int .u32 0]⟩]) (0, spl (spl (spl v 1 ([eL t_2])) 6 ([eL t_3])) 3 ([eL t_5])) (idx := [0, 0]) H rfl ⟨rfl, rfl, rfl, True.intro⟩ rfl ?_
    clear H
    rintro Xx hXx ⟨t_6, v_2⟩ Sx_4 H
    obtain ⟨hv_2, H⟩ := H
    refine c_seq ?_
    refine c_region ?_
    replace H := ite_e H
    rcases H with ⟨c_1, H⟩ | ⟨c_1, H⟩
    · refine s_p rfl (yT (y_lss rfl rfl) c_1) ?_
      refine s_nil (q_then ?_)
      refine c_seq ?_
      refine c_t rfl rfl ?_
      refine c_skip (q_then ?_)
      refine c_seq ?_
      refine c_block ?_
      refine c_seq ?_
      refine c_region ?_
      refine s_p rfl (y_move rfl) ?_
      refine s_p rfl (y_assign rfl) ?_
      refine s_nil (q_then ?_)
      refine c_region ?_
      refine s_p rfl (y_move rfl) ?_
      refine s_p rfl (y_move rfl) ?_
      refine s_p rfl (y_fa rfl rfl) ?_
      obtain ⟨c_2, c_3, H⟩ := H
      refine s_p rfl (y_ixA rfl rfl c_2 c_3 rfl) ?_
      obtain ⟨t_7, ht_7, H⟩ := H
      refine s_v rfl (y_ld rfl) (hc_V 0 rfl ht_7) ?_
      refine s_call rfl rfl H fun rv Sx_5 H2 => ?_
      clear H
      obtain ⟨t_8, rfl, H⟩ := H2
      refine s_p rfl (y_fa rfl rfl) ?_
      obtain ⟨c_4, c_5, H⟩ := H
      refine s_p rfl (y_ixA rfl rfl c_4 c_5 rfl) ?_
      refine s_stV (sz := 1) (vs := [eL t_8]) 0 rfl rfl rfl rfl rfl rfl (fit_of hv_2 (by omega)) rfl ?_
      refine s_nil (q_blk (q_then ?_))
      refine c_region ?_
      refine s_p rfl (y_add rfl rfl) ?_
      refine s_p rfl (y_move rfl) ?_
      refine s_nil ?_
      exact hXx (IntKind.i64.wrap (t_6 + 1), spl v_2 (7 + t_6.toNat * 1) ([eL t_8])) _ _ _ _ [0, 0] H rfl ⟨rfl, rfl, rfl, True.intro⟩ rfl
    · refine s_p rfl (yF (y_lss rfl rfl) c_1) ?_
      refine s_nil (q_then ?_)
      refine c_seq ?_
      refine c_f rfl rfl ?_
      refine c_exit (q_then_exit (q_then_exit (q_blk_out ?_)))
      exact hJx v_2 _ _ _ _ [0, 0] H rfl ⟨rfl, rfl, True.intro⟩ rfl
def b_hermitcrablaw15_GuestNil (S : Mem) (vm : Int) (n : Int) (d : List Value) (Q : Bool → Mem → Prop) : Prop :=
  d.length = 45 ∧
  jn (fun (Sx : Mem) =>
      hermitcrablaw15_state Sx d fun t Sx_1 =>
      if t ≠ none then
        guest_State_There Sx_1 none vm fun t_1 Sx_2 =>
        if t_1 = true then
          Q false Sx_2
        else
        guest_State_Seat Sx_2 none vm n fun t_2 Sx_3 =>
        if t_2 = none then
          guest_State_Ready Sx_3 none fun t_3 Sx_4 =>
          fits [.b, .b, .b, .b, .b, .b, .b, .b, .b, .b, .b, .b, .b, .b, .b, .b, .b, .b] t_3 = true ∧
          if (eqL t_3 ([.bool false, .bool false, .bool false, .bool false, .bool false, .bool false, .bool false, .bool false, .bool false, .bool false, .bool false, .bool false, .bool false, .bool false, .bool false, .bool false, .bool false, .bool false])) = true then
            guest_State_Joined Sx_4 none vm n fun t_4 Sx_5 =>
            if t_4 = true then
              Q false Sx_5
            else
            guest_State_Twin Sx_5 none fun t_5 Sx_6 =>
            if t_5 = none then
              guest_Same Sx_6 none none fun t_6 Sx_7 =>
              if t_6 = true then
                guest_Same Sx_7 none t fun t_7 Sx_8 =>
                if t_7 = true then
                  Q false Sx_8
                else
                guest_Same Sx_8 t none fun t_8 Sx_9 =>
                if t_8 = true then
                  Q false Sx_9
                else
                store_New Sx_9 0 fun t_9 Sx_10 =>
                store_Store_Frames Sx_10 t_9 fun t_10 Sx_11 =>
                if t_10 = 0 then
                  hermitcrabref12_Line Sx_11 ([.int .u64 0, .int .u64 0, .int .u64 0, .int .u64 0, .int .u64 0, .int .u64 0, .int .u64 0, .int .u64 0, .int .u64 0, .int .u64 0, .int .u64 0, .int .u64 0, .int .u64 0, .int .u64 0, .int .u64 0, .int .u64 0, .int .u64 0, .int .u64 0, .int .u64 0, .int .u64 0, .int .u64 0, .int .u64 0, .bool false, .int .u8 0, .int .u32 0, .int .u32 0]) fun t_11 Sx_12 =>
                  Q (decide (t_11 = (-1))) Sx_12
                else
                Q false Sx_11
              else
              Q false Sx_7
            else
            Q false Sx_6
          else
          Q false Sx_4
        else
        Q false Sx_3
      else
      Q false Sx_1) fun Jx =>
  hermitcrablaw15_awake S fun t_12 Sx_13 =>
  if t_12 = true then
    gL (nthL d 12) fun t_13 =>
    if 64 < (t_13.n : Int) then
      hermitcrablaw15_awake Sx_13 fun t_14 Sx_14 =>
      Q t_14 Sx_14
    else
    Jx Sx_13
  else
  hermitcrablaw15_awake Sx_13 fun t_15 Sx_15 =>
  Q t_15 Sx_15
theorem t_hermitcrablaw15_GuestNil {S : Mem} {vm : Int} {n : Int} {d : List Value} {Q : Bool → Mem → Prop} (H : b_hermitcrablaw15_GuestNil S vm n d Q) : hermitcrablaw15_GuestNil S vm n d Q := by
  unfold b_hermitcrablaw15_GuestNil at H
  refine Tr.intro Try.func6 rfl Try.ntmps6 rfl fun w0 => ?_
  obtain ⟨hd, H⟩ := H
  refine c_seq ?_
  refine c_region ?_
  refine s_box rfl rfl rfl fun b => ?_
  refine s_p rfl (y_assign rfl) ?_
  refine s_nil (q_then ?_)
  refine c_join2 H (fun (J : Mem → Prop) (z : Unit) S => J S) (fun z => ⟨79, [(0, .int .i64 vm), (1, .int .i64 n), (5, .pointer (some ⟨b, 0, none⟩))]⟩) (fun z => [⟨b, 52, d⟩]) ?_ ?_
  · clear H
    rintro _ Sx H
    refine c_seq ?_
    refine c_region ?_
    refine s_p rfl (y_assign rfl) ?_
    refine s_nil (q_then ?_)
    refine c_seq ?_
    refine c_region ?_
    refine s_v rfl (y_ldA rfl hd) (hc_VP (k := 45) 0 rfl (lpart_all hd)) ?_
    refine s_call rfl rfl H fun rv Sx_1 H2 => ?_
    clear H
    obtain ⟨t, rfl, H⟩ := H2
    refine s_p rfl (y_assign rfl) ?_
    refine s_nil (q_then ?_)
    refine c_seq ?_
    refine c_region ?_
    refine s_p rfl (y_move rfl) ?_
    replace H := ite_e H
    rcases H with ⟨c, H⟩ | ⟨c, H⟩
    · refine s_p rfl (yT (y_pnn (p := t) rfl rfl) c) ?_
      refine s_p rfl (y_move rfl) ?_
      refine s_p rfl (y_move rfl) ?_
      refine s_p rfl (y_move rfl) ?_
      refine s_call rfl rfl H fun rv Sx_2 H2 => ?_
      clear H
      obtain ⟨t_1, rfl, H⟩ := H2
      replace H := ib_e H
      rcases H with ⟨rfl, H⟩ | ⟨rfl, H⟩
      · skip
        refine s_p rfl (yB (y_not rfl) rfl) ?_
        refine s_p rfl (y_pick rfl rfl) ?_
        refine s_p rfl (y_move rfl) ?_
        refine s_skip rfl ?_
        refine s_skip rfl ?_
        refine s_skip rfl ?_
        refine s_skip rfl ?_
        refine s_skip rfl ?_
        refine s_p rfl (y_pick rfl rfl) ?_
        refine s_p rfl (y_move rfl) ?_
        refine s_skip rfl ?_
        refine s_skip rfl ?_
        refine s_skip rfl ?_
        refine s_skip rfl ?_
        refine s_p rfl (y_pick rfl rfl) ?_
        refine s_p rfl (y_move rfl) ?_
        refine s_skip rfl ?_
        refine s_skip rfl ?_
        refine s_skip rfl ?_
        refine s_skip rfl ?_
        refine s_skip rfl ?_
        refine s_p rfl (y_pick rfl rfl) ?_
        refine s_p rfl (y_move rfl) ?_
        refine s_skip rfl ?_
        refine s_skip rfl ?_
        refine s_skip rfl ?_
        refine s_p rfl (y_pick rfl rfl) ?_
        refine s_p rfl (y_move rfl) ?_
        refine s_skip rfl ?_
        refine s_skip rfl ?_
        refine s_p rfl (y_pick rfl rfl) ?_
        refine s_p rfl (y_move rfl) ?_
        refine s_skip rfl ?_
        refine s_skip rfl ?_
        refine s_skip rfl ?_
        refine s_skip rfl ?_
        refine s_p rfl (y_pick rfl rfl) ?_
        refine s_p rfl (y_move rfl) ?_
        refine s_skip rfl ?_
        refine s_skip rfl ?_
        refine s_skip rfl ?_
        refine s_skip rfl ?_
        refine s_p rfl (y_pick rfl rfl) ?_
        refine s_p rfl (y_move rfl) ?_
        refine s_skip rfl ?_
        refine s_skip rfl ?_
        refine s_skip rfl ?_
        refine s_p rfl (y_pick rfl rfl) ?_
        refine s_p rfl (y_move rfl) ?_
        refine s_skip rfl ?_
        refine s_skip rfl ?_
        refine s_skip rfl ?_
        refine s_p rfl (y_pick rfl rfl) ?_
        refine s_p rfl (y_assign rfl) ?_
        refine s_nil (q_then ?_)
        refine c_ret ?_
        exact q_ret Try.results6 (rv_tmp rfl rv_nil) ⟨_, rfl, H⟩
      · skip
        refine s_p rfl (yB (y_not rfl) rfl) ?_
        refine s_p rfl (y_pick rfl rfl) ?_
        refine s_p rfl (y_move rfl) ?_
        refine s_p rfl (y_move rfl) ?_
        refine s_p rfl (y_move rfl) ?_
        refine s_p rfl (y_move rfl) ?_
        refine s_call rfl rfl H fun rv Sx_3 H2 => ?_
        clear H
        obtain ⟨t_2, rfl, H⟩ := H2
        replace H := ite_e H
        rcases H with ⟨c_1, H⟩ | ⟨c_1, H⟩
        · refine s_p rfl (yT (y_pnil (p := t_2) rfl rfl) c_1) ?_
          refine s_p rfl (y_pick rfl rfl) ?_
          refine s_p rfl (y_move rfl) ?_
          refine s_p rfl (y_move rfl) ?_
          refine s_call rfl rfl H fun rv Sx_4 H2 => ?_
          clear H
          obtain ⟨t_3, rfl, ht_3, H⟩ := H2
          refine s_p rfl (y_build rfl rfl) ?_
          obtain ⟨c_2, H⟩ := H
          replace H := ite_e H
          rcases H with ⟨c_4, H⟩ | ⟨c_4, H⟩
          · refine s_p rfl (yB (y_eqA rfl rfl c_2 rfl) c_4) ?_
            refine s_p rfl (y_pick rfl rfl) ?_
            refine s_p rfl (y_move rfl) ?_
            refine s_p rfl (y_move rfl) ?_
            refine s_p rfl (y_move rfl) ?_
            refine s_p rfl (y_move rfl) ?_
            refine s_call rfl rfl H fun rv Sx_5 H2 => ?_
            clear H
            obtain ⟨t_4, rfl, H⟩ := H2
            replace H := ib_e H
            rcases H with ⟨rfl, H⟩ | ⟨rfl, H⟩
            · skip
              refine s_p rfl (yB (y_not rfl) rfl) ?_
              refine s_p rfl (y_pick rfl rfl) ?_
              refine s_p rfl (y_move rfl) ?_
              refine s_skip rfl ?_
              refine s_skip rfl ?_
              refine s_skip rfl ?_
              refine s_p rfl (y_pick rfl rfl) ?_
              refine s_p rfl (y_move rfl) ?_
              refine s_skip rfl ?_
              refine s_skip rfl ?_
              refine s_p rfl (y_pick rfl rfl) ?_
              refine s_p rfl (y_move rfl) ?_
              refine s_skip rfl ?_
              refine s_skip rfl ?_
              refine s_skip rfl ?_
              refine s_skip rfl ?_
              refine s_p rfl (y_pick rfl rfl) ?_
              refine s_p rfl (y_move rfl) ?_
              refine s_skip rfl ?_
              refine s_skip rfl ?_
              refine s_skip rfl ?_
              refine s_skip rfl ?_
              refine s_p rfl (y_pick rfl rfl) ?_
              refine s_p rfl (y_move rfl) ?_
              refine s_skip rfl ?_
              refine s_skip rfl ?_
              refine s_skip rfl ?_
              refine s_p rfl (y_pick rfl rfl) ?_
              refine s_p rfl (y_move rfl) ?_
              refine s_skip rfl ?_
              refine s_skip rfl ?_
              refine s_skip rfl ?_
              refine s_p rfl (y_pick rfl rfl) ?_
              refine s_p rfl (y_assign rfl) ?_
              refine s_nil (q_then ?_)
              refine c_ret ?_
              exact q_ret Try.results6 (rv_tmp rfl rv_nil) ⟨_, rfl, H⟩
            · skip
              refine s_p rfl (yB (y_not rfl) rfl) ?_
              refine s_p rfl (y_pick rfl rfl) ?_
              refine s_p rfl (y_move rfl) ?_
              refine s_p rfl (y_move rfl) ?_
              refine s_call rfl rfl H fun rv Sx_6 H2 => ?_
              clear H
              obtain ⟨t_5, rfl, H⟩ := H2
              replace H := ite_e H
              rcases H with ⟨c_5, H⟩ | ⟨c_5, H⟩
              · refine s_p rfl (yT (y_pnil (p := t_5) rfl rfl) c_5) ?_
                refine s_p rfl (y_pick rfl rfl) ?_
                refine s_p rfl (y_move rfl) ?_
                refine s_p rfl (y_move rfl) ?_
                refine s_call rfl rfl H fun rv Sx_7 H2 => ?_
                clear H
                obtain ⟨t_6, rfl, H⟩ := H2
                replace H := ib_e H
                rcases H with ⟨rfl, H⟩ | ⟨rfl, H⟩
                · skip
                  refine s_p rfl (y_pick rfl rfl) ?_
                  refine s_p rfl (y_move rfl) ?_
                  refine s_p rfl (y_move rfl) ?_
                  refine s_p rfl (y_move rfl) ?_
                  refine s_call rfl rfl H fun rv Sx_8 H2 => ?_
                  clear H
                  obtain ⟨t_7, rfl, H⟩ := H2
                  replace H := ib_e H
                  rcases H with ⟨rfl, H⟩ | ⟨rfl, H⟩
                  · skip
                    refine s_p rfl (yB (y_not rfl) rfl) ?_
                    refine s_p rfl (y_pick rfl rfl) ?_
                    refine s_p rfl (y_move rfl) ?_
                    refine s_skip rfl ?_
                    refine s_skip rfl ?_
                    refine s_skip rfl ?_
                    refine s_skip rfl ?_
                    refine s_p rfl (y_pick rfl rfl) ?_
                    refine s_p rfl (y_move rfl) ?_
                    refine s_skip rfl ?_
                    refine s_skip rfl ?_
                    refine s_skip rfl ?_
                    refine s_p rfl (y_pick rfl rfl) ?_
                    refine s_p rfl (y_move rfl) ?_
                    refine s_skip rfl ?_
                    refine s_skip rfl ?_
                    refine s_skip rfl ?_
                    refine s_p rfl (y_pick rfl rfl) ?_
                    refine s_p rfl (y_assign rfl) ?_
                    refine s_nil (q_then ?_)
                    refine c_ret ?_
                    exact q_ret Try.results6 (rv_tmp rfl rv_nil) ⟨_, rfl, H⟩
                  · skip
                    refine s_p rfl (yB (y_not rfl) rfl) ?_
                    refine s_p rfl (y_pick rfl rfl) ?_
                    refine s_p rfl (y_move rfl) ?_
                    refine s_p rfl (y_move rfl) ?_
                    refine s_p rfl (y_move rfl) ?_
                    refine s_call rfl rfl H fun rv Sx_9 H2 => ?_
                    clear H
                    obtain ⟨t_8, rfl, H⟩ := H2
                    replace H := ib_e H
                    rcases H with ⟨rfl, H⟩ | ⟨rfl, H⟩
                    · skip
                      refine s_p rfl (yB (y_not rfl) rfl) ?_
                      refine s_p rfl (y_pick rfl rfl) ?_
                      refine s_p rfl (y_move rfl) ?_
                      refine s_skip rfl ?_
                      refine s_skip rfl ?_
                      refine s_skip rfl ?_
                      refine s_p rfl (y_pick rfl rfl) ?_
                      refine s_p rfl (y_move rfl) ?_
                      refine s_skip rfl ?_
                      refine s_skip rfl ?_
                      refine s_skip rfl ?_
                      refine s_p rfl (y_pick rfl rfl) ?_
                      refine s_p rfl (y_assign rfl) ?_
                      refine s_nil (q_then ?_)
                      refine c_ret ?_
                      exact q_ret Try.results6 (rv_tmp rfl rv_nil) ⟨_, rfl, H⟩
                    · skip
                      refine s_p rfl (yB (y_not rfl) rfl) ?_
                      refine s_p rfl (y_pick rfl rfl) ?_
                      refine s_p rfl (y_move rfl) ?_
                      refine s_call rfl rfl H fun rv Sx_10 H2 => ?_
                      clear H
                      obtain ⟨t_9, rfl, H⟩ := H2
                      refine s_call rfl rfl H fun rv Sx_11 H2 => ?_
                      clear H
                      obtain ⟨t_10, rfl, H⟩ := H2
                      replace H := ite_e H
                      rcases H with ⟨c_6, H⟩ | ⟨c_6, H⟩
                      · refine s_p rfl (yT (y_eql rfl rfl) c_6) ?_
                        refine s_p rfl (y_pick rfl rfl) ?_
                        refine s_p rfl (y_move rfl) ?_
                        refine s_p rfl (y_build rfl rfl) ?_
                        refine s_call rfl rfl H fun rv Sx_12 H2 => ?_
                        clear H
                        obtain ⟨t_11, rfl, H⟩ := H2
                        refine s_p rfl (y_eql rfl rfl) ?_
                        refine s_p rfl (y_pick rfl rfl) ?_
                        refine s_p rfl (y_assign rfl) ?_
                        refine s_nil (q_then ?_)
                        refine c_ret ?_
                        exact q_ret Try.results6 (rv_tmp rfl rv_nil) ⟨_, rfl, H⟩
                      · refine s_p rfl (yF (y_eql rfl rfl) c_6) ?_
                        refine s_p rfl (y_pick rfl rfl) ?_
                        refine s_p rfl (y_move rfl) ?_
                        refine s_skip rfl ?_
                        refine s_skip rfl ?_
                        refine s_skip rfl ?_
                        refine s_p rfl (y_pick rfl rfl) ?_
                        refine s_p rfl (y_assign rfl) ?_
                        refine s_nil (q_then ?_)
                        refine c_ret ?_
                        exact q_ret Try.results6 (rv_tmp rfl rv_nil) ⟨_, rfl, H⟩
                · skip
                  refine s_p rfl (y_pick rfl rfl) ?_
                  refine s_p rfl (y_move rfl) ?_
                  refine s_skip rfl ?_
                  refine s_skip rfl ?_
                  refine s_skip rfl ?_
                  refine s_skip rfl ?_
                  refine s_p rfl (y_pick rfl rfl) ?_
                  refine s_p rfl (y_move rfl) ?_
                  refine s_skip rfl ?_
                  refine s_skip rfl ?_
                  refine s_skip rfl ?_
                  refine s_skip rfl ?_
                  refine s_p rfl (y_pick rfl rfl) ?_
                  refine s_p rfl (y_move rfl) ?_
                  refine s_skip rfl ?_
                  refine s_skip rfl ?_
                  refine s_skip rfl ?_
                  refine s_p rfl (y_pick rfl rfl) ?_
                  refine s_p rfl (y_move rfl) ?_
                  refine s_skip rfl ?_
                  refine s_skip rfl ?_
                  refine s_skip rfl ?_
                  refine s_p rfl (y_pick rfl rfl) ?_
                  refine s_p rfl (y_assign rfl) ?_
                  refine s_nil (q_then ?_)
                  refine c_ret ?_
                  exact q_ret Try.results6 (rv_tmp rfl rv_nil) ⟨_, rfl, H⟩
              · refine s_p rfl (yF (y_pnil (p := t_5) rfl rfl) c_5) ?_
                refine s_p rfl (y_pick rfl rfl) ?_
                refine s_p rfl (y_move rfl) ?_
                refine s_skip rfl ?_
                refine s_skip rfl ?_
                refine s_p rfl (y_pick rfl rfl) ?_
                refine s_p rfl (y_move rfl) ?_
                refine s_skip rfl ?_
                refine s_skip rfl ?_
                refine s_skip rfl ?_
                refine s_skip rfl ?_
                refine s_p rfl (y_pick rfl rfl) ?_
                refine s_p rfl (y_move rfl) ?_
                refine s_skip rfl ?_
                refine s_skip rfl ?_
                refine s_skip rfl ?_
                refine s_skip rfl ?_
                refine s_p rfl (y_pick rfl rfl) ?_
                refine s_p rfl (y_move rfl) ?_
                refine s_skip rfl ?_
                refine s_skip rfl ?_
                refine s_skip rfl ?_
                refine s_p rfl (y_pick rfl rfl) ?_
                refine s_p rfl (y_move rfl) ?_
                refine s_skip rfl ?_
                refine s_skip rfl ?_
                refine s_skip rfl ?_
                refine s_p rfl (y_pick rfl rfl) ?_
                refine s_p rfl (y_assign rfl) ?_
                refine s_nil (q_then ?_)
                refine c_ret ?_
                exact q_ret Try.results6 (rv_tmp rfl rv_nil) ⟨_, rfl, H⟩
          · refine s_p rfl (yB (y_eqA rfl rfl c_2 rfl) (bf_of c_4)) ?_
            refine s_p rfl (y_pick rfl rfl) ?_
            refine s_p rfl (y_move rfl) ?_
            refine s_skip rfl ?_
            refine s_skip rfl ?_
            refine s_skip rfl ?_
            refine s_skip rfl ?_
            refine s_skip rfl ?_
            refine s_p rfl (y_pick rfl rfl) ?_
            refine s_p rfl (y_move rfl) ?_
            refine s_skip rfl ?_
            refine s_skip rfl ?_
            refine s_skip rfl ?_
            refine s_p rfl (y_pick rfl rfl) ?_
            refine s_p rfl (y_move rfl) ?_
            refine s_skip rfl ?_
            refine s_skip rfl ?_
            refine s_p rfl (y_pick rfl rfl) ?_
            refine s_p rfl (y_move rfl) ?_
            refine s_skip rfl ?_
            refine s_skip rfl ?_
            refine s_skip rfl ?_
            refine s_skip rfl ?_
            refine s_p rfl (y_pick rfl rfl) ?_
            refine s_p rfl (y_move rfl) ?_
            refine s_skip rfl ?_
            refine s_skip rfl ?_
            refine s_skip rfl ?_
            refine s_skip rfl ?_
            refine s_p rfl (y_pick rfl rfl) ?_
            refine s_p rfl (y_move rfl) ?_
            refine s_skip rfl ?_
            refine s_skip rfl ?_
            refine s_skip rfl ?_
            refine s_p rfl (y_pick rfl rfl) ?_
            refine s_p rfl (y_move rfl) ?_
            refine s_skip rfl ?_
            refine s_skip rfl ?_
            refine s_skip rfl ?_
            refine s_p rfl (y_pick rfl rfl) ?_
            refine s_p rfl (y_assign rfl) ?_
            refine s_nil (q_then ?_)
            refine c_ret ?_
            exact q_ret Try.results6 (rv_tmp rfl rv_nil) ⟨_, rfl, H⟩
        · refine s_p rfl (yF (y_pnil (p := t_2) rfl rfl) c_1) ?_
          refine s_p rfl (y_pick rfl rfl) ?_
          refine s_p rfl (y_move rfl) ?_
          refine s_skip rfl ?_
          refine s_skip rfl ?_
          refine s_skip rfl ?_
          refine s_skip rfl ?_
          refine s_p rfl (y_pick rfl rfl) ?_
          refine s_p rfl (y_move rfl) ?_
          refine s_skip rfl ?_
          refine s_skip rfl ?_
          refine s_skip rfl ?_
          refine s_skip rfl ?_
          refine s_skip rfl ?_
          refine s_p rfl (y_pick rfl rfl) ?_
          refine s_p rfl (y_move rfl) ?_
          refine s_skip rfl ?_
          refine s_skip rfl ?_
          refine s_skip rfl ?_
          refine s_p rfl (y_pick rfl rfl) ?_
          refine s_p rfl (y_move rfl) ?_
          refine s_skip rfl ?_
          refine s_skip rfl ?_
          refine s_p rfl (y_pick rfl rfl) ?_
          refine s_p rfl (y_move rfl) ?_
          refine s_skip rfl ?_
          refine s_skip rfl ?_
          refine s_skip rfl ?_
          refine s_skip rfl ?_
          refine s_p rfl (y_pick rfl rfl) ?_
          refine s_p rfl (y_move rfl) ?_
          refine s_skip rfl ?_
          refine s_skip rfl ?_
          refine s_skip rfl ?_
          refine s_skip rfl ?_
          refine s_p rfl (y_pick rfl rfl) ?_
          refine s_p rfl (y_move rfl) ?_
          refine s_skip rfl ?_
          refine s_skip rfl ?_
          refine s_skip rfl ?_
          refine s_p rfl (y_pick rfl rfl) ?_
          refine s_p rfl (y_move rfl) ?_
          refine s_skip rfl ?_
          refine s_skip rfl ?_
          refine s_skip rfl ?_
          refine s_p rfl (y_pick rfl rfl) ?_
          refine s_p rfl (y_assign rfl) ?_
          refine s_nil (q_then ?_)
          refine c_ret ?_
          exact q_ret Try.results6 (rv_tmp rfl rv_nil) ⟨_, rfl, H⟩
    · refine s_p rfl (yF (y_pnn (p := t) rfl rfl) c) ?_
      refine s_p rfl (y_move rfl) ?_
      refine s_skip rfl ?_
      refine s_skip rfl ?_
      refine s_skip rfl ?_
      refine s_skip rfl ?_
      refine s_p rfl (y_pick rfl rfl) ?_
      refine s_p rfl (y_move rfl) ?_
      refine s_skip rfl ?_
      refine s_skip rfl ?_
      refine s_skip rfl ?_
      refine s_skip rfl ?_
      refine s_skip rfl ?_
      refine s_p rfl (y_pick rfl rfl) ?_
      refine s_p rfl (y_move rfl) ?_
      refine s_skip rfl ?_
      refine s_skip rfl ?_
      refine s_skip rfl ?_
      refine s_skip rfl ?_
      refine s_p rfl (y_pick rfl rfl) ?_
      refine s_p rfl (y_move rfl) ?_
      refine s_skip rfl ?_
      refine s_skip rfl ?_
      refine s_skip rfl ?_
      refine s_skip rfl ?_
      refine s_skip rfl ?_
      refine s_p rfl (y_pick rfl rfl) ?_
      refine s_p rfl (y_move rfl) ?_
      refine s_skip rfl ?_
      refine s_skip rfl ?_
      refine s_skip rfl ?_
      refine s_p rfl (y_pick rfl rfl) ?_
      refine s_p rfl (y_move rfl) ?_
      refine s_skip rfl ?_
      refine s_skip rfl ?_
      refine s_p rfl (y_pick rfl rfl) ?_
      refine s_p rfl (y_move rfl) ?_
      refine s_skip rfl ?_
      refine s_skip rfl ?_
      refine s_skip rfl ?_
      refine s_skip rfl ?_
      refine s_p rfl (y_pick rfl rfl) ?_
      refine s_p rfl (y_move rfl) ?_
      refine s_skip rfl ?_
      refine s_skip rfl ?_
      refine s_skip rfl ?_
      refine s_skip rfl ?_
      refine s_p rfl (y_pick rfl rfl) ?_
      refine s_p rfl (y_move rfl) ?_
      refine s_skip rfl ?_
      refine s_skip rfl ?_
      refine s_skip rfl ?_
      refine s_p rfl (y_pick rfl rfl) ?_
      refine s_p rfl (y_move rfl) ?_
      refine s_skip rfl ?_
      refine s_skip rfl ?_
      refine s_skip rfl ?_
      refine s_p rfl (y_pick rfl rfl) ?_
      refine s_p rfl (y_assign rfl) ?_
      refine s_nil (q_then ?_)
      refine c_ret ?_
      exact q_ret Try.results6 (rv_tmp rfl rv_nil) ⟨_, rfl, H⟩
  · clear H
    intro Jx hJx H
    refine c_seq ?_
    refine c_region ?_
    refine s_call rfl rfl H fun rv Sx_13 H2 => ?_
    clear H
    obtain ⟨t_12, rfl, H⟩ := H2
    replace H := ib_e H
    rcases H with ⟨rfl, H⟩ | ⟨rfl, H⟩
    · skip
      refine s_p rfl (yB (y_not rfl) rfl) ?_
      refine s_p rfl (y_move rfl) ?_
      refine s_p rfl (y_fa rfl rfl) ?_
      obtain ⟨t_13, ht_13, H⟩ := H
      refine s_v rfl (y_ld rfl) (hc_V 0 rfl ht_13) ?_
      refine s_p rfl (y_len rfl) ?_
      replace H := ite_e H
      rcases H with ⟨c_7, H⟩ | ⟨c_7, H⟩
      · refine s_p rfl (yT (y_gtr rfl rfl) c_7) ?_
        refine s_p rfl (y_pick rfl rfl) ?_
        refine s_nil (q_then ?_)
        refine c_t rfl rfl ?_
        refine c_seq ?_
        refine c_region ?_
        refine s_call rfl rfl H fun rv Sx_14 H2 => ?_
        clear H
        obtain ⟨t_14, rfl, H⟩ := H2
        refine s_p rfl (y_assign rfl) ?_
        refine s_nil (q_then ?_)
        refine c_ret (q_then_ret ?_)
        exact q_ret Try.results6 (rv_tmp rfl rv_nil) ⟨_, rfl, H⟩
      · refine s_p rfl (yF (y_gtr rfl rfl) c_7) ?_
        refine s_p rfl (y_pick rfl rfl) ?_
        refine s_nil (q_then ?_)
        refine c_f rfl rfl ?_
        refine c_skip ?_
        exact hJx () _ _ _ _ [0] H rfl ⟨rfl, rfl, rfl, True.intro⟩ rfl
    · skip
      refine s_p rfl (yB (y_not rfl) rfl) ?_
      refine s_p rfl (y_move rfl) ?_
      refine s_skip rfl ?_
      refine s_skip rfl ?_
      refine s_skip rfl ?_
      refine s_skip rfl ?_
      refine s_p rfl (y_pick rfl rfl) ?_
      refine s_nil (q_then ?_)
      refine c_t rfl rfl ?_
      refine c_seq ?_
      refine c_region ?_
      refine s_call rfl rfl H fun rv Sx_15 H2 => ?_
      clear H
      obtain ⟨t_15, rfl, H⟩ := H2
      refine s_p rfl (y_assign rfl) ?_
      refine s_nil (q_then ?_)
      refine c_ret (q_then_ret ?_)
      exact q_ret Try.results6 (rv_tmp rfl rv_nil) ⟨_, rfl, H⟩
end Go.Proofs.Ytpilffakhkagjaa
