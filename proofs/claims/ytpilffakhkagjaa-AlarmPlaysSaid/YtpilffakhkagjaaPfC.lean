/- PRINTED BY pt.py: functions. -/
import Derived.Test.YtpilffakhkagjaaPtS
namespace Go.Proofs.Ytpilffakhkagjaa
open Go Go.Pt
attribute [local irreducible] Code.wp Back bodyPost wpList FR WL WC WQ WA AW Tr Yc HC AllC
set_option maxRecDepth 20000
set_option maxHeartbeats 4000000
set_option linter.unusedVariables false
def b_hermitcrablaw10_awake (S : Mem) (Q : Bool → Mem → Prop) : Prop :=
  al S 91 ([.slice (none) 0 0]) fun b Sx =>
  alarm_Clock_Set Sx (some (b, 0)) 0 0 5 fun t Sx_1 =>
  alarm_Clock_Set Sx_1 (some (b, 0)) 1 0 3 fun t_1 Sx_2 =>
  alarm_Clock_Due Sx_2 (some (b, 0)) 5 fun t_2 Sx_3 =>
  if (t_2.n : Int) = 2 then
    sl t_2 fun b_1 o n n_1 =>
    (0 : Int) < (n : Nat) ∧
    gI (Sx_3.cell b_1 (o + 1)) .i64 fun t_3 =>
    if t_3 = 1 then
      (1 : Int) < (n : Nat) ∧
      gI (Sx_3.cell b_1 (o + 4)) .i64 fun t_4 =>
      if t_4 = 0 then
        alarm_Clock_All Sx_3 (some (b, 0)) fun t_5 Sx_4 =>
        Q (decide ((t_5.n : Int) = 0)) Sx_4
      else
      Q false Sx_3
    else
    Q false Sx_3
  else
  Q false Sx_3
theorem t_hermitcrablaw10_awake {S : Mem} {Q : Bool → Mem → Prop} (H : b_hermitcrablaw10_awake S Q) : hermitcrablaw10_awake S Q := by
  unfold b_hermitcrablaw10_awake at H
  refine Tr.intro Try.func35 rfl Try.ntmps35 rfl fun w0 => ?_
  refine c_seq ?_
  refine c_region ?_
  refine s_p rfl (y_assign rfl) ?_
  refine s_nil (q_then ?_)
  refine c_seq ?_
  refine c_region ?_
  refine s_p rfl (y_build rfl rfl) ?_
  refine s_box rfl rfl rfl fun b => ?_
  refine s_pub 0 rfl fun hb => ?_
  replace H := H b hb
  refine s_p rfl (y_assign rfl) ?_
  refine s_nil (q_then ?_)
  refine c_seq ?_
  refine c_region ?_
  refine s_p rfl (y_move rfl) ?_
  refine s_call rfl rfl H fun rv Sx_1 H2 => ?_
  clear H
  obtain ⟨t, rfl, H⟩ := H2
  refine s_nil (q_then ?_)
  refine c_seq ?_
  refine c_region ?_
  refine s_p rfl (y_move rfl) ?_
  refine s_call rfl rfl H fun rv Sx_2 H2 => ?_
  clear H
  obtain ⟨t_1, rfl, H⟩ := H2
  refine s_nil (q_then ?_)
  refine c_seq ?_
  refine c_region ?_
  refine s_p rfl (y_move rfl) ?_
  refine s_call rfl rfl H fun rv Sx_3 H2 => ?_
  clear H
  obtain ⟨t_2, rfl, H⟩ := H2
  refine s_p rfl (y_assign rfl) ?_
  refine s_nil (q_then ?_)
  refine c_seq ?_
  refine c_region ?_
  refine s_p rfl (y_move rfl) ?_
  refine s_p rfl (y_len rfl) ?_
  replace H := ite_e H
  rcases H with ⟨c, H⟩ | ⟨c, H⟩
  · refine s_p rfl (yT (y_eql rfl rfl) c) ?_
    refine s_p rfl (y_move rfl) ?_
    refine s_p rfl (y_move rfl) ?_
    obtain ⟨b_1, o, n, n_1, rfl, H⟩ := H
    obtain ⟨c_2, H⟩ := H
    refine s_p rfl (y_ixL rfl rfl (by decide) c_2 rfl) ?_
    refine s_p rfl (y_fa rfl rfl) ?_
    obtain ⟨t_3, ht_3, H⟩ := H
    refine s_v rfl (y_ld rfl) (hc_S ht_3) ?_
    replace H := ite_e H
    rcases H with ⟨c_3, H⟩ | ⟨c_3, H⟩
    · refine s_p rfl (yT (y_eql rfl rfl) c_3) ?_
      refine s_p rfl (y_pick rfl rfl) ?_
      refine s_p rfl (y_move rfl) ?_
      refine s_p rfl (y_move rfl) ?_
      obtain ⟨c_5, H⟩ := H
      refine s_p rfl (y_ixL rfl rfl (by decide) c_5 rfl) ?_
      refine s_p rfl (y_fa rfl rfl) ?_
      obtain ⟨t_4, ht_4, H⟩ := H
      refine s_v rfl (y_ld rfl) (hc_S ht_4) ?_
      replace H := ite_e H
      rcases H with ⟨c_6, H⟩ | ⟨c_6, H⟩
      · refine s_p rfl (yT (y_eql rfl rfl) c_6) ?_
        refine s_p rfl (y_pick rfl rfl) ?_
        refine s_p rfl (y_move rfl) ?_
        refine s_p rfl (y_move rfl) ?_
        refine s_call rfl rfl H fun rv Sx_4 H2 => ?_
        clear H
        obtain ⟨t_5, rfl, H⟩ := H2
        refine s_p rfl (y_len rfl) ?_
        refine s_p rfl (y_eql rfl rfl) ?_
        refine s_p rfl (y_pick rfl rfl) ?_
        refine s_p rfl (y_assign rfl) ?_
        refine s_nil (q_then ?_)
        refine c_ret ?_
        exact q_ret Try.results35 (rv_tmp rfl rv_nil) ⟨_, rfl, H⟩
      · refine s_p rfl (yF (y_eql rfl rfl) c_6) ?_
        refine s_p rfl (y_pick rfl rfl) ?_
        refine s_p rfl (y_move rfl) ?_
        refine s_skip rfl ?_
        refine s_skip rfl ?_
        refine s_skip rfl ?_
        refine s_skip rfl ?_
        refine s_p rfl (y_pick rfl rfl) ?_
        refine s_p rfl (y_assign rfl) ?_
        refine s_nil (q_then ?_)
        refine c_ret ?_
        exact q_ret Try.results35 (rv_tmp rfl rv_nil) ⟨_, rfl, H⟩
    · refine s_p rfl (yF (y_eql rfl rfl) c_3) ?_
      refine s_p rfl (y_pick rfl rfl) ?_
      refine s_p rfl (y_move rfl) ?_
      refine s_skip rfl ?_
      refine s_skip rfl ?_
      refine s_skip rfl ?_
      refine s_skip rfl ?_
      refine s_skip rfl ?_
      refine s_p rfl (y_pick rfl rfl) ?_
      refine s_p rfl (y_move rfl) ?_
      refine s_skip rfl ?_
      refine s_skip rfl ?_
      refine s_skip rfl ?_
      refine s_skip rfl ?_
      refine s_p rfl (y_pick rfl rfl) ?_
      refine s_p rfl (y_assign rfl) ?_
      refine s_nil (q_then ?_)
      refine c_ret ?_
      exact q_ret Try.results35 (rv_tmp rfl rv_nil) ⟨_, rfl, H⟩
  · refine s_p rfl (yF (y_eql rfl rfl) c) ?_
    refine s_p rfl (y_move rfl) ?_
    refine s_skip rfl ?_
    refine s_skip rfl ?_
    refine s_skip rfl ?_
    refine s_skip rfl ?_
    refine s_skip rfl ?_
    refine s_p rfl (y_pick rfl rfl) ?_
    refine s_p rfl (y_move rfl) ?_
    refine s_skip rfl ?_
    refine s_skip rfl ?_
    refine s_skip rfl ?_
    refine s_skip rfl ?_
    refine s_skip rfl ?_
    refine s_p rfl (y_pick rfl rfl) ?_
    refine s_p rfl (y_move rfl) ?_
    refine s_skip rfl ?_
    refine s_skip rfl ?_
    refine s_skip rfl ?_
    refine s_skip rfl ?_
    refine s_p rfl (y_pick rfl rfl) ?_
    refine s_p rfl (y_assign rfl) ?_
    refine s_nil (q_then ?_)
    refine c_ret ?_
    exact q_ret Try.results35 (rv_tmp rfl rv_nil) ⟨_, rfl, H⟩
def b_hermitcrablaw10_AlarmNil (S : Mem) (vm : Int) (seat : Int) (atx : Int) (Q : Bool → Mem → Prop) : Prop :=
  alarm_Clock_Drop S none vm seat fun Sx =>
  alarm_Clock_DropVM Sx none vm fun Sx_1 =>
  alarm_Clock_Shift Sx_1 none atx fun Sx_2 =>
  hermitcrablaw10_awake Sx_2 fun t Sx_3 =>
  if t = true then
    alarm_Clock_Set Sx_3 none vm seat atx fun t_1 Sx_4 =>
    if t_1 = 2 then
      alarm_Clock_Due Sx_4 none atx fun t_2 Sx_5 =>
      if (t_2.n : Int) = 0 then
        alarm_Clock_All Sx_5 none fun t_3 Sx_6 =>
        if (t_3.n : Int) = 0 then
          alarm_Clock_Twin Sx_6 none fun t_4 Sx_7 =>
          Q (decide (t_4 = none)) Sx_7
        else
        Q false Sx_6
      else
      Q false Sx_5
    else
    Q false Sx_4
  else
  Q false Sx_3
theorem t_hermitcrablaw10_AlarmNil {S : Mem} {vm : Int} {seat : Int} {atx : Int} {Q : Bool → Mem → Prop} (H : b_hermitcrablaw10_AlarmNil S vm seat atx Q) : hermitcrablaw10_AlarmNil S vm seat atx Q := by
  unfold b_hermitcrablaw10_AlarmNil at H
  refine Tr.intro Try.func10 rfl Try.ntmps10 rfl fun w0 => ?_
  refine c_seq ?_
  refine c_region ?_
  refine s_p rfl (y_assign rfl) ?_
  refine s_nil (q_then ?_)
  refine c_seq ?_
  refine c_region ?_
  refine s_p rfl (y_assign rfl) ?_
  refine s_nil (q_then ?_)
  refine c_seq ?_
  refine c_region ?_
  refine s_p rfl (y_move rfl) ?_
  refine s_p rfl (y_move rfl) ?_
  refine s_p rfl (y_move rfl) ?_
  refine s_call rfl rfl H fun rv Sx H2 => ?_
  clear H
  obtain ⟨rfl, H⟩ := H2
  refine s_nil (q_then ?_)
  refine c_seq ?_
  refine c_region ?_
  refine s_p rfl (y_move rfl) ?_
  refine s_p rfl (y_move rfl) ?_
  refine s_call rfl rfl H fun rv Sx_1 H2 => ?_
  clear H
  obtain ⟨rfl, H⟩ := H2
  refine s_nil (q_then ?_)
  refine c_seq ?_
  refine c_region ?_
  refine s_p rfl (y_move rfl) ?_
  refine s_p rfl (y_move rfl) ?_
  refine s_call rfl rfl H fun rv Sx_2 H2 => ?_
  clear H
  obtain ⟨rfl, H⟩ := H2
  refine s_nil (q_then ?_)
  refine c_seq ?_
  refine c_region ?_
  refine s_call rfl rfl H fun rv Sx_3 H2 => ?_
  clear H
  obtain ⟨t, rfl, H⟩ := H2
  replace H := ib_e H
  rcases H with ⟨rfl, H⟩ | ⟨rfl, H⟩
  · skip
    refine s_p rfl (y_move rfl) ?_
    refine s_p rfl (y_move rfl) ?_
    refine s_p rfl (y_move rfl) ?_
    refine s_p rfl (y_move rfl) ?_
    refine s_p rfl (y_move rfl) ?_
    refine s_call rfl rfl H fun rv Sx_4 H2 => ?_
    clear H
    obtain ⟨t_1, rfl, H⟩ := H2
    replace H := ite_e H
    rcases H with ⟨c, H⟩ | ⟨c, H⟩
    · refine s_p rfl (yT (y_eql rfl rfl) c) ?_
      refine s_p rfl (y_pick rfl rfl) ?_
      refine s_p rfl (y_move rfl) ?_
      refine s_p rfl (y_move rfl) ?_
      refine s_p rfl (y_move rfl) ?_
      refine s_call rfl rfl H fun rv Sx_5 H2 => ?_
      clear H
      obtain ⟨t_2, rfl, H⟩ := H2
      refine s_p rfl (y_len rfl) ?_
      replace H := ite_e H
      rcases H with ⟨c_1, H⟩ | ⟨c_1, H⟩
      · refine s_p rfl (yT (y_eql rfl rfl) c_1) ?_
        refine s_p rfl (y_pick rfl rfl) ?_
        refine s_p rfl (y_move rfl) ?_
        refine s_p rfl (y_move rfl) ?_
        refine s_call rfl rfl H fun rv Sx_6 H2 => ?_
        clear H
        obtain ⟨t_3, rfl, H⟩ := H2
        refine s_p rfl (y_len rfl) ?_
        replace H := ite_e H
        rcases H with ⟨c_2, H⟩ | ⟨c_2, H⟩
        · refine s_p rfl (yT (y_eql rfl rfl) c_2) ?_
          refine s_p rfl (y_pick rfl rfl) ?_
          refine s_p rfl (y_move rfl) ?_
          refine s_p rfl (y_move rfl) ?_
          refine s_call rfl rfl H fun rv Sx_7 H2 => ?_
          clear H
          obtain ⟨t_4, rfl, H⟩ := H2
          refine s_p rfl (y_pnil (p := t_4) rfl rfl) ?_
          refine s_p rfl (y_pick rfl rfl) ?_
          refine s_p rfl (y_assign rfl) ?_
          refine s_nil (q_then ?_)
          refine c_ret ?_
          exact q_ret Try.results10 (rv_tmp rfl rv_nil) ⟨_, rfl, H⟩
        · refine s_p rfl (yF (y_eql rfl rfl) c_2) ?_
          refine s_p rfl (y_pick rfl rfl) ?_
          refine s_p rfl (y_move rfl) ?_
          refine s_skip rfl ?_
          refine s_skip rfl ?_
          refine s_skip rfl ?_
          refine s_p rfl (y_pick rfl rfl) ?_
          refine s_p rfl (y_assign rfl) ?_
          refine s_nil (q_then ?_)
          refine c_ret ?_
          exact q_ret Try.results10 (rv_tmp rfl rv_nil) ⟨_, rfl, H⟩
      · refine s_p rfl (yF (y_eql rfl rfl) c_1) ?_
        refine s_p rfl (y_pick rfl rfl) ?_
        refine s_p rfl (y_move rfl) ?_
        refine s_skip rfl ?_
        refine s_skip rfl ?_
        refine s_skip rfl ?_
        refine s_skip rfl ?_
        refine s_p rfl (y_pick rfl rfl) ?_
        refine s_p rfl (y_move rfl) ?_
        refine s_skip rfl ?_
        refine s_skip rfl ?_
        refine s_skip rfl ?_
        refine s_p rfl (y_pick rfl rfl) ?_
        refine s_p rfl (y_assign rfl) ?_
        refine s_nil (q_then ?_)
        refine c_ret ?_
        exact q_ret Try.results10 (rv_tmp rfl rv_nil) ⟨_, rfl, H⟩
    · refine s_p rfl (yF (y_eql rfl rfl) c) ?_
      refine s_p rfl (y_pick rfl rfl) ?_
      refine s_p rfl (y_move rfl) ?_
      refine s_skip rfl ?_
      refine s_skip rfl ?_
      refine s_skip rfl ?_
      refine s_skip rfl ?_
      refine s_skip rfl ?_
      refine s_p rfl (y_pick rfl rfl) ?_
      refine s_p rfl (y_move rfl) ?_
      refine s_skip rfl ?_
      refine s_skip rfl ?_
      refine s_skip rfl ?_
      refine s_skip rfl ?_
      refine s_p rfl (y_pick rfl rfl) ?_
      refine s_p rfl (y_move rfl) ?_
      refine s_skip rfl ?_
      refine s_skip rfl ?_
      refine s_skip rfl ?_
      refine s_p rfl (y_pick rfl rfl) ?_
      refine s_p rfl (y_assign rfl) ?_
      refine s_nil (q_then ?_)
      refine c_ret ?_
      exact q_ret Try.results10 (rv_tmp rfl rv_nil) ⟨_, rfl, H⟩
  · skip
    refine s_p rfl (y_move rfl) ?_
    refine s_skip rfl ?_
    refine s_skip rfl ?_
    refine s_skip rfl ?_
    refine s_skip rfl ?_
    refine s_skip rfl ?_
    refine s_skip rfl ?_
    refine s_p rfl (y_pick rfl rfl) ?_
    refine s_p rfl (y_move rfl) ?_
    refine s_skip rfl ?_
    refine s_skip rfl ?_
    refine s_skip rfl ?_
    refine s_skip rfl ?_
    refine s_skip rfl ?_
    refine s_p rfl (y_pick rfl rfl) ?_
    refine s_p rfl (y_move rfl) ?_
    refine s_skip rfl ?_
    refine s_skip rfl ?_
    refine s_skip rfl ?_
    refine s_skip rfl ?_
    refine s_p rfl (y_pick rfl rfl) ?_
    refine s_p rfl (y_move rfl) ?_
    refine s_skip rfl ?_
    refine s_skip rfl ?_
    refine s_skip rfl ?_
    refine s_p rfl (y_pick rfl rfl) ?_
    refine s_p rfl (y_assign rfl) ?_
    refine s_nil (q_then ?_)
    refine c_ret ?_
    exact q_ret Try.results10 (rv_tmp rfl rv_nil) ⟨_, rfl, H⟩
def b_hermitcrablaw10_AlarmOnce (S : Mem) (vm : Int) (seat : Int) (times : Sl) (Q : Bool → Mem → Prop) : Prop :=
  jn (fun (Sx : Mem) =>
      al Sx 91 ([.slice (none) 0 0]) fun b Sx_1 =>
      jn (fun (Sx_2 : Mem) =>
          sl times fun b_1 o n n_1 =>
          0 ≤ IntKind.i64.wrap ((times.n : Int) - 1) ∧ IntKind.i64.wrap ((times.n : Int) - 1) < ((n : Nat) : Int) ∧
          gI (Sx_2.cell b_1 (o + (IntKind.i64.wrap ((times.n : Int) - 1)).toNat * 1)) .u64 fun t =>
          jn (fun (none : Bool) (Sx_3 : Mem) =>
              alarm_Clock_Due Sx_3 (some (b, 0)) t fun t_1 Sx_4 =>
              if none = true then
                Q false Sx_4
              else
              if (t_1.n : Int) = 1 then
                sl t_1 fun b_2 o_1 n_2 n_3 =>
                (0 : Int) < (n_2 : Nat) ∧
                gA (Sx_4.part b_2 o_1 3) fun t_2 =>
                fits [.i .u64, .i .i64, .i .i64] t_2 = true ∧
                if (eqL t_2 ([.int .u64 t, .int .i64 (IntKind.i64.wrap (Int.tmod vm 6)), .int .i64 (IntKind.i64.wrap (Int.tmod seat 3))])) = true then
                  alarm_Clock_Due Sx_4 (some (b, 0)) 18446744073709551615 fun t_3 Sx_5 =>
                  Q (decide ((t_3.n : Int) = 0)) Sx_5
                else
                Q false Sx_4
              else
              Q false Sx_4) fun Jx =>
          if 0 < t then
            alarm_Clock_Due Sx_2 (some (b, 0)) (IntKind.u64.wrap (t - 1)) fun t_4 Sx_6 =>
            if 0 < (t_4.n : Int) then
              Jx true Sx_6
            else
            Jx false Sx_6
          else
          Jx false Sx_2) fun Jx_1 =>
      lp (fun Xx (i : Int) (Sx_7 : Mem) =>
          jn (fun (Sx_8 : Mem) =>
              sl times fun b_3 o_2 n_4 n_5 =>
              0 ≤ i ∧ i < ((n_4 : Nat) : Int) ∧
              gI (Sx_8.cell b_3 (o_2 + i.toNat * 1)) .u64 fun t_5 =>
              alarm_Clock_Set Sx_8 (some (b, 0)) (IntKind.i64.wrap (Int.tmod vm 6)) (IntKind.i64.wrap (Int.tmod seat 3)) t_5 fun t_6 Sx_9 =>
              Xx (IntKind.i64.wrap (i + 1)) Sx_9) fun Jx_2 =>
          if i < (times.n : Int) then
            Jx_2 Sx_7
          else
          Jx_1 Sx_7) 0 Sx_1) fun Jx_3 =>
  hermitcrablaw10_awake S fun t_7 Sx_10 =>
  if t_7 = true then
    if (times.n : Int) = 0 then
      hermitcrablaw10_awake Sx_10 fun t_8 Sx_11 =>
      Q t_8 Sx_11
    else
    if 30 < (times.n : Int) then
      hermitcrablaw10_awake Sx_10 fun t_9 Sx_12 =>
      Q t_9 Sx_12
    else
    Jx_3 Sx_10
  else
  hermitcrablaw10_awake Sx_10 fun t_10 Sx_13 =>
  Q t_10 Sx_13
theorem t_hermitcrablaw10_AlarmOnce {S : Mem} {vm : Int} {seat : Int} {times : Sl} {Q : Bool → Mem → Prop} (H : b_hermitcrablaw10_AlarmOnce S vm seat times Q) : hermitcrablaw10_AlarmOnce S vm seat times Q := by
  unfold b_hermitcrablaw10_AlarmOnce at H
  refine Tr.intro Try.func7 rfl Try.ntmps7 rfl fun w0 => ?_
  refine c_seq ?_
  refine c_region ?_
  refine s_p rfl (y_assign rfl) ?_
  refine s_nil (q_then ?_)
  refine c_join2 H (fun (J : Mem → Prop) (z : Unit) S => J S) (fun z => ⟨91, [(0, .int .u8 vm), (1, .int .u8 seat), (2, eL times)]⟩) (fun z => []) ?_ ?_
  · clear H
    rintro _ Sx H
    refine c_seq ?_
    refine c_region ?_
    refine s_p rfl (y_build rfl rfl) ?_
    refine s_box rfl rfl rfl fun b => ?_
    refine s_pub 0 rfl fun hb => ?_
    replace H := H b hb
    refine s_p rfl (y_assign rfl) ?_
    refine s_nil (q_then ?_)
    refine c_seq ?_
    refine c_region ?_
    refine s_p rfl (y_move rfl) ?_
    refine s_p rfl (y_rem rfl rfl (by decide)) ?_
    refine s_p rfl (y_conv ⟨_, Try.underlying5⟩ rfl) ?_
    refine s_p rfl (y_assign rfl) ?_
    refine s_nil (q_then ?_)
    refine c_seq ?_
    refine c_region ?_
    refine s_p rfl (y_move rfl) ?_
    refine s_p rfl (y_rem rfl rfl (by decide)) ?_
    refine s_p rfl (y_conv ⟨_, Try.underlying5⟩ rfl) ?_
    refine s_p rfl (y_assign rfl) ?_
    refine s_nil (q_then ?_)
    refine c_join2 H (fun (J : Mem → Prop) (z : Unit) S => J S) (fun z => ⟨91, [(2, eL times), (7, .pointer (some ⟨b, 0, none⟩)), (8, .int .i64 (IntKind.i64.wrap (Int.tmod vm 6))), (9, .int .i64 (IntKind.i64.wrap (Int.tmod seat 3)))]⟩) (fun z => []) ?_ ?_
    · clear H
      rintro _ Sx_2 H
      refine c_seq ?_
      refine c_region ?_
      refine s_p rfl (y_move rfl) ?_
      refine s_p rfl (y_move rfl) ?_
      refine s_p rfl (y_len rfl) ?_
      refine s_p rfl (y_sub rfl rfl) ?_
      obtain ⟨b_1, o, n, n_1, rfl, H⟩ := H
      obtain ⟨c, c_1, H⟩ := H
      refine s_p rfl (y_ixL rfl rfl c c_1 rfl) ?_
      obtain ⟨t, ht, H⟩ := H
      refine s_v rfl (y_ld rfl) (hc_S ht) ?_
      refine s_p rfl (y_assign rfl) ?_
      refine s_nil (q_then ?_)
      refine c_join2 H (fun (J : Bool → Mem → Prop) (z : Bool) S => J z S) (fun z => ⟨91, [(7, .pointer (some ⟨b, 0, none⟩)), (8, .int .i64 (IntKind.i64.wrap (Int.tmod vm 6))), (9, .int .i64 (IntKind.i64.wrap (Int.tmod seat 3))), (11, .int .u64 t), (12, .bool z)]⟩) (fun z => []) ?_ ?_
      · clear H
        rintro none Sx_3 H
        refine c_seq ?_
        refine c_region ?_
        refine s_p rfl (y_move rfl) ?_
        refine s_p rfl (y_move rfl) ?_
        refine s_call rfl rfl H fun rv Sx_4 H2 => ?_
        clear H
        obtain ⟨t_1, rfl, H⟩ := H2
        refine s_p rfl (y_assign rfl) ?_
        refine s_nil (q_then ?_)
        refine c_seq ?_
        refine c_region ?_
        replace H := ite_e H
        rcases H with ⟨c_2, H⟩ | ⟨c_2, H⟩
        · refine s_p rfl (y_moveB rfl c_2) ?_
          refine s_p rfl (yB (y_not rfl) rfl) ?_
          refine s_p rfl (y_move rfl) ?_
          refine s_skip rfl ?_
          refine s_skip rfl ?_
          refine s_skip rfl ?_
          refine s_p rfl (y_pick rfl rfl) ?_
          refine s_p rfl (y_move rfl) ?_
          refine s_skip rfl ?_
          refine s_skip rfl ?_
          refine s_skip rfl ?_
          refine s_skip rfl ?_
          refine s_skip rfl ?_
          refine s_skip rfl ?_
          refine s_skip rfl ?_
          refine s_skip rfl ?_
          refine s_p rfl (y_pick rfl rfl) ?_
          refine s_p rfl (y_move rfl) ?_
          refine s_skip rfl ?_
          refine s_skip rfl ?_
          refine s_skip rfl ?_
          refine s_skip rfl ?_
          refine s_p rfl (y_pick rfl rfl) ?_
          refine s_p rfl (y_assign rfl) ?_
          refine s_nil (q_then ?_)
          refine c_ret ?_
          exact q_ret Try.results7 (rv_tmp rfl rv_nil) ⟨_, rfl, H⟩
        · refine s_p rfl (y_moveB rfl (bf_of c_2)) ?_
          refine s_p rfl (yB (y_not rfl) rfl) ?_
          refine s_p rfl (y_move rfl) ?_
          refine s_p rfl (y_move rfl) ?_
          refine s_p rfl (y_len rfl) ?_
          replace H := ite_e H
          rcases H with ⟨c_3, H⟩ | ⟨c_3, H⟩
          · refine s_p rfl (yT (y_eql rfl rfl) c_3) ?_
            refine s_p rfl (y_pick rfl rfl) ?_
            refine s_p rfl (y_move rfl) ?_
            refine s_p rfl (y_move rfl) ?_
            obtain ⟨b_2, o_1, n_2, n_3, rfl, H⟩ := H
            obtain ⟨c_5, H⟩ := H
            refine s_p rfl (y_ixL rfl rfl (by decide) c_5 rfl) ?_
            obtain ⟨t_2, ht_2, H⟩ := H
            refine s_v rfl (y_ldA rfl (part_len ht_2)) (hc_SP ht_2) ?_
            refine s_p rfl (y_move rfl) ?_
            refine s_p rfl (y_move rfl) ?_
            refine s_p rfl (y_move rfl) ?_
            refine s_p rfl (y_build rfl rfl) ?_
            obtain ⟨c_6, H⟩ := H
            replace H := ite_e H
            rcases H with ⟨c_8, H⟩ | ⟨c_8, H⟩
            · refine s_p rfl (yB (y_eqA rfl rfl c_6 rfl) c_8) ?_
              refine s_p rfl (y_pick rfl rfl) ?_
              refine s_p rfl (y_move rfl) ?_
              refine s_p rfl (y_move rfl) ?_
              refine s_call rfl rfl H fun rv Sx_5 H2 => ?_
              clear H
              obtain ⟨t_3, rfl, H⟩ := H2
              refine s_p rfl (y_len rfl) ?_
              refine s_p rfl (y_eql rfl rfl) ?_
              refine s_p rfl (y_pick rfl rfl) ?_
              refine s_p rfl (y_assign rfl) ?_
              refine s_nil (q_then ?_)
              refine c_ret ?_
              exact q_ret Try.results7 (rv_tmp rfl rv_nil) ⟨_, rfl, H⟩
            · refine s_p rfl (yB (y_eqA rfl rfl c_6 rfl) (bf_of c_8)) ?_
              refine s_p rfl (y_pick rfl rfl) ?_
              refine s_p rfl (y_move rfl) ?_
              refine s_skip rfl ?_
              refine s_skip rfl ?_
              refine s_skip rfl ?_
              refine s_skip rfl ?_
              refine s_p rfl (y_pick rfl rfl) ?_
              refine s_p rfl (y_assign rfl) ?_
              refine s_nil (q_then ?_)
              refine c_ret ?_
              exact q_ret Try.results7 (rv_tmp rfl rv_nil) ⟨_, rfl, H⟩
          · refine s_p rfl (yF (y_eql rfl rfl) c_3) ?_
            refine s_p rfl (y_pick rfl rfl) ?_
            refine s_p rfl (y_move rfl) ?_
            refine s_skip rfl ?_
            refine s_skip rfl ?_
            refine s_skip rfl ?_
            refine s_skip rfl ?_
            refine s_skip rfl ?_
            refine s_skip rfl ?_
            refine s_skip rfl ?_
            refine s_skip rfl ?_
            refine s_p rfl (y_pick rfl rfl) ?_
            refine s_p rfl (y_move rfl) ?_
            refine s_skip rfl ?_
            refine s_skip rfl ?_
            refine s_skip rfl ?_
            refine s_skip rfl ?_
            refine s_p rfl (y_pick rfl rfl) ?_
            refine s_p rfl (y_assign rfl) ?_
            refine s_nil (q_then ?_)
            refine c_ret ?_
            exact q_ret Try.results7 (rv_tmp rfl rv_nil) ⟨_, rfl, H⟩
      · clear H
        intro Jx hJx H
        refine c_region ?_
        refine s_p rfl (y_move rfl) ?_
        replace H := ite_e H
        rcases H with ⟨c_9, H⟩ | ⟨c_9, H⟩
        · refine s_p rfl (yT (y_gtr rfl rfl) c_9) ?_
          refine s_p rfl (y_move rfl) ?_
          refine s_p rfl (y_move rfl) ?_
          refine s_p rfl (y_move rfl) ?_
          refine s_p rfl (y_sub rfl rfl) ?_
          refine s_call rfl rfl H fun rv Sx_6 H2 => ?_
          clear H
          obtain ⟨t_4, rfl, H⟩ := H2
          refine s_p rfl (y_len rfl) ?_
          replace H := ite_e H
          rcases H with ⟨c_10, H⟩ | ⟨c_10, H⟩
          · refine s_p rfl (yT (y_gtr rfl rfl) c_10) ?_
            refine s_p rfl (y_pick rfl rfl) ?_
            refine s_p rfl (y_assign rfl) ?_
            refine s_nil ?_
            exact hJx true _ _ _ _ [] H rfl ⟨rfl, rfl, rfl, rfl, rfl, True.intro⟩ rfl
          · refine s_p rfl (yF (y_gtr rfl rfl) c_10) ?_
            refine s_p rfl (y_pick rfl rfl) ?_
            refine s_p rfl (y_assign rfl) ?_
            refine s_nil ?_
            exact hJx false _ _ _ _ [] H rfl ⟨rfl, rfl, rfl, rfl, rfl, True.intro⟩ rfl
        · refine s_p rfl (yF (y_gtr rfl rfl) c_9) ?_
          refine s_p rfl (y_move rfl) ?_
          refine s_skip rfl ?_
          refine s_skip rfl ?_
          refine s_skip rfl ?_
          refine s_skip rfl ?_
          refine s_skip rfl ?_
          refine s_skip rfl ?_
          refine s_p rfl (y_pick rfl rfl) ?_
          refine s_p rfl (y_assign rfl) ?_
          refine s_nil ?_
          exact hJx false _ _ _ _ [] H rfl ⟨rfl, rfl, rfl, rfl, rfl, True.intro⟩ rfl
    · clear H
      intro Jx_1 hJx_1 H
      refine c_seq ?_
      refine c_region ?_
      refine s_p rfl (y_assign rfl) ?_
      refine s_nil (q_then ?_)
      refine c_block ?_
      refine c_loop (fun z => ⟨91, [(2, eL times), (7, .pointer (some ⟨b, 0, none⟩)), (8, .int .i64 (IntKind.i64.wrap (Int.tmod vm 6))), (9, .int .i64 (IntKind.i64.wrap (Int.tmod seat 3))), (10, .int .i64 z)]⟩) (fun z => []) 0 (idx := []) H rfl ⟨rfl, rfl, rfl, rfl, rfl, True.intro⟩ rfl ?_
      clear H
      rintro Xx hXx i Sx_7 H
      refine c_join2 H (fun (J : Mem → Prop) (z : Unit) S => J S) (fun z => ⟨91, [(2, eL times), (7, .pointer (some ⟨b, 0, none⟩)), (8, .int .i64 (IntKind.i64.wrap (Int.tmod vm 6))), (9, .int .i64 (IntKind.i64.wrap (Int.tmod seat 3))), (10, .int .i64 i)]⟩) (fun z => []) ?_ ?_
      · clear H
        rintro _ Sx_8 H
        refine c_seq ?_
        refine c_block ?_
        refine c_region ?_
        refine s_p rfl (y_move rfl) ?_
        refine s_p rfl (y_move rfl) ?_
        refine s_p rfl (y_move rfl) ?_
        refine s_p rfl (y_move rfl) ?_
        refine s_p rfl (y_move rfl) ?_
        obtain ⟨b_3, o_2, n_4, n_5, rfl, H⟩ := H
        obtain ⟨c_11, c_12, H⟩ := H
        refine s_p rfl (y_ixL rfl rfl c_11 c_12 rfl) ?_
        obtain ⟨t_5, ht_5, H⟩ := H
        refine s_v rfl (y_ld rfl) (hc_S ht_5) ?_
        refine s_call rfl rfl H fun rv Sx_9 H2 => ?_
        clear H
        obtain ⟨t_6, rfl, H⟩ := H2
        refine s_nil (q_blk (q_then ?_))
        refine c_region ?_
        refine s_p rfl (y_move rfl) ?_
        refine s_p rfl (y_add rfl rfl) ?_
        refine s_p rfl (y_assign rfl) ?_
        refine s_nil ?_
        exact hXx (IntKind.i64.wrap (i + 1)) _ _ _ _ [] H rfl ⟨rfl, rfl, rfl, rfl, rfl, True.intro⟩ rfl
      · clear H
        intro Jx_2 hJx_2 H
        refine c_seq ?_
        refine c_region ?_
        refine s_p rfl (y_move rfl) ?_
        refine s_p rfl (y_move rfl) ?_
        refine s_p rfl (y_len rfl) ?_
        replace H := ite_e H
        rcases H with ⟨c_13, H⟩ | ⟨c_13, H⟩
        · refine s_p rfl (yT (y_lss rfl rfl) c_13) ?_
          refine s_nil (q_then ?_)
          refine c_t rfl rfl ?_
          refine c_skip ?_
          exact hJx_2 () _ _ _ _ [] H rfl ⟨rfl, rfl, rfl, rfl, rfl, True.intro⟩ rfl
        · refine s_p rfl (yF (y_lss rfl rfl) c_13) ?_
          refine s_nil (q_then ?_)
          refine c_f rfl rfl ?_
          refine c_exit (q_then_exit (q_then_exit (q_blk_out ?_)))
          exact hJx_1 () _ _ _ _ [] H rfl ⟨rfl, rfl, rfl, rfl, True.intro⟩ rfl
  · clear H
    intro Jx_3 hJx_3 H
    refine c_seq ?_
    refine c_region ?_
    refine s_call rfl rfl H fun rv Sx_10 H2 => ?_
    clear H
    obtain ⟨t_7, rfl, H⟩ := H2
    replace H := ib_e H
    rcases H with ⟨rfl, H⟩ | ⟨rfl, H⟩
    · skip
      refine s_p rfl (yB (y_not rfl) rfl) ?_
      refine s_p rfl (y_move rfl) ?_
      refine s_p rfl (y_move rfl) ?_
      refine s_p rfl (y_len rfl) ?_
      replace H := ite_e H
      rcases H with ⟨c_14, H⟩ | ⟨c_14, H⟩
      · refine s_p rfl (yT (y_eql rfl rfl) c_14) ?_
        refine s_p rfl (y_pick rfl rfl) ?_
        refine s_p rfl (y_move rfl) ?_
        refine s_skip rfl ?_
        refine s_skip rfl ?_
        refine s_skip rfl ?_
        refine s_p rfl (y_pick rfl rfl) ?_
        refine s_nil (q_then ?_)
        refine c_t rfl rfl ?_
        refine c_seq ?_
        refine c_region ?_
        refine s_call rfl rfl H fun rv Sx_11 H2 => ?_
        clear H
        obtain ⟨t_8, rfl, H⟩ := H2
        refine s_p rfl (y_assign rfl) ?_
        refine s_nil (q_then ?_)
        refine c_ret (q_then_ret ?_)
        exact q_ret Try.results7 (rv_tmp rfl rv_nil) ⟨_, rfl, H⟩
      · refine s_p rfl (yF (y_eql rfl rfl) c_14) ?_
        refine s_p rfl (y_pick rfl rfl) ?_
        refine s_p rfl (y_move rfl) ?_
        refine s_p rfl (y_move rfl) ?_
        refine s_p rfl (y_len rfl) ?_
        replace H := ite_e H
        rcases H with ⟨c_15, H⟩ | ⟨c_15, H⟩
        · refine s_p rfl (yT (y_gtr rfl rfl) c_15) ?_
          refine s_p rfl (y_pick rfl rfl) ?_
          refine s_nil (q_then ?_)
          refine c_t rfl rfl ?_
          refine c_seq ?_
          refine c_region ?_
          refine s_call rfl rfl H fun rv Sx_12 H2 => ?_
          clear H
          obtain ⟨t_9, rfl, H⟩ := H2
          refine s_p rfl (y_assign rfl) ?_
          refine s_nil (q_then ?_)
          refine c_ret (q_then_ret ?_)
          exact q_ret Try.results7 (rv_tmp rfl rv_nil) ⟨_, rfl, H⟩
        · refine s_p rfl (yF (y_gtr rfl rfl) c_15) ?_
          refine s_p rfl (y_pick rfl rfl) ?_
          refine s_nil (q_then ?_)
          refine c_f rfl rfl ?_
          refine c_skip ?_
          exact hJx_3 () _ _ _ _ [] H rfl ⟨rfl, rfl, rfl, True.intro⟩ rfl
    · skip
      refine s_p rfl (yB (y_not rfl) rfl) ?_
      refine s_p rfl (y_move rfl) ?_
      refine s_skip rfl ?_
      refine s_skip rfl ?_
      refine s_skip rfl ?_
      refine s_p rfl (y_pick rfl rfl) ?_
      refine s_p rfl (y_move rfl) ?_
      refine s_skip rfl ?_
      refine s_skip rfl ?_
      refine s_skip rfl ?_
      refine s_p rfl (y_pick rfl rfl) ?_
      refine s_nil (q_then ?_)
      refine c_t rfl rfl ?_
      refine c_seq ?_
      refine c_region ?_
      refine s_call rfl rfl H fun rv Sx_13 H2 => ?_
      clear H
      obtain ⟨t_10, rfl, H⟩ := H2
      refine s_p rfl (y_assign rfl) ?_
      refine s_nil (q_then ?_)
      refine c_ret (q_then_ret ?_)
      exact q_ret Try.results7 (rv_tmp rfl rv_nil) ⟨_, rfl, H⟩
end Go.Proofs.Ytpilffakhkagjaa
