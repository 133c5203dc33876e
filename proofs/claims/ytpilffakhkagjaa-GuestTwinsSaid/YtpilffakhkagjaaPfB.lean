/- PRINTED BY pt.py: functions. -/
import Derived.Test.YtpilffakhkagjaaPtS
namespace Go.Proofs.Ytpilffakhkagjaa
open Go Go.Pt
attribute [local irreducible] Code.wp Back bodyPost wpList FR WL WC WQ WA AW Tr Yc HC AllC
set_option maxRecDepth 20000
set_option maxHeartbeats 4000000
set_option linter.unusedVariables false
def b_alarm_Clock_Shift (S : Mem) (c : Pt) (byx : Int) (Q : Mem → Prop) : Prop :=
  jn (fun (Sx : Mem) =>
      jn (fun (Sx_1 : Mem) =>
          nn c fun b o =>
          heap_Init Sx_1 (.iface 148 (.pointer (some ⟨b, o, none⟩))) fun Sx_2 =>
          Q Sx_2) fun Jx =>
      nn c fun b_1 o_1 =>
      gL (Sx.cell b_1 o_1) fun t =>
      lp (fun Xx (t_1 : Int) (Sx_3 : Mem) =>
          if t_1 < (t.n : Int) then
            gL (Sx_3.cell b_1 o_1) fun t_2 =>
            sl t_2 fun b_2 o_2 n n_1 =>
            0 ≤ t_1 ∧ t_1 < ((n : Nat) : Int) ∧
            gI (Sx_3.cell b_2 (o_2 + t_1.toNat * 3)) .u64 fun t_3 =>
            gL (Sx_3.cell b_1 o_1) fun t_4 =>
            sl t_4 fun b_3 o_3 n_2 n_3 =>
            0 ≤ t_1 ∧ t_1 < ((n_2 : Nat) : Int) ∧
            gI (Sx_3.cell b_3 (o_3 + t_1.toNat * 3)) .u64 fun t_5 =>
            0 ≤ t_1 ∧ t_1 < ((n : Nat) : Int) ∧
            pt Sx_3 b_2 (o_2 + t_1.toNat * 3) 1 ([.int .u64 (IntKind.u64.wrap (t_3 + (if ineg .u64 t_5 < byx then ineg .u64 t_5 else byx)))]) fun Sx_4 =>
            Xx (IntKind.i64.wrap (t_1 + 1)) Sx_4
          else
          Jx Sx_3) 0 Sx) fun Jx_1 =>
  if c = none then
    Q S
  else
  Jx_1 S
theorem t_alarm_Clock_Shift {S : Mem} {c : Pt} {byx : Int} {Q : Mem → Prop} (H : b_alarm_Clock_Shift S c byx Q) : alarm_Clock_Shift S c byx Q := by
  unfold b_alarm_Clock_Shift at H
  refine Tr.intro Try.func26 rfl Try.ntmps26 rfl fun w0 => ?_
  refine c_join2 H (fun (J : Mem → Prop) (z : Unit) S => J S) (fun z => ⟨43, [(0, eP c), (1, .int .u64 byx)]⟩) (fun z => []) ?_ ?_
  · clear H
    rintro _ Sx H
    refine c_join2 H (fun (J : Mem → Prop) (z : Unit) S => J S) (fun z => ⟨43, [(0, eP c)]⟩) (fun z => []) ?_ ?_
    · clear H
      rintro _ Sx_1 H
      refine c_region ?_
      refine s_p rfl (y_move rfl) ?_
      obtain ⟨b, o, rfl, H⟩ := H
      refine s_p rfl (y_nc rfl) ?_
      refine s_p rfl (y_fa rfl rfl) ?_
      refine s_p rfl (y_iface rfl) ?_
      refine s_call rfl rfl H fun rv Sx_2 H2 => ?_
      clear H
      obtain ⟨rfl, H⟩ := H2
      refine s_nil ?_
      exact q_end Try.results26 (rv_nil) ⟨rfl, H⟩
    · clear H
      intro Jx hJx H
      refine c_seq ?_
      refine c_region ?_
      refine s_p rfl (y_move rfl) ?_
      obtain ⟨b_1, o_1, rfl, H⟩ := H
      refine s_p rfl (y_nc rfl) ?_
      refine s_p rfl (y_fa rfl rfl) ?_
      obtain ⟨t, ht, H⟩ := H
      refine s_v rfl (y_ld rfl) (hc_S ht) ?_
      refine s_p rfl (y_len rfl) ?_
      refine s_p rfl (y_move rfl) ?_
      refine s_nil (q_then ?_)
      refine c_block ?_
      refine c_loop (fun z => ⟨43, [(0, .pointer (some ⟨b_1, o_1, none⟩)), (1, .int .u64 byx), (11, .int .i64 (t.n : Int)), (12, .int .i64 z)]⟩) (fun z => []) 0 (idx := []) H rfl ⟨rfl, rfl, rfl, rfl, True.intro⟩ rfl ?_
      clear H
      rintro Xx hXx t_1 Sx_3 H
      refine c_seq ?_
      refine c_region ?_
      replace H := ite_e H
      rcases H with ⟨c_1, H⟩ | ⟨c_1, H⟩
      · refine s_p rfl (yT (y_lss rfl rfl) c_1) ?_
        refine s_nil (q_then ?_)
        refine c_seq ?_
        refine c_t rfl rfl ?_
        refine c_skip (q_then ?_)
        refine c_seq ?_
        refine c_block ?_
        refine c_seq ?_
        refine c_region ?_
        refine s_p rfl (y_move rfl) ?_
        refine s_p rfl (y_assign rfl) ?_
        refine s_nil (q_then ?_)
        refine c_drawn (by kernel_rfl) ?_
        refine a_takeP 0 rfl (by decide +kernel) (np_blk (np_then (np_then (np_blk (np_then np_body))))) rfl (y_move rfl) ?_
        refine a_takeP 1 rfl (by decide +kernel) (np_blk (np_then (np_then (np_blk (np_then np_body))))) rfl (y_nc rfl) ?_
        refine a_takeP 2 rfl (by decide +kernel) (np_blk (np_then (np_then (np_blk (np_then np_body))))) rfl (y_fa rfl rfl) ?_
        obtain ⟨t_2, ht_2, H⟩ := H
        refine a_take 3 rfl (by decide +kernel) (np_blk (np_then (np_then (np_blk (np_then np_body))))) rfl (y_ld rfl) (hc_S ht_2) ?_
        refine a_takeP 4 rfl (by decide +kernel) (np_blk (np_then (np_then (np_blk (np_then np_body))))) rfl (y_move rfl) ?_
        obtain ⟨b_2, o_2, n, n_1, rfl, H⟩ := H
        obtain ⟨c_2, c_3, H⟩ := H
        refine a_takeP 5 rfl (by decide +kernel) (np_blk (np_then (np_then (np_blk (np_then np_body))))) rfl (y_ixL rfl rfl c_2 c_3 rfl) ?_
        refine a_takeP 6 rfl (by decide +kernel) (np_blk (np_then (np_then (np_blk (np_then np_body))))) rfl (y_fa rfl rfl) ?_
        obtain ⟨t_3, ht_3, H⟩ := H
        refine a_take 7 rfl (by decide +kernel) (np_blk (np_then (np_then (np_blk (np_then np_body))))) rfl (y_ld rfl) (hc_S ht_3) ?_
        refine a_takeP 8 rfl (by decide +kernel) (np_blk (np_then (np_then (np_blk (np_then np_body))))) rfl (y_move rfl) ?_
        refine a_takeP 9 rfl (by decide +kernel) (np_blk (np_then (np_then (np_blk (np_then np_body))))) rfl (y_move rfl) ?_
        refine a_takeP 10 rfl (by decide +kernel) (np_blk (np_then (np_then (np_blk (np_then np_body))))) rfl (y_nc rfl) ?_
        refine a_takeP 11 rfl (by decide +kernel) (np_blk (np_then (np_then (np_blk (np_then np_body))))) rfl (y_fa rfl rfl) ?_
        obtain ⟨t_4, ht_4, H⟩ := H
        refine a_take 12 rfl (by decide +kernel) (np_blk (np_then (np_then (np_blk (np_then np_body))))) rfl (y_ld rfl) (hc_S ht_4) ?_
        refine a_takeP 13 rfl (by decide +kernel) (np_blk (np_then (np_then (np_blk (np_then np_body))))) rfl (y_move rfl) ?_
        obtain ⟨b_3, o_3, n_2, n_3, rfl, H⟩ := H
        obtain ⟨c_4, c_5, H⟩ := H
        refine a_takeP 14 rfl (by decide +kernel) (np_blk (np_then (np_then (np_blk (np_then np_body))))) rfl (y_ixL rfl rfl c_4 c_5 rfl) ?_
        refine a_takeP 15 rfl (by decide +kernel) (np_blk (np_then (np_then (np_blk (np_then np_body))))) rfl (y_fa rfl rfl) ?_
        obtain ⟨t_5, ht_5, H⟩ := H
        refine a_take 16 rfl (by decide +kernel) (np_blk (np_then (np_then (np_blk (np_then np_body))))) rfl (y_ld rfl) (hc_S ht_5) ?_
        refine a_takeP 17 rfl (by decide +kernel) (np_blk (np_then (np_then (np_blk (np_then np_body))))) rfl (y_cpl rfl) ?_
        refine a_takeP 18 rfl (by decide +kernel) (np_blk (np_then (np_then (np_blk (np_then np_body))))) rfl (y_min rfl rfl) ?_
        refine a_takeP 19 rfl (by decide +kernel) (np_blk (np_then (np_then (np_blk (np_then np_body))))) rfl (y_add rfl rfl) ?_
        obtain ⟨c_6, c_7, H⟩ := H
        refine a_takeP 20 rfl (by decide +kernel) (np_blk (np_then (np_then (np_blk (np_then np_body))))) rfl (y_ixL rfl rfl c_6 c_7 rfl) ?_
        refine a_takeP 21 rfl (by decide +kernel) (np_blk (np_then (np_then (np_blk (np_then np_body))))) rfl (y_fa rfl rfl) ?_
        refine a_step 22 (by decide +kernel) rfl ?_
        obtain ⟨c_8, H⟩ := H
        refine s_stS rfl rfl rfl rfl rfl c_8 rfl ?_
        refine s_nil (q_any ac_nil ?_)
        refine a_done (by decide +kernel) ?_
        refine q_blk (q_then ?_)
        refine c_region ?_
        refine s_p rfl (y_add rfl rfl) ?_
        refine s_p rfl (y_move rfl) ?_
        refine s_nil ?_
        exact hXx (IntKind.i64.wrap (t_1 + 1)) _ _ _ _ [] H rfl ⟨rfl, rfl, rfl, rfl, True.intro⟩ rfl
      · refine s_p rfl (yF (y_lss rfl rfl) c_1) ?_
        refine s_nil (q_then ?_)
        refine c_seq ?_
        refine c_f rfl rfl ?_
        refine c_exit (q_then_exit (q_then_exit (q_blk_out ?_)))
        exact hJx () _ _ _ _ [] H rfl ⟨rfl, True.intro⟩ rfl
  · clear H
    intro Jx_1 hJx_1 H
    refine c_seq ?_
    refine c_region ?_
    refine s_p rfl (y_move rfl) ?_
    replace H := ite_e H
    rcases H with ⟨c_9, H⟩ | ⟨c_9, H⟩
    · refine s_p rfl (yT (y_pnil (p := c) rfl rfl) c_9) ?_
      refine s_nil (q_then ?_)
      refine c_t rfl rfl ?_
      refine c_ret (q_then_ret ?_)
      exact q_ret Try.results26 (rv_nil) ⟨rfl, H⟩
    · refine s_p rfl (yF (y_pnil (p := c) rfl rfl) c_9) ?_
      refine s_nil (q_then ?_)
      refine c_f rfl rfl ?_
      refine c_skip ?_
      exact hJx_1 () _ _ _ _ [] H rfl ⟨rfl, rfl, True.intro⟩ rfl
def b_alarm_Clock_All_f1 (S : Mem) (a : List Value) (b : List Value) (Q : Int → Mem → Prop) : Prop :=
  a.length = 3 ∧
  b.length = 3 ∧
  alarm_Alarm_before S a b fun t Sx =>
  if t = true then
    Q (-1) Sx
  else
  alarm_Alarm_before Sx b a fun t_1 Sx_1 =>
  if t_1 = true then
    Q 1 Sx_1
  else
  Q 0 Sx_1
theorem t_alarm_Clock_All_f1 {S : Mem} {a : List Value} {b : List Value} {Q : Int → Mem → Prop} (H : b_alarm_Clock_All_f1 S a b Q) : alarm_Clock_All_f1 S a b Q := by
  unfold b_alarm_Clock_All_f1 at H
  refine Tr.intro Try.func68 rfl Try.ntmps68 rfl fun w0 => ?_
  obtain ⟨ha, H⟩ := H
  obtain ⟨hb, H⟩ := H
  refine c_seq ?_
  refine c_region ?_
  refine s_box rfl rfl rfl fun b_1 => ?_
  refine s_box rfl rfl rfl fun b_2 => ?_
  refine s_p rfl (y_assign rfl) ?_
  refine s_nil (q_then ?_)
  refine c_seq ?_
  refine c_block ?_
  refine c_seq ?_
  refine c_region ?_
  refine s_v rfl (y_ldA rfl ha) (hc_VP (k := 3) 0 rfl (lpart_all ha)) ?_
  refine s_v rfl (y_ldA rfl hb) (hc_VP (k := 3) 1 rfl (lpart_all hb)) ?_
  refine s_call rfl rfl H fun rv Sx H2 => ?_
  clear H
  obtain ⟨t, rfl, H⟩ := H2
  replace H := ib_e H
  rcases H with ⟨rfl, H⟩ | ⟨rfl, H⟩
  · skip
    refine s_p rfl (y_assign rfl) ?_
    refine s_nil (q_then ?_)
    refine c_t rfl rfl ?_
    refine c_seq ?_
    refine c_region ?_
    refine s_p rfl (y_assign rfl) ?_
    refine s_nil (q_then ?_)
    refine c_ret (q_blk_ret (q_then_ret ?_))
    exact q_ret Try.results68 (rv_tmp rfl rv_nil) ⟨_, rfl, H⟩
  · skip
    refine s_p rfl (y_assign rfl) ?_
    refine s_nil (q_then ?_)
    refine c_f rfl rfl ?_
    refine c_seq ?_
    refine c_region ?_
    refine s_v rfl (y_ldA rfl hb) (hc_VP (k := 3) 1 rfl (lpart_all hb)) ?_
    refine s_v rfl (y_ldA rfl ha) (hc_VP (k := 3) 0 rfl (lpart_all ha)) ?_
    refine s_call rfl rfl H fun rv Sx_1 H2 => ?_
    clear H
    obtain ⟨t_1, rfl, H⟩ := H2
    replace H := ib_e H
    rcases H with ⟨rfl, H⟩ | ⟨rfl, H⟩
    · skip
      refine s_p rfl (y_assign rfl) ?_
      refine s_nil (q_then ?_)
      refine c_t rfl rfl ?_
      refine c_seq ?_
      refine c_region ?_
      refine s_p rfl (y_assign rfl) ?_
      refine s_nil (q_then ?_)
      refine c_ret (q_blk_ret (q_then_ret ?_))
      exact q_ret Try.results68 (rv_tmp rfl rv_nil) ⟨_, rfl, H⟩
    · skip
      refine s_p rfl (y_assign rfl) ?_
      refine s_nil (q_then ?_)
      refine c_f rfl rfl ?_
      refine c_skip (q_blk (q_then ?_))
      refine c_seq ?_
      refine c_region ?_
      refine s_p rfl (y_assign rfl) ?_
      refine s_nil (q_then ?_)
      refine c_ret ?_
      exact q_ret Try.results68 (rv_tmp rfl rv_nil) ⟨_, rfl, H⟩
def b_alarm_Clock_All (S : Mem) (c : Pt) (Q : Sl → Mem → Prop) : Prop :=
  jn (fun (Sx : Mem) =>
      nn c fun b o =>
      gL (Sx.cell b o) fun t =>
      slices_Clone_alarm_Alarm_alarm_Alarm Sx t fun t_1 Sx_1 =>
      slices_SortFunc_alarm_Alarm_alarm_Alarm Sx_1 t_1 (.func (.func 68) #[] #[]) fun Sx_2 =>
      Q t_1 Sx_2) fun Jx =>
  if c = none then
    Q (⟨none, 0, 0⟩) S
  else
  Jx S
theorem t_alarm_Clock_All {S : Mem} {c : Pt} {Q : Sl → Mem → Prop} (H : b_alarm_Clock_All S c Q) : alarm_Clock_All S c Q := by
  unfold b_alarm_Clock_All at H
  refine Tr.intro Try.func40 rfl Try.ntmps40 rfl fun w0 => ?_
  refine c_seq ?_
  refine c_region ?_
  refine s_p rfl (y_assign rfl) ?_
  refine s_nil (q_then ?_)
  refine c_join2 H (fun (J : Mem → Prop) (z : Unit) S => J S) (fun z => ⟨14, [(0, eP c)]⟩) (fun z => []) ?_ ?_
  · clear H
    rintro _ Sx H
    refine c_seq ?_
    refine c_region ?_
    refine s_p rfl (y_move rfl) ?_
    obtain ⟨b, o, rfl, H⟩ := H
    refine s_p rfl (y_nc rfl) ?_
    refine s_p rfl (y_fa rfl rfl) ?_
    obtain ⟨t, ht, H⟩ := H
    refine s_v rfl (y_ld rfl) (hc_S ht) ?_
    refine s_call rfl rfl H fun rv Sx_1 H2 => ?_
    clear H
    obtain ⟨t_1, rfl, H⟩ := H2
    refine s_p rfl (y_assign rfl) ?_
    refine s_nil (q_then ?_)
    refine c_seq ?_
    refine c_region ?_
    refine s_p rfl (y_move rfl) ?_
    refine s_call rfl rfl H fun rv Sx_2 H2 => ?_
    clear H
    obtain ⟨rfl, H⟩ := H2
    refine s_nil (q_then ?_)
    refine c_seq ?_
    refine c_region ?_
    refine s_p rfl (y_move rfl) ?_
    refine s_p rfl (y_assign rfl) ?_
    refine s_nil (q_then ?_)
    refine c_ret ?_
    exact q_ret Try.results40 (rv_tmp rfl rv_nil) ⟨_, rfl, H⟩
  · clear H
    intro Jx hJx H
    refine c_seq ?_
    refine c_region ?_
    refine s_p rfl (y_move rfl) ?_
    replace H := ite_e H
    rcases H with ⟨c_1, H⟩ | ⟨c_1, H⟩
    · refine s_p rfl (yT (y_pnil (p := c) rfl rfl) c_1) ?_
      refine s_nil (q_then ?_)
      refine c_t rfl rfl ?_
      refine c_seq ?_
      refine c_region ?_
      refine s_p rfl (y_assign rfl) ?_
      refine s_nil (q_then ?_)
      refine c_ret (q_then_ret ?_)
      exact q_ret Try.results40 (rv_tmp rfl rv_nil) ⟨_, rfl, H⟩
    · refine s_p rfl (yF (y_pnil (p := c) rfl rfl) c_1) ?_
      refine s_nil (q_then ?_)
      refine c_f rfl rfl ?_
      refine c_skip ?_
      exact hJx () _ _ _ _ [] H rfl ⟨rfl, True.intro⟩ rfl
end Go.Proofs.Ytpilffakhkagjaa
