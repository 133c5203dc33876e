/- PRINTED BY pt.py: functions. -/
import Derived.Test.YtpilffakhkagjaaPtS
namespace Go.Proofs.Ytpilffakhkagjaa
open Go Go.Pt
attribute [local irreducible] Code.wp Back bodyPost wpList FR WL WC WQ WA AW Tr Yc HC AllC
set_option maxRecDepth 20000
set_option maxHeartbeats 4000000
set_option linter.unusedVariables false
def b_guest_Make (S : Mem) (seats : Int) (quota : Int) (Q : List Value → Int → Mem → Prop) : Prop :=
  jn (fun (v : List Value) (Sx : Mem) =>
      v.length = 12 ∧
      guest_Blank Sx fun t Sx_1 =>
      (spl (spl (spl ([.bool false, .slice (none) 0 0, .int .i64 0, .slice (none) 0 0, .int .i64 0, .int .u64 0, .slice (none) 0 0, .slice (none) 0 0, .slice (none) 0 0, .slice (none) 0 0, .slice (none) 0 0, .int .u32 0]) 0 [.bool true]) 4 [.int .i64 quota]) 7 t).all (·.oneCell') = true ∧
      jn (fun (v_1 : List Value) (Sx_2 : Mem) =>
          v_1.length = 12 ∧
          v_1.all (·.oneCell') = true ∧
          Q v_1 0 Sx_2) fun Jx =>
      lp (fun Xx (z : Int × List Value) (Sx_3 : Mem) =>
          match z with
          | (t_1, v_2) =>
            v_2.length = 12 ∧
            if t_1 < seats then
              gL (nthL v_2 1) fun t_2 =>
              seat_New Sx_3 fun t_3 Sx_4 =>
              t_3.all (·.oneCell') = true ∧
              ap Sx_4 72 26 192 z72 t_2 1 t_3 fun t_4 Sx_5 =>
              Xx (IntKind.i64.wrap (t_1 + 1), spl v_2 1 ([eL t_4])) Sx_5
            else
            Jx v_2 Sx_3) (0, spl (spl (spl ([.bool false, .slice (none) 0 0, .int .i64 0, .slice (none) 0 0, .int .i64 0, .int .u64 0, .slice (none) 0 0, .slice (none) 0 0, .slice (none) 0 0, .slice (none) 0 0, .slice (none) 0 0, .int .u32 0]) 0 [.bool true]) 4 [.int .i64 quota]) 7 t) Sx_1) fun Jx_1 =>
  if seats < 1 then
    Q ([.bool false, .slice (none) 0 0, .int .i64 0, .slice (none) 0 0, .int .i64 0, .int .u64 0, .slice (none) 0 0, .slice (none) 0 0, .slice (none) 0 0, .slice (none) 0 0, .slice (none) 0 0, .int .u32 0]) 1 S
  else
  if 3 < seats then
    Q ([.bool false, .slice (none) 0 0, .int .i64 0, .slice (none) 0 0, .int .i64 0, .int .u64 0, .slice (none) 0 0, .slice (none) 0 0, .slice (none) 0 0, .slice (none) 0 0, .slice (none) 0 0, .int .u32 0]) 1 S
  else
  if quota < 1 then
    Q ([.bool false, .slice (none) 0 0, .int .i64 0, .slice (none) 0 0, .int .i64 0, .int .u64 0, .slice (none) 0 0, .slice (none) 0 0, .slice (none) 0 0, .slice (none) 0 0, .slice (none) 0 0, .int .u32 0]) 1 S
  else
  if 32 < quota then
    Q ([.bool false, .slice (none) 0 0, .int .i64 0, .slice (none) 0 0, .int .i64 0, .int .u64 0, .slice (none) 0 0, .slice (none) 0 0, .slice (none) 0 0, .slice (none) 0 0, .slice (none) 0 0, .int .u32 0]) 1 S
  else
  Jx_1 ([.bool false, .slice (none) 0 0, .int .i64 0, .slice (none) 0 0, .int .i64 0, .int .u64 0, .slice (none) 0 0, .slice (none) 0 0, .slice (none) 0 0, .slice (none) 0 0, .slice (none) 0 0, .int .u32 0]) S
theorem t_guest_Make {S : Mem} {seats : Int} {quota : Int} {Q : List Value → Int → Mem → Prop} (H : b_guest_Make S seats quota Q) : guest_Make S seats quota Q := by
  unfold b_guest_Make at H
  refine Tr.intro Try.func11 rfl Try.ntmps11 rfl fun w0 => ?_
  refine c_seq ?_
  refine c_region ?_
  refine s_alloc rfl fun b => ?_
  refine s_p rfl (y_assign rfl) ?_
  refine s_nil (q_then ?_)
  refine c_join2 H (fun (J : List Value → Mem → Prop) (z : List Value) S => J z S) (fun z => ⟨36, [(0, .int .i64 seats), (1, .int .i64 quota), (4, .pointer (some ⟨b, 0, none⟩))]⟩) (fun z => [⟨b, 31, z⟩]) ?_ ?_
  · clear H
    rintro v Sx H
    obtain ⟨hv, H⟩ := H
    refine c_seq ?_
    refine c_region ?_
    refine s_p rfl (y_move rfl) ?_
    refine s_call rfl rfl H fun rv Sx_1 H2 => ?_
    clear H
    obtain ⟨t, rfl, ht, H⟩ := H2
    refine s_p rfl (y_build rfl (fill_cons (off := 0) (size := 1) rfl rfl (fit_of (n := 12) rfl (by decide)) (fill_cons (off := 4) (size := 1) rfl rfl (fit_of (n := 12) (spl_at (m := 1) rfl rfl (by decide)) (by decide)) (fill_cons (off := 7) (size := 4) rfl ht (fit_of (n := 12) (spl_at (m := 1) (spl_at (m := 1) rfl rfl (by decide)) rfl (by decide)) (by decide)) fill_nil)))) ?_
    refine s_alloc rfl fun b_1 => ?_
    obtain ⟨c, H⟩ := H
    refine s_stV_all 1 rfl rfl rfl rfl rfl (spl_at (m := 4) (spl_at (m := 1) (spl_at (m := 1) rfl rfl (by decide)) rfl (by decide)) ht (by decide)) rfl c ?_
    refine s_nil (q_then ?_)
    refine c_join2 H (fun (J : List Value → Mem → Prop) (z : List Value) S => J z S) (fun z => ⟨36, [(4, .pointer (some ⟨b, 0, none⟩)), (6, .pointer (some ⟨b_1, 0, none⟩))]⟩) (fun z => [⟨b, 31, v⟩, ⟨b_1, 31, z⟩]) ?_ ?_
    · clear H
      rintro v_1 Sx_2 H
      obtain ⟨hv_1, H⟩ := H
      refine c_seq ?_
      refine c_region ?_
      refine s_v rfl (y_ldA rfl hv_1) (hc_VP (k := 12) 1 rfl (lpart_all hv_1)) ?_
      obtain ⟨c_1, H⟩ := H
      refine s_stV_all 0 rfl rfl rfl rfl rfl hv_1 hv c_1 ?_
      refine s_p rfl (y_assign rfl) ?_
      refine s_nil (q_then ?_)
      refine c_ret ?_
      exact q_ret Try.results11 (rv_cellA rfl (hc_VP (k := 12) 0 rfl (lpart_all hv_1)) hv_1 (rv_tmp rfl rv_nil)) ⟨_, _, rfl, hv_1, H⟩
    · clear H
      intro Jx hJx H
      refine c_seq ?_
      refine c_region ?_
      refine s_p rfl (y_move rfl) ?_
      refine s_p rfl (y_move rfl) ?_
      refine s_nil (q_then ?_)
      refine c_block ?_
      refine c_loop (fun z => ⟨36, [(4, .pointer (some ⟨b, 0, none⟩)), (6, .pointer (some ⟨b_1, 0, none⟩)), (25, .int .i64 seats), (26, .int .i64 z.1)]⟩) (fun z => [⟨b, 31, v⟩, ⟨b_1, 31, z.2⟩]) (0, spl (spl (spl ([.bool false, .slice (none) 0 0, .int .i64 0, .slice (none) 0 0, .int .i64 0, .int .u64 0, .slice (none) 0 0, .slice (none) 0 0, .slice (none) 0 0, .slice (none) 0 0, .slice (none) 0 0, .int .u32 0]) 0 [.bool true]) 4 [.int .i64 quota]) 7 t) (idx := [0, 0]) H rfl ⟨rfl, rfl, rfl, rfl, True.intro⟩ rfl ?_
      clear H
      rintro Xx hXx ⟨t_1, v_2⟩ Sx_3 H
      obtain ⟨hv_2, H⟩ := H
      refine c_seq ?_
      refine c_region ?_
      replace H := ite_e H
      rcases H with ⟨c_2, H⟩ | ⟨c_2, H⟩
      · refine s_p rfl (yT (y_lss rfl rfl) c_2) ?_
        refine s_nil (q_then ?_)
        refine c_seq ?_
        refine c_t rfl rfl ?_
        refine c_skip (q_then ?_)
        refine c_seq ?_
        refine c_block ?_
        refine c_drawn (by kernel_rfl) ?_
        refine a_takeP 0 rfl (by decide +kernel) (np_blk (np_then (np_then (np_blk (np_then np_body))))) rfl (y_fa rfl rfl) ?_
        obtain ⟨t_2, ht_2, H⟩ := H
        refine a_take 1 rfl (by decide +kernel) (np_blk (np_then (np_then (np_blk (np_then np_body))))) rfl (y_ld rfl) (hc_V 1 rfl ht_2) ?_
        refine a_step 2 (by decide +kernel) rfl ?_
        refine s_call rfl rfl H fun rv Sx_4 H2 => ?_
        clear H
        obtain ⟨t_3, rfl, ht_3, H⟩ := H2
        refine s_nil (q_any (ac_cons (hc_V 1 rfl ht_2) ac_nil) ?_)
        refine a_step 3 (by decide +kernel) rfl ?_
        refine s_bs rfl rfl (by decide) (fill_one (size := 26) rfl ht_3) fun b_2 => ?_
        refine s_nil (q_any (ac_cons (hc_V 1 rfl ht_2) ac_nil) ?_)
        refine a_step 4 (by decide +kernel) rfl ?_
        obtain ⟨c_3, H⟩ := H
        refine s_app (sx := t_2) (vs := t_3) rfl rfl rfl (fc_V 2 rfl (lpart_all ht_3)) ht_3 c_3 (by decide) H fun t_4 Sx_5 H2 => ?_
        replace H := H2
        refine s_nil (q_any ac_nil ?_)
        refine a_takeP 5 rfl (by decide +kernel) (np_blk (np_then (np_then (np_blk (np_then np_body))))) rfl (y_fa rfl rfl) ?_
        refine a_step 6 (by decide +kernel) rfl ?_
        refine s_stV (sz := 1) (vs := [eL t_4]) 1 rfl rfl rfl rfl rfl rfl (fit_of hv_2 (by omega)) rfl ?_
        refine s_nil (q_any ac_nil ?_)
        refine a_done (by decide +kernel) ?_
        refine q_blk (q_then ?_)
        refine c_region ?_
        refine s_p rfl (y_add rfl rfl) ?_
        refine s_p rfl (y_move rfl) ?_
        refine s_nil ?_
        exact hXx (IntKind.i64.wrap (t_1 + 1), spl v_2 1 ([eL t_4])) _ _ _ _ [0, 0] H rfl ⟨rfl, rfl, rfl, rfl, True.intro⟩ rfl
      · refine s_p rfl (yF (y_lss rfl rfl) c_2) ?_
        refine s_nil (q_then ?_)
        refine c_seq ?_
        refine c_f rfl rfl ?_
        refine c_exit (q_then_exit (q_then_exit (q_blk_out ?_)))
        exact hJx v_2 _ _ _ _ [0, 0] H rfl ⟨rfl, rfl, True.intro⟩ rfl
  · clear H
    intro Jx_1 hJx_1 H
    refine c_seq ?_
    refine c_region ?_
    refine s_p rfl (y_move rfl) ?_
    replace H := ite_e H
    rcases H with ⟨c_4, H⟩ | ⟨c_4, H⟩
    · refine s_p rfl (yT (y_lss rfl rfl) c_4) ?_
      refine s_p rfl (y_move rfl) ?_
      refine s_skip rfl ?_
      refine s_skip rfl ?_
      refine s_p rfl (y_pick rfl rfl) ?_
      refine s_p rfl (y_move rfl) ?_
      refine s_skip rfl ?_
      refine s_skip rfl ?_
      refine s_p rfl (y_pick rfl rfl) ?_
      refine s_p rfl (y_move rfl) ?_
      refine s_skip rfl ?_
      refine s_skip rfl ?_
      refine s_p rfl (y_pick rfl rfl) ?_
      refine s_nil (q_then ?_)
      refine c_t rfl rfl ?_
      refine c_seq ?_
      refine c_region ?_
      refine s_p rfl (y_build rfl rfl) ?_
      refine s_stV (sz := 12) (vs := [.bool false, .slice (none) 0 0, .int .i64 0, .slice (none) 0 0, .int .i64 0, .int .u64 0, .slice (none) 0 0, .slice (none) 0 0, .slice (none) 0 0, .slice (none) 0 0, .slice (none) 0 0, .int .u32 0]) 0 rfl rfl rfl rfl rfl rfl (by decide) rfl ?_
      refine s_p rfl (y_assign rfl) ?_
      refine s_nil (q_then ?_)
      refine c_ret (q_then_ret ?_)
      exact q_ret Try.results11 (rv_cellA rfl (hc_VP (k := 12) 0 rfl rfl) rfl (rv_tmp rfl rv_nil)) ⟨_, _, rfl, rfl, H⟩
    · refine s_p rfl (yF (y_lss rfl rfl) c_4) ?_
      refine s_p rfl (y_move rfl) ?_
      refine s_p rfl (y_move rfl) ?_
      replace H := ite_e H
      rcases H with ⟨c_5, H⟩ | ⟨c_5, H⟩
      · refine s_p rfl (yT (y_gtr rfl rfl) c_5) ?_
        refine s_p rfl (y_pick rfl rfl) ?_
        refine s_p rfl (y_move rfl) ?_
        refine s_skip rfl ?_
        refine s_skip rfl ?_
        refine s_p rfl (y_pick rfl rfl) ?_
        refine s_p rfl (y_move rfl) ?_
        refine s_skip rfl ?_
        refine s_skip rfl ?_
        refine s_p rfl (y_pick rfl rfl) ?_
        refine s_nil (q_then ?_)
        refine c_t rfl rfl ?_
        refine c_seq ?_
        refine c_region ?_
        refine s_p rfl (y_build rfl rfl) ?_
        refine s_stV (sz := 12) (vs := [.bool false, .slice (none) 0 0, .int .i64 0, .slice (none) 0 0, .int .i64 0, .int .u64 0, .slice (none) 0 0, .slice (none) 0 0, .slice (none) 0 0, .slice (none) 0 0, .slice (none) 0 0, .int .u32 0]) 0 rfl rfl rfl rfl rfl rfl (by decide) rfl ?_
        refine s_p rfl (y_assign rfl) ?_
        refine s_nil (q_then ?_)
        refine c_ret (q_then_ret ?_)
        exact q_ret Try.results11 (rv_cellA rfl (hc_VP (k := 12) 0 rfl rfl) rfl (rv_tmp rfl rv_nil)) ⟨_, _, rfl, rfl, H⟩
      · refine s_p rfl (yF (y_gtr rfl rfl) c_5) ?_
        refine s_p rfl (y_pick rfl rfl) ?_
        refine s_p rfl (y_move rfl) ?_
        refine s_p rfl (y_move rfl) ?_
        replace H := ite_e H
        rcases H with ⟨c_6, H⟩ | ⟨c_6, H⟩
        · refine s_p rfl (yT (y_lss rfl rfl) c_6) ?_
          refine s_p rfl (y_pick rfl rfl) ?_
          refine s_p rfl (y_move rfl) ?_
          refine s_skip rfl ?_
          refine s_skip rfl ?_
          refine s_p rfl (y_pick rfl rfl) ?_
          refine s_nil (q_then ?_)
          refine c_t rfl rfl ?_
          refine c_seq ?_
          refine c_region ?_
          refine s_p rfl (y_build rfl rfl) ?_
          refine s_stV (sz := 12) (vs := [.bool false, .slice (none) 0 0, .int .i64 0, .slice (none) 0 0, .int .i64 0, .int .u64 0, .slice (none) 0 0, .slice (none) 0 0, .slice (none) 0 0, .slice (none) 0 0, .slice (none) 0 0, .int .u32 0]) 0 rfl rfl rfl rfl rfl rfl (by decide) rfl ?_
          refine s_p rfl (y_assign rfl) ?_
          refine s_nil (q_then ?_)
          refine c_ret (q_then_ret ?_)
          exact q_ret Try.results11 (rv_cellA rfl (hc_VP (k := 12) 0 rfl rfl) rfl (rv_tmp rfl rv_nil)) ⟨_, _, rfl, rfl, H⟩
        · refine s_p rfl (yF (y_lss rfl rfl) c_6) ?_
          refine s_p rfl (y_pick rfl rfl) ?_
          refine s_p rfl (y_move rfl) ?_
          refine s_p rfl (y_move rfl) ?_
          replace H := ite_e H
          rcases H with ⟨c_7, H⟩ | ⟨c_7, H⟩
          · refine s_p rfl (yT (y_gtr rfl rfl) c_7) ?_
            refine s_p rfl (y_pick rfl rfl) ?_
            refine s_nil (q_then ?_)
            refine c_t rfl rfl ?_
            refine c_seq ?_
            refine c_region ?_
            refine s_p rfl (y_build rfl rfl) ?_
            refine s_stV (sz := 12) (vs := [.bool false, .slice (none) 0 0, .int .i64 0, .slice (none) 0 0, .int .i64 0, .int .u64 0, .slice (none) 0 0, .slice (none) 0 0, .slice (none) 0 0, .slice (none) 0 0, .slice (none) 0 0, .int .u32 0]) 0 rfl rfl rfl rfl rfl rfl (by decide) rfl ?_
            refine s_p rfl (y_assign rfl) ?_
            refine s_nil (q_then ?_)
            refine c_ret (q_then_ret ?_)
            exact q_ret Try.results11 (rv_cellA rfl (hc_VP (k := 12) 0 rfl rfl) rfl (rv_tmp rfl rv_nil)) ⟨_, _, rfl, rfl, H⟩
          · refine s_p rfl (yF (y_gtr rfl rfl) c_7) ?_
            refine s_p rfl (y_pick rfl rfl) ?_
            refine s_nil (q_then ?_)
            refine c_f rfl rfl ?_
            refine c_skip ?_
            exact hJx_1 ([.bool false, .slice (none) 0 0, .int .i64 0, .slice (none) 0 0, .int .i64 0, .int .u64 0, .slice (none) 0 0, .slice (none) 0 0, .slice (none) 0 0, .slice (none) 0 0, .slice (none) 0 0, .int .u32 0]) _ _ _ _ [0] H rfl ⟨rfl, rfl, rfl, True.intro⟩ rfl
def b_guest_Blank (S : Mem) (Q : List Value → Mem → Prop) : Prop :=
  jn (fun (d : List Value) (Sx : Mem) =>
      d.length = 4 ∧
      d.all (·.oneCell') = true ∧
      Q d Sx) fun Jx =>
  lp (fun Xx (z : Int × List Value) (Sx_1 : Mem) =>
      match z with
      | (t, d_1) =>
        d_1.length = 4 ∧
        if t < 4 then
          al Sx_1 5 (zrep 256 [.int .u8 0]) fun b_2 Sx_2 =>
          0 ≤ t ∧ t < 4 ∧
          Xx (IntKind.i64.wrap (t + 1), spl d_1 (0 + t.toNat * 1) ([.slice (some ⟨b_2, 0, none⟩) 256 256])) Sx_2
        else
        Jx d_1 Sx_1) (0, [.slice (none) 0 0, .slice (none) 0 0, .slice (none) 0 0, .slice (none) 0 0]) S
theorem t_guest_Blank {S : Mem} {Q : List Value → Mem → Prop} (H : b_guest_Blank S Q) : guest_Blank S Q := by
  unfold b_guest_Blank at H
  refine Tr.intro Try.func13 rfl Try.ntmps13 rfl fun w0 => ?_
  refine c_seq ?_
  refine c_region ?_
  refine s_alloc rfl fun b => ?_
  refine s_nil (q_then ?_)
  refine c_seq ?_
  refine c_region ?_
  refine s_alloc rfl fun b_1 => ?_
  refine s_nil (q_then ?_)
  refine c_join2 H (fun (J : List Value → Mem → Prop) (z : List Value) S => J z S) (fun z => ⟨11, [(0, .pointer (some ⟨b, 0, none⟩)), (1, .pointer (some ⟨b_1, 0, none⟩))]⟩) (fun z => [⟨b, 28, [.slice (none) 0 0, .slice (none) 0 0, .slice (none) 0 0, .slice (none) 0 0]⟩, ⟨b_1, 28, z⟩]) ?_ ?_
  · clear H
    rintro d Sx H
    obtain ⟨hd, H⟩ := H
    refine c_seq ?_
    refine c_region ?_
    refine s_v rfl (y_ldA rfl hd) (hc_VP (k := 4) 1 rfl (lpart_all hd)) ?_
    obtain ⟨c, H⟩ := H
    refine s_stV_all 0 rfl rfl rfl rfl rfl hd rfl c ?_
    refine s_nil (q_then ?_)
    refine c_ret ?_
    exact q_ret Try.results13 (rv_cellA rfl (hc_VP (k := 4) 0 rfl (lpart_all hd)) hd rv_nil) ⟨_, rfl, hd, H⟩
  · clear H
    intro Jx hJx H
    refine c_seq ?_
    refine c_region ?_
    refine s_p rfl (y_move rfl) ?_
    refine s_nil (q_then ?_)
    refine c_block ?_
    refine c_loop (fun z => ⟨11, [(0, .pointer (some ⟨b, 0, none⟩)), (1, .pointer (some ⟨b_1, 0, none⟩)), (3, .int .i64 z.1)]⟩) (fun z => [⟨b, 28, [.slice (none) 0 0, .slice (none) 0 0, .slice (none) 0 0, .slice (none) 0 0]⟩, ⟨b_1, 28, z.2⟩]) (0, [.slice (none) 0 0, .slice (none) 0 0, .slice (none) 0 0, .slice (none) 0 0]) (idx := [0, 0]) H rfl ⟨rfl, rfl, rfl, True.intro⟩ rfl ?_
    clear H
    rintro Xx hXx ⟨t, d_1⟩ Sx_1 H
    obtain ⟨hd_1, H⟩ := H
    refine c_seq ?_
    refine c_region ?_
    replace H := ite_e H
    rcases H with ⟨c_1, H⟩ | ⟨c_1, H⟩
    · refine s_p rfl (yT (y_lss rfl rfl) c_1) ?_
      refine s_nil (q_then ?_)
      refine c_seq ?_
      refine c_t rfl rfl ?_
      refine c_skip (q_then ?_)
      refine c_seq ?_
      refine c_block ?_
      refine c_seq ?_
      refine c_region ?_
      refine s_p rfl (y_move rfl) ?_
      refine s_p rfl (y_assign rfl) ?_
      refine s_nil (q_then ?_)
      refine c_region ?_
      refine s_p rfl (y_move rfl) ?_
      refine s_mk rfl rfl rfl (by decide) (by decide) (by decide) (by decide) fun b_2 => ?_
      refine s_pub 2 rfl fun hb_2 => ?_
      replace H := H b_2 hb_2
      obtain ⟨c_2, c_3, H⟩ := H
      refine s_p rfl (y_ixA rfl rfl c_2 c_3 rfl) ?_
      refine s_stV (sz := 1) (vs := [.slice (some ⟨b_2, 0, none⟩) 256 256]) 1 rfl rfl rfl rfl rfl rfl (fit_of hd_1 (by omega)) rfl ?_
      refine s_nil (q_blk (q_then ?_))
      refine c_region ?_
      refine s_p rfl (y_add rfl rfl) ?_
      refine s_p rfl (y_move rfl) ?_
      refine s_nil ?_
      exact hXx (IntKind.i64.wrap (t + 1), spl d_1 (0 + t.toNat * 1) ([.slice (some ⟨b_2, 0, none⟩) 256 256])) _ _ _ _ [0, 0] H rfl ⟨rfl, rfl, rfl, True.intro⟩ rfl
    · refine s_p rfl (yF (y_lss rfl rfl) c_1) ?_
      refine s_nil (q_then ?_)
      refine c_seq ?_
      refine c_f rfl rfl ?_
      refine c_exit (q_then_exit (q_then_exit (q_blk_out ?_)))
      exact hJx d_1 _ _ _ _ [0, 0] H rfl ⟨rfl, rfl, True.intro⟩ rfl
def b_seat_New (S : Mem) (Q : List Value → Mem → Prop) : Prop :=
  Q ([.int .u64 0, .int .u64 0, .int .u64 0, .int .u64 0, .int .u64 0, .int .u64 0, .int .u64 0, .int .u64 0, .int .u64 0, .int .u64 0, .int .u64 0, .int .u64 0, .int .u64 0, .int .u64 0, .int .u64 0, .int .u64 0, .int .u64 0, .int .u64 0, .int .u64 0, .int .u64 0, .int .u64 0, .int .u64 0, .bool false, .int .u8 0, .int .u32 0, .int .u32 0]) S
theorem t_seat_New {S : Mem} {Q : List Value → Mem → Prop} (H : b_seat_New S Q) : seat_New S Q := by
  unfold b_seat_New at H
  refine Tr.intro Try.func42 rfl Try.ntmps42 rfl fun w0 => ?_
  refine c_seq ?_
  refine c_region ?_
  refine s_alloc rfl fun b => ?_
  refine s_nil (q_then ?_)
  refine c_seq ?_
  refine c_region ?_
  refine s_p rfl (y_build rfl rfl) ?_
  refine s_stV_all 0 rfl rfl rfl rfl rfl rfl z72_len rfl ?_
  refine s_nil (q_then ?_)
  refine c_ret ?_
  exact q_ret Try.results42 (rv_cellA rfl (hc_VP (k := 26) 0 rfl rfl) rfl rv_nil) ⟨_, rfl, rfl, H⟩
end Go.Proofs.Ytpilffakhkagjaa
