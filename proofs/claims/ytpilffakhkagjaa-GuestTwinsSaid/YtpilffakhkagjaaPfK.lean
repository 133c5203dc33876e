/- PRINTED BY pt.py: functions. -/
import Derived.Test.YtpilffakhkagjaaPtS
namespace Go.Proofs.Ytpilffakhkagjaa
open Go Go.Pt
attribute [local irreducible] Code.wp Back bodyPost wpList FR WL WC WQ WA AW Tr Yc HC AllC
set_option maxRecDepth 20000
set_option maxHeartbeats 4000000
set_option linter.unusedVariables false
def b_owner_Book_Keep (S : Mem) (b : Pt) (frame : Int) (n : Int) (Q : Int → Mem → Prop) : Prop :=
  owner_Book_row S b frame fun t t_1 Sx =>
  jn (fun (Sx_1 : Mem) =>
      nn t fun b_1 o =>
      pt Sx_1 b_1 o 4 ([.int .u8 1, .int .i64 0, .int .i64 0, .int .i64 0]) fun Sx_2 =>
      if 0 ≤ n then
        pt Sx_2 b_1 o 4 ([.int .u8 2, .int .i64 n, .int .i64 0, .int .i64 0]) fun Sx_3 =>
        Q 0 Sx_3
      else
      Q 0 Sx_2) fun Jx =>
  if t_1 ≠ 0 then
    Q t_1 Sx
  else
  if 6 ≤ n then
    Q 1 Sx
  else
  nn t fun b_2 o_1 =>
  gI (Sx.cell b_2 o_1) .u8 fun t_2 =>
  if t_2 ≠ 0 then
    Q 8 Sx
  else
  Jx Sx
theorem t_owner_Book_Keep {S : Mem} {b : Pt} {frame : Int} {n : Int} {Q : Int → Mem → Prop} (H : b_owner_Book_Keep S b frame n Q) : owner_Book_Keep S b frame n Q := by
  unfold b_owner_Book_Keep at H
  refine Tr.intro Try.func25 rfl Try.ntmps25 rfl fun w0 => ?_
  refine c_seq ?_
  refine c_region ?_
  refine s_p rfl (y_assign rfl) ?_
  refine s_nil (q_then ?_)
  refine c_seq ?_
  refine c_region ?_
  refine s_p rfl (y_move rfl) ?_
  refine s_p rfl (y_move rfl) ?_
  refine s_call rfl rfl H fun rv Sx H2 => ?_
  clear H
  obtain ⟨t, t_1, rfl, H⟩ := H2
  refine s_p rfl (y_move rfl) ?_
  refine s_p rfl (y_extract rfl rfl) ?_
  refine s_p rfl (y_extract rfl rfl) ?_
  refine s_p rfl (y_assign rfl) ?_
  refine s_p rfl (y_assign rfl) ?_
  refine s_nil (q_then ?_)
  refine c_join2 H (fun (J : Mem → Prop) (z : Unit) S => J S) (fun z => ⟨37, [(2, .int .i64 n), (7, eP t)]⟩) (fun z => []) ?_ ?_
  · clear H
    rintro _ Sx_1 H
    refine c_seq ?_
    refine c_region ?_
    refine s_p rfl (y_move rfl) ?_
    refine s_p rfl (y_build rfl rfl) ?_
    obtain ⟨b_1, o, rfl, H⟩ := H
    refine s_p rfl (y_nc rfl) ?_
    obtain ⟨c, H⟩ := H
    refine s_stS rfl rfl rfl rfl rfl c rfl ?_
    refine s_nil (q_then ?_)
    refine c_seq ?_
    refine c_seq ?_
    refine c_region ?_
    refine s_p rfl (y_move rfl) ?_
    replace H := ite_e H
    rcases H with ⟨c_1, H⟩ | ⟨c_1, H⟩
    · refine s_p rfl (yT (y_geq rfl rfl) c_1) ?_
      refine s_nil (q_then ?_)
      refine c_t rfl rfl ?_
      refine c_region ?_
      refine s_p rfl (y_move rfl) ?_
      refine s_p rfl (y_move rfl) ?_
      refine s_p rfl (y_build rfl rfl) ?_
      refine s_p rfl (y_nc rfl) ?_
      obtain ⟨c_2, H⟩ := H
      refine s_stS rfl rfl rfl rfl rfl c_2 rfl ?_
      refine s_nil (q_then ?_)
      refine c_seq ?_
      refine c_region ?_
      refine s_p rfl (y_assign rfl) ?_
      refine s_nil (q_then ?_)
      refine c_ret ?_
      exact q_ret Try.results25 (rv_tmp rfl rv_nil) ⟨_, rfl, H⟩
    · refine s_p rfl (yF (y_geq rfl rfl) c_1) ?_
      refine s_nil (q_then ?_)
      refine c_f rfl rfl ?_
      refine c_skip (q_then ?_)
      refine c_seq ?_
      refine c_region ?_
      refine s_p rfl (y_assign rfl) ?_
      refine s_nil (q_then ?_)
      refine c_ret ?_
      exact q_ret Try.results25 (rv_tmp rfl rv_nil) ⟨_, rfl, H⟩
  · clear H
    intro Jx hJx H
    refine c_block ?_
    refine c_seq ?_
    refine c_region ?_
    refine s_p rfl (y_move rfl) ?_
    replace H := ite_e H
    rcases H with ⟨c_3, H⟩ | ⟨c_3, H⟩
    · refine s_p rfl (yT (y_neq rfl rfl) c_3) ?_
      refine s_p rfl (y_assign rfl) ?_
      refine s_nil (q_then ?_)
      refine c_t rfl rfl ?_
      refine c_seq ?_
      refine c_region ?_
      refine s_p rfl (y_move rfl) ?_
      refine s_p rfl (y_assign rfl) ?_
      refine s_nil (q_then ?_)
      refine c_ret (q_blk_ret (q_then_ret ?_))
      exact q_ret Try.results25 (rv_tmp rfl rv_nil) ⟨_, rfl, H⟩
    · refine s_p rfl (yF (y_neq rfl rfl) c_3) ?_
      refine s_p rfl (y_assign rfl) ?_
      refine s_nil (q_then ?_)
      refine c_f rfl rfl ?_
      refine c_seq ?_
      refine c_region ?_
      refine s_p rfl (y_move rfl) ?_
      replace H := ite_e H
      rcases H with ⟨c_4, H⟩ | ⟨c_4, H⟩
      · refine s_p rfl (yT (y_geq rfl rfl) c_4) ?_
        refine s_p rfl (y_assign rfl) ?_
        refine s_nil (q_then ?_)
        refine c_t rfl rfl ?_
        refine c_seq ?_
        refine c_region ?_
        refine s_p rfl (y_assign rfl) ?_
        refine s_nil (q_then ?_)
        refine c_ret (q_blk_ret (q_then_ret ?_))
        exact q_ret Try.results25 (rv_tmp rfl rv_nil) ⟨_, rfl, H⟩
      · refine s_p rfl (yF (y_geq rfl rfl) c_4) ?_
        refine s_p rfl (y_assign rfl) ?_
        refine s_nil (q_then ?_)
        refine c_f rfl rfl ?_
        refine c_seq ?_
        refine c_region ?_
        refine s_p rfl (y_move rfl) ?_
        obtain ⟨b_2, o_1, rfl, H⟩ := H
        refine s_p rfl (y_nc rfl) ?_
        refine s_p rfl (y_fa rfl rfl) ?_
        obtain ⟨t_2, ht_2, H⟩ := H
        refine s_v rfl (y_ld rfl) (hc_S ht_2) ?_
        replace H := ite_e H
        rcases H with ⟨c_5, H⟩ | ⟨c_5, H⟩
        · refine s_p rfl (yT (y_neq rfl rfl) c_5) ?_
          refine s_p rfl (y_assign rfl) ?_
          refine s_nil (q_then ?_)
          refine c_t rfl rfl ?_
          refine c_seq ?_
          refine c_region ?_
          refine s_p rfl (y_assign rfl) ?_
          refine s_nil (q_then ?_)
          refine c_ret (q_blk_ret (q_then_ret ?_))
          exact q_ret Try.results25 (rv_tmp rfl rv_nil) ⟨_, rfl, H⟩
        · refine s_p rfl (yF (y_neq rfl rfl) c_5) ?_
          refine s_p rfl (y_assign rfl) ?_
          refine s_nil (q_then ?_)
          refine c_f rfl rfl ?_
          refine c_skip (q_blk ?_)
          exact hJx () _ _ _ _ [] H rfl ⟨rfl, rfl, True.intro⟩ rfl
def b_owner_Book_Count (S : Mem) (b : Pt) (kind : Int) (n : Int) (Q : Int → Mem → Prop) : Prop :=
  jn (fun (Sx : Mem) =>
      jn (fun (k : Int) (Sx_1 : Mem) =>
          Q k Sx_1) fun Jx =>
      nn b fun b_1 o =>
      gL (Sx.cell b_1 o) fun t =>
      lp (fun Xx (z : Int × Int) (Sx_2 : Mem) =>
          match z with
          | (k_1, t_1) =>
            if t_1 < (t.n : Int) then
              jn (fun (k_2 : Int) (Sx_3 : Mem) =>
                  Xx (k_2, IntKind.i64.wrap (t_1 + 1)) Sx_3) fun Jx_1 =>
              sl t fun b_2 o_1 n_1 n_2 =>
              0 ≤ t_1 ∧ t_1 < ((n_1 : Nat) : Int) ∧
              gA (Sx_2.part b_2 (o_1 + t_1.toNat * 4) 4) fun t_2 =>
              t_2.all (·.oneCell') = true ∧
              gI (nthL t_2 0) .u8 fun t_3 =>
              if t_3 = kind then
                if kind < 2 then
                  Jx_1 (IntKind.i64.wrap (k_1 + 1)) Sx_2
                else
                gI (nthL t_2 1) .i64 fun t_4 =>
                if t_4 = n then
                  Jx_1 (IntKind.i64.wrap (k_1 + 1)) Sx_2
                else
                Jx_1 k_1 Sx_2
              else
              Jx_1 k_1 Sx_2
            else
            Jx k_1 Sx_2) (0, 0) Sx) fun Jx_2 =>
  if b = none then
    Q 0 S
  else
  Jx_2 S
theorem t_owner_Book_Count {S : Mem} {b : Pt} {kind : Int} {n : Int} {Q : Int → Mem → Prop} (H : b_owner_Book_Count S b kind n Q) : owner_Book_Count S b kind n Q := by
  unfold b_owner_Book_Count at H
  refine Tr.intro Try.func27 rfl Try.ntmps27 rfl fun w0 => ?_
  refine c_seq ?_
  refine c_region ?_
  refine s_p rfl (y_assign rfl) ?_
  refine s_nil (q_then ?_)
  refine c_seq ?_
  refine c_region ?_
  refine s_p rfl (y_assign rfl) ?_
  refine s_nil (q_then ?_)
  refine c_join2 H (fun (J : Mem → Prop) (z : Unit) S => J S) (fun z => ⟨39, [(0, eP b), (1, .int .u8 kind), (2, .int .i64 n), (7, .int .i64 0)]⟩) (fun z => []) ?_ ?_
  · clear H
    rintro _ Sx H
    refine c_join2 H (fun (J : Int → Mem → Prop) (z : Int) S => J z S) (fun z => ⟨39, [(7, .int .i64 z)]⟩) (fun z => []) ?_ ?_
    · clear H
      rintro k Sx_1 H
      refine c_seq ?_
      refine c_region ?_
      refine s_p rfl (y_move rfl) ?_
      refine s_p rfl (y_assign rfl) ?_
      refine s_nil (q_then ?_)
      refine c_ret ?_
      exact q_ret Try.results27 (rv_tmp rfl rv_nil) ⟨_, rfl, H⟩
    · clear H
      intro Jx hJx H
      refine c_seq ?_
      refine c_region ?_
      refine s_p rfl (y_move rfl) ?_
      obtain ⟨b_1, o, rfl, H⟩ := H
      refine s_p rfl (y_nc rfl) ?_
      refine s_p rfl (y_fa rfl rfl) ?_
      obtain ⟨t, ht, H⟩ := H
      refine s_v rfl (y_ld rfl) (hc_S ht) ?_
      refine s_p rfl (y_len rfl) ?_
      refine s_p rfl (y_move rfl) ?_
      refine s_nil (q_then ?_)
      refine c_block ?_
      refine c_loop (fun z => ⟨39, [(1, .int .u8 kind), (2, .int .i64 n), (7, .int .i64 z.1), (15, eL t), (16, .int .i64 (t.n : Int)), (17, .int .i64 z.2)]⟩) (fun z => []) (0, 0) (idx := []) H rfl ⟨rfl, rfl, rfl, rfl, rfl, rfl, True.intro⟩ rfl ?_
      clear H
      rintro Xx hXx ⟨k_1, t_1⟩ Sx_2 H
      refine c_seq ?_
      refine c_region ?_
      replace H := ite_e H
      rcases H with ⟨c, H⟩ | ⟨c, H⟩
      · refine s_p rfl (yT (y_lss rfl rfl) c) ?_
        refine s_nil (q_then ?_)
        refine c_seq ?_
        refine c_t rfl rfl ?_
        refine c_skip (q_then ?_)
        refine c_join2 H (fun (J : Int → Mem → Prop) (z : Int) S => J z S) (fun z => ⟨39, [(1, .int .u8 kind), (2, .int .i64 n), (7, .int .i64 z), (15, eL t), (16, .int .i64 (t.n : Int)), (17, .int .i64 t_1)]⟩) (fun z => []) ?_ ?_
        · clear H
          rintro k_2 Sx_3 H
          refine c_region ?_
          refine s_p rfl (y_add rfl rfl) ?_
          refine s_p rfl (y_move rfl) ?_
          refine s_nil ?_
          exact hXx (k_2, IntKind.i64.wrap (t_1 + 1)) _ _ _ _ [] H rfl ⟨rfl, rfl, rfl, rfl, rfl, rfl, True.intro⟩ rfl
        · clear H
          intro Jx_1 hJx_1 H
          refine c_block ?_
          refine c_seq ?_
          refine c_region ?_
          obtain ⟨b_2, o_1, n_1, n_2, rfl, H⟩ := H
          obtain ⟨c_1, c_2, H⟩ := H
          refine s_p rfl (y_ixL rfl rfl c_1 c_2 rfl) ?_
          obtain ⟨t_2, ht_2, H⟩ := H
          refine s_v rfl (y_ldA rfl (part_len ht_2)) (hc_SP ht_2) ?_
          refine s_alloc rfl fun b_3 => ?_
          obtain ⟨c_3, H⟩ := H
          refine s_stV_all 0 rfl rfl rfl rfl rfl (part_len ht_2) rfl c_3 ?_
          refine s_nil (q_then ?_)
          refine c_seq ?_
          refine c_region ?_
          refine s_p rfl (y_fa rfl rfl) ?_
          obtain ⟨t_3, ht_3, H⟩ := H
          refine s_v rfl (y_ld rfl) (hc_V 0 rfl ht_3) ?_
          refine s_p rfl (y_move rfl) ?_
          replace H := ite_e H
          rcases H with ⟨c_4, H⟩ | ⟨c_4, H⟩
          · refine s_p rfl (yT (y_eql rfl rfl) c_4) ?_
            refine s_p rfl (y_move rfl) ?_
            refine s_p rfl (y_move rfl) ?_
            replace H := ite_e H
            rcases H with ⟨c_5, H⟩ | ⟨c_5, H⟩
            · refine s_p rfl (yT (y_lss rfl rfl) c_5) ?_
              refine s_p rfl (y_move rfl) ?_
              refine s_skip rfl ?_
              refine s_skip rfl ?_
              refine s_skip rfl ?_
              refine s_skip rfl ?_
              refine s_p rfl (y_pick rfl rfl) ?_
              refine s_p rfl (y_pick rfl rfl) ?_
              refine s_nil (q_then ?_)
              refine c_t rfl rfl ?_
              refine c_region ?_
              refine s_p rfl (y_move rfl) ?_
              refine s_p rfl (y_add rfl rfl) ?_
              refine s_p rfl (y_assign rfl) ?_
              refine s_nil (q_blk ?_)
              exact hJx_1 (IntKind.i64.wrap (k_1 + 1)) _ _ _ _ [] H rfl ⟨rfl, rfl, rfl, rfl, rfl, rfl, True.intro⟩ rfl
            · refine s_p rfl (yF (y_lss rfl rfl) c_5) ?_
              refine s_p rfl (y_move rfl) ?_
              refine s_p rfl (y_fa rfl rfl) ?_
              obtain ⟨t_4, ht_4, H⟩ := H
              refine s_v rfl (y_ld rfl) (hc_V 0 rfl ht_4) ?_
              refine s_p rfl (y_move rfl) ?_
              replace H := ite_e H
              rcases H with ⟨c_6, H⟩ | ⟨c_6, H⟩
              · refine s_p rfl (yT (y_eql rfl rfl) c_6) ?_
                refine s_p rfl (y_pick rfl rfl) ?_
                refine s_p rfl (y_pick rfl rfl) ?_
                refine s_nil (q_then ?_)
                refine c_t rfl rfl ?_
                refine c_region ?_
                refine s_p rfl (y_move rfl) ?_
                refine s_p rfl (y_add rfl rfl) ?_
                refine s_p rfl (y_assign rfl) ?_
                refine s_nil (q_blk ?_)
                exact hJx_1 (IntKind.i64.wrap (k_1 + 1)) _ _ _ _ [] H rfl ⟨rfl, rfl, rfl, rfl, rfl, rfl, True.intro⟩ rfl
              · refine s_p rfl (yF (y_eql rfl rfl) c_6) ?_
                refine s_p rfl (y_pick rfl rfl) ?_
                refine s_p rfl (y_pick rfl rfl) ?_
                refine s_nil (q_then ?_)
                refine c_f rfl rfl ?_
                refine c_skip (q_blk ?_)
                exact hJx_1 k_1 _ _ _ _ [] H rfl ⟨rfl, rfl, rfl, rfl, rfl, rfl, True.intro⟩ rfl
          · refine s_p rfl (yF (y_eql rfl rfl) c_4) ?_
            refine s_p rfl (y_move rfl) ?_
            refine s_skip rfl ?_
            refine s_skip rfl ?_
            refine s_skip rfl ?_
            refine s_skip rfl ?_
            refine s_skip rfl ?_
            refine s_skip rfl ?_
            refine s_skip rfl ?_
            refine s_skip rfl ?_
            refine s_p rfl (y_pick rfl rfl) ?_
            refine s_nil (q_then ?_)
            refine c_f rfl rfl ?_
            refine c_skip (q_blk ?_)
            exact hJx_1 k_1 _ _ _ _ [] H rfl ⟨rfl, rfl, rfl, rfl, rfl, rfl, True.intro⟩ rfl
      · refine s_p rfl (yF (y_lss rfl rfl) c) ?_
        refine s_nil (q_then ?_)
        refine c_seq ?_
        refine c_f rfl rfl ?_
        refine c_exit (q_then_exit (q_then_exit (q_blk_out ?_)))
        exact hJx k_1 _ _ _ _ [] H rfl ⟨rfl, True.intro⟩ rfl
  · clear H
    intro Jx_2 hJx_2 H
    refine c_seq ?_
    refine c_region ?_
    refine s_p rfl (y_move rfl) ?_
    replace H := ite_e H
    rcases H with ⟨c_7, H⟩ | ⟨c_7, H⟩
    · refine s_p rfl (yT (y_pnil (p := b) rfl rfl) c_7) ?_
      refine s_nil (q_then ?_)
      refine c_t rfl rfl ?_
      refine c_seq ?_
      refine c_region ?_
      refine s_p rfl (y_assign rfl) ?_
      refine s_nil (q_then ?_)
      refine c_ret (q_then_ret ?_)
      exact q_ret Try.results27 (rv_tmp rfl rv_nil) ⟨_, rfl, H⟩
    · refine s_p rfl (yF (y_pnil (p := b) rfl rfl) c_7) ?_
      refine s_nil (q_then ?_)
      refine c_f rfl rfl ?_
      refine c_skip ?_
      exact hJx_2 () _ _ _ _ [] H rfl ⟨rfl, rfl, rfl, rfl, True.intro⟩ rfl
def b_owner_Book_Twin (S : Mem) (b : Pt) (Q : Pt → Mem → Prop) : Prop :=
  jn (fun (Sx : Mem) =>
      nn b fun b_1 o =>
      gL (Sx.cell b_1 o) fun t =>
      sp Sx t 4 fun vs =>
      ap Sx 135 4 32 [.int .u8 0, .int .i64 0, .int .i64 0, .int .i64 0] (⟨none, 0, 0⟩) t.n vs fun t_1 Sx_1 =>
      al Sx_1 137 ([eL t_1]) fun b_2 Sx_2 =>
      Q (some (b_2, 0)) Sx_2) fun Jx =>
  if b = none then
    Q none S
  else
  Jx S
theorem t_owner_Book_Twin {S : Mem} {b : Pt} {Q : Pt → Mem → Prop} (H : b_owner_Book_Twin S b Q) : owner_Book_Twin S b Q := by
  unfold b_owner_Book_Twin at H
  refine Tr.intro Try.func49 rfl Try.ntmps49 rfl fun w0 => ?_
  refine c_seq ?_
  refine c_region ?_
  refine s_p rfl (y_assign rfl) ?_
  refine s_nil (q_then ?_)
  refine c_join2 H (fun (J : Mem → Prop) (z : Unit) S => J S) (fun z => ⟨12, [(0, eP b)]⟩) (fun z => []) ?_ ?_
  · clear H
    rintro _ Sx H
    refine c_seq ?_
    refine c_region ?_
    refine s_p rfl (y_move rfl) ?_
    obtain ⟨b_1, o, rfl, H⟩ := H
    refine s_p rfl (y_nc rfl) ?_
    refine s_p rfl (y_fa rfl rfl) ?_
    obtain ⟨t, ht, H⟩ := H
    refine s_v rfl (y_ld rfl) (hc_S ht) ?_
    obtain ⟨vs, h, c, H⟩ := H
    refine s_app (sx := ⟨none, 0, 0⟩) (vs := vs) rfl rfl rfl ((fc_sp h).1) ((fc_sp (P := Try.prog) (w0 := w0) (S0 := S) (V := []) h).2) c (by decide) H fun t_1 Sx_1 H2 => ?_
    replace H := H2
    refine s_p rfl (y_build rfl rfl) ?_
    refine s_box rfl rfl rfl fun b_2 => ?_
    refine s_pub 0 rfl fun hb_2 => ?_
    replace H := H b_2 hb_2
    refine s_p rfl (y_assign rfl) ?_
    refine s_nil (q_then ?_)
    refine c_ret ?_
    exact q_ret Try.results49 (rv_tmp rfl rv_nil) ⟨_, rfl, H⟩
  · clear H
    intro Jx hJx H
    refine c_seq ?_
    refine c_region ?_
    refine s_p rfl (y_move rfl) ?_
    replace H := ite_e H
    rcases H with ⟨c_1, H⟩ | ⟨c_1, H⟩
    · refine s_p rfl (yT (y_pnil (p := b) rfl rfl) c_1) ?_
      refine s_nil (q_then ?_)
      refine c_t rfl rfl ?_
      refine c_seq ?_
      refine c_region ?_
      refine s_p rfl (y_assign rfl) ?_
      refine s_nil (q_then ?_)
      refine c_ret (q_then_ret ?_)
      exact q_ret Try.results49 (rv_tmp rfl rv_nil) ⟨_, rfl, H⟩
    · refine s_p rfl (yF (y_pnil (p := b) rfl rfl) c_1) ?_
      refine s_nil (q_then ?_)
      refine c_f rfl rfl ?_
      refine c_skip ?_
      exact hJx () _ _ _ _ [] H rfl ⟨rfl, True.intro⟩ rfl
def b_slices_EqualFunc_owner_Row_owner_Row_owner_Row_owner_Row (S : Mem) (s1_0 : Sl) (s2_0 : Sl) (eq : Value) (Q : Bool → Mem → Prop) : Prop :=
  jn (fun (Sx : Mem) =>
      jn (fun (Sx_1 : Mem) =>
          Q true Sx_1) fun Jx =>
      lp (fun Xx (t : Int) (Sx_2 : Mem) =>
          if t < (s1_0.n : Int) then
            sl s1_0 fun b o n n_1 =>
            0 ≤ t ∧ t < ((n : Nat) : Int) ∧
            gA (Sx_2.part b (o + t.toNat * 4) 4) fun t_1 =>
            t_1.all (·.oneCell') = true ∧
            sl s2_0 fun b_2 o_1 n_2 n_3 =>
            0 ≤ t ∧ t < ((n_2 : Nat) : Int) ∧
            gA (Sx_2.part b_2 (o_1 + t.toNat * 4) 4) fun t_2 =>
            t_2.all (·.oneCell') = true ∧
            cv Try.prog Sx_2 eq [valL t_1, valL t_2] fun rv Sx_3 => ∃ t_3 : Bool, rv = .bool t_3 ∧ 
            if t_3 = true then
              Xx (IntKind.i64.wrap (t + 1)) Sx_3
            else
            Q false Sx_3
          else
          Jx Sx_2) 0 Sx) fun Jx_1 =>
  if (s1_0.n : Int) ≠ (s2_0.n : Int) then
    Q false S
  else
  Jx_1 S
theorem t_slices_EqualFunc_owner_Row_owner_Row_owner_Row_owner_Row {S : Mem} {s1_0 : Sl} {s2_0 : Sl} {eq : Value} {Q : Bool → Mem → Prop} (H : b_slices_EqualFunc_owner_Row_owner_Row_owner_Row_owner_Row S s1_0 s2_0 eq Q) : slices_EqualFunc_owner_Row_owner_Row_owner_Row_owner_Row S s1_0 s2_0 eq Q := by
  unfold b_slices_EqualFunc_owner_Row_owner_Row_owner_Row_owner_Row at H
  refine Tr.intro Try.func50 rfl Try.ntmps50 rfl fun w0 => ?_
  refine c_seq ?_
  refine c_region ?_
  refine s_p rfl (y_assign rfl) ?_
  refine s_nil (q_then ?_)
  refine c_join2 H (fun (J : Mem → Prop) (z : Unit) S => J S) (fun z => ⟨32, [(0, eL s1_0), (1, eL s2_0), (2, eq)]⟩) (fun z => []) ?_ ?_
  · clear H
    rintro _ Sx H
    refine c_join2 H (fun (J : Mem → Prop) (z : Unit) S => J S) (fun z => ⟨32, []⟩) (fun z => []) ?_ ?_
    · clear H
      rintro _ Sx_1 H
      refine c_seq ?_
      refine c_region ?_
      refine s_p rfl (y_assign rfl) ?_
      refine s_nil (q_then ?_)
      refine c_ret ?_
      exact q_ret Try.results50 (rv_tmp rfl rv_nil) ⟨_, rfl, H⟩
    · clear H
      intro Jx hJx H
      refine c_seq ?_
      refine c_region ?_
      refine s_p rfl (y_move rfl) ?_
      refine s_p rfl (y_len rfl) ?_
      refine s_p rfl (y_move rfl) ?_
      refine s_nil (q_then ?_)
      refine c_block ?_
      refine c_loop (fun z => ⟨32, [(1, eL s2_0), (2, eq), (15, eL s1_0), (16, .int .i64 (s1_0.n : Int)), (17, .int .i64 z)]⟩) (fun z => []) 0 (idx := []) H rfl ⟨rfl, rfl, rfl, rfl, rfl, True.intro⟩ rfl ?_
      clear H
      rintro Xx hXx t Sx_2 H
      refine c_seq ?_
      refine c_region ?_
      replace H := ite_e H
      rcases H with ⟨c, H⟩ | ⟨c, H⟩
      · refine s_p rfl (yT (y_lss rfl rfl) c) ?_
        refine s_nil (q_then ?_)
        refine c_seq ?_
        refine c_t rfl rfl ?_
        refine c_skip (q_then ?_)
        refine c_seq ?_
        refine c_block ?_
        refine c_seq ?_
        refine c_region ?_
        refine s_p rfl (y_move rfl) ?_
        obtain ⟨b, o, n, n_1, rfl, H⟩ := H
        obtain ⟨c_1, c_2, H⟩ := H
        refine s_p rfl (y_ixL rfl rfl c_1 c_2 rfl) ?_
        obtain ⟨t_1, ht_1, H⟩ := H
        refine s_v rfl (y_ldA rfl (part_len ht_1)) (hc_SP ht_1) ?_
        refine s_alloc rfl fun b_1 => ?_
        refine s_p rfl (y_assign rfl) ?_
        obtain ⟨c_3, H⟩ := H
        refine s_stV_all 0 rfl rfl rfl rfl rfl (part_len ht_1) rfl c_3 ?_
        refine s_nil (q_then ?_)
        refine c_seq ?_
        refine c_region ?_
        refine s_p rfl (y_move rfl) ?_
        refine s_p rfl (y_move rfl) ?_
        obtain ⟨b_2, o_1, n_2, n_3, rfl, H⟩ := H
        obtain ⟨c_4, c_5, H⟩ := H
        refine s_p rfl (y_ixL rfl rfl c_4 c_5 rfl) ?_
        obtain ⟨t_2, ht_2, H⟩ := H
        refine s_v rfl (y_ldA rfl (part_len ht_2)) (hc_SP ht_2) ?_
        refine s_alloc rfl fun b_3 => ?_
        obtain ⟨c_6, H⟩ := H
        refine s_stV_all 1 rfl rfl rfl rfl rfl (part_len ht_2) rfl c_6 ?_
        refine s_nil (q_then ?_)
        refine c_seq ?_
        refine c_region ?_
        refine s_p rfl (y_move rfl) ?_
        refine s_v rfl (y_ldA rfl (part_len ht_1)) (hc_VP (k := 4) 0 rfl (lpart_all (part_len ht_1))) ?_
        refine s_v rfl (y_ldA rfl (part_len ht_2)) (hc_VP (k := 4) 1 rfl (lpart_all (part_len ht_2))) ?_
        refine s_cv rfl rfl rfl H fun rv Sx_3 H2 => ?_
        clear H
        obtain ⟨t_3, rfl, H⟩ := H2
        replace H := ib_e H
        rcases H with ⟨rfl, H⟩ | ⟨rfl, H⟩
        · skip
          refine s_p rfl (yB (y_not rfl) rfl) ?_
          refine s_nil (q_then ?_)
          refine c_f rfl rfl ?_
          refine c_skip (q_blk (q_then ?_))
          refine c_region ?_
          refine s_p rfl (y_add rfl rfl) ?_
          refine s_p rfl (y_move rfl) ?_
          refine s_nil ?_
          exact hXx (IntKind.i64.wrap (t + 1)) _ _ _ _ [] H rfl ⟨rfl, rfl, rfl, rfl, rfl, True.intro⟩ rfl
        · skip
          refine s_p rfl (yB (y_not rfl) rfl) ?_
          refine s_nil (q_then ?_)
          refine c_t rfl rfl ?_
          refine c_seq ?_
          refine c_region ?_
          refine s_p rfl (y_assign rfl) ?_
          refine s_nil (q_then ?_)
          refine c_ret (q_blk_ret (q_then_ret (q_then_ret (q_blk_ret (q_then_ret ?_)))))
          exact q_ret Try.results50 (rv_tmp rfl rv_nil) ⟨_, rfl, H⟩
      · refine s_p rfl (yF (y_lss rfl rfl) c) ?_
        refine s_nil (q_then ?_)
        refine c_seq ?_
        refine c_f rfl rfl ?_
        refine c_exit (q_then_exit (q_then_exit (q_blk_out ?_)))
        exact hJx () _ _ _ _ [] H rfl True.intro rfl
  · clear H
    intro Jx_1 hJx_1 H
    refine c_seq ?_
    refine c_region ?_
    refine s_p rfl (y_move rfl) ?_
    refine s_p rfl (y_len rfl) ?_
    refine s_p rfl (y_move rfl) ?_
    refine s_p rfl (y_len rfl) ?_
    replace H := ite_e H
    rcases H with ⟨c_7, H⟩ | ⟨c_7, H⟩
    · refine s_p rfl (yT (y_neq rfl rfl) c_7) ?_
      refine s_nil (q_then ?_)
      refine c_t rfl rfl ?_
      refine c_seq ?_
      refine c_region ?_
      refine s_p rfl (y_assign rfl) ?_
      refine s_nil (q_then ?_)
      refine c_ret (q_then_ret ?_)
      exact q_ret Try.results50 (rv_tmp rfl rv_nil) ⟨_, rfl, H⟩
    · refine s_p rfl (yF (y_neq rfl rfl) c_7) ?_
      refine s_nil (q_then ?_)
      refine c_f rfl rfl ?_
      refine c_skip ?_
      exact hJx_1 () _ _ _ _ [] H rfl ⟨rfl, rfl, rfl, True.intro⟩ rfl
def b_guest_Same_f1 (S : Mem) (x : List Value) (y : List Value) (Q : Bool → Mem → Prop) : Prop :=
  x.length = 4 ∧
  y.length = 4 ∧
  fits [.i .u8, .i .i64, .i .i64, .i .i64] x = true ∧
  fits [.i .u8, .i .i64, .i .i64, .i .i64] y = true ∧
  if (eqL x y) = true then
    Q true S
  else
  gI (nthL x 0) .u8 fun t =>
  if t ≠ 3 then
    gI (nthL y 0) .u8 fun t_1 =>
    Q (decide (t_1 ≠ 3)) S
  else
  Q false S
theorem t_guest_Same_f1 {S : Mem} {x : List Value} {y : List Value} {Q : Bool → Mem → Prop} (H : b_guest_Same_f1 S x y Q) : guest_Same_f1 S x y Q := by
  unfold b_guest_Same_f1 at H
  refine Tr.intro Try.func51 rfl Try.ntmps51 rfl fun w0 => ?_
  obtain ⟨hx, H⟩ := H
  obtain ⟨hy, H⟩ := H
  refine c_seq ?_
  refine c_region ?_
  refine s_box rfl rfl rfl fun b => ?_
  refine s_box rfl rfl rfl fun b_1 => ?_
  refine s_p rfl (y_assign rfl) ?_
  refine s_nil (q_then ?_)
  refine c_seq ?_
  refine c_region ?_
  refine s_v rfl (y_ldA rfl hx) (hc_VP (k := 4) 0 rfl (lpart_all hx)) ?_
  refine s_v rfl (y_ldA rfl hy) (hc_VP (k := 4) 1 rfl (lpart_all hy)) ?_
  obtain ⟨c, H⟩ := H
  obtain ⟨c_1, H⟩ := H
  replace H := ite_e H
  rcases H with ⟨c_2, H⟩ | ⟨c_2, H⟩
  · refine s_p rfl (yB (y_eqA rfl rfl c c_1) c_2) ?_
    refine s_p rfl (y_move rfl) ?_
    refine s_skip rfl ?_
    refine s_skip rfl ?_
    refine s_skip rfl ?_
    refine s_skip rfl ?_
    refine s_skip rfl ?_
    refine s_skip rfl ?_
    refine s_skip rfl ?_
    refine s_skip rfl ?_
    refine s_p rfl (y_pick rfl rfl) ?_
    refine s_p rfl (y_assign rfl) ?_
    refine s_nil (q_then ?_)
    refine c_ret ?_
    exact q_ret Try.results51 (rv_tmp rfl rv_nil) ⟨_, rfl, H⟩
  · refine s_p rfl (yB (y_eqA rfl rfl c c_1) (bf_of c_2)) ?_
    refine s_p rfl (y_move rfl) ?_
    refine s_p rfl (y_fa rfl rfl) ?_
    obtain ⟨t, ht, H⟩ := H
    refine s_v rfl (y_ld rfl) (hc_V 0 rfl ht) ?_
    replace H := ite_e H
    rcases H with ⟨c_3, H⟩ | ⟨c_3, H⟩
    · refine s_p rfl (yT (y_neq rfl rfl) c_3) ?_
      refine s_p rfl (y_move rfl) ?_
      refine s_p rfl (y_fa rfl rfl) ?_
      obtain ⟨t_1, ht_1, H⟩ := H
      refine s_v rfl (y_ld rfl) (hc_V 1 rfl ht_1) ?_
      refine s_p rfl (y_neq rfl rfl) ?_
      refine s_p rfl (y_pick rfl rfl) ?_
      refine s_p rfl (y_pick rfl rfl) ?_
      refine s_p rfl (y_assign rfl) ?_
      refine s_nil (q_then ?_)
      refine c_ret ?_
      exact q_ret Try.results51 (rv_tmp rfl rv_nil) ⟨_, rfl, H⟩
    · refine s_p rfl (yF (y_neq rfl rfl) c_3) ?_
      refine s_p rfl (y_move rfl) ?_
      refine s_skip rfl ?_
      refine s_skip rfl ?_
      refine s_skip rfl ?_
      refine s_p rfl (y_pick rfl rfl) ?_
      refine s_p rfl (y_pick rfl rfl) ?_
      refine s_p rfl (y_assign rfl) ?_
      refine s_nil (q_then ?_)
      refine c_ret ?_
      exact q_ret Try.results51 (rv_tmp rfl rv_nil) ⟨_, rfl, H⟩
def b_slices_Equal_api_Seat_api_Seat (S : Mem) (s1_0 : Sl) (s2_0 : Sl) (Q : Bool → Mem → Prop) : Prop :=
  jn (fun (Sx : Mem) =>
      jn (fun (Sx_1 : Mem) =>
          Q true Sx_1) fun Jx =>
      lp (fun Xx (t : Int) (Sx_2 : Mem) =>
          if t < (s1_0.n : Int) then
            sl s1_0 fun b o n n_1 =>
            0 ≤ t ∧ t < ((n : Nat) : Int) ∧
            gA (Sx_2.part b (o + t.toNat * 26) 26) fun t_1 =>
            sl s2_0 fun b_1 o_1 n_2 n_3 =>
            0 ≤ t ∧ t < ((n_2 : Nat) : Int) ∧
            gA (Sx_2.part b_1 (o_1 + t.toNat * 26) 26) fun t_2 =>
            fits [.i .u64, .i .u64, .i .u64, .i .u64, .i .u64, .i .u64, .i .u64, .i .u64, .i .u64, .i .u64, .i .u64, .i .u64, .i .u64, .i .u64, .i .u64, .i .u64, .i .u64, .i .u64, .i .u64, .i .u64, .i .u64, .i .u64, .b, .i .u8, .i .u32, .i .u32] t_1 = true ∧
            fits [.i .u64, .i .u64, .i .u64, .i .u64, .i .u64, .i .u64, .i .u64, .i .u64, .i .u64, .i .u64, .i .u64, .i .u64, .i .u64, .i .u64, .i .u64, .i .u64, .i .u64, .i .u64, .i .u64, .i .u64, .i .u64, .i .u64, .b, .i .u8, .i .u32, .i .u32] t_2 = true ∧
            if (!(eqL t_1 t_2)) = true then
              Q false Sx_2
            else
            Xx (IntKind.i64.wrap (t + 1)) Sx_2
          else
          Jx Sx_2) 0 Sx) fun Jx_1 =>
  if (s1_0.n : Int) ≠ (s2_0.n : Int) then
    Q false S
  else
  Jx_1 S
theorem t_slices_Equal_api_Seat_api_Seat {S : Mem} {s1_0 : Sl} {s2_0 : Sl} {Q : Bool → Mem → Prop} (H : b_slices_Equal_api_Seat_api_Seat S s1_0 s2_0 Q) : slices_Equal_api_Seat_api_Seat S s1_0 s2_0 Q := by
  unfold b_slices_Equal_api_Seat_api_Seat at H
  refine Tr.intro Try.func52 rfl Try.ntmps52 rfl fun w0 => ?_
  refine c_seq ?_
  refine c_region ?_
  refine s_p rfl (y_assign rfl) ?_
  refine s_nil (q_then ?_)
  refine c_join2 H (fun (J : Mem → Prop) (z : Unit) S => J S) (fun z => ⟨26, [(0, eL s1_0), (1, eL s2_0)]⟩) (fun z => []) ?_ ?_
  · clear H
    rintro _ Sx H
    refine c_join2 H (fun (J : Mem → Prop) (z : Unit) S => J S) (fun z => ⟨26, []⟩) (fun z => []) ?_ ?_
    · clear H
      rintro _ Sx_1 H
      refine c_seq ?_
      refine c_region ?_
      refine s_p rfl (y_assign rfl) ?_
      refine s_nil (q_then ?_)
      refine c_ret ?_
      exact q_ret Try.results52 (rv_tmp rfl rv_nil) ⟨_, rfl, H⟩
    · clear H
      intro Jx hJx H
      refine c_seq ?_
      refine c_region ?_
      refine s_p rfl (y_move rfl) ?_
      refine s_p rfl (y_len rfl) ?_
      refine s_p rfl (y_move rfl) ?_
      refine s_nil (q_then ?_)
      refine c_block ?_
      refine c_loop (fun z => ⟨26, [(0, eL s1_0), (1, eL s2_0), (12, .int .i64 (s1_0.n : Int)), (13, .int .i64 z)]⟩) (fun z => []) 0 (idx := []) H rfl ⟨rfl, rfl, rfl, rfl, True.intro⟩ rfl ?_
      clear H
      rintro Xx hXx t Sx_2 H
      refine c_seq ?_
      refine c_region ?_
      replace H := ite_e H
      rcases H with ⟨c, H⟩ | ⟨c, H⟩
      · refine s_p rfl (yT (y_lss rfl rfl) c) ?_
        refine s_nil (q_then ?_)
        refine c_seq ?_
        refine c_t rfl rfl ?_
        refine c_skip (q_then ?_)
        refine c_seq ?_
        refine c_block ?_
        refine c_seq ?_
        refine c_region ?_
        refine s_p rfl (y_move rfl) ?_
        refine s_p rfl (y_assign rfl) ?_
        refine s_nil (q_then ?_)
        refine c_seq ?_
        refine c_drawn (by kernel_rfl) ?_
        refine a_takeP 0 rfl (by decide +kernel) (np_then (np_blk (np_then (np_then (np_blk (np_then np_body)))))) rfl (y_move rfl) ?_
        refine a_takeP 1 rfl (by decide +kernel) (np_then (np_blk (np_then (np_then (np_blk (np_then np_body)))))) rfl (y_move rfl) ?_
        obtain ⟨b, o, n, n_1, rfl, H⟩ := H
        obtain ⟨c_1, c_2, H⟩ := H
        refine a_takeP 2 rfl (by decide +kernel) (np_then (np_blk (np_then (np_then (np_blk (np_then np_body)))))) rfl (y_ixL rfl rfl c_1 c_2 rfl) ?_
        obtain ⟨t_1, ht_1, H⟩ := H
        refine a_take 3 rfl (by decide +kernel) (np_then (np_blk (np_then (np_then (np_blk (np_then np_body)))))) rfl (y_ldA rfl (part_len ht_1)) (hc_SP ht_1) ?_
        refine a_takeP 4 rfl (by decide +kernel) (np_then (np_blk (np_then (np_then (np_blk (np_then np_body)))))) rfl (y_move rfl) ?_
        refine a_takeP 5 rfl (by decide +kernel) (np_then (np_blk (np_then (np_then (np_blk (np_then np_body)))))) rfl (y_move rfl) ?_
        obtain ⟨b_1, o_1, n_2, n_3, rfl, H⟩ := H
        obtain ⟨c_3, c_4, H⟩ := H
        refine a_takeP 6 rfl (by decide +kernel) (np_then (np_blk (np_then (np_then (np_blk (np_then np_body)))))) rfl (y_ixL rfl rfl c_3 c_4 rfl) ?_
        obtain ⟨t_2, ht_2, H⟩ := H
        refine a_take 7 rfl (by decide +kernel) (np_then (np_blk (np_then (np_then (np_blk (np_then np_body)))))) rfl (y_ldA rfl (part_len ht_2)) (hc_SP ht_2) ?_
        obtain ⟨c_5, H⟩ := H
        obtain ⟨c_6, H⟩ := H
        replace H := ite_e H
        rcases H with ⟨c_7, H⟩ | ⟨c_7, H⟩
        · refine a_takeP 8 rfl (by decide +kernel) (np_then (np_blk (np_then (np_then (np_blk (np_then np_body)))))) rfl (yB (y_neA rfl rfl c_5 c_6) c_7) ?_
          refine a_done (by decide +kernel) ?_
          refine q_then ?_
          refine c_t rfl rfl ?_
          refine c_seq ?_
          refine c_region ?_
          refine s_p rfl (y_assign rfl) ?_
          refine s_nil (q_then ?_)
          refine c_ret (q_blk_ret (q_then_ret (q_then_ret (q_blk_ret (q_then_ret ?_)))))
          exact q_ret Try.results52 (rv_tmp rfl rv_nil) ⟨_, rfl, H⟩
        · refine a_takeP 8 rfl (by decide +kernel) (np_then (np_blk (np_then (np_then (np_blk (np_then np_body)))))) rfl (yB (y_neA rfl rfl c_5 c_6) (bf_of c_7)) ?_
          refine a_done (by decide +kernel) ?_
          refine q_then ?_
          refine c_f rfl rfl ?_
          refine c_skip (q_blk (q_then ?_))
          refine c_region ?_
          refine s_p rfl (y_add rfl rfl) ?_
          refine s_p rfl (y_move rfl) ?_
          refine s_nil ?_
          exact hXx (IntKind.i64.wrap (t + 1)) _ _ _ _ [] H rfl ⟨rfl, rfl, rfl, rfl, True.intro⟩ rfl
      · refine s_p rfl (yF (y_lss rfl rfl) c) ?_
        refine s_nil (q_then ?_)
        refine c_seq ?_
        refine c_f rfl rfl ?_
        refine c_exit (q_then_exit (q_then_exit (q_blk_out ?_)))
        exact hJx () _ _ _ _ [] H rfl True.intro rfl
  · clear H
    intro Jx_1 hJx_1 H
    refine c_seq ?_
    refine c_region ?_
    refine s_p rfl (y_move rfl) ?_
    refine s_p rfl (y_len rfl) ?_
    refine s_p rfl (y_move rfl) ?_
    refine s_p rfl (y_len rfl) ?_
    replace H := ite_e H
    rcases H with ⟨c_8, H⟩ | ⟨c_8, H⟩
    · refine s_p rfl (yT (y_neq rfl rfl) c_8) ?_
      refine s_nil (q_then ?_)
      refine c_t rfl rfl ?_
      refine c_seq ?_
      refine c_region ?_
      refine s_p rfl (y_assign rfl) ?_
      refine s_nil (q_then ?_)
      refine c_ret (q_then_ret ?_)
      exact q_ret Try.results52 (rv_tmp rfl rv_nil) ⟨_, rfl, H⟩
    · refine s_p rfl (yF (y_neq rfl rfl) c_8) ?_
      refine s_nil (q_then ?_)
      refine c_f rfl rfl ?_
      refine c_skip ?_
      exact hJx_1 () _ _ _ _ [] H rfl ⟨rfl, rfl, True.intro⟩ rfl
def b_bytes_Equal (S : Mem) (a : Sl) (b : Sl) (Q : Bool → Mem → Prop) : Prop :=
  bs S a fun s =>
  bs S b fun s_1 =>
  Q (decide (s = s_1)) S
theorem t_bytes_Equal {S : Mem} {a : Sl} {b : Sl} {Q : Bool → Mem → Prop} (H : b_bytes_Equal S a b Q) : bytes_Equal S a b Q := by
  unfold b_bytes_Equal at H
  refine Tr.intro Try.func53 rfl Try.ntmps53 rfl fun w0 => ?_
  refine c_seq ?_
  refine c_region ?_
  refine s_p rfl (y_assign rfl) ?_
  refine s_nil (q_then ?_)
  refine c_seq ?_
  refine c_region ?_
  refine s_p rfl (y_move rfl) ?_
  obtain ⟨xs, h, H⟩ := H
  obtain ⟨s, es, H⟩ := lt_e H
  refine s_v rfl (eqv (y_bs (s := a) rfl h) (congrArg Value.string es)) (hc_bs h) ?_
  refine s_p rfl (y_move rfl) ?_
  obtain ⟨xs_1, h_1, H⟩ := H
  obtain ⟨s_1, es_1, H⟩ := lt_e H
  refine s_v rfl (eqv (y_bs (s := b) rfl h_1) (congrArg Value.string es_1)) (hc_bs h_1) ?_
  refine s_p rfl (y_eqS rfl rfl) ?_
  refine s_p rfl (y_assign rfl) ?_
  refine s_nil (q_then ?_)
  refine c_ret ?_
  exact q_ret Try.results53 (rv_tmp rfl rv_nil) ⟨_, rfl, H⟩
def b_slices_Clone_api_Seat_api_Seat (S : Mem) (s : Sl) (Q : Sl → Mem → Prop) : Prop :=
  if s.p = none then
    Q (⟨none, 0, 0⟩) S
  else
  al S 72 ([]) fun b Sx =>
  sp Sx s 26 fun vs =>
  ap Sx 72 26 192 z72 (⟨some (b, 0), 0, 0⟩) s.n vs fun t Sx_1 =>
  Q t Sx_1
theorem t_slices_Clone_api_Seat_api_Seat {S : Mem} {s : Sl} {Q : Sl → Mem → Prop} (H : b_slices_Clone_api_Seat_api_Seat S s Q) : slices_Clone_api_Seat_api_Seat S s Q := by
  unfold b_slices_Clone_api_Seat_api_Seat at H
  refine Tr.intro Try.func54 rfl Try.ntmps54 rfl fun w0 => ?_
  refine c_seq ?_
  refine c_region ?_
  refine s_p rfl (y_assign rfl) ?_
  refine s_nil (q_then ?_)
  refine c_seq ?_
  refine c_seq ?_
  refine c_region ?_
  refine s_p rfl (y_move rfl) ?_
  replace H := ite_e H
  rcases H with ⟨c, H⟩ | ⟨c, H⟩
  · refine s_p rfl (yT (y_lnil (p := s.p) rfl rfl) c) ?_
    refine s_nil (q_then ?_)
    refine c_t rfl rfl ?_
    refine c_seq ?_
    refine c_region ?_
    refine s_p rfl (y_assign rfl) ?_
    refine s_nil (q_then ?_)
    refine c_ret (q_then_ret ?_)
    exact q_ret Try.results54 (rv_tmp rfl rv_nil) ⟨_, rfl, H⟩
  · refine s_p rfl (yF (y_lnil (p := s.p) rfl rfl) c) ?_
    refine s_nil (q_then ?_)
    refine c_f rfl rfl ?_
    refine c_skip (q_then ?_)
    refine c_seq ?_
    refine c_region ?_
    refine s_bs rfl rfl (by decide) rfl fun b => ?_
    refine s_pub 0 rfl fun hb => ?_
    replace H := H b hb
    refine s_p rfl (y_move rfl) ?_
    obtain ⟨vs, h, c_1, H⟩ := H
    refine s_app (sx := ⟨some (b, 0), 0, 0⟩) (vs := vs) rfl rfl rfl ((fc_sp h).1) ((fc_sp (P := Try.prog) (w0 := w0) (S0 := S) (V := []) h).2) c_1 (by decide) H fun t Sx_1 H2 => ?_
    replace H := H2
    refine s_p rfl (y_assign rfl) ?_
    refine s_nil (q_then ?_)
    refine c_ret ?_
    exact q_ret Try.results54 (rv_tmp rfl rv_nil) ⟨_, rfl, H⟩
def b_bytes_Clone (S : Mem) (b : Sl) (Q : Sl → Mem → Prop) : Prop :=
  if b.p = none then
    Q (⟨none, 0, 0⟩) S
  else
  al S 5 ([]) fun b_1 Sx =>
  sp Sx b 1 fun vs =>
  ap Sx 5 1 1 [.int .u8 0] (⟨some (b_1, 0), 0, 0⟩) b.n vs fun t Sx_1 =>
  Q t Sx_1
theorem t_bytes_Clone {S : Mem} {b : Sl} {Q : Sl → Mem → Prop} (H : b_bytes_Clone S b Q) : bytes_Clone S b Q := by
  unfold b_bytes_Clone at H
  refine Tr.intro Try.func55 rfl Try.ntmps55 rfl fun w0 => ?_
  refine c_seq ?_
  refine c_region ?_
  refine s_p rfl (y_assign rfl) ?_
  refine s_nil (q_then ?_)
  refine c_seq ?_
  refine c_seq ?_
  refine c_region ?_
  refine s_p rfl (y_move rfl) ?_
  replace H := ite_e H
  rcases H with ⟨c, H⟩ | ⟨c, H⟩
  · refine s_p rfl (yT (y_lnil (p := b.p) rfl rfl) c) ?_
    refine s_nil (q_then ?_)
    refine c_t rfl rfl ?_
    refine c_seq ?_
    refine c_region ?_
    refine s_p rfl (y_assign rfl) ?_
    refine s_nil (q_then ?_)
    refine c_ret (q_then_ret ?_)
    exact q_ret Try.results55 (rv_tmp rfl rv_nil) ⟨_, rfl, H⟩
  · refine s_p rfl (yF (y_lnil (p := b.p) rfl rfl) c) ?_
    refine s_nil (q_then ?_)
    refine c_f rfl rfl ?_
    refine c_skip (q_then ?_)
    refine c_seq ?_
    refine c_region ?_
    refine s_bs rfl rfl (by decide) rfl fun b_1 => ?_
    refine s_pub 0 rfl fun hb_1 => ?_
    replace H := H b_1 hb_1
    refine s_p rfl (y_move rfl) ?_
    obtain ⟨vs, h, c_1, H⟩ := H
    refine s_app (sx := ⟨some (b_1, 0), 0, 0⟩) (vs := vs) rfl rfl rfl ((fc_sp h).1) ((fc_sp (P := Try.prog) (w0 := w0) (S0 := S) (V := []) h).2) c_1 (by decide) H fun t Sx_1 H2 => ?_
    replace H := H2
    refine s_p rfl (y_assign rfl) ?_
    refine s_nil (q_then ?_)
    refine c_ret ?_
    exact q_ret Try.results55 (rv_tmp rfl rv_nil) ⟨_, rfl, H⟩
def b_slices_Clone_int_int (S : Mem) (s : Sl) (Q : Sl → Mem → Prop) : Prop :=
  if s.p = none then
    Q (⟨none, 0, 0⟩) S
  else
  al S 3 ([]) fun b Sx =>
  sp Sx s 1 fun vs =>
  ap Sx 3 1 8 [.int .i64 0] (⟨some (b, 0), 0, 0⟩) s.n vs fun t Sx_1 =>
  Q t Sx_1
theorem t_slices_Clone_int_int {S : Mem} {s : Sl} {Q : Sl → Mem → Prop} (H : b_slices_Clone_int_int S s Q) : slices_Clone_int_int S s Q := by
  unfold b_slices_Clone_int_int at H
  refine Tr.intro Try.func56 rfl Try.ntmps56 rfl fun w0 => ?_
  refine c_seq ?_
  refine c_region ?_
  refine s_p rfl (y_assign rfl) ?_
  refine s_nil (q_then ?_)
  refine c_seq ?_
  refine c_seq ?_
  refine c_region ?_
  refine s_p rfl (y_move rfl) ?_
  replace H := ite_e H
  rcases H with ⟨c, H⟩ | ⟨c, H⟩
  · refine s_p rfl (yT (y_lnil (p := s.p) rfl rfl) c) ?_
    refine s_nil (q_then ?_)
    refine c_t rfl rfl ?_
    refine c_seq ?_
    refine c_region ?_
    refine s_p rfl (y_assign rfl) ?_
    refine s_nil (q_then ?_)
    refine c_ret (q_then_ret ?_)
    exact q_ret Try.results56 (rv_tmp rfl rv_nil) ⟨_, rfl, H⟩
  · refine s_p rfl (yF (y_lnil (p := s.p) rfl rfl) c) ?_
    refine s_nil (q_then ?_)
    refine c_f rfl rfl ?_
    refine c_skip (q_then ?_)
    refine c_seq ?_
    refine c_region ?_
    refine s_bs rfl rfl (by decide) rfl fun b => ?_
    refine s_pub 0 rfl fun hb => ?_
    replace H := H b hb
    refine s_p rfl (y_move rfl) ?_
    obtain ⟨vs, h, c_1, H⟩ := H
    refine s_app (sx := ⟨some (b, 0), 0, 0⟩) (vs := vs) rfl rfl rfl ((fc_sp h).1) ((fc_sp (P := Try.prog) (w0 := w0) (S0 := S) (V := []) h).2) c_1 (by decide) H fun t Sx_1 H2 => ?_
    replace H := H2
    refine s_p rfl (y_assign rfl) ?_
    refine s_nil (q_then ?_)
    refine c_ret ?_
    exact q_ret Try.results56 (rv_tmp rfl rv_nil) ⟨_, rfl, H⟩
end Go.Proofs.Ytpilffakhkagjaa
