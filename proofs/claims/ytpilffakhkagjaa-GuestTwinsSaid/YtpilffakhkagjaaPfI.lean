/- PRINTED BY pt.py: functions. -/
import Derived.Test.YtpilffakhkagjaaPtS
namespace Go.Proofs.Ytpilffakhkagjaa
open Go Go.Pt
attribute [local irreducible] Code.wp Back bodyPost wpList FR WL WC WQ WA AW Tr Yc HC AllC
set_option maxRecDepth 20000
set_option maxHeartbeats 4000000
set_option linter.unusedVariables false
def b_hermitcrablaw23_awake (S : Mem) (Q : Bool → Mem → Prop) : Prop :=
  ideal_New S 9 fun t Sx =>
  ideal_Ideal_Create Sx t 1 4 4 (⟨none, 0, 0⟩) fun t_1 t_2 Sx_1 =>
  if t_2 = 0 then
    ideal_Ideal_Free Sx_1 t fun t_3 Sx_2 =>
    Q (decide (t_3 = 0)) Sx_2
  else
  Q false Sx_1
theorem t_hermitcrablaw23_awake {S : Mem} {Q : Bool → Mem → Prop} (H : b_hermitcrablaw23_awake S Q) : hermitcrablaw23_awake S Q := by
  unfold b_hermitcrablaw23_awake at H
  refine Tr.intro Try.func14 rfl Try.ntmps14 rfl fun w0 => ?_
  refine c_seq ?_
  refine c_region ?_
  refine s_p rfl (y_assign rfl) ?_
  refine s_nil (q_then ?_)
  refine c_seq ?_
  refine c_region ?_
  refine s_call rfl rfl H fun rv Sx H2 => ?_
  clear H
  obtain ⟨t, rfl, H⟩ := H2
  refine s_p rfl (y_assign rfl) ?_
  refine s_nil (q_then ?_)
  refine c_seq ?_
  refine c_region ?_
  refine s_p rfl (y_move rfl) ?_
  refine s_call rfl rfl H fun rv Sx_1 H2 => ?_
  clear H
  obtain ⟨t_1, t_2, rfl, H⟩ := H2
  refine s_p rfl (y_move rfl) ?_
  refine s_p rfl (y_extract rfl rfl) ?_
  refine s_p rfl (y_extract rfl rfl) ?_
  refine s_p rfl (y_assign rfl) ?_
  refine s_p rfl (y_assign rfl) ?_
  refine s_nil (q_then ?_)
  refine c_seq ?_
  refine c_region ?_
  refine s_p rfl (y_move rfl) ?_
  replace H := ite_e H
  rcases H with ⟨c, H⟩ | ⟨c, H⟩
  · refine s_p rfl (yT (y_eql rfl rfl) c) ?_
    refine s_p rfl (y_move rfl) ?_
    refine s_p rfl (y_move rfl) ?_
    refine s_call rfl rfl H fun rv Sx_2 H2 => ?_
    clear H
    obtain ⟨t_3, rfl, H⟩ := H2
    refine s_p rfl (y_eql rfl rfl) ?_
    refine s_p rfl (y_pick rfl rfl) ?_
    refine s_p rfl (y_assign rfl) ?_
    refine s_nil (q_then ?_)
    refine c_ret ?_
    exact q_ret Try.results14 (rv_tmp rfl rv_nil) ⟨_, rfl, H⟩
  · refine s_p rfl (yF (y_eql rfl rfl) c) ?_
    refine s_p rfl (y_move rfl) ?_
    refine s_skip rfl ?_
    refine s_skip rfl ?_
    refine s_skip rfl ?_
    refine s_p rfl (y_pick rfl rfl) ?_
    refine s_p rfl (y_assign rfl) ?_
    refine s_nil (q_then ?_)
    refine c_ret ?_
    exact q_ret Try.results14 (rv_tmp rfl rv_nil) ⟨_, rfl, H⟩
def b_ideal_New (S : Mem) (free : Int) (Q : Pt → Mem → Prop) : Prop :=
  al S 122 (spl z122 1 [.int .i64 free]) fun b Sx =>
  Q (some (b, 0)) Sx
theorem t_ideal_New {S : Mem} {free : Int} {Q : Pt → Mem → Prop} (H : b_ideal_New S free Q) : ideal_New S free Q := by
  unfold b_ideal_New at H
  refine Tr.intro Try.func15 rfl Try.ntmps15 rfl fun w0 => ?_
  refine c_seq ?_
  refine c_region ?_
  refine s_p rfl (y_assign rfl) ?_
  refine s_nil (q_then ?_)
  refine c_seq ?_
  refine c_region ?_
  refine s_p rfl (y_move rfl) ?_
  refine s_p rfl (y_build rfl (fill_cons (off := 1) (size := 1) rfl rfl (fit_of (n := 759) z122_len (by decide)) fill_nil)) ?_
  refine s_box rfl rfl rfl fun b => ?_
  refine s_pub 0 rfl fun hb => ?_
  replace H := H b hb
  refine s_p rfl (y_assign rfl) ?_
  refine s_nil (q_then ?_)
  refine c_ret ?_
  exact q_ret Try.results15 (rv_tmp rfl rv_nil) ⟨_, rfl, H⟩
def b_ideal_Ideal_Create (S : Mem) (x : Pt) (seats : Int) (quota : Int) (pages : Int) (image : Sl) (Q : Int → Int → Mem → Prop) : Prop :=
  guest_Make S seats quota fun t t_1 Sx =>
  t.all (·.oneCell') = true ∧
  jn (fun (Sx_1 : Mem) =>
      jn (fun (n : Int) (Sx_2 : Mem) =>
          jn (fun (Sx_3 : Mem) =>
              nn x fun b_1 o =>
              gI (Sx_3.cell b_1 (o + 1)) .i64 fun t_2 =>
              pt Sx_3 b_1 (o + 1) 1 ([.int .i64 (IntKind.i64.wrap (t_2 - (IntKind.i64.wrap (5 + pages))))]) fun Sx_4 =>
              gI (Sx_4.cell b_1 o) .u64 fun t_3 =>
              0 ≤ n ∧ n < 6 ∧
              (spl (spl z117 0 t) 108 [.int .u64 t_3]).all (·.oneCell') = true ∧
              pt Sx_4 b_1 (o + 2 + n.toNat * 109) 109 (spl (spl z117 0 t) 108 [.int .u64 t_3]) fun Sx_5 =>
              0 ≤ n ∧ n < 6 ∧
              pt Sx_5 b_1 (o + 753 + n.toNat * 1) 1 ([.slice (none) 0 0]) fun Sx_6 =>
              jn (fun (Sx_7 : Mem) =>
                  Q n 0 Sx_7) fun Jx =>
              lp (fun Xx (t_4 : Int) (Sx_8 : Mem) =>
                  if t_4 < pages then
                    al Sx_8 124 z124 fun b_2 Sx_9 =>
                    jn (fun (Sx_10 : Mem) =>
                        0 ≤ n ∧ n < 6 ∧
                        0 ≤ t_4 ∧ t_4 < 32 ∧
                        pt Sx_10 b_1 (o + 2 + n.toNat * 109 + 12 + t_4.toNat * 3) 3 ([.pointer (some ⟨b_2, 0, none⟩), .bool true, .bool true]) fun Sx_11 =>
                        Xx (IntKind.i64.wrap (t_4 + 1)) Sx_11) fun Jx_1 =>
                    if IntKind.i64.wrap (256 * t_4) < (image.n : Int) then
                      0 ≤ IntKind.i64.wrap (256 * t_4) ∧ IntKind.i64.wrap (256 * t_4) ≤ (image.n : Int) ∧ (image.n : Int) ≤ (image.c : Int) ∧
                      lt (slc 1 image (IntKind.i64.wrap (256 * t_4)) (image.n : Int)) fun t_5 =>
                      cpy Sx_9 1 ⟨some (b_2, 0), 256, 256⟩ t_5 fun t_6 Sx_12 =>
                      Jx_1 Sx_12
                    else
                    Jx_1 Sx_9
                  else
                  Jx Sx_8) 0 Sx_6) fun Jx_2 =>
          if n = 6 then
            Q 0 2 Sx_2
          else
          nn x fun b_3 o_1 =>
          gI (Sx_2.cell b_3 (o_1 + 1)) .i64 fun t_7 =>
          if t_7 < IntKind.i64.wrap (5 + pages) then
            Q 0 3 Sx_2
          else
          Jx_2 Sx_2) fun Jx_3 =>
      lp (fun Xx_1 (n_1 : Int) (Sx_13 : Mem) =>
          if n_1 < 6 then
            nn x fun b_4 o_2 =>
            0 ≤ n_1 ∧ n_1 < 6 ∧
            gB (Sx_13.cell b_4 (o_2 + 2 + n_1.toNat * 109)) fun t_8 =>
            if t_8 = true then
              Xx_1 (IntKind.i64.wrap (n_1 + 1)) Sx_13
            else
            Jx_3 n_1 Sx_13
          else
          Jx_3 n_1 Sx_13) 0 Sx_1) fun Jx_4 =>
  if x = none then
    Q 0 2 Sx
  else
  if t_1 ≠ 0 then
    Q 0 t_1 Sx
  else
  if pages < 1 then
    Q 0 1 Sx
  else
  if quota < pages then
    Q 0 1 Sx
  else
  if IntKind.i64.wrap (256 * pages) < (image.n : Int) then
    Q 0 6 Sx
  else
  Jx_4 Sx
theorem t_ideal_Ideal_Create {S : Mem} {x : Pt} {seats : Int} {quota : Int} {pages : Int} {image : Sl} {Q : Int → Int → Mem → Prop} (H : b_ideal_Ideal_Create S x seats quota pages image Q) : ideal_Ideal_Create S x seats quota pages image Q := by
  unfold b_ideal_Ideal_Create at H
  refine Tr.intro Try.func16 rfl Try.ntmps16 rfl fun w0 => ?_
  refine c_seq ?_
  refine c_region ?_
  refine s_p rfl (y_assign rfl) ?_
  refine s_p rfl (y_assign rfl) ?_
  refine s_nil (q_then ?_)
  refine c_seq ?_
  refine c_region ?_
  refine s_p rfl (y_move rfl) ?_
  refine s_p rfl (y_move rfl) ?_
  refine s_call rfl rfl H fun rv Sx H2 => ?_
  clear H
  obtain ⟨t, t_1, rfl, ht, H⟩ := H2
  refine s_p rfl (y_move rfl) ?_
  refine s_p rfl (y_extract rfl rfl) ?_
  refine s_p rfl (y_extract rfl rfl) ?_
  refine s_alloc rfl fun b => ?_
  obtain ⟨c, H⟩ := H
  refine s_stV_all 0 rfl rfl rfl rfl rfl ht rfl c ?_
  refine s_p rfl (y_assign rfl) ?_
  refine s_nil (q_then ?_)
  refine c_join2 H (fun (J : Mem → Prop) (z : Unit) S => J S) (fun z => ⟨126, [(0, eP x), (3, .int .i64 pages), (4, eL image), (12, .pointer (some ⟨b, 0, none⟩))]⟩) (fun z => [⟨b, 31, t⟩]) ?_ ?_
  · clear H
    rintro _ Sx_1 H
    refine c_seq ?_
    refine c_region ?_
    refine s_p rfl (y_assign rfl) ?_
    refine s_nil (q_then ?_)
    refine c_join2 H (fun (J : Int → Mem → Prop) (z : Int) S => J z S) (fun z => ⟨126, [(0, eP x), (3, .int .i64 pages), (4, eL image), (12, .pointer (some ⟨b, 0, none⟩)), (14, .int .i64 z)]⟩) (fun z => [⟨b, 31, t⟩]) ?_ ?_
    · clear H
      rintro n Sx_2 H
      refine c_join2 H (fun (J : Mem → Prop) (z : Unit) S => J S) (fun z => ⟨126, [(0, eP x), (3, .int .i64 pages), (4, eL image), (12, .pointer (some ⟨b, 0, none⟩)), (14, .int .i64 n)]⟩) (fun z => [⟨b, 31, t⟩]) ?_ ?_
      · clear H
        rintro _ Sx_3 H
        refine c_seq ?_
        refine c_region ?_
        refine s_p rfl (y_move rfl) ?_
        obtain ⟨b_1, o, rfl, H⟩ := H
        refine s_p rfl (y_nc rfl) ?_
        refine s_p rfl (y_fa rfl rfl) ?_
        obtain ⟨t_2, ht_2, H⟩ := H
        refine s_v rfl (y_ld rfl) (hc_S ht_2) ?_
        refine s_p rfl (y_move rfl) ?_
        refine s_p rfl (y_add rfl rfl) ?_
        refine s_p rfl (y_sub rfl rfl) ?_
        refine s_p rfl (y_nc rfl) ?_
        refine s_p rfl (y_fa rfl rfl) ?_
        obtain ⟨c_1, H⟩ := H
        refine s_stS rfl rfl rfl rfl rfl c_1 rfl ?_
        refine s_nil (q_then ?_)
        refine c_seq ?_
        refine c_drawn (by kernel_rfl) ?_
        refine a_takeP 0 rfl (by decide +kernel) (np_then np_body) rfl (y_move rfl) ?_
        refine a_takeP 1 rfl (by decide +kernel) (np_then np_body) rfl (y_move rfl) ?_
        refine a_takeP 2 rfl (by decide +kernel) (np_then np_body) rfl (y_move rfl) ?_
        refine a_takeP 3 rfl (by decide +kernel) (np_then np_body) rfl (y_move rfl) ?_
        refine a_take 4 rfl (by decide +kernel) (np_then np_body) rfl (y_ldA rfl ht) (hc_VP (k := 12) 0 rfl (lpart_all ht)) ?_
        refine a_takeP 5 rfl (by decide +kernel) (np_then np_body) rfl (y_move rfl) ?_
        refine a_takeP 6 rfl (by decide +kernel) (np_then np_body) rfl (y_nc rfl) ?_
        refine a_takeP 7 rfl (by decide +kernel) (np_then np_body) rfl (y_fa rfl rfl) ?_
        obtain ⟨t_3, ht_3, H⟩ := H
        refine a_take 8 rfl (by decide +kernel) (np_then np_body) rfl (y_ld rfl) (hc_S ht_3) ?_
        refine a_takeP 9 rfl (by decide +kernel) (np_then np_body) rfl (y_build rfl (fill_cons (off := 0) (size := 12) rfl ht (fit_of (n := 109) z117_len (by decide)) (fill_cons (off := 108) (size := 1) rfl rfl (fit_of (n := 109) (spl_at (m := 12) z117_len ht (by decide)) (by decide)) fill_nil))) ?_
        refine a_takeP 10 rfl (by decide +kernel) (np_then np_body) rfl (y_nc rfl) ?_
        refine a_takeP 11 rfl (by decide +kernel) (np_then np_body) rfl (y_fa rfl rfl) ?_
        obtain ⟨c_2, c_3, H⟩ := H
        refine a_takeP 12 rfl (by decide +kernel) (np_then np_body) rfl (y_ixA rfl rfl c_2 c_3 rfl) ?_
        refine a_takeP 14 rfl (by decide +kernel) (np_then np_body) rfl (y_nc rfl) ?_
        refine a_takeP 15 rfl (by decide +kernel) (np_then np_body) rfl (y_fa rfl rfl) ?_
        refine a_step 13 (by decide +kernel) rfl ?_
        obtain ⟨c_4, H⟩ := H
        obtain ⟨c_5, H⟩ := H
        refine s_stS rfl rfl rfl rfl (spl_at (m := 1) (spl_at (m := 12) z117_len ht (by decide)) rfl (by decide)) c_5 c_4 ?_
        refine s_nil (q_any ac_nil ?_)
        obtain ⟨c_6, c_7, H⟩ := H
        refine a_takeP 16 rfl (by decide +kernel) (np_then np_body) rfl (y_ixA rfl rfl c_6 c_7 rfl) ?_
        refine a_step 17 (by decide +kernel) rfl ?_
        obtain ⟨c_8, H⟩ := H
        refine s_stS rfl rfl rfl rfl rfl c_8 rfl ?_
        refine s_nil (q_any ac_nil ?_)
        refine a_done (by decide +kernel) ?_
        refine q_then ?_
        refine c_join2 H (fun (J : Mem → Prop) (z : Unit) S => J S) (fun z => ⟨126, [(14, .int .i64 n)]⟩) (fun z => []) ?_ ?_
        · clear H
          rintro _ Sx_7 H
          refine c_seq ?_
          refine c_region ?_
          refine s_p rfl (y_move rfl) ?_
          refine s_p rfl (y_assign rfl) ?_
          refine s_p rfl (y_assign rfl) ?_
          refine s_nil (q_then ?_)
          refine c_ret ?_
          exact q_ret Try.results16 (rv_tmp rfl (rv_tmp rfl rv_nil)) ⟨_, _, rfl, H⟩
        · clear H
          intro Jx hJx H
          refine c_seq ?_
          refine c_region ?_
          refine s_p rfl (y_move rfl) ?_
          refine s_p rfl (y_move rfl) ?_
          refine s_nil (q_then ?_)
          refine c_block ?_
          refine c_loop (fun z => ⟨126, [(0, .pointer (some ⟨b_1, o, none⟩)), (4, eL image), (14, .int .i64 n), (95, .int .i64 pages), (96, .int .i64 z)]⟩) (fun z => []) 0 (idx := []) H rfl ⟨rfl, rfl, rfl, rfl, rfl, True.intro⟩ rfl ?_
          clear H
          rintro Xx hXx t_4 Sx_8 H
          refine c_seq ?_
          refine c_region ?_
          replace H := ite_e H
          rcases H with ⟨c_9, H⟩ | ⟨c_9, H⟩
          · refine s_p rfl (yT (y_lss rfl rfl) c_9) ?_
            refine s_nil (q_then ?_)
            refine c_seq ?_
            refine c_t rfl rfl ?_
            refine c_skip (q_then ?_)
            refine c_seq ?_
            refine c_block ?_
            refine c_seq ?_
            refine c_region ?_
            refine s_p rfl (y_move rfl) ?_
            refine s_p rfl (y_assign rfl) ?_
            refine s_nil (q_then ?_)
            refine c_seq ?_
            refine c_region ?_
            refine s_p rfl (y_build rfl fill_nil) ?_
            refine s_box rfl rfl rfl fun b_2 => ?_
            refine s_pub 0 rfl fun hb_2 => ?_
            replace H := H b_2 hb_2
            refine s_p rfl (y_assign rfl) ?_
            refine s_nil (q_then ?_)
            refine c_join2 H (fun (J : Mem → Prop) (z : Unit) S => J S) (fun z => ⟨126, [(0, .pointer (some ⟨b_1, o, none⟩)), (4, eL image), (14, .int .i64 n), (15, .int .i64 t_4), (16, .pointer (some ⟨b_2, 0, none⟩)), (95, .int .i64 pages), (96, .int .i64 t_4)]⟩) (fun z => []) ?_ ?_
            · clear H
              rintro _ Sx_10 H
              refine c_region ?_
              refine s_p rfl (y_move rfl) ?_
              refine s_p rfl (y_move rfl) ?_
              refine s_p rfl (y_move rfl) ?_
              refine s_p rfl (y_move rfl) ?_
              refine s_p rfl (y_build rfl rfl) ?_
              refine s_p rfl (y_nc rfl) ?_
              refine s_p rfl (y_fa rfl rfl) ?_
              obtain ⟨c_10, c_11, H⟩ := H
              refine s_p rfl (y_ixA rfl rfl c_10 c_11 rfl) ?_
              refine s_p rfl (y_fa rfl rfl) ?_
              obtain ⟨c_12, c_13, H⟩ := H
              refine s_p rfl (y_ixA rfl rfl c_12 c_13 rfl) ?_
              obtain ⟨c_14, H⟩ := H
              refine s_stS rfl rfl rfl rfl rfl c_14 rfl ?_
              refine s_nil (q_blk (q_then ?_))
              refine c_region ?_
              refine s_p rfl (y_add rfl rfl) ?_
              refine s_p rfl (y_move rfl) ?_
              refine s_nil ?_
              exact hXx (IntKind.i64.wrap (t_4 + 1)) _ _ _ _ [] H rfl ⟨rfl, rfl, rfl, rfl, rfl, True.intro⟩ rfl
            · clear H
              intro Jx_1 hJx_1 H
              refine c_seq ?_
              refine c_region ?_
              refine s_p rfl (y_move rfl) ?_
              refine s_p rfl (y_mul rfl rfl) ?_
              refine s_p rfl (y_assign rfl) ?_
              refine s_nil (q_then ?_)
              refine c_seq ?_
              refine c_region ?_
              refine s_p rfl (y_move rfl) ?_
              refine s_p rfl (y_move rfl) ?_
              refine s_p rfl (y_len rfl) ?_
              replace H := ite_e H
              rcases H with ⟨c_15, H⟩ | ⟨c_15, H⟩
              · refine s_p rfl (yT (y_lss rfl rfl) c_15) ?_
                refine s_nil (q_then ?_)
                refine c_t rfl rfl ?_
                refine c_drawn (by kernel_rfl) ?_
                refine a_takeP 0 rfl (by decide +kernel) (np_then (np_blk (np_then (np_then (np_blk (np_then np_body)))))) rfl (y_move rfl) ?_
                refine a_takeP 1 rfl (by decide +kernel) (np_then (np_blk (np_then (np_then (np_blk (np_then np_body)))))) rfl (y_nc rfl) ?_
                refine a_takeP 2 rfl (by decide +kernel) (np_then (np_blk (np_then (np_then (np_blk (np_then np_body)))))) rfl (y_slcA rfl) ?_
                refine a_takeP 3 rfl (by decide +kernel) (np_then (np_blk (np_then (np_then (np_blk (np_then np_body)))))) rfl (y_move rfl) ?_
                refine a_takeP 4 rfl (by decide +kernel) (np_then (np_blk (np_then (np_then (np_blk (np_then np_body)))))) rfl (y_move rfl) ?_
                obtain ⟨c_16, c_17, c_18, H⟩ := H
                obtain ⟨t_5, et_5, H⟩ := lt_e H
                refine a_takeP 5 rfl (by decide +kernel) (np_then (np_blk (np_then (np_then (np_blk (np_then np_body)))))) rfl (eqv (y_slc (a := IntKind.i64.wrap (256 * t_4)) (b := (image.n : Int)) rfl rfl rfl c_16 c_17 c_18) (congrArg eL et_5)) ?_
                refine a_step 6 (by decide +kernel) rfl ?_
                refine s_cpy (sd := ⟨some (b_2, 0), 256, 256⟩) (ss := t_5) rfl rfl rfl H fun t_6 Sx_12 H2 => ?_
                replace H := H2
                refine s_nil (q_any ac_nil ?_)
                refine a_done (by decide +kernel) ?_
                exact hJx_1 () _ _ _ _ [] H rfl ⟨rfl, rfl, rfl, rfl, rfl, rfl, rfl, True.intro⟩ rfl
              · refine s_p rfl (yF (y_lss rfl rfl) c_15) ?_
                refine s_nil (q_then ?_)
                refine c_f rfl rfl ?_
                refine c_skip ?_
                exact hJx_1 () _ _ _ _ [] H rfl ⟨rfl, rfl, rfl, rfl, rfl, rfl, rfl, True.intro⟩ rfl
          · refine s_p rfl (yF (y_lss rfl rfl) c_9) ?_
            refine s_nil (q_then ?_)
            refine c_seq ?_
            refine c_f rfl rfl ?_
            refine c_exit (q_then_exit (q_then_exit (q_blk_out ?_)))
            exact hJx () _ _ _ _ [] H rfl ⟨rfl, True.intro⟩ rfl
      · clear H
        intro Jx_2 hJx_2 H
        refine c_block ?_
        refine c_seq ?_
        refine c_region ?_
        refine s_p rfl (y_move rfl) ?_
        replace H := ite_e H
        rcases H with ⟨c_19, H⟩ | ⟨c_19, H⟩
        · refine s_p rfl (yT (y_eql rfl rfl) c_19) ?_
          refine s_p rfl (y_assign rfl) ?_
          refine s_nil (q_then ?_)
          refine c_t rfl rfl ?_
          refine c_seq ?_
          refine c_region ?_
          refine s_p rfl (y_assign rfl) ?_
          refine s_p rfl (y_assign rfl) ?_
          refine s_nil (q_then ?_)
          refine c_ret (q_blk_ret (q_then_ret ?_))
          exact q_ret Try.results16 (rv_tmp rfl (rv_tmp rfl rv_nil)) ⟨_, _, rfl, H⟩
        · refine s_p rfl (yF (y_eql rfl rfl) c_19) ?_
          refine s_p rfl (y_assign rfl) ?_
          refine s_nil (q_then ?_)
          refine c_f rfl rfl ?_
          refine c_seq ?_
          refine c_region ?_
          refine s_p rfl (y_move rfl) ?_
          obtain ⟨b_3, o_1, rfl, H⟩ := H
          refine s_p rfl (y_nc rfl) ?_
          refine s_p rfl (y_fa rfl rfl) ?_
          obtain ⟨t_7, ht_7, H⟩ := H
          refine s_v rfl (y_ld rfl) (hc_S ht_7) ?_
          refine s_p rfl (y_move rfl) ?_
          refine s_p rfl (y_add rfl rfl) ?_
          replace H := ite_e H
          rcases H with ⟨c_20, H⟩ | ⟨c_20, H⟩
          · refine s_p rfl (yT (y_lss rfl rfl) c_20) ?_
            refine s_p rfl (y_assign rfl) ?_
            refine s_nil (q_then ?_)
            refine c_t rfl rfl ?_
            refine c_seq ?_
            refine c_region ?_
            refine s_p rfl (y_assign rfl) ?_
            refine s_p rfl (y_assign rfl) ?_
            refine s_nil (q_then ?_)
            refine c_ret (q_blk_ret (q_then_ret ?_))
            exact q_ret Try.results16 (rv_tmp rfl (rv_tmp rfl rv_nil)) ⟨_, _, rfl, H⟩
          · refine s_p rfl (yF (y_lss rfl rfl) c_20) ?_
            refine s_p rfl (y_assign rfl) ?_
            refine s_nil (q_then ?_)
            refine c_f rfl rfl ?_
            refine c_skip (q_blk ?_)
            exact hJx_2 () _ _ _ _ [0] H rfl ⟨rfl, rfl, rfl, rfl, rfl, True.intro⟩ rfl
    · clear H
      intro Jx_3 hJx_3 H
      refine c_block ?_
      refine c_loop (fun z => ⟨126, [(0, eP x), (3, .int .i64 pages), (4, eL image), (12, .pointer (some ⟨b, 0, none⟩)), (14, .int .i64 z)]⟩) (fun z => [⟨b, 31, t⟩]) 0 (idx := [0]) H rfl ⟨rfl, rfl, rfl, rfl, rfl, True.intro⟩ rfl ?_
      clear H
      rintro Xx_1 hXx_1 n_1 Sx_13 H
      refine c_seq ?_
      refine c_seq ?_
      refine c_region ?_
      refine s_p rfl (y_move rfl) ?_
      replace H := ite_e H
      rcases H with ⟨c_21, H⟩ | ⟨c_21, H⟩
      · refine s_p rfl (yT (y_lss rfl rfl) c_21) ?_
        refine s_p rfl (y_move rfl) ?_
        refine s_p rfl (y_move rfl) ?_
        refine s_p rfl (y_move rfl) ?_
        obtain ⟨b_4, o_2, rfl, H⟩ := H
        refine s_p rfl (y_nc rfl) ?_
        refine s_p rfl (y_fa rfl rfl) ?_
        obtain ⟨c_22, c_23, H⟩ := H
        refine s_p rfl (y_ixA rfl rfl c_22 c_23 rfl) ?_
        refine s_p rfl (y_fa rfl rfl) ?_
        refine s_p rfl (y_fa rfl rfl) ?_
        obtain ⟨t_8, ht_8, H⟩ := H
        replace H := ib_e H
        rcases H with ⟨rfl, H⟩ | ⟨rfl, H⟩
        · refine s_v rfl (y_ld rfl) (hc_S ht_8) ?_
          refine s_p rfl (y_pick rfl rfl) ?_
          refine s_nil (q_then ?_)
          refine c_t rfl rfl ?_
          refine c_skip (q_then ?_)
          refine c_block ?_
          refine c_region ?_
          refine s_p rfl (y_move rfl) ?_
          refine s_p rfl (y_add rfl rfl) ?_
          refine s_p rfl (y_assign rfl) ?_
          refine s_nil (q_blk ?_)
          exact hXx_1 (IntKind.i64.wrap (n_1 + 1)) _ _ _ _ [0] H rfl ⟨rfl, rfl, rfl, rfl, rfl, True.intro⟩ rfl
        · refine s_v rfl (y_ld rfl) (hc_S ht_8) ?_
          refine s_p rfl (y_pick rfl rfl) ?_
          refine s_nil (q_then ?_)
          refine c_f rfl rfl ?_
          refine c_exit (q_then_exit (q_then_exit (q_blk_out ?_)))
          exact hJx_3 n_1 _ _ _ _ [0] H rfl ⟨rfl, rfl, rfl, rfl, rfl, True.intro⟩ rfl
      · refine s_p rfl (yF (y_lss rfl rfl) c_21) ?_
        refine s_p rfl (y_move rfl) ?_
        refine s_skip rfl ?_
        refine s_skip rfl ?_
        refine s_skip rfl ?_
        refine s_skip rfl ?_
        refine s_skip rfl ?_
        refine s_skip rfl ?_
        refine s_skip rfl ?_
        refine s_skip rfl ?_
        refine s_p rfl (y_pick rfl rfl) ?_
        refine s_nil (q_then ?_)
        refine c_f rfl rfl ?_
        refine c_exit (q_then_exit (q_then_exit (q_blk_out ?_)))
        exact hJx_3 n_1 _ _ _ _ [0] H rfl ⟨rfl, rfl, rfl, rfl, rfl, True.intro⟩ rfl
  · clear H
    intro Jx_4 hJx_4 H
    refine c_block ?_
    refine c_seq ?_
    refine c_region ?_
    refine s_p rfl (y_move rfl) ?_
    replace H := ite_e H
    rcases H with ⟨c_24, H⟩ | ⟨c_24, H⟩
    · refine s_p rfl (yT (y_pnil (p := x) rfl rfl) c_24) ?_
      refine s_p rfl (y_assign rfl) ?_
      refine s_nil (q_then ?_)
      refine c_t rfl rfl ?_
      refine c_seq ?_
      refine c_region ?_
      refine s_p rfl (y_assign rfl) ?_
      refine s_p rfl (y_assign rfl) ?_
      refine s_nil (q_then ?_)
      refine c_ret (q_blk_ret (q_then_ret ?_))
      exact q_ret Try.results16 (rv_tmp rfl (rv_tmp rfl rv_nil)) ⟨_, _, rfl, H⟩
    · refine s_p rfl (yF (y_pnil (p := x) rfl rfl) c_24) ?_
      refine s_p rfl (y_assign rfl) ?_
      refine s_nil (q_then ?_)
      refine c_f rfl rfl ?_
      refine c_seq ?_
      refine c_region ?_
      refine s_p rfl (y_move rfl) ?_
      replace H := ite_e H
      rcases H with ⟨c_25, H⟩ | ⟨c_25, H⟩
      · refine s_p rfl (yT (y_neq rfl rfl) c_25) ?_
        refine s_p rfl (y_assign rfl) ?_
        refine s_nil (q_then ?_)
        refine c_t rfl rfl ?_
        refine c_seq ?_
        refine c_region ?_
        refine s_p rfl (y_move rfl) ?_
        refine s_p rfl (y_assign rfl) ?_
        refine s_p rfl (y_assign rfl) ?_
        refine s_nil (q_then ?_)
        refine c_ret (q_blk_ret (q_then_ret ?_))
        exact q_ret Try.results16 (rv_tmp rfl (rv_tmp rfl rv_nil)) ⟨_, _, rfl, H⟩
      · refine s_p rfl (yF (y_neq rfl rfl) c_25) ?_
        refine s_p rfl (y_assign rfl) ?_
        refine s_nil (q_then ?_)
        refine c_f rfl rfl ?_
        refine c_seq ?_
        refine c_region ?_
        refine s_p rfl (y_move rfl) ?_
        replace H := ite_e H
        rcases H with ⟨c_26, H⟩ | ⟨c_26, H⟩
        · refine s_p rfl (yT (y_lss rfl rfl) c_26) ?_
          refine s_p rfl (y_move rfl) ?_
          refine s_skip rfl ?_
          refine s_skip rfl ?_
          refine s_skip rfl ?_
          refine s_p rfl (y_pick rfl rfl) ?_
          refine s_p rfl (y_assign rfl) ?_
          refine s_nil (q_then ?_)
          refine c_t rfl rfl ?_
          refine c_seq ?_
          refine c_region ?_
          refine s_p rfl (y_assign rfl) ?_
          refine s_p rfl (y_assign rfl) ?_
          refine s_nil (q_then ?_)
          refine c_ret (q_blk_ret (q_then_ret ?_))
          exact q_ret Try.results16 (rv_tmp rfl (rv_tmp rfl rv_nil)) ⟨_, _, rfl, H⟩
        · refine s_p rfl (yF (y_lss rfl rfl) c_26) ?_
          refine s_p rfl (y_move rfl) ?_
          refine s_p rfl (y_move rfl) ?_
          refine s_p rfl (y_move rfl) ?_
          replace H := ite_e H
          rcases H with ⟨c_27, H⟩ | ⟨c_27, H⟩
          · refine s_p rfl (yT (y_gtr rfl rfl) c_27) ?_
            refine s_p rfl (y_pick rfl rfl) ?_
            refine s_p rfl (y_assign rfl) ?_
            refine s_nil (q_then ?_)
            refine c_t rfl rfl ?_
            refine c_seq ?_
            refine c_region ?_
            refine s_p rfl (y_assign rfl) ?_
            refine s_p rfl (y_assign rfl) ?_
            refine s_nil (q_then ?_)
            refine c_ret (q_blk_ret (q_then_ret ?_))
            exact q_ret Try.results16 (rv_tmp rfl (rv_tmp rfl rv_nil)) ⟨_, _, rfl, H⟩
          · refine s_p rfl (yF (y_gtr rfl rfl) c_27) ?_
            refine s_p rfl (y_pick rfl rfl) ?_
            refine s_p rfl (y_assign rfl) ?_
            refine s_nil (q_then ?_)
            refine c_f rfl rfl ?_
            refine c_seq ?_
            refine c_region ?_
            refine s_p rfl (y_move rfl) ?_
            refine s_p rfl (y_len rfl) ?_
            refine s_p rfl (y_move rfl) ?_
            refine s_p rfl (y_mul rfl rfl) ?_
            replace H := ite_e H
            rcases H with ⟨c_28, H⟩ | ⟨c_28, H⟩
            · refine s_p rfl (yT (y_gtr rfl rfl) c_28) ?_
              refine s_p rfl (y_assign rfl) ?_
              refine s_nil (q_then ?_)
              refine c_t rfl rfl ?_
              refine c_seq ?_
              refine c_region ?_
              refine s_p rfl (y_assign rfl) ?_
              refine s_p rfl (y_assign rfl) ?_
              refine s_nil (q_then ?_)
              refine c_ret (q_blk_ret (q_then_ret ?_))
              exact q_ret Try.results16 (rv_tmp rfl (rv_tmp rfl rv_nil)) ⟨_, _, rfl, H⟩
            · refine s_p rfl (yF (y_gtr rfl rfl) c_28) ?_
              refine s_p rfl (y_assign rfl) ?_
              refine s_nil (q_then ?_)
              refine c_f rfl rfl ?_
              refine c_skip (q_blk ?_)
              exact hJx_4 () _ _ _ _ [0] H rfl ⟨rfl, rfl, rfl, rfl, True.intro⟩ rfl
def b_ideal_Ideal_Destroy (S : Mem) (x : Pt) (n : Int) (Q : Int → Mem → Prop) : Prop :=
  jn (fun (Sx : Mem) =>
      jn (fun (Sx_1 : Mem) =>
          nn x fun b o =>
          gI (Sx_1.cell b (o + 1)) .i64 fun t =>
          ideal_Ideal_pages Sx_1 (some (b, o)) n fun t_1 Sx_2 =>
          Sx_2.cell b (o + 1) = some (.int .i64 t) ∧
          pt Sx_2 b (o + 1) 1 ([.int .i64 (IntKind.i64.wrap (t + (IntKind.i64.wrap (5 + t_1))))]) fun Sx_3 =>
          alarm_Clock_DropVM Sx_3 (some (b, o + 752)) n fun Sx_4 =>
          0 ≤ n ∧ n < 6 ∧
          z117.all (·.oneCell') = true ∧
          pt Sx_4 b (o + 2 + n.toNat * 109) 109 z117 fun Sx_5 =>
          jn (fun (Sx_6 : Mem) =>
              Q 0 Sx_6) fun Jx =>
          lp (fun Xx (t_2 : Int) (Sx_7 : Mem) =>
              if t_2 < 6 then
                0 ≤ t_2 ∧ t_2 < 6 ∧
                gI (Sx_7.cell b (o + 2 + t_2.toNat * 109 + 11)) .u32 fun t_3 =>
                0 ≤ n ∧
                0 ≤ t_2 ∧ t_2 < 6 ∧
                pt Sx_7 b (o + 2 + t_2.toNat * 109 + 11) 1 ([.int .u32 (iandn .u32 t_3 (ishl .u32 1 n))]) fun Sx_8 =>
                Xx (IntKind.i64.wrap (t_2 + 1)) Sx_8
              else
              Jx Sx_7) 0 Sx_5) fun Jx_1 =>
      nn x fun b_1 o_1 =>
      gA (Sx.part b_1 (o_1 + 656) 96) fun t_4 =>
      lease_Book_Of Sx t_4 n fun t_5 Sx_9 =>
      lp (fun Xx_1 (t_6 : Int) (Sx_10 : Mem) =>
          if t_6 < (t_5.n : Int) then
            sl t_5 fun b_2 o_2 n_1 n_2 =>
            0 ≤ t_6 ∧ t_6 < ((n_1 : Nat) : Int) ∧
            gI (Sx_10.cell b_2 (o_2 + t_6.toNat * 1)) .i64 fun t_7 =>
            jn (fun (Sx_11 : Mem) =>
                gA (Sx_11.part b_1 (o_1 + 656) 96) fun t_8 =>
                lease_Book_Drop Sx_11 t_8 t_7 fun t_9 Sx_12 =>
                t_9.all (·.oneCell') = true ∧
                pt Sx_12 b_1 (o_1 + 656) 96 t_9 fun Sx_13 =>
                Xx_1 (IntKind.i64.wrap (t_6 + 1)) Sx_13) fun Jx_2 =>
            gA (Sx_10.part b_1 (o_1 + 656) 96) fun t_10 =>
            lease_Book_Get Sx_10 t_10 t_7 fun t_11 t_12 Sx_14 =>
            t_11.all (·.oneCell') = true ∧
            gI (nthL t_11 5) .i64 fun t_13 =>
            if 0 ≤ t_13 then
              gI (nthL t_11 3) .i64 fun t_14 =>
              gI (nthL t_11 5) .i64 fun t_15 =>
              0 ≤ t_14 ∧ t_14 < 6 ∧
              0 ≤ t_15 ∧ t_15 < 32 ∧
              pt Sx_14 b_1 (o_1 + 2 + t_14.toNat * 109 + 12 + t_15.toNat * 3) 3 ([.pointer none, .bool false, .bool false]) fun Sx_15 =>
              Jx_2 Sx_15
            else
            Jx_2 Sx_14
          else
          Jx_1 Sx_10) 0 Sx_9) fun Jx_3 =>
  ideal_Ideal_there S x n fun t_16 Sx_16 =>
  if t_16 = true then
    Jx_3 Sx_16
  else
  Q 2 Sx_16
theorem t_ideal_Ideal_Destroy {S : Mem} {x : Pt} {n : Int} {Q : Int → Mem → Prop} (H : b_ideal_Ideal_Destroy S x n Q) : ideal_Ideal_Destroy S x n Q := by
  unfold b_ideal_Ideal_Destroy at H
  refine Tr.intro Try.func17 rfl Try.ntmps17 rfl fun w0 => ?_
  refine c_seq ?_
  refine c_region ?_
  refine s_p rfl (y_assign rfl) ?_
  refine s_nil (q_then ?_)
  refine c_join2 H (fun (J : Mem → Prop) (z : Unit) S => J S) (fun z => ⟨100, [(0, eP x), (1, .int .i64 n)]⟩) (fun z => []) ?_ ?_
  · clear H
    rintro _ Sx H
    refine c_join2 H (fun (J : Mem → Prop) (z : Unit) S => J S) (fun z => ⟨100, [(0, eP x), (1, .int .i64 n)]⟩) (fun z => []) ?_ ?_
    · clear H
      rintro _ Sx_1 H
      refine c_seq ?_
      refine c_drawn (by kernel_rfl) ?_
      refine a_takeP 0 rfl (by decide +kernel) (np_then np_body) rfl (y_move rfl) ?_
      obtain ⟨b, o, rfl, H⟩ := H
      refine a_takeP 1 rfl (by decide +kernel) (np_then np_body) rfl (y_nc rfl) ?_
      refine a_takeP 2 rfl (by decide +kernel) (np_then np_body) rfl (y_fa rfl rfl) ?_
      obtain ⟨t, ht, H⟩ := H
      refine a_take 3 rfl (by decide +kernel) (np_then np_body) rfl (y_ld rfl) (hc_S ht) ?_
      refine a_takeP 4 rfl (by decide +kernel) (np_then np_body) rfl (y_move rfl) ?_
      refine a_takeP 5 rfl (by decide +kernel) (np_then np_body) rfl (y_move rfl) ?_
      refine a_step 6 (by decide +kernel) rfl ?_
      refine s_call rfl rfl H fun rv Sx_2 H2 => ?_
      clear H
      obtain ⟨t_1, rfl, H⟩ := H2
      obtain ⟨k, H⟩ := H
      refine s_nil (q_any (ac_cons (hc_S k) ac_nil) ?_)
      refine a_takeP 7 rfl (by decide +kernel) (np_then np_body) rfl (y_add rfl rfl) ?_
      refine a_takeP 8 rfl (by decide +kernel) (np_then np_body) rfl (y_add rfl rfl) ?_
      refine a_takeP 9 rfl (by decide +kernel) (np_then np_body) rfl (y_nc rfl) ?_
      refine a_takeP 10 rfl (by decide +kernel) (np_then np_body) rfl (y_fa rfl rfl) ?_
      refine a_step 11 (by decide +kernel) rfl ?_
      obtain ⟨c, H⟩ := H
      refine s_stS rfl rfl rfl rfl rfl c rfl ?_
      refine s_nil (q_any ac_nil ?_)
      refine a_done (by decide +kernel) ?_
      refine q_then ?_
      refine c_seq ?_
      refine c_region ?_
      refine s_p rfl (y_move rfl) ?_
      refine s_p rfl (y_nc rfl) ?_
      refine s_p rfl (y_fa rfl rfl) ?_
      refine s_p rfl (y_move rfl) ?_
      refine s_call rfl rfl H fun rv Sx_4 H2 => ?_
      clear H
      obtain ⟨rfl, H⟩ := H2
      refine s_nil (q_then ?_)
      refine c_seq ?_
      refine c_region ?_
      refine s_p rfl (y_move rfl) ?_
      refine s_p rfl (y_move rfl) ?_
      refine s_p rfl (y_build rfl fill_nil) ?_
      refine s_p rfl (y_nc rfl) ?_
      refine s_p rfl (y_fa rfl rfl) ?_
      obtain ⟨c_1, c_2, H⟩ := H
      refine s_p rfl (y_ixA rfl rfl c_1 c_2 rfl) ?_
      obtain ⟨c_3, H⟩ := H
      obtain ⟨c_4, H⟩ := H
      refine s_stS rfl rfl rfl rfl z117_len c_4 c_3 ?_
      refine s_nil (q_then ?_)
      refine c_join2 H (fun (J : Mem → Prop) (z : Unit) S => J S) (fun z => ⟨100, []⟩) (fun z => []) ?_ ?_
      · clear H
        rintro _ Sx_6 H
        refine c_seq ?_
        refine c_region ?_
        refine s_p rfl (y_assign rfl) ?_
        refine s_nil (q_then ?_)
        refine c_ret ?_
        exact q_ret Try.results17 (rv_tmp rfl rv_nil) ⟨_, rfl, H⟩
      · clear H
        intro Jx hJx H
        refine c_seq ?_
        refine c_region ?_
        refine s_p rfl (y_move rfl) ?_
        refine s_nil (q_then ?_)
        refine c_block ?_
        refine c_loop (fun z => ⟨100, [(0, .pointer (some ⟨b, o, none⟩)), (1, .int .i64 n), (80, .int .i64 z)]⟩) (fun z => []) 0 (idx := []) H rfl ⟨rfl, rfl, rfl, True.intro⟩ rfl ?_
        clear H
        rintro Xx hXx t_2 Sx_7 H
        refine c_seq ?_
        refine c_region ?_
        replace H := ite_e H
        rcases H with ⟨c_5, H⟩ | ⟨c_5, H⟩
        · refine s_p rfl (yT (y_lss rfl rfl) c_5) ?_
          refine s_nil (q_then ?_)
          refine c_seq ?_
          refine c_t rfl rfl ?_
          refine c_skip (q_then ?_)
          refine c_seq ?_
          refine c_block ?_
          refine c_seq ?_
          refine c_region ?_
          refine s_p rfl (y_move rfl) ?_
          refine s_p rfl (y_assign rfl) ?_
          refine s_nil (q_then ?_)
          refine c_drawn (by kernel_rfl) ?_
          refine a_takeP 0 rfl (by decide +kernel) (np_blk (np_then (np_then (np_blk (np_then np_body))))) rfl (y_move rfl) ?_
          refine a_takeP 1 rfl (by decide +kernel) (np_blk (np_then (np_then (np_blk (np_then np_body))))) rfl (y_move rfl) ?_
          refine a_takeP 2 rfl (by decide +kernel) (np_blk (np_then (np_then (np_blk (np_then np_body))))) rfl (y_nc rfl) ?_
          refine a_takeP 3 rfl (by decide +kernel) (np_blk (np_then (np_then (np_blk (np_then np_body))))) rfl (y_fa rfl rfl) ?_
          obtain ⟨c_6, c_7, H⟩ := H
          refine a_takeP 4 rfl (by decide +kernel) (np_blk (np_then (np_then (np_blk (np_then np_body))))) rfl (y_ixA rfl rfl c_6 c_7 rfl) ?_
          refine a_takeP 5 rfl (by decide +kernel) (np_blk (np_then (np_then (np_blk (np_then np_body))))) rfl (y_fa rfl rfl) ?_
          refine a_takeP 6 rfl (by decide +kernel) (np_blk (np_then (np_then (np_blk (np_then np_body))))) rfl (y_fa rfl rfl) ?_
          obtain ⟨t_3, ht_3, H⟩ := H
          refine a_take 7 rfl (by decide +kernel) (np_blk (np_then (np_then (np_blk (np_then np_body))))) rfl (y_ld rfl) (hc_S ht_3) ?_
          refine a_takeP 8 rfl (by decide +kernel) (np_blk (np_then (np_then (np_blk (np_then np_body))))) rfl (y_move rfl) ?_
          obtain ⟨c_8, H⟩ := H
          refine a_takeP 9 rfl (by decide +kernel) (np_blk (np_then (np_then (np_blk (np_then np_body))))) rfl (y_shl rfl rfl c_8) ?_
          refine a_takeP 10 rfl (by decide +kernel) (np_blk (np_then (np_then (np_blk (np_then np_body))))) rfl (y_andn rfl rfl) ?_
          refine a_takeP 11 rfl (by decide +kernel) (np_blk (np_then (np_then (np_blk (np_then np_body))))) rfl (y_nc rfl) ?_
          refine a_takeP 12 rfl (by decide +kernel) (np_blk (np_then (np_then (np_blk (np_then np_body))))) rfl (y_fa rfl rfl) ?_
          obtain ⟨c_9, c_10, H⟩ := H
          refine a_takeP 13 rfl (by decide +kernel) (np_blk (np_then (np_then (np_blk (np_then np_body))))) rfl (y_ixA rfl rfl c_9 c_10 rfl) ?_
          refine a_takeP 14 rfl (by decide +kernel) (np_blk (np_then (np_then (np_blk (np_then np_body))))) rfl (y_fa rfl rfl) ?_
          refine a_takeP 15 rfl (by decide +kernel) (np_blk (np_then (np_then (np_blk (np_then np_body))))) rfl (y_fa rfl rfl) ?_
          refine a_step 16 (by decide +kernel) rfl ?_
          obtain ⟨c_11, H⟩ := H
          refine s_stS rfl rfl rfl rfl rfl c_11 rfl ?_
          refine s_nil (q_any ac_nil ?_)
          refine a_done (by decide +kernel) ?_
          refine q_blk (q_then ?_)
          refine c_region ?_
          refine s_p rfl (y_add rfl rfl) ?_
          refine s_p rfl (y_move rfl) ?_
          refine s_nil ?_
          exact hXx (IntKind.i64.wrap (t_2 + 1)) _ _ _ _ [] H rfl ⟨rfl, rfl, rfl, True.intro⟩ rfl
        · refine s_p rfl (yF (y_lss rfl rfl) c_5) ?_
          refine s_nil (q_then ?_)
          refine c_seq ?_
          refine c_f rfl rfl ?_
          refine c_exit (q_then_exit (q_then_exit (q_blk_out ?_)))
          exact hJx () _ _ _ _ [] H rfl True.intro rfl
    · clear H
      intro Jx_1 hJx_1 H
      refine c_seq ?_
      refine c_region ?_
      refine s_p rfl (y_move rfl) ?_
      obtain ⟨b_1, o_1, rfl, H⟩ := H
      refine s_p rfl (y_nc rfl) ?_
      refine s_p rfl (y_fa rfl rfl) ?_
      obtain ⟨t_4, ht_4, H⟩ := H
      refine s_v rfl (y_ldA rfl (part_len ht_4)) (hc_SP ht_4) ?_
      refine s_p rfl (y_move rfl) ?_
      refine s_call rfl rfl H fun rv Sx_9 H2 => ?_
      clear H
      obtain ⟨t_5, rfl, H⟩ := H2
      refine s_p rfl (y_len rfl) ?_
      refine s_p rfl (y_move rfl) ?_
      refine s_nil (q_then ?_)
      refine c_block ?_
      refine c_loop (fun z => ⟨100, [(0, .pointer (some ⟨b_1, o_1, none⟩)), (1, .int .i64 n), (19, eL t_5), (20, .int .i64 (t_5.n : Int)), (21, .int .i64 z)]⟩) (fun z => []) 0 (idx := []) H rfl ⟨rfl, rfl, rfl, rfl, rfl, True.intro⟩ rfl ?_
      clear H
      rintro Xx_1 hXx_1 t_6 Sx_10 H
      refine c_seq ?_
      refine c_region ?_
      replace H := ite_e H
      rcases H with ⟨c_12, H⟩ | ⟨c_12, H⟩
      · refine s_p rfl (yT (y_lss rfl rfl) c_12) ?_
        refine s_nil (q_then ?_)
        refine c_seq ?_
        refine c_t rfl rfl ?_
        refine c_skip (q_then ?_)
        refine c_seq ?_
        refine c_block ?_
        refine c_seq ?_
        refine c_region ?_
        obtain ⟨b_2, o_2, n_1, n_2, rfl, H⟩ := H
        obtain ⟨c_13, c_14, H⟩ := H
        refine s_p rfl (y_ixL rfl rfl c_13 c_14 rfl) ?_
        obtain ⟨t_7, ht_7, H⟩ := H
        refine s_v rfl (y_ld rfl) (hc_S ht_7) ?_
        refine s_p rfl (y_assign rfl) ?_
        refine s_nil (q_then ?_)
        refine c_join2 H (fun (J : Mem → Prop) (z : Unit) S => J S) (fun z => ⟨100, [(0, .pointer (some ⟨b_1, o_1, none⟩)), (1, .int .i64 n), (6, .int .i64 t_7), (19, .slice (some ⟨b_2, o_2, none⟩) n_1 n_2), (20, .int .i64 (n_1 : Int)), (21, .int .i64 t_6)]⟩) (fun z => []) ?_ ?_
        · clear H
          rintro _ Sx_11 H
          refine c_region ?_
          refine s_p rfl (y_move rfl) ?_
          refine s_p rfl (y_move rfl) ?_
          refine s_p rfl (y_nc rfl) ?_
          refine s_p rfl (y_fa rfl rfl) ?_
          obtain ⟨t_8, ht_8, H⟩ := H
          refine s_v rfl (y_ldA rfl (part_len ht_8)) (hc_SP ht_8) ?_
          refine s_p rfl (y_move rfl) ?_
          refine s_call rfl rfl H fun rv Sx_12 H2 => ?_
          clear H
          obtain ⟨t_9, rfl, ht_9, H⟩ := H2
          refine s_p rfl (y_nc rfl) ?_
          refine s_p rfl (y_fa rfl rfl) ?_
          obtain ⟨c_15, H⟩ := H
          obtain ⟨c_16, H⟩ := H
          refine s_stS rfl rfl rfl rfl ht_9 c_16 c_15 ?_
          refine s_nil (q_blk (q_then ?_))
          refine c_region ?_
          refine s_p rfl (y_add rfl rfl) ?_
          refine s_p rfl (y_move rfl) ?_
          refine s_nil ?_
          exact hXx_1 (IntKind.i64.wrap (t_6 + 1)) _ _ _ _ [] H rfl ⟨rfl, rfl, rfl, rfl, rfl, True.intro⟩ rfl
        · clear H
          intro Jx_2 hJx_2 H
          refine c_seq ?_
          refine c_region ?_
          refine s_p rfl (y_move rfl) ?_
          refine s_p rfl (y_nc rfl) ?_
          refine s_p rfl (y_fa rfl rfl) ?_
          obtain ⟨t_10, ht_10, H⟩ := H
          refine s_v rfl (y_ldA rfl (part_len ht_10)) (hc_SP ht_10) ?_
          refine s_p rfl (y_move rfl) ?_
          refine s_call rfl rfl H fun rv Sx_14 H2 => ?_
          clear H
          obtain ⟨t_11, t_12, rfl, ht_11, H⟩ := H2
          refine s_p rfl (y_move rfl) ?_
          refine s_p rfl (y_extract rfl rfl) ?_
          refine s_p rfl (y_extract rfl rfl) ?_
          refine s_alloc rfl fun b_3 => ?_
          obtain ⟨c_17, H⟩ := H
          refine s_stV_all 0 rfl rfl rfl rfl rfl ht_11 rfl c_17 ?_
          refine s_p rfl (y_assign rfl) ?_
          refine s_nil (q_then ?_)
          refine c_seq ?_
          refine c_region ?_
          refine s_p rfl (y_fa rfl rfl) ?_
          obtain ⟨t_13, ht_13, H⟩ := H
          refine s_v rfl (y_ld rfl) (hc_V 0 rfl ht_13) ?_
          replace H := ite_e H
          rcases H with ⟨c_18, H⟩ | ⟨c_18, H⟩
          · refine s_p rfl (yT (y_geq rfl rfl) c_18) ?_
            refine s_nil (q_then ?_)
            refine c_t rfl rfl ?_
            refine c_drawn (by kernel_rfl) ?_
            refine a_takeP 0 rfl (by decide +kernel) (np_then (np_blk (np_then (np_then (np_blk (np_then np_body)))))) rfl (y_move rfl) ?_
            refine a_takeP 1 rfl (by decide +kernel) (np_then (np_blk (np_then (np_then (np_blk (np_then np_body)))))) rfl (y_fa rfl rfl) ?_
            obtain ⟨t_14, ht_14, H⟩ := H
            refine a_take 2 rfl (by decide +kernel) (np_then (np_blk (np_then (np_then (np_blk (np_then np_body)))))) rfl (y_ld rfl) (hc_V 0 rfl ht_14) ?_
            refine a_takeP 3 rfl (by decide +kernel) (np_then (np_blk (np_then (np_then (np_blk (np_then np_body)))))) rfl (y_fa rfl rfl) ?_
            obtain ⟨t_15, ht_15, H⟩ := H
            refine a_take 4 rfl (by decide +kernel) (np_then (np_blk (np_then (np_then (np_blk (np_then np_body)))))) rfl (y_ld rfl) (hc_V 0 rfl ht_15) ?_
            refine a_takeP 5 rfl (by decide +kernel) (np_then (np_blk (np_then (np_then (np_blk (np_then np_body)))))) rfl (y_build rfl rfl) ?_
            refine a_takeP 6 rfl (by decide +kernel) (np_then (np_blk (np_then (np_then (np_blk (np_then np_body)))))) rfl (y_nc rfl) ?_
            refine a_takeP 7 rfl (by decide +kernel) (np_then (np_blk (np_then (np_then (np_blk (np_then np_body)))))) rfl (y_fa rfl rfl) ?_
            obtain ⟨c_19, c_20, H⟩ := H
            refine a_takeP 8 rfl (by decide +kernel) (np_then (np_blk (np_then (np_then (np_blk (np_then np_body)))))) rfl (y_ixA rfl rfl c_19 c_20 rfl) ?_
            refine a_takeP 9 rfl (by decide +kernel) (np_then (np_blk (np_then (np_then (np_blk (np_then np_body)))))) rfl (y_fa rfl rfl) ?_
            obtain ⟨c_21, c_22, H⟩ := H
            refine a_takeP 10 rfl (by decide +kernel) (np_then (np_blk (np_then (np_then (np_blk (np_then np_body)))))) rfl (y_ixA rfl rfl c_21 c_22 rfl) ?_
            refine a_step 11 (by decide +kernel) rfl ?_
            obtain ⟨c_23, H⟩ := H
            refine s_stS rfl rfl rfl rfl rfl c_23 rfl ?_
            refine s_nil (q_any ac_nil ?_)
            refine a_done (by decide +kernel) ?_
            exact hJx_2 () _ _ _ _ [] H rfl ⟨rfl, rfl, rfl, rfl, rfl, rfl, True.intro⟩ rfl
          · refine s_p rfl (yF (y_geq rfl rfl) c_18) ?_
            refine s_nil (q_then ?_)
            refine c_f rfl rfl ?_
            refine c_skip ?_
            exact hJx_2 () _ _ _ _ [] H rfl ⟨rfl, rfl, rfl, rfl, rfl, rfl, True.intro⟩ rfl
      · refine s_p rfl (yF (y_lss rfl rfl) c_12) ?_
        refine s_nil (q_then ?_)
        refine c_seq ?_
        refine c_f rfl rfl ?_
        refine c_exit (q_then_exit (q_then_exit (q_blk_out ?_)))
        exact hJx_1 () _ _ _ _ [] H rfl ⟨rfl, rfl, True.intro⟩ rfl
  · clear H
    intro Jx_3 hJx_3 H
    refine c_seq ?_
    refine c_region ?_
    refine s_p rfl (y_move rfl) ?_
    refine s_p rfl (y_move rfl) ?_
    refine s_call rfl rfl H fun rv Sx_16 H2 => ?_
    clear H
    obtain ⟨t_16, rfl, H⟩ := H2
    replace H := ib_e H
    rcases H with ⟨rfl, H⟩ | ⟨rfl, H⟩
    · skip
      refine s_p rfl (yB (y_not rfl) rfl) ?_
      refine s_nil (q_then ?_)
      refine c_f rfl rfl ?_
      refine c_skip ?_
      exact hJx_3 () _ _ _ _ [] H rfl ⟨rfl, rfl, True.intro⟩ rfl
    · skip
      refine s_p rfl (yB (y_not rfl) rfl) ?_
      refine s_nil (q_then ?_)
      refine c_t rfl rfl ?_
      refine c_seq ?_
      refine c_region ?_
      refine s_p rfl (y_assign rfl) ?_
      refine s_nil (q_then ?_)
      refine c_ret (q_then_ret ?_)
      exact q_ret Try.results17 (rv_tmp rfl rv_nil) ⟨_, rfl, H⟩
def b_ideal_Ideal_Free (S : Mem) (x : Pt) (Q : Int → Mem → Prop) : Prop :=
  if x = none then
    Q 0 S
  else
  nn x fun b o =>
  gI (S.cell b (o + 1)) .i64 fun t =>
  Q t S
theorem t_ideal_Ideal_Free {S : Mem} {x : Pt} {Q : Int → Mem → Prop} (H : b_ideal_Ideal_Free S x Q) : ideal_Ideal_Free S x Q := by
  unfold b_ideal_Ideal_Free at H
  refine Tr.intro Try.func18 rfl Try.ntmps18 rfl fun w0 => ?_
  refine c_seq ?_
  refine c_region ?_
  refine s_p rfl (y_assign rfl) ?_
  refine s_nil (q_then ?_)
  refine c_seq ?_
  refine c_seq ?_
  refine c_region ?_
  refine s_p rfl (y_move rfl) ?_
  replace H := ite_e H
  rcases H with ⟨c, H⟩ | ⟨c, H⟩
  · refine s_p rfl (yT (y_pnil (p := x) rfl rfl) c) ?_
    refine s_nil (q_then ?_)
    refine c_t rfl rfl ?_
    refine c_seq ?_
    refine c_region ?_
    refine s_p rfl (y_assign rfl) ?_
    refine s_nil (q_then ?_)
    refine c_ret (q_then_ret ?_)
    exact q_ret Try.results18 (rv_tmp rfl rv_nil) ⟨_, rfl, H⟩
  · refine s_p rfl (yF (y_pnil (p := x) rfl rfl) c) ?_
    refine s_nil (q_then ?_)
    refine c_f rfl rfl ?_
    refine c_skip (q_then ?_)
    refine c_seq ?_
    refine c_region ?_
    refine s_p rfl (y_move rfl) ?_
    obtain ⟨b, o, rfl, H⟩ := H
    refine s_p rfl (y_nc rfl) ?_
    refine s_p rfl (y_fa rfl rfl) ?_
    obtain ⟨t, ht, H⟩ := H
    refine s_v rfl (y_ld rfl) (hc_S ht) ?_
    refine s_p rfl (y_assign rfl) ?_
    refine s_nil (q_then ?_)
    refine c_ret ?_
    exact q_ret Try.results18 (rv_tmp rfl rv_nil) ⟨_, rfl, H⟩
def b_ideal_Ideal_there (S : Mem) (x : Pt) (n : Int) (Q : Bool → Mem → Prop) : Prop :=
  if x ≠ none then
    if 0 ≤ n then
      if n < 6 then
        nn x fun b o =>
        0 ≤ n ∧ n < 6 ∧
        gB (S.cell b (o + 2 + n.toNat * 109)) fun t =>
        Q t S
      else
      Q false S
    else
    Q false S
  else
  Q false S
theorem t_ideal_Ideal_there {S : Mem} {x : Pt} {n : Int} {Q : Bool → Mem → Prop} (H : b_ideal_Ideal_there S x n Q) : ideal_Ideal_there S x n Q := by
  unfold b_ideal_Ideal_there at H
  refine Tr.intro Try.func43 rfl Try.ntmps43 rfl fun w0 => ?_
  refine c_seq ?_
  refine c_region ?_
  refine s_p rfl (y_assign rfl) ?_
  refine s_nil (q_then ?_)
  refine c_seq ?_
  refine c_region ?_
  refine s_p rfl (y_move rfl) ?_
  replace H := ite_e H
  rcases H with ⟨c, H⟩ | ⟨c, H⟩
  · refine s_p rfl (yT (y_pnn (p := x) rfl rfl) c) ?_
    refine s_p rfl (y_move rfl) ?_
    refine s_p rfl (y_move rfl) ?_
    replace H := ite_e H
    rcases H with ⟨c_1, H⟩ | ⟨c_1, H⟩
    · refine s_p rfl (yT (y_geq rfl rfl) c_1) ?_
      refine s_p rfl (y_pick rfl rfl) ?_
      refine s_p rfl (y_move rfl) ?_
      refine s_p rfl (y_move rfl) ?_
      replace H := ite_e H
      rcases H with ⟨c_2, H⟩ | ⟨c_2, H⟩
      · refine s_p rfl (yT (y_lss rfl rfl) c_2) ?_
        refine s_p rfl (y_pick rfl rfl) ?_
        refine s_p rfl (y_move rfl) ?_
        refine s_p rfl (y_move rfl) ?_
        refine s_p rfl (y_move rfl) ?_
        obtain ⟨b, o, rfl, H⟩ := H
        refine s_p rfl (y_nc rfl) ?_
        refine s_p rfl (y_fa rfl rfl) ?_
        obtain ⟨c_3, c_4, H⟩ := H
        refine s_p rfl (y_ixA rfl rfl c_3 c_4 rfl) ?_
        refine s_p rfl (y_fa rfl rfl) ?_
        refine s_p rfl (y_fa rfl rfl) ?_
        obtain ⟨t, ht, H⟩ := H
        refine s_v rfl (y_ld rfl) (hc_S ht) ?_
        refine s_p rfl (y_pick rfl rfl) ?_
        refine s_p rfl (y_assign rfl) ?_
        refine s_nil (q_then ?_)
        refine c_ret ?_
        exact q_ret Try.results43 (rv_tmp rfl rv_nil) ⟨_, rfl, H⟩
      · refine s_p rfl (yF (y_lss rfl rfl) c_2) ?_
        refine s_p rfl (y_pick rfl rfl) ?_
        refine s_p rfl (y_move rfl) ?_
        refine s_skip rfl ?_
        refine s_skip rfl ?_
        refine s_skip rfl ?_
        refine s_skip rfl ?_
        refine s_skip rfl ?_
        refine s_skip rfl ?_
        refine s_skip rfl ?_
        refine s_skip rfl ?_
        refine s_p rfl (y_pick rfl rfl) ?_
        refine s_p rfl (y_assign rfl) ?_
        refine s_nil (q_then ?_)
        refine c_ret ?_
        exact q_ret Try.results43 (rv_tmp rfl rv_nil) ⟨_, rfl, H⟩
    · refine s_p rfl (yF (y_geq rfl rfl) c_1) ?_
      refine s_p rfl (y_pick rfl rfl) ?_
      refine s_p rfl (y_move rfl) ?_
      refine s_skip rfl ?_
      refine s_skip rfl ?_
      refine s_p rfl (y_pick rfl rfl) ?_
      refine s_p rfl (y_move rfl) ?_
      refine s_skip rfl ?_
      refine s_skip rfl ?_
      refine s_skip rfl ?_
      refine s_skip rfl ?_
      refine s_skip rfl ?_
      refine s_skip rfl ?_
      refine s_skip rfl ?_
      refine s_skip rfl ?_
      refine s_p rfl (y_pick rfl rfl) ?_
      refine s_p rfl (y_assign rfl) ?_
      refine s_nil (q_then ?_)
      refine c_ret ?_
      exact q_ret Try.results43 (rv_tmp rfl rv_nil) ⟨_, rfl, H⟩
  · refine s_p rfl (yF (y_pnn (p := x) rfl rfl) c) ?_
    refine s_p rfl (y_move rfl) ?_
    refine s_skip rfl ?_
    refine s_skip rfl ?_
    refine s_p rfl (y_pick rfl rfl) ?_
    refine s_p rfl (y_move rfl) ?_
    refine s_skip rfl ?_
    refine s_skip rfl ?_
    refine s_p rfl (y_pick rfl rfl) ?_
    refine s_p rfl (y_move rfl) ?_
    refine s_skip rfl ?_
    refine s_skip rfl ?_
    refine s_skip rfl ?_
    refine s_skip rfl ?_
    refine s_skip rfl ?_
    refine s_skip rfl ?_
    refine s_skip rfl ?_
    refine s_skip rfl ?_
    refine s_p rfl (y_pick rfl rfl) ?_
    refine s_p rfl (y_assign rfl) ?_
    refine s_nil (q_then ?_)
    refine c_ret ?_
    exact q_ret Try.results43 (rv_tmp rfl rv_nil) ⟨_, rfl, H⟩
def b_lease_Book_Of (S : Mem) (b : List Value) (vm : Int) (Q : Sl → Mem → Prop) : Prop :=
  b.length = 96 ∧
  jn (fun (out : Sl) (Sx : Mem) =>
      Q out Sx) fun Jx =>
  lp (fun Xx (z : Sl × Int) (Sx_1 : Mem) =>
      match z with
      | (out_1, t) =>
        if t < 16 then
          jn (fun (out_2 : Sl) (Sx_2 : Mem) =>
              Xx (out_2, IntKind.i64.wrap (t + 1)) Sx_2) fun Jx_1 =>
          0 ≤ t ∧ t < 16 ∧
          gA (lpart b (t.toNat * 6) 6) fun t_1 =>
          t_1.all (·.oneCell') = true ∧
          jn (fun (t_2 : Bool) (Sx_3 : Mem) =>
              if t_2 = true then
                ap Sx_3 3 1 8 [.int .i64 0] out_1 1 ([.int .i64 t]) fun t_3 Sx_4 =>
                Jx_1 t_3 Sx_4
              else
              Jx_1 out_1 Sx_3) fun Jx_2 =>
          gB (nthL t_1 0) fun t_4 =>
          if t_4 = true then
            gI (nthL t_1 1) .i64 fun t_5 =>
            if t_5 = vm then
              Jx_2 true Sx_1
            else
            gI (nthL t_1 3) .i64 fun t_6 =>
            if t_6 = vm then
              Jx_2 true Sx_1
            else
            Jx_2 false Sx_1
          else
          Jx_2 false Sx_1
        else
        Jx out_1 Sx_1) (⟨none, 0, 0⟩, 0) S
theorem t_lease_Book_Of {S : Mem} {b : List Value} {vm : Int} {Q : Sl → Mem → Prop} (H : b_lease_Book_Of S b vm Q) : lease_Book_Of S b vm Q := by
  unfold b_lease_Book_Of at H
  refine Tr.intro Try.func44 rfl Try.ntmps44 rfl fun w0 => ?_
  obtain ⟨hb, H⟩ := H
  refine c_seq ?_
  refine c_region ?_
  refine s_box rfl rfl rfl fun b_1 => ?_
  refine s_p rfl (y_assign rfl) ?_
  refine s_nil (q_then ?_)
  refine c_seq ?_
  refine c_region ?_
  refine s_p rfl (y_assign rfl) ?_
  refine s_nil (q_then ?_)
  refine c_join2 H (fun (J : Sl → Mem → Prop) (z : Sl) S => J z S) (fun z => ⟨33, [(5, eL z)]⟩) (fun z => []) ?_ ?_
  · clear H
    rintro out Sx H
    refine c_seq ?_
    refine c_region ?_
    refine s_p rfl (y_move rfl) ?_
    refine s_p rfl (y_assign rfl) ?_
    refine s_nil (q_then ?_)
    refine c_ret ?_
    exact q_ret Try.results44 (rv_tmp rfl rv_nil) ⟨_, rfl, H⟩
  · clear H
    intro Jx hJx H
    refine c_seq ?_
    refine c_region ?_
    refine s_v rfl (y_ldA rfl hb) (hc_VP (k := 96) 0 rfl (lpart_all hb)) ?_
    refine s_p rfl (y_move rfl) ?_
    refine s_nil (q_then ?_)
    refine c_block ?_
    refine c_loop (fun z => ⟨33, [(1, .int .i64 vm), (5, eL z.1), (8, valL b), (9, .int .i64 z.2)]⟩) (fun z => []) (⟨none, 0, 0⟩, 0) (idx := []) H rfl ⟨rfl, rfl, rfl, rfl, True.intro⟩ rfl ?_
    clear H
    rintro Xx hXx ⟨out_1, t⟩ Sx_1 H
    refine c_seq ?_
    refine c_region ?_
    replace H := ite_e H
    rcases H with ⟨c, H⟩ | ⟨c, H⟩
    · refine s_p rfl (yT (y_lss rfl rfl) c) ?_
      refine s_nil (q_then ?_)
      refine c_seq ?_
      refine c_t rfl rfl ?_
      refine c_skip (q_then ?_)
      refine c_join2 H (fun (J : Sl → Mem → Prop) (z : Sl) S => J z S) (fun z => ⟨33, [(1, .int .i64 vm), (5, eL z), (8, valL b), (9, .int .i64 t)]⟩) (fun z => []) ?_ ?_
      · clear H
        rintro out_2 Sx_2 H
        refine c_region ?_
        refine s_p rfl (y_add rfl rfl) ?_
        refine s_p rfl (y_move rfl) ?_
        refine s_nil ?_
        exact hXx (out_2, IntKind.i64.wrap (t + 1)) _ _ _ _ [] H rfl ⟨rfl, rfl, rfl, rfl, True.intro⟩ rfl
      · clear H
        intro Jx_1 hJx_1 H
        refine c_block ?_
        refine c_seq ?_
        refine c_region ?_
        refine s_p rfl (y_move rfl) ?_
        obtain ⟨c_1, c_2, H⟩ := H
        obtain ⟨t_1, ht_1, H⟩ := H
        refine s_p rfl (y_idxA rfl rfl c_1 c_2 ht_1) ?_
        refine s_alloc rfl fun b_2 => ?_
        refine s_p rfl (y_assign rfl) ?_
        obtain ⟨c_3, H⟩ := H
        refine s_stV_all 0 rfl rfl rfl rfl rfl ((lpart_e ht_1).2.2) rfl c_3 ?_
        refine s_nil (q_then ?_)
        refine c_join2 H (fun (J : Bool → Mem → Prop) (z : Bool) S => J z S) (fun z => ⟨33, [(1, .int .i64 vm), (5, eL out_1), (6, .int .i64 t), (8, valL b), (9, .int .i64 t), (26, .bool z)]⟩) (fun z => []) ?_ ?_
        · clear H
          rintro t_2 Sx_3 H
          replace H := ib_e H
          rcases H with ⟨c_4, H⟩ | ⟨c_4, H⟩
          · refine c_t rfl c_4 ?_
            refine c_region ?_
            refine s_p rfl (y_move rfl) ?_
            refine s_p rfl (y_move rfl) ?_
            refine s_bs rfl rfl (by decide) rfl fun b_3 => ?_
            refine s_app (sx := out_1) (vs := [.int .i64 t]) rfl rfl rfl (fc_V 0 rfl rfl) rfl rfl (by decide) H fun t_3 Sx_4 H2 => ?_
            replace H := H2
            refine s_p rfl (y_assign rfl) ?_
            refine s_nil (q_blk ?_)
            exact hJx_1 t_3 _ _ _ _ [] H rfl ⟨rfl, rfl, rfl, rfl, True.intro⟩ rfl
          · refine c_f rfl c_4 ?_
            refine c_skip (q_blk ?_)
            exact hJx_1 out_1 _ _ _ _ [] H rfl ⟨rfl, rfl, rfl, rfl, True.intro⟩ rfl
        · clear H
          intro Jx_2 hJx_2 H
          refine c_region ?_
          refine s_p rfl (y_fa rfl rfl) ?_
          obtain ⟨t_4, ht_4, H⟩ := H
          replace H := ib_e H
          rcases H with ⟨rfl, H⟩ | ⟨rfl, H⟩
          · refine s_v rfl (y_ld rfl) (hc_V 0 rfl ht_4) ?_
            refine s_p rfl (y_move rfl) ?_
            refine s_p rfl (y_fa rfl rfl) ?_
            obtain ⟨t_5, ht_5, H⟩ := H
            refine s_v rfl (y_ld rfl) (hc_V 0 rfl ht_5) ?_
            refine s_p rfl (y_move rfl) ?_
            replace H := ite_e H
            rcases H with ⟨c_5, H⟩ | ⟨c_5, H⟩
            · refine s_p rfl (yT (y_eql rfl rfl) c_5) ?_
              refine s_p rfl (y_move rfl) ?_
              refine s_skip rfl ?_
              refine s_skip rfl ?_
              refine s_skip rfl ?_
              refine s_skip rfl ?_
              refine s_p rfl (y_pick rfl rfl) ?_
              refine s_p rfl (y_pick rfl rfl) ?_
              refine s_nil ?_
              exact hJx_2 true _ _ _ _ [] H rfl ⟨rfl, rfl, rfl, rfl, rfl, rfl, True.intro⟩ rfl
            · refine s_p rfl (yF (y_eql rfl rfl) c_5) ?_
              refine s_p rfl (y_move rfl) ?_
              refine s_p rfl (y_fa rfl rfl) ?_
              obtain ⟨t_6, ht_6, H⟩ := H
              refine s_v rfl (y_ld rfl) (hc_V 0 rfl ht_6) ?_
              refine s_p rfl (y_move rfl) ?_
              replace H := ite_e H
              rcases H with ⟨c_6, H⟩ | ⟨c_6, H⟩
              · refine s_p rfl (yT (y_eql rfl rfl) c_6) ?_
                refine s_p rfl (y_pick rfl rfl) ?_
                refine s_p rfl (y_pick rfl rfl) ?_
                refine s_nil ?_
                exact hJx_2 true _ _ _ _ [] H rfl ⟨rfl, rfl, rfl, rfl, rfl, rfl, True.intro⟩ rfl
              · refine s_p rfl (yF (y_eql rfl rfl) c_6) ?_
                refine s_p rfl (y_pick rfl rfl) ?_
                refine s_p rfl (y_pick rfl rfl) ?_
                refine s_nil ?_
                exact hJx_2 false _ _ _ _ [] H rfl ⟨rfl, rfl, rfl, rfl, rfl, rfl, True.intro⟩ rfl
          · refine s_v rfl (y_ld rfl) (hc_V 0 rfl ht_4) ?_
            refine s_p rfl (y_move rfl) ?_
            refine s_skip rfl ?_
            refine s_skip rfl ?_
            refine s_skip rfl ?_
            refine s_skip rfl ?_
            refine s_skip rfl ?_
            refine s_skip rfl ?_
            refine s_skip rfl ?_
            refine s_skip rfl ?_
            refine s_skip rfl ?_
            refine s_skip rfl ?_
            refine s_p rfl (y_pick rfl rfl) ?_
            refine s_nil ?_
            exact hJx_2 false _ _ _ _ [] H rfl ⟨rfl, rfl, rfl, rfl, rfl, rfl, True.intro⟩ rfl
    · refine s_p rfl (yF (y_lss rfl rfl) c) ?_
      refine s_nil (q_then ?_)
      refine c_seq ?_
      refine c_f rfl rfl ?_
      refine c_exit (q_then_exit (q_then_exit (q_blk_out ?_)))
      exact hJx out_1 _ _ _ _ [] H rfl ⟨rfl, True.intro⟩ rfl
def b_lease_Book_Get (S : Mem) (b : List Value) (n : Int) (Q : List Value → Int → Mem → Prop) : Prop :=
  b.length = 96 ∧
  jn (fun (v : List Value) (Sx : Mem) =>
      v.length = 6 ∧
      0 ≤ n ∧ n < 16 ∧
      gA (lpart b (0 + n.toNat * 6) 6) fun a =>
      a.all (·.oneCell') = true ∧
      Q a 0 Sx) fun Jx =>
  if n < 0 then
    Q ([.bool false, .int .i64 0, .int .i64 0, .int .i64 0, .bool false, .int .i64 0]) 2 S
  else
  if 16 ≤ n then
    Q ([.bool false, .int .i64 0, .int .i64 0, .int .i64 0, .bool false, .int .i64 0]) 2 S
  else
  0 ≤ n ∧ n < 16 ∧
  gB (nthL b (0 + n.toNat * 6)) fun t =>
  if t = true then
    Jx ([.bool false, .int .i64 0, .int .i64 0, .int .i64 0, .bool false, .int .i64 0]) S
  else
  Q ([.bool false, .int .i64 0, .int .i64 0, .int .i64 0, .bool false, .int .i64 0]) 2 S
theorem t_lease_Book_Get {S : Mem} {b : List Value} {n : Int} {Q : List Value → Int → Mem → Prop} (H : b_lease_Book_Get S b n Q) : lease_Book_Get S b n Q := by
  unfold b_lease_Book_Get at H
  refine Tr.intro Try.func45 rfl Try.ntmps45 rfl fun w0 => ?_
  obtain ⟨hb, H⟩ := H
  refine c_seq ?_
  refine c_region ?_
  refine s_box rfl rfl rfl fun b_1 => ?_
  refine s_alloc rfl fun b_2 => ?_
  refine s_p rfl (y_assign rfl) ?_
  refine s_nil (q_then ?_)
  refine c_join2 H (fun (J : List Value → Mem → Prop) (z : List Value) S => J z S) (fun z => ⟨23, [(1, .int .i64 n), (2, .pointer (some ⟨b_1, 0, none⟩)), (4, .pointer (some ⟨b_2, 0, none⟩))]⟩) (fun z => [⟨b_1, 63, b⟩, ⟨b_2, 61, z⟩]) ?_ ?_
  · clear H
    rintro v Sx H
    obtain ⟨hv, H⟩ := H
    refine c_seq ?_
    refine c_region ?_
    refine s_p rfl (y_move rfl) ?_
    obtain ⟨c, c_1, H⟩ := H
    refine s_p rfl (y_ixA rfl rfl c c_1 rfl) ?_
    obtain ⟨a, ha, H⟩ := H
    refine s_v rfl (y_ldA rfl ((lpart_e ha).2.2)) (hc_VP 0 rfl ha) ?_
    obtain ⟨c_2, H⟩ := H
    refine s_stV_all 1 rfl rfl rfl rfl rfl ((lpart_e ha).2.2) hv c_2 ?_
    refine s_p rfl (y_assign rfl) ?_
    refine s_nil (q_then ?_)
    refine c_ret ?_
    exact q_ret Try.results45 (rv_cellA rfl (hc_VP (k := 6) 1 rfl (lpart_all ((lpart_e ha).2.2))) ((lpart_e ha).2.2) (rv_tmp rfl rv_nil)) ⟨_, _, rfl, (lpart_e ha).2.2, H⟩
  · clear H
    intro Jx hJx H
    refine c_seq ?_
    refine c_region ?_
    refine s_p rfl (y_move rfl) ?_
    replace H := ite_e H
    rcases H with ⟨c_3, H⟩ | ⟨c_3, H⟩
    · refine s_p rfl (yT (y_lss rfl rfl) c_3) ?_
      refine s_p rfl (y_move rfl) ?_
      refine s_skip rfl ?_
      refine s_skip rfl ?_
      refine s_p rfl (y_pick rfl rfl) ?_
      refine s_p rfl (y_move rfl) ?_
      refine s_skip rfl ?_
      refine s_skip rfl ?_
      refine s_skip rfl ?_
      refine s_skip rfl ?_
      refine s_skip rfl ?_
      refine s_p rfl (y_pick rfl rfl) ?_
      refine s_nil (q_then ?_)
      refine c_t rfl rfl ?_
      refine c_seq ?_
      refine c_region ?_
      refine s_p rfl (y_build rfl rfl) ?_
      refine s_stV (sz := 6) (vs := [.bool false, .int .i64 0, .int .i64 0, .int .i64 0, .bool false, .int .i64 0]) 1 rfl rfl rfl rfl rfl rfl (by decide) rfl ?_
      refine s_p rfl (y_assign rfl) ?_
      refine s_nil (q_then ?_)
      refine c_ret (q_then_ret ?_)
      exact q_ret Try.results45 (rv_cellA rfl (hc_VP (k := 6) 1 rfl rfl) rfl (rv_tmp rfl rv_nil)) ⟨_, _, rfl, rfl, H⟩
    · refine s_p rfl (yF (y_lss rfl rfl) c_3) ?_
      refine s_p rfl (y_move rfl) ?_
      refine s_p rfl (y_move rfl) ?_
      replace H := ite_e H
      rcases H with ⟨c_4, H⟩ | ⟨c_4, H⟩
      · refine s_p rfl (yT (y_geq rfl rfl) c_4) ?_
        refine s_p rfl (y_pick rfl rfl) ?_
        refine s_p rfl (y_move rfl) ?_
        refine s_skip rfl ?_
        refine s_skip rfl ?_
        refine s_skip rfl ?_
        refine s_skip rfl ?_
        refine s_skip rfl ?_
        refine s_p rfl (y_pick rfl rfl) ?_
        refine s_nil (q_then ?_)
        refine c_t rfl rfl ?_
        refine c_seq ?_
        refine c_region ?_
        refine s_p rfl (y_build rfl rfl) ?_
        refine s_stV (sz := 6) (vs := [.bool false, .int .i64 0, .int .i64 0, .int .i64 0, .bool false, .int .i64 0]) 1 rfl rfl rfl rfl rfl rfl (by decide) rfl ?_
        refine s_p rfl (y_assign rfl) ?_
        refine s_nil (q_then ?_)
        refine c_ret (q_then_ret ?_)
        exact q_ret Try.results45 (rv_cellA rfl (hc_VP (k := 6) 1 rfl rfl) rfl (rv_tmp rfl rv_nil)) ⟨_, _, rfl, rfl, H⟩
      · refine s_p rfl (yF (y_geq rfl rfl) c_4) ?_
        refine s_p rfl (y_pick rfl rfl) ?_
        refine s_p rfl (y_move rfl) ?_
        refine s_p rfl (y_move rfl) ?_
        obtain ⟨c_5, c_6, H⟩ := H
        refine s_p rfl (y_ixA rfl rfl c_5 c_6 rfl) ?_
        refine s_p rfl (y_fa rfl rfl) ?_
        obtain ⟨t, ht, H⟩ := H
        replace H := ib_e H
        rcases H with ⟨rfl, H⟩ | ⟨rfl, H⟩
        · refine s_v rfl (y_ld rfl) (hc_V 0 rfl ht) ?_
          refine s_p rfl (yB (y_not rfl) rfl) ?_
          refine s_p rfl (y_pick rfl rfl) ?_
          refine s_nil (q_then ?_)
          refine c_f rfl rfl ?_
          refine c_skip ?_
          exact hJx ([.bool false, .int .i64 0, .int .i64 0, .int .i64 0, .bool false, .int .i64 0]) _ _ _ _ [0, 0] H rfl ⟨rfl, rfl, rfl, True.intro⟩ rfl
        · refine s_v rfl (y_ld rfl) (hc_V 0 rfl ht) ?_
          refine s_p rfl (yB (y_not rfl) rfl) ?_
          refine s_p rfl (y_pick rfl rfl) ?_
          refine s_nil (q_then ?_)
          refine c_t rfl rfl ?_
          refine c_seq ?_
          refine c_region ?_
          refine s_p rfl (y_build rfl rfl) ?_
          refine s_stV (sz := 6) (vs := [.bool false, .int .i64 0, .int .i64 0, .int .i64 0, .bool false, .int .i64 0]) 1 rfl rfl rfl rfl rfl rfl (by decide) rfl ?_
          refine s_p rfl (y_assign rfl) ?_
          refine s_nil (q_then ?_)
          refine c_ret (q_then_ret ?_)
          exact q_ret Try.results45 (rv_cellA rfl (hc_VP (k := 6) 1 rfl rfl) rfl (rv_tmp rfl rv_nil)) ⟨_, _, rfl, rfl, H⟩
def b_lease_Book_Drop (S : Mem) (b : List Value) (n : Int) (Q : List Value → Mem → Prop) : Prop :=
  b.length = 96 ∧
  if 0 ≤ n then
    if n < 16 then
      0 ≤ n ∧ n < 16 ∧
      (spl b (0 + n.toNat * 6) ([.bool false, .int .i64 0, .int .i64 0, .int .i64 0, .bool false, .int .i64 0])).all (·.oneCell') = true ∧
      Q (spl b (0 + n.toNat * 6) ([.bool false, .int .i64 0, .int .i64 0, .int .i64 0, .bool false, .int .i64 0])) S
    else
    b.all (·.oneCell') = true ∧
    Q b S
  else
  b.all (·.oneCell') = true ∧
  Q b S
theorem t_lease_Book_Drop {S : Mem} {b : List Value} {n : Int} {Q : List Value → Mem → Prop} (H : b_lease_Book_Drop S b n Q) : lease_Book_Drop S b n Q := by
  unfold b_lease_Book_Drop at H
  refine Tr.intro Try.func46 rfl Try.ntmps46 rfl fun w0 => ?_
  obtain ⟨hb, H⟩ := H
  refine c_seq ?_
  refine c_region ?_
  refine s_box rfl rfl rfl fun b_1 => ?_
  refine s_alloc rfl fun b_2 => ?_
  refine s_nil (q_then ?_)
  refine c_seq ?_
  refine c_seq ?_
  refine c_region ?_
  refine s_p rfl (y_move rfl) ?_
  replace H := ite_e H
  rcases H with ⟨c, H⟩ | ⟨c, H⟩
  · refine s_p rfl (yT (y_geq rfl rfl) c) ?_
    refine s_p rfl (y_move rfl) ?_
    refine s_p rfl (y_move rfl) ?_
    replace H := ite_e H
    rcases H with ⟨c_1, H⟩ | ⟨c_1, H⟩
    · refine s_p rfl (yT (y_lss rfl rfl) c_1) ?_
      refine s_p rfl (y_pick rfl rfl) ?_
      refine s_nil (q_then ?_)
      refine c_t rfl rfl ?_
      refine c_region ?_
      refine s_p rfl (y_move rfl) ?_
      refine s_p rfl (y_build rfl rfl) ?_
      obtain ⟨c_2, c_3, H⟩ := H
      refine s_p rfl (y_ixA rfl rfl c_2 c_3 rfl) ?_
      refine s_stV (sz := 6) (vs := [.bool false, .int .i64 0, .int .i64 0, .int .i64 0, .bool false, .int .i64 0]) 0 rfl rfl rfl rfl rfl rfl (fit_of hb (by omega)) rfl ?_
      refine s_nil (q_then ?_)
      refine c_seq ?_
      refine c_region ?_
      refine s_v rfl (y_ldA rfl (spl_ln hb (by have := True.intro; simp only [List.length_cons, List.length_nil]; omega))) (hc_VP (k := 96) 0 rfl (lpart_all (spl_ln hb (by have := True.intro; simp only [List.length_cons, List.length_nil]; omega)))) ?_
      obtain ⟨c_4, H⟩ := H
      refine s_stV_all 1 rfl rfl rfl rfl rfl (spl_ln hb (by have := True.intro; simp only [List.length_cons, List.length_nil]; omega)) z63_len c_4 ?_
      refine s_nil (q_then ?_)
      refine c_ret ?_
      exact q_ret Try.results46 (rv_cellA rfl (hc_VP (k := 96) 1 rfl (lpart_all (spl_ln hb (by have := True.intro; simp only [List.length_cons, List.length_nil]; omega)))) (spl_ln hb (by have := True.intro; simp only [List.length_cons, List.length_nil]; omega)) rv_nil) ⟨_, rfl, spl_ln hb (by have := True.intro; simp only [List.length_cons, List.length_nil]; omega), H⟩
    · refine s_p rfl (yF (y_lss rfl rfl) c_1) ?_
      refine s_p rfl (y_pick rfl rfl) ?_
      refine s_nil (q_then ?_)
      refine c_f rfl rfl ?_
      refine c_skip (q_then ?_)
      refine c_seq ?_
      refine c_region ?_
      refine s_v rfl (y_ldA rfl hb) (hc_VP (k := 96) 0 rfl (lpart_all hb)) ?_
      obtain ⟨c_5, H⟩ := H
      refine s_stV_all 1 rfl rfl rfl rfl rfl hb z63_len c_5 ?_
      refine s_nil (q_then ?_)
      refine c_ret ?_
      exact q_ret Try.results46 (rv_cellA rfl (hc_VP (k := 96) 1 rfl (lpart_all hb)) hb rv_nil) ⟨_, rfl, hb, H⟩
  · refine s_p rfl (yF (y_geq rfl rfl) c) ?_
    refine s_p rfl (y_move rfl) ?_
    refine s_skip rfl ?_
    refine s_skip rfl ?_
    refine s_p rfl (y_pick rfl rfl) ?_
    refine s_nil (q_then ?_)
    refine c_f rfl rfl ?_
    refine c_skip (q_then ?_)
    refine c_seq ?_
    refine c_region ?_
    refine s_v rfl (y_ldA rfl hb) (hc_VP (k := 96) 0 rfl (lpart_all hb)) ?_
    obtain ⟨c_6, H⟩ := H
    refine s_stV_all 1 rfl rfl rfl rfl rfl hb z63_len c_6 ?_
    refine s_nil (q_then ?_)
    refine c_ret ?_
    exact q_ret Try.results46 (rv_cellA rfl (hc_VP (k := 96) 1 rfl (lpart_all hb)) hb rv_nil) ⟨_, rfl, hb, H⟩
def b_ideal_Ideal_pages (S : Mem) (x : Pt) (n : Int) (Q : Int → Mem → Prop) : Prop :=
  jn (fun (k : Int) (Sx : Mem) =>
      Q k Sx) fun Jx =>
  nn x fun b o =>
  0 ≤ n ∧ n < 6 ∧
  gA (S.part b (o + 2 + n.toNat * 109 + 12) 96) fun t =>
  lp (fun Xx (z : Int × Int) (Sx_1 : Mem) =>
      match z with
      | (k_1, t_1) =>
        if t_1 < 32 then
          0 ≤ t_1 ∧ t_1 < 32 ∧
          gA (lpart t (t_1.toNat * 3) 3) fun t_2 =>
          t_2.all (·.oneCell') = true ∧
          gB (nthL t_2 1) fun t_3 =>
          if t_3 = true then
            Xx (IntKind.i64.wrap (k_1 + 1), IntKind.i64.wrap (t_1 + 1)) Sx_1
          else
          Xx (k_1, IntKind.i64.wrap (t_1 + 1)) Sx_1
        else
        Jx k_1 Sx_1) (0, 0) S
theorem t_ideal_Ideal_pages {S : Mem} {x : Pt} {n : Int} {Q : Int → Mem → Prop} (H : b_ideal_Ideal_pages S x n Q) : ideal_Ideal_pages S x n Q := by
  unfold b_ideal_Ideal_pages at H
  refine Tr.intro Try.func47 rfl Try.ntmps47 rfl fun w0 => ?_
  refine c_seq ?_
  refine c_region ?_
  refine s_p rfl (y_assign rfl) ?_
  refine s_nil (q_then ?_)
  refine c_seq ?_
  refine c_region ?_
  refine s_p rfl (y_assign rfl) ?_
  refine s_nil (q_then ?_)
  refine c_join2 H (fun (J : Int → Mem → Prop) (z : Int) S => J z S) (fun z => ⟨24, [(5, .int .i64 z)]⟩) (fun z => []) ?_ ?_
  · clear H
    rintro k Sx H
    refine c_seq ?_
    refine c_region ?_
    refine s_p rfl (y_move rfl) ?_
    refine s_p rfl (y_assign rfl) ?_
    refine s_nil (q_then ?_)
    refine c_ret ?_
    exact q_ret Try.results47 (rv_tmp rfl rv_nil) ⟨_, rfl, H⟩
  · clear H
    intro Jx hJx H
    refine c_seq ?_
    refine c_region ?_
    refine s_p rfl (y_move rfl) ?_
    refine s_p rfl (y_move rfl) ?_
    obtain ⟨b, o, rfl, H⟩ := H
    refine s_p rfl (y_nc rfl) ?_
    refine s_p rfl (y_fa rfl rfl) ?_
    obtain ⟨c, c_1, H⟩ := H
    refine s_p rfl (y_ixA rfl rfl c c_1 rfl) ?_
    refine s_p rfl (y_fa rfl rfl) ?_
    obtain ⟨t, ht, H⟩ := H
    refine s_v rfl (y_ldA rfl (part_len ht)) (hc_SP ht) ?_
    refine s_p rfl (y_move rfl) ?_
    refine s_nil (q_then ?_)
    refine c_block ?_
    refine c_loop (fun z => ⟨24, [(5, .int .i64 z.1), (14, valL t), (15, .int .i64 z.2)]⟩) (fun z => []) (0, 0) (idx := []) H rfl ⟨rfl, rfl, rfl, True.intro⟩ rfl ?_
    clear H
    rintro Xx hXx ⟨k_1, t_1⟩ Sx_1 H
    refine c_seq ?_
    refine c_region ?_
    replace H := ite_e H
    rcases H with ⟨c_2, H⟩ | ⟨c_2, H⟩
    · refine s_p rfl (yT (y_lss rfl rfl) c_2) ?_
      refine s_nil (q_then ?_)
      refine c_seq ?_
      refine c_t rfl rfl ?_
      refine c_skip (q_then ?_)
      refine c_seq ?_
      refine c_block ?_
      refine c_seq ?_
      refine c_region ?_
      obtain ⟨c_3, c_4, H⟩ := H
      obtain ⟨t_2, ht_2, H⟩ := H
      refine s_p rfl (y_idxA rfl rfl c_3 c_4 ht_2) ?_
      refine s_alloc rfl fun b_1 => ?_
      obtain ⟨c_5, H⟩ := H
      refine s_stV_all 0 rfl rfl rfl rfl rfl ((lpart_e ht_2).2.2) rfl c_5 ?_
      refine s_nil (q_then ?_)
      refine c_seq ?_
      refine c_region ?_
      refine s_p rfl (y_fa rfl rfl) ?_
      obtain ⟨t_3, ht_3, H⟩ := H
      replace H := ib_e H
      rcases H with ⟨rfl, H⟩ | ⟨rfl, H⟩
      · refine s_v rfl (y_ld rfl) (hc_V 0 rfl ht_3) ?_
        refine s_nil (q_then ?_)
        refine c_t rfl rfl ?_
        refine c_region ?_
        refine s_p rfl (y_move rfl) ?_
        refine s_p rfl (y_add rfl rfl) ?_
        refine s_p rfl (y_assign rfl) ?_
        refine s_nil (q_blk (q_then ?_))
        refine c_region ?_
        refine s_p rfl (y_add rfl rfl) ?_
        refine s_p rfl (y_move rfl) ?_
        refine s_nil ?_
        exact hXx (IntKind.i64.wrap (k_1 + 1), IntKind.i64.wrap (t_1 + 1)) _ _ _ _ [] H rfl ⟨rfl, rfl, rfl, True.intro⟩ rfl
      · refine s_v rfl (y_ld rfl) (hc_V 0 rfl ht_3) ?_
        refine s_nil (q_then ?_)
        refine c_f rfl rfl ?_
        refine c_skip (q_blk (q_then ?_))
        refine c_region ?_
        refine s_p rfl (y_add rfl rfl) ?_
        refine s_p rfl (y_move rfl) ?_
        refine s_nil ?_
        exact hXx (k_1, IntKind.i64.wrap (t_1 + 1)) _ _ _ _ [] H rfl ⟨rfl, rfl, rfl, True.intro⟩ rfl
    · refine s_p rfl (yF (y_lss rfl rfl) c_2) ?_
      refine s_nil (q_then ?_)
      refine c_seq ?_
      refine c_f rfl rfl ?_
      refine c_exit (q_then_exit (q_then_exit (q_blk_out ?_)))
      exact hJx k_1 _ _ _ _ [] H rfl ⟨rfl, True.intro⟩ rfl
def b_hermitcrablaw23_IdealFree (S : Mem) (l : Sl) (Q : Bool → Mem → Prop) : Prop :=
  jn (fun (Sx : Mem) =>
      ideal_New Sx 100 fun t Sx_1 =>
      jn (fun (Sx_2 : Mem) =>
          Q true Sx_2) fun Jx =>
      lp (fun Xx (z : Int × Int × List Value) (Sx_3 : Mem) =>
          match z with
          | (free, i, has) =>
            has.length = 6 ∧
            jn (fun (Sx_4 : Mem) =>
                jn (fun (free_1 : Int) (has_1 : List Value) (Sx_5 : Mem) =>
                    has_1.length = 6 ∧
                    Xx (free_1, IntKind.i64.wrap (i + 1), has_1) Sx_5) fun Jx_1 =>
                sl l fun b_1 o n n_1 =>
                0 ≤ i ∧ i < ((n : Nat) : Int) ∧
                gI (Sx_4.cell b_1 (o + i.toNat * 1)) .u8 fun t_1 =>
                jn (fun (free_2 : Int) (has_2 : List Value) (Sx_6 : Mem) =>
                    has_2.length = 6 ∧
                    ideal_Ideal_Free Sx_6 t fun t_2 Sx_7 =>
                    if t_2 ≠ free_2 then
                      Q false Sx_7
                    else
                    if free_2 < 0 then
                      Q false Sx_7
                    else
                    Jx_1 free_2 has_2 Sx_7) fun Jx_2 =>
                0 ≤ i ∧ i < ((n : Nat) : Int) ∧
                gI (Sx_4.cell b_1 (o + i.toNat * 1)) .u8 fun t_3 =>
                if 0 < Int.tmod t_3 4 then
                  ideal_Ideal_Create Sx_4 t 1 8 (IntKind.i64.wrap (1 + (IntKind.i64.wrap (Int.tmod (IntKind.u8.wrap (Int.tdiv t_1 4)) 8)))) (⟨none, 0, 0⟩) fun t_4 t_5 Sx_8 =>
                  if t_5 = 0 then
                    0 ≤ t_4 ∧ t_4 < 6 ∧
                    Jx_2 (IntKind.i64.wrap (free - (IntKind.i64.wrap (5 + (IntKind.i64.wrap (1 + (IntKind.i64.wrap (Int.tmod (IntKind.u8.wrap (Int.tdiv t_1 4)) 8)))))))) (spl has (0 + t_4.toNat * 1) ([.int .i64 (IntKind.i64.wrap (5 + (IntKind.i64.wrap (1 + (IntKind.i64.wrap (Int.tmod (IntKind.u8.wrap (Int.tdiv t_1 4)) 8))))))])) Sx_8
                  else
                  Jx_2 free has Sx_8
                else
                0 ≤ i ∧ i < ((n : Nat) : Int) ∧
                gI (Sx_4.cell b_1 (o + i.toNat * 1)) .u8 fun t_6 =>
                ideal_Ideal_Destroy Sx_4 t (IntKind.i64.wrap (Int.tmod (IntKind.u8.wrap (Int.tdiv t_6 4)) 6)) fun t_7 Sx_9 =>
                if t_7 = 0 then
                  0 ≤ IntKind.i64.wrap (Int.tmod (IntKind.u8.wrap (Int.tdiv t_6 4)) 6) ∧ IntKind.i64.wrap (Int.tmod (IntKind.u8.wrap (Int.tdiv t_6 4)) 6) < 6 ∧
                  gI (nthL has (0 + (IntKind.i64.wrap (Int.tmod (IntKind.u8.wrap (Int.tdiv t_6 4)) 6)).toNat * 1)) .i64 fun t_8 =>
                  0 ≤ IntKind.i64.wrap (Int.tmod (IntKind.u8.wrap (Int.tdiv t_6 4)) 6) ∧ IntKind.i64.wrap (Int.tmod (IntKind.u8.wrap (Int.tdiv t_6 4)) 6) < 6 ∧
                  Jx_2 (IntKind.i64.wrap (free + t_8)) (spl has (0 + (IntKind.i64.wrap (Int.tmod (IntKind.u8.wrap (Int.tdiv t_6 4)) 6)).toNat * 1) ([.int .i64 0])) Sx_9
                else
                Jx_2 free has Sx_9) fun Jx_3 =>
            if i < (l.n : Int) then
              Jx_3 Sx_3
            else
            Jx Sx_3) (100, 0, [.int .i64 0, .int .i64 0, .int .i64 0, .int .i64 0, .int .i64 0, .int .i64 0]) Sx_1) fun Jx_4 =>
  hermitcrablaw23_awake S fun t_9 Sx_10 =>
  if t_9 = true then
    if 30 < (l.n : Int) then
      hermitcrablaw23_awake Sx_10 fun t_10 Sx_11 =>
      Q t_10 Sx_11
    else
    Jx_4 Sx_10
  else
  hermitcrablaw23_awake Sx_10 fun t_11 Sx_12 =>
  Q t_11 Sx_12
theorem t_hermitcrablaw23_IdealFree {S : Mem} {l : Sl} {Q : Bool → Mem → Prop} (H : b_hermitcrablaw23_IdealFree S l Q) : hermitcrablaw23_IdealFree S l Q := by
  unfold b_hermitcrablaw23_IdealFree at H
  refine Tr.intro Try.func4 rfl Try.ntmps4 rfl fun w0 => ?_
  refine c_seq ?_
  refine c_region ?_
  refine s_p rfl (y_assign rfl) ?_
  refine s_nil (q_then ?_)
  refine c_join2 H (fun (J : Mem → Prop) (z : Unit) S => J S) (fun z => ⟨82, [(0, eL l)]⟩) (fun z => []) ?_ ?_
  · clear H
    rintro _ Sx H
    refine c_seq ?_
    refine c_region ?_
    refine s_call rfl rfl H fun rv Sx_1 H2 => ?_
    clear H
    obtain ⟨t, rfl, H⟩ := H2
    refine s_p rfl (y_assign rfl) ?_
    refine s_nil (q_then ?_)
    refine c_seq ?_
    refine c_region ?_
    refine s_p rfl (y_assign rfl) ?_
    refine s_nil (q_then ?_)
    refine c_seq ?_
    refine c_region ?_
    refine s_alloc rfl fun b => ?_
    refine s_nil (q_then ?_)
    refine c_join2 H (fun (J : Mem → Prop) (z : Unit) S => J S) (fun z => ⟨82, []⟩) (fun z => []) ?_ ?_
    · clear H
      rintro _ Sx_2 H
      refine c_seq ?_
      refine c_region ?_
      refine s_p rfl (y_assign rfl) ?_
      refine s_nil (q_then ?_)
      refine c_ret ?_
      exact q_ret Try.results4 (rv_tmp rfl rv_nil) ⟨_, rfl, H⟩
    · clear H
      intro Jx hJx H
      refine c_seq ?_
      refine c_region ?_
      refine s_p rfl (y_assign rfl) ?_
      refine s_nil (q_then ?_)
      refine c_block ?_
      refine c_loop (fun z => ⟨82, [(0, eL l), (3, eP t), (4, .int .i64 z.1), (5, .pointer (some ⟨b, 0, none⟩)), (6, .int .i64 z.2.1)]⟩) (fun z => [⟨b, 40, z.2.2⟩]) (100, 0, [.int .i64 0, .int .i64 0, .int .i64 0, .int .i64 0, .int .i64 0, .int .i64 0]) (idx := [0]) H rfl ⟨rfl, rfl, rfl, rfl, rfl, True.intro⟩ rfl ?_
      clear H
      rintro Xx hXx ⟨free, i, has⟩ Sx_3 H
      obtain ⟨hhas, H⟩ := H
      refine c_join2 H (fun (J : Mem → Prop) (z : Unit) S => J S) (fun z => ⟨82, [(0, eL l), (3, eP t), (4, .int .i64 free), (5, .pointer (some ⟨b, 0, none⟩)), (6, .int .i64 i)]⟩) (fun z => [⟨b, 40, has⟩]) ?_ ?_
      · clear H
        rintro _ Sx_4 H
        refine c_join2 H (fun (J : Int → List Value → Mem → Prop) (z : Int × List Value) S => J z.1 z.2 S) (fun z => ⟨82, [(0, eL l), (3, eP t), (4, .int .i64 z.1), (5, .pointer (some ⟨b, 0, none⟩)), (6, .int .i64 i)]⟩) (fun z => [⟨b, 40, z.2⟩]) ?_ ?_
        · clear H
          rintro ⟨free_1, has_1⟩ Sx_5 H
          obtain ⟨hhas_1, H⟩ := H
          refine c_region ?_
          refine s_p rfl (y_move rfl) ?_
          refine s_p rfl (y_add rfl rfl) ?_
          refine s_p rfl (y_assign rfl) ?_
          refine s_nil ?_
          exact hXx (free_1, IntKind.i64.wrap (i + 1), has_1) _ _ _ _ [0] H rfl ⟨rfl, rfl, rfl, rfl, rfl, True.intro⟩ rfl
        · clear H
          intro Jx_1 hJx_1 H
          refine c_block ?_
          refine c_seq ?_
          refine c_region ?_
          refine s_p rfl (y_move rfl) ?_
          refine s_p rfl (y_move rfl) ?_
          obtain ⟨b_1, o, n, n_1, rfl, H⟩ := H
          obtain ⟨c, c_1, H⟩ := H
          refine s_p rfl (y_ixL rfl rfl c c_1 rfl) ?_
          obtain ⟨t_1, ht_1, H⟩ := H
          refine s_v rfl (y_ld rfl) (hc_S ht_1) ?_
          refine s_p rfl (y_quo rfl rfl (by decide)) ?_
          refine s_p rfl (y_rem rfl rfl (by decide)) ?_
          refine s_p rfl (y_conv ⟨_, Try.underlying5⟩ rfl) ?_
          refine s_p rfl (y_add rfl rfl) ?_
          refine s_p rfl (y_assign rfl) ?_
          refine s_nil (q_then ?_)
          refine c_join2 H (fun (J : Int → List Value → Mem → Prop) (z : Int × List Value) S => J z.1 z.2 S) (fun z => ⟨82, [(0, .slice (some ⟨b_1, o, none⟩) n n_1), (3, eP t), (4, .int .i64 z.1), (5, .pointer (some ⟨b, 0, none⟩)), (6, .int .i64 i)]⟩) (fun z => [⟨b, 40, z.2⟩]) ?_ ?_
          · clear H
            rintro ⟨free_2, has_2⟩ Sx_6 H
            obtain ⟨hhas_2, H⟩ := H
            refine c_seq ?_
            refine c_region ?_
            refine s_p rfl (y_move rfl) ?_
            refine s_call rfl rfl H fun rv Sx_7 H2 => ?_
            clear H
            obtain ⟨t_2, rfl, H⟩ := H2
            refine s_p rfl (y_move rfl) ?_
            replace H := ite_e H
            rcases H with ⟨c_2, H⟩ | ⟨c_2, H⟩
            · refine s_p rfl (yT (y_neq rfl rfl) c_2) ?_
              refine s_p rfl (y_move rfl) ?_
              refine s_skip rfl ?_
              refine s_skip rfl ?_
              refine s_p rfl (y_pick rfl rfl) ?_
              refine s_nil (q_then ?_)
              refine c_t rfl rfl ?_
              refine c_seq ?_
              refine c_region ?_
              refine s_p rfl (y_assign rfl) ?_
              refine s_nil (q_then ?_)
              refine c_ret (q_blk_ret (q_then_ret (q_then_ret (q_blk_ret (q_then_ret ?_)))))
              exact q_ret Try.results4 (rv_tmp rfl rv_nil) ⟨_, rfl, H⟩
            · refine s_p rfl (yF (y_neq rfl rfl) c_2) ?_
              refine s_p rfl (y_move rfl) ?_
              refine s_p rfl (y_move rfl) ?_
              replace H := ite_e H
              rcases H with ⟨c_3, H⟩ | ⟨c_3, H⟩
              · refine s_p rfl (yT (y_lss rfl rfl) c_3) ?_
                refine s_p rfl (y_pick rfl rfl) ?_
                refine s_nil (q_then ?_)
                refine c_t rfl rfl ?_
                refine c_seq ?_
                refine c_region ?_
                refine s_p rfl (y_assign rfl) ?_
                refine s_nil (q_then ?_)
                refine c_ret (q_blk_ret (q_then_ret (q_then_ret (q_blk_ret (q_then_ret ?_)))))
                exact q_ret Try.results4 (rv_tmp rfl rv_nil) ⟨_, rfl, H⟩
              · refine s_p rfl (yF (y_lss rfl rfl) c_3) ?_
                refine s_p rfl (y_pick rfl rfl) ?_
                refine s_nil (q_then ?_)
                refine c_f rfl rfl ?_
                refine c_skip (q_blk ?_)
                exact hJx_1 (free_2, has_2) _ _ _ _ [0] H rfl ⟨rfl, rfl, rfl, rfl, rfl, True.intro⟩ rfl
          · clear H
            intro Jx_2 hJx_2 H
            refine c_seq ?_
            refine c_region ?_
            refine s_p rfl (y_move rfl) ?_
            refine s_p rfl (y_move rfl) ?_
            obtain ⟨c_4, c_5, H⟩ := H
            refine s_p rfl (y_ixL rfl rfl c_4 c_5 rfl) ?_
            obtain ⟨t_3, ht_3, H⟩ := H
            refine s_v rfl (y_ld rfl) (hc_S ht_3) ?_
            refine s_p rfl (y_rem rfl rfl (by decide)) ?_
            replace H := ite_e H
            rcases H with ⟨c_6, H⟩ | ⟨c_6, H⟩
            · refine s_p rfl (yT (y_gtr rfl rfl) c_6) ?_
              refine s_nil (q_then ?_)
              refine c_t rfl rfl ?_
              refine c_seq ?_
              refine c_region ?_
              refine s_p rfl (y_move rfl) ?_
              refine s_p rfl (y_move rfl) ?_
              refine s_call rfl rfl H fun rv Sx_8 H2 => ?_
              clear H
              obtain ⟨t_4, t_5, rfl, H⟩ := H2
              refine s_p rfl (y_move rfl) ?_
              refine s_p rfl (y_extract rfl rfl) ?_
              refine s_p rfl (y_extract rfl rfl) ?_
              refine s_p rfl (y_assign rfl) ?_
              refine s_p rfl (y_assign rfl) ?_
              refine s_nil (q_then ?_)
              refine c_seq ?_
              refine c_region ?_
              refine s_p rfl (y_move rfl) ?_
              replace H := ite_e H
              rcases H with ⟨c_7, H⟩ | ⟨c_7, H⟩
              · refine s_p rfl (yT (y_eql rfl rfl) c_7) ?_
                refine s_nil (q_then ?_)
                refine c_t rfl rfl ?_
                refine c_seq ?_
                refine c_region ?_
                refine s_p rfl (y_move rfl) ?_
                refine s_p rfl (y_move rfl) ?_
                refine s_p rfl (y_add rfl rfl) ?_
                obtain ⟨c_8, c_9, H⟩ := H
                refine s_p rfl (y_ixA rfl rfl c_8 c_9 rfl) ?_
                refine s_stV (sz := 1) (vs := [.int .i64 (IntKind.i64.wrap (5 + (IntKind.i64.wrap (1 + (IntKind.i64.wrap (Int.tmod (IntKind.u8.wrap (Int.tdiv t_1 4)) 8))))))]) 0 rfl rfl rfl rfl rfl rfl (fit_of hhas (by omega)) rfl ?_
                refine s_nil (q_then ?_)
                refine c_region ?_
                refine s_p rfl (y_move rfl) ?_
                refine s_p rfl (y_move rfl) ?_
                refine s_p rfl (y_add rfl rfl) ?_
                refine s_p rfl (y_sub rfl rfl) ?_
                refine s_p rfl (y_assign rfl) ?_
                refine s_nil ?_
                exact hJx_2 (IntKind.i64.wrap (free - (IntKind.i64.wrap (5 + (IntKind.i64.wrap (1 + (IntKind.i64.wrap (Int.tmod (IntKind.u8.wrap (Int.tdiv t_1 4)) 8))))))), spl has (0 + t_4.toNat * 1) ([.int .i64 (IntKind.i64.wrap (5 + (IntKind.i64.wrap (1 + (IntKind.i64.wrap (Int.tmod (IntKind.u8.wrap (Int.tdiv t_1 4)) 8))))))])) _ _ _ _ [0] H rfl ⟨rfl, rfl, rfl, rfl, rfl, True.intro⟩ rfl
              · refine s_p rfl (yF (y_eql rfl rfl) c_7) ?_
                refine s_nil (q_then ?_)
                refine c_f rfl rfl ?_
                refine c_skip ?_
                exact hJx_2 (free, has) _ _ _ _ [0] H rfl ⟨rfl, rfl, rfl, rfl, rfl, True.intro⟩ rfl
            · refine s_p rfl (yF (y_gtr rfl rfl) c_6) ?_
              refine s_nil (q_then ?_)
              refine c_f rfl rfl ?_
              refine c_seq ?_
              refine c_region ?_
              refine s_p rfl (y_move rfl) ?_
              refine s_p rfl (y_move rfl) ?_
              obtain ⟨c_10, c_11, H⟩ := H
              refine s_p rfl (y_ixL rfl rfl c_10 c_11 rfl) ?_
              obtain ⟨t_6, ht_6, H⟩ := H
              refine s_v rfl (y_ld rfl) (hc_S ht_6) ?_
              refine s_p rfl (y_quo rfl rfl (by decide)) ?_
              refine s_p rfl (y_rem rfl rfl (by decide)) ?_
              refine s_p rfl (y_conv ⟨_, Try.underlying5⟩ rfl) ?_
              refine s_p rfl (y_assign rfl) ?_
              refine s_nil (q_then ?_)
              refine c_seq ?_
              refine c_region ?_
              refine s_p rfl (y_move rfl) ?_
              refine s_p rfl (y_move rfl) ?_
              refine s_call rfl rfl H fun rv Sx_9 H2 => ?_
              clear H
              obtain ⟨t_7, rfl, H⟩ := H2
              replace H := ite_e H
              rcases H with ⟨c_12, H⟩ | ⟨c_12, H⟩
              · refine s_p rfl (yT (y_eql rfl rfl) c_12) ?_
                refine s_nil (q_then ?_)
                refine c_t rfl rfl ?_
                refine c_seq ?_
                refine c_region ?_
                refine s_p rfl (y_move rfl) ?_
                refine s_p rfl (y_move rfl) ?_
                obtain ⟨c_13, c_14, H⟩ := H
                refine s_p rfl (y_ixA rfl rfl c_13 c_14 rfl) ?_
                obtain ⟨t_8, ht_8, H⟩ := H
                refine s_v rfl (y_ld rfl) (hc_V 0 rfl ht_8) ?_
                refine s_p rfl (y_add rfl rfl) ?_
                refine s_p rfl (y_assign rfl) ?_
                refine s_nil (q_then ?_)
                refine c_region ?_
                refine s_p rfl (y_move rfl) ?_
                obtain ⟨c_15, c_16, H⟩ := H
                refine s_p rfl (y_ixA rfl rfl c_15 c_16 rfl) ?_
                refine s_stV (sz := 1) (vs := [.int .i64 0]) 0 rfl rfl rfl rfl rfl rfl (fit_of hhas (by omega)) rfl ?_
                refine s_nil ?_
                exact hJx_2 (IntKind.i64.wrap (free + t_8), spl has (0 + (IntKind.i64.wrap (Int.tmod (IntKind.u8.wrap (Int.tdiv t_6 4)) 6)).toNat * 1) ([.int .i64 0])) _ _ _ _ [0] H rfl ⟨rfl, rfl, rfl, rfl, rfl, True.intro⟩ rfl
              · refine s_p rfl (yF (y_eql rfl rfl) c_12) ?_
                refine s_nil (q_then ?_)
                refine c_f rfl rfl ?_
                refine c_skip ?_
                exact hJx_2 (free, has) _ _ _ _ [0] H rfl ⟨rfl, rfl, rfl, rfl, rfl, True.intro⟩ rfl
      · clear H
        intro Jx_3 hJx_3 H
        refine c_seq ?_
        refine c_region ?_
        refine s_p rfl (y_move rfl) ?_
        refine s_p rfl (y_move rfl) ?_
        refine s_p rfl (y_len rfl) ?_
        replace H := ite_e H
        rcases H with ⟨c_17, H⟩ | ⟨c_17, H⟩
        · refine s_p rfl (yT (y_lss rfl rfl) c_17) ?_
          refine s_nil (q_then ?_)
          refine c_t rfl rfl ?_
          refine c_skip ?_
          exact hJx_3 () _ _ _ _ [0] H rfl ⟨rfl, rfl, rfl, rfl, rfl, True.intro⟩ rfl
        · refine s_p rfl (yF (y_lss rfl rfl) c_17) ?_
          refine s_nil (q_then ?_)
          refine c_f rfl rfl ?_
          refine c_exit (q_then_exit (q_then_exit (q_blk_out ?_)))
          exact hJx () _ _ _ _ [] H rfl True.intro rfl
  · clear H
    intro Jx_4 hJx_4 H
    refine c_seq ?_
    refine c_region ?_
    refine s_call rfl rfl H fun rv Sx_10 H2 => ?_
    clear H
    obtain ⟨t_9, rfl, H⟩ := H2
    replace H := ib_e H
    rcases H with ⟨rfl, H⟩ | ⟨rfl, H⟩
    · skip
      refine s_p rfl (yB (y_not rfl) rfl) ?_
      refine s_p rfl (y_move rfl) ?_
      refine s_p rfl (y_move rfl) ?_
      refine s_p rfl (y_len rfl) ?_
      replace H := ite_e H
      rcases H with ⟨c_18, H⟩ | ⟨c_18, H⟩
      · refine s_p rfl (yT (y_gtr rfl rfl) c_18) ?_
        refine s_p rfl (y_pick rfl rfl) ?_
        refine s_nil (q_then ?_)
        refine c_t rfl rfl ?_
        refine c_seq ?_
        refine c_region ?_
        refine s_call rfl rfl H fun rv Sx_11 H2 => ?_
        clear H
        obtain ⟨t_10, rfl, H⟩ := H2
        refine s_p rfl (y_assign rfl) ?_
        refine s_nil (q_then ?_)
        refine c_ret (q_then_ret ?_)
        exact q_ret Try.results4 (rv_tmp rfl rv_nil) ⟨_, rfl, H⟩
      · refine s_p rfl (yF (y_gtr rfl rfl) c_18) ?_
        refine s_p rfl (y_pick rfl rfl) ?_
        refine s_nil (q_then ?_)
        refine c_f rfl rfl ?_
        refine c_skip ?_
        exact hJx_4 () _ _ _ _ [] H rfl ⟨rfl, True.intro⟩ rfl
    · skip
      refine s_p rfl (yB (y_not rfl) rfl) ?_
      refine s_p rfl (y_move rfl) ?_
      refine s_skip rfl ?_
      refine s_skip rfl ?_
      refine s_skip rfl ?_
      refine s_p rfl (y_pick rfl rfl) ?_
      refine s_nil (q_then ?_)
      refine c_t rfl rfl ?_
      refine c_seq ?_
      refine c_region ?_
      refine s_call rfl rfl H fun rv Sx_12 H2 => ?_
      clear H
      obtain ⟨t_11, rfl, H⟩ := H2
      refine s_p rfl (y_assign rfl) ?_
      refine s_nil (q_then ?_)
      refine c_ret (q_then_ret ?_)
      exact q_ret Try.results4 (rv_tmp rfl rv_nil) ⟨_, rfl, H⟩
end Go.Proofs.Ytpilffakhkagjaa
