/- PRINTED BY pt.py: functions. -/
import Derived.Test.YtpilffakhkagjaaPtS
namespace Go.Proofs.Ytpilffakhkagjaa
open Go Go.Pt
attribute [local irreducible] Code.wp Back bodyPost wpList FR WL WC WQ WA AW Tr Yc HC AllC
set_option maxRecDepth 20000
set_option maxHeartbeats 4000000
set_option linter.unusedVariables false
def b_heap_Init (S : Mem) (h : Value) (Q : Mem → Prop) : Prop :=
  ci Try.prog S h "Len" [] fun rv Sx => ∃ t : Int, rv = .int .i64 t ∧ 
  lp (fun Xx (i : Int) (Sx_1 : Mem) =>
      if 0 ≤ i then
        heap_down Sx_1 h i t fun t_1 Sx_2 =>
        Xx (IntKind.i64.wrap (i - 1)) Sx_2
      else
      Q Sx_1) (IntKind.i64.wrap ((IntKind.i64.wrap (Int.tdiv t 2)) - 1)) Sx
theorem t_heap_Init {S : Mem} {h : Value} {Q : Mem → Prop} (H : b_heap_Init S h Q) : heap_Init S h Q := by
  unfold b_heap_Init at H
  refine Tr.intro Try.func59 rfl Try.ntmps59 rfl fun w0 => ?_
  refine c_seq ?_
  refine c_region ?_
  refine s_p rfl (y_move rfl) ?_
  refine s_ci rfl rfl rfl H fun rv Sx H2 => ?_
  clear H
  obtain ⟨t, rfl, H⟩ := H2
  refine s_p rfl (y_assign rfl) ?_
  refine s_nil (q_then ?_)
  refine c_seq ?_
  refine c_region ?_
  refine s_p rfl (y_move rfl) ?_
  refine s_p rfl (y_quo rfl rfl (by decide)) ?_
  refine s_p rfl (y_sub rfl rfl) ?_
  refine s_p rfl (y_assign rfl) ?_
  refine s_nil (q_then ?_)
  refine c_block ?_
  refine c_loop (fun z => ⟨17, [(0, h), (2, .int .i64 t), (3, .int .i64 z)]⟩) (fun z => []) (IntKind.i64.wrap ((IntKind.i64.wrap (Int.tdiv t 2)) - 1)) (idx := []) H rfl ⟨rfl, rfl, rfl, True.intro⟩ rfl ?_
  clear H
  rintro Xx hXx i Sx_1 H
  refine c_seq ?_
  refine c_seq ?_
  refine c_region ?_
  refine s_p rfl (y_move rfl) ?_
  replace H := ite_e H
  rcases H with ⟨c, H⟩ | ⟨c, H⟩
  · refine s_p rfl (yT (y_geq rfl rfl) c) ?_
    refine s_nil (q_then ?_)
    refine c_t rfl rfl ?_
    refine c_skip (q_then ?_)
    refine c_seq ?_
    refine c_block ?_
    refine c_region ?_
    refine s_p rfl (y_move rfl) ?_
    refine s_p rfl (y_move rfl) ?_
    refine s_p rfl (y_move rfl) ?_
    refine s_call rfl rfl H fun rv Sx_2 H2 => ?_
    clear H
    obtain ⟨t_1, rfl, H⟩ := H2
    refine s_nil (q_blk (q_then ?_))
    refine c_region ?_
    refine s_p rfl (y_move rfl) ?_
    refine s_p rfl (y_sub rfl rfl) ?_
    refine s_p rfl (y_assign rfl) ?_
    refine s_nil ?_
    exact hXx (IntKind.i64.wrap (i - 1)) _ _ _ _ [] H rfl ⟨rfl, rfl, rfl, True.intro⟩ rfl
  · refine s_p rfl (yF (y_geq rfl rfl) c) ?_
    refine s_nil (q_then ?_)
    refine c_f rfl rfl ?_
    refine c_exit (q_then_exit (q_then_exit (q_blk_out ?_)))
    exact q_end Try.results59 (rv_nil) ⟨rfl, H⟩
def b_heap_Push (S : Mem) (h : Value) (x : Value) (Q : Mem → Prop) : Prop :=
  ci Try.prog S h "Push" [x] fun rv Sx => rv = .tuple #[] ∧ 
  ci Try.prog Sx h "Len" [] fun rv Sx_1 => ∃ t : Int, rv = .int .i64 t ∧ 
  heap_up Sx_1 h (IntKind.i64.wrap (t - 1)) fun Sx_2 =>
  Q Sx_2
theorem t_heap_Push {S : Mem} {h : Value} {x : Value} {Q : Mem → Prop} (H : b_heap_Push S h x Q) : heap_Push S h x Q := by
  unfold b_heap_Push at H
  refine Tr.intro Try.func61 rfl Try.ntmps61 rfl fun w0 => ?_
  refine c_seq ?_
  refine c_region ?_
  refine s_p rfl (y_move rfl) ?_
  refine s_p rfl (y_move rfl) ?_
  refine s_ci rfl rfl rfl H fun rv Sx H2 => ?_
  clear H
  obtain ⟨rfl, H⟩ := H2
  refine s_nil (q_then ?_)
  refine c_region ?_
  refine s_p rfl (y_move rfl) ?_
  refine s_p rfl (y_move rfl) ?_
  refine s_ci rfl rfl rfl H fun rv Sx_1 H2 => ?_
  clear H
  obtain ⟨t, rfl, H⟩ := H2
  refine s_p rfl (y_sub rfl rfl) ?_
  refine s_call rfl rfl H fun rv Sx_2 H2 => ?_
  clear H
  obtain ⟨rfl, H⟩ := H2
  refine s_nil ?_
  exact q_end Try.results61 (rv_nil) ⟨rfl, H⟩
def b_heap_Pop (S : Mem) (h : Value) (Q : Value → Mem → Prop) : Prop :=
  ci Try.prog S h "Len" [] fun rv Sx => ∃ t : Int, rv = .int .i64 t ∧ 
  ci Try.prog Sx h "Swap" [.int .i64 0, .int .i64 (IntKind.i64.wrap (t - 1))] fun rv Sx_1 => rv = .tuple #[] ∧ 
  heap_down Sx_1 h 0 (IntKind.i64.wrap (t - 1)) fun t_1 Sx_2 =>
  ci Try.prog Sx_2 h "Pop" [] fun rv Sx_3 => ∃ t_2 : Value, rv = t_2 ∧ 
  Q t_2 Sx_3
theorem t_heap_Pop {S : Mem} {h : Value} {Q : Value → Mem → Prop} (H : b_heap_Pop S h Q) : heap_Pop S h Q := by
  unfold b_heap_Pop at H
  refine Tr.intro Try.func62 rfl Try.ntmps62 rfl fun w0 => ?_
  refine c_seq ?_
  refine c_region ?_
  refine s_p rfl (y_assign rfl) ?_
  refine s_nil (q_then ?_)
  refine c_seq ?_
  refine c_region ?_
  refine s_p rfl (y_move rfl) ?_
  refine s_ci rfl rfl rfl H fun rv Sx H2 => ?_
  clear H
  obtain ⟨t, rfl, H⟩ := H2
  refine s_p rfl (y_sub rfl rfl) ?_
  refine s_p rfl (y_assign rfl) ?_
  refine s_nil (q_then ?_)
  refine c_seq ?_
  refine c_region ?_
  refine s_p rfl (y_move rfl) ?_
  refine s_p rfl (y_move rfl) ?_
  refine s_ci rfl rfl rfl H fun rv Sx_1 H2 => ?_
  clear H
  obtain ⟨rfl, H⟩ := H2
  refine s_nil (q_then ?_)
  refine c_seq ?_
  refine c_region ?_
  refine s_p rfl (y_move rfl) ?_
  refine s_p rfl (y_move rfl) ?_
  refine s_call rfl rfl H fun rv Sx_2 H2 => ?_
  clear H
  obtain ⟨t_1, rfl, H⟩ := H2
  refine s_nil (q_then ?_)
  refine c_seq ?_
  refine c_region ?_
  refine s_p rfl (y_move rfl) ?_
  refine s_ci rfl rfl rfl H fun rv Sx_3 H2 => ?_
  clear H
  obtain ⟨t_2, rfl, H⟩ := H2
  refine s_p rfl (y_assign rfl) ?_
  refine s_nil (q_then ?_)
  refine c_ret ?_
  exact q_ret Try.results62 (rv_tmp rfl rv_nil) ⟨_, rfl, H⟩
def b_heap_down (S : Mem) (h : Value) (i0_0 : Int) (n : Int) (Q : Bool → Mem → Prop) : Prop :=
  jn (fun (i : Int) (Sx : Mem) =>
      Q (decide (i0_0 < i)) Sx) fun Jx =>
  lp (fun Xx (i_1 : Int) (Sx_1 : Mem) =>
      jn (fun (Sx_2 : Mem) =>
          jn (fun (j : Int) (Sx_3 : Mem) =>
              ci Try.prog Sx_3 h "Less" [.int .i64 j, .int .i64 i_1] fun rv Sx_4 => ∃ t : Bool, rv = .bool t ∧ 
              if t = true then
                ci Try.prog Sx_4 h "Swap" [.int .i64 i_1, .int .i64 j] fun rv Sx_5 => rv = .tuple #[] ∧ 
                Xx j Sx_5
              else
              Jx i_1 Sx_4) fun Jx_1 =>
          if IntKind.i64.wrap ((IntKind.i64.wrap ((IntKind.i64.wrap (2 * i_1)) + 1)) + 1) < n then
            ci Try.prog Sx_2 h "Less" [.int .i64 (IntKind.i64.wrap ((IntKind.i64.wrap ((IntKind.i64.wrap (2 * i_1)) + 1)) + 1)), .int .i64 (IntKind.i64.wrap ((IntKind.i64.wrap (2 * i_1)) + 1))] fun rv Sx_6 => ∃ t_1 : Bool, rv = .bool t_1 ∧ 
            if t_1 = true then
              Jx_1 (IntKind.i64.wrap ((IntKind.i64.wrap ((IntKind.i64.wrap (2 * i_1)) + 1)) + 1)) Sx_6
            else
            Jx_1 (IntKind.i64.wrap ((IntKind.i64.wrap (2 * i_1)) + 1)) Sx_6
          else
          Jx_1 (IntKind.i64.wrap ((IntKind.i64.wrap (2 * i_1)) + 1)) Sx_2) fun Jx_2 =>
      if n ≤ IntKind.i64.wrap ((IntKind.i64.wrap (2 * i_1)) + 1) then
        Jx i_1 Sx_1
      else
      if IntKind.i64.wrap ((IntKind.i64.wrap (2 * i_1)) + 1) < 0 then
        Jx i_1 Sx_1
      else
      Jx_2 Sx_1) i0_0 S
theorem t_heap_down {S : Mem} {h : Value} {i0_0 : Int} {n : Int} {Q : Bool → Mem → Prop} (H : b_heap_down S h i0_0 n Q) : heap_down S h i0_0 n Q := by
  unfold b_heap_down at H
  refine Tr.intro Try.func72 rfl Try.ntmps72 rfl fun w0 => ?_
  refine c_seq ?_
  refine c_region ?_
  refine s_p rfl (y_assign rfl) ?_
  refine s_nil (q_then ?_)
  refine c_seq ?_
  refine c_region ?_
  refine s_p rfl (y_move rfl) ?_
  refine s_p rfl (y_assign rfl) ?_
  refine s_nil (q_then ?_)
  refine c_join2 H (fun (J : Int → Mem → Prop) (z : Int) S => J z S) (fun z => ⟨48, [(1, .int .i64 i0_0), (7, .int .i64 z)]⟩) (fun z => []) ?_ ?_
  · clear H
    rintro i Sx H
    refine c_seq ?_
    refine c_region ?_
    refine s_p rfl (y_move rfl) ?_
    refine s_p rfl (y_move rfl) ?_
    refine s_p rfl (y_gtr rfl rfl) ?_
    refine s_p rfl (y_assign rfl) ?_
    refine s_nil (q_then ?_)
    refine c_ret ?_
    exact q_ret Try.results72 (rv_tmp rfl rv_nil) ⟨_, rfl, H⟩
  · clear H
    intro Jx hJx H
    refine c_block ?_
    refine c_loop (fun z => ⟨48, [(0, h), (1, .int .i64 i0_0), (2, .int .i64 n), (7, .int .i64 z)]⟩) (fun z => []) i0_0 (idx := []) H rfl ⟨rfl, rfl, rfl, rfl, True.intro⟩ rfl ?_
    clear H
    rintro Xx hXx i_1 Sx_1 H
    refine c_block ?_
    refine c_seq ?_
    refine c_region ?_
    refine s_p rfl (y_move rfl) ?_
    refine s_p rfl (y_mul rfl rfl) ?_
    refine s_p rfl (y_add rfl rfl) ?_
    refine s_p rfl (y_assign rfl) ?_
    refine s_nil (q_then ?_)
    refine c_join2 H (fun (J : Mem → Prop) (z : Unit) S => J S) (fun z => ⟨48, [(0, h), (1, .int .i64 i0_0), (2, .int .i64 n), (7, .int .i64 i_1), (8, .int .i64 (IntKind.i64.wrap ((IntKind.i64.wrap (2 * i_1)) + 1)))]⟩) (fun z => []) ?_ ?_
    · clear H
      rintro _ Sx_2 H
      refine c_seq ?_
      refine c_region ?_
      refine s_p rfl (y_move rfl) ?_
      refine s_p rfl (y_assign rfl) ?_
      refine s_nil (q_then ?_)
      refine c_join2 H (fun (J : Int → Mem → Prop) (z : Int) S => J z S) (fun z => ⟨48, [(0, h), (1, .int .i64 i0_0), (2, .int .i64 n), (7, .int .i64 i_1), (9, .int .i64 z)]⟩) (fun z => []) ?_ ?_
      · clear H
        rintro j Sx_3 H
        refine c_seq ?_
        refine c_seq ?_
        refine c_region ?_
        refine s_p rfl (y_move rfl) ?_
        refine s_p rfl (y_move rfl) ?_
        refine s_p rfl (y_move rfl) ?_
        refine s_ci rfl rfl rfl H fun rv Sx_4 H2 => ?_
        clear H
        obtain ⟨t, rfl, H⟩ := H2
        replace H := ib_e H
        rcases H with ⟨rfl, H⟩ | ⟨rfl, H⟩
        · skip
          refine s_p rfl (yB (y_not rfl) rfl) ?_
          refine s_nil (q_then ?_)
          refine c_f rfl rfl ?_
          refine c_skip (q_then ?_)
          refine c_seq ?_
          refine c_region ?_
          refine s_p rfl (y_move rfl) ?_
          refine s_p rfl (y_move rfl) ?_
          refine s_p rfl (y_move rfl) ?_
          refine s_ci rfl rfl rfl H fun rv Sx_5 H2 => ?_
          clear H
          obtain ⟨rfl, H⟩ := H2
          refine s_nil (q_then ?_)
          refine c_region ?_
          refine s_p rfl (y_move rfl) ?_
          refine s_p rfl (y_assign rfl) ?_
          refine s_nil (q_blk ?_)
          exact hXx j _ _ _ _ [] H rfl ⟨rfl, rfl, rfl, rfl, True.intro⟩ rfl
        · skip
          refine s_p rfl (yB (y_not rfl) rfl) ?_
          refine s_nil (q_then ?_)
          refine c_t rfl rfl ?_
          refine c_exit (q_then_exit (q_blk_on rfl (q_then_exit (q_blk_out ?_))))
          exact hJx i_1 _ _ _ _ [] H rfl ⟨rfl, rfl, True.intro⟩ rfl
      · clear H
        intro Jx_1 hJx_1 H
        refine c_seq ?_
        refine c_region ?_
        refine s_p rfl (y_move rfl) ?_
        refine s_p rfl (y_add rfl rfl) ?_
        refine s_p rfl (y_assign rfl) ?_
        refine s_nil (q_then ?_)
        refine c_seq ?_
        refine c_region ?_
        refine s_p rfl (y_move rfl) ?_
        refine s_p rfl (y_move rfl) ?_
        replace H := ite_e H
        rcases H with ⟨c, H⟩ | ⟨c, H⟩
        · refine s_p rfl (yT (y_lss rfl rfl) c) ?_
          refine s_p rfl (y_move rfl) ?_
          refine s_p rfl (y_move rfl) ?_
          refine s_p rfl (y_move rfl) ?_
          refine s_p rfl (y_move rfl) ?_
          refine s_ci rfl rfl rfl H fun rv Sx_6 H2 => ?_
          clear H
          obtain ⟨t_1, rfl, H⟩ := H2
          replace H := ib_e H
          rcases H with ⟨rfl, H⟩ | ⟨rfl, H⟩
          · skip
            refine s_p rfl (y_pick rfl rfl) ?_
            refine s_nil (q_then ?_)
            refine c_t rfl rfl ?_
            refine c_region ?_
            refine s_p rfl (y_move rfl) ?_
            refine s_p rfl (y_assign rfl) ?_
            refine s_nil ?_
            exact hJx_1 (IntKind.i64.wrap ((IntKind.i64.wrap ((IntKind.i64.wrap (2 * i_1)) + 1)) + 1)) _ _ _ _ [] H rfl ⟨rfl, rfl, rfl, rfl, rfl, True.intro⟩ rfl
          · skip
            refine s_p rfl (y_pick rfl rfl) ?_
            refine s_nil (q_then ?_)
            refine c_f rfl rfl ?_
            refine c_skip ?_
            exact hJx_1 (IntKind.i64.wrap ((IntKind.i64.wrap (2 * i_1)) + 1)) _ _ _ _ [] H rfl ⟨rfl, rfl, rfl, rfl, rfl, True.intro⟩ rfl
        · refine s_p rfl (yF (y_lss rfl rfl) c) ?_
          refine s_p rfl (y_move rfl) ?_
          refine s_skip rfl ?_
          refine s_skip rfl ?_
          refine s_skip rfl ?_
          refine s_skip rfl ?_
          refine s_p rfl (y_pick rfl rfl) ?_
          refine s_nil (q_then ?_)
          refine c_f rfl rfl ?_
          refine c_skip ?_
          exact hJx_1 (IntKind.i64.wrap ((IntKind.i64.wrap (2 * i_1)) + 1)) _ _ _ _ [] H rfl ⟨rfl, rfl, rfl, rfl, rfl, True.intro⟩ rfl
    · clear H
      intro Jx_2 hJx_2 H
      refine c_seq ?_
      refine c_region ?_
      refine s_p rfl (y_move rfl) ?_
      refine s_p rfl (y_move rfl) ?_
      replace H := ite_e H
      rcases H with ⟨c_1, H⟩ | ⟨c_1, H⟩
      · refine s_p rfl (yT (y_geq rfl rfl) c_1) ?_
        refine s_p rfl (y_move rfl) ?_
        refine s_skip rfl ?_
        refine s_skip rfl ?_
        refine s_p rfl (y_pick rfl rfl) ?_
        refine s_nil (q_then ?_)
        refine c_t rfl rfl ?_
        refine c_exit (q_then_exit (q_blk_on rfl (q_then_exit (q_blk_out ?_))))
        exact hJx i_1 _ _ _ _ [] H rfl ⟨rfl, rfl, True.intro⟩ rfl
      · refine s_p rfl (yF (y_geq rfl rfl) c_1) ?_
        refine s_p rfl (y_move rfl) ?_
        refine s_p rfl (y_move rfl) ?_
        replace H := ite_e H
        rcases H with ⟨c_2, H⟩ | ⟨c_2, H⟩
        · refine s_p rfl (yT (y_lss rfl rfl) c_2) ?_
          refine s_p rfl (y_pick rfl rfl) ?_
          refine s_nil (q_then ?_)
          refine c_t rfl rfl ?_
          refine c_exit (q_then_exit (q_blk_on rfl (q_then_exit (q_blk_out ?_))))
          exact hJx i_1 _ _ _ _ [] H rfl ⟨rfl, rfl, True.intro⟩ rfl
        · refine s_p rfl (yF (y_lss rfl rfl) c_2) ?_
          refine s_p rfl (y_pick rfl rfl) ?_
          refine s_nil (q_then ?_)
          refine c_f rfl rfl ?_
          refine c_skip ?_
          exact hJx_2 () _ _ _ _ [] H rfl ⟨rfl, rfl, rfl, rfl, rfl, True.intro⟩ rfl
def b_heap_up (S : Mem) (h : Value) (j : Int) (Q : Mem → Prop) : Prop :=
  lp (fun Xx (j_1 : Int) (Sx : Mem) =>
      jn (fun (Sx_1 : Mem) =>
          ci Try.prog Sx_1 h "Swap" [.int .i64 (IntKind.i64.wrap (Int.tdiv (IntKind.i64.wrap (j_1 - 1)) 2)), .int .i64 j_1] fun rv Sx_2 => rv = .tuple #[] ∧ 
          Xx (IntKind.i64.wrap (Int.tdiv (IntKind.i64.wrap (j_1 - 1)) 2)) Sx_2) fun Jx =>
      if IntKind.i64.wrap (Int.tdiv (IntKind.i64.wrap (j_1 - 1)) 2) = j_1 then
        Q Sx
      else
      ci Try.prog Sx h "Less" [.int .i64 j_1, .int .i64 (IntKind.i64.wrap (Int.tdiv (IntKind.i64.wrap (j_1 - 1)) 2))] fun rv Sx_3 => ∃ t : Bool, rv = .bool t ∧ 
      if t = true then
        Jx Sx_3
      else
      Q Sx_3) j S
theorem t_heap_up {S : Mem} {h : Value} {j : Int} {Q : Mem → Prop} (H : b_heap_up S h j Q) : heap_up S h j Q := by
  unfold b_heap_up at H
  refine Tr.intro Try.func73 rfl Try.ntmps73 rfl fun w0 => ?_
  refine c_block ?_
  refine c_loop (fun z => ⟨23, [(0, h), (1, .int .i64 z)]⟩) (fun z => []) j (idx := []) H rfl ⟨rfl, rfl, True.intro⟩ rfl ?_
  clear H
  rintro Xx hXx j_1 Sx H
  refine c_block ?_
  refine c_seq ?_
  refine c_region ?_
  refine s_p rfl (y_move rfl) ?_
  refine s_p rfl (y_sub rfl rfl) ?_
  refine s_p rfl (y_quo rfl rfl (by decide)) ?_
  refine s_p rfl (y_assign rfl) ?_
  refine s_nil (q_then ?_)
  refine c_join2 H (fun (J : Mem → Prop) (z : Unit) S => J S) (fun z => ⟨23, [(0, h), (1, .int .i64 j_1), (4, .int .i64 (IntKind.i64.wrap (Int.tdiv (IntKind.i64.wrap (j_1 - 1)) 2)))]⟩) (fun z => []) ?_ ?_
  · clear H
    rintro _ Sx_1 H
    refine c_seq ?_
    refine c_region ?_
    refine s_p rfl (y_move rfl) ?_
    refine s_p rfl (y_move rfl) ?_
    refine s_p rfl (y_move rfl) ?_
    refine s_ci rfl rfl rfl H fun rv Sx_2 H2 => ?_
    clear H
    obtain ⟨rfl, H⟩ := H2
    refine s_nil (q_then ?_)
    refine c_region ?_
    refine s_p rfl (y_move rfl) ?_
    refine s_p rfl (y_assign rfl) ?_
    refine s_nil (q_blk ?_)
    exact hXx (IntKind.i64.wrap (Int.tdiv (IntKind.i64.wrap (j_1 - 1)) 2)) _ _ _ _ [] H rfl ⟨rfl, rfl, True.intro⟩ rfl
  · clear H
    intro Jx hJx H
    refine c_seq ?_
    refine c_region ?_
    refine s_p rfl (y_move rfl) ?_
    refine s_p rfl (y_move rfl) ?_
    replace H := ite_e H
    rcases H with ⟨c, H⟩ | ⟨c, H⟩
    · refine s_p rfl (yT (y_eql rfl rfl) c) ?_
      refine s_p rfl (y_move rfl) ?_
      refine s_skip rfl ?_
      refine s_skip rfl ?_
      refine s_skip rfl ?_
      refine s_skip rfl ?_
      refine s_skip rfl ?_
      refine s_p rfl (y_pick rfl rfl) ?_
      refine s_nil (q_then ?_)
      refine c_t rfl rfl ?_
      refine c_exit (q_then_exit (q_blk_on rfl (q_then_exit (q_blk_out ?_))))
      exact q_end Try.results73 (rv_nil) ⟨rfl, H⟩
    · refine s_p rfl (yF (y_eql rfl rfl) c) ?_
      refine s_p rfl (y_move rfl) ?_
      refine s_p rfl (y_move rfl) ?_
      refine s_p rfl (y_move rfl) ?_
      refine s_p rfl (y_move rfl) ?_
      refine s_ci rfl rfl rfl H fun rv Sx_3 H2 => ?_
      clear H
      obtain ⟨t, rfl, H⟩ := H2
      replace H := ib_e H
      rcases H with ⟨rfl, H⟩ | ⟨rfl, H⟩
      · skip
        refine s_p rfl (yB (y_not rfl) rfl) ?_
        refine s_p rfl (y_pick rfl rfl) ?_
        refine s_nil (q_then ?_)
        refine c_f rfl rfl ?_
        refine c_skip ?_
        exact hJx () _ _ _ _ [] H rfl ⟨rfl, rfl, rfl, True.intro⟩ rfl
      · skip
        refine s_p rfl (yB (y_not rfl) rfl) ?_
        refine s_p rfl (y_pick rfl rfl) ?_
        refine s_nil (q_then ?_)
        refine c_t rfl rfl ?_
        refine c_exit (q_then_exit (q_blk_on rfl (q_then_exit (q_blk_out ?_))))
        exact q_end Try.results73 (rv_nil) ⟨rfl, H⟩
def b_alarm_Clock_drop (S : Mem) (c : Pt) (ofx : Value) (Q : Mem → Prop) : Prop :=
  if c ≠ none then
    nn c fun b o =>
    gL (S.cell b o) fun t =>
    slices_DeleteFunc_alarm_row_alarm_Alarm S t ofx fun t_1 Sx =>
    pt Sx b o 1 ([eL t_1]) fun Sx_1 =>
    heap_Init Sx_1 (.iface 148 (.pointer (some ⟨b, o, none⟩))) fun Sx_2 =>
    Q Sx_2
  else
  Q S
theorem t_alarm_Clock_drop {S : Mem} {c : Pt} {ofx : Value} {Q : Mem → Prop} (H : b_alarm_Clock_drop S c ofx Q) : alarm_Clock_drop S c ofx Q := by
  unfold b_alarm_Clock_drop at H
  refine Tr.intro Try.func63 rfl Try.ntmps63 rfl fun w0 => ?_
  refine c_seq ?_
  refine c_region ?_
  refine s_p rfl (y_move rfl) ?_
  replace H := ite_e H
  rcases H with ⟨c_1, H⟩ | ⟨c_1, H⟩
  · refine s_p rfl (yT (y_pnn (p := c) rfl rfl) c_1) ?_
    refine s_nil (q_then ?_)
    refine c_t rfl rfl ?_
    refine c_seq ?_
    refine c_region ?_
    refine s_p rfl (y_move rfl) ?_
    refine s_p rfl (y_move rfl) ?_
    obtain ⟨b, o, rfl, H⟩ := H
    refine s_p rfl (y_nc rfl) ?_
    refine s_p rfl (y_fa rfl rfl) ?_
    obtain ⟨t, ht, H⟩ := H
    refine s_v rfl (y_ld rfl) (hc_S ht) ?_
    refine s_p rfl (y_move rfl) ?_
    refine s_call rfl rfl H fun rv Sx H2 => ?_
    clear H
    obtain ⟨t_1, rfl, H⟩ := H2
    refine s_p rfl (y_nc rfl) ?_
    refine s_p rfl (y_fa rfl rfl) ?_
    obtain ⟨c_2, H⟩ := H
    refine s_stS rfl rfl rfl rfl rfl c_2 rfl ?_
    refine s_nil (q_then ?_)
    refine c_region ?_
    refine s_p rfl (y_move rfl) ?_
    refine s_p rfl (y_nc rfl) ?_
    refine s_p rfl (y_fa rfl rfl) ?_
    refine s_p rfl (y_iface rfl) ?_
    refine s_call rfl rfl H fun rv Sx_2 H2 => ?_
    clear H
    obtain ⟨rfl, H⟩ := H2
    refine s_nil ?_
    exact q_end Try.results63 (rv_nil) ⟨rfl, H⟩
  · refine s_p rfl (yF (y_pnn (p := c) rfl rfl) c_1) ?_
    refine s_nil (q_then ?_)
    refine c_f rfl rfl ?_
    refine c_skip ?_
    exact q_end Try.results63 (rv_nil) ⟨rfl, H⟩
def b_alarm_Clock_Drop_f1 (S : Mem) (a : List Value) (t : Pt) (t_1 : Pt) (Q : Bool → Mem → Prop) : Prop :=
  a.length = 3 ∧
  gI (nthL a 1) .i64 fun t_2 =>
  nn t fun b_1 o =>
  gI (S.cell b_1 o) .i64 fun t_3 =>
  if t_2 = t_3 then
    gI (nthL a 2) .i64 fun t_4 =>
    nn t_1 fun b_2 o_1 =>
    gI (S.cell b_2 o_1) .i64 fun t_5 =>
    Q (decide (t_4 = t_5)) S
  else
  Q false S
theorem t_alarm_Clock_Drop_f1 {S : Mem} {a : List Value} {t : Pt} {t_1 : Pt} {Q : Bool → Mem → Prop} (H : b_alarm_Clock_Drop_f1 S a t t_1 Q) : alarm_Clock_Drop_f1 S a t t_1 Q := by
  unfold b_alarm_Clock_Drop_f1 at H
  refine Tr.intro Try.func64 rfl Try.ntmps64 rfl fun w0 => ?_
  obtain ⟨ha, H⟩ := H
  refine c_seq ?_
  refine c_region ?_
  refine s_box rfl rfl rfl fun b => ?_
  refine s_p rfl (y_assign rfl) ?_
  refine s_nil (q_then ?_)
  refine c_seq ?_
  refine c_region ?_
  refine s_p rfl (y_fa rfl rfl) ?_
  obtain ⟨t_2, ht_2, H⟩ := H
  refine s_v rfl (y_ld rfl) (hc_V 0 rfl ht_2) ?_
  obtain ⟨b_1, o, rfl, H⟩ := H
  obtain ⟨t_3, ht_3, H⟩ := H
  refine s_v rfl (y_ld rfl) (hc_S ht_3) ?_
  replace H := ite_e H
  rcases H with ⟨c, H⟩ | ⟨c, H⟩
  · refine s_p rfl (yT (y_eql rfl rfl) c) ?_
    refine s_p rfl (y_move rfl) ?_
    refine s_p rfl (y_fa rfl rfl) ?_
    obtain ⟨t_4, ht_4, H⟩ := H
    refine s_v rfl (y_ld rfl) (hc_V 0 rfl ht_4) ?_
    obtain ⟨b_2, o_1, rfl, H⟩ := H
    obtain ⟨t_5, ht_5, H⟩ := H
    refine s_v rfl (y_ld rfl) (hc_S ht_5) ?_
    refine s_p rfl (y_eql rfl rfl) ?_
    refine s_p rfl (y_pick rfl rfl) ?_
    refine s_p rfl (y_assign rfl) ?_
    refine s_nil (q_then ?_)
    refine c_ret ?_
    exact q_ret Try.results64 (rv_tmp rfl rv_nil) ⟨_, rfl, H⟩
  · refine s_p rfl (yF (y_eql rfl rfl) c) ?_
    refine s_p rfl (y_move rfl) ?_
    refine s_skip rfl ?_
    refine s_skip rfl ?_
    refine s_skip rfl ?_
    refine s_skip rfl ?_
    refine s_p rfl (y_pick rfl rfl) ?_
    refine s_p rfl (y_assign rfl) ?_
    refine s_nil (q_then ?_)
    refine c_ret ?_
    exact q_ret Try.results64 (rv_tmp rfl rv_nil) ⟨_, rfl, H⟩
def b_alarm_Clock_DropVM_f1 (S : Mem) (a : List Value) (t : Pt) (Q : Bool → Mem → Prop) : Prop :=
  a.length = 3 ∧
  gI (nthL a 1) .i64 fun t_1 =>
  nn t fun b_1 o =>
  gI (S.cell b_1 o) .i64 fun t_2 =>
  Q (decide (t_1 = t_2)) S
theorem t_alarm_Clock_DropVM_f1 {S : Mem} {a : List Value} {t : Pt} {Q : Bool → Mem → Prop} (H : b_alarm_Clock_DropVM_f1 S a t Q) : alarm_Clock_DropVM_f1 S a t Q := by
  unfold b_alarm_Clock_DropVM_f1 at H
  refine Tr.intro Try.func65 rfl Try.ntmps65 rfl fun w0 => ?_
  obtain ⟨ha, H⟩ := H
  refine c_seq ?_
  refine c_region ?_
  refine s_box rfl rfl rfl fun b => ?_
  refine s_p rfl (y_assign rfl) ?_
  refine s_nil (q_then ?_)
  refine c_seq ?_
  refine c_region ?_
  refine s_p rfl (y_fa rfl rfl) ?_
  obtain ⟨t_1, ht_1, H⟩ := H
  refine s_v rfl (y_ld rfl) (hc_V 0 rfl ht_1) ?_
  obtain ⟨b_1, o, rfl, H⟩ := H
  obtain ⟨t_2, ht_2, H⟩ := H
  refine s_v rfl (y_ld rfl) (hc_S ht_2) ?_
  refine s_p rfl (y_eql rfl rfl) ?_
  refine s_p rfl (y_assign rfl) ?_
  refine s_nil (q_then ?_)
  refine c_ret ?_
  exact q_ret Try.results65 (rv_tmp rfl rv_nil) ⟨_, rfl, H⟩
def b_alarm_Clock_Set (S : Mem) (c : Pt) (vm : Int) (seat : Int) (atx : Int) (Q : Int → Mem → Prop) : Prop :=
  jn (fun (Sx : Mem) =>
      alarm_Clock_Drop Sx c vm seat fun Sx_1 =>
      nn c fun b o =>
      heap_Push Sx_1 (.iface 148 (.pointer (some ⟨b, o, none⟩))) (.iface 95 (valL ([.int .u64 atx, .int .i64 vm, .int .i64 seat]))) fun Sx_2 =>
      Q 0 Sx_2) fun Jx =>
  if c = none then
    Q 2 S
  else
  if vm < 0 then
    Q 1 S
  else
  if 6 ≤ vm then
    Q 1 S
  else
  if seat < 0 then
    Q 1 S
  else
  if 3 ≤ seat then
    Q 1 S
  else
  Jx S
theorem t_alarm_Clock_Set {S : Mem} {c : Pt} {vm : Int} {seat : Int} {atx : Int} {Q : Int → Mem → Prop} (H : b_alarm_Clock_Set S c vm seat atx Q) : alarm_Clock_Set S c vm seat atx Q := by
  unfold b_alarm_Clock_Set at H
  refine Tr.intro Try.func36 rfl Try.ntmps36 rfl fun w0 => ?_
  refine c_seq ?_
  refine c_region ?_
  refine s_p rfl (y_assign rfl) ?_
  refine s_nil (q_then ?_)
  refine c_join2 H (fun (J : Mem → Prop) (z : Unit) S => J S) (fun z => ⟨41, [(0, eP c), (1, .int .i64 vm), (2, .int .i64 seat), (3, .int .u64 atx)]⟩) (fun z => []) ?_ ?_
  · clear H
    rintro _ Sx H
    refine c_seq ?_
    refine c_region ?_
    refine s_p rfl (y_move rfl) ?_
    refine s_p rfl (y_move rfl) ?_
    refine s_p rfl (y_move rfl) ?_
    refine s_call rfl rfl H fun rv Sx_1 H2 => ?_
    clear H
    obtain ⟨rfl, H⟩ := H2
    refine s_nil (q_then ?_)
    refine c_seq ?_
    refine c_region ?_
    refine s_p rfl (y_move rfl) ?_
    obtain ⟨b, o, rfl, H⟩ := H
    refine s_p rfl (y_nc rfl) ?_
    refine s_p rfl (y_fa rfl rfl) ?_
    refine s_p rfl (y_iface rfl) ?_
    refine s_p rfl (y_move rfl) ?_
    refine s_p rfl (y_move rfl) ?_
    refine s_p rfl (y_move rfl) ?_
    refine s_p rfl (y_build rfl rfl) ?_
    refine s_p rfl (y_iface rfl) ?_
    refine s_call rfl rfl H fun rv Sx_2 H2 => ?_
    clear H
    obtain ⟨rfl, H⟩ := H2
    refine s_nil (q_then ?_)
    refine c_seq ?_
    refine c_region ?_
    refine s_p rfl (y_assign rfl) ?_
    refine s_nil (q_then ?_)
    refine c_ret ?_
    exact q_ret Try.results36 (rv_tmp rfl rv_nil) ⟨_, rfl, H⟩
  · clear H
    intro Jx hJx H
    refine c_block ?_
    refine c_seq ?_
    refine c_region ?_
    refine s_p rfl (y_move rfl) ?_
    replace H := ite_e H
    rcases H with ⟨c_1, H⟩ | ⟨c_1, H⟩
    · refine s_p rfl (yT (y_pnil (p := c) rfl rfl) c_1) ?_
      refine s_p rfl (y_assign rfl) ?_
      refine s_nil (q_then ?_)
      refine c_t rfl rfl ?_
      refine c_seq ?_
      refine c_region ?_
      refine s_p rfl (y_assign rfl) ?_
      refine s_nil (q_then ?_)
      refine c_ret (q_blk_ret (q_then_ret ?_))
      exact q_ret Try.results36 (rv_tmp rfl rv_nil) ⟨_, rfl, H⟩
    · refine s_p rfl (yF (y_pnil (p := c) rfl rfl) c_1) ?_
      refine s_p rfl (y_assign rfl) ?_
      refine s_nil (q_then ?_)
      refine c_f rfl rfl ?_
      refine c_seq ?_
      refine c_region ?_
      refine s_p rfl (y_move rfl) ?_
      replace H := ite_e H
      rcases H with ⟨c_2, H⟩ | ⟨c_2, H⟩
      · refine s_p rfl (yT (y_lss rfl rfl) c_2) ?_
        refine s_p rfl (y_move rfl) ?_
        refine s_skip rfl ?_
        refine s_skip rfl ?_
        refine s_p rfl (y_pick rfl rfl) ?_
        refine s_p rfl (y_move rfl) ?_
        refine s_skip rfl ?_
        refine s_skip rfl ?_
        refine s_p rfl (y_pick rfl rfl) ?_
        refine s_p rfl (y_move rfl) ?_
        refine s_skip rfl ?_
        refine s_skip rfl ?_
        refine s_p rfl (y_pick rfl rfl) ?_
        refine s_p rfl (y_assign rfl) ?_
        refine s_nil (q_then ?_)
        refine c_t rfl rfl ?_
        refine c_seq ?_
        refine c_region ?_
        refine s_p rfl (y_assign rfl) ?_
        refine s_nil (q_then ?_)
        refine c_ret (q_blk_ret (q_then_ret ?_))
        exact q_ret Try.results36 (rv_tmp rfl rv_nil) ⟨_, rfl, H⟩
      · refine s_p rfl (yF (y_lss rfl rfl) c_2) ?_
        refine s_p rfl (y_move rfl) ?_
        refine s_p rfl (y_move rfl) ?_
        replace H := ite_e H
        rcases H with ⟨c_3, H⟩ | ⟨c_3, H⟩
        · refine s_p rfl (yT (y_geq rfl rfl) c_3) ?_
          refine s_p rfl (y_pick rfl rfl) ?_
          refine s_p rfl (y_move rfl) ?_
          refine s_skip rfl ?_
          refine s_skip rfl ?_
          refine s_p rfl (y_pick rfl rfl) ?_
          refine s_p rfl (y_move rfl) ?_
          refine s_skip rfl ?_
          refine s_skip rfl ?_
          refine s_p rfl (y_pick rfl rfl) ?_
          refine s_p rfl (y_assign rfl) ?_
          refine s_nil (q_then ?_)
          refine c_t rfl rfl ?_
          refine c_seq ?_
          refine c_region ?_
          refine s_p rfl (y_assign rfl) ?_
          refine s_nil (q_then ?_)
          refine c_ret (q_blk_ret (q_then_ret ?_))
          exact q_ret Try.results36 (rv_tmp rfl rv_nil) ⟨_, rfl, H⟩
        · refine s_p rfl (yF (y_geq rfl rfl) c_3) ?_
          refine s_p rfl (y_pick rfl rfl) ?_
          refine s_p rfl (y_move rfl) ?_
          refine s_p rfl (y_move rfl) ?_
          replace H := ite_e H
          rcases H with ⟨c_4, H⟩ | ⟨c_4, H⟩
          · refine s_p rfl (yT (y_lss rfl rfl) c_4) ?_
            refine s_p rfl (y_pick rfl rfl) ?_
            refine s_p rfl (y_move rfl) ?_
            refine s_skip rfl ?_
            refine s_skip rfl ?_
            refine s_p rfl (y_pick rfl rfl) ?_
            refine s_p rfl (y_assign rfl) ?_
            refine s_nil (q_then ?_)
            refine c_t rfl rfl ?_
            refine c_seq ?_
            refine c_region ?_
            refine s_p rfl (y_assign rfl) ?_
            refine s_nil (q_then ?_)
            refine c_ret (q_blk_ret (q_then_ret ?_))
            exact q_ret Try.results36 (rv_tmp rfl rv_nil) ⟨_, rfl, H⟩
          · refine s_p rfl (yF (y_lss rfl rfl) c_4) ?_
            refine s_p rfl (y_pick rfl rfl) ?_
            refine s_p rfl (y_move rfl) ?_
            refine s_p rfl (y_move rfl) ?_
            replace H := ite_e H
            rcases H with ⟨c_5, H⟩ | ⟨c_5, H⟩
            · refine s_p rfl (yT (y_geq rfl rfl) c_5) ?_
              refine s_p rfl (y_pick rfl rfl) ?_
              refine s_p rfl (y_assign rfl) ?_
              refine s_nil (q_then ?_)
              refine c_t rfl rfl ?_
              refine c_seq ?_
              refine c_region ?_
              refine s_p rfl (y_assign rfl) ?_
              refine s_nil (q_then ?_)
              refine c_ret (q_blk_ret (q_then_ret ?_))
              exact q_ret Try.results36 (rv_tmp rfl rv_nil) ⟨_, rfl, H⟩
            · refine s_p rfl (yF (y_geq rfl rfl) c_5) ?_
              refine s_p rfl (y_pick rfl rfl) ?_
              refine s_p rfl (y_assign rfl) ?_
              refine s_nil (q_then ?_)
              refine c_f rfl rfl ?_
              refine c_skip (q_blk ?_)
              exact hJx () _ _ _ _ [] H rfl ⟨rfl, rfl, rfl, rfl, True.intro⟩ rfl
def b_alarm_Clock_Due (S : Mem) (c : Pt) (now : Int) (Q : Sl → Mem → Prop) : Prop :=
  jn (fun (l : Sl) (Sx : Mem) =>
      Q l Sx) fun Jx =>
  lp (fun Xx (l_1 : Sl) (Sx_1 : Mem) =>
      jn (fun (Sx_2 : Mem) =>
          nn c fun b o =>
          heap_Pop Sx_2 (.iface 148 (.pointer (some ⟨b, o, none⟩))) fun t Sx_3 =>
          asA t 95 3 fun t_1 =>
          t_1.all (·.oneCell') = true ∧
          ap Sx_3 95 3 24 [.int .u64 0, .int .i64 0, .int .i64 0] l_1 1 t_1 fun t_2 Sx_4 =>
          Xx t_2 Sx_4) fun Jx_1 =>
      if c ≠ none then
        nn c fun b_2 o_1 =>
        gL (Sx_1.cell b_2 o_1) fun t_3 =>
        if 0 < (t_3.n : Int) then
          gL (Sx_1.cell b_2 o_1) fun t_4 =>
          sl t_4 fun b_3 o_2 n n_1 =>
          (0 : Int) < (n : Nat) ∧
          gI (Sx_1.cell b_3 o_2) .u64 fun t_5 =>
          if t_5 ≤ now then
            Jx_1 Sx_1
          else
          Jx l_1 Sx_1
        else
        Jx l_1 Sx_1
      else
      Jx l_1 Sx_1) (⟨none, 0, 0⟩) S
theorem t_alarm_Clock_Due {S : Mem} {c : Pt} {now : Int} {Q : Sl → Mem → Prop} (H : b_alarm_Clock_Due S c now Q) : alarm_Clock_Due S c now Q := by
  unfold b_alarm_Clock_Due at H
  refine Tr.intro Try.func37 rfl Try.ntmps37 rfl fun w0 => ?_
  refine c_seq ?_
  refine c_region ?_
  refine s_p rfl (y_assign rfl) ?_
  refine s_nil (q_then ?_)
  refine c_seq ?_
  refine c_region ?_
  refine s_p rfl (y_assign rfl) ?_
  refine s_nil (q_then ?_)
  refine c_join2 H (fun (J : Sl → Mem → Prop) (z : Sl) S => J z S) (fun z => ⟨37, [(5, eL z)]⟩) (fun z => []) ?_ ?_
  · clear H
    rintro l Sx H
    refine c_seq ?_
    refine c_region ?_
    refine s_p rfl (y_move rfl) ?_
    refine s_p rfl (y_assign rfl) ?_
    refine s_nil (q_then ?_)
    refine c_ret ?_
    exact q_ret Try.results37 (rv_tmp rfl rv_nil) ⟨_, rfl, H⟩
  · clear H
    intro Jx hJx H
    refine c_block ?_
    refine c_loop (fun z => ⟨37, [(0, eP c), (1, .int .u64 now), (5, eL z)]⟩) (fun z => []) (⟨none, 0, 0⟩) (idx := []) H rfl ⟨rfl, rfl, rfl, True.intro⟩ rfl ?_
    clear H
    rintro Xx hXx l_1 Sx_1 H
    refine c_join2 H (fun (J : Mem → Prop) (z : Unit) S => J S) (fun z => ⟨37, [(0, eP c), (1, .int .u64 now), (5, eL l_1)]⟩) (fun z => []) ?_ ?_
    · clear H
      rintro _ Sx_2 H
      refine c_block ?_
      refine c_region ?_
      refine s_p rfl (y_move rfl) ?_
      refine s_p rfl (y_move rfl) ?_
      obtain ⟨b, o, rfl, H⟩ := H
      refine s_p rfl (y_nc rfl) ?_
      refine s_p rfl (y_fa rfl rfl) ?_
      refine s_p rfl (y_iface rfl) ?_
      refine s_call rfl rfl H fun rv Sx_3 H2 => ?_
      clear H
      obtain ⟨t, rfl, H⟩ := H2
      obtain ⟨t_1, rfl, ht_1, H⟩ := H
      refine s_p rfl (y_assert rfl) ?_
      refine s_bs rfl rfl (by decide) (fill_one (size := 3) rfl ht_1) fun b_1 => ?_
      obtain ⟨c_1, H⟩ := H
      refine s_app (sx := l_1) (vs := t_1) rfl rfl rfl (fc_V 0 rfl (lpart_all ht_1)) ht_1 c_1 (by decide) H fun t_2 Sx_4 H2 => ?_
      replace H := H2
      refine s_p rfl (y_assign rfl) ?_
      refine s_nil (q_blk ?_)
      exact hXx t_2 _ _ _ _ [] H rfl ⟨rfl, rfl, rfl, True.intro⟩ rfl
    · clear H
      intro Jx_1 hJx_1 H
      refine c_seq ?_
      refine c_region ?_
      refine s_p rfl (y_move rfl) ?_
      replace H := ite_e H
      rcases H with ⟨c_2, H⟩ | ⟨c_2, H⟩
      · refine s_p rfl (yT (y_pnn (p := c) rfl rfl) c_2) ?_
        refine s_p rfl (y_move rfl) ?_
        refine s_p rfl (y_move rfl) ?_
        obtain ⟨b_2, o_1, rfl, H⟩ := H
        refine s_p rfl (y_nc rfl) ?_
        refine s_p rfl (y_fa rfl rfl) ?_
        obtain ⟨t_3, ht_3, H⟩ := H
        refine s_v rfl (y_ld rfl) (hc_S ht_3) ?_
        refine s_p rfl (y_len rfl) ?_
        replace H := ite_e H
        rcases H with ⟨c_3, H⟩ | ⟨c_3, H⟩
        · refine s_p rfl (yT (y_gtr rfl rfl) c_3) ?_
          refine s_p rfl (y_pick rfl rfl) ?_
          refine s_p rfl (y_move rfl) ?_
          refine s_p rfl (y_move rfl) ?_
          refine s_p rfl (y_nc rfl) ?_
          refine s_p rfl (y_fa rfl rfl) ?_
          obtain ⟨t_4, ht_4, H⟩ := H
          refine s_v rfl (y_ld rfl) (hc_S ht_4) ?_
          obtain ⟨b_3, o_2, n, n_1, rfl, H⟩ := H
          obtain ⟨c_5, H⟩ := H
          refine s_p rfl (y_ixL rfl rfl (by decide) c_5 rfl) ?_
          refine s_p rfl (y_fa rfl rfl) ?_
          obtain ⟨t_5, ht_5, H⟩ := H
          refine s_v rfl (y_ld rfl) (hc_S ht_5) ?_
          refine s_p rfl (y_move rfl) ?_
          replace H := ite_e H
          rcases H with ⟨c_6, H⟩ | ⟨c_6, H⟩
          · refine s_p rfl (yT (y_leq rfl rfl) c_6) ?_
            refine s_p rfl (y_pick rfl rfl) ?_
            refine s_nil (q_then ?_)
            refine c_t rfl rfl ?_
            refine c_skip ?_
            exact hJx_1 () _ _ _ _ [] H rfl ⟨rfl, rfl, rfl, True.intro⟩ rfl
          · refine s_p rfl (yF (y_leq rfl rfl) c_6) ?_
            refine s_p rfl (y_pick rfl rfl) ?_
            refine s_nil (q_then ?_)
            refine c_f rfl rfl ?_
            refine c_exit (q_then_exit (q_then_exit (q_blk_out ?_)))
            exact hJx l_1 _ _ _ _ [] H rfl ⟨rfl, True.intro⟩ rfl
        · refine s_p rfl (yF (y_gtr rfl rfl) c_3) ?_
          refine s_p rfl (y_pick rfl rfl) ?_
          refine s_p rfl (y_move rfl) ?_
          refine s_skip rfl ?_
          refine s_skip rfl ?_
          refine s_skip rfl ?_
          refine s_skip rfl ?_
          refine s_skip rfl ?_
          refine s_skip rfl ?_
          refine s_skip rfl ?_
          refine s_skip rfl ?_
          refine s_skip rfl ?_
          refine s_p rfl (y_pick rfl rfl) ?_
          refine s_nil (q_then ?_)
          refine c_f rfl rfl ?_
          refine c_exit (q_then_exit (q_then_exit (q_blk_out ?_)))
          exact hJx l_1 _ _ _ _ [] H rfl ⟨rfl, True.intro⟩ rfl
      · refine s_p rfl (yF (y_pnn (p := c) rfl rfl) c_2) ?_
        refine s_p rfl (y_move rfl) ?_
        refine s_skip rfl ?_
        refine s_skip rfl ?_
        refine s_skip rfl ?_
        refine s_skip rfl ?_
        refine s_skip rfl ?_
        refine s_skip rfl ?_
        refine s_p rfl (y_pick rfl rfl) ?_
        refine s_p rfl (y_move rfl) ?_
        refine s_skip rfl ?_
        refine s_skip rfl ?_
        refine s_skip rfl ?_
        refine s_skip rfl ?_
        refine s_skip rfl ?_
        refine s_skip rfl ?_
        refine s_skip rfl ?_
        refine s_skip rfl ?_
        refine s_skip rfl ?_
        refine s_p rfl (y_pick rfl rfl) ?_
        refine s_nil (q_then ?_)
        refine c_f rfl rfl ?_
        refine c_exit (q_then_exit (q_then_exit (q_blk_out ?_)))
        exact hJx l_1 _ _ _ _ [] H rfl ⟨rfl, True.intro⟩ rfl
def b_alarm_Clock_Drop (S : Mem) (c : Pt) (vm : Int) (seat : Int) (Q : Mem → Prop) : Prop :=
  al S 3 ([.int .i64 vm]) fun b Sx =>
  al Sx 3 ([.int .i64 seat]) fun b_1 Sx_1 =>
  alarm_Clock_drop Sx_1 c (.func (.func 64) #[] #[.pointer (some ⟨b, 0, none⟩), .pointer (some ⟨b_1, 0, none⟩)]) fun Sx_2 =>
  Q Sx_2
theorem t_alarm_Clock_Drop {S : Mem} {c : Pt} {vm : Int} {seat : Int} {Q : Mem → Prop} (H : b_alarm_Clock_Drop S c vm seat Q) : alarm_Clock_Drop S c vm seat Q := by
  unfold b_alarm_Clock_Drop at H
  refine Tr.intro Try.func38 rfl Try.ntmps38 rfl fun w0 => ?_
  refine c_seq ?_
  refine c_region ?_
  refine s_box rfl rfl rfl fun b => ?_
  refine s_pub 0 rfl fun hb => ?_
  replace H := H b hb
  refine s_box rfl rfl rfl fun b_1 => ?_
  refine s_pub 0 rfl fun hb_1 => ?_
  replace H := H b_1 hb_1
  refine s_nil (q_then ?_)
  refine c_region ?_
  refine s_p rfl (y_move rfl) ?_
  refine s_p rfl (y_mkf rfl) ?_
  refine s_call rfl rfl H fun rv Sx_2 H2 => ?_
  clear H
  obtain ⟨rfl, H⟩ := H2
  refine s_nil ?_
  exact q_end Try.results38 (rv_nil) ⟨rfl, H⟩
def b_alarm_Clock_DropVM (S : Mem) (c : Pt) (vm : Int) (Q : Mem → Prop) : Prop :=
  al S 3 ([.int .i64 vm]) fun b Sx =>
  alarm_Clock_drop Sx c (.func (.func 65) #[] #[.pointer (some ⟨b, 0, none⟩)]) fun Sx_1 =>
  Q Sx_1
theorem t_alarm_Clock_DropVM {S : Mem} {c : Pt} {vm : Int} {Q : Mem → Prop} (H : b_alarm_Clock_DropVM S c vm Q) : alarm_Clock_DropVM S c vm Q := by
  unfold b_alarm_Clock_DropVM at H
  refine Tr.intro Try.func39 rfl Try.ntmps39 rfl fun w0 => ?_
  refine c_seq ?_
  refine c_region ?_
  refine s_box rfl rfl rfl fun b => ?_
  refine s_pub 0 rfl fun hb => ?_
  replace H := H b hb
  refine s_nil (q_then ?_)
  refine c_region ?_
  refine s_p rfl (y_move rfl) ?_
  refine s_p rfl (y_mkf rfl) ?_
  refine s_call rfl rfl H fun rv Sx_1 H2 => ?_
  clear H
  obtain ⟨rfl, H⟩ := H2
  refine s_nil ?_
  exact q_end Try.results39 (rv_nil) ⟨rfl, H⟩
def b_alarm_Alarm_before (S : Mem) (a : List Value) (b : List Value) (Q : Bool → Mem → Prop) : Prop :=
  a.length = 3 ∧
  b.length = 3 ∧
  jn (fun (Sx : Mem) =>
      gI (nthL a 2) .i64 fun t =>
      gI (nthL b 2) .i64 fun t_1 =>
      Q (decide (t < t_1)) Sx) fun Jx =>
  gI (nthL a 0) .u64 fun t_2 =>
  gI (nthL b 0) .u64 fun t_3 =>
  if t_2 ≠ t_3 then
    gI (nthL a 0) .u64 fun t_4 =>
    gI (nthL b 0) .u64 fun t_5 =>
    Q (decide (t_4 < t_5)) S
  else
  gI (nthL a 1) .i64 fun t_6 =>
  gI (nthL b 1) .i64 fun t_7 =>
  if t_6 ≠ t_7 then
    gI (nthL a 1) .i64 fun t_8 =>
    gI (nthL b 1) .i64 fun t_9 =>
    Q (decide (t_8 < t_9)) S
  else
  Jx S
theorem t_alarm_Alarm_before {S : Mem} {a : List Value} {b : List Value} {Q : Bool → Mem → Prop} (H : b_alarm_Alarm_before S a b Q) : alarm_Alarm_before S a b Q := by
  unfold b_alarm_Alarm_before at H
  refine Tr.intro Try.func69 rfl Try.ntmps69 rfl fun w0 => ?_
  obtain ⟨ha, H⟩ := H
  obtain ⟨hb, H⟩ := H
  refine c_seq ?_
  refine c_region ?_
  refine s_box rfl rfl rfl fun b_1 => ?_
  refine s_box rfl rfl rfl fun b_2 => ?_
  refine s_p rfl (y_assign rfl) ?_
  refine s_nil (q_then ?_)
  refine c_join2 H (fun (J : Mem → Prop) (z : Unit) S => J S) (fun z => ⟨32, [(2, .pointer (some ⟨b_1, 0, none⟩)), (3, .pointer (some ⟨b_2, 0, none⟩))]⟩) (fun z => [⟨b_1, 95, a⟩, ⟨b_2, 95, b⟩]) ?_ ?_
  · clear H
    rintro _ Sx H
    refine c_seq ?_
    refine c_region ?_
    refine s_p rfl (y_fa rfl rfl) ?_
    obtain ⟨t, ht, H⟩ := H
    refine s_v rfl (y_ld rfl) (hc_V 0 rfl ht) ?_
    refine s_p rfl (y_fa rfl rfl) ?_
    obtain ⟨t_1, ht_1, H⟩ := H
    refine s_v rfl (y_ld rfl) (hc_V 1 rfl ht_1) ?_
    refine s_p rfl (y_lss rfl rfl) ?_
    refine s_p rfl (y_assign rfl) ?_
    refine s_nil (q_then ?_)
    refine c_ret ?_
    exact q_ret Try.results69 (rv_tmp rfl rv_nil) ⟨_, rfl, H⟩
  · clear H
    intro Jx hJx H
    refine c_block ?_
    refine c_seq ?_
    refine c_region ?_
    refine s_p rfl (y_fa rfl rfl) ?_
    obtain ⟨t_2, ht_2, H⟩ := H
    refine s_v rfl (y_ld rfl) (hc_V 0 rfl ht_2) ?_
    refine s_p rfl (y_fa rfl rfl) ?_
    obtain ⟨t_3, ht_3, H⟩ := H
    refine s_v rfl (y_ld rfl) (hc_V 1 rfl ht_3) ?_
    replace H := ite_e H
    rcases H with ⟨c, H⟩ | ⟨c, H⟩
    · refine s_p rfl (yT (y_neq rfl rfl) c) ?_
      refine s_p rfl (y_assign rfl) ?_
      refine s_nil (q_then ?_)
      refine c_t rfl rfl ?_
      refine c_seq ?_
      refine c_region ?_
      refine s_p rfl (y_fa rfl rfl) ?_
      obtain ⟨t_4, ht_4, H⟩ := H
      refine s_v rfl (y_ld rfl) (hc_V 0 rfl ht_4) ?_
      refine s_p rfl (y_fa rfl rfl) ?_
      obtain ⟨t_5, ht_5, H⟩ := H
      refine s_v rfl (y_ld rfl) (hc_V 1 rfl ht_5) ?_
      refine s_p rfl (y_lss rfl rfl) ?_
      refine s_p rfl (y_assign rfl) ?_
      refine s_nil (q_then ?_)
      refine c_ret (q_blk_ret (q_then_ret ?_))
      exact q_ret Try.results69 (rv_tmp rfl rv_nil) ⟨_, rfl, H⟩
    · refine s_p rfl (yF (y_neq rfl rfl) c) ?_
      refine s_p rfl (y_assign rfl) ?_
      refine s_nil (q_then ?_)
      refine c_f rfl rfl ?_
      refine c_seq ?_
      refine c_region ?_
      refine s_p rfl (y_fa rfl rfl) ?_
      obtain ⟨t_6, ht_6, H⟩ := H
      refine s_v rfl (y_ld rfl) (hc_V 0 rfl ht_6) ?_
      refine s_p rfl (y_fa rfl rfl) ?_
      obtain ⟨t_7, ht_7, H⟩ := H
      refine s_v rfl (y_ld rfl) (hc_V 1 rfl ht_7) ?_
      replace H := ite_e H
      rcases H with ⟨c_1, H⟩ | ⟨c_1, H⟩
      · refine s_p rfl (yT (y_neq rfl rfl) c_1) ?_
        refine s_p rfl (y_assign rfl) ?_
        refine s_nil (q_then ?_)
        refine c_t rfl rfl ?_
        refine c_seq ?_
        refine c_region ?_
        refine s_p rfl (y_fa rfl rfl) ?_
        obtain ⟨t_8, ht_8, H⟩ := H
        refine s_v rfl (y_ld rfl) (hc_V 0 rfl ht_8) ?_
        refine s_p rfl (y_fa rfl rfl) ?_
        obtain ⟨t_9, ht_9, H⟩ := H
        refine s_v rfl (y_ld rfl) (hc_V 1 rfl ht_9) ?_
        refine s_p rfl (y_lss rfl rfl) ?_
        refine s_p rfl (y_assign rfl) ?_
        refine s_nil (q_then ?_)
        refine c_ret (q_blk_ret (q_then_ret ?_))
        exact q_ret Try.results69 (rv_tmp rfl rv_nil) ⟨_, rfl, H⟩
      · refine s_p rfl (yF (y_neq rfl rfl) c_1) ?_
        refine s_p rfl (y_assign rfl) ?_
        refine s_nil (q_then ?_)
        refine c_f rfl rfl ?_
        refine c_skip (q_blk ?_)
        exact hJx () _ _ _ _ [0, 0] H rfl ⟨rfl, rfl, True.intro⟩ rfl
def b_slices_DeleteFunc_alarm_row_alarm_Alarm (S : Mem) (s : Sl) (del : Value) (Q : Sl → Mem → Prop) : Prop :=
  slices_IndexFunc_alarm_row_alarm_Alarm S s del fun t Sx =>
  jn (fun (Sx_1 : Mem) =>
      jn (fun (i : Int) (Sx_2 : Mem) =>
          0 ≤ i ∧ i ≤ (s.n : Int) ∧ (s.n : Int) ≤ (s.c : Int) ∧
          lt (slc 3 s i (s.n : Int)) fun t_1 =>
          clr Sx_2 3 [.int .u64 0, .int .i64 0, .int .i64 0] t_1 fun Sx_3 =>
          (0 : Int) ≤ i ∧ i ≤ (s.c : Int) ∧
          lt (slc 3 s 0 i) fun t_2 =>
          Q t_2 Sx_3) fun Jx =>
      lp (fun Xx (z : Int × Int) (Sx_4 : Mem) =>
          match z with
          | (i_1, j) =>
            jn (fun (Sx_5 : Mem) =>
                sl s fun b o n n_1 =>
                0 ≤ j ∧ j < ((n : Nat) : Int) ∧
                gA (Sx_5.part b (o + j.toNat * 3) 3) fun t_3 =>
                t_3.all (·.oneCell') = true ∧
                cv Try.prog Sx_5 del [valL t_3] fun rv Sx_6 => ∃ t_4 : Bool, rv = .bool t_4 ∧ 
                if t_4 = true then
                  Xx (i_1, IntKind.i64.wrap (j + 1)) Sx_6
                else
                0 ≤ i_1 ∧ i_1 < ((n : Nat) : Int) ∧
                t_3.all (·.oneCell') = true ∧
                pt Sx_6 b (o + i_1.toNat * 3) 3 t_3 fun Sx_7 =>
                Xx (IntKind.i64.wrap (i_1 + 1), IntKind.i64.wrap (j + 1)) Sx_7) fun Jx_1 =>
            if j < (s.n : Int) then
              Jx_1 Sx_4
            else
            Jx i_1 Sx_4) (t, IntKind.i64.wrap (t + 1)) Sx_1) fun Jx_2 =>
  if t = (-1) then
    Q s Sx
  else
  Jx_2 Sx
theorem t_slices_DeleteFunc_alarm_row_alarm_Alarm {S : Mem} {s : Sl} {del : Value} {Q : Sl → Mem → Prop} (H : b_slices_DeleteFunc_alarm_row_alarm_Alarm S s del Q) : slices_DeleteFunc_alarm_row_alarm_Alarm S s del Q := by
  unfold b_slices_DeleteFunc_alarm_row_alarm_Alarm at H
  refine Tr.intro Try.func74 rfl Try.ntmps74 rfl fun w0 => ?_
  refine c_seq ?_
  refine c_region ?_
  refine s_p rfl (y_assign rfl) ?_
  refine s_nil (q_then ?_)
  refine c_seq ?_
  refine c_region ?_
  refine s_p rfl (y_move rfl) ?_
  refine s_p rfl (y_move rfl) ?_
  refine s_call rfl rfl H fun rv Sx H2 => ?_
  clear H
  obtain ⟨t, rfl, H⟩ := H2
  refine s_p rfl (y_assign rfl) ?_
  refine s_nil (q_then ?_)
  refine c_join2 H (fun (J : Mem → Prop) (z : Unit) S => J S) (fun z => ⟨42, [(0, eL s), (1, del), (5, .int .i64 t)]⟩) (fun z => []) ?_ ?_
  · clear H
    rintro _ Sx_1 H
    refine c_join2 H (fun (J : Int → Mem → Prop) (z : Int) S => J z S) (fun z => ⟨42, [(0, eL s), (5, .int .i64 z)]⟩) (fun z => []) ?_ ?_
    · clear H
      rintro i Sx_2 H
      refine c_seq ?_
      refine c_region ?_
      refine s_p rfl (y_move rfl) ?_
      refine s_p rfl (y_move rfl) ?_
      obtain ⟨c, c_1, c_2, H⟩ := H
      obtain ⟨t_1, et_1, H⟩ := lt_e H
      refine s_p rfl (eqv (y_slc (a := i) (b := (s.n : Int)) rfl rfl rfl c c_1 c_2) (congrArg eL et_1)) ?_
      refine s_clr (s := t_1) (z := [.int .u64 0, .int .i64 0, .int .i64 0]) rfl rfl rfl H fun Sx_3 H2 => ?_
      replace H := H2
      refine s_nil (q_then ?_)
      refine c_seq ?_
      refine c_region ?_
      refine s_p rfl (y_move rfl) ?_
      refine s_p rfl (y_move rfl) ?_
      obtain ⟨c_4, c_5, H⟩ := H
      obtain ⟨t_2, et_2, H⟩ := lt_e H
      refine s_p rfl (eqv (y_slc (a := 0) (b := i) rfl rfl rfl (by decide) c_4 c_5) (congrArg eL et_2)) ?_
      refine s_p rfl (y_assign rfl) ?_
      refine s_nil (q_then ?_)
      refine c_ret ?_
      exact q_ret Try.results74 (rv_tmp rfl rv_nil) ⟨_, rfl, H⟩
    · clear H
      intro Jx hJx H
      refine c_seq ?_
      refine c_region ?_
      refine s_p rfl (y_move rfl) ?_
      refine s_p rfl (y_add rfl rfl) ?_
      refine s_p rfl (y_assign rfl) ?_
      refine s_nil (q_then ?_)
      refine c_block ?_
      refine c_loop (fun z => ⟨42, [(0, eL s), (1, del), (5, .int .i64 z.1), (6, .int .i64 z.2)]⟩) (fun z => []) (t, IntKind.i64.wrap (t + 1)) (idx := []) H rfl ⟨rfl, rfl, rfl, rfl, True.intro⟩ rfl ?_
      clear H
      rintro Xx hXx ⟨i_1, j⟩ Sx_4 H
      refine c_join2 H (fun (J : Mem → Prop) (z : Unit) S => J S) (fun z => ⟨42, [(0, eL s), (1, del), (5, .int .i64 i_1), (6, .int .i64 j)]⟩) (fun z => []) ?_ ?_
      · clear H
        rintro _ Sx_5 H
        refine c_seq ?_
        refine c_block ?_
        refine c_seq ?_
        refine c_region ?_
        refine s_p rfl (y_move rfl) ?_
        refine s_p rfl (y_move rfl) ?_
        obtain ⟨b, o, n, n_1, rfl, H⟩ := H
        obtain ⟨c_6, c_7, H⟩ := H
        refine s_p rfl (y_ixL rfl rfl c_6 c_7 rfl) ?_
        obtain ⟨t_3, ht_3, H⟩ := H
        refine s_v rfl (y_ldA rfl (part_len ht_3)) (hc_SP ht_3) ?_
        refine s_alloc rfl fun b_1 => ?_
        obtain ⟨c_8, H⟩ := H
        refine s_stV_all 0 rfl rfl rfl rfl rfl (part_len ht_3) rfl c_8 ?_
        refine s_nil (q_then ?_)
        refine c_seq ?_
        refine c_region ?_
        refine s_p rfl (y_move rfl) ?_
        refine s_v rfl (y_ldA rfl (part_len ht_3)) (hc_VP (k := 3) 0 rfl (lpart_all (part_len ht_3))) ?_
        refine s_cv rfl rfl rfl H fun rv Sx_6 H2 => ?_
        clear H
        obtain ⟨t_4, rfl, H⟩ := H2
        replace H := ib_e H
        rcases H with ⟨rfl, H⟩ | ⟨rfl, H⟩
        · skip
          refine s_p rfl (yB (y_not rfl) rfl) ?_
          refine s_nil (q_then ?_)
          refine c_f rfl rfl ?_
          refine c_skip (q_blk (q_then ?_))
          refine c_region ?_
          refine s_p rfl (y_move rfl) ?_
          refine s_p rfl (y_add rfl rfl) ?_
          refine s_p rfl (y_assign rfl) ?_
          refine s_nil ?_
          exact hXx (i_1, IntKind.i64.wrap (j + 1)) _ _ _ _ [] H rfl ⟨rfl, rfl, rfl, rfl, True.intro⟩ rfl
        · skip
          refine s_p rfl (yB (y_not rfl) rfl) ?_
          refine s_nil (q_then ?_)
          refine c_t rfl rfl ?_
          refine c_seq ?_
          refine c_region ?_
          refine s_p rfl (y_move rfl) ?_
          refine s_p rfl (y_move rfl) ?_
          refine s_v rfl (y_ldA rfl (part_len ht_3)) (hc_VP (k := 3) 0 rfl (lpart_all (part_len ht_3))) ?_
          obtain ⟨c_9, c_10, H⟩ := H
          refine s_p rfl (y_ixL rfl rfl c_9 c_10 rfl) ?_
          obtain ⟨c_11, H⟩ := H
          obtain ⟨c_12, H⟩ := H
          refine s_stS rfl rfl rfl rfl (part_len ht_3) c_12 c_11 ?_
          refine s_nil (q_then ?_)
          refine c_region ?_
          refine s_p rfl (y_move rfl) ?_
          refine s_p rfl (y_add rfl rfl) ?_
          refine s_p rfl (y_assign rfl) ?_
          refine s_nil (q_blk (q_then ?_))
          refine c_region ?_
          refine s_p rfl (y_move rfl) ?_
          refine s_p rfl (y_add rfl rfl) ?_
          refine s_p rfl (y_assign rfl) ?_
          refine s_nil ?_
          exact hXx (IntKind.i64.wrap (i_1 + 1), IntKind.i64.wrap (j + 1)) _ _ _ _ [] H rfl ⟨rfl, rfl, rfl, rfl, True.intro⟩ rfl
      · clear H
        intro Jx_1 hJx_1 H
        refine c_seq ?_
        refine c_region ?_
        refine s_p rfl (y_move rfl) ?_
        refine s_p rfl (y_move rfl) ?_
        refine s_p rfl (y_len rfl) ?_
        replace H := ite_e H
        rcases H with ⟨c_13, H⟩ | ⟨c_13, H⟩
        · refine s_p rfl (yT (y_lss rfl rfl) c_13) ?_
          refine s_nil (q_then ?_)
          refine c_t rfl rfl ?_
          refine c_skip ?_
          exact hJx_1 () _ _ _ _ [] H rfl ⟨rfl, rfl, rfl, rfl, True.intro⟩ rfl
        · refine s_p rfl (yF (y_lss rfl rfl) c_13) ?_
          refine s_nil (q_then ?_)
          refine c_f rfl rfl ?_
          refine c_exit (q_then_exit (q_then_exit (q_blk_out ?_)))
          exact hJx i_1 _ _ _ _ [] H rfl ⟨rfl, rfl, True.intro⟩ rfl
  · clear H
    intro Jx_2 hJx_2 H
    refine c_seq ?_
    refine c_region ?_
    refine s_p rfl (y_move rfl) ?_
    replace H := ite_e H
    rcases H with ⟨c_14, H⟩ | ⟨c_14, H⟩
    · refine s_p rfl (yT (y_eql rfl rfl) c_14) ?_
      refine s_nil (q_then ?_)
      refine c_t rfl rfl ?_
      refine c_seq ?_
      refine c_region ?_
      refine s_p rfl (y_move rfl) ?_
      refine s_p rfl (y_assign rfl) ?_
      refine s_nil (q_then ?_)
      refine c_ret (q_then_ret ?_)
      exact q_ret Try.results74 (rv_tmp rfl rv_nil) ⟨_, rfl, H⟩
    · refine s_p rfl (yF (y_eql rfl rfl) c_14) ?_
      refine s_nil (q_then ?_)
      refine c_f rfl rfl ?_
      refine c_skip ?_
      exact hJx_2 () _ _ _ _ [] H rfl ⟨rfl, rfl, rfl, True.intro⟩ rfl
def b_slices_IndexFunc_alarm_row_alarm_Alarm (S : Mem) (s : Sl) (f : Value) (Q : Int → Mem → Prop) : Prop :=
  jn (fun (Sx : Mem) =>
      Q (-1) Sx) fun Jx =>
  lp (fun Xx (t : Int) (Sx_1 : Mem) =>
      if t < (s.n : Int) then
        sl s fun b o n n_1 =>
        0 ≤ t ∧ t < ((n : Nat) : Int) ∧
        gA (Sx_1.part b (o + t.toNat * 3) 3) fun t_1 =>
        cv Try.prog Sx_1 f [valL t_1] fun rv Sx_2 => ∃ t_2 : Bool, rv = .bool t_2 ∧ 
        if t_2 = true then
          Q t Sx_2
        else
        Xx (IntKind.i64.wrap (t + 1)) Sx_2
      else
      Jx Sx_1) 0 S
theorem t_slices_IndexFunc_alarm_row_alarm_Alarm {S : Mem} {s : Sl} {f : Value} {Q : Int → Mem → Prop} (H : b_slices_IndexFunc_alarm_row_alarm_Alarm S s f Q) : slices_IndexFunc_alarm_row_alarm_Alarm S s f Q := by
  unfold b_slices_IndexFunc_alarm_row_alarm_Alarm at H
  refine Tr.intro Try.func77 rfl Try.ntmps77 rfl fun w0 => ?_
  refine c_seq ?_
  refine c_region ?_
  refine s_p rfl (y_assign rfl) ?_
  refine s_nil (q_then ?_)
  refine c_join2 H (fun (J : Mem → Prop) (z : Unit) S => J S) (fun z => ⟨19, []⟩) (fun z => []) ?_ ?_
  · clear H
    rintro _ Sx H
    refine c_seq ?_
    refine c_region ?_
    refine s_p rfl (y_assign rfl) ?_
    refine s_nil (q_then ?_)
    refine c_ret ?_
    exact q_ret Try.results77 (rv_tmp rfl rv_nil) ⟨_, rfl, H⟩
  · clear H
    intro Jx hJx H
    refine c_seq ?_
    refine c_region ?_
    refine s_p rfl (y_move rfl) ?_
    refine s_p rfl (y_len rfl) ?_
    refine s_p rfl (y_move rfl) ?_
    refine s_nil (q_then ?_)
    refine c_block ?_
    refine c_loop (fun z => ⟨19, [(0, eL s), (1, f), (7, .int .i64 (s.n : Int)), (8, .int .i64 z)]⟩) (fun z => []) 0 (idx := []) H rfl ⟨rfl, rfl, rfl, rfl, True.intro⟩ rfl ?_
    clear H
    rintro Xx hXx t Sx_1 H
    refine c_seq ?_
    refine c_region ?_
    replace H := ite_e H
    rcases H with ⟨c, H⟩ | ⟨c, H⟩
    · refine s_p rfl (yT (y_lss rfl rfl) c) ?_
      refine s_nil (q_then ?_)
      refine c_seq ?_
      refine c_t rfl rfl ?_
      refine c_skip (q_then ?_)
      refine c_seq ?_
      refine c_block ?_
      refine c_seq ?_
      refine c_region ?_
      refine s_p rfl (y_move rfl) ?_
      refine s_p rfl (y_assign rfl) ?_
      refine s_nil (q_then ?_)
      refine c_seq ?_
      refine c_region ?_
      refine s_p rfl (y_move rfl) ?_
      refine s_p rfl (y_move rfl) ?_
      refine s_p rfl (y_move rfl) ?_
      obtain ⟨b, o, n, n_1, rfl, H⟩ := H
      obtain ⟨c_1, c_2, H⟩ := H
      refine s_p rfl (y_ixL rfl rfl c_1 c_2 rfl) ?_
      obtain ⟨t_1, ht_1, H⟩ := H
      refine s_v rfl (y_ldA rfl (part_len ht_1)) (hc_SP ht_1) ?_
      refine s_cv rfl rfl rfl H fun rv Sx_2 H2 => ?_
      clear H
      obtain ⟨t_2, rfl, H⟩ := H2
      replace H := ib_e H
      rcases H with ⟨rfl, H⟩ | ⟨rfl, H⟩
      · skip
        refine s_nil (q_then ?_)
        refine c_t rfl rfl ?_
        refine c_seq ?_
        refine c_region ?_
        refine s_p rfl (y_move rfl) ?_
        refine s_p rfl (y_assign rfl) ?_
        refine s_nil (q_then ?_)
        refine c_ret (q_blk_ret (q_then_ret (q_then_ret (q_blk_ret (q_then_ret ?_)))))
        exact q_ret Try.results77 (rv_tmp rfl rv_nil) ⟨_, rfl, H⟩
      · skip
        refine s_nil (q_then ?_)
        refine c_f rfl rfl ?_
        refine c_skip (q_blk (q_then ?_))
        refine c_region ?_
        refine s_p rfl (y_add rfl rfl) ?_
        refine s_p rfl (y_move rfl) ?_
        refine s_nil ?_
        exact hXx (IntKind.i64.wrap (t + 1)) _ _ _ _ [] H rfl ⟨rfl, rfl, rfl, rfl, True.intro⟩ rfl
    · refine s_p rfl (yF (y_lss rfl rfl) c) ?_
      refine s_nil (q_then ?_)
      refine c_seq ?_
      refine c_f rfl rfl ?_
      refine c_exit (q_then_exit (q_then_exit (q_blk_out ?_)))
      exact hJx () _ _ _ _ [] H rfl True.intro rfl
def b_alarm_row_Len (S : Mem) (r : Sl) (Q : Int → Mem → Prop) : Prop :=
  Q (r.n : Int) S
theorem t_alarm_row_Len {S : Mem} {r : Sl} {Q : Int → Mem → Prop} (H : b_alarm_row_Len S r Q) : alarm_row_Len S r Q := by
  unfold b_alarm_row_Len at H
  refine Tr.intro Try.func114 rfl Try.ntmps114 rfl fun w0 => ?_
  refine c_seq ?_
  refine c_region ?_
  refine s_p rfl (y_assign rfl) ?_
  refine s_nil (q_then ?_)
  refine c_seq ?_
  refine c_region ?_
  refine s_p rfl (y_move rfl) ?_
  refine s_p rfl (y_len rfl) ?_
  refine s_p rfl (y_assign rfl) ?_
  refine s_nil (q_then ?_)
  refine c_ret ?_
  exact q_ret Try.results114 (rv_tmp rfl rv_nil) ⟨_, rfl, H⟩
def b_alarm_row_Less (S : Mem) (r : Sl) (i : Int) (j : Int) (Q : Bool → Mem → Prop) : Prop :=
  sl r fun b o n n_1 =>
  0 ≤ i ∧ i < ((n : Nat) : Int) ∧
  gA (S.part b (o + i.toNat * 3) 3) fun t =>
  0 ≤ j ∧ j < ((n : Nat) : Int) ∧
  gA (S.part b (o + j.toNat * 3) 3) fun t_1 =>
  alarm_Alarm_before S t t_1 fun t_2 Sx =>
  Q t_2 Sx
theorem t_alarm_row_Less {S : Mem} {r : Sl} {i : Int} {j : Int} {Q : Bool → Mem → Prop} (H : b_alarm_row_Less S r i j Q) : alarm_row_Less S r i j Q := by
  unfold b_alarm_row_Less at H
  refine Tr.intro Try.func115 rfl Try.ntmps115 rfl fun w0 => ?_
  refine c_seq ?_
  refine c_region ?_
  refine s_p rfl (y_assign rfl) ?_
  refine s_nil (q_then ?_)
  refine c_seq ?_
  refine c_drawn (by kernel_rfl) ?_
  refine a_takeP 0 rfl (by decide +kernel) (np_then np_body) rfl (y_move rfl) ?_
  refine a_takeP 1 rfl (by decide +kernel) (np_then np_body) rfl (y_move rfl) ?_
  obtain ⟨b, o, n, n_1, rfl, H⟩ := H
  obtain ⟨c, c_1, H⟩ := H
  refine a_takeP 2 rfl (by decide +kernel) (np_then np_body) rfl (y_ixL rfl rfl c c_1 rfl) ?_
  obtain ⟨t, ht, H⟩ := H
  refine a_take 3 rfl (by decide +kernel) (np_then np_body) rfl (y_ldA rfl (part_len ht)) (hc_SP ht) ?_
  refine a_takeP 4 rfl (by decide +kernel) (np_then np_body) rfl (y_move rfl) ?_
  refine a_takeP 5 rfl (by decide +kernel) (np_then np_body) rfl (y_move rfl) ?_
  obtain ⟨c_2, c_3, H⟩ := H
  refine a_takeP 6 rfl (by decide +kernel) (np_then np_body) rfl (y_ixL rfl rfl c_2 c_3 rfl) ?_
  obtain ⟨t_1, ht_1, H⟩ := H
  refine a_take 7 rfl (by decide +kernel) (np_then np_body) rfl (y_ldA rfl (part_len ht_1)) (hc_SP ht_1) ?_
  refine a_step 8 (by decide +kernel) rfl ?_
  refine s_call rfl rfl H fun rv Sx H2 => ?_
  clear H
  obtain ⟨t_2, rfl, H⟩ := H2
  refine s_nil (q_any ac_nil ?_)
  refine a_takeP 9 rfl (by decide +kernel) (np_then np_body) rfl (y_assign rfl) ?_
  refine a_done (by decide +kernel) ?_
  refine q_then ?_
  refine c_ret ?_
  exact q_ret Try.results115 (rv_tmp rfl rv_nil) ⟨_, rfl, H⟩
def b_alarm_row_Swap (S : Mem) (r : Sl) (i : Int) (j : Int) (Q : Mem → Prop) : Prop :=
  sl r fun b o n n_1 =>
  0 ≤ j ∧ j < ((n : Nat) : Int) ∧
  gA (S.part b (o + j.toNat * 3) 3) fun t =>
  0 ≤ i ∧ i < ((n : Nat) : Int) ∧
  gA (S.part b (o + i.toNat * 3) 3) fun t_1 =>
  0 ≤ i ∧ i < ((n : Nat) : Int) ∧
  t.all (·.oneCell') = true ∧
  pt S b (o + i.toNat * 3) 3 t fun Sx =>
  0 ≤ j ∧ j < ((n : Nat) : Int) ∧
  t_1.all (·.oneCell') = true ∧
  pt Sx b (o + j.toNat * 3) 3 t_1 fun Sx_1 =>
  Q Sx_1
theorem t_alarm_row_Swap {S : Mem} {r : Sl} {i : Int} {j : Int} {Q : Mem → Prop} (H : b_alarm_row_Swap S r i j Q) : alarm_row_Swap S r i j Q := by
  unfold b_alarm_row_Swap at H
  refine Tr.intro Try.func116 rfl Try.ntmps116 rfl fun w0 => ?_
  refine c_drawn (by kernel_rfl) ?_
  refine a_takeP 0 rfl (by decide +kernel) np_body rfl (y_move rfl) ?_
  refine a_takeP 1 rfl (by decide +kernel) np_body rfl (y_move rfl) ?_
  refine a_takeP 2 rfl (by decide +kernel) np_body rfl (y_move rfl) ?_
  refine a_takeP 3 rfl (by decide +kernel) np_body rfl (y_move rfl) ?_
  refine a_takeP 4 rfl (by decide +kernel) np_body rfl (y_move rfl) ?_
  refine a_takeP 5 rfl (by decide +kernel) np_body rfl (y_move rfl) ?_
  obtain ⟨b, o, n, n_1, rfl, H⟩ := H
  obtain ⟨c, c_1, H⟩ := H
  refine a_takeP 6 rfl (by decide +kernel) np_body rfl (y_ixL rfl rfl c c_1 rfl) ?_
  obtain ⟨t, ht, H⟩ := H
  refine a_take 7 rfl (by decide +kernel) np_body rfl (y_ldA rfl (part_len ht)) (hc_SP ht) ?_
  refine a_takeP 8 rfl (by decide +kernel) np_body rfl (y_move rfl) ?_
  refine a_takeP 9 rfl (by decide +kernel) np_body rfl (y_move rfl) ?_
  obtain ⟨c_2, c_3, H⟩ := H
  refine a_takeP 10 rfl (by decide +kernel) np_body rfl (y_ixL rfl rfl c_2 c_3 rfl) ?_
  obtain ⟨t_1, ht_1, H⟩ := H
  refine a_take 11 rfl (by decide +kernel) np_body rfl (y_ldA rfl (part_len ht_1)) (hc_SP ht_1) ?_
  obtain ⟨c_4, c_5, H⟩ := H
  refine a_takeP 12 rfl (by decide +kernel) np_body rfl (y_ixL rfl rfl c_4 c_5 rfl) ?_
  refine a_step 13 (by decide +kernel) rfl ?_
  obtain ⟨c_6, H⟩ := H
  obtain ⟨c_7, H⟩ := H
  refine s_stS rfl rfl rfl rfl (part_len ht) c_7 c_6 ?_
  refine s_nil (q_any ac_nil ?_)
  obtain ⟨c_8, c_9, H⟩ := H
  refine a_takeP 14 rfl (by decide +kernel) np_body rfl (y_ixL rfl rfl c_8 c_9 rfl) ?_
  refine a_step 15 (by decide +kernel) rfl ?_
  obtain ⟨c_10, H⟩ := H
  obtain ⟨c_11, H⟩ := H
  refine s_stS rfl rfl rfl rfl (part_len ht_1) c_11 c_10 ?_
  refine s_nil (q_any ac_nil ?_)
  refine a_done (by decide +kernel) ?_
  exact q_end Try.results116 (rv_nil) ⟨rfl, H⟩
def b_alarm_row_Pop (S : Mem) (r : Pt) (Q : Value → Mem → Prop) : Prop :=
  nn r fun b o =>
  gL (S.cell b o) fun t =>
  sl t fun b_1 o_1 n n_1 =>
  0 ≤ IntKind.i64.wrap ((t.n : Int) - 1) ∧ IntKind.i64.wrap ((t.n : Int) - 1) < ((n : Nat) : Int) ∧
  gA (S.part b_1 (o_1 + (IntKind.i64.wrap ((t.n : Int) - 1)).toNat * 3) 3) fun t_1 =>
  t_1.all (·.oneCell') = true ∧
  (0 : Int) ≤ IntKind.i64.wrap ((n : Int) - 1) ∧ IntKind.i64.wrap ((n : Int) - 1) ≤ ((⟨some (b_1, o_1), n, n_1⟩ : Sl).c : Int) ∧
  lt (slc 3 (⟨some (b_1, o_1), n, n_1⟩ : Sl) 0 (IntKind.i64.wrap ((n : Int) - 1))) fun t_2 =>
  pt S b o 1 ([eL t_2]) fun Sx =>
  Q (.iface 95 (valL t_1)) Sx
theorem t_alarm_row_Pop {S : Mem} {r : Pt} {Q : Value → Mem → Prop} (H : b_alarm_row_Pop S r Q) : alarm_row_Pop S r Q := by
  unfold b_alarm_row_Pop at H
  refine Tr.intro Try.func117 rfl Try.ntmps117 rfl fun w0 => ?_
  refine c_seq ?_
  refine c_region ?_
  refine s_p rfl (y_assign rfl) ?_
  refine s_nil (q_then ?_)
  refine c_seq ?_
  refine c_region ?_
  refine s_p rfl (y_move rfl) ?_
  obtain ⟨b, o, rfl, H⟩ := H
  refine s_p rfl (y_nc rfl) ?_
  obtain ⟨t, ht, H⟩ := H
  refine s_v rfl (y_ld rfl) (hc_S ht) ?_
  refine s_p rfl (y_assign rfl) ?_
  refine s_nil (q_then ?_)
  refine c_seq ?_
  refine c_region ?_
  refine s_p rfl (y_move rfl) ?_
  refine s_p rfl (y_move rfl) ?_
  refine s_p rfl (y_len rfl) ?_
  refine s_p rfl (y_sub rfl rfl) ?_
  obtain ⟨b_1, o_1, n, n_1, rfl, H⟩ := H
  obtain ⟨c, c_1, H⟩ := H
  refine s_p rfl (y_ixL rfl rfl c c_1 rfl) ?_
  obtain ⟨t_1, ht_1, H⟩ := H
  refine s_v rfl (y_ldA rfl (part_len ht_1)) (hc_SP ht_1) ?_
  refine s_alloc rfl fun b_2 => ?_
  obtain ⟨c_2, H⟩ := H
  refine s_stV_all 0 rfl rfl rfl rfl rfl (part_len ht_1) rfl c_2 ?_
  refine s_nil (q_then ?_)
  refine c_seq ?_
  refine c_region ?_
  refine s_p rfl (y_move rfl) ?_
  refine s_p rfl (y_move rfl) ?_
  refine s_p rfl (y_move rfl) ?_
  refine s_p rfl (y_len rfl) ?_
  refine s_p rfl (y_sub rfl rfl) ?_
  obtain ⟨c_4, c_5, H⟩ := H
  obtain ⟨t_2, et_2, H⟩ := lt_e H
  refine s_p rfl (eqv (y_slc (a := 0) (b := IntKind.i64.wrap ((n : Int) - 1)) rfl rfl rfl (by decide) c_4 c_5) (congrArg eL et_2)) ?_
  refine s_p rfl (y_nc rfl) ?_
  obtain ⟨c_6, H⟩ := H
  refine s_stS rfl rfl rfl rfl rfl c_6 rfl ?_
  refine s_nil (q_then ?_)
  refine c_seq ?_
  refine c_region ?_
  refine s_v rfl (y_ldA rfl (part_len ht_1)) (hc_VP (k := 3) 0 rfl (lpart_all (part_len ht_1))) ?_
  refine s_p rfl (y_iface rfl) ?_
  refine s_p rfl (y_assign rfl) ?_
  refine s_nil (q_then ?_)
  refine c_ret ?_
  exact q_ret Try.results117 (rv_tmp rfl rv_nil) ⟨_, rfl, H⟩
def b_alarm_row_Push (S : Mem) (r : Pt) (x : Value) (Q : Mem → Prop) : Prop :=
  nn r fun b o =>
  gL (S.cell b o) fun t =>
  asA x 95 3 fun t_1 =>
  t_1.all (·.oneCell') = true ∧
  ap S 95 3 24 [.int .u64 0, .int .i64 0, .int .i64 0] t 1 t_1 fun t_2 Sx =>
  pt Sx b o 1 ([eL t_2]) fun Sx_1 =>
  Q Sx_1
theorem t_alarm_row_Push {S : Mem} {r : Pt} {x : Value} {Q : Mem → Prop} (H : b_alarm_row_Push S r x Q) : alarm_row_Push S r x Q := by
  unfold b_alarm_row_Push at H
  refine Tr.intro Try.func118 rfl Try.ntmps118 rfl fun w0 => ?_
  refine c_drawn (by kernel_rfl) ?_
  refine a_takeP 0 rfl (by decide +kernel) np_body rfl (y_move rfl) ?_
  refine a_takeP 1 rfl (by decide +kernel) np_body rfl (y_move rfl) ?_
  obtain ⟨b, o, rfl, H⟩ := H
  refine a_takeP 2 rfl (by decide +kernel) np_body rfl (y_nc rfl) ?_
  obtain ⟨t, ht, H⟩ := H
  refine a_take 3 rfl (by decide +kernel) np_body rfl (y_ld rfl) (hc_S ht) ?_
  refine a_takeP 4 rfl (by decide +kernel) np_body rfl (y_move rfl) ?_
  obtain ⟨t_1, rfl, ht_1, H⟩ := H
  refine a_takeP 5 rfl (by decide +kernel) np_body rfl (y_assert rfl) ?_
  refine a_step 6 (by decide +kernel) rfl ?_
  refine s_bs rfl rfl (by decide) (fill_one (size := 3) rfl ht_1) fun b_1 => ?_
  refine s_nil (q_any (ac_cons (hc_S ht) ac_nil) ?_)
  refine a_step 7 (by decide +kernel) rfl ?_
  obtain ⟨c, H⟩ := H
  refine s_app (sx := t) (vs := t_1) rfl rfl rfl (fc_V 0 rfl (lpart_all ht_1)) ht_1 c (by decide) H fun t_2 Sx H2 => ?_
  replace H := H2
  refine s_nil (q_any ac_nil ?_)
  refine a_takeP 8 rfl (by decide +kernel) np_body rfl (y_nc rfl) ?_
  refine a_step 9 (by decide +kernel) rfl ?_
  obtain ⟨c_1, H⟩ := H
  refine s_stS rfl rfl rfl rfl rfl c_1 rfl ?_
  refine s_nil (q_any ac_nil ?_)
  refine a_done (by decide +kernel) ?_
  exact q_end Try.results118 (rv_nil) ⟨rfl, H⟩
def b_slices_Clone_alarm_Alarm_alarm_Alarm (S : Mem) (s : Sl) (Q : Sl → Mem → Prop) : Prop :=
  if s.p = none then
    Q (⟨none, 0, 0⟩) S
  else
  al S 95 ([]) fun b Sx =>
  sp Sx s 3 fun vs =>
  ap Sx 95 3 24 [.int .u64 0, .int .i64 0, .int .i64 0] (⟨some (b, 0), 0, 0⟩) s.n vs fun t Sx_1 =>
  Q t Sx_1
theorem t_slices_Clone_alarm_Alarm_alarm_Alarm {S : Mem} {s : Sl} {Q : Sl → Mem → Prop} (H : b_slices_Clone_alarm_Alarm_alarm_Alarm S s Q) : slices_Clone_alarm_Alarm_alarm_Alarm S s Q := by
  unfold b_slices_Clone_alarm_Alarm_alarm_Alarm at H
  refine Tr.intro Try.func66 rfl Try.ntmps66 rfl fun w0 => ?_
  refine c_seq ?_
  refine c_region ?_
  refine s_p rfl (y_assign rfl) ?_
  refine s_nil (q_then ?_)
  refine c_seq ?_
  refine c_seq ?_
  refine c_region ?_
  refine s_p rfl (y_move rfl) ?_
  replace H := ite_e H
  rcases H with ⟨c, H⟩ | ⟨c, H⟩
  · refine s_p rfl (yT (y_lnil (p := s.p) rfl rfl) c) ?_
    refine s_nil (q_then ?_)
    refine c_t rfl rfl ?_
    refine c_seq ?_
    refine c_region ?_
    refine s_p rfl (y_assign rfl) ?_
    refine s_nil (q_then ?_)
    refine c_ret (q_then_ret ?_)
    exact q_ret Try.results66 (rv_tmp rfl rv_nil) ⟨_, rfl, H⟩
  · refine s_p rfl (yF (y_lnil (p := s.p) rfl rfl) c) ?_
    refine s_nil (q_then ?_)
    refine c_f rfl rfl ?_
    refine c_skip (q_then ?_)
    refine c_seq ?_
    refine c_region ?_
    refine s_bs rfl rfl (by decide) rfl fun b => ?_
    refine s_pub 0 rfl fun hb => ?_
    replace H := H b hb
    refine s_p rfl (y_move rfl) ?_
    obtain ⟨vs, h, c_1, H⟩ := H
    refine s_app (sx := ⟨some (b, 0), 0, 0⟩) (vs := vs) rfl rfl rfl ((fc_sp h).1) ((fc_sp (P := Try.prog) (w0 := w0) (S0 := S) (V := []) h).2) c_1 (by decide) H fun t Sx_1 H2 => ?_
    replace H := H2
    refine s_p rfl (y_assign rfl) ?_
    refine s_nil (q_then ?_)
    refine c_ret ?_
    exact q_ret Try.results66 (rv_tmp rfl rv_nil) ⟨_, rfl, H⟩
def b_slices_Clone_alarm_row_alarm_Alarm (S : Mem) (s : Sl) (Q : Sl → Mem → Prop) : Prop :=
  if s.p = none then
    Q (⟨none, 0, 0⟩) S
  else
  al S 95 ([]) fun b Sx =>
  sp Sx s 3 fun vs =>
  ap Sx 95 3 24 [.int .u64 0, .int .i64 0, .int .i64 0] (⟨some (b, 0), 0, 0⟩) s.n vs fun t Sx_1 =>
  Q t Sx_1
theorem t_slices_Clone_alarm_row_alarm_Alarm {S : Mem} {s : Sl} {Q : Sl → Mem → Prop} (H : b_slices_Clone_alarm_row_alarm_Alarm S s Q) : slices_Clone_alarm_row_alarm_Alarm S s Q := by
  unfold b_slices_Clone_alarm_row_alarm_Alarm at H
  refine Tr.intro Try.func70 rfl Try.ntmps70 rfl fun w0 => ?_
  refine c_seq ?_
  refine c_region ?_
  refine s_p rfl (y_assign rfl) ?_
  refine s_nil (q_then ?_)
  refine c_seq ?_
  refine c_seq ?_
  refine c_region ?_
  refine s_p rfl (y_move rfl) ?_
  replace H := ite_e H
  rcases H with ⟨c, H⟩ | ⟨c, H⟩
  · refine s_p rfl (yT (y_lnil (p := s.p) rfl rfl) c) ?_
    refine s_nil (q_then ?_)
    refine c_t rfl rfl ?_
    refine c_seq ?_
    refine c_region ?_
    refine s_p rfl (y_assign rfl) ?_
    refine s_nil (q_then ?_)
    refine c_ret (q_then_ret ?_)
    exact q_ret Try.results70 (rv_tmp rfl rv_nil) ⟨_, rfl, H⟩
  · refine s_p rfl (yF (y_lnil (p := s.p) rfl rfl) c) ?_
    refine s_nil (q_then ?_)
    refine c_f rfl rfl ?_
    refine c_skip (q_then ?_)
    refine c_seq ?_
    refine c_region ?_
    refine s_bs rfl rfl (by decide) rfl fun b => ?_
    refine s_pub 0 rfl fun hb => ?_
    replace H := H b hb
    refine s_p rfl (y_move rfl) ?_
    obtain ⟨vs, h, c_1, H⟩ := H
    refine s_app (sx := ⟨some (b, 0), 0, 0⟩) (vs := vs) rfl rfl rfl ((fc_sp h).1) ((fc_sp (P := Try.prog) (w0 := w0) (S0 := S) (V := []) h).2) c_1 (by decide) H fun t Sx_1 H2 => ?_
    replace H := H2
    refine s_p rfl (y_assign rfl) ?_
    refine s_nil (q_then ?_)
    refine c_ret ?_
    exact q_ret Try.results70 (rv_tmp rfl rv_nil) ⟨_, rfl, H⟩
def b_alarm_Clock_Twin (S : Mem) (c : Pt) (Q : Pt → Mem → Prop) : Prop :=
  jn (fun (Sx : Mem) =>
      nn c fun b o =>
      gL (Sx.cell b o) fun t =>
      slices_Clone_alarm_row_alarm_Alarm Sx t fun t_1 Sx_1 =>
      al Sx_1 91 ([eL t_1]) fun b_1 Sx_2 =>
      Q (some (b_1, 0)) Sx_2) fun Jx =>
  if c = none then
    Q none S
  else
  Jx S
theorem t_alarm_Clock_Twin {S : Mem} {c : Pt} {Q : Pt → Mem → Prop} (H : b_alarm_Clock_Twin S c Q) : alarm_Clock_Twin S c Q := by
  unfold b_alarm_Clock_Twin at H
  refine Tr.intro Try.func41 rfl Try.ntmps41 rfl fun w0 => ?_
  refine c_seq ?_
  refine c_region ?_
  refine s_p rfl (y_assign rfl) ?_
  refine s_nil (q_then ?_)
  refine c_join2 H (fun (J : Mem → Prop) (z : Unit) S => J S) (fun z => ⟨12, [(0, eP c)]⟩) (fun z => []) ?_ ?_
  · clear H
    rintro _ Sx H
    refine c_seq ?_
    refine c_region ?_
    refine s_p rfl (y_move rfl) ?_
    obtain ⟨b, o, rfl, H⟩ := H
    refine s_p rfl (y_nc rfl) ?_
    refine s_p rfl (y_fa rfl rfl) ?_
    obtain ⟨t, ht, H⟩ := H
    refine s_v rfl (y_ld rfl) (hc_S ht) ?_
    refine s_call rfl rfl H fun rv Sx_1 H2 => ?_
    clear H
    obtain ⟨t_1, rfl, H⟩ := H2
    refine s_p rfl (y_build rfl rfl) ?_
    refine s_box rfl rfl rfl fun b_1 => ?_
    refine s_pub 0 rfl fun hb_1 => ?_
    replace H := H b_1 hb_1
    refine s_p rfl (y_assign rfl) ?_
    refine s_nil (q_then ?_)
    refine c_ret ?_
    exact q_ret Try.results41 (rv_tmp rfl rv_nil) ⟨_, rfl, H⟩
  · clear H
    intro Jx hJx H
    refine c_seq ?_
    refine c_region ?_
    refine s_p rfl (y_move rfl) ?_
    replace H := ite_e H
    rcases H with ⟨c_1, H⟩ | ⟨c_1, H⟩
    · refine s_p rfl (yT (y_pnil (p := c) rfl rfl) c_1) ?_
      refine s_nil (q_then ?_)
      refine c_t rfl rfl ?_
      refine c_seq ?_
      refine c_region ?_
      refine s_p rfl (y_assign rfl) ?_
      refine s_nil (q_then ?_)
      refine c_ret (q_then_ret ?_)
      exact q_ret Try.results41 (rv_tmp rfl rv_nil) ⟨_, rfl, H⟩
    · refine s_p rfl (yF (y_pnil (p := c) rfl rfl) c_1) ?_
      refine s_nil (q_then ?_)
      refine c_f rfl rfl ?_
      refine c_skip ?_
      exact hJx () _ _ _ _ [] H rfl ⟨rfl, True.intro⟩ rfl
end Go.Proofs.Ytpilffakhkagjaa
