/- alarm.All's comparison: walked by the kit's own steps. -/
import Derived.Test.YtpilffakhkagjaaAlF
import Derived.WalkKit
import Derived.WalkSpells
import Derived.Sort.Grow
import Derived.Deep.Draws
namespace Go.Proofs.Ytpilffakhkagjaa
open Go Go.Pt Go.Hp Go.RowKit Go.Sort
theorem bf_val (x y : Al) : bf x y = if x.tm = y.tm then (if x.vm = y.vm then decide (x.seat < y.seat) else decide (x.vm < y.vm)) else decide (x.tm < y.tm) := by
  unfold bf
  by_cases h1 : x.tm = y.tm
  · rw [if_neg (by simpa using h1), if_pos h1]
    by_cases h2 : x.vm = y.vm
    · rw [if_neg (by simpa using h2), if_pos h2]
    · rw [if_pos h2, if_neg h2]
  · rw [if_pos h1, if_neg h1]
set_option maxHeartbeats 1000000 in
theorem before_walk (x y : Al) (W : World) : Calls Try.prog 69 #[.agg #[.int .u64 x.tm, .int .i64 x.vm, .int .i64 x.seat], .agg #[.int .u64 y.tm, .int .i64 y.vm, .int .i64 y.seat]] W fun e w' => e = .returned (.bool (bf x y)) ∧ ∃ q os', w' = grow (W.drewN q) os' := by
  by_cases h1 : x.tm = y.tm
  · by_cases h2 : x.vm = y.vm
    · have hv := bf_val x y
      rw [if_pos h1, if_pos h2] at hv
      rw [hv]; clear hv
      go_enter Try.func69, Try.ntmps69
      go_wp2
      go_ret
      exact ⟨rfl, 0, _, by rw [alloc_eq_grow, alloc_eq_grow, grow_grow]; rfl⟩
    · have hv := bf_val x y
      rw [if_pos h1, if_neg h2] at hv
      rw [hv]; clear hv
      go_enter Try.func69, Try.ntmps69
      go_wp2
      go_ret
      exact ⟨rfl, 0, _, by rw [alloc_eq_grow, alloc_eq_grow, grow_grow]; rfl⟩
  · have hv := bf_val x y
    rw [if_neg h1] at hv
    rw [hv]; clear hv
    go_enter Try.func69, Try.ntmps69
    go_wp2
    go_ret
    exact ⟨rfl, 0, _, by rw [alloc_eq_grow, alloc_eq_grow, grow_grow]; rfl⟩
def cfA (x y : Al) : Int := if bf x y = true then -1 else if bf y x = true then 1 else 0
theorem drewN_grow (w : World) (os : Array Obj) (n : Nat) : (grow w os).drewN n = grow (w.drewN n) os := rfl
theorem drewN_drewN' (w : World) (n m : Nat) : (w.drewN n).drewN m = w.drewN (n + m) := by simp [World.drewN, Nat.add_assoc]
theorem boxes (W w' : World) (v0 v1 v2 u0 u1 u2 : Value) (q : Nat) (os : Array Obj) (h : w' = grow (((W.alloc (.cells #[v0, v1, v2] 95)).alloc (.cells #[u0, u1, u2] 95)).drewN q) os) :
    w'.cell? ⟨W.heap.size, 0, none⟩ = some v0 ∧ w'.cell? ⟨W.heap.size, 1, none⟩ = some v1 ∧ w'.cell? ⟨W.heap.size, 2, none⟩ = some v2 ∧
    w'.cell? ⟨W.heap.size + 1, 0, none⟩ = some u0 ∧ w'.cell? ⟨W.heap.size + 1, 1, none⟩ = some u1 ∧ w'.cell? ⟨W.heap.size + 1, 2, none⟩ = some u2 := by
  subst h
  have e1 : (grow (((W.alloc (.cells #[v0, v1, v2] 95)).alloc (.cells #[u0, u1, u2] 95)).drewN q) os).heap[W.heap.size]? = some (.cells #[v0, v1, v2] 95) := by
    simp only [grow, World.alloc, World.drewN]
    rw [Array.getElem?_append, if_pos (by simp; omega), Array.getElem?_push, if_neg (by simp), Array.getElem?_push, if_pos rfl]
  have e2 : (grow (((W.alloc (.cells #[v0, v1, v2] 95)).alloc (.cells #[u0, u1, u2] 95)).drewN q) os).heap[W.heap.size + 1]? = some (.cells #[u0, u1, u2] 95) := by
    simp only [grow, World.alloc, World.drewN]
    rw [Array.getElem?_append, if_pos (by simp), Array.getElem?_push, if_pos (by simp)]
  simp [World.cell?, e1, e2]
set_option maxRecDepth 100000 in
set_option maxHeartbeats 1000000 in
theorem cmp_walk (x y : Al) (W : World) : Calls Try.prog 68 #[.agg #[.int .u64 x.tm, .int .i64 x.vm, .int .i64 x.seat], .agg #[.int .u64 y.tm, .int .i64 y.vm, .int .i64 y.seat]] W fun e w' => e = .returned (.int .i64 (cfA x y)) ∧ ∃ q os', w' = grow (W.drewN q) os' := by
  have h1 := fun W' => before_walk x y W'
  have h2 := fun W' => before_walk y x W'
  unfold cfA
  cases e1 : bf x y with
  | true =>
    rw [e1] at h1
    rw [if_pos rfl]
    go_enter Try.func68, Try.ntmps68
    go_wp2_with (go_at_call 69; refine (h1 _).mono ?_; rintro e w' ⟨rfl, q, os, rfl⟩)
    go_ret
    exact ⟨rfl, q, _, by rw [alloc_eq_grow, alloc_eq_grow, grow_grow, drewN_grow, grow_grow]⟩
  | false =>
    rw [e1] at h1
    rw [if_neg (by decide)]
    cases e2 : bf y x with
    | true =>
      rw [e2] at h2
      rw [if_pos rfl]
      go_enter Try.func68, Try.ntmps68
      go_wp2_with (go_at_call 69; refine (before_walk _ _ _).mono ?_; first | (rw [e1]; rintro e w' ⟨rfl, q, os, hw⟩; obtain ⟨c0, c1, c2, c3, c4, c5⟩ := boxes _ _ _ _ _ _ _ _ _ _ hw; have HW : Hid _ := hw; clear hw) | (rw [e2]; rintro e w2 ⟨rfl, q2, os2, hw2⟩; have HW2 : Hid _ := hw2; clear hw2))
      go_ret
      exact ⟨rfl, q + q2, _, by rw [HW2.out, HW.out, alloc_eq_grow, alloc_eq_grow, grow_grow, drewN_grow, grow_grow, drewN_grow, drewN_grow, grow_grow, drewN_drewN']⟩
    | false =>
      rw [e2] at h2
      rw [if_neg (by decide)]
      go_enter Try.func68, Try.ntmps68
      go_wp2_with (go_at_call 69; refine (before_walk _ _ _).mono ?_; first | (rw [e1]; rintro e w' ⟨rfl, q, os, hw⟩; obtain ⟨c0, c1, c2, c3, c4, c5⟩ := boxes _ _ _ _ _ _ _ _ _ _ hw; have HW : Hid _ := hw; clear hw) | (rw [e2]; rintro e w2 ⟨rfl, q2, os2, hw2⟩; have HW2 : Hid _ := hw2; clear hw2))
      go_ret
      exact ⟨rfl, q + q2, _, by rw [HW2.out, HW.out, alloc_eq_grow, alloc_eq_grow, grow_grow, drewN_grow, grow_grow, drewN_grow, drewN_grow, grow_grow, drewN_drewN']⟩
end Go.Proofs.Ytpilffakhkagjaa
