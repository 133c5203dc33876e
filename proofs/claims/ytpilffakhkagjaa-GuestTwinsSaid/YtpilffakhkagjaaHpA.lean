/- A heap in a list: what container/heap's steps keep. No program in sight. -/
import Derived.Test.YtpilffakhkagjaaPtU
namespace Go.Hp
section
variable {α : Type} [Inhabited α]
def gt (l : List α) (i : Nat) : α := l.getD i default
def sw (l : List α) (i j : Nat) : List α := (l.set i (gt l j)).set j (gt l i)
theorem gt_eq {l : List α} {i : Nat} (h : i < l.length) : gt l i = l[i] := by simp [gt, h]
theorem sw_length (l : List α) (i j : Nat) : (sw l i j).length = l.length := by simp [sw]
theorem gt_set {l : List α} {i k : Nat} {a : α} (h : i < l.length) : gt (l.set i a) k = if k = i then a else gt l k := by
  simp only [gt, List.getD_eq_getElem?_getD, List.getElem?_set]
  by_cases e : i = k
  · subst e; simp [h]
  · rw [if_neg e, if_neg (fun h => e h.symm)]
theorem gt_sw {l : List α} {i j k : Nat} (hi : i < l.length) (hj : j < l.length) : gt (sw l i j) k = if k = j then gt l i else if k = i then gt l j else gt l k := by
  rw [sw, gt_set (by simpa using hj), gt_set hi]
theorem sw_perm {l : List α} {i j : Nat} (hi : i < l.length) (hj : j < l.length) : (sw l i j).Perm l := by
  rw [sw, gt_eq hi, gt_eq hj]; exact List.set_set_perm hi hj
/-- A strict order that is total: 'lt b a = false' is transitive. -/
structure Ord (lt : α → α → Bool) : Prop where
  asym : ∀ a b, lt a b = true → lt b a = false
  trans : ∀ a b c, lt b a = false → lt c b = false → lt c a = false
variable {lt : α → α → Bool}
/-- From this place on each is no less than its parent, among the first n. -/
def HpF (lt : α → α → Bool) (l : List α) (n lo : Nat) : Prop := ∀ k, 0 < k → k < n → lo ≤ (k - 1) / 2 → lt (gt l k) (gt l ((k - 1) / 2)) = false
def Heap (lt : α → α → Bool) (l : List α) : Prop := HpF lt l l.length 0
/-- A step of down: all in order but at i. -/
structure Dn (lt : α → α → Bool) (l : List α) (n lo i : Nat) : Prop where
  from_ : lo ≤ i
  all : ∀ k, 0 < k → k < n → lo ≤ (k - 1) / 2 → (k - 1) / 2 ≠ i → lt (gt l k) (gt l ((k - 1) / 2)) = false
  over : lo < i → ∀ k, 0 < k → k < n → (k - 1) / 2 = i → lo ≤ (i - 1) / 2 → lt (gt l k) (gt l ((i - 1) / 2)) = false
theorem Dn.start {l : List α} {n lo : Nat} (h : HpF lt l n (lo + 1)) : Dn lt l n lo lo :=
  ⟨Nat.le_refl _, fun k h1 h2 h3 h4 => h k h1 h2 (by omega), fun h => absurd h (Nat.lt_irrefl _)⟩
theorem Dn.leaf {l : List α} {n lo i : Nat} (h : Dn lt l n lo i) (hl : n ≤ 2 * i + 1) : HpF lt l n lo := fun k h1 h2 h3 => h.all k h1 h2 h3 (by omega)
theorem Dn.stop (hO : Ord lt) {l : List α} {n lo i j : Nat} (h : Dn lt l n lo i) (hm : ∀ k, k = 2 * i + 1 ∨ k = 2 * i + 2 → k < n → lt (gt l k) (gt l j) = false) (hs : lt (gt l j) (gt l i) = false) : HpF lt l n lo := fun k h1 h2 h3 => by
  by_cases e : (k - 1) / 2 = i
  · rw [e]
    exact hO.trans _ _ _ hs (hm k (by omega) h2)
  · exact h.all k h1 h2 h3 e
theorem Dn.next (hO : Ord lt) {l : List α} {n lo i j : Nat} (h : Dn lt l n lo i) (hn : n ≤ l.length) (hjn : j < n) (hj : j = 2 * i + 1 ∨ j = 2 * i + 2) (hm : ∀ k, k = 2 * i + 1 ∨ k = 2 * i + 2 → k < n → lt (gt l k) (gt l j) = false) (hs : lt (gt l j) (gt l i) = true) : Dn lt (sw l i j) n lo j := by
  have hf := h.from_
  have hi : i < l.length := by omega
  have hj' : j < l.length := by omega
  have hji : (j - 1) / 2 = i := by omega
  refine ⟨by omega, fun k h1 h2 h3 h4 => ?_, fun _ k h1 h2 h3 _ => ?_⟩
  · rw [gt_sw hi hj', gt_sw hi hj']
    by_cases e1 : k = j
    · subst e1
      rw [if_pos rfl, if_neg (by omega), if_pos hji]
      exact hO.asym _ _ hs
    · rw [if_neg e1]
      by_cases e2 : k = i
      · subst e2
        rw [if_pos rfl, if_neg (by omega), if_neg (by omega)]
        exact h.over (by omega) j (by omega) hjn hji h3
      · rw [if_neg e2, if_neg h4]
        by_cases e3 : (k - 1) / 2 = i
        · rw [if_pos e3]; exact hm k (by omega) h2
        · rw [if_neg e3]; exact h.all k h1 h2 h3 e3
  · rw [gt_sw hi hj', gt_sw hi hj', if_neg (by omega), if_neg (by omega), if_neg (by omega), if_pos hji]
    have := h.all k h1 h2 (by omega) (by omega)
    rw [h3] at this
    exact this
/-- A step of up: all in order but j against its parent. -/
structure Up (lt : α → α → Bool) (l : List α) (j : Nat) : Prop where
  all : ∀ k, 0 < k → k < l.length → k ≠ j → lt (gt l k) (gt l ((k - 1) / 2)) = false
  over : 0 < j → ∀ k, 0 < k → k < l.length → (k - 1) / 2 = j → lt (gt l k) (gt l ((j - 1) / 2)) = false
theorem gt_append_left {l r : List α} {k : Nat} (h : k < l.length) : gt (l ++ r) k = gt l k := by simp [gt, List.getD_eq_getElem?_getD, List.getElem?_append_left h]
theorem Up.start {l : List α} {a : α} (h : Heap lt l) : Up lt (l ++ [a]) l.length := by
  refine ⟨fun k h1 h2 h3 => ?_, fun _ k h1 h2 h3 => ?_⟩
  · simp only [List.length_append, List.length_singleton] at h2
    rw [gt_append_left (by omega), gt_append_left (by omega)]
    exact h k h1 (by omega) (by omega)
  · simp only [List.length_append, List.length_singleton] at h2; omega
theorem Up.top {l : List α} (h : Up lt l 0) : Heap lt l := fun k h1 h2 _ => h.all k h1 h2 (by omega)
theorem Up.stop {l : List α} {j : Nat} (h : Up lt l j) (hs : lt (gt l j) (gt l ((j - 1) / 2)) = false) : Heap lt l := fun k h1 h2 _ => by
  by_cases e : k = j
  · subst e; exact hs
  · exact h.all k h1 h2 e
theorem Up.next (hO : Ord lt) {l : List α} {j : Nat} (h : Up lt l j) (h0 : 0 < j) (hj : j < l.length) (hs : lt (gt l j) (gt l ((j - 1) / 2)) = true) : Up lt (sw l ((j - 1) / 2) j) ((j - 1) / 2) := by
  have hi : (j - 1) / 2 < l.length := by omega
  refine ⟨fun k h1 h2 h3 => ?_, fun hp k h1 h2 h3 => ?_⟩
  · rw [sw_length] at h2
    rw [gt_sw hi hj, gt_sw hi hj]
    by_cases e1 : k = j
    · subst e1
      rw [if_pos rfl, if_neg (by omega), if_pos rfl]
      exact hO.asym _ _ hs
    · rw [if_neg e1, if_neg h3]
      by_cases e2 : (k - 1) / 2 = j
      · rw [if_pos e2]; exact h.over h0 k h1 h2 e2
      · rw [if_neg e2]
        by_cases e3 : (k - 1) / 2 = (j - 1) / 2
        · rw [if_pos e3]
          have := h.all k h1 h2 e1
          rw [e3] at this
          exact hO.trans _ _ _ (hO.asym _ _ hs) this
        · rw [if_neg e3]; exact h.all k h1 h2 e1
  · rw [sw_length] at h2
    rw [gt_sw hi hj, gt_sw hi hj]
    have hup := h.all ((j - 1) / 2) hp hi (by omega)
    rw [if_neg (by omega : ¬ ((j - 1) / 2 - 1) / 2 = j), if_neg (by omega : ¬ ((j - 1) / 2 - 1) / 2 = (j - 1) / 2)]
    by_cases e1 : k = j
    · subst e1; rw [if_pos rfl]; exact hup
    · rw [if_neg e1, if_neg (by omega)]
      have := h.all k h1 h2 e1
      rw [h3] at this
      exact hO.trans _ _ _ hup this
theorem Heap.least (hO : Ord lt) (hr : ∀ a, lt a a = false) {l : List α} (h : Heap lt l) : ∀ k, k < l.length → lt (gt l k) (gt l 0) = false := by
  intro k
  induction k using Nat.strongRecOn with
  | _ k ih =>
    intro hk
    by_cases h0 : k = 0
    · subst h0; exact hr _
    · exact hO.trans _ _ _ (ih ((k - 1) / 2) (by omega) (by omega)) (h k (by omega) hk (by omega))
/-- The head and the last change places; then all are in order among the first, but at the head. -/
theorem Heap.pop {l : List α} (h : Heap lt l) (h0 : 0 < l.length) : HpF lt (sw l 0 (l.length - 1)) (l.length - 1) 1 := fun k h1 h2 h3 => by
  rw [gt_sw h0 (by omega), gt_sw h0 (by omega), if_neg (by omega), if_neg (by omega), if_neg (by omega), if_neg (by omega)]
  exact h k h1 (by omega) (by omega)
theorem HpF.take {l : List α} {n : Nat} (h : HpF lt l n 0) (hn : n ≤ l.length) : Heap lt (l.take n) := fun k h1 h2 _ => by
  rw [List.length_take, Nat.min_eq_left hn] at h2
  have e : ∀ m, m < n → gt (l.take n) m = gt l m := fun m hm => by simp [gt, List.getD_eq_getElem?_getD, hm]
  rw [e k h2, e _ (by omega)]
  exact h k h1 h2 (by omega)
theorem HpF.leafs {l : List α} {n : Nat} : HpF lt l n (n / 2) := fun k h1 h2 h3 => by omega
end
end Go.Hp
