/- AlarmPlays: the table, and the alarms that it stands for. No program in sight. -/
import Derived.Test.YtpilffakhkagjaaAlV
namespace Go.Proofs.Ytpilffakhkagjaa
open Go Go.Pt Go.Hp
def onL (f : Nat → Bool) : List Value := (List.range 18).map fun k => .bool (f k)
def atL (g : Nat → Int) : List Value := (List.range 18).map fun k => .int .u64 (g k)
def al1 (g : Nat → Int) (k : Nat) : Al := ⟨g k, ((k / 3 : Nat) : Int), ((k % 3 : Nat) : Int)⟩
def tab (f : Nat → Bool) (g : Nat → Int) : List Al := ((List.range 18).filter f).map (al1 g)
theorem onL_length (f : Nat → Bool) : (onL f).length = 18 := by simp [onL]
theorem atL_length (g : Nat → Int) : (atL g).length = 18 := by simp [atL]
theorem onL_get {f : Nat → Bool} {k : Nat} (h : k < 18) : nthL (onL f) k = some (.bool (f k)) := by rw [nthL_eq]; simp [onL, h]
theorem atL_get {g : Nat → Int} {k : Nat} (h : k < 18) : nthL (atL g) k = some (.int .u64 (g k)) := by rw [nthL_eq]; simp [atL, h]
def up {α : Type} (f : Nat → α) (k : Nat) (v : α) : Nat → α := fun x => if x = k then v else f x
theorem onL_set {f : Nat → Bool} {k : Nat} {v : Bool} (h : k < 18) : spl (onL f) k [.bool v] = onL (up f k v) := by
  apply List.ext_getElem?
  intro x
  rw [spl_get (by rw [onL_length]; simp; omega)]
  simp only [List.length_singleton]
  by_cases hx : x = k
  · subst hx
    rw [if_pos (by omega)]; simp [onL, h, up]
  · rw [if_neg (by omega)]
    simp only [onL, List.getElem?_map]
    by_cases h18 : x < 18
    · simp [List.getElem?_range h18, up, hx]
    · rw [List.getElem?_eq_none (by simp; omega)]; rfl
theorem atL_set {f : Nat → Int} {k : Nat} {v : Int} (h : k < 18) : spl (atL f) k [.int .u64 v] = atL (up f k v) := by
  apply List.ext_getElem?
  intro x
  rw [spl_get (by rw [atL_length]; simp; omega)]
  simp only [List.length_singleton]
  by_cases hx : x = k
  · subst hx
    rw [if_pos (by omega)]; simp [atL, h, up]
  · rw [if_neg (by omega)]
    simp only [atL, List.getElem?_map]
    by_cases h18 : x < 18
    · simp [List.getElem?_range h18, up, hx]
    · rw [List.getElem?_eq_none (by simp; omega)]; rfl
theorem onL_set3 {f : Nat → Bool} {v : Nat} (h : v < 6) : spl (onL f) (v * 3) [.bool false, .bool false, .bool false] = onL (fun k => f k && ! decide (k / 3 = v)) := by
  apply List.ext_getElem?
  intro x
  rw [spl_get (by rw [onL_length]; simp; omega)]
  simp only [List.length_cons, List.length_nil]
  by_cases hx : v * 3 ≤ x ∧ x < v * 3 + 3
  · rw [if_pos hx]
    have hv : x / 3 = v := by omega
    have h18 : x < 18 := by omega
    have : x - v * 3 = 0 ∨ x - v * 3 = 1 ∨ x - v * 3 = 2 := by omega
    rcases this with e | e | e <;> rw [e] <;> simp [onL, List.getElem?_range h18, hv]
  · rw [if_neg hx]
    have hv : ¬ x / 3 = v := by omega
    simp only [onL, List.getElem?_map]
    by_cases h18 : x < 18
    · simp [List.getElem?_range h18, hv]
    · rw [List.getElem?_eq_none (by simp; omega)]; rfl
theorem onL_congr {f g : Nat → Bool} (h : ∀ k, k < 18 → f k = g k) : onL f = onL g := by
  unfold onL
  exact List.map_congr_left fun k hk => by rw [h k (by simpa using hk)]
theorem atL_congr {f g : Nat → Int} (h : ∀ k, k < 18 → f k = g k) : atL f = atL g := by
  unfold atL
  exact List.map_congr_left fun k hk => by rw [h k (by simpa using hk)]
theorem mem_tab {f : Nat → Bool} {g : Nat → Int} {a : Al} : a ∈ tab f g ↔ ∃ k, k < 18 ∧ f k = true ∧ a = al1 g k := by
  simp only [tab, List.mem_map, List.mem_filter, List.mem_range]
  constructor
  · rintro ⟨k, ⟨h1, h2⟩, rfl⟩; exact ⟨k, h1, h2, rfl⟩
  · rintro ⟨k, h1, h2, rfl⟩; exact ⟨k, ⟨h1, h2⟩, rfl⟩
theorem al1_inj {g : Nat → Int} {k m : Nat} (h1 : (al1 g k).vm = (al1 g m).vm) (h2 : (al1 g k).seat = (al1 g m).seat) : k = m := by
  simp only [al1] at h1 h2; omega
theorem tab_nodup (f : Nat → Bool) (g : Nat → Int) : (tab f g).Nodup := by
  refine List.Pairwise.map _ ?_ (List.nodup_range.filter f)
  intro a b hab e
  exact hab (al1_inj (g := g) (by rw [e]) (by rw [e]))
/-- Two lists without doubles that hold the same are one another's permutations. -/
theorem perm_of_mem {a b : List Al} (ha : a.Nodup) (hb : b.Nodup) (h : ∀ x, x ∈ a ↔ x ∈ b) : a.Perm b := (List.perm_ext_iff_of_nodup ha hb).2 h
theorem tab_filter {f : Nat → Bool} {g : Nat → Int} {q : Al → Bool} {f' : Nat → Bool} (h : ∀ k, k < 18 → f' k = (f k && q (al1 g k))) : ((tab f g).filter q).Perm (tab f' g) := by
  refine perm_of_mem ((tab_nodup f g).filter q) (tab_nodup f' g) fun x => ?_
  rw [List.mem_filter, mem_tab, mem_tab]
  constructor
  · rintro ⟨⟨k, h1, h2, rfl⟩, h3⟩
    exact ⟨k, h1, by rw [h k h1, h2, h3]; rfl, rfl⟩
  · rintro ⟨k, h1, h2, rfl⟩
    rw [h k h1, Bool.and_eq_true] at h2
    exact ⟨⟨k, h1, h2.1, rfl⟩, h2.2⟩
theorem notkey {a b : Prop} [Decidable a] [Decidable b] : (! (decide a && decide b)) = true ↔ ¬ (a ∧ b) := by
  by_cases h1 : a <;> by_cases h2 : b <;> simp [h1, h2]
theorem tab_set {f : Nat → Bool} {g : Nat → Int} {v s : Nat} {t : Int} (hv : v < 6) (hs : s < 3) :
    ((⟨t, (v : Int), (s : Int)⟩ : Al) :: (tab f g).filter fun a => ! (decide (a.vm = (v : Int)) && decide (a.seat = (s : Int)))).Perm (tab (up f (v * 3 + s) true) (up g (v * 3 + s) t)) := by
  refine perm_of_mem (List.nodup_cons.2 ⟨?_, (tab_nodup f g).filter _⟩) (tab_nodup _ _) fun x => ?_
  · simp
  · rw [List.mem_cons, List.mem_filter, mem_tab, mem_tab]
    constructor
    · rintro (rfl | ⟨⟨k, h1, h2, rfl⟩, h3⟩)
      · refine ⟨v * 3 + s, by omega, by simp [up], ?_⟩
        simp only [al1, up, if_pos, Al.mk.injEq]
        refine ⟨trivial, by omega, by omega⟩
      · have hne : k ≠ v * 3 + s := by
          rintro rfl
          rw [notkey] at h3
          simp only [al1] at h3
          omega
        exact ⟨k, h1, by simp only [up, if_neg hne, h2], by simp only [al1, up, if_neg hne]⟩
    · rintro ⟨k, h1, h2, rfl⟩
      by_cases e : k = v * 3 + s
      · left
        subst e
        simp only [al1, up, if_pos, Al.mk.injEq]
        refine ⟨trivial, by omega, by omega⟩
      · right
        simp only [up, if_neg e] at h2
        refine ⟨⟨k, h1, h2, by simp only [al1, up, if_neg e]⟩, ?_⟩
        rw [notkey]
        simp only [al1]
        omega
theorem tab_map (f : Nat → Bool) (g : Nat → Int) (d : Int) : (tab f g).map (shf d) = tab f (fun k => later d (g k)) := by
  simp only [tab, List.map_map]; rfl
def cnt (f : Nat → Bool) (n : Nat) : Nat := ((List.range n).filter f).length
theorem cnt_succ (f : Nat → Bool) (n : Nat) : cnt f (n + 1) = cnt f n + (if f n = true then 1 else 0) := by
  simp only [cnt, List.range_succ, List.filter_append, List.length_append]
  congr 1
  by_cases h : f n = true <;> simp [h]
theorem cnt_le (f : Nat → Bool) (n : Nat) : cnt f n ≤ n := by
  have := List.length_filter_le f (List.range n)
  rw [List.length_range] at this; exact this
theorem tab_length (f : Nat → Bool) (g : Nat → Int) : (tab f g).length = cnt f 18 := by simp [tab, cnt]
/-- In order, and none twice: each is ahead of the next. -/
theorem rises_strict {l : List Al} (hr : Rises l) (hn : l.Nodup) {i j : Nat} (hij : i < j) (hj : j < l.length) : bf (gt l i) (gt l j) = true := by
  have h1 := List.pairwise_iff_getElem.1 hr i j (by omega) hj hij
  have h2 := List.pairwise_iff_getElem.1 hn i j (by omega) hj hij
  rw [gt_eq (by omega), gt_eq hj]
  cases e : bf l[i] l[j] with
  | true => rfl
  | false => exact absurd (bf_eq e h1) h2
/-- The table behind the first so many that were told. -/
def fAfter (f : Nat → Bool) (out : List Al) (n : Nat) : Nat → Bool := fun k => f k && ! (out.take n).any fun a => decide (a.vm = ((k / 3 : Nat) : Int)) && decide (a.seat = ((k % 3 : Nat) : Int))
theorem fAfter_zero (f : Nat → Bool) (out : List Al) : fAfter f out 0 = f := by funext k; simp [fAfter]
theorem fAfter_succ {f : Nat → Bool} {out : List Al} {n v s : Nat} (hn : n < out.length) (hv : (gt out n).vm = (v : Int)) (hs : (gt out n).seat = (s : Int)) (hs3 : s < 3) : ∀ k, fAfter f out (n + 1) k = up (fAfter f out n) (v * 3 + s) false k := by
  intro k
  simp only [fAfter, up]
  rw [List.take_succ_eq_append_getElem hn, List.any_append, ← gt_eq hn]
  simp only [List.any_cons, List.any_nil, Bool.or_false, hv, hs]
  by_cases e : k = v * 3 + s
  · rw [if_pos e]
    have h1 : (v : Int) = ((k / 3 : Nat) : Int) := by omega
    have h2 : (s : Int) = ((k % 3 : Nat) : Int) := by omega
    simp [← h1, ← h2]
  · rw [if_neg e]
    have : (decide ((v : Int) = ((k / 3 : Nat) : Int)) && decide ((s : Int) = ((k % 3 : Nat) : Int))) = false := by
      simp only [Bool.and_eq_false_imp, decide_eq_true_eq, decide_eq_false_iff_not]
      omega
    rw [this, Bool.or_false]
theorem told_split {f : Nat → Bool} {g : Nat → Int} {out l' : List Al} {now : Int} (h : (tab f g).Perm (out ++ l')) (h1 : ∀ x ∈ out, x.tm ≤ now) (h2 : ∀ x ∈ l', now < x.tm) :
    (∀ k, k < 18 → fAfter f out out.length k = (f k && decide (now < g k))) ∧ l'.Perm (tab (fun k => f k && decide (now < g k)) g) := by
  have hmem : ∀ x, x ∈ tab f g ↔ x ∈ out ∨ x ∈ l' := fun x => by rw [h.mem_iff, List.mem_append]
  have hnd : (out ++ l').Nodup := h.nodup_iff.1 (tab_nodup f g)
  have hl' : l'.Nodup := (List.nodup_append.1 hnd).2.1
  constructor
  · intro k hk
    simp only [fAfter, List.take_length]
    cases hf : f k with
    | false => rfl
    | true =>
      simp only [Bool.true_and]
      have hm := (hmem (al1 g k)).1 (mem_tab.2 ⟨k, hk, hf, rfl⟩)
      by_cases hlt : now < g k
      · rw [decide_eq_true hlt]
        simp only [Bool.not_eq_true', List.any_eq_false, Bool.and_eq_true, decide_eq_true_eq, not_and]
        intro x hx e1 e2
        obtain ⟨m, hm1, hm2, rfl⟩ := mem_tab.1 ((hmem x).2 (.inl hx))
        have := h1 _ hx
        have : m = k := by simp only [al1] at e1 e2; omega
        subst this
        simp only [al1] at *; omega
      · rw [decide_eq_false hlt]
        simp only [Bool.not_eq_false', List.any_eq_true, Bool.and_eq_true, decide_eq_true_eq]
        rcases hm with hm | hm
        · exact ⟨_, hm, rfl, rfl⟩
        · exact absurd (h2 _ hm) hlt
  · refine perm_of_mem hl' (tab_nodup _ _) fun x => ?_
    rw [mem_tab]
    constructor
    · intro hx
      obtain ⟨k, h3, h4, rfl⟩ := mem_tab.1 ((hmem x).2 (.inr hx))
      exact ⟨k, h3, by rw [h4, Bool.true_and]; exact decide_eq_true (h2 _ hx), rfl⟩
    · rintro ⟨k, h3, h4, rfl⟩
      rw [Bool.and_eq_true, decide_eq_true_eq] at h4
      rcases (hmem (al1 g k)).1 (mem_tab.2 ⟨k, h3, h4.1, rfl⟩) with hx | hx
      · have := h1 _ hx
        simp only [al1] at this; omega
      · exact hx
end Go.Proofs.Ytpilffakhkagjaa
