/- slices.SortFunc over alarms, by the kit's contract. -/
import Derived.Test.YtpilffakhkagjaaAlS
import Derived.Test.YtpilffakhkagjaaSrt
import Derived.Shelf.SlSortCmp.WholeK
namespace Go.Proofs.Ytpilffakhkagjaa
open Go Go.Pt Go.Hp Go.RowKit Go.Sort Go.Lib Go.Shelf
theorem ltOf_cfA (x y : Al) : ltOf cfA x y = bf x y := by
  unfold ltOf cfA
  cases e1 : bf x y
  · cases e2 : bf y x <;> simp
  · simp
theorem swoA : SWO (ltOf cfA) where
  irrefl x := by rw [ltOf_cfA]; exact bf_irr x
  trans x y z h1 h2 := by rw [ltOf_cfA] at *; rw [bf_iff] at *; omega
  ntrans x y z h1 h2 := by rw [ltOf_cfA] at *; rw [bf_no] at *; omega
theorem flatK_fl (d : Array Al) : flatK ce 3 d = (fl d.toList).toArray := by
  have hl := fl_length d.toList
  rw [Array.length_toList] at hl
  refine ext_get! (by simp [hl]) fun t ht => ?_
  have ht' : t < d.size * 3 := by simpa using ht
  rw [get_flatK _ _ _ t ht']
  have h1 : t / 3 < d.size := by omega
  have h2 := fl_cell (l := d.toList) (j := []) (i := t / 3) (k := t % 3) (by simpa using h1) (by omega)
  rw [show t / 3 * 3 + t % 3 = t by omega, List.append_nil, nthL_eq, nthL_eq] at h2
  have h3 : gt d.toList (t / 3) = d[t / 3]! := by simp [gt, h1]
  rw [h3] at h2
  have h4 : (fl d.toList).toArray[t]! = ((fl d.toList)[t]?).getD default := by
    have hb : t < (fl d.toList).length := by rw [fl_length, Array.length_toList]; omega
    rw [List.getElem?_eq_getElem hb, Option.getD_some, getElem!_pos _ _ (by simpa using hb)]; simp
  have h5 : (ce d[t / 3]!)[t % 3]! = ((ce d[t / 3]!)[t % 3]?).getD default := by simp
  rw [h4, h5, h2]
section
variable {S : Mem} {c : Nat} {t : TypeId} {j : List Value} {l : List Al} {cap : Nat}
theorem putCells_fl (l l' : List Al) (j : List Value) (h : l'.length = l.length) : putCells id 0 (fl l').toArray (fl l ++ j).toArray = (fl l' ++ j).toArray := by
  have h1 := fl_length l
  have h2 := fl_length l'
  apply Array.ext_getElem?
  intro k
  simp only [putCells, Array.getElem?_mapIdx, List.getElem?_toArray, List.getElem?_append, List.size_toArray]
  by_cases hk : k < (fl l).length
  · rw [if_pos hk, if_pos (by omega), List.getElem?_eq_getElem hk, List.getElem?_eq_getElem (by omega), Option.map_some, if_pos (by omega)]
    simp [show k < (fl l').length by omega]
  · rw [if_neg hk, if_neg (by omega), show (fl l').length = (fl l).length by omega]
    cases j[k - (fl l).length]? with
    | none => rfl
    | some v => rw [Option.map_some, if_neg (by omega)]
theorem sort_spec (hl : l.length < 100000) {Q : Mem → Prop} (hQ : ∀ l', l'.Perm l → Rises l' → Q (wi S c t j l')) : slices_SortFunc_alarm_Alarm_alarm_Alarm (wi S c t j l) ⟨some (c, 0), l.length, cap⟩ (.func (.func 68) #[] #[]) Q := by
  intro w hS
  have hc := hS.mem c _ wi_c
  have hlt : c < w.heap.size := hS.lt wi_c
  have hH : HoldsK ce 3 w c 0 l.toArray := by
    intro i hi
    rw [flatK_fl] at hi ⊢
    simp only [List.size_toArray, Nat.zero_add] at hi ⊢
    have h1 : i < (fl l ++ j).length := by rw [List.length_append]; omega
    constructor
    · simp only [World.cell?, hc]
      simp [hi, List.getElem?_append_left hi]
    · simp [World.frozen?, hc]
  have hcon := AnyQ.slices_SortFunc Try.sortAl 3 (fun w => Try.isAgg95 w) (fun w => Try.sizeOf95 w) ce ce_length (fun x v hv => List.all_eq_true.1 (ce_one x) v hv) cfA swoA 68 #[] c 0 cap l.toArray w
    (enters_of Try.func68 (by kernel_rfl) rfl) (fun _ _ _ _ x y => cmp_walk x y _) hH hlt (by simp; omega)
  refine hcon.mono ?_
  rintro e w' ⟨rfl, d', n, os, hp, hs, rfl⟩
  have hsz : d'.size = l.length := by simpa using hp.1
  have hperm : d'.toList.Perm l := by
    have := hp.2.2
    have e1 : d'.extract 0 l.toArray.size = d' := by rw [List.size_toArray, ← hsz]; simp
    rw [e1] at this
    simpa using this
  have hri : Rises d'.toList := by
    unfold Rises
    rw [List.pairwise_iff_getElem]
    intro i k hi hk hik
    have := hs i k (by omega) hik (by simp only [List.size_toArray, Array.length_toList] at *; omega)
    rw [ltOf_cfA] at this
    simp only [Array.length_toList] at hi hk
    rw [getElem!_pos d' k hk, getElem!_pos d' i hi] at this
    simpa using this
  have hlen' : d'.toList.length = l.length := by simpa using hsz
  have hheap : ∀ k, k < w.heap.size → (sortWorldK ce 3 w c 0 n d' os).heap[k]? = if k = c then some (.cells (fl d'.toList ++ j).toArray t (0, 0)) else w.heap[k]? := by
    intro k hk
    have ha : (Go.Sort.ahead w n).heap = w.heap := rfl
    simp only [sortWorldK, grow, putRowK, putRow, mapBlock, ha]
    rw [Array.getElem?_append, if_pos (by simpa using hk), Array.getElem?_modify]
    by_cases e : c = k
    · subst e
      rw [if_pos rfl, if_pos rfl, hc, Option.map_some, flatK_fl]
      simp only [onCells, putCells_fl _ _ _ hlen']
    · rw [if_neg e, if_neg (fun h => e h.symm)]
  refine ⟨.tuple #[], wi S c t j d'.toList, rfl, ⟨rfl, hQ _ hperm hri⟩, ⟨rfl, rfl, rfl, ?_, ?_, ?_, by simp, by simp, ?_, ?_⟩⟩
  · simp [sortWorldK, grow, putRowK, putRow, mapBlock]
  · intro k hk hn
    rw [hheap k hk, if_neg]
    intro e
    subst e
    rw [wi_c] at hn; cases hn
  · intro b k hb
    by_cases e : b = c
    · subst e
      rw [wi_c] at hb; cases hb
      rw [hheap b hlt, if_pos rfl]
    · have hb' : wi S c t j l b = some k := by
        unfold wi at hb ⊢
        rw [set_ne e] at hb ⊢; exact hb
      rw [hheap b (hS.lt hb'), if_neg e]
      exact hS.mem b k hb'
  · intro b h1 h2
    exfalso
    by_cases e : b = c
    · subst e; rw [wi_c] at h1; cases h1
    · unfold wi at h1 h2
      rw [set_ne e] at h1 h2
      exact h2 h1
  · intro b h1
    by_cases e : b = c
    · subst e; rw [wi_c]; simp
    · unfold wi at h1 ⊢
      rw [set_ne e] at h1 ⊢
      exact h1
end
end Go.Proofs.Ytpilffakhkagjaa
