/- An argument of unsigned 64-bit numbers. -/
import Derived.Test.YtpilffakhkagjaaPtL
namespace Go.Pt
open Go Go.RowKit Go.ChangeShapes
/-- The numbers of an argument. -/
def NumsIn (S : Mem) (l : Sl) : Prop := ∀ i : Nat, i < l.n → ∃ b o z, l.p = some (b, o) ∧ S.cell b (o + i) = some (.int .u64 z) ∧ 0 ≤ z ∧ z ≤ 18446744073709551615
theorem NumsIn.keep {S S' : Mem} {l : Sl} (h : NumsIn S l) (hk : Keeps S S' []) : NumsIn S' l := fun i hi => by
  obtain ⟨b, o, z, h1, h2, h3⟩ := h i hi
  obtain ⟨k, h4, h5⟩ := cell_e h2
  exact ⟨b, o, z, h1, by rw [cell_of (hk.get h4 (by simp))]; exact h5, h3⟩
theorem open_nums {H : Type} {enc : TypeId × Value → H} {P : Program} {W : World} {base bs : Nat} {spare : Nat → Bool} {held : Bool} {r : Reach} {t e : TypeId} {v : Value} {d : DataW H} {ps : List MemPlace}
    (ht : P.underlying t = some (.slice e)) (he : P.underlying e = some (.int .u64)) (hc : P.cellsOf e = 1) (hval : Value.okWide P W r bs t v) (h : DataW.Trod enc P W base spare held t v d ps) : ∃ l : Sl, v = eL l ∧ NumsIn (memOf W) l ∧ l.n ≤ maxLen := by
  obtain ⟨fuel, hf⟩ := h
  rcases open_ints ht he hc hf with ⟨h0, _⟩ | ⟨a, len, cap, zs, h0, _, hl, hm, hz, _, hcell, hw⟩
  · refine ⟨⟨none, 0, 0⟩, ?_, fun i hi => by simp at hi, by simp⟩
    cases v <;> simp_all [Value.cells, eL, adr, Value.okWide, Cell.okWide, Cell.ok]
  · have hv : v = .slice (some a) len cap := by
      cases v <;> simp_all [Value.cells, Value.okWide, Cell.okWide, Cell.ok]
    subst hv
    have hval' : a.spot = none := by
      simp only [Value.okWide, ht, Cell.okWide, Cell.ok] at hval
      exact hval.2.2.2.1
    obtain ⟨b, o, sp⟩ := a
    simp only at hval'
    subst hval'
    have hln : len ≤ zs.length := by rw [hz]; split <;> omega
    refine ⟨⟨some (b, o), len, cap⟩, rfl, fun i hi => ?_, by simp only; omega⟩
    refine ⟨b, o, zs.getD i 0, rfl, ?_, ?_⟩
    · have := hcell i (by simp only at hi; omega)
      have e : (⟨b, o, none⟩ : Addr).add i = ⟨b, o + i, none⟩ := by unfold Addr.add; split <;> simp_all
      rw [e] at this
      exact memOf_cell this
    · have hi' : i < zs.length := by simp only at hi; omega
      exact bounds_u64 (hw _ (by rw [List.getD, List.getElem?_eq_getElem hi']; exact List.getElem_mem hi'))
end Go.Pt
