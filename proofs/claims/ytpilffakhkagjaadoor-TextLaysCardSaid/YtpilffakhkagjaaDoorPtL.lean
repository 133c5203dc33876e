/- The engine, part L: from a call as the engine states it to a call as a row wants it; an argument of bytes. -/
import Derived.Test.YtpilffakhkagjaaDoorPtU
import Derived.ProofKit
import Derived.OpenShut
namespace Go.Pt
open Go Go.RowKit Go.ChangeShapes
/-- What the memory of a world holds. -/
def memOf (W : World) : Mem := fun b => match W.heap[b]? with
  | some (.cells c t fr) => some ⟨t, c.toList, fr⟩
  | _ => none
theorem memOf_st (W : World) : St W (memOf W) (memOf W) [] W := by
  refine ⟨rfl, rfl, rfl, Nat.le_refl _, fun _ _ _ => rfl, fun b k h => ?_, by simp, by simp, fun b h1 h2 => (h2 h1).elim, fun _ h => h⟩
  unfold memOf at h
  split at h
  · rename_i c t fr hh
    cases h
    simpa using hh
  · cases h
theorem memOf_cell {W : World} {b o : Nat} {v : Value} (h : W.cell? ⟨b, o, none⟩ = some v) : (memOf W).cell b o = some v := by
  unfold World.cell? at h
  unfold Mem.cell memOf
  split at h
  · rename_i c t fr hh
    simp only at hh
    simp only [Option.isSome_none, Bool.false_eq_true, if_false] at h
    rw [hh]
    simp only [nthL_eq]
    simpa using h
  · cases h
theorem calls_of_tr {P : Program} {f : FuncId} {args : List Value} {W : World} {u : Value} (h : Tr P f (memOf W) args (fun v S' => v = u ∧ Keeps (memOf W) S' [])) :
    Calls P f args.toArray W fun e W' => e = .returned u ∧ Below W.heap.size W W' := by
  refine (h W (memOf_st W)).mono ?_
  rintro e W' ⟨v, S', rfl, ⟨rfl, hk⟩, hS⟩
  refine ⟨rfl, hS.os, hS.tape, hS.output, hS.size, fun k hlt => ?_⟩
  cases hm : memOf W k with
  | none => exact hS.frame k hlt hm
  | some q =>
    have e1 := hS.mem k q (hk.get hm (by simp))
    have e2 := (memOf_st W).mem k q hm
    rw [e1, e2]
/-- The bytes of an argument. -/
def BytesIn (S : Mem) (l : Sl) : Prop := ∀ i : Nat, i < l.n → ∃ b o z, l.p = some (b, o) ∧ S.cell b (o + i) = some (.int .u8 z) ∧ 0 ≤ z ∧ z ≤ 255
theorem BytesIn.keep {S S' : Mem} {l : Sl} (h : BytesIn S l) (hk : Keeps S S' []) : BytesIn S' l := fun i hi => by
  obtain ⟨b, o, z, h1, h2, h3⟩ := h i hi
  obtain ⟨k, h4, h5⟩ := cell_e h2
  exact ⟨b, o, z, h1, by rw [cell_of (hk.get h4 (by simp))]; exact h5, h3⟩
theorem open_bytes {H : Type} {enc : TypeId × Value → H} {P : Program} {W : World} {base bs : Nat} {spare : Nat → Bool} {held : Bool} {r : Reach} {t e : TypeId} {v : Value} {d : DataW H} {ps : List MemPlace}
    (ht : P.underlying t = some (.slice e)) (he : P.underlying e = some (.int .u8)) (hc : P.cellsOf e = 1) (hval : Value.okWide P W r bs t v) (h : DataW.Trod enc P W base spare held t v d ps) : ∃ l : Sl, v = eL l ∧ BytesIn (memOf W) l ∧ l.n ≤ maxLen := by
  obtain ⟨fuel, hf⟩ := h
  rcases open_ints ht he hc hf with ⟨h0, _⟩ | ⟨a, len, cap, zs, h0, _, hl, hm, hz, _, hcell, hw⟩
  · refine ⟨⟨none, 0, 0⟩, ?_, fun i hi => by simp at hi, by simp⟩
    cases v <;> simp_all [Value.cells, eL, adr, Value.okWide, Cell.okWide, Cell.ok]
  · have hv : v = .slice (some a) len cap := by
      cases v <;> simp_all [Value.cells, Value.okWide, Cell.okWide, Cell.ok]
    subst hv
    have hval' : a.spot = none := by
      simp only [Value.okWide, ht, Cell.okWide, Cell.ok] at hval
      exact hval.2.2.2.1
    obtain ⟨b, o, sp⟩ := a
    simp only at hval'
    subst hval'
    have hln : len ≤ zs.length := by rw [hz]; split <;> omega
    refine ⟨⟨some (b, o), len, cap⟩, rfl, fun i hi => ?_, by simp only; omega⟩
    refine ⟨b, o, zs.getD i 0, rfl, ?_, ?_⟩
    · have := hcell i (by simp only at hi; omega)
      have e : (⟨b, o, none⟩ : Addr).add i = ⟨b, o + i, none⟩ := by unfold Addr.add; split <;> simp_all
      rw [e] at this
      exact memOf_cell this
    · have hi' : i < zs.length := by simp only at hi; omega
      exact bounds_u8 (hw _ (by rw [List.getD, List.getElem?_eq_getElem hi']; exact List.getElem_mem hi'))
end Go.Pt
