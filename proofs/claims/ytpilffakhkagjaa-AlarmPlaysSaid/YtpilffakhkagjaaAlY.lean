/- AlarmPlays' argument: a slice of acts, opened. -/
import Derived.Test.YtpilffakhkagjaaAlX
import Derived.Deep.Slices
import Derived.ChangeArms
namespace Go.Proofs.Ytpilffakhkagjaa
open Go Go.Pt Go.RowKit Go.ChangeShapes Go.Deep
theorem part_of_cells {S : Mem} {b x n : Nat} {vs : List Value} (hn : 0 < n) (hl : vs.length = n) (h : ∀ k, k < n → S.cell b (x + k) = vs[k]?) : S.part b x n = some vs := by
  have h0 := h 0 hn
  rw [List.getElem?_eq_getElem (by omega)] at h0
  obtain ⟨q, hq, _⟩ := cell_e h0
  have hlast := h (n - 1) (by omega)
  rw [List.getElem?_eq_getElem (by omega), cell_of hq] at hlast
  have hlt := nthL_lt hlast
  rw [part_of hq, lpart_i (by omega)]
  congr 1
  apply List.ext_getElem?
  intro k
  rw [List.getElem?_take]
  by_cases hk : k < n
  · have := h k hk
    rw [cell_of hq, nthL_eq] at this
    rw [if_pos hk, List.getElem?_drop, this]
  · rw [if_neg hk, List.getElem?_eq_none (by omega)]
theorem one_int {l : List Value} {k : IntKind} {m : Int} {i : Nat} (h : (l.drop i).take 1 = [.int k m]) : l[i]? = some (.int k m) := by
  have := congrArg (fun x => x[0]?) h
  simpa [List.getElem?_take] using this
set_option maxRecDepth 100000 in
theorem open_acts {H : Type} {enc : TypeId × Value → H} {W : World} {base bs : Nat} {spare : Nat → Bool} {held : Bool} {r : Reach} {v : Value} {d : DataW H} {ps : List MemPlace}
    (hval : Value.okWide Try.prog W r bs 97 v) (h : DataW.Trod enc Try.prog W base spare held 97 v d ps) : ∃ l : Sl, v = eL l ∧ ActsIn (memOf W) l := by
  obtain ⟨fuel, hf⟩ := h
  have hc : Try.prog.cellsOf 103 = 4 := by kernel_rfl
  rcases open_slice Try.underlying97 hf with ⟨h0, _⟩ | ⟨a, len, cap, m, n, D, Pl, h0, _, hle, hm, hmm, _, hx⟩
  · refine ⟨⟨none, 0, 0⟩, ?_, fun i hi => by simp at hi⟩
    have ht := Try.underlying97
    cases v <;> simp_all [Value.cells, eL, adr, Value.okWide, Cell.okWide, Cell.ok]
  · have ht := Try.underlying97
    have hv : v = .slice (some a) len cap := by
      cases v <;> simp_all [Value.cells, Value.okWide, Cell.okWide, Cell.ok]
    subst hv
    have hval' : a.spot = none := by
      simp only [Value.okWide, ht, Cell.okWide, Cell.ok] at hval
      exact hval.2.2.2.1
    obtain ⟨b, o, sp⟩ := a
    simp only at hval'
    subst hval'
    refine ⟨⟨some (b, o), len, cap⟩, rfl, fun i hi => ?_⟩
    simp only at hi
    have him : i < m := by rw [hmm]; split <;> omega
    obtain ⟨cs, h1, h2⟩ := hx i him
    rw [hc] at h1
    obtain ⟨_, hlen, hcell⟩ := World.cells?_some h1
    obtain ⟨xs, n', _, _, _, hxs, hfld⟩ := DataW.trod_struct Try.underlying103 h2
    have g := fun (j : Nat) (hj : j < 4) => List.getElem?_eq_getElem (l := xs) (i := j) (by rw [hxs]; exact hj)
    have c1 : Try.prog.cellsOf 5 = 1 := by kernel_rfl
    have c2 : Try.prog.cellsOf 3 = 1 := by kernel_rfl
    have c3 : Try.prog.cellsOf 26 = 1 := by kernel_rfl
    have f0 : DataW.trod enc Try.prog W base spare held n' 5 ((cs.drop 0).take (Try.prog.cellsOf 5)) = some _ := (hfld 0 _ rfl).trans (g 0 (by decide))
    rw [c1] at f0
    have f1 : DataW.trod enc Try.prog W base spare held n' 3 ((cs.drop 1).take (Try.prog.cellsOf 3)) = some _ := (hfld 1 _ rfl).trans (g 1 (by decide))
    rw [c2] at f1
    have f2 : DataW.trod enc Try.prog W base spare held n' 3 ((cs.drop 2).take (Try.prog.cellsOf 3)) = some _ := (hfld 2 _ rfl).trans (g 2 (by decide))
    rw [c2] at f2
    have f3 : DataW.trod enc Try.prog W base spare held n' 26 ((cs.drop 3).take (Try.prog.cellsOf 26)) = some _ := (hfld 3 _ rfl).trans (g 3 (by decide))
    rw [c3] at f3
    obtain ⟨k, e0, _, w0⟩ := DataW.trod_int Try.underlying5 f0
    obtain ⟨vm, e1, _, w1⟩ := DataW.trod_int Try.underlying3 f1
    obtain ⟨st, e2, _, w2⟩ := DataW.trod_int Try.underlying3 f2
    obtain ⟨ta, e3, _, w3⟩ := DataW.trod_int Try.underlying26 f3
    refine ⟨b, o, k, vm, st, ta, rfl, part_of_cells (by decide) rfl fun q hq => ?_, bounds_u8 w0, bounds_u64 w3⟩
    have hq' := hcell q hq
    have ea : ((⟨b, o, none⟩ : Addr).add (i * 4)).add q = ⟨b, o + i * 4 + q, none⟩ := by
      unfold Addr.add
      by_cases e1 : i * 4 = 0
      · by_cases e2 : q = 0
        · simp [e1, e2]
        · simp [e1, e2]
      · by_cases e2 : q = 0
        · simp [e1, e2]
        · simp [e1, e2]
    rw [ea] at hq'
    have hcs : cs[q]? = [Value.int .u8 k, .int .i64 vm, .int .i64 st, .int .u64 ta][q]? := by
      have : q = 0 ∨ q = 1 ∨ q = 2 ∨ q = 3 := by omega
      rcases this with rfl | rfl | rfl | rfl
      · exact one_int e0
      · exact one_int e1
      · exact one_int e2
      · exact one_int e3
    rw [hcs, List.getElem?_eq_getElem (show q < [Value.int .u8 k, .int .i64 vm, .int .i64 st, .int .u64 ta].length from hq)] at hq'
    rw [List.getElem?_eq_getElem (show q < [Value.int .u8 k, .int .i64 vm, .int .i64 st, .int .u64 ta].length from hq)]
    exact memOf_cell hq'
end Go.Proofs.Ytpilffakhkagjaa
