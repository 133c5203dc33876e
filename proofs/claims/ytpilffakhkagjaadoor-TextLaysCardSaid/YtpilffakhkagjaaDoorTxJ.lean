/- TextLists: the law's walk; an argument of bytes. -/
import Derived.Test.YtpilffakhkagjaaDoorTxI
import Derived.Test.YtpilffakhkagjaaDoorTxR
import Derived.Test.YtpilffakhkagjaaDoorPfC
namespace Go.Proofs.YtpilffakhkagjaaDoor
open Go Go.Pt Go.RowKit Go.Lib Go.Tx Go.ChangeShapes
theorem open_by {H : Type} {enc : TypeId × Value → H} {P : Program} {W : World} {base bs : Nat} {spare : Nat → Bool} {held : Bool} {r : Reach} {t e : TypeId} {v : Value} {d : DataW H} {ps : List MemPlace}
    (ht : P.underlying t = some (.slice e)) (he : P.underlying e = some (.int .u8)) (hc : P.cellsOf e = 1) (hval : Value.okWide P W r bs t v) (h : DataW.Trod enc P W base spare held t v d ps) : ∃ (l : Sl) (xs : List Int), v = eL l ∧ By (memOf W) l xs := by
  obtain ⟨fuel, hf⟩ := h
  rcases open_ints ht he hc hf with ⟨h0, _⟩ | ⟨a, len, cap, zs, h0, _, hl, hm, hz, _, hcell, hw⟩
  · refine ⟨⟨none, 0, 0⟩, [], ?_, ⟨rfl, Nat.le_refl _, by simp, .inl rfl⟩⟩
    cases v <;> simp_all [Value.cells, eL, adr, Value.okWide, Cell.okWide, Cell.ok]
  · have hv : v = .slice (some a) len cap := by
      cases v <;> simp_all [Value.cells, Value.okWide, Cell.okWide, Cell.ok]
    subst hv
    have hval' : a.spot = none ∧ len ≤ cap := by
      simp only [Value.okWide, ht, Cell.okWide, Cell.ok] at hval
      exact ⟨hval.2.2.2.1, hval.1⟩
    obtain ⟨b, o, sp⟩ := a
    simp only at hval'
    obtain ⟨hsp, hcap⟩ := hval'
    subst hsp
    have hln : len ≤ zs.length := by rw [hz]; split <;> omega
    refine ⟨⟨some (b, o), len, cap⟩, zs.take len, rfl, ⟨?_, hcap, fun x hx => bounds_u8 (hw _ (List.mem_of_mem_take hx)), .inr ⟨b, o, rfl, fun i hi => ?_⟩⟩⟩
    · simp only [List.length_take]; omega
    · have hi' : i < len := by simp only [List.length_take] at hi; omega
      have := hcell i (by omega)
      have e : (⟨b, o, none⟩ : Addr).add i = ⟨b, o + i, none⟩ := by unfold Addr.add; split <;> simp_all
      rw [e] at this
      have h2 := memOf_cell this
      rw [h2, List.getElem_take]
      rw [List.getD_eq_getElem?_getD, List.getElem?_eq_getElem (by omega)]; rfl
section
variable {S : Mem}
theorem linesC_get {xs : List Int} {m i : Nat} (h : i < m) : (linesC xs m)[i]? = some (.string (bt (tw (wAt xs i)))) := by
  simp [linesC, h]
theorem row_cell {S : Mem} {s : Sl} {l : List Value} (h : Row S 1 s l) {i : Nat} (hi : i < s.n) {v : Value} (hv : l[i]? = some v) : ∃ b, s.p = some (b, 0) ∧ S.cell b i = some v := by
  rcases h.lie with ⟨_, h2⟩ | ⟨b, k, h1, h2, _, h4, h5⟩
  · have := h.cap; omega
  · refine ⟨b, h1, ?_⟩
    rw [cell_of h2, nthL_eq]
    have : (k.cs.take (s.n * 1))[i]? = some v := by rw [h5]; exact hv
    rw [List.getElem?_take, if_pos (by omega)] at this
    exact this
set_option maxHeartbeats 1000000 in
theorem textLists_law {p : Sl} {xs : List Int} (hg : Gl S) (hp : By S p xs) : hermitcrablaw03_TextLists S p (fun r S' => r = true ∧ Keeps S S' []) := by
  apply t_hermitcrablaw03_TextLists
  unfold b_hermitcrablaw03_TextLists
  refine jn_cut (fun j => ∀ S', Keeps S S' [] → p.n ≤ 100 → j S') ?_ fun j hj => ?_
  rotate_left
  · refine awake_spec hg fun S1 hk1 => ?_
    rw [if_pos rfl]
    by_cases h : 100 < (p.n : Int)
    · rw [if_pos h]
      exact awake_spec (hg.keep hk1 (by simp) (by simp) (by simp)) fun S2 hk2 => ⟨rfl, hk1.trans hk2⟩
    · rw [if_neg h]; exact hj S1 hk1 (by omega)
  intro S1 hk1 h100
  have hg1 := hg.keep hk1 (by simp) (by simp) (by simp)
  have hp1 := hp.keep hk1
  refine list_spec hg1 hp1 h100 fun t S2 hk2 hf2 htn hrow => ?_
  have k2 := hk1.trans hk2
  refine jn_cut (fun j => j S2) ?_ fun j hj => ?_
  rotate_left
  · rw [td (by omega), w64 (by omega) (by omega), if_neg (by rw [htn]; omega)]; exact hj
  refine jn_cut (fun j => ∀ S', Keeps S S' [] → j S') (fun S' hk => ⟨rfl, hk⟩) fun Jx hJx => ?_
  refine lp_rule (fun (z : Int) S' => ∃ i : Nat, z = i ∧ i ≤ p.n / 4 ∧ Keeps S2 S' []) (fun z => (p.n / 4 - z).toNat) ?_ ⟨0, rfl, by omega, Keeps.refl⟩
  rintro X z S' ⟨i, rfl, hi, hk⟩ ih
  refine jn_cut (fun j => i < p.n / 4 → j S') ?_ fun j hj => ?_
  rotate_left
  · by_cases h : (i : Int) < (t.n : Int)
    · rw [if_pos h]; exact hj (by omega)
    · rw [if_neg h]; exact hJx S' (k2.trans hk)
  intro hlt
  refine jn_cut (fun j => ∀ S3, Keeps S2 S3 [] → j S3) ?_ fun J1 hJ1 => ?_
  · intro S3 hk3
    rw [w64 (by omega) (by omega)]
    exact ih _ S3 ⟨i + 1, by omega, by omega, hk3⟩ (by omega)
  have hlen := hp.len
  have kS := k2.trans hk
  rcases hp.lie with h0 | ⟨b, o, hpp, hcs⟩
  · omega
  obtain ⟨pp, pn, pc⟩ := p
  simp only at hpp hlen h100 hlt hi htn hrow
  subst hpp
  have hcell : ∀ j, j < pn → S'.cell b (o + j) = some (.int .u8 (xs.getD j 0)) := fun j hj => by
    have h3 := hcs j (by omega)
    obtain ⟨kk, h5, h6⟩ := cell_e h3
    rw [cell_of (kS.get h5 (by simp)), h6, List.getD_eq_getElem?_getD, List.getElem?_eq_getElem (by omega)]; rfl
  rw [sl_i, w64 (x := 4 * (i : Int)) (by omega) (by omega), w64 (x := 4 * (i : Int) + 1) (by omega) (by omega), w64 (x := 4 * (i : Int) + 2) (by omega) (by omega), w64 (x := 4 * (i : Int) + 3) (by omega) (by omega)]
  refine ⟨by omega, by omega, ?_⟩
  rw [show o + (4 * (i : Int)).toNat * 1 = o + 4 * i by omega, gI_i (hcell (4 * i) (by omega))]
  refine ⟨by omega, by omega, ?_⟩
  rw [show o + (4 * (i : Int) + 1).toNat * 1 = o + (4 * i + 1) by omega, gI_i (hcell (4 * i + 1) (by omega))]
  refine ⟨by omega, by omega, ?_⟩
  rw [show o + (4 * (i : Int) + 2).toNat * 1 = o + (4 * i + 2) by omega, gI_i (hcell (4 * i + 2) (by omega))]
  refine ⟨by omega, by omega, ?_⟩
  rw [show o + (4 * (i : Int) + 3).toNat * 1 = o + (4 * i + 3) by omega, gI_i (hcell (4 * i + 3) (by omega))]
  have bd := getD_bd hp.bd
  rw [word4_eq (bd _) (bd _) (bd _) (bd _)]
  have hw := wAt_bd hp.bd i
  have hlin : (linesC xs (pn / 4))[i]? = some (.string (bt (tw (wAt xs i)))) := linesC_get hlt
  have hrow' : Row S' 1 t (linesC xs (pn / 4)) := hrow.keep fun c hc => by
    rcases hrow.lie with ⟨h1, _⟩ | ⟨b2, kk, h1, h2, _⟩
    · rw [h1] at hc; cases hc
    · rw [h1] at hc; cases hc
      exact (hk.get h2 (by simp)).trans h2.symm
  -- the line that was listed
  have tcell : ∀ S3, Keeps S' S3 [] → ∃ tb tc, t = ⟨some (tb, 0), pn / 4, tc⟩ ∧ S3.cell tb i = some (.string (bt (tw (wAt xs i)))) := fun S3 hk3 => by
    obtain ⟨tb, h1, h2⟩ := row_cell hrow' (by omega) hlin
    obtain ⟨tp, tn, tc⟩ := t
    simp only at h1 htn
    subst h1; subst htn
    obtain ⟨kk, h5, h6⟩ := cell_e h2
    exact ⟨tb, tc, rfl, by rw [cell_of (hk3.get h5 (by simp))]; exact h6⟩
  refine jn_cut (fun j => ∀ ok : Bool, (ok = decide (isW (wAt xs i))) → j ok (if isW (wAt xs i) then opL (dK (wAt xs i)) (dA (wAt xs i)) (dB (wAt xs i)) (dC (wAt xs i)) (dN (wAt xs i)) else opL 0 0 0 0 0) S') ?_ fun J2 hJ2 => ?_
  · intro ok hok
    refine ⟨by split <;> rfl, ?_⟩
    by_cases hY : isW (wAt xs i)
    · rw [if_pos hY, hok, decide_eq_true hY, if_pos rfl]
      have hb := d_bd (wAt xs i)
      have e : tw (wAt xs i) = txt (dK (wAt xs i)) (dA (wAt xs i)) (dB (wAt xs i)) (dC (wAt xs i)) (dN (wAt xs i)) := by unfold tw; rw [if_pos hY]
      have hr := hY.1
      generalize dK (wAt xs i) = k at *
      generalize dA (wAt xs i) = a at *
      generalize dB (wAt xs i) = b' at *
      generalize dC (wAt xs i) = c at *
      generalize dN (wAt xs i) = n at *
      rw [gI_i (show nthL (opL k a b' c n) 0 = some (.int .u8 k) from rfl), gI_i (show nthL (opL k a b' c n) 1 = some (.int .u8 a) from rfl), gI_i (show nthL (opL k a b' c n) 2 = some (.int .u8 b') from rfl), gI_i (show nthL (opL k a b' c n) 3 = some (.int .u8 c) from rfl), gI_i (show nthL (opL k a b' c n) 4 = some (.int .i16 n) from rfl)]
      refine refText_spec hb hr.kk fun S3 hk3 => ?_
      obtain ⟨tb, tc, rfl, htc⟩ := tcell S3 hk3
      rw [sl_i]
      refine ⟨by omega, by omega, ?_⟩
      rw [show 0 + (i : Int).toNat * 1 = i by omega, gS_i htc, e, if_neg (fun h => h rfl)]
      exact hJ1 S3 (hk.trans hk3)
    · rw [hok, decide_eq_false hY, if_neg (by decide)]
      have e : tw (wAt xs i) = [63] := by unfold tw; rw [if_neg hY]
      obtain ⟨tb, tc, rfl, htc⟩ := tcell S' Keeps.refl
      rw [sl_i]
      refine ⟨by omega, by omega, ?_⟩
      rw [show 0 + (i : Int).toNat * 1 = i by omega, gS_i htc, e, if_neg (fun h => h rfl)]
      exact hJ1 S' hk
  refine decode_spec hw.1 hw.2 (fun hY => ?_) fun hN => ?_
  · rw [if_pos rfl]
    have := hJ2 true (decide_eq_true hY).symm
    rw [if_pos hY] at this
    exact ⟨rfl, this⟩
  · rw [if_neg (by decide)]
    have := hJ2 false (decide_eq_false hN).symm
    rw [if_neg hN] at this
    exact ⟨rfl, this⟩
end
end Go.Proofs.YtpilffakhkagjaaDoor
