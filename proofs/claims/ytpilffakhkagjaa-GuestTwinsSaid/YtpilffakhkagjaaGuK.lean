/- owner.Book: Keep; two books compared. -/
import Derived.Test.YtpilffakhkagjaaGuJ
namespace Go.Proofs.Ytpilffakhkagjaa
open Go Go.Pt
section
variable {S : Mem} {ob_ rb : Nat} {rows : List (List Value)}
theorem keep_spec (h : Bk S ob_ rb rows) {i : Nat} (hi : i < rows.length) (hf : rows[i] = row0) {n : Int} (hn : 0 ≤ n ∧ n < 6) {Q : Int → Mem → Prop}
    (hQ : ∀ S', Keeps S S' [rb] → Bk S' ob_ rb (rows.set i (orow 2 n 0 0)) → Q 0 S') : owner_Book_Keep S (some (ob_, 0)) i n Q := by
  obtain ⟨cap, t, j, e1, e2, e3, e4⟩ := h.ex
  apply t_owner_Book_Keep
  unfold b_owner_Book_Keep
  apply t_owner_Book_row
  unfold b_owner_Book_row
  simp only [jn]
  have hrd : S.cell ob_ 0 = some (eL ⟨some (rb, 0), rows.length, cap⟩) := by rw [cell_of e1]; rfl
  rw [if_neg (by simp), if_neg (by omega), nn_i, gL_i hrd, if_neg (by simp only; omega), nn_i, gL_i hrd, sl_i]
  refine ⟨by omega, by omega, ?_⟩
  rw [if_neg (by decide), if_neg (by omega), nn_i, Int.toNat_natCast, Nat.zero_add, gI_i (h.kind hi hf), if_neg (by decide), nn_i]
  refine h.put hi rfl fun S1 hk1 hb1 => ?_
  rw [if_pos hn.1]
  refine hb1.put (by simpa using hi) rfl fun S2 hk2 hb2 => ?_
  rw [List.set_set] at hb2
  exact hQ S2 (hk1.trans hk2) hb2
/-- Two rows are alike: one, or neither a guest's. -/
def alikeR (x y : List Value) : Prop := x = y ∨ (nthL x 0 ≠ some (.int .u8 3) ∧ nthL y 0 ≠ some (.int .u8 3))
theorem alike_spec {k n p s k' n' p' s' : Int} {Q : Bool → Mem → Prop} (hT : alikeR (orow k n p s) (orow k' n' p' s') → Q true S) (hF : ¬ alikeR (orow k n p s) (orow k' n' p' s') → Q false S) : guest_Same_f1 S (orow k n p s) (orow k' n' p' s') Q := by
  apply t_guest_Same_f1
  unfold b_guest_Same_f1
  have f1 : fits [.i .u8, .i .i64, .i .i64, .i .i64] (orow k n p s) = true := rfl
  have f2 : fits [.i .u8, .i .i64, .i .i64, .i .i64] (orow k' n' p' s') = true := rfl
  refine ⟨rfl, rfl, f1, f2, ?_⟩
  by_cases he : orow k n p s = orow k' n' p' s'
  · rw [if_pos ((eqL_iff f1 f2).2 he)]
    exact hT (.inl he)
  · rw [if_neg (fun h => he ((eqL_iff f1 f2).1 h)), gI_i (show nthL (orow k n p s) 0 = some (.int .u8 k) from rfl)]
    by_cases c1 : k = 3
    · rw [if_neg (by simpa using c1)]
      refine hF ?_
      rintro (h | ⟨h, _⟩)
      · exact he h
      · exact h (by rw [c1]; rfl)
    · rw [if_pos c1, gI_i (show nthL (orow k' n' p' s') 0 = some (.int .u8 k') from rfl)]
      by_cases c2 : k' = 3
      · rw [decide_eq_false (by simpa using c2)]
        refine hF ?_
        rintro (h | ⟨_, h⟩)
        · exact he h
        · exact h (by rw [c2]; rfl)
      · rw [decide_eq_true c2]
        exact hT (.inr ⟨by simp [orow, nthL, c1], by simp [orow, nthL, c2]⟩)
theorem equalRows_spec {s t : Sl} {A B : List (List Value)} (hA : Rows_ A) (hB : Rows_ B) (lA : A.length ≤ 1000) (h : Row S 4 s A.flatten) (k : Row S 4 t B.flatten) {Q : Bool → Mem → Prop}
    (hT : A.length = B.length → (∀ i (h1 : i < A.length) (h2 : i < B.length), alikeR A[i] B[i]) → Q true S) (hF : (A.length = B.length → ∃ i, ∃ (h1 : i < A.length) (h2 : i < B.length), ¬ alikeR A[i] B[i]) → Q false S) :
    slices_EqualFunc_owner_Row_owner_Row_owner_Row_owner_Row S s t (.func (.func 51) #[] #[]) Q := by
  obtain ⟨nA, pA⟩ := flat_part hA.w h (by decide)
  obtain ⟨nB, pB⟩ := flat_part hB.w k (by decide)
  apply t_slices_EqualFunc_owner_Row_owner_Row_owner_Row_owner_Row
  unfold b_slices_EqualFunc_owner_Row_owner_Row_owner_Row_owner_Row
  simp only [jn]
  by_cases hn : (s.n : Int) ≠ (t.n : Int)
  · rw [if_pos hn]
    exact hF fun e => absurd (by omega) hn
  · rw [if_neg hn]
    have hl : A.length = B.length := by omega
    refine lp_rule (fun (z : Int) S' => ∃ i : Nat, z = (i : Int) ∧ i ≤ A.length ∧ S' = S ∧ ∀ j (h1 : j < A.length) (h2 : j < B.length), j < i → alikeR A[j] B[j]) (fun z => (A.length - z).toNat) ?_ ⟨0, rfl, by omega, rfl, fun j _ _ h => by omega⟩
    rintro X z S' ⟨i, rfl, hi, rfl, he⟩ ih
    by_cases hlt : (i : Int) < (s.n : Int)
    · rw [if_pos hlt]
      obtain ⟨c1, cap1, e1, q1⟩ := pA i (by omega)
      obtain ⟨c2, cap2, e2, q2⟩ := pB i (by omega)
      refine sl_r e1 ⟨by omega, by omega, ?_⟩
      obtain ⟨k1, n1, p1, s1, v1⟩ := hA _ (List.getElem_mem (show i < A.length by omega))
      obtain ⟨k2, n2, p2, s2, v2⟩ := hB _ (List.getElem_mem (show i < B.length by omega))
      rw [v1] at q1
      rw [v2] at q2
      rw [Int.toNat_natCast, gA_i q1]
      refine ⟨rfl, sl_r e2 ⟨by omega, by omega, ?_⟩⟩
      rw [gA_i q2]
      have nx : alikeR (orow k1 n1 p1 s1) (orow k2 n2 p2 s2) → X (IntKind.i64.wrap ((i : Int) + 1)) S' := fun ha => by
        rw [w64 (by omega) (by omega)]
        refine ih _ _ ⟨i + 1, by omega, by omega, rfl, fun j h1 h2 hj => ?_⟩ (by omega)
        by_cases e : j = i
        · subst e; rw [v1, v2]; exact ha
        · exact he j h1 h2 (by omega)
      have ff : ¬ alikeR (orow k1 n1 p1 s1) (orow k2 n2 p2 s2) → Q false S' := fun ha => hF fun _ => ⟨i, by omega, by omega, by rw [v1, v2]; exact ha⟩
      refine ⟨rfl, 51, [], rfl, inferInstance, Tr.mono (alike_spec (S := S') (Q := fun r S2 => if r = true then X (IntKind.i64.wrap ((i : Int) + 1)) S2 else Q false S2) (fun ha => by rw [if_pos rfl]; exact nx ha) (fun ha => by rw [if_neg (by decide)]; exact ff ha)) ?_⟩
      rintro v S2 ⟨r, rfl, hr⟩
      exact ⟨r, rfl, hr⟩
    · rw [if_neg hlt]
      refine hT hl fun j h1 h2 => he j h1 h2 (by omega)
end
end Go.Proofs.Ytpilffakhkagjaa
