/- Writing into a list of seats. -/
import Derived.Test.YtpilffakhkagjaaGuO
namespace Go.Proofs.Ytpilffakhkagjaa
open Go Go.Pt
theorem fits_spl : ∀ {ks : List CK} {vs : List Value} {o : Nat} {k : CK} {v : Value}, fits ks vs = true → ks[o]? = some k → fit1 k v = true → fits ks (spl vs o [v]) = true
  | [], _, o, k, v, _, h, _ => by simp at h
  | _ :: _, [], _, _, _, h, _, _ => by simp [fits] at h
  | k0 :: ks, v0 :: vs, 0, k, v, h, hk, hv => by
    simp only [fits, Bool.and_eq_true] at h
    simp only [List.getElem?_cons_zero, Option.some.injEq] at hk
    subst hk
    simp [spl, fits, hv, h.2]
  | k0 :: ks, v0 :: vs, o + 1, k, v, h, hk, hv => by
    simp only [fits, Bool.and_eq_true] at h
    simp only [List.getElem?_cons_succ] at hk
    simp only [spl, fits, Bool.and_eq_true]
    exact ⟨h.1, fits_spl h.2 hk hv⟩
theorem spl_mid {Y Z v : List Value} {o : Nat} (h : o + v.length ≤ Y.length) : ∀ X : List Value, spl (X ++ (Y ++ Z)) (X.length + o) v = X ++ (spl Y o v ++ Z)
  | [] => by rw [List.nil_append, List.length_nil, Nat.zero_add]; exact spl_app h
  | x :: X => by
    rw [show (x :: X).length + o = (X.length + o) + 1 by simp only [List.length_cons]; omega]
    simp only [List.cons_append, spl]
    rw [spl_mid h X]
theorem flt_put {w : Nat} {A : List (List Value)} {j : List Value} (hw : ∀ v ∈ A, v.length = w) {i o : Nat} (hi : i < A.length) {v : Value} (ho : o < w) : spl (A.flatten ++ j) (i * w + o) [v] = (A.set i (spl A[i] o [v])).flatten ++ j := by
  obtain ⟨e1, e2⟩ := flt_split hw hi
  have hAi : A[i].length = w := hw _ (List.getElem_mem hi)
  have hs : (A.set i (spl A[i] o [v])).flatten = (A.take i).flatten ++ (spl A[i] o [v] ++ (A.drop (i + 1)).flatten) := by
    rw [List.set_eq_take_append_cons_drop, if_pos hi, List.flatten_append, List.flatten_cons]
  have h := spl_mid (Y := A[i]) (Z := (A.drop (i + 1)).flatten ++ j) (v := [v]) (o := o) (by rw [hAi]; simp only [List.length_singleton]; omega) (A.take i).flatten
  rw [e2] at h
  rw [hs, e1]
  simp only [List.append_assoc]
  exact h
/-- A seat that begins. -/
structure Seat0 (e : List Value) : Prop where
  fits_ : fits ckS e = true
  r0 : nthL e 0 = some (.int .u64 0)
  pc : nthL e 16 = some (.int .u64 0)
theorem Seat0.len {e : List Value} (h : Seat0 e) : e.length = 26 := by
  have := fits_len h.fits_; simpa [ckS] using this
theorem Seat0.put {e : List Value} (h : Seat0 e) {o : Nat} {k : CK} {v : Value} (ho : o < 26) (h0 : o ≠ 0) (h16 : o ≠ 16) (hk : ckS[o]? = some k) (hv : fit1 k v = true) : Seat0 (spl e o [v]) := by
  have hl : o + [v].length ≤ e.length := by rw [h.len]; simp; omega
  refine ⟨fits_spl h.fits_ hk hv, ?_, ?_⟩
  · rw [nthL_spl hl, if_neg (by simp only [List.length_singleton]; omega)]; exact h.r0
  · rw [nthL_spl hl, if_neg (by simp only [List.length_singleton]; omega)]; exact h.pc
theorem seat0_new : Seat0 z72 := ⟨by kernel_rfl, rfl, rfl⟩
end Go.Proofs.Ytpilffakhkagjaa
