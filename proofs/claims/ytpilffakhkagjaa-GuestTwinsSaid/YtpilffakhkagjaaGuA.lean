/- guest.Make, in full. -/
import Derived.Test.YtpilffakhkagjaaIdR
namespace Go.Proofs.Ytpilffakhkagjaa
open Go Go.Pt
theorem fresh_of {S S' : Mem} {b : Nat} (hk : Keeps S S' []) (h : S' b = none) : S b = none := by
  cases hs : S b with
  | none => rfl
  | some k => have := hk.get hs (by simp); rw [h] at this; cases this
/-- A page of noughts. -/
def z256 : List Value := zrep 256 [.int .u8 0]
/-- A slice of a page of its own. -/
abbrev pg (b : Nat) : Sl := ⟨some (b, 0), 256, 256⟩
def vmL (on : Bool) (ss : Sl) (quota late : Int) (ks d0 d1 d2 d3 : Sl) (bells : Int) : List Value :=
  [.bool on, eL ss, .int .i64 0, .slice none 0 0, .int .i64 quota, .int .u64 late, eL ks, eL d0, eL d1, eL d2, eL d3, .int .u32 bells]
/-- The pages that a call made. -/
structure Pages (S S' : Mem) (bs : List Nat) : Prop where
  nodup : bs.Nodup
  at_ : ∀ b ∈ bs, S b = none ∧ S' b = some (bw 5 z256)
  keep : Keeps S S' []
theorem Pages.then {S S' S'' : Mem} {bs : List Nat} (h : Pages S S' bs) (hk : Keeps S' S'' []) : Pages S S'' bs :=
  ⟨h.nodup, fun b hb => ⟨(h.at_ b hb).1, hk.get (h.at_ b hb).2 (by simp)⟩, h.keep.trans hk⟩
def nilS : Value := .slice none 0 0
section
variable {S : Mem}
set_option maxRecDepth 20000 in
theorem blank_full {Q : List Value → Mem → Prop} (hQ : ∀ b0 b1 b2 b3 S', Pages S S' [b0, b1, b2, b3] → Q [eL (pg b0), eL (pg b1), eL (pg b2), eL (pg b3)] S') : guest_Blank S Q := by
  apply t_guest_Blank
  unfold b_guest_Blank
  simp only [jn]
  refine lp_rule (fun (z : Int × List Value) S' => ∃ bs : List Nat, z = ((bs.length : Int), bs.map (fun b => eL (pg b)) ++ List.replicate (4 - bs.length) nilS) ∧ bs.length ≤ 4 ∧ Pages S S' bs) (fun z => (4 - z.1).toNat) ?_ ⟨[], rfl, by simp, by simp, by simp, Keeps.refl⟩
  rintro X z S' ⟨bs, rfl, hl, hP⟩ ih
  dsimp only at ih ⊢
  have hlen : (bs.map (fun b => eL (pg b)) ++ List.replicate (4 - bs.length) nilS).length = 4 := by simp; omega
  refine ⟨hlen, ?_⟩
  by_cases hlt : (bs.length : Int) < 4
  · rw [if_pos hlt]
    intro b hb
    refine ⟨by omega, hlt, ?_⟩
    rw [w64 (by omega) (by omega)]
    have hbS := fresh_of hP.keep hb
    have hnb : b ∉ bs := fun h => by have := (hP.at_ b h).2; rw [hb] at this; cases this
    refine ih _ _ ⟨bs ++ [b], ?_, by simp; omega, ⟨?_, ?_, hP.keep.new hb⟩⟩ (by simp only; omega)
    · have e : spl (bs.map (fun b => eL (pg b)) ++ List.replicate (4 - bs.length) nilS) (0 + (bs.length : Int).toNat * 1) [.slice (some ⟨b, 0, none⟩) 256 256] = (bs ++ [b]).map (fun b => eL (pg b)) ++ List.replicate (4 - (bs ++ [b]).length) nilS := by
        rw [show 0 + (bs.length : Int).toNat * 1 = bs.length by omega, spl_eq _ _ _ (by rw [hlen]; omega)]
        rw [List.take_left' (by simp), ← List.drop_drop, List.drop_left' (by simp), show 4 - bs.length = (4 - (bs ++ [b]).length) + 1 by simp; omega, List.replicate_succ]
        simp
        rfl
      rw [e]; simp
    · rw [List.nodup_append]
      exact ⟨hP.nodup, by simp, fun x hx y hy e => by simp at hy; subst hy; subst e; exact hnb hx⟩
    · intro x hx
      rcases List.mem_append.1 hx with hx | hx
      · have hxb : x ≠ b := fun e => hnb (e ▸ hx)
        exact ⟨(hP.at_ x hx).1, by rw [set_ne hxb]; exact (hP.at_ x hx).2⟩
      · rw [List.mem_singleton] at hx; subst hx; exact ⟨hbS, set_same⟩
  · rw [if_neg hlt]
    have h4 : bs.length = 4 := by omega
    match bs, h4 with
    | [b0, b1, b2, b3], _ => exact ⟨rfl, rfl, hQ b0 b1 b2 b3 S' hP⟩
/-- What Make leaves. -/
structure Made (S S' : Mem) (n : Nat) (ss : Sl) (bs : List Nat) : Prop where
  pages : Pages S S' bs
  row : Row S' 26 ss (zrep n z72)
  fresh : ∀ x o, ss.p = some (x, o) → S x = none ∧ x ∉ bs
theorem zrep_snoc (z : List Value) : ∀ n, zrep (n + 1) z = zrep n z ++ z
  | 0 => by simp [zrep]
  | n + 1 => by
    show z ++ zrep (n + 1) z = (z ++ zrep n z) ++ z
    rw [zrep_snoc z n, List.append_assoc]
set_option maxRecDepth 20000 in
theorem make_full {n : Nat} {quota : Int} (h1 : 1 ≤ n) (h2 : n ≤ 3) (h3 : 1 ≤ quota) (h4 : quota ≤ 32) {Q : List Value → Int → Mem → Prop}
    (hQ : ∀ ss b0 b1 b2 b3 S', Made S S' n ss [b0, b1, b2, b3] → Q (vmL true ss quota 0 ⟨none, 0, 0⟩ (pg b0) (pg b1) (pg b2) (pg b3) 0) 0 S') : guest_Make S n quota Q := by
  apply t_guest_Make
  unfold b_guest_Make
  simp only [jn]
  rw [if_neg (by omega), if_neg (by omega), if_neg (by omega), if_neg (by omega)]
  refine ⟨rfl, blank_full fun b0 b1 b2 b3 S1 hP => ⟨rfl, ?_⟩⟩
  refine lp_rule (fun (z : Int × List Value) S' => ∃ (k : Nat) (ss : Sl), z = ((k : Int), vmL true ss quota 0 ⟨none, 0, 0⟩ (pg b0) (pg b1) (pg b2) (pg b3) 0) ∧ k ≤ n ∧ Made S S' k ss [b0, b1, b2, b3]) (fun z => (n - z.1).toNat) ?_
    ⟨0, ⟨none, 0, 0⟩, rfl, by omega, hP, Row.nil, fun x o h => by cases h⟩
  rintro X z S2 ⟨k, ss, rfl, hk, hM⟩ ih
  dsimp only at ih ⊢
  refine ⟨rfl, ?_⟩
  by_cases hlt : (k : Int) < (n : Int)
  · rw [if_pos hlt, gL_i (show nthL (vmL true ss quota 0 ⟨none, 0, 0⟩ (pg b0) (pg b1) (pg b2) (pg b3) 0) 1 = some (eL ss) from rfl)]
    refine seatNew_spec ⟨rfl, ?_⟩
    have hz : z72.length = 1 * 26 := by kernel_rfl
    have hsn : ss.n = k := by
      have := hM.row.len
      rw [zrep_length] at this
      have h26 : z72.length = 26 := by kernel_rfl
      rw [h26] at this; omega
    refine ap_row hM.row hz (by decide) hz (by omega) fun s' S3 b q e1 e2 e3 e4 e5 => ?_
    have hb : S b = none ∧ b ∉ [b0, b1, b2, b3] := by
      rcases e3 with e3 | e3
      · exact hM.fresh b 0 e3
      · refine ⟨fresh_of hM.pages.keep e3, fun hm => ?_⟩
        have := (hM.pages.at_ b hm).2
        rw [e3] at this; cases this
    rw [w64 (by omega) (by omega)]
    refine ih _ _ ⟨k + 1, s', ?_, by omega, ⟨⟨hM.pages.nodup, fun x hx => ⟨(hM.pages.at_ x hx).1, ?_⟩, ?_⟩, ?_, ?_⟩⟩ (by simp only; omega)
    · have : spl (vmL true ss quota 0 ⟨none, 0, 0⟩ (pg b0) (pg b1) (pg b2) (pg b3) 0) 1 [eL s'] = vmL true s' quota 0 ⟨none, 0, 0⟩ (pg b0) (pg b1) (pg b2) (pg b3) 0 := rfl
      rw [this]; simp
    · rw [e4, set_ne (fun e => by subst e; exact hb.2 hx)]; exact (hM.pages.at_ x hx).2
    · rw [e4]; exact hM.pages.keep.fresh hb.1
    · rw [zrep_snoc]; exact e5
    · intro x o hx; rw [e2] at hx; cases hx; exact hb
  · rw [if_neg hlt]
    have : k = n := by omega
    subst this
    exact ⟨rfl, rfl, hQ ss b0 b1 b2 b3 S2 hM⟩
end
end Go.Proofs.Ytpilffakhkagjaa
