/- ideal.Create, the document's example, and the statement's own loop. -/
import Derived.Test.YtpilffakhkagjaaIdR
namespace Go.Proofs.Ytpilffakhkagjaa
open Go Go.Pt
/-- A VM that is on, with these pages of its own. -/
def OnVm (v : List Value) (ks : List (Option Nat)) : Prop := ∃ hd, hd.length = 12 ∧ ks.length = 32 ∧ v = vmc hd ks ∧ hd[0]? = some (.bool true) ∧ hd[11]? = some (.int .u32 0)
theorem OnVm.on {v : List Value} {ks : List (Option Nat)} (h : OnVm v ks) : v[0]? = some (.bool true) := by
  obtain ⟨hd, h1, h2, rfl, h3, h4⟩ := h
  rw [vmc, List.getElem?_append_left (by omega)]; exact h3
theorem OnVm.bells {v : List Value} {ks : List (Option Nat)} (h : OnVm v ks) : v[11]? = some (.int .u32 0) := by
  obtain ⟨hd, h1, h2, rfl, h3, h4⟩ := h
  rw [vmc, List.getElem?_append_left (by omega)]; exact h4
theorem OnVm.len {v : List Value} {ks : List (Option Nat)} (h : OnVm v ks) : v.length = 109 := by
  obtain ⟨hd, h1, h2, rfl, h3, h4⟩ := h
  exact vmc_len h1 h2
theorem z117_vm : z117 = vmc (z117.take 12) (List.replicate 32 none) := by kernel_rfl
theorem vm_fresh {v : List Value} (h : v.length = 12) : spl (spl z117 0 v) 108 [.int .u64 0] = vmc v (List.replicate 32 none) := by
  have hz : z117.length = 109 := by kernel_rfl
  have h2 : (List.replicate 32 (none : Option Nat)).length = 32 := by simp
  have hl := slots_len (List.replicate 32 none)
  have e : (z117.drop 12).take 96 = ((List.replicate 32 none).map slotOf).flatten := by kernel_rfl
  apply List.ext_getElem?
  intro i
  have hl1 : (spl z117 0 v).length = 109 := spl_ln hz (by omega)
  rw [spl_get (by simp; omega), spl_get (by omega)]
  by_cases h1 : 108 ≤ i ∧ i < 108 + [Value.int .u64 0].length
  · rw [if_pos h1]
    have : i = 108 := by simp at h1; omega
    subst this
    rw [vmc, List.getElem?_append_right (by omega), List.getElem?_append_right (by rw [hl, h2]; omega), hl, h2, h]
  · rw [if_neg h1]
    simp only [List.length_cons, List.length_nil] at h1
    by_cases h3 : i < 12
    · rw [if_pos (by omega), vmc, List.getElem?_append_left (by omega)]; rfl
    · rw [if_neg (by omega), vmc, List.getElem?_append_right (by omega), h]
      by_cases h4 : i < 108
      · rw [List.getElem?_append_left (by rw [hl, h2]; omega), ← e, List.getElem?_take, if_pos (by omega), List.getElem?_drop]
        congr 1; omega
      · rw [List.getElem?_eq_none (by omega), List.getElem?_eq_none (by simp only [List.length_append, hl, h2, List.length_cons, List.length_nil]; omega)]
section
variable {S : Mem} {b : Nat} {f : Int} {vs : List (List Value)}
theorem owns_set (ks : List (Option Nat)) (i : Nat) (p : Nat) (h : ks[i]? = some none) : owns (ks.set i (some p)) = owns ks + 1 := by
  obtain ⟨hi, hn⟩ := List.getElem?_eq_some_iff.1 h
  simp only [owns]
  rw [List.countP_set hi, hn]
  simp
theorem page_spec : True := True.intro
set_option maxRecDepth 20000 in
/-- The loop that makes so many pages. -/
theorem create_spec (h : At S b f vs) (hb : ∀ j, j < 6 → (∃ ks, OnVm (vs.getD j []) ks) ∨ vs.getD j [] = z117) (hf0 : 0 ≤ f) (hf1 : f ≤ 1000) {quota pages : Int} (hq : 1 ≤ quota) (hq2 : quota ≤ 32) (hp : 1 ≤ pages) (hp2 : pages ≤ quota)
    {Q : Int → Int → Mem → Prop} (hno : ∀ e S', e ≠ 0 → Keeps S S' [] → (∀ j, j < 6 → vs.getD j [] ≠ z117) ∨ f < 5 + pages → Q 0 e S')
    (hyes : ∀ (j : Nat) (v : List Value) ks S', j < 6 → vs.getD j [] = z117 → OnVm v ks → owns ks = pages → 5 + pages ≤ f → Keeps S S' [b] → At S' b (f - (5 + pages)) (vs.set j v) → Q j 0 S') :
    ideal_Ideal_Create S (some (b, 0)) 1 quota pages ⟨none, 0, 0⟩ Q := by
  have hz : z117.length = 109 := by kernel_rfl
  apply t_ideal_Ideal_Create
  unfold b_ideal_Ideal_Create
  refine make_spec (by omega) (by omega) hq hq2 fun v S1 hv hk1 => ?_
  have h1 := h.keep hk1
  refine ⟨hv.one, ?_⟩
  simp only [jn]
  rw [if_neg (by simp), if_neg (by simp), if_neg (by omega), if_neg (by omega), w64 (x := 256 * pages) (by omega) (by omega), if_neg (by simp; omega)]
  refine lp_rule (fun (z : Int) S' => S' = S1 ∧ ∃ n : Nat, z = n ∧ n ≤ 6 ∧ ∀ j, j < n → vs.getD j [] ≠ z117) (fun z => (6 - z).toNat) ?_ ⟨rfl, 0, rfl, by omega, fun j hj => by omega⟩
  rintro X z S' ⟨rfl, n, rfl, hn, hall⟩ ih
  have done : ∀ (m : Nat), m = n → (n < 6 → vs.getD n [] = z117) →
      (if (m : Int) = 6 then Q 0 2 S'
      else
        nn (some (b, 0)) fun b_3 o_1 =>
          gI (S'.cell b_3 (o_1 + 1)) .i64 fun t_7 =>
            if t_7 < IntKind.i64.wrap (5 + pages) then Q 0 3 S'
            else
              nn (some (b, 0)) fun b_1 o =>
                gI (S'.cell b_1 (o + 1)) .i64 fun t_2 =>
                  pt S' b_1 (o + 1) 1 [.int .i64 (IntKind.i64.wrap (t_2 - IntKind.i64.wrap (5 + pages)))] fun Sx_4 =>
                    gI (Sx_4.cell b_1 o) .u64 fun t_3 =>
                      0 ≤ (m : Int) ∧ (m : Int) < 6 ∧
                      (spl (spl z117 0 v) 108 [.int .u64 t_3]).all (·.oneCell') = true ∧
                      pt Sx_4 b_1 (o + 2 + (m : Int).toNat * 109) 109 (spl (spl z117 0 v) 108 [.int .u64 t_3]) fun Sx_5 =>
                        0 ≤ (m : Int) ∧ (m : Int) < 6 ∧
                        pt Sx_5 b_1 (o + 753 + (m : Int).toNat * 1) 1 [.slice none 0 0] fun Sx_6 =>
                          lp (fun Xx (t_4 : Int) Sx_8 =>
                              if t_4 < pages then
                                al Sx_8 124 z124 fun b_2 Sx_9 =>
                                  if IntKind.i64.wrap (256 * t_4) < ((0 : Nat) : Int) then
                                    0 ≤ IntKind.i64.wrap (256 * t_4) ∧ IntKind.i64.wrap (256 * t_4) ≤ ((0 : Nat) : Int) ∧ ((0 : Nat) : Int) ≤ ((0 : Nat) : Int) ∧
                                    lt (slc 1 ⟨none, 0, 0⟩ (IntKind.i64.wrap (256 * t_4)) ((0 : Nat) : Int)) fun t_5 =>
                                      cpy Sx_9 1 ⟨some (b_2, 0), 256, 256⟩ t_5 fun t_6 Sx_12 =>
                                        0 ≤ (m : Int) ∧ (m : Int) < 6 ∧ 0 ≤ t_4 ∧ t_4 < 32 ∧
                                        pt Sx_12 b_1 (o + 2 + (m : Int).toNat * 109 + 12 + t_4.toNat * 3) 3 [.pointer (some ⟨b_2, 0, none⟩), .bool true, .bool true] fun Sx_11 =>
                                          Xx (IntKind.i64.wrap (t_4 + 1)) Sx_11
                                  else
                                    0 ≤ (m : Int) ∧ (m : Int) < 6 ∧ 0 ≤ t_4 ∧ t_4 < 32 ∧
                                    pt Sx_9 b_1 (o + 2 + (m : Int).toNat * 109 + 12 + t_4.toNat * 3) 3 [.pointer (some ⟨b_2, 0, none⟩), .bool true, .bool true] fun Sx_11 =>
                                      Xx (IntKind.i64.wrap (t_4 + 1)) Sx_11
                              else Q m 0 Sx_8) 0 Sx_6) := by
    rintro m rfl hfree
    by_cases h6 : m = 6
    · rw [if_pos (by omega)]
      exact hno 2 S' (by decide) hk1 (.inl fun j hj => hall j (by omega))
    · rw [if_neg (by omega), nn_i]
      have hc : S'.cell b (0 + 1) = some (.int .i64 f) := by rw [cell_of h1.1]; rfl
      rw [gI_i hc, w64 (x := 5 + pages) (by omega) (by omega)]
      by_cases hroom : f < 5 + pages
      · rw [if_pos hroom]
        exact hno 3 S' (by decide) hk1 (.inr hroom)
      · rw [if_neg hroom, nn_i, gI_i hc]
        refine pt_i h1.1 (by rw [idl_len h1.2]; omega) ?_
        simp only [Nat.zero_add]
        rw [w64 (by omega) (by omega), idl_free]
        have h2 := At.set (S := S') (b := b) (f - (5 + pages)) vs h1.2
        have hk2 : Keeps S (S'.set b (bw 122 (idl (f - (5 + pages)) vs))) [b] := (hk1.wider (by simp)).set (by simp)
        revert h2 hk2
        generalize S'.set b (bw 122 (idl (f - (5 + pages)) vs)) = S2
        intro h2 hk2
        have hc2 : S2.cell b 0 = some (.int .u64 0) := by rw [cell_of h2.1]; rfl
        rw [gI_i hc2, vm_fresh hv.len]
        have hvl : (vmc v (List.replicate 32 none)).length = 109 := vmc_len hv.len (by simp)
        refine ⟨by omega, by omega, ?_, ?_⟩
        · rw [← vm_fresh hv.len]
          have hl1 : (spl z117 0 v).length = 109 := spl_ln hz (by rw [hv.len]; omega)
          exact all_spl (by rw [hl1]; simp) (all_spl (by rw [hz, hv.len]; omega) (by kernel_rfl) hv.one) rfl
        refine pt_i h2.1 (by rw [idl_len h2.2]; omega) ?_
        rw [idl_set h2.2 (j := m) (by omega) (by omega) hvl]
        have h3 := At.set (S := S2) (b := b) (f - (5 + pages)) (vs.set m (vmc v (List.replicate 32 none))) (h2.2.set hvl)
        have hk3 : Keeps S (S2.set b (bw 122 (idl (f - (5 + pages)) (vs.set m (vmc v (List.replicate 32 none)))))) [b] := hk2.set (by simp)
        revert h3 hk3
        generalize S2.set b (bw 122 (idl (f - (5 + pages)) (vs.set m (vmc v (List.replicate 32 none))))) = S3
        intro h3 hk3
        refine ⟨by omega, by omega, ?_⟩
        refine pt_i h3.1 (by rw [idl_len h3.2]; omega) ?_
        have e : spl (idl (f - (5 + pages)) (vs.set m (vmc v (List.replicate 32 none)))) (753 + (m : Int).toNat * 1) [.slice none 0 0] = idl (f - (5 + pages)) (vs.set m (vmc v (List.replicate 32 none))) :=
          spl_same (by rw [show 753 + (m : Int).toNat * 1 = 753 + m by omega]; exact idl_ev h3.2 (by omega))
        rw [e, set_self h3.1]
        have hon0 : v[0]? = some (.bool true) := by rw [← nthL_eq]; exact hv.on
        have hb0 : v[11]? = some (.int .u32 0) := by rw [← nthL_eq]; exact hv.bells
        refine lp_rule (fun (z : Int) S' => ∃ (i : Nat) (ks : List (Option Nat)), z = i ∧ (i : Int) ≤ pages ∧ ks.length = 32 ∧ owns ks = i ∧ (∀ j, i ≤ j → j < 32 → ks[j]? = some none) ∧ Keeps S S' [b] ∧ At S' b (f - (5 + pages)) (vs.set m (vmc v ks))) (fun z => (pages - z).toNat) ?_
          ⟨0, List.replicate 32 none, rfl, by omega, by simp, rfl, fun j _ hj => by rw [List.getElem?_replicate, if_pos hj], hk3, h3⟩
        rintro Y z S4 ⟨i, ks, rfl, hi, hkl, ho, hnone, hk4, h4⟩ ih2
        by_cases hlt : (i : Int) < pages
        · rw [if_pos hlt]
          intro b2 hb2
          rw [if_neg (by rw [w64 (by omega) (by omega)]; simp; omega)]
          refine ⟨by omega, by omega, by omega, by omega, ?_⟩
          have hne : b ≠ b2 := ne_of_none hb2 h4.1
          have h5 : (S4.set b2 (bw 124 z124)) b = some (bw 122 (idl (f - (5 + pages)) (vs.set m (vmc v ks)))) := by rw [set_ne hne]; exact h4.1
          refine pt_i h5 (by rw [idl_len h4.2]; omega) ?_
          have hm6 : m < vs.length := by rw [h1.2.len]; omega
          have hsl : ([.pointer (some ⟨b2, 0, none⟩), .bool true, .bool true] : List Value) = slotOf (some b2) := rfl
          rw [hsl, idl_spl h4.2 (j := m) (o := 12 + i * 3) (by omega) (by omega) (by simp only [slotOf, List.length_cons, List.length_nil]; omega), getD_set_same hm6, vmc_set hv.len rfl (by omega), List.set_set]
          have hvl2 : (vmc v (ks.set i (some b2))).length = 109 := vmc_len hv.len (by simp [hkl])
          refine ih2 _ _ ⟨i + 1, ks.set i (some b2), by rw [w64 (by omega) (by omega)]; omega, by omega, by simp [hkl], by rw [owns_set ks i b2 (hnone i (by omega) (by omega)), ho]; omega, fun j hj1 hj2 => by rw [List.getElem?_set_ne (by omega)]; exact hnone j (by omega) hj2, ?_, ?_⟩ (by rw [w64 (by omega) (by omega)]; omega)
          · exact (hk4.new hb2).set (by simp)
          · exact At.set _ _ (h1.2.set hvl2)
        · rw [if_neg hlt]
          exact hyes m (vmc v ks) ks S4 (by omega) (hfree (by omega)) ⟨v, hv.len, hkl, rfl, hon0, hb0⟩ (by omega) (by omega) hk4 h4
  by_cases hlt : n < 6
  · rw [if_pos (by omega), nn_i]
    refine ⟨by omega, by omega, ?_⟩
    rcases hb n hlt with ⟨ks, hon⟩ | hoff
    · have hc : S'.cell b (0 + 2 + (n : Int).toNat * 109) = some (.bool true) := by
        rw [cell_of h1.1]; simp only; rw [idl_at h1.2 (j := n) (o := 0) (by omega) hlt (by omega)]; exact hon.on
      rw [gB_i hc, if_pos rfl]
      refine ih _ _ ⟨rfl, n + 1, by rw [w64 (by omega) (by omega)]; omega, by omega, fun j hj => ?_⟩ (by rw [w64 (by omega) (by omega)]; omega)
      by_cases e : j = n
      · subst e
        intro e2
        have := hon.on
        rw [e2] at this
        cases this
      · exact hall j (by omega)
    · have hc : S'.cell b (0 + 2 + (n : Int).toNat * 109) = some (.bool false) := by
        rw [cell_of h1.1]; simp only; rw [idl_at h1.2 (j := n) (o := 0) (by omega) hlt (by omega), hoff]; rfl
      rw [gB_i hc, if_neg (by simp)]
      exact done n rfl fun _ => hoff
  · rw [if_neg (by omega)]
    exact done n rfl fun h => by omega
end
end Go.Proofs.Ytpilffakhkagjaa
