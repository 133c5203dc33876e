/- ideal.Ideal: Destroy and Create, as long as nothing is lent and no alarm is set. -/
import Derived.Test.YtpilffakhkagjaaIdP
namespace Go.Proofs.Ytpilffakhkagjaa
open Go Go.Pt
theorem all_spl {p : Value → Bool} : ∀ {cs vs : List Value} {o : Nat}, o + vs.length ≤ cs.length → cs.all p = true → vs.all p = true → (spl cs o vs).all p = true := by
  intro cs vs o h hc hv
  rw [spl_eq _ _ _ (by omega)]
  simp only [List.all_append, Bool.and_eq_true]
  rw [List.all_eq_true] at hc
  exact ⟨⟨List.all_eq_true.2 fun x hx => hc x (List.mem_of_mem_take hx), hv⟩, List.all_eq_true.2 fun x hx => hc x (List.mem_of_mem_drop hx)⟩
theorem nthL_spl {cs vs : List Value} {o : Nat} (h : o + vs.length ≤ cs.length) (j : Nat) : nthL (spl cs o vs) j = if o ≤ j ∧ j < o + vs.length then nthL vs (j - o) else nthL cs j := by
  rw [nthL_eq, spl_get h, nthL_eq, nthL_eq]
section
variable {S : Mem} {b o : Nat} {k : Blk}
theorem index_none (fv : Value) {Q : Int → Mem → Prop} (hQ : Q (-1) S) : slices_IndexFunc_alarm_row_alarm_Alarm S ⟨none, 0, 0⟩ fv Q := by
  apply t_slices_IndexFunc_alarm_row_alarm_Alarm
  unfold b_slices_IndexFunc_alarm_row_alarm_Alarm
  simp only [jn]
  refine lp_rule (fun (z : Int) S' => z = 0 ∧ S' = S) (fun _ => 0) ?_ ⟨rfl, rfl⟩
  rintro X z S' ⟨rfl, rfl⟩ ih
  rw [if_neg (by simp)]
  exact hQ
theorem delete_none (fv : Value) {Q : Sl → Mem → Prop} (hQ : Q ⟨none, 0, 0⟩ S) : slices_DeleteFunc_alarm_row_alarm_Alarm S ⟨none, 0, 0⟩ fv Q := by
  apply t_slices_DeleteFunc_alarm_row_alarm_Alarm
  unfold b_slices_DeleteFunc_alarm_row_alarm_Alarm
  refine index_none fv ?_
  simp only [jn]
  rw [if_pos trivial]
  exact hQ
theorem len_spec {s : Sl} {t : TypeId} (hc : S.cell b o = some (eL s)) {R : Value → Mem → Prop} (hR : R (.int .i64 s.n) S) : ci Try.prog S (.iface 148 (.pointer (some ⟨b, o, none⟩))) "Len" [] R :=
  ci_V hc (Tr.mono (t_alarm_row_Len (S := S) (r := s) (Q := fun r S' => R (.int .i64 r) S') hR) (by rintro v S' ⟨r, rfl, h⟩; exact h))
theorem init_none (hc : S.cell b o = some (.slice none 0 0)) {Q : Mem → Prop} (hQ : Q S) : heap_Init S (.iface 148 (.pointer (some ⟨b, o, none⟩))) Q := by
  apply t_heap_Init
  unfold b_heap_Init
  refine len_spec (s := ⟨none, 0, 0⟩) (t := 0) hc ⟨0, rfl, ?_⟩
  refine lp_rule (fun (z : Int) S' => z = -1 ∧ S' = S) (fun _ => 0) ?_ ⟨rfl, rfl⟩
  rintro X z S' ⟨rfl, rfl⟩ ih
  rw [if_neg (by decide)]
  exact hQ
theorem drop_none {t : TypeId} {cs : List Value} (h : S b = some (bw t cs)) (hr : nthL cs o = some (.slice none 0 0)) (fv : Value) {Q : Mem → Prop} (hQ : Q S) : alarm_Clock_drop S (some (b, o)) fv Q := by
  have hc : S.cell b o = some (eL ⟨none, 0, 0⟩) := by rw [cell_of h]; exact hr
  apply t_alarm_Clock_drop
  unfold b_alarm_Clock_drop
  rw [if_pos (by simp), nn_i, gL_i hc]
  refine delete_none fv ?_
  refine pt_i h (by have := nthL_lt hr; omega) ?_
  have e : spl cs o [eL ⟨none, 0, 0⟩] = cs := spl_same hr
  rw [e, set_self h]
  exact init_none hc hQ
theorem dropVM_none {t : TypeId} {cs : List Value} (h : S b = some (bw t cs)) (hr : nthL cs o = some (.slice none 0 0)) (vm : Int) {Q : Mem → Prop} (hQ : ∀ S', Keeps S S' [] → Q S') : alarm_Clock_DropVM S (some (b, o)) vm Q := by
  apply t_alarm_Clock_DropVM
  unfold b_alarm_Clock_DropVM
  intro b1 hb1
  exact drop_none (t := t) (cs := cs) (by rw [set_ne (ne_of_none hb1 h)]; exact h) hr _ (hQ _ (Keeps.refl.new hb1))
end
theorem iandn_zero (k : IntKind) (y : Int) : iandn k 0 y = 0 := by
  have : (BitVec.ofInt k.bits 0 &&& ~~~ BitVec.ofInt k.bits y) = 0 := by simp
  unfold iandn; rw [this]; cases k <;> rfl
def Bz (vs : List (List Value)) : Prop := ∀ j, j < 6 → (vs.getD j [])[11]? = some (.int .u32 0)
section
variable {S : Mem} {b : Nat} {f : Int} {vs : List (List Value)}
theorem At.keep {S' : Mem} (h : At S b f vs) (hk : Keeps S S' []) : At S' b f vs := ⟨hk.get h.1 (by simp), h.2⟩
theorem At.set (g : Int) (us : List (List Value)) (hu : Six us) : At (S.set b (bw 122 (idl g us))) b g us := ⟨set_same, hu⟩
theorem destroy_off (h : At S b f vs) {j : Nat} (hj : j < 6) (hon : (vs.getD j [])[0]? = some (.bool false)) {Q : Int → Mem → Prop} (hQ : Q 2 S) : ideal_Ideal_Destroy S (some (b, 0)) j Q := by
  apply t_ideal_Ideal_Destroy
  unfold b_ideal_Ideal_Destroy
  simp only [jn]
  refine there_spec h hj hon ?_
  rw [if_neg (by simp)]
  exact hQ
set_option maxRecDepth 20000 in
theorem destroy_on (h : At S b f vs) {j : Nat} (hj : j < 6) {hd : List Value} {ks : List (Option Nat)} (hh : hd.length = 12) (hk : ks.length = 32) (hm : vs.getD j [] = vmc hd ks) (hon : (vs.getD j [])[0]? = some (.bool true)) (hb : Bz vs) (hf0 : 0 ≤ f) (hf1 : f ≤ 1000)
    {Q : Int → Mem → Prop} (hQ : ∀ S', Keeps S S' [b] → At S' b (f + (5 + owns ks)) (vs.set j z117) → Q 0 S') : ideal_Ideal_Destroy S (some (b, 0)) j Q := by
  have hz : z117.length = 109 := by kernel_rfl
  obtain ⟨ho0, ho1⟩ := owns_bd ks hk
  apply t_ideal_Ideal_Destroy
  unfold b_ideal_Ideal_Destroy
  simp only [jn]
  refine there_spec h hj hon ?_
  rw [if_pos rfl, nn_i]
  have hl : S.part b (0 + 656) 96 = some z63 := by
    rw [part_of h.1, lpart_i (by rw [idl_len h.2]; omega)]; exact congrArg some (idl_leases h.2)
  rw [gA_i hl]
  refine of_spec ?_
  refine lp_rule (fun (z : Int) S' => z = 0 ∧ S' = S) (fun _ => 0) ?_ ⟨rfl, rfl⟩
  rintro X z S' ⟨rfl, rfl⟩ ih
  rw [if_neg (by simp), nn_i]
  have hc : S'.cell b (0 + 1) = some (.int .i64 f) := by rw [cell_of h.1]; rfl
  rw [gI_i hc]
  refine pages_spec h hj hh hk hm ⟨hc, ?_⟩
  refine pt_i h.1 (by rw [idl_len h.2]; omega) ?_
  simp only [Nat.zero_add]
  rw [w64 (x := 5 + owns ks) (by omega) (by omega), w64 (by omega) (by omega), idl_free]
  have h1 := At.set (S := S') (b := b) (f + (5 + owns ks)) vs h.2
  revert h1
  have hk1 : Keeps S' (S'.set b (bw 122 (idl (f + (5 + owns ks)) vs))) [b] := Keeps.refl.set (by simp)
  revert hk1
  generalize S'.set b (bw 122 (idl (f + (5 + owns ks)) vs)) = S1
  generalize f + (5 + owns ks) = g at hQ ⊢
  intro hk1 h1
  refine dropVM_none h1.1 (idl_clock h.2) _ fun S2 hk2 => ?_
  have h2 := h1.keep hk2
  refine ⟨by omega, by omega, by kernel_rfl, ?_⟩
  refine pt_i h2.1 (by rw [idl_len h.2]; omega) ?_
  rw [idl_set h.2 (j := j) (by omega) hj hz]
  have h3 := At.set (S := S2) (b := b) g (vs.set j z117) (h.2.set hz)
  have hk3 : Keeps S' (S2.set b (bw 122 (idl g (vs.set j z117)))) [b] := (hk1.trans (hk2.wider (by simp))).set (by simp)
  revert h3 hk3
  generalize S2.set b (bw 122 (idl g (vs.set j z117))) = S3
  intro h3 hk3
  have hb3 : Bz (vs.set j z117) := fun i hi => by
    by_cases e : i = j
    · subst e; rw [getD_set_same (by rw [h.2.len]; exact hi)]; rfl
    · rw [getD_set_ne e]; exact hb i hi
  refine lp_rule (fun (z : Int) S' => S' = S3 ∧ ∃ i : Nat, z = i ∧ i ≤ 6) (fun z => (6 - z).toNat) ?_ ⟨rfl, 0, rfl, by omega⟩
  rintro X z S4 ⟨rfl, i, rfl, hi⟩ ih2
  by_cases hlt : i < 6
  · rw [if_pos (by omega)]
    refine ⟨by omega, by omega, ?_⟩
    have hc2 : S4.cell b (0 + 2 + (i : Int).toNat * 109 + 11) = some (.int .u32 0) := by
      rw [cell_of h3.1]; simp only; rw [idl_at h3.2 (j := i) (o := 11) (by omega) hlt (by omega), hb3 i hlt]
    rw [gI_i hc2]
    refine ⟨by omega, by omega, by omega, ?_⟩
    refine pt_i h3.1 (by rw [idl_len h3.2]; omega) ?_
    rw [iandn_zero]
    have e : spl (idl g (vs.set j z117)) (0 + 2 + (i : Int).toNat * 109 + 11) [.int .u32 0] = idl g (vs.set j z117) := spl_same (by rw [← hc2, cell_of h3.1])
    rw [e, set_self h3.1]
    exact ih2 _ _ ⟨rfl, i + 1, by rw [w64 (by omega) (by omega)]; omega, by omega⟩ (by rw [w64 (by omega) (by omega)]; omega)
  · rw [if_neg (by omega)]
    exact hQ S4 hk3 h3
end
end Go.Proofs.Ytpilffakhkagjaa
