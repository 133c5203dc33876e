/- AlarmPlays. -/
import Derived.Test.YtpilffakhkagjaaAlP
import Derived.Test.YtpilffakhkagjaaPfE
namespace Go.Proofs.Ytpilffakhkagjaa
open Go Go.Pt Go.Hp
theorem jn_cut {β : Type} {J : β} {B : β → Prop} (R : β → Prop) (hJ : R J) (hB : ∀ j, R j → B j) : jn J B := hB J hJ
/-- The acts of an argument. -/
def ActsIn (S : Mem) (l : Sl) : Prop := ∀ i : Nat, i < l.n → ∃ b o k v s a, l.p = some (b, o) ∧ S.part b (o + i * 4) 4 = some [.int .u8 k, .int .i64 v, .int .i64 s, .int .u64 a] ∧ (0 ≤ k ∧ k ≤ 255) ∧ (0 ≤ a ∧ a ≤ 18446744073709551615)
theorem part_keep {S S' : Mem} {b o n : Nat} {vs : List Value} (h : S.part b o n = some vs) (hk : Keeps S S' []) : S'.part b o n = some vs := by
  obtain ⟨k, h1, h2⟩ := part_e h
  rw [part_of (hk.get h1 (by simp))]; exact h2
def Bd (g : Nat → Int) : Prop := ∀ k, k < 18 → 0 ≤ g k ∧ g k ≤ 18446744073709551615
/-- The clock holds what the table says. -/
structure Tb (S S' : Mem) (b : Nat) (f : Nat → Bool) (g : Nat → Int) : Prop where
  mine : ∃ l, Mine S S' b l ∧ l.Perm (tab f g)
  bd : Bd g
theorem Tb.keep {S S' : Mem} {b : Nat} {f : Nat → Bool} {g : Nat → Int} (h : Tb S S' b f g) : Keeps S S' [] := by
  obtain ⟨l, h1, _⟩ := h.mine; exact h1.keep
theorem Tb.congr {S S' : Mem} {b : Nat} {f f' : Nat → Bool} {g g' : Nat → Int} (h : Tb S S' b f g) (hf : ∀ k, k < 18 → f k = f' k) (hg : ∀ k, k < 18 → g k = g' k) : Tb S S' b f' g' := by
  obtain ⟨l, h1, h2⟩ := h.mine
  refine ⟨⟨l, h1, h2.trans (perm_of_mem (tab_nodup _ _) (tab_nodup _ _) fun x => ?_)⟩, fun k hk => hg k hk ▸ h.bd k hk⟩
  rw [mem_tab, mem_tab]
  constructor
  · rintro ⟨k, a1, a2, rfl⟩; exact ⟨k, a1, by rw [← hf k a1]; exact a2, by simp only [al1, hg k a1]⟩
  · rintro ⟨k, a1, a2, rfl⟩; exact ⟨k, a1, by rw [hf k a1]; exact a2, by simp only [al1, hg k a1]⟩
theorem Bd.up {g : Nat → Int} (h : Bd g) (k : Nat) {t : Int} (h0 : 0 ≤ t) (h1 : t ≤ 18446744073709551615) : Bd (up g k t) := fun m hm => by
  unfold Go.Proofs.Ytpilffakhkagjaa.up
  split
  · exact ⟨h0, h1⟩
  · exact h m hm
section
variable {S S1 : Mem} {b : Nat} {f : Nat → Bool} {g : Nat → Int}
theorem cnt_small (f : Nat → Bool) : cnt f 18 ≤ 18 := cnt_le f 18
/-- All, of a table. -/
theorem tb_all (h : Tb S S1 b f g) {Q : Sl → Mem → Prop} (hQ : ∀ S' lo out, out.Perm (tab f g) → Rises out → Tb S S' b f g → Row S' 3 lo (fl out) → Q lo S') : alarm_Clock_All S1 (some (b, 0)) Q := by
  obtain ⟨l, h1, h2⟩ := h.mine
  exact mine_all h1 fun S' lo out hp hr hM hrow => hQ S' lo out (hp.trans h2) hr ⟨⟨l, hM, h2⟩, h.bd⟩ hrow
theorem tb_drop (h : Tb S S1 b f g) {vm seat : Int} {Q : Mem → Prop} (hQ : ∀ S', Tb S S' b (fun k => f k && ! (decide (((k / 3 : Nat) : Int) = vm) && decide (((k % 3 : Nat) : Int) = seat))) g → Q S') : alarm_Clock_Drop S1 (some (b, 0)) vm seat Q := by
  obtain ⟨l, h1, h2⟩ := h.mine
  refine mine_drop h1 fun S' l' hp hM => hQ S' ⟨⟨l', hM, hp.trans ((h2.filter _).trans (tab_filter fun k _ => rfl))⟩, h.bd⟩
theorem tb_dropVM (h : Tb S S1 b f g) {vm : Int} {Q : Mem → Prop} (hQ : ∀ S', Tb S S' b (fun k => f k && ! decide (((k / 3 : Nat) : Int) = vm)) g → Q S') : alarm_Clock_DropVM S1 (some (b, 0)) vm Q := by
  obtain ⟨l, h1, h2⟩ := h.mine
  refine mine_dropVM h1 fun S' l' hp hM => hQ S' ⟨⟨l', hM, hp.trans ((h2.filter _).trans (tab_filter fun k _ => rfl))⟩, h.bd⟩
theorem tb_set (h : Tb S S1 b f g) {v s : Nat} (hv : v < 6) (hs : s < 3) {t : Int} (ht0 : 0 ≤ t) (ht1 : t ≤ 18446744073709551615) {Q : Int → Mem → Prop} (hQ : ∀ S', Tb S S' b (up f (v * 3 + s) true) (up g (v * 3 + s) t) → Q 0 S') : alarm_Clock_Set S1 (some (b, 0)) v s t Q := by
  obtain ⟨l, h1, h2⟩ := h.mine
  have hlen : l.length ≤ 18 := by rw [h2.length_eq, tab_length]; exact cnt_small f
  refine mine_set h1 (by omega) (by omega) (by omega) (by omega) (by omega) fun S' l' hp hM => hQ S' ⟨⟨l', hM, hp.trans ((List.Perm.cons _ (h2.filter _)).trans (tab_set hv hs))⟩, h.bd.up _ ht0 ht1⟩
theorem set_no {S : Mem} {b : Nat} {vm seat tm : Int} (h : ¬ (0 ≤ vm ∧ vm < 6 ∧ 0 ≤ seat ∧ seat < 3)) {Q : Int → Mem → Prop} (hQ : Q 1 S) : alarm_Clock_Set S (some (b, 0)) vm seat tm Q := by
  apply t_alarm_Clock_Set
  unfold b_alarm_Clock_Set
  simp only [jn]
  rw [if_neg (by simp)]
  by_cases h1 : vm < 0
  · rw [if_pos h1]; exact hQ
  rw [if_neg h1]
  by_cases h2 : 6 ≤ vm
  · rw [if_pos h2]; exact hQ
  rw [if_neg h2]
  by_cases h3 : seat < 0
  · rw [if_pos h3]; exact hQ
  rw [if_neg h3, if_pos (by omega)]
  exact hQ
theorem later_bd {d x : Int} (h0 : 0 ≤ d) (h1 : 0 ≤ x) : 0 ≤ later d x ∧ later d x ≤ 18446744073709551615 := by
  unfold later; split <;> omega
theorem tb_shift (h : Tb S S1 b f g) {d : Int} (hd0 : 0 ≤ d) (hd1 : d ≤ 18446744073709551615) {Q : Mem → Prop} (hQ : ∀ S', Tb S S' b f (fun k => later d (g k)) → Q S') : alarm_Clock_Shift S1 (some (b, 0)) d Q := by
  obtain ⟨l, h1, h2⟩ := h.mine
  refine mine_shift h1 hd0 hd1 (fun a ha => ?_) fun S' l' hp hM => hQ S' ⟨⟨l', hM, hp.trans ((h2.map _).trans (List.Perm.of_eq (tab_map f g d)))⟩, fun k hk => later_bd hd0 (h.bd k hk).1⟩
  obtain ⟨k, hk, _, rfl⟩ := mem_tab.1 (h2.subset ha)
  exact h.bd k hk
theorem tb_due (h : Tb S S1 b f g) {now : Int} {Q : Sl → Mem → Prop} (hQ : ∀ S' lo out, (∀ x ∈ out, ∃ k, k < 18 ∧ f k = true ∧ x = al1 g k ∧ g k ≤ now) → out.Nodup → out.length ≤ 18 → Rises out → (∀ k, k < 18 → fAfter f out out.length k = (f k && decide (now < g k))) → Tb S S' b (fAfter f out out.length) g → Row S' 3 lo (fl out) → Q lo S') : alarm_Clock_Due S1 (some (b, 0)) now Q := by
  obtain ⟨l, h1, h2⟩ := h.mine
  refine mine_due h1 fun S' l' lo out hp hr hle hgt hM hrow => ?_
  have hp' := h2.symm.trans hp
  obtain ⟨e1, e2⟩ := told_split hp' hle hgt
  have hnd : (out ++ l').Nodup := hp'.nodup_iff.1 (tab_nodup f g)
  refine hQ S' lo out (fun x hx => ?_) (List.nodup_append.1 hnd).1 (by have e := hp'.length_eq; rw [tab_length, List.length_append] at e; have := cnt_small f; omega) hr e1 ((⟨⟨l', hM, e2⟩, h.bd⟩ : Tb S S' b _ g).congr (fun k hk => (e1 k hk).symm) fun _ _ => rfl) hrow
  obtain ⟨k, hk, hf, rfl⟩ := mem_tab.1 (hp'.symm.subset (List.mem_append_left _ hx))
  exact ⟨k, hk, hf, rfl, hle _ hx⟩
end
end Go.Proofs.Ytpilffakhkagjaa
