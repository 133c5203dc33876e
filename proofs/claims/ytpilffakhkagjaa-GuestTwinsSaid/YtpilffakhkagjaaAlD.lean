/- alarm.Clock: Due. -/
import Derived.Test.YtpilffakhkagjaaAlC
namespace Go.Proofs.Ytpilffakhkagjaa
open Go Go.Pt Go.Hp
section
variable {S : Mem} {b o c : Nat} {tb t : TypeId} {cs j : List Value} {s : Sl} {l : List Al} {cap : Nat}
theorem gt_last {l : List Al} {n : Nat} (h : l.length = n + 1) : l = l.take n ++ [gt l n] := by
  rw [gt_eq (by omega), ← List.take_succ_eq_append_getElem (by omega), ← h, List.take_length]
theorem pop_spec (h : Ck S b o tb cs s l) (h0 : l ≠ []) {Q : Value → Mem → Prop}
    (hQ : ∀ S' s' m l', l.Perm (m :: l') → (∀ x ∈ l', bf x m = false) → m = gt l 0 → own s' = own s → Left' S S' b o tb cs s s' l' → Q (.iface 95 (valL (ce m))) S') : heap_Pop S (rw_ b o) Q := by
  apply t_heap_Pop
  unfold b_heap_Pop
  have hlt := nthL_lt h.cell
  have hlen := h.len
  have hpos := List.length_pos_iff.2 h0
  rcases row_open h.row with ⟨rfl, rfl⟩ | ⟨c, cap, t, j, rfl, hle, hc, hj⟩
  · exact absurd rfl h0
  · have hne : b ≠ c := h.ne c (by simp [own])
    refine ci_len h.rd ⟨_, rfl, ?_⟩
    simp only
    rw [w64 (by omega) (by omega), show (l.length : Int) - 1 = ((l.length - 1 : Nat) : Int) by omega]
    have hr : Ro S b o c t ⟨some (c, 0), l.length, cap⟩ l.length := ⟨h.rd, rfl, rfl, hne⟩
    rw [← wi_of hc]
    have e0 : (0 : Int) = ((0 : Nat) : Int) := rfl
    rw [e0]
    refine ci_swap hr (by omega) (by omega) ⟨rfl, ?_⟩
    have hsl : (sw l 0 (l.length - 1)).length = l.length := sw_length _ _ _
    refine down_spec (hr.len hsl) (by omega) (by omega) (by omega) (h.heap.pop (by omega)) fun r l2 hp2 hh2 hk2 => ?_
    have hl2 : l2.length = l.length := by rw [hp2.length_eq, hsl]
    have hlast : gt l2 (l.length - 1) = gt l 0 := by
      rw [hk2 _ (Nat.le_refl _), gt_sw (by omega) (by omega), if_pos rfl]
    have hsplit : l2 = l2.take (l.length - 1) ++ [gt l2 (l.length - 1)] := gt_last (by omega)
    have hpl : l.Perm (gt l 0 :: l2.take (l.length - 1)) := by
      have h1 : l2.Perm l := hp2.trans (sw_perm (by omega) (by omega))
      rw [hlast] at hsplit
      have h2 : l2.Perm (gt l 0 :: l2.take (l.length - 1)) := by
        conv => lhs; rw [hsplit]
        exact List.perm_append_comm (l₂ := [gt l 0])
      exact h1.symm.trans h2
    have hcell2 : (wi S c t j l2).cell b o = some (eL ⟨some (c, 0), l.length, cap⟩) := by rw [wi_cell hne]; exact h.rd
    refine ci_P (t := 148) (Tr.mono (t_alarm_row_Pop (S := wi S c t j l2) (r := some (b, o)) (Q := fun v S1 => Q v S1) ?_) (by rintro v S1 ⟨r, rfl, h⟩; exact ⟨_, rfl, h⟩))
    unfold b_alarm_row_Pop
    rw [nn_i, gL_i hcell2, sl_i]
    simp only
    rw [w64 (by omega) (by omega), show (l.length : Int) - 1 = ((l.length - 1 : Nat) : Int) by omega]
    refine ⟨by omega, by omega, ?_⟩
    rw [Int.toNat_natCast, gA_i (wi_part (by omega)), hlast]
    refine ⟨ce_one _, by omega, by omega, ?_⟩
    unfold lt
    have e1 : slc 3 ⟨some (c, 0), l.length, cap⟩ 0 ((l.length - 1 : Nat) : Int) = ⟨some (c, 0), l.length - 1, cap⟩ := by
      simp only [slc]
      rw [if_neg (by simp; omega)]; simp
    rw [e1]
    refine pt_i (t := tb) (cs := cs) (by unfold wi; rw [set_ne hne]; exact h.blk) (by omega) ?_
    have htl : (l2.take (l.length - 1)).length = l.length - 1 := by rw [List.length_take]; omega
    have e2 : wi S c t j l2 = wi S c t (ce (gt l 0) ++ j) (l2.take (l.length - 1)) := by
      unfold wi
      congr 2
      rw [hlast] at hsplit
      conv => lhs; rw [hsplit, fl_append]
      simp [fl]
    rw [e2, wi_set hne]
    have e3 : (⟨some (c, 0), l.length - 1, cap⟩ : Sl) = ⟨some (c, 0), (l2.take (l.length - 1)).length, cap⟩ := by rw [htl]
    rw [e3]
    refine hQ _ ⟨some (c, 0), (l2.take (l.length - 1)).length, cap⟩ (gt l 0) (l2.take (l.length - 1)) hpl ?_ rfl rfl ⟨ck_mk (by unfold wi; rw [set_ne hne]; exact set_same) (spl_one_get h.cell) wi_c (by omega) ?_ hne (hh2.take (by omega)) (by omega), ?_, fun x hx => .inl hx⟩
    · intro x hx
      have : x ∈ l := hpl.symm.subset (List.mem_cons_of_mem _ hx)
      obtain ⟨k, hk, rfl⟩ := List.getElem_of_mem this
      rw [← gt_eq hk]
      exact h.heap.least bf_ord bf_irr k hk
    · rw [List.length_append, ce_length, hj, htl, show cap - (l.length - 1) = (cap - l.length) + 1 by omega, Nat.add_mul]; omega
    · intro x hx hw
      simp only [own, List.mem_cons, List.not_mem_nil, or_false, not_or] at hw
      unfold wi
      rw [set_ne hw.2, set_ne hw.1]
theorem Left'.trans {S1 S2 : Mem} {s1 s2 : Sl} {l1 l2 : List Al} (hlt : o < cs.length) (h1 : Left' S S1 b o tb cs s s1 l1) (h2 : Left' S1 S2 b o tb (spl cs o [eL s1]) s1 s2 l2) : Left' S S2 b o tb cs s s2 l2 := by
  have e : spl (spl cs o [eL s1]) o [eL s2] = spl cs o [eL s2] := spl_spl1 hlt
  refine ⟨e ▸ h2.ck, ?_, ?_⟩
  · intro x hx hw
    have k1 := h1.keep x hx hw
    have : x ∉ b :: own s1 := by
      intro hm
      rcases List.mem_cons.1 hm with rfl | hm
      · exact hw (by simp)
      · rcases h1.fresh x hm with h5 | h5
        · exact hw (by simp [h5])
        · exact hx h5
    rw [h2.keep x (by rw [k1]; exact hx) this, k1]
  · intro x hx
    rcases h2.fresh x hx with h5 | h5
    · exact h1.fresh x h5
    · by_cases hm : x ∈ b :: own s
      · rcases List.mem_cons.1 hm with rfl | hm
        · rw [h1.ck.blk] at h5; cases h5
        · exact .inl hm
      · right
        cases hs : S x with
        | none => rfl
        | some k => have := h1.keep.get hs hm; rw [h5] at this; cases this
theorem Left'.refl (h : Ck S b o tb cs s l) : Left' S S b o tb cs s s l := ⟨by rw [spl_same1 h.cell]; exact h, Keeps.refl, fun x hx => .inl hx⟩
/-- A list that was told: in a block of its own. -/
structure Told (S S' : Mem) (b : Nat) (s' lo : Sl) (out : List Al) : Prop where
  row : Row S' 3 lo (fl out)
  fresh : ∀ x ∈ own lo, S x = none
  apart : ∀ x ∈ own lo, x ∉ b :: own s'
/-- In order. -/
def Rises (l : List Al) : Prop := l.Pairwise fun x y => bf y x = false
theorem Rises.snoc {l : List Al} {m : Al} (h : Rises l) (hm : ∀ x ∈ l, bf m x = false) : Rises (l ++ [m]) :=
  List.pairwise_append.2 ⟨h, List.pairwise_singleton _ _, fun x hx y hy => by rw [List.mem_singleton] at hy; subst hy; exact hm x hx⟩
theorem due_spec (h : Ck S b o tb cs s l) {now : Int} {Q : Sl → Mem → Prop}
    (hQ : ∀ S' s' l' lo out, l.Perm (out ++ l') → Rises out → (∀ x ∈ out, x.tm ≤ now) → (∀ x ∈ l', now < x.tm) → Left' S S' b o tb cs s s' l' → Told S S' b s' lo out → Q lo S') : alarm_Clock_Due S (some (b, o)) now Q := by
  apply t_alarm_Clock_Due
  unfold b_alarm_Clock_Due
  simp only [jn]
  have hlt := nthL_lt h.cell
  have hlen := h.len
  refine lp_ind (fun n (lo : Sl) S' => ∃ s' l' out, n = l'.length ∧ l.Perm (out ++ l') ∧ Rises out ∧ (∀ x ∈ out, x.tm ≤ now) ∧ (∀ x ∈ out, ∀ y ∈ l', bf y x = false) ∧ own s' = own s ∧ Left' S S' b o tb cs s s' l' ∧ Told S S' b s' lo out) ?_ (n := l.length)
    ⟨s, l, [], rfl, List.Perm.refl _, List.Pairwise.nil, by simp, by simp, rfl, Left'.refl h, Row.nil, by simp [own], by simp [own]⟩
  rintro X n lo S1 ⟨s1, l1, out, rfl, hp, hri, hdue, hle, hown1, hL, hT⟩ ih
  have hck := hL.ck
  have hlen1 : out.length + l1.length = l.length := by rw [hp.length_eq, List.length_append]
  rw [if_pos (by simp), nn_i, gL_i hck.rd]
  have hn1 : s1.n = l1.length := by
    have := hck.row.len
    rw [fl_length] at this; omega
  by_cases h0 : l1 = []
  · subst h0
    rw [if_neg (by rw [hn1]; simp)]
    exact hQ S1 s1 [] lo out hp hri hdue (by simp) hL hT
  have hpos := List.length_pos_iff.2 h0
  rw [if_pos (by omega), gL_i hck.rd]
  rcases row_open hck.row with ⟨e1, e2⟩ | ⟨c, cap, t, j, e1, hle1, hc, hj⟩
  · exact absurd e2 h0
  have hhead : S1.cell c 0 = some (.int .u64 (gt l1 0).tm) := by
    have := fl_cell (j := j) (k := 0) hpos (by decide)
    rw [cell_of hc]
    exact this
  rw [show sl s1 = sl ⟨some (c, 0), l1.length, cap⟩ by rw [← e1], sl_i]
  refine ⟨by omega, ?_⟩
  rw [gI_i hhead]
  by_cases hnow : (gt l1 0).tm ≤ now
  · rw [if_pos hnow, nn_i]
    refine pop_spec hck h0 fun S2 s2 m l2 hp2 hm2 hmg hown2 hL2 => ?_
    refine ⟨ce m, rfl, rfl, ce_one _, ?_⟩
    have hL3 := hL.trans hlt hL2
    have hb_lo : ∀ x ∈ own lo, x ∉ b :: own s1 := hT.apart
    have hrow2 : Row S2 3 lo (fl out) := row_keep hT.row hL2.keep hb_lo
    have hln2 : lo.n = out.length := by
      have := hT.row.len
      rw [fl_length] at this; omega
    refine ap_row hrow2 (by simp [ce_length]) (by decide) rfl (by omega) fun lo3 S3 c3 k hn3 hp3 hor hS3 hrow3 => ?_
    have hown3 : own lo3 = [c3] := by simp [own, hp3]
    have hc3b : c3 ∉ b :: own s2 := by
      rcases hor with e | e
      · rw [hown2]; exact hb_lo c3 (by simp [own, e])
      · exact not_own hL2.ck e
    have hc3S : S c3 = none := by
      rcases hor with e | e
      · exact hT.fresh c3 (by simp [own, e])
      · cases hs : S c3 with
        | none => rfl
        | some q =>
          have hm : c3 ∉ b :: own s := by
            have := not_own hL2.ck e
            rwa [hown2, hown1] at this
          have := hL3.keep.get hs hm
          rw [e] at this; cases this
    have hk3 : Keeps S2 S3 [c3] := by
      intro x hx hw
      rw [hS3, set_ne (by simpa using hw)]
    have hck3 : Ck S3 b o tb (spl cs o [eL s2]) s2 l2 := by
      have := hL3.ck.keep hk3 (fun hm => hc3b (by simp at hm; simp [hm])) (fun x hx hm => hc3b (by simp at hm; subst hm; simp [hx]))
      exact this
    refine ih l2.length _ _ (by have := hp2.length_eq; simp at this; omega) ⟨s2, l2, out ++ [m], rfl, ?_, ?_, ?_, ?_, hown2.trans hown1, ⟨hck3, ?_, hL3.fresh⟩, ⟨by rw [fl_append]; simpa [fl] using hrow3, ?_, ?_⟩⟩
    · refine hp.trans ?_
      rw [List.append_assoc]
      exact List.Perm.append_left _ hp2
    · exact hri.snoc fun x hx => hle x hx m (hp2.symm.subset (by simp))
    · intro x hx
      rcases List.mem_append.1 hx with hx | hx
      · exact hdue x hx
      · rw [List.mem_singleton] at hx; subst hx; rw [hmg]; exact hnow
    · intro x hx y hy
      rcases List.mem_append.1 hx with hx | hx
      · exact hle x hx y (hp2.symm.subset (by simp [hy]))
      · rw [List.mem_singleton] at hx; subst hx; exact hm2 y hy
    · intro x hx hw
      have := hL3.keep x hx hw
      rw [hS3, set_ne (fun e => by subst e; exact hx hc3S), this]
    · rw [hown3]; intro x hx; rw [List.mem_singleton] at hx; subst hx; exact hc3S
    · rw [hown3]; intro x hx; rw [List.mem_singleton] at hx; subst hx; exact hc3b
  · rw [if_neg hnow]
    refine hQ S1 s1 l1 lo out hp hri hdue (fun x hx => ?_) hL hT
    obtain ⟨k, hk, rfl⟩ := List.getElem_of_mem hx
    have := hck.heap.least bf_ord bf_irr k hk
    rw [bf_no, gt_eq hk] at this
    omega
end
end Go.Proofs.Ytpilffakhkagjaa
