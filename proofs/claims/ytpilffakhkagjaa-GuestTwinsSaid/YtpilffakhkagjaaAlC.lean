/- alarm.Clock: Drop, DropVM, Set, Due. -/
import Derived.Test.YtpilffakhkagjaaAlB
namespace Go.Proofs.Ytpilffakhkagjaa
open Go Go.Pt Go.Hp
theorem spl_same1 : ∀ {cs : List Value} {o : Nat} {v : Value}, nthL cs o = some v → spl cs o [v] = cs
  | [], _, _, h => by simp [nthL] at h
  | x :: cs, 0, v, h => by simp only [nthL, Option.some.injEq] at h; subst h; simp [spl]
  | x :: cs, n + 1, v, h => by simp only [nthL] at h; simp only [spl, spl_same1 h]
theorem spl_spl1 : ∀ {cs : List Value} {o : Nat} {v w : Value}, o < cs.length → spl (spl cs o [v]) o [w] = spl cs o [w]
  | [], _, _, _, h => by simp at h
  | x :: cs, 0, v, w, h => by simp [spl]
  | x :: cs, n + 1, v, w, h => by simp only [spl]; rw [spl_spl1 (by simpa using h)]
theorem index_nil {S : Mem} (fv : Value) {Q : Int → Mem → Prop} (hQ : Q (-1) S) : slices_IndexFunc_alarm_row_alarm_Alarm S ⟨none, 0, 0⟩ fv Q := by
  apply t_slices_IndexFunc_alarm_row_alarm_Alarm
  unfold b_slices_IndexFunc_alarm_row_alarm_Alarm
  simp only [jn]
  refine lp_rule (fun (z : Int) S' => z = 0 ∧ S' = S) (fun _ => 0) ?_ ⟨rfl, rfl⟩
  rintro X z S' ⟨rfl, rfl⟩ ih
  rw [if_neg (by simp)]
  exact hQ
theorem delete_nil {S : Mem} (fv : Value) {Q : Sl → Mem → Prop} (hQ : Q ⟨none, 0, 0⟩ S) : slices_DeleteFunc_alarm_row_alarm_Alarm S ⟨none, 0, 0⟩ fv Q := by
  apply t_slices_DeleteFunc_alarm_row_alarm_Alarm
  unfold b_slices_DeleteFunc_alarm_row_alarm_Alarm
  refine index_nil fv ?_
  simp only [jn]
  rw [if_pos trivial]
  exact hQ
theorem init_nil {S : Mem} {b o : Nat} (hc : S.cell b o = some (.slice none 0 0)) {Q : Mem → Prop} (hQ : Q S) : heap_Init S (rw_ b o) Q := by
  apply t_heap_Init
  unfold b_heap_Init
  refine ci_len (s := ⟨none, 0, 0⟩) hc ⟨0, rfl, ?_⟩
  refine lp_rule (fun (z : Int) S' => z = -1 ∧ S' = S) (fun _ => 0) ?_ ⟨rfl, rfl⟩
  rintro X z S' ⟨rfl, rfl⟩ ih
  rw [if_neg (by decide)]
  exact hQ
section
variable {S : Mem} {b o c : Nat} {tb t : TypeId} {cs j : List Value} {s : Sl} {l : List Al} {cap : Nat} {fv : Value} {p : Al → Bool}
theorem spl_one_get {v w : Value} (h : nthL cs o = some w) : nthL (spl cs o [v]) o = some v := by
  have := nthL_lt h
  rw [nthL_eq, spl_get (by simp; omega), if_pos (by simp)]; simp
theorem wi_of (h : S c = some (bw t (fl l ++ j))) : wi S c t j l = S := set_self h
theorem wi_set {k : Blk} (h : b ≠ c) : (wi S c t j l).set b k = wi (S.set b k) c t j l := set_comm h
theorem wi_wi {j' : List Value} {l' : List Al} : wi (wi S c t j l) c t j' l' = wi S c t j' l' := set_set
/-- What an operation on a clock leaves. -/
structure Left' (S S' : Mem) (b o : Nat) (tb : TypeId) (cs : List Value) (s s' : Sl) (l' : List Al) : Prop where
  ck : Ck S' b o tb (spl cs o [eL s']) s' l'
  keep : Keeps S S' (b :: own s)
  fresh : ∀ x ∈ own s', x ∈ own s ∨ S x = none
theorem ck_mk {S' : Mem} {l' : List Al} (hb : S' b = some (bw tb cs)) (hcell : nthL cs o = some (eL ⟨some (c, 0), l'.length, cap⟩)) (hc : S' c = some (bw t (fl l' ++ j))) (hle : l'.length ≤ cap) (hj : j.length = (cap - l'.length) * 3) (hne : b ≠ c) (hh : Heap bf l') (hl : l'.length < 100000) :
    Ck S' b o tb cs ⟨some (c, 0), l'.length, cap⟩ l' := ⟨hb, hcell, row_mk hc hle hj, fun x hx => by simp only [own, List.mem_singleton] at hx; subst hx; exact hne, hh, hl⟩
theorem Ck.start (h : S b = some (bw tb cs)) (hc : nthL cs o = some (.slice none 0 0)) : Ck S b o tb cs ⟨none, 0, 0⟩ [] :=
  ⟨h, hc, Row.nil, fun x hx => by simp [own] at hx, fun k h1 h2 => by simp at h2, by simp⟩
theorem drop_spec (h : Ck S b o tb cs s l) (hf : Tells S (b :: own s) fv p) {Q : Mem → Prop} (hQ : ∀ S' s' l', l'.Perm (l.filter fun a => ! p a) → Left' S S' b o tb cs s s' l' → Q S') : alarm_Clock_drop S (some (b, o)) fv Q := by
  apply t_alarm_Clock_drop
  unfold b_alarm_Clock_drop
  rw [if_pos (by simp), nn_i, gL_i h.rd]
  rcases row_open h.row with ⟨rfl, rfl⟩ | ⟨c, cap, t, j, rfl, hle, hc, hj⟩
  · refine delete_nil fv ?_
    have hlt := nthL_lt h.cell
    refine pt_i h.blk (by omega) ?_
    have e : spl cs o [eL ⟨none, 0, 0⟩] = cs := spl_same1 h.cell
    rw [e, set_self h.blk]
    refine init_nil h.rd (hQ S ⟨none, 0, 0⟩ [] (List.Perm.refl _) ⟨by rw [e]; exact h, Keeps.refl, fun x hx => .inl hx⟩)
  · have hne : b ≠ c := h.ne c (by simp [own])
    have hlen := h.len
    have hlt := nthL_lt h.cell
    rw [← wi_of hc]
    refine delete_spec (fun S' a R hk hR => hf S' a R (hk.wider (by simp [own])) hR) hlen hle hj fun l' j' hl' hle' hj' => ?_
    have hfl : l'.length ≤ l.length := by rw [hl']; exact List.length_filter_le _ _
    refine pt_i (t := tb) (cs := cs) (by unfold wi; rw [set_ne hne]; exact h.blk) (by omega) ?_
    rw [wi_set hne]
    have hb' : (S.set b (bw tb (spl cs o [eL ⟨some (c, 0), l'.length, cap⟩]))) b = some (bw tb (spl cs o [eL ⟨some (c, 0), l'.length, cap⟩])) := set_same
    refine init_spec (s := ⟨some (c, 0), l'.length, cap⟩) ⟨by rw [cell_of hb']; exact spl_one_get h.cell, rfl, rfl, hne⟩ (by omega) fun l2 hp hh => ?_
    have hlen2 := hp.length_eq
    have hx : (⟨some (c, 0), l'.length, cap⟩ : Sl) = ⟨some (c, 0), l2.length, cap⟩ := by rw [hlen2]
    rw [hx]
    refine hQ _ ⟨some (c, 0), l2.length, cap⟩ l2 (hl' ▸ hp) ⟨ck_mk (by unfold wi; rw [set_ne hne]; exact set_same) (spl_one_get h.cell) wi_c (by omega) (by rw [hlen2]; exact hj') hne hh (by omega), ?_, fun x hx => .inl hx⟩
    intro x hx hw
    simp only [own, List.mem_cons, List.not_mem_nil, or_false, not_or] at hw
    unfold wi
    rw [set_ne hw.2, set_ne hw.1]
theorem Left'.of {S1 S' : Mem} {s' : Sl} {l' : List Al} (h : Left' S1 S' b o tb cs s s' l') (hk : Keeps S S1 []) : Left' S S' b o tb cs s s' l' :=
  ⟨h.ck, (hk.wider (by simp)).trans h.keep, fun x hx => (h.fresh x hx).imp id fun e => by
    cases hs : S x with
    | none => rfl
    | some k => have := hk.get hs (by simp); rw [e] at this; cases this⟩
theorem not_own {x : Nat} (h : Ck S b o tb cs s l) (hx : S x = none) : x ∉ b :: own s := by
  intro hm
  rcases List.mem_cons.1 hm with rfl | hm
  · rw [h.blk] at hx; cases hx
  · obtain ⟨k, hk⟩ := own_row h.row hm; rw [hk] at hx; cases hx
theorem dropVM_spec (h : Ck S b o tb cs s l) {vm : Int} {Q : Mem → Prop} (hQ : ∀ S' s' l', l'.Perm (l.filter fun a => ! decide (a.vm = vm)) → Left' S S' b o tb cs s s' l' → Q S') : alarm_Clock_DropVM S (some (b, o)) vm Q := by
  apply t_alarm_Clock_DropVM
  unfold b_alarm_Clock_DropVM
  intro b1 hb1
  have hk1 : Keeps S (S.set b1 (bw 3 [.int .i64 vm])) [] := Keeps.refl.new hb1
  have h1 := h.keep hk1 (by simp) (by simp)
  refine drop_spec h1 (p := fun a => decide (a.vm = vm)) ?_ fun S' s' l' hp hL => hQ S' s' l' hp (hL.of hk1)
  intro S' a R hk hR
  have g1 : S' b1 = some (bw 3 [.int .i64 vm]) := hk.get set_same (not_own h hb1)
  refine ⟨65, [_], rfl, inferInstance, Tr.mono (t_alarm_Clock_DropVM_f1 (S := S') (a := ce a) (t := some (b1, 0)) (Q := fun r S2 => R (.bool r) S2) ?_) (by rintro v S2 ⟨r, rfl, h⟩; exact h)⟩
  unfold b_alarm_Clock_DropVM_f1
  refine ⟨rfl, ?_⟩
  rw [gI_i (show nthL (ce a) 1 = some (.int .i64 a.vm) from rfl), nn_i, gI_i (by rw [cell_of g1]; rfl)]
  exact hR
theorem drop1_spec (h : Ck S b o tb cs s l) {vm seat : Int} {Q : Mem → Prop} (hQ : ∀ S' s' l', l'.Perm (l.filter fun a => ! (decide (a.vm = vm) && decide (a.seat = seat))) → Left' S S' b o tb cs s s' l' → Q S') : alarm_Clock_Drop S (some (b, o)) vm seat Q := by
  apply t_alarm_Clock_Drop
  unfold b_alarm_Clock_Drop
  intro b1 hb1 b2 hb2
  have hk1 : Keeps S (S.set b1 (bw 3 [.int .i64 vm])) [] := Keeps.refl.new hb1
  have hk2 : Keeps (S.set b1 (bw 3 [.int .i64 vm])) ((S.set b1 (bw 3 [.int .i64 vm])).set b2 (bw 3 [.int .i64 seat])) [] := Keeps.refl.new hb2
  have h1 := h.keep hk1 (by simp) (by simp)
  have h2 := h1.keep hk2 (by simp) (by simp)
  have n12 : b1 ≠ b2 := fun e => by subst e; simp at hb2
  refine drop_spec h2 (p := fun a => decide (a.vm = vm) && decide (a.seat = seat)) ?_ fun S' s' l' hp hL => hQ S' s' l' hp (hL.of (hk1.trans hk2))
  intro S' a R hk hR
  have g1 : S' b1 = some (bw 3 [.int .i64 vm]) := hk.get (by rw [set_ne n12]; exact set_same) (not_own h hb1)
  have g2 : S' b2 = some (bw 3 [.int .i64 seat]) := hk.get set_same (not_own h1 hb2)
  refine ⟨64, [_, _], rfl, inferInstance, Tr.mono (t_alarm_Clock_Drop_f1 (S := S') (a := ce a) (t := some (b1, 0)) (t_1 := some (b2, 0)) (Q := fun r S2 => R (.bool r) S2) ?_) (by rintro v S2 ⟨r, rfl, h⟩; exact h)⟩
  unfold b_alarm_Clock_Drop_f1
  refine ⟨rfl, ?_⟩
  rw [gI_i (show nthL (ce a) 1 = some (.int .i64 a.vm) from rfl), nn_i, gI_i (by rw [cell_of g1]; rfl)]
  by_cases e : a.vm = vm
  · rw [if_pos e, gI_i (show nthL (ce a) 2 = some (.int .i64 a.seat) from rfl), nn_i, gI_i (by rw [cell_of g2]; rfl)]
    simpa [e] using hR
  · rw [if_neg e]
    simpa [e] using hR
theorem push_spec (h : Ck S b o tb cs s l) (hl : l.length + 1 < 100000) {a : Al} {Q : Mem → Prop} (hQ : ∀ S' s' l', l'.Perm (a :: l) → Left' S S' b o tb cs s s' l' → Q S') :
    heap_Push S (rw_ b o) (.iface 95 (valL (ce a))) Q := by
  apply t_heap_Push
  unfold b_heap_Push
  have hlt := nthL_lt h.cell
  have hlim : (2 * (s.n + 1) + 1024) * 24 ≤ 281474976710656 := by
    have h1 := h.row.len
    rw [fl_length] at h1
    omega
  refine ci_P (t := 148) (Tr.mono (t_alarm_row_Push (S := S) (r := some (b, o)) (x := .iface 95 (valL (ce a))) (Q := fun S1 => ∃ s1, Row S1 3 s1 (fl (l ++ [a])) ∧ Keeps S S1 (b :: own s) ∧ S1 b = some (bw tb (spl cs o [eL s1])) ∧ (∀ x ∈ own s1, b ≠ x) ∧ (∀ x ∈ own s1, x ∈ own s ∨ S x = none)) ?_) ?_)
  · unfold b_alarm_row_Push
    rw [nn_i, gL_i h.rd]
    refine ⟨ce a, rfl, rfl, ce_one _, ?_⟩
    refine ap_row h.row (by simp [ce_length]) (by decide) rfl hlim fun s1 S1 c1 k hn hp1 hor hS1 hrow => ?_
    have hbc : b ≠ c1 := by
      rcases hor with e | e
      · exact h.ne c1 (by simp [own, e])
      · intro e2; subst e2; rw [h.blk] at e; cases e
    have hb1 : S1 b = some (bw tb cs) := by rw [hS1, set_ne hbc]; exact h.blk
    refine pt_i hb1 (by omega) ?_
    have hown : own s1 = [c1] := by simp [own, hp1]
    refine ⟨s1, ?_, ?_, set_same, ?_, ?_⟩
    · rw [fl_append]
      refine hrow.keep fun x hx => ?_
      have : x = c1 := by rw [hp1] at hx; cases hx; rfl
      subst this
      rw [set_ne (fun e => hbc e.symm)]
    · intro x hx hw
      rw [set_ne (fun e => hw (by simp [e])), hS1]
      rcases hor with e | e
      · exact set_ne (fun e2 => hw (by simp [own, e, e2]))
      · exact set_ne (fun e2 => hx (by rw [e2]; exact e))
    · rw [hown]; intro x hx; rw [List.mem_singleton] at hx; subst hx; exact hbc
    · rw [hown]; intro x hx; rw [List.mem_singleton] at hx; subst hx
      exact hor.imp (fun e => by simp [own, e]) id
  · rintro v S1 ⟨rfl, s1, hrow, hk, hb1, hne, hfr⟩
    refine ⟨rfl, ?_⟩
    rcases row_open hrow with ⟨rfl, h0⟩ | ⟨c, cap, t, j, rfl, hle, hc, hj⟩
    · simp at h0
    · have hcell1 : S1.cell b o = some (eL ⟨some (c, 0), (l ++ [a]).length, cap⟩) := by rw [cell_of hb1]; exact spl_one_get h.cell
      have hbc := hne c (by simp [own])
      refine ci_len hcell1 ⟨_, rfl, ?_⟩
      simp only [List.length_append, List.length_singleton]
      rw [w64 (by omega) (by omega), show ((l.length + 1 : Nat) : Int) - 1 = (l.length : Int) by omega]
      rw [← wi_of hc]
      refine up_spec (s := ⟨some (c, 0), (l ++ [a]).length, cap⟩) ⟨hcell1, rfl, rfl, hbc⟩ (by simp) (by simp; omega) (Up.start h.heap) fun l' hp hh => ?_
      have hlen := hp.length_eq
      have hx : (⟨some (c, 0), (l ++ [a]).length, cap⟩ : Sl) = ⟨some (c, 0), l'.length, cap⟩ := by rw [hlen]
      rw [hx] at hb1
      refine hQ _ ⟨some (c, 0), l'.length, cap⟩ l' (hp.trans (List.perm_append_comm (l₁ := l) (l₂ := [a]))) ⟨ck_mk (by unfold wi; rw [set_ne hbc]; exact hb1) (spl_one_get h.cell) wi_c (by omega) (by rw [hlen]; exact hj) hbc hh (by rw [hlen]; simp; omega), ?_, ?_⟩
      · intro x hx2 hw
        by_cases e : x = c
        · subst e
          rcases hfr x (by simp [own]) with h3 | h3
          · exact absurd (List.mem_cons_of_mem _ h3) hw
          · exact absurd h3 hx2
        · unfold wi; rw [set_ne e]; exact hk x hx2 hw
      · intro x hx2; exact hfr x hx2
theorem set_spec (h : Ck S b o tb cs s l) (hl : l.length + 1 < 100000) {vm seat tm : Int} (h1 : 0 ≤ vm) (h2 : vm < 6) (h3 : 0 ≤ seat) (h4 : seat < 3) {Q : Int → Mem → Prop}
    (hQ : ∀ S' s' l', l'.Perm (⟨tm, vm, seat⟩ :: l.filter fun a => ! (decide (a.vm = vm) && decide (a.seat = seat))) → Left' S S' b o tb cs s s' l' → Q 0 S') : alarm_Clock_Set S (some (b, o)) vm seat tm Q := by
  apply t_alarm_Clock_Set
  unfold b_alarm_Clock_Set
  simp only [jn]
  rw [if_neg (by simp), if_neg (by omega), if_neg (by omega), if_neg (by omega), if_neg (by omega)]
  refine drop1_spec h fun S1 s1 l1 hp1 hL1 => ?_
  rw [nn_i]
  have hlen1 : l1.length ≤ l.length := by rw [hp1.length_eq]; exact List.length_filter_le _ _
  refine push_spec (a := ⟨tm, vm, seat⟩) hL1.ck (by omega) fun S2 s2 l2 hp2 hL2 => hQ S2 s2 l2 (hp2.trans (hp1.cons _)) ?_
  have hlt := nthL_lt h.cell
  have e : spl (spl cs o [eL s1]) o [eL s2] = spl cs o [eL s2] := spl_spl1 hlt
  refine ⟨e ▸ hL2.ck, ?_, ?_⟩
  · intro x hx hw
    have k1 := hL1.keep x hx hw
    have : x ∉ b :: own s1 := by
      intro hm
      rcases List.mem_cons.1 hm with rfl | hm
      · exact hw (by simp)
      · rcases hL1.fresh x hm with h5 | h5
        · exact hw (by simp [h5])
        · exact hx h5
    rw [hL2.keep x (by rw [k1]; exact hx) this, k1]
  · intro x hx
    rcases hL2.fresh x hx with h5 | h5
    · exact hL1.fresh x h5
    · by_cases hm : x ∈ b :: own s
      · rcases List.mem_cons.1 hm with rfl | hm
        · rw [hL1.ck.blk] at h5; cases h5
        · exact .inl hm
      · right
        cases hs : S x with
        | none => rfl
        | some k => have := hL1.keep.get hs hm; rw [h5] at this; cases this
end
end Go.Proofs.Ytpilffakhkagjaa
