/- State.Twin. -/
import Derived.Test.YtpilffakhkagjaaGuL
namespace Go.Proofs.Ytpilffakhkagjaa
open Go Go.Pt
/-- In the midst of the twin's making: the first VMs are copies. -/
structure Half (S S' : Mem) (b1 ob kb : Nat) (now : Int) (as_ : List Va) (xs ys : List Vs) (le tu : List Value) (i : Nat) : Prop where
  ly : ys.length = i
  keep : Keeps S S' []
  blk : S' b1 = some (bw 68 (stc 1 now (vmsOf as_ (ys ++ xs.drop i)) (some (ob, 0)) (some (kb, 0)) le tu))
  is_ : ∀ j (h1 : j < as_.length) (h2 : j < ys.length), VmIs S' as_[j] ys[j]
  nodup : (blksOf ys).Nodup
  fresh : ∀ x ∈ blksOf ys, S x = none ∧ x ≠ b1
theorem blksOf_snoc (ys : List Vs) (x : Vs) : blksOf (ys ++ [x]) = blksOf ys ++ x.blks := by simp [blksOf]
theorem vms_step {as_ : List Va} {xs ys : List Vs} {i : Nat} (ha : i < as_.length) (hx : i < xs.length) (hy : ys.length = i) (x' : Vs) : (vmsOf as_ (ys ++ xs.drop i)).set i (vc as_[i] x') = vmsOf as_ ((ys ++ [x']) ++ xs.drop (i + 1)) := by
  subst hy
  apply List.ext_getElem?
  intro k
  rw [List.getElem?_set]
  simp only [vmsOf, List.getElem?_zipWith, List.length_zipWith]
  have hd : xs.drop ys.length = xs[ys.length] :: xs.drop (ys.length + 1) := List.drop_eq_getElem_cons hx
  by_cases hk : ys.length = k
  · subst hk
    rw [if_pos rfl, if_pos (by rw [hd]; simp; omega), List.getElem?_eq_getElem ha]
    simp
  · rw [if_neg hk, hd]
    congr 1
    by_cases h2 : k < ys.length
    · rw [List.getElem?_append_left h2, List.append_assoc, List.getElem?_append_left h2]
    · rw [List.getElem?_append_right (by omega), List.append_assoc, List.getElem?_append_right (by omega)]
      have : k - ys.length = (k - ys.length - 1) + 1 := by omega
      rw [this]; simp; congr 1; omega
theorem vms_at {as_ : List Va} {xs ys : List Vs} {i : Nat} (ha : i < as_.length) (hx : i < xs.length) (hy : ys.length = i) (h : i < (vmsOf as_ (ys ++ xs.drop i)).length) : (vmsOf as_ (ys ++ xs.drop i))[i] = vc as_[i] xs[i] := by
  subst hy
  simp only [vmsOf, List.getElem_zipWith]
  congr 1
  rw [List.getElem_append_right (Nat.le_refl _)]
  simp
section
variable {S0 S : Mem} {b ob rb kb : Nat} {now : Int} {as_ : List Va} {xs : List Vs} {rows : List (List Value)} {le tu : List Value} {s : Sl} {l : List Al}
theorem half_step {S' S'' : Mem} {b1 : Nat} {ys : List Vs} {i : Nat} {x' : Vs} (hb1 : S b1 = none) (hH : Half S S' b1 ob kb now as_ xs ys le tu i) (ha : i < as_.length) (hx : i < xs.length) (hc : CopyOk S' S'' as_[i] x') :
    Half S (S''.set b1 (bw 68 (stc 1 now (vmsOf as_ ((ys ++ [x']) ++ xs.drop (i + 1))) (some (ob, 0)) (some (kb, 0)) le tu))) b1 ob kb now as_ xs (ys ++ [x']) le tu (i + 1) := by
  have hnb : b1 ∉ x'.blks := fun hm => by have := hc.fresh b1 hm; rw [hH.blk] at this; cases this
  have hk2 : Keeps S'' (S''.set b1 (bw 68 (stc 1 now (vmsOf as_ ((ys ++ [x']) ++ xs.drop (i + 1))) (some (ob, 0)) (some (kb, 0)) le tu))) [b1] := fun x _ hw => set_ne (by simpa using hw)
  have key : ∀ j (h1 : j < as_.length) (h2 : j < (ys ++ [x']).length), VmIs (S''.set b1 (bw 68 (stc 1 now (vmsOf as_ ((ys ++ [x']) ++ xs.drop (i + 1))) (some (ob, 0)) (some (kb, 0)) le tu))) as_[j] (ys ++ [x'])[j] := by
    intro j h1 h2
    have hly := hH.ly
    by_cases e : j < ys.length
    · rw [List.getElem_append_left e]
      refine ((hH.is_ j h1 e).keep hc.keep (by simp)).keep hk2 fun q hq hm => ?_
      rw [List.mem_singleton] at hm
      have hmem : q ∈ blksOf ys := List.mem_flatMap.2 ⟨_, List.getElem_mem e, hq⟩
      exact (hH.fresh q hmem).2 hm
    · have e2 : j = i := by simp at h2; omega
      subst e2
      rw [List.getElem_append_right (by omega)]
      simp only [hly, Nat.sub_self, List.getElem_cons_zero]
      exact hc.is_.keep hk2 fun q hq hm => by rw [List.mem_singleton] at hm; subst hm; exact hnb hq
  refine ⟨by simp [hH.ly], fun x hx2 hw => ?_, set_same, key, ?_, ?_⟩
  · rw [set_ne (fun e => by subst e; exact hx2 hb1), (hH.keep.trans hc.keep) x hx2 hw]
  · rw [blksOf_snoc]
    refine nodup_app hH.nodup hc.nodup fun q hq hm => ?_
    obtain ⟨v, hv, hqv⟩ := List.mem_flatMap.1 hm
    obtain ⟨j, hj, rfl⟩ := List.getElem_of_mem hv
    have hly := hH.ly
    exact (hH.is_ j (by omega) hj).held hqv (hc.fresh q hq)
  · intro q hq
    rw [blksOf_snoc] at hq
    rcases List.mem_append.1 hq with hq | hq
    · exact hH.fresh q hq
    · exact ⟨fresh_of hH.keep (hc.fresh q hq), fun e => by subst e; exact hnb hq⟩
/-- What Twin leaves: the same state, in blocks of its own. -/
theorem stateTwin_spec (h : Stb S0 S b ob rb kb now as_ xs rows le tu s l) {Q : Pt → Mem → Prop}
    (hQ : ∀ S' b' ob' rb' kb' ys s', Keeps S S' [] → Sta S S' b' ob' rb' kb' now as_ ys rows le tu s' l → Q (some (b', 0)) S') : guest_State_Twin S (some (b, 0)) Q := by
  have hv := h.st.vms
  have hlen := stc_length (form := 1) (now := now) (ow := some (ob, 0)) (ck := some (kb, 0)) hv h.st.le h.st.tu
  apply t_guest_State_Twin
  unfold b_guest_State_Twin
  simp only [jn]
  rw [if_neg (by simp), nn_i]
  have hpart : S.part b 0 190 = some (stc 1 now (vmsOf as_ xs) (some (ob, 0)) (some (kb, 0)) le tu) := by
    rw [part_of h.st.blk, lpart_i (by simp only; omega)]
    congr 1
    rw [List.drop_zero, ← hlen, List.take_length]
  rw [gA_i hpart]
  intro b1 hb1
  refine ⟨stc_one h.one.1 h.one.2, ?_⟩
  have hz : z68.length = 190 := by kernel_rfl
  refine pt_i set_same (by omega) ?_
  have hsp : spl z68 0 (stc 1 now (vmsOf as_ xs) (some (ob, 0)) (some (kb, 0)) le tu) = stc 1 now (vmsOf as_ xs) (some (ob, 0)) (some (kb, 0)) le tu := by
    rw [spl_eq _ _ _ (by omega), Nat.zero_add, hlen, List.drop_eq_nil_of_le (by omega)]
    simp
  rw [hsp, set_set]
  have hH0 : Half S (S.set b1 (bw 68 (stc 1 now (vmsOf as_ xs) (some (ob, 0)) (some (kb, 0)) le tu))) b1 ob kb now as_ xs [] le tu 0 :=
    ⟨rfl, Keeps.refl.new hb1, by simp, fun j h1 h2 => by simp at h2, by simp [blksOf], by simp [blksOf]⟩
  refine lp_rule (fun (z : Int) S' => ∃ (i : Nat) (ys : List Vs), z = (i : Int) ∧ i ≤ 6 ∧ Half S S' b1 ob kb now as_ xs ys le tu i) (fun z => (6 - z).toNat) ?_ ⟨0, [], rfl, by omega, hH0⟩
  rintro X z S' ⟨i, ys, rfl, hi, hH⟩ ih
  have ha := h.la
  have hx := h.lx
  by_cases hlt : (i : Int) < 6
  · rw [if_pos hlt]
    refine ⟨by omega, hlt, ?_⟩
    have hvi : Vms (vmsOf as_ (ys ++ xs.drop i)) := vmsOf_ok ha (by rw [List.length_append, List.length_drop, hH.ly]; omega)
    have hp : S'.part b1 (2 + i * 12) 12 = some (vc (as_[i]'(by omega)) (xs[i]'(by omega))) := by
      rw [part_of hH.blk, stc_vm hvi (by rw [hvi.six]; omega), vms_at (by omega) (by omega) hH.ly]
    rw [Int.toNat_natCast, gA_i hp]
    refine copy_spec ((h.is_ i (by omega) (by omega)).keep hH.keep (by simp)) (h.ok _ (List.getElem_mem _)) fun x' S'' hc => ?_
    refine ⟨by omega, hlt, vc_one _ _, ?_⟩
    have hblk2 := hc.keep.get hH.blk (by simp)
    refine pt_i hblk2 (by rw [stc_length hvi h.st.le h.st.tu]; omega) ?_
    rw [stc_vm_set hvi (by omega) rfl, vms_step (by omega) (by omega) hH.ly, w64 (by omega) (by omega)]
    exact ih _ _ ⟨i + 1, _, by omega, by omega, half_step hb1 hH (by omega) (by omega) hc⟩ (by omega)
  · rw [if_neg hlt]
    have : i = 6 := by omega
    subst this
    have hly := hH.ly
    have hblk := hH.blk
    rw [List.drop_eq_nil_of_le (by omega), List.append_nil] at hblk
    have hvy : Vms (vmsOf as_ ys) := vmsOf_ok ha hly
    have hT := h.st.keeps hH.keep (by simp) (by simp)
    rw [gP_i hT.rd74, gP_i hT.rd171]
    refine bookTwin_spec hT.bk h.rows_ (by have := h.lrows; omega) fun S4 ob' so hob' hso hk4 hbk4 hson hrow4 => ?_
    have hT4 := hT.keeps hk4 (by simp) (by simp)
    refine ⟨hT4.rd171, ?_⟩
    refine twin_spec hT4.ck fun kb' sk S5 hkb' hsk hk5 hck5 => ?_
    have hb5 : S5 b1 = some (bw 68 (stc 1 now (vmsOf as_ ys) (some (ob, 0)) (some (kb, 0)) le tu)) := hk5.get (hk4.get hblk (by simp)) (by simp)
    refine pt_i hb5 (by rw [stc_length hvy h.st.le h.st.tu]; decide) ?_
    rw [stc_set_ow hvy]
    refine pt_i set_same (by rw [stc_length hvy h.st.le h.st.tu]; decide) ?_
    rw [stc_set_ck hvy h.st.le, set_set]
    have hl20 := h.lrows
    obtain ⟨sp_, sn, sc⟩ := so
    simp only at hson
    subst hson
    rcases hrow4.lie with ⟨e1, e2⟩ | ⟨rb', k, e1, e2, e3, e4, e5⟩
    · have := hrow4.cap; simp only at e2 this; omega
    simp only at e1 e4 e5
    subst e1
    obtain ⟨hrb1, hrb2⟩ := hso rb' (by simp [Go.Pt.ob])
    obtain ⟨kt, kc, kf⟩ := k
    simp only at e3 e4 e5
    subst e3
    have hS'b1 : S' b1 ≠ none := by rw [hblk]; simp
    have n1 : b1 ≠ ob' := fun e => by subst e; exact hS'b1 hob'
    have n2 : b1 ≠ rb' := fun e => by subst e; exact hS'b1 hrb1
    have hS4b1 : S4 b1 ≠ none := by rw [hk4.get hblk (by simp)]; simp
    have n3 : b1 ≠ kb' := fun e => by subst e; exact hS4b1 hkb'
    have n4 : ob' ≠ kb' := fun e => by subst e; rw [hbk4] at hkb'; cases hkb'
    have n5 : rb' ≠ kb' := fun e => by subst e; rw [e2] at hkb'; cases hkb'
    have nsk : ∀ x ∈ own sk, x ≠ b1 ∧ x ≠ ob' ∧ x ≠ rb' := fun x hx => by
      have h4 := hsk x hx
      exact ⟨fun e => by subst e; exact hS4b1 h4, fun e => by (subst e; rw [hbk4] at h4; cases h4), fun e => by (subst e; rw [e2] at h4; cases h4)⟩
    have kall : Keeps S S4 [] := hH.keep.trans hk4
    have hk7 : Keeps S5 (S5.set b1 (bw 68 (stc 1 now (vmsOf as_ ys) (some (ob', 0)) (some (kb', 0)) le tu))) [b1] := fun x _ hw => set_ne (by simpa using hw)
    have hbk : Bk S4 ob' rb' rows := by
      refine ⟨⟨sc, kt, kc.drop (rows.length * 4), hbk4, ?_, hrow4.cap, by rw [List.length_drop, e4, Nat.sub_mul]⟩, h.st.bk.len, fun e => hrb2 e.symm⟩
      rw [← e5, List.take_append_drop]; exact e2
    have heldY : ∀ x ∈ blksOf ys, S' x ≠ none := fun x hx2 => by
      obtain ⟨v, hv2, hq⟩ := List.mem_flatMap.1 hx2
      obtain ⟨j, hj, rfl⟩ := List.getElem_of_mem hv2
      exact (hH.is_ j (by omega) hj).held hq
    have held4 : ∀ x ∈ blksOf ys, S4 x ≠ none := fun x hx2 => by
      have := heldY x hx2
      cases hs : S' x with
      | none => exact absurd hs this
      | some q => rw [hk4.get hs (by simp)]; simp
    refine hQ _ b1 ob' rb' kb' ys sk ?_ ⟨⟨⟨set_same, hvy, h.st.le, h.st.tu, (hbk.keep hk5 (by simp) (by simp)).keep hk7 (by simp [n1.symm]) (by simp [n2.symm]), hck5.keep hk7 (by simp [n3.symm]) (fun x hx2 => by simp [(nsk x hx2).1]), ⟨n1, n2, n3, n4, n5⟩, nsk,
      ⟨hb1, fresh_of hH.keep hob', fresh_of hH.keep hrb1, fresh_of kall hkb'⟩, fun x hx2 => fresh_of kall (hsk x hx2), ?_⟩, ha, hly, fun j h1 h2 => ?_, h.ok, h.rows_, h.lrows, h.one⟩, hH.nodup, fun x hx2 => ⟨fun hm => ?_, (hH.fresh x hx2).1⟩⟩
    · intro x hx2 hw
      rw [set_ne (fun e => by subst e; exact hx2 hb1), (kall.trans hk5) x hx2 hw]
    · intro x hx2 hw
      rw [set_ne (fun e => by subst e; exact hx2 hb1), (kall.trans hk5) x hx2 hw]
    · refine (((hH.is_ j h1 h2).keep hk4 (by simp)).keep hk5 (by simp)).keep hk7 fun q hq hm => ?_
      rw [List.mem_singleton] at hm
      exact (hH.fresh q (List.mem_flatMap.2 ⟨_, List.getElem_mem h2, hq⟩)).2 hm
    · simp only [mineS, List.mem_cons] at hm
      rcases hm with rfl | rfl | rfl | rfl | hm
      · exact (hH.fresh _ hx2).2 rfl
      · exact heldY _ hx2 hob'
      · exact heldY _ hx2 hrb1
      · exact held4 _ hx2 hkb'
      · exact held4 _ hx2 (hsk x hm)
end
end Go.Proofs.Ytpilffakhkagjaa
