/- Writes into a VM's own blocks; a state of which one VM is another one. -/
import Derived.Test.YtpilffakhkagjaaGuR
namespace Go.Proofs.Ytpilffakhkagjaa
open Go Go.Pt
/-- A row that has elements lies in a block. -/
theorem row_in {S : Mem} {size : Nat} {s : Sl} {l : List Value} (h : Row S size s l) (h0 : 0 < s.n) : ∃ z t j, s = ⟨some (z, 0), s.n, s.c⟩ ∧ ob s = [z] ∧ S z = some (bw t (l ++ j)) ∧ j.length = (s.c - s.n) * size := by
  rcases h.lie with ⟨_, e2⟩ | ⟨z, k, e1, e2, e3, e4, e5⟩
  · have := h.cap; omega
  · obtain ⟨kt, kc, kf⟩ := k
    simp only at e3 e4 e5
    subst e3
    refine ⟨z, kt, kc.drop (s.n * size), ?_, by simp [ob, e1], ?_, by rw [List.length_drop, e4, Nat.sub_mul]⟩
    · rw [← e1]
    · rw [e2, ← e5, List.take_append_drop]
theorem row_put {S : Mem} {size z t n c : Nat} {l' j : List Value} (hl : l'.length = n * size) (hc : n ≤ c) (hj : j.length = (c - n) * size) : Row (S.set z (bw t (l' ++ j))) size ⟨some (z, 0), n, c⟩ l' := by
  refine ⟨hl, hc, .inr ⟨z, _, rfl, set_same, rfl, ?_, ?_⟩⟩
  · show (l' ++ j).length = c * size
    rw [List.length_append, hl, hj, ← Nat.add_mul]; congr 1; omega
  · show (l' ++ j).take (n * size) = l'
    rw [List.take_left' hl]
theorem keeps_set {S : Mem} {z : Nat} {k : Blk} : Keeps S (S.set z k) [z] := fun _ _ hw => set_ne (by simpa using hw)
theorem bL_set (xs : List Int) (k : Nat) (v : Int) : (bL xs).set k (.int .u8 v) = bL (xs.set k v) := by simp [bL]
theorem spl_one {cs : List Value} {o : Nat} {v : Value} (h : o < cs.length) : spl cs o [v] = cs.set o v := by
  rw [spl_eq _ _ _ (by omega), List.set_eq_take_append_cons_drop, if_pos h]; simp
theorem nd_app {a b : List Nat} (h : (a ++ b).Nodup) {x : Nat} (hx : x ∈ a) : x ∉ b := fun hb => (List.nodup_append.1 h).2.2 x hx x hb rfl
section
variable {S : Mem} {a : Va} {x : Vs}
/-- A word of the first seat is written. -/
theorem VmIs.seat (h : VmIs S a x) (hn : x.blks.Nodup) {e : List Value} {r : List (List Value)} (ha : a.seats = e :: r) (hw : ∀ v ∈ a.seats, v.length = 26) : ∃ z c, x.ss = ⟨some (z, 0), r.length + 1, c⟩ ∧ z ∈ x.blks ∧
    (∀ o v, nthL e o = some v → o < 26 → S.cell z o = some v) ∧
    ∀ (o : Nat) (v : Value) (K : Mem → Prop), o < 26 → (∀ S', Keeps S S' [z] → VmIs S' { a with seats := spl e o [v] :: r } x → K S') → pt S z o 1 [v] K := by
  have hl := h.ss.len
  have hfl := flt_len hw
  have hn2 : x.ss.n = r.length + 1 := by
    have : x.ss.n = a.seats.length := by omega
    rw [this, ha, List.length_cons]
  obtain ⟨z, t, j, e1, e2, e3, e4⟩ := row_in h.ss (by omega)
  have hz : z ∈ x.blks := by simp [Vs.blks, e2]
  have hcap := h.ss.cap
  have he26 : e.length = 26 := hw e (by rw [ha]; simp)
  rw [ha, List.flatten_cons] at e3
  refine ⟨z, x.ss.c, by rw [← hn2]; exact e1, hz, fun o v hv ho => ?_, fun o v K ho hK => ?_⟩
  · rw [cell_of e3]
    simp only
    rw [List.append_assoc, nthL_app (by omega)]
    exact hv
  · refine pt_i e3 (by simp only [List.length_append]; omega) ?_
    rw [List.append_assoc, spl_app (by simp only [List.length_singleton]; omega), ← List.append_assoc]
    refine hK _ keeps_set ⟨?_, h.ks.kept keeps_set ?_, h.e0.kept keeps_set ?_, h.e1.kept keeps_set ?_, h.e2.kept keeps_set ?_, h.e3.kept keeps_set ?_⟩
    · show Row _ 26 x.ss (spl e o [v] :: r).flatten
      rw [e1, List.flatten_cons]
      refine row_put ?_ hcap e4
      simp only [List.length_append, ha, List.flatten_cons] at hl ⊢
      rw [spl_length (by simp only [List.length_singleton]; omega)]; exact hl
    all_goals
      intro y hy hm
      rw [List.mem_singleton] at hm
      refine nd_app hn (x := y) (by rw [e2, hm]; simp) (by simp [hy])
/-- A key is appended. -/
theorem VmIs.key (h : VmIs S a x) (hn : x.blks.Nodup) (hk : a.keys.length ≤ 1000) {v : Int} {K : Sl → Mem → Prop}
    (hK : ∀ ks' S', Keeps S S' (ob x.ks) → (∀ y ∈ ob ks', y ∈ ob x.ks ∨ S y = none) → VmIs S' { a with keys := a.keys ++ [v] } { x with ks := ks' } → K ks' S') : ap S 5 1 1 [.int .u8 0] x.ks 1 [.int .u8 v] K := by
  have hl := h.ks.len
  have : (bL a.keys).length = a.keys.length := by simp [bL]
  refine ap_row h.ks rfl (by decide) rfl (by omega) fun s' S' b k hsn hp hor hS hrow => ?_
  have hb : ∀ y ∈ ob s', y = b := fun y hy => by simpa [ob, hp] using hy
  have hbx : ∀ q, b ∈ ob q → VmIs S a x → (q = x.ss ∨ q = x.e0 ∨ q = x.e1 ∨ q = x.e2 ∨ q = x.e3) → False := by
    intro q hq _ hor2
    rcases hor with e | e
    · have hbk : b ∈ ob x.ks := by simp [ob, e]
      rcases hor2 with rfl | rfl | rfl | rfl | rfl
      · exact nd_app hn hq (by simp [hbk])
      all_goals
        have h2 := (List.nodup_append.1 hn).2.1
        exact nd_app h2 hbk (by simp [hq])
    · have : b ∈ x.blks := by
        rcases hor2 with rfl | rfl | rfl | rfl | rfl <;> simp [Vs.blks, hq]
      exact h.held this e
  have hkeep : Keeps S S' (ob x.ks) := fun y hy hw => by
    rw [hS, set_ne]
    intro e
    subst e
    rcases hor with e2 | e2
    · exact hw (by simp [ob, e2])
    · exact hy e2
  have hkp : ∀ {size : Nat} {q : Sl} {l : List Value}, Row S size q l → (q = x.ss ∨ q = x.e0 ∨ q = x.e1 ∨ q = x.e2 ∨ q = x.e3) → Row S' size q l := fun hr hq => by
    rw [hS]
    refine hr.kept keeps_set fun y hy hm => ?_
    rw [List.mem_singleton] at hm
    subst hm
    exact hbx _ hy h hq
  refine hK s' S' hkeep (fun y hy => ?_) ⟨hkp h.ss (by simp), ?_, hkp h.e0 (by simp), hkp h.e1 (by simp), hkp h.e2 (by simp), hkp h.e3 (by simp)⟩
  · rw [hb y hy]
    rcases hor with e | e
    · exact .inl (by simp [ob, e])
    · exact .inr e
  · have e : bL a.keys ++ [Value.int .u8 v] = bL (a.keys ++ [v]) := by simp [bL]
    rw [← e]; exact hrow
/-- A byte of a sector is written. -/
theorem row_byte {s : Sl} {xs : List Int} (h : Row S 1 s (bL xs)) {k : Nat} (hk : k < xs.length) : ∃ z, s = ⟨some (z, 0), xs.length, s.c⟩ ∧ ob s = [z] ∧
    S.cell z k = some (.int .u8 xs[k]) ∧ ∀ (v : Int) (K : Mem → Prop), (∀ S', Keeps S S' [z] → Row S' 1 s (bL (xs.set k v)) → K S') → pt S z k 1 [.int .u8 v] K := by
  have hl := h.len
  have hbl : (bL xs).length = xs.length := by simp [bL]
  have hn : s.n = xs.length := by omega
  obtain ⟨z, t, j, e1, e2, e3, e4⟩ := row_in h (by omega)
  have hcap := h.cap
  refine ⟨z, by rw [← hn]; exact e1, e2, ?_, fun v K hK => ?_⟩
  · rw [cell_of e3]
    simp only
    rw [nthL_app (by omega), nthL_eq]
    simp [bL, hk]
  · refine pt_i e3 (by simp only [List.length_append]; omega) ?_
    rw [spl_app (by simp only [List.length_singleton]; omega), spl_one (by omega), bL_set]
    refine hK _ keeps_set ?_
    rw [e1]
    exact row_put (by simp [bL]; omega) hcap e4
theorem VmIs.byte1 (h : VmIs S a x) (hn : x.blks.Nodup) {k : Nat} (hk : k < a.d1.length) : ∃ z, x.e1 = ⟨some (z, 0), a.d1.length, x.e1.c⟩ ∧ z ∈ x.blks ∧
    S.cell z k = some (.int .u8 a.d1[k]) ∧ ∀ (v : Int) (K : Mem → Prop), (∀ S', Keeps S S' [z] → VmIs S' { a with d1 := a.d1.set k v } x → K S') → pt S z k 1 [.int .u8 v] K := by
  obtain ⟨z, e1, e2, e3, e4⟩ := row_byte h.e1 hk
  refine ⟨z, e1, by simp [Vs.blks, e2], e3, fun v K hK => e4 v K fun S' hk' hr => hK S' hk' ?_⟩
  have h2 := (List.nodup_append.1 (List.nodup_append.1 (List.nodup_append.1 hn).2.1).2.1).2.1
  have hz : z ∈ ob x.e1 := by rw [e2]; simp
  refine ⟨h.ss.kept hk' ?_, h.ks.kept hk' ?_, h.e0.kept hk' ?_, hr, h.e2.kept hk' ?_, h.e3.kept hk' ?_⟩
  all_goals
    intro y hy hm
    rw [List.mem_singleton] at hm
    subst hm
  · exact nd_app hn hy (by simp [hz])
  · exact nd_app (List.nodup_append.1 hn).2.1 hy (by simp [hz])
  · exact nd_app (List.nodup_append.1 (List.nodup_append.1 hn).2.1).2.1 hy (by simp [hz])
  · exact nd_app h2 hz (by simp [hy])
  · exact nd_app h2 hz (by simp [hy])
theorem VmIs.byte3 (h : VmIs S a x) (hn : x.blks.Nodup) {k : Nat} (hk : k < a.d3.length) : ∃ z, x.e3 = ⟨some (z, 0), a.d3.length, x.e3.c⟩ ∧ z ∈ x.blks ∧
    S.cell z k = some (.int .u8 a.d3[k]) ∧ ∀ (v : Int) (K : Mem → Prop), (∀ S', Keeps S S' [z] → VmIs S' { a with d3 := a.d3.set k v } x → K S') → pt S z k 1 [.int .u8 v] K := by
  obtain ⟨z, e1, e2, e3, e4⟩ := row_byte h.e3 hk
  refine ⟨z, e1, by simp [Vs.blks, e2], e3, fun v K hK => e4 v K fun S' hk' hr => hK S' hk' ?_⟩
  have h1 := (List.nodup_append.1 hn).2.1
  have h2 := (List.nodup_append.1 h1).2.1
  have h3 := (List.nodup_append.1 h2).2.1
  have h4 := (List.nodup_append.1 h3).2.1
  have hz : z ∈ ob x.e3 := by rw [e2]; simp
  refine ⟨h.ss.kept hk' ?_, h.ks.kept hk' ?_, h.e0.kept hk' ?_, h.e1.kept hk' ?_, h.e2.kept hk' ?_, hr⟩
  all_goals
    intro y hy hm
    rw [List.mem_singleton] at hm
    subst hm
  · exact nd_app hn hy (by simp [hz])
  · exact nd_app h1 hy (by simp [hz])
  · exact nd_app h2 hy (by simp [hz])
  · exact nd_app h3 hy (by simp [hz])
  · exact nd_app h4 hy hz
end
/-! the state's own cells -/
section
variable {form now : Int} {vms : List (List Value)} {ow ck : Pt} {le tu : List Value}
theorem stc_put (hv : Vms vms) {i o : Nat} (hi : i < vms.length) (ho : o < 12) (v : Value) : spl (stc form now vms ow ck le tu) (2 + i * 12 + o) [v] = stc form now (vms.set i (spl vms[i] o [v])) ow ck le tu := by
  simp only [stc]
  rw [show 2 + i * 12 + o = (i * 12 + o + 1) + 1 by omega]
  simp only [spl]
  rw [flt_put hv.len hi ho]
theorem stc_get (hv : Vms vms) {i o : Nat} (hi : i < vms.length) (ho : o < 12) : nthL (stc form now vms ow ck le tu) (2 + i * 12 + o) = nthL vms[i] o := by
  have hfl := flt_len hv.len
  have h6 := hv.six
  simp only [stc]
  rw [show 2 + i * 12 + o = (i * 12 + o + 1) + 1 by omega]
  simp only [nthL]
  rw [nthL_app (by omega)]
  exact flt_cell hv.len hi ho
theorem stc_turn (hv : Vms vms) (hle : le.length = 96) (htu : tu.length = 18) (v : Value) : spl (stc form now vms ow ck le tu) 176 [v] = stc form now vms ow ck le (spl tu 4 [v]) := by
  have hfl := flt_len hv.len
  have h6 := hv.six
  have hl : (vms.flatten ++ (eP ow :: (le ++ [eP ck]))).length = 170 := by simp only [List.length_append, List.length_cons, List.length_nil]; omega
  have e : ∀ u, stc form now vms ow ck le u = .int .i64 form :: .int .u64 now :: ((vms.flatten ++ (eP ow :: (le ++ [eP ck]))) ++ (u ++ [])) := fun u => by simp [stc]
  rw [e, e]
  have := spl_mid (Y := tu) (Z := []) (v := [v]) (o := 4) (by simp; omega) (vms.flatten ++ (eP ow :: (le ++ [eP ck])))
  rw [hl] at this
  simp only [spl]
  rw [this]
theorem stc_turn_get (hv : Vms vms) (hle : le.length = 96) : nthL (stc form now vms ow ck le tu) 176 = nthL tu 4 := by
  have hfl := flt_len hv.len
  have h6 := hv.six
  have hl : (vms.flatten ++ (eP ow :: (le ++ [eP ck]))).length = 170 := by simp only [List.length_append, List.length_cons, List.length_nil]; omega
  have e : stc form now vms ow ck le tu = .int .i64 form :: .int .u64 now :: ((vms.flatten ++ (eP ow :: (le ++ [eP ck]))) ++ tu) := by simp [stc]
  rw [e]
  simp only [nthL]
  rw [nthL_eq, nthL_eq, List.getElem?_append_right (by omega), hl]
end
section
variable {S : Mem} {b ob rb : Nat} {now : Int} {as_ : List Va} {xs : List Vs} {rows : List (List Value)} {ck : Pt} {le tu : List Value}
theorem blks_split {i : Nat} (hi : i < xs.length) : blksOf xs = blksOf (xs.take i) ++ (xs[i].blks ++ blksOf (xs.drop (i + 1))) := by
  have e : xs = xs.take i ++ (xs[i] :: xs.drop (i + 1)) := by rw [List.getElem_cons_drop, List.take_append_drop]
  have e2 := congrArg blksOf e
  simp only [blksOf, List.flatMap_append, List.flatMap_cons] at e2
  exact e2
theorem nd_lt (h : (blksOf xs).Nodup) {i j : Nat} (hi : i < xs.length) (hj : j < xs.length) (hij : i < j) {z : Nat} (hz : z ∈ xs[i].blks) (hz2 : z ∈ xs[j].blks) : False := by
  rw [blks_split hi] at h
  have h2 := (List.nodup_append.1 h).2.1
  refine nd_app h2 hz (List.mem_flatMap.2 ⟨xs[j], ?_, hz2⟩)
  rw [List.mem_iff_getElem]
  exact ⟨j - (i + 1), by rw [List.length_drop]; omega, by rw [List.getElem_drop]; congr 1; omega⟩
theorem nd_blk (h : (blksOf xs).Nodup) {i j : Nat} (hi : i < xs.length) (hj : j < xs.length) (hij : i ≠ j) {z : Nat} (hz : z ∈ xs[i].blks) : z ∉ xs[j].blks := by
  intro hz2
  rcases Nat.lt_or_gt_of_ne hij with h3 | h3
  · exact nd_lt h hi hj h3 hz hz2
  · exact nd_lt h hj hi h3 hz2 hz
theorem nd_one (h : (blksOf xs).Nodup) {i : Nat} (hi : i < xs.length) : xs[i].blks.Nodup := by
  rw [blks_split hi] at h
  exact (List.nodup_append.1 (List.nodup_append.1 h).2.1).1
theorem vms_get {i : Nat} (h : i < (vmsOf as_ xs).length) (h1 : i < as_.length) (h2 : i < xs.length) : (vmsOf as_ xs)[i] = vc as_[i] xs[i] := by simp [vmsOf]
/-- One VM's blocks were written. -/
theorem Vw.one {S' : Mem} {W : List Nat} (h : Vw S b ob rb now as_ xs rows ck le tu) (hk : Keeps S S' W) (h1 : b ∉ W) (h2 : ob ∉ W) (h3 : rb ∉ W) {i : Nat} (hi : i < 6) (hW : ∀ j (hj : j < xs.length), j ≠ i → ∀ z ∈ xs[j].blks, z ∉ W) {a' : Va}
    (hvc : vc a' (xs[i]'(by rw [h.lx]; exact hi)) = vc (as_[i]'(by rw [h.la]; exact hi)) (xs[i]'(by rw [h.lx]; exact hi))) (hV : VmIs S' a' (xs[i]'(by rw [h.lx]; exact hi))) (ha : VaOk a') : Vw S' b ob rb now (as_.set i a') xs rows ck le tu := by
  have hla := h.la
  have hlx := h.lx
  have e : vmsOf (as_.set i a') xs = vmsOf as_ xs := by
    have : (vmsOf as_ xs).set i (vc a' (xs[i]'(by omega))) = vmsOf (as_.set i a') (xs.set i (xs[i]'(by omega))) := vmsOf_set a' _
    rw [List.set_getElem_self] at this
    rw [← this, hvc, ← vms_get (by rw [(vmsOf_ok hla hlx).six]; exact hi) (by omega) (by omega), List.set_getElem_self]
  refine ⟨by rw [e]; exact hk.get h.blk h1, by simpa using hla, hlx, fun j j1 j2 => ?_, fun w hw => ?_, h.bk.keep hk h2 h3, h.rows_, h.lrows, h.le, h.tu⟩
  · by_cases ej : j = i
    · subst ej; rw [List.getElem_set_self]; exact hV
    · rw [List.getElem_set_ne (by omega)]
      exact (h.is_ j (by simpa using j1) j2).keep hk (hW j j2 ej)
  · rcases List.mem_or_eq_of_mem_set hw with h4 | h4
    · exact h.ok w h4
    · rw [h4]; exact ha
/-- One of a VM's cells was written. -/
theorem Vw.cellw (h : Vw S b ob rb now as_ xs rows ck le tu) (hb : ∀ z ∈ blksOf xs, z ≠ b) (h2 : ob ≠ b) (h3 : rb ≠ b) {i o : Nat} (hi : i < 6) (ho : o < 12) {v : Value} {a' : Va} {x' : Vs}
    (hvc : spl (vc (as_[i]'(by rw [h.la]; exact hi)) (xs[i]'(by rw [h.lx]; exact hi))) o [v] = vc a' x') (hV : VmIs S a' x') (hb' : ∀ z ∈ x'.blks, z ≠ b) (ha : VaOk a') {K : Mem → Prop}
    (hK : ∀ S', Keeps S S' [b] → Vw S' b ob rb now (as_.set i a') (xs.set i x') rows ck le tu → K S') : pt S b (2 + i * 12 + o) 1 [v] K := by
  have hla := h.la
  have hlx := h.lx
  have hv := vmsOf_ok hla hlx
  refine pt_i h.blk (by rw [stc_length hv h.le.2 h.tu.2]; omega) ?_
  rw [stc_put hv (by rw [hv.six]; exact hi) ho, vms_get (by rw [hv.six]; exact hi) (by omega) (by omega), hvc, vmsOf_set]
  have hk : Keeps S (S.set b (bw 68 (stc 1 now (vmsOf (as_.set i a') (xs.set i x')) (some (ob, 0)) ck le tu))) [b] := keeps_set
  refine hK _ hk ⟨set_same, by simpa using hla, by simpa using hlx, fun j j1 j2 => ?_, fun w hw => ?_, h.bk.keep hk (by simpa using h2) (by simpa using h3), h.rows_, h.lrows, h.le, h.tu⟩
  · by_cases ej : j = i
    · subst ej
      simp only [List.getElem_set_self]
      exact hV.keep hk fun z hz hm => hb' z hz (by simpa using hm)
    · rw [List.getElem_set_ne (by omega), List.getElem_set_ne (by omega)]
      exact (h.is_ j (by simpa using j1) (by simpa using j2)).keep hk fun z hz hm => hb z (List.mem_flatMap.2 ⟨_, List.getElem_mem (by simpa using j2), hz⟩) (by simpa using hm)
  · rcases List.mem_or_eq_of_mem_set hw with h4 | h4
    · exact h.ok w h4
    · rw [h4]; exact ha
/-- A cell of its own that no VM's is was written. -/
theorem Vw.cells (h : Vw S b ob rb now as_ xs rows ck le tu) (hb : ∀ z ∈ blksOf xs, z ≠ b) (h2 : ob ≠ b) (h3 : rb ≠ b) {now' : Int} {tu' : List Value} (ht : fits ckT tu' = true ∧ tu'.length = 18) {o : Nat} {v : Value} (ho : o < 190)
    (hc : spl (stc 1 now (vmsOf as_ xs) (some (ob, 0)) ck le tu) o [v] = stc 1 now' (vmsOf as_ xs) (some (ob, 0)) ck le tu') {K : Mem → Prop}
    (hK : ∀ S', Keeps S S' [b] → Vw S' b ob rb now' as_ xs rows ck le tu' → K S') : pt S b o 1 [v] K := by
  have hv := vmsOf_ok h.la h.lx
  refine pt_i h.blk (by rw [stc_length hv h.le.2 h.tu.2]; omega) ?_
  rw [hc]
  have hk : Keeps S (S.set b (bw 68 (stc 1 now' (vmsOf as_ xs) (some (ob, 0)) ck le tu'))) [b] := keeps_set
  exact hK _ hk ⟨set_same, h.la, h.lx, fun j j1 j2 => (h.is_ j j1 j2).keep hk fun z hz hm => hb z (List.mem_flatMap.2 ⟨_, List.getElem_mem j2, hz⟩) (by simpa using hm), h.ok, h.bk.keep hk (by simpa using h2) (by simpa using h3), h.rows_, h.lrows, h.le, ht⟩
/-- The book has another row. -/
theorem Vw.book {S' : Mem} {rows' : List (List Value)} (h : Vw S b ob rb now as_ xs rows ck le tu) (hk : Keeps S S' [rb]) (h1 : b ≠ rb) (h4 : ∀ z ∈ blksOf xs, z ≠ rb) (hb : Bk S' ob rb rows') (hr : Rows_ rows') (hl : rows'.length = 20) : Vw S' b ob rb now as_ xs rows' ck le tu :=
  ⟨hk.get h.blk (by simpa using h1), h.la, h.lx, fun j j1 j2 => (h.is_ j j1 j2).keep hk fun z hz hm => h4 z (List.mem_flatMap.2 ⟨_, List.getElem_mem j2, hz⟩) (by simpa using hm), h.ok, hb, hr, hl, h.le, h.tu⟩
theorem Vw.rdv (h : Vw S b ob rb now as_ xs rows ck le tu) {i : Nat} (hi : i < 6) {o : Nat} (ho : o < 12) : S.cell b (2 + i * 12 + o) = nthL (vc (as_[i]'(by rw [h.la]; exact hi)) (xs[i]'(by rw [h.lx]; exact hi))) o := by
  have hv := vmsOf_ok h.la h.lx
  rw [cell_of h.blk, ← vms_get (as_ := as_) (xs := xs) (by rw [hv.six]; exact hi) (by rw [h.la]; exact hi) (by rw [h.lx]; exact hi)]
  exact stc_get hv (by rw [hv.six]; exact hi) ho
theorem Vw.rdw (h : Vw S b ob rb now as_ xs rows ck le tu) {i : Nat} (hi : i < 6) : S.part b (2 + i * 12) 12 = some (vc (as_[i]'(by rw [h.la]; exact hi)) (xs[i]'(by rw [h.lx]; exact hi))) := by
  have hv := vmsOf_ok h.la h.lx
  rw [part_of h.blk, ← vms_get (as_ := as_) (xs := xs) (by rw [hv.six]; exact hi) (by rw [h.la]; exact hi) (by rw [h.lx]; exact hi)]
  exact stc_vm hv (by rw [hv.six]; exact hi)
end
end Go.Proofs.Ytpilffakhkagjaa
