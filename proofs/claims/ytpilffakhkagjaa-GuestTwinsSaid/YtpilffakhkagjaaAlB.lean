/- alarm.Clock: what is dropped, set, popped. -/
import Derived.Test.YtpilffakhkagjaaAlA
namespace Go.Proofs.Ytpilffakhkagjaa
open Go Go.Pt Go.Hp
theorem set_comm {S : Mem} {b c : Nat} {k m : Blk} (h : b ≠ c) : (S.set c m).set b k = (S.set b k).set c m := by
  funext x; simp only [Mem.set]
  by_cases h1 : x = b
  · by_cases h2 : x = c
    · exact absurd (h1.symm.trans h2) h
    · simp [h1, h]
  · simp [h1]
def own (s : Sl) : List Nat := match s.p with
  | none => []
  | some (c, _) => [c]
/-- A clock at (b, o) of a block, whose alarms these are. -/
structure Ck (S : Mem) (b o : Nat) (tb : TypeId) (cs : List Value) (s : Sl) (l : List Al) : Prop where
  blk : S b = some (bw tb cs)
  cell : nthL cs o = some (eL s)
  row : Row S 3 s (fl l)
  ne : ∀ c ∈ own s, b ≠ c
  heap : Heap bf l
  len : l.length < 100000
section
variable {S : Mem} {b o c : Nat} {tb t : TypeId} {cs j : List Value} {s : Sl} {l : List Al} {cap : Nat}
theorem row_mk (h : S c = some (bw t (fl l ++ j))) (hc : l.length ≤ cap) (hj : j.length = (cap - l.length) * 3) : Row S 3 ⟨some (c, 0), l.length, cap⟩ (fl l) := by
  have hl := fl_length l
  refine ⟨hl, hc, .inr ⟨c, _, rfl, h, rfl, ?_, ?_⟩⟩
  · simp only [List.length_append, hl, hj]; rw [← Nat.add_mul]; congr 1; omega
  · simp only; rw [List.take_left' hl]
theorem row_open (h : Row S 3 s (fl l)) : (s = ⟨none, 0, 0⟩ ∧ l = []) ∨ ∃ c cap t j, s = ⟨some (c, 0), l.length, cap⟩ ∧ l.length ≤ cap ∧ S c = some (bw t (fl l ++ j)) ∧ j.length = (cap - l.length) * 3 := by
  obtain ⟨p, n, cp⟩ := s
  have hl := fl_length l
  have h1 := h.len
  have h2 := h.cap
  simp only at h1 h2
  have hn : n = l.length := by omega
  subst hn
  rcases h.lie with ⟨h3, h4⟩ | ⟨c, k, h3, h4, h5, h6, h7⟩
  · simp only at h3 h4
    subst h3; subst h4
    have : l = [] := List.length_eq_zero_iff.1 (by omega)
    subst this
    exact .inl ⟨rfl, rfl⟩
  · simp only at h3 h6 h7
    subst h3
    obtain ⟨kt, kc, kf⟩ := k
    simp only at h5 h6 h7
    subst h5
    refine .inr ⟨c, cp, kt, kc.drop (l.length * 3), rfl, h2, ?_, by rw [List.length_drop, h6, Nat.sub_mul]⟩
    rw [← h7, List.take_append_drop]; exact h4
theorem Ck.rd (h : Ck S b o tb cs s l) : S.cell b o = some (eL s) := by rw [cell_of h.blk]; exact h.cell
theorem own_row {x : Nat} (h : Row S 3 s (fl l)) (hx : x ∈ own s) : ∃ k, S x = some k := by
  rcases row_open h with ⟨rfl, rfl⟩ | ⟨c, cap, t, j, rfl, _, h2, _⟩
  · simp [own] at hx
  · simp only [own, List.mem_singleton] at hx; subst hx; exact ⟨_, h2⟩
theorem row_keep {S' : Mem} {W : List Nat} (h : Row S 3 s (fl l)) (hk : Keeps S S' W) (hw : ∀ x ∈ own s, x ∉ W) : Row S' 3 s (fl l) := by
  refine h.keep fun c hc => hk c ?_ (hw c (by simp [own, hc]))
  obtain ⟨k, hk⟩ := own_row h (show c ∈ own s by simp [own, hc])
  simp [hk]
theorem Ck.keep {S' : Mem} {W : List Nat} (h : Ck S b o tb cs s l) (hk : Keeps S S' W) (hb : b ∉ W) (hw : ∀ x ∈ own s, x ∉ W) : Ck S' b o tb cs s l :=
  ⟨hk.get h.blk hb, h.cell, row_keep h.row hk hw, h.ne, h.heap, h.len⟩
/-- The closure tells, of each alarm, whether it is so; and leaves memory as it is. -/
def Tells (S : Mem) (W : List Nat) (fv : Value) (p : Al → Bool) : Prop := ∀ S' a (R : Value → Mem → Prop), Keeps S S' W → R (.bool (p a)) S' → cv Try.prog S' fv [valL (ce a)] R
variable {fv : Value} {p : Al → Bool}
theorem wi_keeps {l' : List Al} {j' : List Value} : Keeps S (wi S c t j' l') [c] := fun x _ hw => set_ne (by simpa using hw)
theorem index_spec (hf : Tells S [c] fv p) (hl : l.length < 100000) {Q : Int → Mem → Prop} (h1 : ∀ i, i < l.length → (∀ k, k < i → p (gt l k) = false) → p (gt l i) = true → Q i (wi S c t j l)) (h2 : (∀ k, k < l.length → p (gt l k) = false) → Q (-1) (wi S c t j l)) :
    slices_IndexFunc_alarm_row_alarm_Alarm (wi S c t j l) ⟨some (c, 0), l.length, cap⟩ fv Q := by
  apply t_slices_IndexFunc_alarm_row_alarm_Alarm
  unfold b_slices_IndexFunc_alarm_row_alarm_Alarm
  simp only [jn]
  refine lp_rule (fun (z : Int) S' => ∃ (i : Nat), z = (i : Int) ∧ S' = wi S c t j l ∧ i ≤ l.length ∧ ∀ k, k < i → p (gt l k) = false) (fun z => (l.length - z).toNat) ?_ ⟨0, rfl, rfl, by omega, fun k hk => by omega⟩
  rintro X z S' ⟨i, rfl, rfl, hi, hk⟩ ih
  by_cases h : (i : Int) < (l.length : Int)
  · rw [if_pos h, sl_i]
    refine ⟨by omega, h, ?_⟩
    rw [Int.toNat_natCast, gA_i (wi_part (by omega))]
    refine hf _ _ _ wi_keeps ⟨_, rfl, ?_⟩
    by_cases hp : p (gt l i) = true
    · rw [if_pos hp]; exact h1 i (by omega) hk hp
    · rw [if_neg hp, w64 (by omega) (by omega)]
      refine ih _ _ ⟨i + 1, by omega, rfl, by omega, fun k hk2 => ?_⟩ (by omega)
      by_cases e : k = i
      · subst e; simpa using hp
      · exact hk k (by omega)
  · rw [if_neg h]
    exact h2 fun k hk2 => hk k (by omega)
theorem filter_all {l : List Al} {q : Al → Bool} (h : ∀ k, k < l.length → q (gt l k) = true) : l.filter q = l := by
  rw [List.filter_eq_self]
  intro a ha
  obtain ⟨k, hk, rfl⟩ := List.getElem_of_mem ha
  have := h k hk
  rwa [gt_eq hk] at this
theorem filter_take_succ {l : List Al} {q : Al → Bool} {k : Nat} (h : k < l.length) : (l.take (k + 1)).filter q = (l.take k).filter q ++ (if q (gt l k) = true then [gt l k] else []) := by
  rw [List.take_succ_eq_append_getElem h, List.filter_append, gt_eq h]
  congr 1
  by_cases hq : q l[k] = true <;> simp [hq]
theorem zrep_ce_length (m : Nat) : (zrep m [.int .u64 0, .int .i64 0, .int .i64 0]).length = m * 3 := by rw [zrep_length]; rfl
theorem delete_spec (hf : Tells S [c] fv p) (hl : l.length < 100000) (hc : l.length ≤ cap) (hj : j.length = (cap - l.length) * 3) {Q : Sl → Mem → Prop}
    (hQ : ∀ l' j', l' = l.filter (fun a => ! p a) → l'.length ≤ cap → j'.length = (cap - l'.length) * 3 → Q ⟨some (c, 0), l'.length, cap⟩ (wi S c t j' l')) :
    slices_DeleteFunc_alarm_row_alarm_Alarm (wi S c t j l) ⟨some (c, 0), l.length, cap⟩ fv Q := by
  apply t_slices_DeleteFunc_alarm_row_alarm_Alarm
  unfold b_slices_DeleteFunc_alarm_row_alarm_Alarm
  refine index_spec hf hl (fun i0 hi0 hlow hpi => ?_) fun hno => ?_
  · simp only [jn]
    rw [if_neg (by omega), w64 (by omega) (by omega)]
    refine lp_rule (fun (z : Int × Int) S' => ∃ (i k : Nat) (l' : List Al), z.1 = (i : Int) ∧ z.2 = (k : Int) ∧ S' = wi S c t j l' ∧ i < k ∧ k ≤ l.length ∧ l'.length = l.length ∧ l'.take i = (l.take k).filter (fun a => ! p a) ∧ l'.drop k = l.drop k) (fun z => (l.length - z.2).toNat) ?_
      ⟨i0, i0 + 1, l, rfl, by simp, rfl, by omega, by omega, rfl, ?_, rfl⟩
    · rintro X ⟨z1, z2⟩ S' ⟨i, k, l', e1, e2, rfl, hik, hk, hlen, ht, hd⟩ ih
      dsimp only at e1 e2 ih ⊢
      subst e1; subst e2
      by_cases hkn : (k : Int) < (l.length : Int)
      · rw [if_pos hkn, sl_i]
        refine ⟨by omega, hkn, ?_⟩
        rw [Int.toNat_natCast, gA_i (wi_part (by omega))]
        have hgk : gt l' k = gt l k := by
          have h1 : l'[k]? = l[k]? := by
            have := congrArg (fun x => x[0]?) hd
            simpa using this
          simp [gt, List.getD_eq_getElem?_getD, h1]
        refine ⟨ce_one _, hf _ _ _ wi_keeps ⟨_, rfl, ?_⟩⟩
        have hdr : l'.drop (k + 1) = l.drop (k + 1) := by rw [← List.drop_drop, ← List.drop_drop, hd]
        by_cases hp : p (gt l' k) = true
        · rw [if_pos hp, w64 (by omega) (by omega)]
          refine ih _ _ ⟨i, k + 1, l', rfl, by simp, rfl, by omega, by omega, hlen, ?_, hdr⟩ (by simp only; omega)
          rw [filter_take_succ (by omega), ← hgk, hp, ht]; simp
        · rw [if_neg hp]
          refine ⟨by omega, by omega, ce_one _, ?_⟩
          rw [Int.toNat_natCast]
          refine wi_put (by omega) ?_
          rw [w64 (by omega) (by omega), w64 (by omega) (by omega)]
          refine ih _ _ ⟨i + 1, k + 1, l'.set i (gt l' k), by simp, by simp, rfl, by omega, by omega, by simpa using hlen, ?_, ?_⟩ (by simp only; omega)
          · rw [filter_take_succ (by omega), ← hgk, ← ht]
            simp only [Bool.not_eq_true] at hp
            rw [hp, List.take_succ_eq_append_getElem (by simp; omega), List.take_set_of_le (by omega)]
            simp
          · rw [List.drop_set_of_lt (by omega)]; exact hdr
      · rw [if_neg hkn]
        have hkl : k = l.length := by omega
        subst hkl
        have htl : (l.take l.length).filter (fun a => ! p a) = l.filter (fun a => ! p a) := by rw [List.take_length]
        rw [htl] at ht
        have hil : (l'.take i).length = i := by rw [List.length_take]; omega
        refine ⟨by omega, by omega, by omega, ?_⟩
        unfold lt clr
        refine .inr ⟨c, 0 + i * 3, ?_, ?_, ?_⟩
        · simp only [slc, Int.toNat_natCast]
          rw [if_neg (by omega)]
          rfl
        · refine ⟨_, wi_c, rfl, ?_⟩
          have := fl_length l'
          simp only [slc, List.length_append]; omega
        · refine ⟨by omega, by omega, ?_⟩
          have e0 : slc 3 ⟨some (c, 0), l.length, cap⟩ 0 (i : Int) = ⟨some (c, 0), i, cap⟩ := by
            simp only [slc]
            by_cases hcap : cap = 0
            · omega
            · rw [if_neg (by simpa using hcap)]; simp
          have e1 : (wi S c t j l').put c (0 + i * 3) (zrep (slc 3 ⟨some (c, 0), l.length, cap⟩ (i : Int) (l.length : Int)).n [.int .u64 0, .int .i64 0, .int .i64 0]) = wi S c t (zrep (l.length - i) [.int .u64 0, .int .i64 0, .int .i64 0] ++ j) (l'.take i) := by
            have hz : (slc 3 ⟨some (c, 0), l.length, cap⟩ (i : Int) (l.length : Int)).n = l.length - i := by simp only [slc]; omega
            have hfl := fl_length l'
            rw [hz, put_of wi_c, Nat.zero_add, spl_eq _ _ _ (by simp only [List.length_append]; omega), zrep_ce_length]
            unfold wi
            rw [set_set]
            congr 2
            have hs : fl l' = fl (l'.take i) ++ fl (l'.drop i) := by rw [← fl_append, List.take_append_drop]
            have h3 : (fl (l'.take i)).length = i * 3 := by rw [fl_length, hil]
            have h4 : (fl (l'.drop i)).length = (l.length - i) * 3 := by rw [fl_length, List.length_drop, hlen]
            have h5 : (fl l' ++ j).take (i * 3) = fl (l'.take i) := by rw [hs, List.append_assoc, List.take_left' h3]
            have h6 : (fl l' ++ j).drop (i * 3 + (l.length - i) * 3) = j := by
              rw [hs, ← List.drop_drop, List.append_assoc, List.drop_left' h3, List.drop_left' h4]
            simp only
            rw [h5, h6, List.append_assoc]
          rw [e0, e1]
          have := hQ (l'.take i) (zrep (l.length - i) [.int .u64 0, .int .i64 0, .int .i64 0] ++ j) ht (by omega) (by rw [List.length_append, zrep_ce_length, hj, hil, ← Nat.add_mul]; congr 1; omega)
          rwa [hil] at this
    · rw [List.take_succ_eq_append_getElem hi0, List.filter_append]
      rw [gt_eq hi0] at hpi
      simp only [List.filter_cons, hpi, List.filter_nil]
      have : (l.take i0).filter (fun a => ! p a) = l.take i0 := by
        refine filter_all fun k hk => ?_
        rw [List.length_take] at hk
        have e : gt (l.take i0) k = gt l k := by simp [gt, List.getD_eq_getElem?_getD, (by omega : k < i0)]
        rw [e, hlow k (by omega)]; rfl
      rw [this]; simp
  · simp only [jn]
    rw [if_pos trivial]
    have e : l.filter (fun a => ! p a) = l := filter_all fun k hk => by rw [hno k hk]; rfl
    exact hQ l j e.symm hc hj
end
end Go.Proofs.Ytpilffakhkagjaa
