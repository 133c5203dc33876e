/- alarm.Clock: Clone, Twin, Shift. -/
import Derived.Test.YtpilffakhkagjaaAlD
import Derived.Test.YtpilffakhkagjaaPfB
namespace Go.Proofs.Ytpilffakhkagjaa
open Go Go.Pt Go.Hp
section
variable {S : Mem} {b o c : Nat} {tb t : TypeId} {cs j : List Value} {s : Sl} {l : List Al} {cap : Nat}
theorem fl_one (l : List Al) : (fl l).all (·.oneCell') = true := by
  rw [List.all_eq_true]
  intro v hv
  simp only [fl, List.mem_flatMap] at hv
  obtain ⟨a, _, hv⟩ := hv
  exact List.all_eq_true.1 (ce_one a) v hv
/-- What a clone leaves: the same alarms, in a block of their own. -/
structure Cloned (S S' : Mem) (s s' : Sl) (l : List Al) : Prop where
  row : Row S' 3 s' (fl l)
  keep : Keeps S S' []
  fresh : ∀ x ∈ own s', S x = none
theorem clone_at (h : Row S 3 s (fl l)) (hl : l.length < 100000) {Q : Sl → Mem → Prop} (hQ : ∀ s' S', Cloned S S' s s' l → Q s' S') :
    (if s.p = none then Q (⟨none, 0, 0⟩) S else al S 95 ([]) fun b Sx => sp Sx s 3 fun vs => ap Sx 95 3 24 [.int .u64 0, .int .i64 0, .int .i64 0] (⟨some (b, 0), 0, 0⟩) s.n vs fun t Sx_1 => Q t Sx_1) := by
  rcases row_open h with ⟨rfl, rfl⟩ | ⟨c, cap, t, j, rfl, hle, hc, hj⟩
  · rw [if_pos rfl]
    exact hQ _ _ ⟨Row.nil, Keeps.refl, by simp [own]⟩
  · rw [if_neg (by simp)]
    intro b hb
    have hk : Keeps S (S.set b (bw 95 [])) [] := Keeps.refl.new hb
    have h1 := row_keep h hk (by simp)
    refine ⟨fl l, .inr ⟨c, 0, rfl, h1.part rfl⟩, fl_one l, ?_⟩
    simp only
    by_cases h0 : l.length = 0
    · have : l = [] := List.length_eq_zero_iff.1 h0
      subst this
      refine ⟨by simp, fun _ => .inr ⟨b, 0, rfl, ⟨_, set_same, rfl, by simp⟩, ?_⟩, fun hlt => by simp at hlt⟩
      refine hQ _ _ ⟨?_, ?_, ?_⟩
      · refine ⟨by simp [fl], by simp, .inr ⟨b, _, rfl, by rw [put_of set_same]; exact set_same, rfl, by simp [fl, spl], by simp [fl, spl]⟩⟩
      · rw [put_of set_same]; exact (Keeps.refl.new hb).fresh hb
      · intro x hx; simp only [own, List.mem_singleton] at hx; subst hx; exact hb
    · have hb1 : Row (S.set b (bw 95 [])) 3 ⟨some (b, 0), 0, 0⟩ [] := ⟨by simp, by simp, .inr ⟨b, _, rfl, set_same, rfl, by simp, by simp⟩⟩
      refine ap_row hb1 (fl_length l) (by omega) rfl (by simp only; omega) fun s1 S1 c1 k hn hp1 hor hS1 hrow => ?_
      have hc1 : S c1 = none := by
        rcases hor with e | e
        · simp only [Option.some.injEq, Prod.mk.injEq] at e; rw [← e.1]; exact hb
        · cases hs : S c1 with
          | none => rfl
          | some q => have := hk.get hs (by simp); rw [e] at this; cases this
      refine hQ _ _ ⟨by simpa using hrow, ?_, ?_⟩
      · rw [hS1]; exact hk.fresh hc1
      · intro x hx; simp only [own, hp1, List.mem_singleton] at hx; subst hx; exact hc1
theorem cloneRow_spec (h : Row S 3 s (fl l)) (hl : l.length < 100000) {Q : Sl → Mem → Prop} (hQ : ∀ s' S', Cloned S S' s s' l → Q s' S') : slices_Clone_alarm_row_alarm_Alarm S s Q :=
  t_slices_Clone_alarm_row_alarm_Alarm (clone_at h hl hQ)
theorem cloneL_spec (h : Row S 3 s (fl l)) (hl : l.length < 100000) {Q : Sl → Mem → Prop} (hQ : ∀ s' S', Cloned S S' s s' l → Q s' S') : slices_Clone_alarm_Alarm_alarm_Alarm S s Q :=
  t_slices_Clone_alarm_Alarm_alarm_Alarm (clone_at h hl hQ)
theorem twin_spec (h : Ck S b o tb cs s l) {Q : Pt → Mem → Prop} (hQ : ∀ b' s' S', S b' = none → (∀ x ∈ own s', S x = none) → Keeps S S' [] → Ck S' b' 0 91 [eL s'] s' l → Q (some (b', 0)) S') : alarm_Clock_Twin S (some (b, o)) Q := by
  apply t_alarm_Clock_Twin
  unfold b_alarm_Clock_Twin
  simp only [jn]
  rw [if_neg (by simp), nn_i, gL_i h.rd]
  refine cloneRow_spec h.row h.len fun s' S' hC => ?_
  intro b' hb'
  have hbS : S b' = none := by
    cases hs : S b' with
    | none => rfl
    | some q => have := hC.keep.get hs (by simp); rw [hb'] at this; cases this
  have hne : ∀ x ∈ own s', b' ≠ x := by
    intro x hx e
    subst e
    obtain ⟨k, hk⟩ := own_row hC.row hx
    rw [hk] at hb'; cases hb'
  refine hQ b' s' _ hbS hC.fresh (hC.keep.new hb') ⟨set_same, rfl, hC.row.keep fun x hx => set_ne fun e => hne x (by simp [own, hx]) e.symm, hne, h.heap, h.len⟩
/-- So much later, up to the greatest time. -/
def later (d x : Int) : Int := if 18446744073709551615 < x + d then 18446744073709551615 else x + d
def shf (d : Int) (a : Al) : Al := ⟨later d a.tm, a.vm, a.seat⟩
theorem neg_u64 {x : Int} (h0 : 0 ≤ x) (h1 : x ≤ 18446744073709551615) : ineg .u64 x = 18446744073709551615 - x := by
  have e : (BitVec.ofInt 64 18446744073709551615 ^^^ BitVec.ofInt 64 x) = ~~~ (BitVec.ofInt 64 x) := by
    have : BitVec.ofInt 64 18446744073709551615 = BitVec.allOnes 64 := by decide
    rw [this, BitVec.allOnes_xor]
  show IntKind.u64.wrap ((BitVec.ofInt 64 18446744073709551615 ^^^ BitVec.ofInt 64 x).toNat : Int) = _
  rw [e, BitVec.toNat_not, BitVec.toNat_ofInt, wu64 (by omega) (by omega)]
  omega
theorem fl_set0 {l : List Al} {j : List Value} {i : Nat} {v : Int} (h : i < l.length) : spl (fl l ++ j) (i * 3) [.int .u64 v] = fl (l.set i ⟨v, (gt l i).vm, (gt l i).seat⟩) ++ j := by
  have hln := fl_length l
  rw [← fl_set h]
  apply List.ext_getElem?
  intro k
  rw [spl_get (by simp; omega), spl_get (by simp [ce_length]; omega)]
  rw [List.length_singleton, ce_length]
  by_cases h1 : i * 3 ≤ k ∧ k < i * 3 + 3
  · rw [if_pos h1]
    by_cases h2 : k = i * 3
    · subst h2; rw [if_pos (by omega)]; simp [ce]
    · rw [if_neg (by omega)]
      have hk : k = i * 3 + (k - i * 3) := by omega
      have := fl_cell (j := j) (k := k - i * 3) h (by omega)
      rw [nthL_eq, nthL_eq, ← hk] at this
      rw [this]
      have : k - i * 3 = 1 ∨ k - i * 3 = 2 := by omega
      rcases this with e | e <;> rw [e] <;> rfl
  · rw [if_neg h1, if_neg (by omega)]
theorem shift_spec (h : Ck S b o tb cs s l) {d : Int} (hd0 : 0 ≤ d) (hd1 : d ≤ 18446744073709551615) (hb : ∀ a ∈ l, 0 ≤ a.tm ∧ a.tm ≤ 18446744073709551615) {Q : Mem → Prop}
    (hQ : ∀ S' l', l'.Perm (l.map (shf d)) → Keeps S S' (own s) → Ck S' b o tb cs s l' → Q S') : alarm_Clock_Shift S (some (b, o)) d Q := by
  apply t_alarm_Clock_Shift
  unfold b_alarm_Clock_Shift
  simp only [jn]
  rw [if_neg (by simp), nn_i, gL_i h.rd]
  have hlen := h.len
  have hn : s.n = l.length := by
    have := h.row.len
    rw [fl_length] at this; omega
  rcases row_open h.row with ⟨rfl, rfl⟩ | ⟨c, cap, t, j, rfl, hle, hc, hj⟩
  · refine lp_rule (fun (z : Int) S' => z = 0 ∧ S' = S) (fun _ => 0) ?_ ⟨rfl, rfl⟩
    rintro X z S' ⟨rfl, rfl⟩ ih
    rw [if_neg (by simp), nn_i]
    exact init_nil h.rd (hQ _ [] (List.Perm.refl _) Keeps.refl h)
  · have hne : b ≠ c := h.ne c (by simp [own])
    refine lp_rule (fun (z : Int) S' => ∃ (i : Nat) (l' : List Al), z = (i : Int) ∧ S' = wi S c t j l' ∧ i ≤ l.length ∧ l' = (l.take i).map (shf d) ++ l.drop i) (fun z => (l.length - z).toNat) ?_ ⟨0, l, rfl, (wi_of hc).symm, by omega, by simp⟩
    rintro X z S' ⟨i, l', rfl, rfl, hi, rfl⟩ ih
    have hl' : ((l.take i).map (shf d) ++ l.drop i).length = l.length := by simp; omega
    have hrd : (wi S c t j ((l.take i).map (shf d) ++ l.drop i)).cell b o = some (eL ⟨some (c, 0), l.length, cap⟩) := by rw [wi_cell hne]; exact h.rd
    by_cases hlt : (i : Int) < (l.length : Int)
    · rw [if_pos hlt, gL_i hrd, sl_i, Int.toNat_natCast]
      have hg : gt ((l.take i).map (shf d) ++ l.drop i) i = gt l i := by
        simp only [gt, List.getD_eq_getElem?_getD]
        rw [List.getElem?_append_right (by simp; omega)]
        simp only [List.length_map, List.length_take, List.getElem?_drop]
        congr 2; omega
      have hcell : (wi S c t j ((l.take i).map (shf d) ++ l.drop i)).cell c (0 + i * 3) = some (.int .u64 (gt l i).tm) := by
        have := fl_cell (j := j) (k := 0) (i := i) (l := (l.take i).map (shf d) ++ l.drop i) (by omega) (by decide)
        rw [cell_of wi_c, Nat.zero_add]
        rw [hg] at this
        exact this
      refine ⟨by omega, hlt, ?_⟩
      rw [gI_i hcell, gL_i hrd, sl_i]
      refine ⟨by omega, hlt, ?_⟩
      rw [gI_i hcell]
      refine ⟨by omega, hlt, ?_⟩
      obtain ⟨hb0, hb1⟩ := hb (gt l i) (by rw [gt_eq (by omega)]; exact List.getElem_mem _)
      have hv : IntKind.u64.wrap ((gt l i).tm + (if ineg .u64 (gt l i).tm < d then ineg .u64 (gt l i).tm else d)) = later d (gt l i).tm := by
        rw [neg_u64 hb0 hb1]
        unfold later
        by_cases hx : 18446744073709551615 - (gt l i).tm < d
        · rw [if_pos hx, if_pos (by omega), wu64 (by omega) (by omega)]; omega
        · rw [if_neg hx, if_neg (by omega), wu64 (by omega) (by omega)]
      rw [hv]
      have hln := fl_length ((l.take i).map (shf d) ++ l.drop i)
      refine pt_i (t := t) wi_c (by rw [List.length_append, hln, hl']; omega) ?_
      rw [Nat.zero_add, fl_set0 (by omega), w64 (by omega) (by omega)]
      refine ih _ _ ⟨i + 1, ((l.take i).map (shf d) ++ l.drop i).set i ⟨later d (gt l i).tm, (gt ((l.take i).map (shf d) ++ l.drop i) i).vm, (gt ((l.take i).map (shf d) ++ l.drop i) i).seat⟩, by omega, ?_, by omega, ?_⟩ (by omega)
      · unfold wi; rw [set_set]
      · rw [hg, List.take_succ_eq_append_getElem (by omega), List.map_append, List.append_assoc]
        have hdr : l.drop i = l[i] :: l.drop (i + 1) := List.drop_eq_getElem_cons (by omega)
        rw [hdr, List.set_append_right _ _ (by simp; omega), ← gt_eq (by omega : i < l.length)]
        have : i - ((l.take i).map (shf d)).length = 0 := by simp; omega
        rw [this]; rfl
    · rw [if_neg hlt, nn_i]
      have hil : i = l.length := by omega
      subst hil
      have e : (l.take l.length).map (shf d) ++ l.drop l.length = l.map (shf d) := by simp
      rw [e]
      refine init_spec (s := ⟨some (c, 0), l.length, cap⟩) ⟨h.rd, rfl, by simp, hne⟩ (by simp; omega) fun l2 hp hh => ?_
      have hlen2 : l2.length = l.length := by rw [hp.length_eq, List.length_map]
      have hx : (⟨some (c, 0), l.length, cap⟩ : Sl) = ⟨some (c, 0), l2.length, cap⟩ := by rw [hlen2]
      refine hQ _ l2 hp (by simp only [own]; exact wi_keeps) ?_
      have hcell := h.cell
      rw [hx] at hcell ⊢
      exact ck_mk (by unfold wi; rw [set_ne hne]; exact h.blk) hcell wi_c (by omega) (by rw [hlen2]; exact hj) hne hh (by omega)
end
end Go.Proofs.Ytpilffakhkagjaa
