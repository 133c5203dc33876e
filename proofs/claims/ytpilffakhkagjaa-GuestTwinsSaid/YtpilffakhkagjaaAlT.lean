/- alarm.Clock: All; a clock of the caller's own. -/
import Derived.Test.YtpilffakhkagjaaAlG
namespace Go.Proofs.Ytpilffakhkagjaa
open Go Go.Pt Go.Hp
section
variable {S : Mem} {b o c : Nat} {tb t : TypeId} {cs j : List Value} {s : Sl} {l : List Al} {cap : Nat}
/-- What All leaves: a list of its own, in order. -/
structure Alled (S S' : Mem) (lo : Sl) (out l : List Al) : Prop where
  perm : out.Perm l
  rises : Rises out
  row : Row S' 3 lo (fl out)
  keep : Keeps S S' []
  fresh : ∀ x ∈ own lo, S x = none
theorem all_spec (h : Ck S b o tb cs s l) {Q : Sl → Mem → Prop} (hQ : ∀ S' lo out, Alled S S' lo out l → Q lo S') : alarm_Clock_All S (some (b, o)) Q := by
  apply t_alarm_Clock_All
  unfold b_alarm_Clock_All
  simp only [jn]
  rw [if_neg (by simp), nn_i, gL_i h.rd]
  refine cloneL_spec h.row h.len fun lo S1 hC => ?_
  rcases row_open hC.row with ⟨rfl, rfl⟩ | ⟨c, cap, t, j, rfl, hle, hc, hj⟩
  · exact sort_nil (hQ S1 _ [] ⟨List.Perm.refl _, List.Pairwise.nil, hC.row, hC.keep, hC.fresh⟩)
  · rw [← wi_of hc]
    refine sort_spec h.len fun l' hp hr => ?_
    have hlen := hp.length_eq
    refine hQ _ _ l' ⟨hp, hr, ?_, ?_, hC.fresh⟩
    · rw [show (⟨some (c, 0), l.length, cap⟩ : Sl) = ⟨some (c, 0), l'.length, cap⟩ by rw [hlen]]
      exact row_mk wi_c (by omega) (by rw [hlen]; exact hj)
    · exact hC.keep.fresh (hC.fresh c (by simp [own]))
end
theorem bf_eq {x y : Al} (h1 : bf x y = false) (h2 : bf y x = false) : x = y := by
  rw [bf_no] at h1 h2
  obtain ⟨a, b, c⟩ := x
  obtain ⟨d, e, f⟩ := y
  simp only at h1 h2
  have : a = d := by omega
  have : b = e := by omega
  have : c = f := by omega
  simp [*]
theorem rises_eq : ∀ {a b : List Al}, Rises a → Rises b → a.Perm b → a = b
  | [], b, _, _, hp => (List.nil_perm.1 hp).symm
  | x :: a, [], _, _, hp => by simp at hp
  | x :: a, y :: b, ha, hb, hp => by
    have ha' := List.pairwise_cons.1 ha
    have hb' := List.pairwise_cons.1 hb
    have e : x = y := by
      have hx : x ∈ y :: b := hp.subset (by simp)
      have hy : y ∈ x :: a := hp.symm.subset (by simp)
      rcases List.mem_cons.1 hx with h | h
      · exact h
      · rcases List.mem_cons.1 hy with h' | h'
        · exact h'.symm
        · exact bf_eq (hb'.1 x h) (ha'.1 y h')
    subst e
    rw [rises_eq ha'.2 hb'.2 hp.cons_inv]
theorem rises_one (a : Al) : Rises [a] := List.pairwise_singleton _ _
/-- A clock that the caller made. -/
def Mine (S0 S : Mem) (b : Nat) (l : List Al) : Prop := ∃ s, Ck S b 0 91 [eL s] s l ∧ S0 b = none ∧ (∀ x ∈ own s, S0 x = none) ∧ Keeps S0 S []
section
variable {S0 S : Mem} {b : Nat} {l : List Al}
theorem Mine.keep (h : Mine S0 S b l) : Keeps S0 S [] := by obtain ⟨s, _, _, _, hk⟩ := h; exact hk
theorem Mine.left {S' : Mem} {s s' : Sl} {l' : List Al} (hb : S0 b = none) (ho : ∀ x ∈ own s, S0 x = none) (hk : Keeps S0 S []) (h : Left' S S' b 0 91 [eL s] s s' l') : Mine S0 S' b l' := by
  refine ⟨s', h.ck, hb, fun x hx => ?_, fun x hx hw => ?_⟩
  · rcases h.fresh x hx with e | e
    · exact ho x e
    · cases hs : S0 x with
      | none => rfl
      | some k => have := hk.get hs (by simp); rw [e] at this; cases this
  · have k1 := hk x hx hw
    rw [h.keep x (by rw [k1]; exact hx) (fun hm => ?_), k1]
    rcases List.mem_cons.1 hm with rfl | hm
    · exact hx hb
    · exact hx (ho x hm)
theorem mine_new {K : Nat → Mem → Prop} (hk : Keeps S0 S []) (hK : ∀ b S', Mine S0 S' b [] → K b S') : al S 91 [.slice none 0 0] K := by
  intro b hb
  refine hK b _ ⟨⟨none, 0, 0⟩, Ck.start set_same rfl, ?_, by simp [own], hk.new hb⟩
  cases hs : S0 b with
  | none => rfl
  | some k => have := hk.get hs (by simp); rw [hb] at this; cases this
theorem mine_set (h : Mine S0 S b l) (hl : l.length + 1 < 100000) {vm seat tm : Int} (h1 : 0 ≤ vm) (h2 : vm < 6) (h3 : 0 ≤ seat) (h4 : seat < 3) {Q : Int → Mem → Prop}
    (hQ : ∀ S' l', l'.Perm (⟨tm, vm, seat⟩ :: l.filter fun a => ! (decide (a.vm = vm) && decide (a.seat = seat))) → Mine S0 S' b l' → Q 0 S') : alarm_Clock_Set S (some (b, 0)) vm seat tm Q := by
  obtain ⟨s, hc, hb, ho, hk⟩ := h
  exact set_spec hc hl h1 h2 h3 h4 fun S' s' l' hp hL => hQ S' l' hp (Mine.left hb ho hk hL)
theorem mine_drop (h : Mine S0 S b l) {vm seat : Int} {Q : Mem → Prop} (hQ : ∀ S' l', l'.Perm (l.filter fun a => ! (decide (a.vm = vm) && decide (a.seat = seat))) → Mine S0 S' b l' → Q S') : alarm_Clock_Drop S (some (b, 0)) vm seat Q := by
  obtain ⟨s, hc, hb, ho, hk⟩ := h
  exact drop1_spec hc fun S' s' l' hp hL => hQ S' l' hp (Mine.left hb ho hk hL)
theorem mine_dropVM (h : Mine S0 S b l) {vm : Int} {Q : Mem → Prop} (hQ : ∀ S' l', l'.Perm (l.filter fun a => ! decide (a.vm = vm)) → Mine S0 S' b l' → Q S') : alarm_Clock_DropVM S (some (b, 0)) vm Q := by
  obtain ⟨s, hc, hb, ho, hk⟩ := h
  exact dropVM_spec hc fun S' s' l' hp hL => hQ S' l' hp (Mine.left hb ho hk hL)
theorem mine_due (h : Mine S0 S b l) {now : Int} {Q : Sl → Mem → Prop}
    (hQ : ∀ S' l' lo out, l.Perm (out ++ l') → Rises out → (∀ x ∈ out, x.tm ≤ now) → (∀ x ∈ l', now < x.tm) → Mine S0 S' b l' → Row S' 3 lo (fl out) → Q lo S') : alarm_Clock_Due S (some (b, 0)) now Q := by
  obtain ⟨s, hc, hb, ho, hk⟩ := h
  exact due_spec hc fun S' s' l' lo out h1 h2 h3 h4 hL hT => hQ S' l' lo out h1 h2 h3 h4 (Mine.left hb ho hk hL) hT.row
theorem mine_all (h : Mine S0 S b l) {Q : Sl → Mem → Prop} (hQ : ∀ S' lo out, out.Perm l → Rises out → Mine S0 S' b l → Row S' 3 lo (fl out) → Q lo S') : alarm_Clock_All S (some (b, 0)) Q := by
  obtain ⟨s, hc, hb, ho, hk⟩ := h
  exact all_spec hc fun S' lo out hA => hQ S' lo out hA.perm hA.rises ⟨s, hc.keep hA.keep (by simp) (by simp), hb, ho, hk.trans hA.keep⟩ hA.row
theorem mine_shift (h : Mine S0 S b l) {d : Int} (hd0 : 0 ≤ d) (hd1 : d ≤ 18446744073709551615) (hbd : ∀ a ∈ l, 0 ≤ a.tm ∧ a.tm ≤ 18446744073709551615) {Q : Mem → Prop}
    (hQ : ∀ S' l', l'.Perm (l.map (shf d)) → Mine S0 S' b l' → Q S') : alarm_Clock_Shift S (some (b, 0)) d Q := by
  obtain ⟨s, hc, hb, ho, hk⟩ := h
  refine shift_spec hc hd0 hd1 hbd fun S' l' hp hk2 hC => hQ S' l' hp ⟨s, hC, hb, ho, fun x hx hw => ?_⟩
  have k1 := hk x hx hw
  rw [hk2 x (by rw [k1]; exact hx) (fun hm => hx (ho x hm)), k1]
end
section
variable {S : Mem} {s : Sl} {l : List Al}
theorem row_n (h : Row S 3 s (fl l)) : s.n = l.length := by
  have := h.len
  rw [fl_length] at this; omega
/-- A list's element is read. -/
theorem row_at (h : Row S 3 s (fl l)) (h0 : l ≠ []) : ∃ c cap, s = ⟨some (c, 0), l.length, cap⟩ ∧ ∀ i, i < l.length → S.part c (0 + i * 3) 3 = some (ce (gt l i)) ∧ ∀ k, k < 3 → S.cell c (0 + (i * 3 + k)) = nthL (ce (gt l i)) k := by
  rcases row_open h with ⟨rfl, e⟩ | ⟨c, cap, t, j, rfl, hle, hc, hj⟩
  · exact absurd e h0
  · refine ⟨c, cap, rfl, fun i hi => ⟨by rw [part_of hc, Nat.zero_add]; exact fl_part hi, fun k hk => by rw [cell_of hc, Nat.zero_add]; exact fl_cell hi hk⟩⟩
end
end Go.Proofs.Ytpilffakhkagjaa
