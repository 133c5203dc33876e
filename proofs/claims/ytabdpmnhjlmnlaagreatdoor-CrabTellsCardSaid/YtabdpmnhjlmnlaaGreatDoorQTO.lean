/- Texts of this work, joined by program (pack.py): Ih, Ii, Ij, PsO, Ik, Il, Im, PtL, PtM, Jr, Jb, Js. -/
import Derived.Test.YtabdpmnhjlmnlaaGreatDoorQTN
import Derived.Test.YtabdpmnhjlmnlaaGreatDoorQTC
import Derived.Test.YtabdpmnhjlmnlaaGreatDoorQTI
import Derived.Test.YtabdpmnhjlmnlaaGreatDoorQTE
import Derived.Test.YtabdpmnhjlmnlaaGreatDoorQTH
import Derived.Test.YtabdpmnhjlmnlaaGreatDoorQTB
import Derived.ProofKit
import Derived.OpenShut
import Derived.Test.YtabdpmnhjlmnlaaGreatDoorRows
import Derived.LaidMore
import Derived.Lay
import Derived.Lib.LaidU8
import Derived.Deep.Slices
import Derived.Stop.Joined
import Derived.Carry
set_option linter.unusedVariables false
section
namespace Go.Proofs.YtabdpmnhjlmnlaaGreatDoor
open Go Go.Pt Go.Cr Go.Hp
structure Kc (C C' : Cst) : Prop where
  N : C'.N = C.N
  form : C'.form = C.form
  region : C'.region = C.region
  turns : C'.turns = C.turns
  now : C'.now = C.now
theorem Kc.refl {C : Cst} : Kc C C := ⟨rfl, rfl, rfl, rfl, rfl⟩
theorem Kc.trans {C C' C'' : Cst} (h : Kc C C') (k : Kc C' C'') : Kc C C'' := ⟨k.N.trans h.N, k.form.trans h.form, k.region.trans h.region, k.turns.trans h.turns, k.now.trans h.now⟩
theorem Kp.kc {C C' : Cst} (h : Kp C C') : Kc C C' := ⟨h.N, h.form, h.region, h.turns, h.now⟩
def Aft (h : Nat) (C : Cst) (S : Mem) (ρ : Rho) (W' : Wd) (S' : Mem) : Prop := ∃ ρ' A' C' φ', Mv S ρ S' ρ' Rc ∧ CrabA S' ρ' h A' C' ∧ Rel C' W' φ' ∧ Kc C C'
section
variable {S S' : Mem} {ρ ρ' : Rho} {R : Nat → Prop} {h : Nat} {A : Ad} {C : Cst} {W : Wd} {φ : Nat → Nat → Nat}
theorem After.aft {W' : Wd} (hA : After h A C S ρ W' S') : Aft h C S ρ W' S' := by
  obtain ⟨ρ', A', C', φ', m, hc, hr, kp, _⟩ := hA
  exact ⟨ρ', A', C', φ', m, hc, hr, kp.kc⟩
theorem newP_create (hwk : WOk W) {n : Nat} (hoff : (W.vm n).on = false) {seats quota : Int} {xs : List Int} {pages : Nat} : W.newP n seats quota xs pages = { W with free := W.free - (5 + (pages : Int)), vm := upd W.vm n (mkV seats quota), time := upd W.time n 0, ev := upd W.ev n [], own := upd W.own n fun p => if (p : Int) < pages then some (pageB xs p) else none } := by
  have h0 := (hwk.off n hoff).2.1
  have key : ∀ (a b : Int) (o o' : Nat → Nat → Option (List Int)), a = b → o = o' → ({ W.newV n seats quota with free := a, own := o } : Wd) = { W.newV n seats quota with free := b, own := o' } := by
    rintro a b o o' rfl rfl; rfl
  refine key _ _ _ _ (by omega) ?_
  congr 1
  funext p
  by_cases e : p < pages
  · rw [if_pos e, if_pos (by omega)]
  · rw [if_neg e, if_neg (by omega)]; exact h0 p
theorem slc5 {t : Sl} {c : Nat} (hc : t.p = some (c, 0)) (h : 5 ≤ t.c) : slc 1 t 0 5 = ⟨some (c, 0), 5, t.c⟩ := by
  unfold slc
  rw [hc]
  have e1 : (0 : Int).toNat = 0 := rfl
  have e2 : ((5 : Int) - 0).toNat = 5 := rfl
  rw [e1, e2, if_neg (by omega)]
  simp
theorem row_kept {w : Nat} {s : Sl} {l : List Value} (h : Row S w s l) (m : Mv S ρ S' ρ' R) (hr : ∀ b o, s.p = some (b, o) → ρ b = none) : Row S' w s l :=
  h.keep fun b hb => by
    rcases h.lie with ⟨h1, _⟩ | ⟨b', k, h1, h2, _⟩
    · rw [h1] at hb; cases hb
    · rw [h1] at hb; cases hb
      exact m.kp b (by rw [h2]; simp) fun r e => by rw [hr b 0 h1] at e; cases e
theorem give6 {n w1 : Nat} {ss t : Sl} {b0 b1 b2 b3 : Nat} {L1 L2 : List Value} (m : Mv S ρ S' ρ' R) (h0 : S 0 ≠ none) (hs : Row S' w1 ss L1) (hsf : ∀ b o, ss.p = some (b, o) → S b = none ∧ ρ' b = none) (ht : Row S' 1 t L2) (htf : ∀ b o, t.p = some (b, o) → S b = none ∧ ρ' b = none)
    (hb : ∀ b ∈ [b0, b1, b2, b3], S b = none ∧ ρ' b = none ∧ S' b = some (bw 5 (bL noughts))) (hnd : [b0, b1, b2, b3].Nodup) (hsb : ∀ b o, ss.p = some (b, o) → b ∉ [b0, b1, b2, b3]) (htb : ∀ b o, t.p = some (b, o) → b ∉ [b0, b1, b2, b3]) (hst : ∀ b o o', ss.p = some (b, o) → t.p ≠ some (b, o')) :
    ∃ ρ'', Mv S ρ S' ρ'' R ∧ Wide S' ρ' ρ'' ∧ Rw S' ρ'' (30 + n) w1 ss L1 ∧ Rw S' ρ'' (40 + n) 1 t L2 ∧ Rw S' ρ'' (60 + 4 * n + 0) 1 (pg b0) (bL noughts) ∧ Rw S' ρ'' (60 + 4 * n + 1) 1 (pg b1) (bL noughts) ∧ Rw S' ρ'' (60 + 4 * n + 2) 1 (pg b2) (bL noughts) ∧ Rw S' ρ'' (60 + 4 * n + 3) 1 (pg b3) (bL noughts) := by
  simp only [List.nodup_cons, List.mem_cons, List.not_mem_nil, or_false, not_or, not_false_eq_true, List.nodup_nil, and_true] at hnd
  obtain ⟨⟨n01, n02, n03⟩, ⟨n12, n13⟩, n23⟩ := hnd
  have B0 := hb b0 (by simp)
  have B1 := hb b1 (by simp)
  have B2 := hb b2 (by simp)
  have B3 := hb b3 (by simp)
  have pgne : ∀ {a b : Nat}, a ≠ b → ∀ o, (pg a).p ≠ some (b, o) := fun h o e => by cases e; exact h rfl
  obtain ⟨ρ1, m1, w1', r1, k1⟩ := give_role2 (r := 60 + 4 * n + 0) m (row_pg B0.2.2) (fun b o e => by cases e; exact ⟨B0.1, B0.2.1⟩) h0
  obtain ⟨ρ2, m2, w2, r2, k2⟩ := give_role2 (r := 60 + 4 * n + 1) m1 (row_pg B1.2.2) (fun b o e => by cases e; exact ⟨B1.1, by rw [k1 _ (pgne n01)]; exact B1.2.1⟩) h0
  obtain ⟨ρ3, m3, w3, r3, k3⟩ := give_role2 (r := 60 + 4 * n + 2) m2 (row_pg B2.2.2) (fun b o e => by cases e; exact ⟨B2.1, by rw [k2 _ (pgne n12), k1 _ (pgne n02)]; exact B2.2.1⟩) h0
  obtain ⟨ρ4, m4, w4, r4, k4⟩ := give_role2 (r := 60 + 4 * n + 3) m3 (row_pg B3.2.2) (fun b o e => by cases e; exact ⟨B3.1, by rw [k3 _ (pgne n23), k2 _ (pgne n13), k1 _ (pgne n03)]; exact B3.2.1⟩) h0
  have kk : ∀ x, x ∉ [b0, b1, b2, b3] → ρ4 x = ρ' x := fun x hx => by
    simp only [List.mem_cons, List.not_mem_nil, or_false, not_or] at hx
    rw [k4 _ (pgne (Ne.symm hx.2.2.2)), k3 _ (pgne (Ne.symm hx.2.2.1)), k2 _ (pgne (Ne.symm hx.2.1)), k1 _ (pgne (Ne.symm hx.1))]
  obtain ⟨ρ5, m5, w5, r5, k5⟩ := give_role2 (r := 30 + n) m4 hs (fun b o e => ⟨(hsf b o e).1, by rw [kk b (hsb b o e)]; exact (hsf b o e).2⟩) h0
  obtain ⟨ρ6, m6, w6, r6, k6⟩ := give_role2 (r := 40 + n) m5 ht (fun b o e => ⟨(htf b o e).1, by rw [k5 b fun o' e' => hst b o' o e' e, kk b (htb b o e)]; exact (htf b o e).2⟩) h0
  have w56 := Wide.trans w5 w6
  have w46 := Wide.trans w4 w56
  have w36 := Wide.trans w3 w46
  have w26 := Wide.trans w2 w36
  exact ⟨ρ6, m6, Wide.trans w1' w26, wRw w6 r5, r6, wRw w26 r1, wRw w36 r2, wRw w46 r3, wRw w56 r4⟩
set_option maxHeartbeats 1000000 in
theorem create_spec (hc : CrabA S ρ h A C) (hr : Rel C W φ) {seats quota pages : Int} {img : Sl} {xs : List Int} (himg : ImgAt S ρ img xs) (hil : xs.length ≤ 1000000) {Q : Int → Int → Mem → Prop}
    (hQ : ∀ S', Aft h C S ρ (W.create seats quota pages xs).2.2 S' → Q (W.create seats quota pages xs).1 (W.create seats quota pages xs).2.1 S') : crab_Crab_Create S (some (h, 0)) seats quota pages img Q := by
  have hlen := himg.len
  apply t_crab_Crab_Create
  unfold b_crab_Crab_Create
  unfold Wd.create at hQ
  by_cases hbad : seats < 1 ∨ 3 < seats ∨ quota < 1 ∨ 32 < quota
  · rw [if_pos (by omega)] at hQ
    refine make_err hbad fun t ht => ⟨ht, ?_⟩
    simp only [jn]
    rw [if_neg (by simp), if_pos (by decide)]
    exact hQ S (After.here hc hr).aft
  obtain ⟨sn, rfl⟩ : ∃ m : Nat, seats = m := ⟨seats.toNat, by omega⟩
  refine make_full (by omega) (by omega) (by omega) (by omega) fun ss b0 b1 b2 b3 S1 hM => ?_
  have hk1 := hM.pages.keep
  have hc1 := hc.keeps hk1
  refine ⟨rfl, ?_⟩
  refine jn_cut (fun J => ¬ (pages < 1 ∨ quota < pages) → ¬ 256 * pages < xs.length → J S1) ?_ fun J hJ => ?_
  rotate_left
  · rw [if_neg (by simp), if_neg (by decide)]
    by_cases hp1 : pages < 1
    · rw [if_pos (by omega)] at hQ
      rw [if_pos hp1]; exact hQ S1 (After.keeps hc hr hk1).aft
    rw [if_neg hp1]
    by_cases hp2 : quota < pages
    · rw [if_pos (by omega)] at hQ
      rw [if_pos hp2]; exact hQ S1 (After.keeps hc hr hk1).aft
    rw [if_neg hp2, w64 (by omega) (by omega)]
    by_cases hp3 : 256 * pages < xs.length
    · rw [if_neg (by omega), if_pos hp3] at hQ
      rw [if_pos (by omega)]; exact hQ S1 (After.keeps hc hr hk1).aft
    · rw [if_neg (by omega)]
      exact hJ (by omega) hp3
  intro hp12 hp3
  rw [if_neg (by omega), if_neg hp3] at hQ
  obtain ⟨pn, rfl⟩ : ∃ m : Nat, pages = m := ⟨pages.toNat, by omega⟩
  have hvm : C.vm = W.vm := hr.vm
  refine jn_cut (fun J => (∀ n : Nat, firstOff (fun n => (W.vm n).on) 6 = some n → J n S1) ∧ (firstOff (fun n => (W.vm n).on) 6 = none → J 6 S1)) ?_ fun J hJ => ?_
  rotate_left
  · refine lp_rule (fun (z : Int) S' => ∃ i : Nat, z = (i : Int) ∧ i ≤ 6 ∧ S' = S1 ∧ ∀ j, j < i → (W.vm j).on = true) (fun z => 6 - z.toNat) ?_ ⟨0, rfl, by omega, rfl, fun _ h => by omega⟩
    rintro X z S' ⟨i, rfl, hi, rfl, hall⟩ ih
    by_cases hlt : (i : Int) < 6
    · rw [if_pos hlt, nn_i, gP_i hc1.c3, nn_i]
      refine ⟨by omega, hlt, ?_⟩
      rw [Int.toNat_natCast, gB_i (hc1.vcell (n := i) (j := 0) (by omega) (by decide) (by omega)), hvm]
      cases hon : (W.vm i).on with
      | true =>
        rw [if_pos rfl, w64 (by omega) (by omega)]
        refine ih _ _ ⟨i + 1, rfl, by omega, rfl, fun j hj => ?_⟩ (by omega)
        by_cases e : j = i
        · subst e; exact hon
        · exact hall j (by omega)
      | false =>
        rw [if_neg (by decide)]
        exact hJ.1 i (firstOff_of (by omega) hon hall)
    · rw [if_neg hlt]
      have : i = 6 := by omega
      subst this
      refine hJ.2 ?_
      cases hf : firstOff (fun n => (W.vm n).on) 6 with
      | none => rfl
      | some g =>
        obtain ⟨a, b, _⟩ := firstOff_some hf
        rw [hall g a] at b; cases b
  constructor
  rotate_left
  · intro hnone
    rw [hnone] at hQ
    simp only [jn]
    rw [if_pos trivial]
    exact hQ S1 (After.keeps hc hr hk1).aft
  intro n hfirst
  rw [hfirst] at hQ
  dsimp only at hQ
  obtain ⟨hn, hoff, _⟩ := firstOff_some hfirst
  simp only [jn]
  rw [if_neg (by omega), nn_i, gP_i hc1.c1, w64 (by omega) (by omega)]
  have hleft := hr.left
  have hfree := hr.free
  have e5 : 5 + (pn : Int) = ((5 + pn : Nat) : Int) := by omega
  rw [e5]
  refine some_spec hc1.pl hc1.rg (by omega) (n := 5 + pn) (by omega) (r := 102) ⟨by decide, by decide, by decide⟩ (fun l u hnl htk t S2 ρ2 m2 hp2 hrow2 => ?_) fun hbad2 S2 ρ2 left' m2 hl' _ hp2 => ?_
  rotate_left
  · have hfull : W.free < 5 + (pn : Int) := by
      rcases hbad2 with e | e
      · omega
      · have := takeN_none.1 e; omega
    rw [if_pos hfull] at hQ
    rw [if_pos (by decide)]
    have hc2 := hc1.setPool m2 (fun r hr => hr.elim .inl fun h => .inr (by omega)) hp2
    have e1 : left' = C.left := by rw [hl' hleft, hleft]
    rw [e1] at hc2
    exact hQ S2 ⟨ρ2, A, C, φ, (Mv.keeps hc.rg hk1).trans (m2.mono fun r hr => by unfold R345 at hr; unfold Rc; omega), hc2, hr, Kc.refl⟩
  have hroom : ¬ W.free < 5 + (pn : Int) := by
    intro hlt
    have := takeN_none (N := C.N) (k := 5 + pn) (u := C.used)
    rw [htk] at this
    exact absurd (this.2 (by omega)) (by simp)
  rw [if_neg hroom] at hQ
  rw [if_neg (by decide)]
  have hlv : leftN C.left (5 + pn) = C.left := by unfold leftN; rw [if_pos (by omega), hleft]
  rw [hlv] at hp2
  have hc2 := hc1.setPool m2 (fun r hr => hr.elim .inl fun h => .inr (by omega)) hp2
  obtain ⟨hll, hlnd, hlfree, _, _⟩ := takeN_some htk
  have htn := hrow2.n (by decide) (nL_len l)
  have htcap := hrow2.row.cap
  obtain ⟨c, ec1, ec2⟩ := hrow2.sl (by rw [nL_len]; omega)
  obtain ⟨u5, htk5, htkp⟩ := takeN_split (i := 5) (k := pn) htk
  have hl5len : (l.take 5).length = 5 := by rw [List.length_take]; omega
  have hs5 := slc5 ec2 (by omega)
  refine ⟨by decide, by omega, ?_⟩
  rw [hs5]
  show lp _ 0 S2
  refine lp_rule (fun (z : Int) S' => ∃ i : Nat, z = (i : Int) ∧ i ≤ 5 ∧ Mv S2 ρ2 S' ρ2 (· = 9) ∧ CrabA S' ρ2 h A { C with used := u, own := keepL C.own n (l.take i) } ∧ Rw S' ρ2 102 1 t (nL l)) (fun z => 5 - z.toNat) ?_ ⟨0, rfl, by omega, Mv.refl hc2.rg, hc2, hrow2⟩
  rintro X z S3 ⟨i, rfl, hi, m3, hc3, hrow3⟩ ih
  by_cases hlt : (i : Int) < ((5 : Nat) : Int)
  · rw [if_pos hlt, sl_i]
    refine ⟨by omega, hlt, ?_⟩
    have hil2 : i < l.length := by omega
    rw [Int.toNat_natCast, gI_i (by rw [hrow3.cell ec2 i (by rw [nL_len]; omega) (by omega)]; exact nL_get hil2), gP_i hc3.c3, nn_i, gP_i hc3.t74]
    refine keepB_spec hc3.ow hc3.rg (hlfree _ (List.getElem_mem hil2)).1 (by omega) fun e S4 m4 hs4 => ?_
    rw [w64 (by omega) (by omega)]
    refine ih _ S4 ⟨i + 1, rfl, by omega, m3.trans m4, ?_, hrow3.keep m4 (by decide)⟩ (by omega)
    have e1 : keepL C.own n (l.take (i + 1)) = keepC (keepL C.own n (l.take i)) l[i] n := by
      unfold keepL
      rw [List.take_succ_eq_append_getElem hil2, List.foldl_append]; rfl
    rw [e1]
    exact hc3.setOwn m4 hs4
  rw [if_neg hlt]
  have hi5 : i = 5 := by omega
  subst hi5
  rw [gP_i hc3.c0, gP_i hc3.c3, nn_i, gI_i hc3.tform]
  refine ⟨by decide, by omega, ?_⟩
  show table_Make S3 (some (A.m, 0)) C.form ⟨some (c, 0), 5, t.c⟩ _
  refine makeT_spec hc3.st hc3.rg hr.form (by decide) hrow3 ec2 (by omega) (fun f hf => (hlfree f hf).1) fun t' S4 m4 hs4 hrow4 hfr4 => ?_
  have hc4 := hc3.setStore m4 hs4
  have hrow4l := hrow3.keep m4 (by decide)
  refine ⟨hc4.c3, rfl, ?_⟩
  rw [gP_i hc4.c3, nn_i, gI_i hc4.tnow, gP_i hc4.c3, nn_i]
  refine ⟨by omega, by omega, rfl, ?_⟩
  have mS12 : Mv S1 ρ S4 ρ2 Rc := (m2.mono fun r hr => by unfold R345 at hr; unfold Rc; omega).trans ((m3.mono fun r hr => by unfold Rc; omega).trans (m4.mono fun r hr => by unfold Rc; omega))
  have mS : Mv S ρ S4 ρ2 Rc := (Mv.keeps hc.rg hk1).trans mS12
  have hnorole : ∀ b, S b = none → ρ b = none := fun b hb => by
    cases hq : ρ b with
    | none => rfl
    | some r => exact absurd hb (hc.rg b r hq)
  have hnew : ∀ b, S b = none → S1 b ≠ none → ρ2 b = none ∧ S4 b = S1 b := fun b hb hb1 => by
    refine ⟨?_, mS12.kp b hb1 fun r e => by rw [hnorole b hb] at e; cases e⟩
    cases hq : ρ2 b with
    | none => rfl
    | some r => have := mS12.old b r hq hb1; rw [hnorole b hb] at this; cases this
  have hss : ∀ b o, ss.p = some (b, o) → S1 b ≠ none := fun b o e => by
    rcases hM.row.lie with ⟨h1, _⟩ | ⟨b', k, h1, h2, _⟩
    · rw [h1] at e; cases e
    · rw [h1] at e; cases e; rw [h2]; simp
  have hS3grow : ∀ b, S1 b ≠ none → S3 b ≠ none := fun b hb => m3.al b (m2.al b hb)
  obtain ⟨ρ5, m5, w5, g1, g2, g3, g4, g5, g6⟩ := give6 (n := n) mS (gl_some hc.gl) (row_kept hM.row mS12 fun b o e => hnorole b (hM.fresh b o e).1) (fun b o e => ⟨(hM.fresh b o e).1, (hnew b (hM.fresh b o e).1 (hss b o e)).1⟩) hrow4 (fun b o e => ⟨by
      cases hs : S b with
      | none => rfl
      | some k => exact absurd (hfr4 b o e).1 (hS3grow b (by rw [hk1 b (by rw [hs]; simp) (by simp), hs]; simp)), (hfr4 b o e).2⟩)
    (fun b hb => by
      obtain ⟨h1, h2⟩ := hM.pages.at_ b hb
      have := hnew b h1 (by rw [h2]; simp)
      exact ⟨h1, this.1, by rw [this.2]; exact h2⟩) hM.pages.nodup (fun b o e => (hM.fresh b o e).2)
    (fun b o e hb => by
      have h1 := (hfr4 b o e).1
      exact hS3grow b (by rw [(hM.pages.at_ b hb).2]; simp) h1)
    (fun b o o' e e' => by
      have h1 := (hfr4 b o' e').1
      exact hS3grow b (hss b o e) h1)
  have hc5 := CrabA.wide w5 hc4
  have hrow5 := wRw w5 hrow4l
  generalize hdd : (fun j : Nat => if j = 0 then pg b0 else if j = 1 then pg b1 else if j = 2 then pg b2 else pg b3) = dd
  have hd0 : dd 0 = pg b0 := by rw [← hdd]; rfl
  have hd1 : dd 1 = pg b1 := by rw [← hdd]; rfl
  have hd2 : dd 2 = pg b2 := by rw [← hdd]; rfl
  have hd3 : dd 3 = pg b3 := by rw [← hdd]; rfl
  have hvn : VmP S4 ρ5 n ⟨ss, t', ⟨none, 0, 0⟩, dd⟩ (mkV sn quota) (l.take 5) := ⟨g1, s0_ok _, g2, Rw.nil, fun j hj => by
    match j, hj with
    | 0, _ => show Rw _ _ _ _ (dd 0) _; rw [hd0]; exact g3
    | 1, _ => show Rw _ _ _ _ (dd 1) _; rw [hd1]; exact g4
    | 2, _ => show Rw _ _ _ _ (dd 2) _; rw [hd2]; exact g5
    | 3, _ => show Rw _ _ _ _ (dd 3) _; rw [hd3]; exact g6⟩
  have hcells : spl (spl (mk12 ss quota b0 b1 b2 b3) 2 (tbL C.form t')) 5 [.int .u64 C.now] = vmC ⟨ss, t', ⟨none, 0, 0⟩, dd⟩ (mkV sn quota) C.form C.now := by
    unfold vmC
    simp only [hd0, hd1, hd2, hd3]
    rfl
  rw [Int.toNat_natCast]
  show pt S4 A.t (0 + 2 + n * 12) 12 (spl (spl (mk12 ss quota b0 b1 b2 b3) 2 (tbL C.form t')) 5 [.int .u64 C.now]) _
  rw [hcells]
  refine cvm_put hc5 (j := 0) (vs := vmC ⟨ss, t', ⟨none, 0, 0⟩, dd⟩ (mkV sn quota) C.form C.now) (tf' := C.form) (late' := C.now) hn (by omega) rfl (by rw [vmC_len]; decide) (spl_all (by rw [vmC_len, vmC_len])) hvn fun S6 m6 hc6 => ?_
  refine ⟨by omega, by omega, ?_⟩
  refine hc6.hd.pt hc6.rg (vs := [eL ⟨none, 0, 0⟩]) (5 + n) rfl (by rw [hdL_len]; simp; omega) (by omega) fun S7 m7 h7 => ?_
  rw [hdL_sev hn] at h7
  have hc7 := hc6.setEv m7 (fun r hr => .inl hr) (es := upd A.es n ⟨none, 0, 0⟩) (ev := upd C.ev n []) h7 fun i hi => by
    by_cases e : i = n
    · subst e; rw [upd_at, upd_at]; exact Rw.nil
    · rw [upd_of e, upd_of e]; exact (hc6.ev i hi).keep m7 (by omega)
  have hrow7 := (hrow5.keep m6 (by decide)).keep m7 (by decide)
  have m57 : Mv S ρ S7 ρ5 Rc := m5.trans ((m6.mono fun r hr => by unfold Rc; omega).trans (m7.mono fun r hr => by unfold Rc; omega))
  have hrel0 := hr.newV (seats := sn) (quota := quota) hn hoff (by omega) (by omega) htk5
  have himg7 := himg.mv m57
  refine ⟨by decide, by omega, by omega, ?_⟩
  have hloop := pagesLoop (C := { C with used := u, own := keepL C.own n (l.take 5), dat := makeD C.dat C.form (l.take 5), vm := upd C.vm n (mkV sn quota), tf := upd C.tf n C.form, late := upd C.late n C.now, fr := upd C.fr n (l.take 5), ev := upd C.ev n [] }) (W := W) (pages := pn) (seats := sn) (quota := quota) (t := t) (l := l) (c := c) (u := u) (u0 := u5) (xs := xs) (img := img) (h := h) hn hr.wk hoff (by omega) (by omega) hll (fun f hf => (hlfree f hf).1) hc7 rfl htkp hrel0 hrow7 ec2 himg7 (by omega) (Q := fun Sx => Q n 0 Sx) fun S8 hA8 => ?_
  · exact hloop
  · rw [newP_create hr.wk hoff] at hA8
    obtain ⟨ρ8, A8, C8, φ8, m8, hc8, hr8, kp8, _⟩ := hA8
    exact hQ S8 ⟨ρ8, A8, C8, φ8, m57.trans m8, hc8, hr8, ⟨kp8.N, kp8.form, kp8.region, kp8.turns, kp8.now⟩⟩
end
end Go.Proofs.YtabdpmnhjlmnlaaGreatDoor
end
section
namespace Go.Cr
open Go Go.Pt
theorem cF_noughts : ∀ N : Nat, cF N (fun _ => noughts) = List.replicate (256 * N) (0 : Int)
  | 0 => rfl
  | N + 1 => by
    simp only [cF]
    rw [cF_noughts N, Nat.mul_add, Nat.mul_one, ← List.replicate_append_replicate]; rfl
def kn0 (form : Int) : Kn := ⟨form, 0, fun _ => bv0, fun _ => 0, fun _ => 0, fun _ => [], fun _ => ls0, fun _ => 0⟩
def cst0 (form : Int) (N : Nat) : Cst := { toKn := kn0 form, N := N, dat := fun _ => noughts, used := fun _ => false, left := -1, cache := [], own := fun _ => ow0, alm := fun _ _ => none, region := [], ev := fun _ => [] }
end Go.Cr
namespace Go.Proofs.YtabdpmnhjlmnlaaGreatDoor
open Go Go.Pt Go.Cr Go.Hp
section
variable {S S' : Mem} {ρ ρ' : Rho} {R : Nat → Prop}
theorem clamp {N : Nat} (h : N ≤ 512) : (if 512 < (if (N : Int) < 0 then 0 else (N : Int)) then 512 else (if (N : Int) < 0 then 0 else (N : Int))) = (N : Int) := by
  rw [if_neg (by omega : ¬ (N : Int) < 0), if_neg (by omega)]
theorem storeNew_spec (hg : ∀ b r, ρ b = some r → S b ≠ none) {N : Nat} (h1 : 1 ≤ N) (hN : N ≤ 512) {Q : Pt → Mem → Prop} (hQ : ∀ m S' ρ', Mv S ρ S' ρ' (fun _ => False) → StoreD S' ρ' m N (fun _ => noughts) → Q (some (m, 0)) S') : store_New S N Q := by
  apply t_store_New
  unfold b_store_New
  rw [clamp hN, w64 (by omega) (by omega)]
  refine ⟨by omega, Int.le_refl _, by omega, by omega, ?_⟩
  have e : (256 * (N : Int)).toNat = 256 * N := by omega
  rw [e, zrep_bL, ← cF_noughts]
  intro B hB m hm
  have m1 : Mv S ρ (S.set B (bw 5 (bL (cF N fun _ => noughts)))) (ρ.upd B 2) (fun _ => False) := (Mv.refl hg).new hB _ 2
  have m2 := m1.new hm (bw 180 [.slice (some ⟨B, 0, none⟩) (256 * N) (256 * N)]) 1
  have hne : m ≠ B := fun e => by subst e; simp at hm
  refine hQ m _ _ m2 ⟨⟨B, ⟨set_same, by rw [set_ne hne.symm]; exact set_same, hne, by rw [cF_noughts, List.length_replicate], fun x hx => ?_, hN⟩, by rw [upd_ne hne.symm]; exact upd_same⟩, upd_same, fun _ _ => noughts_len, fun _ _ x hx => noughts_byt hx⟩
  rw [cF_noughts] at hx
  rw [List.eq_of_mem_replicate hx]; decide
theorem ownNew_spec (hg : ∀ b r, ρ b = some r → S b ≠ none) {N : Nat} (h1 : 1 ≤ N) (hN : N ≤ 512) {Q : Pt → Mem → Prop} (hQ : ∀ m S' ρ', Mv S ρ S' ρ' (fun _ => False) → OwnP S' ρ' m N (fun _ => ow0) → Q (some (m, 0)) S') : owner_New S N Q := by
  apply t_owner_New
  unfold b_owner_New
  rw [clamp hN]
  refine ⟨by omega, Int.le_refl _, by omega, by omega, ?_⟩
  rw [Int.toNat_natCast]
  have hz : zrep N [Value.int .u8 0, .int .i64 0, .int .i64 0, .int .i64 0] = cF N fun _ => owL ow0 := by
    have : ∀ n : Nat, zrep n [Value.int .u8 0, .int .i64 0, .int .i64 0, .int .i64 0] = cF n fun _ => owL ow0 := by
      intro n
      induction n with
      | zero => rfl
      | succ n ih =>
        have hs : ∀ (z : List Value) (n : Nat), zrep (n + 1) z = zrep n z ++ z := by
          intro z n
          induction n with
          | zero => simp [zrep]
          | succ n ih => show z ++ zrep (n + 1) z = (z ++ zrep n z) ++ z; rw [ih, List.append_assoc]
        rw [hs, ih]; rfl
    exact this N
  rw [hz]
  intro B hB m hm
  have hl : (cF N fun _ => owL ow0).length = N * 4 := ow_len (own := fun _ => ow0)
  have m1 : Mv S ρ (S.set B (bw 91 (cF N fun _ => owL ow0))) (ρ.upd B 9) (fun _ => False) := (Mv.refl hg).new hB _ 9
  have m2 := m1.new hm (bw 199 [.slice (some ⟨B, 0, none⟩) N N]) 8
  have hne : m ≠ B := fun e => by subst e; simp at hm
  refine hQ m _ _ m2 ⟨⟨some (B, 0), N, N⟩, ⟨⟨_, set_same, rfl, rfl⟩, upd_same⟩, ⟨⟨hl, Nat.le_refl _, .inr ⟨B, _, rfl, by rw [set_ne hne.symm]; exact set_same, rfl, hl, ?_⟩⟩, fun b o e => by cases e; rw [upd_ne hne.symm]; exact upd_same⟩⟩
  show (cF N fun _ => owL ow0).take (N * 4) = _
  exact List.take_of_length_le (by rw [hl]; exact Nat.le_refl _)
def iL (n : Nat) : List Int := (List.range n).map fun (i : Nat) => (i : Int)
theorem iL_succ (n : Nat) : Hq.fl (iL (n + 1)) = Hq.fl (iL n) ++ [.int .i64 (n : Int)] := by
  unfold iL Hq.fl
  rw [List.range_succ, List.map_append, List.flatMap_append]; rfl
theorem iL_free (N : Nat) : iL N = freeL N fun _ => false := by
  unfold iL freeL
  have : (List.range N).filter (fun i => ! false) = List.range N := by simp
  rw [this]
theorem uL_succ (n : Nat) : uL (n + 1) (fun _ => false) = uL n (fun _ => false) ++ [.bool false] := rfl
theorem poolNew_spec (hg : ∀ b r, ρ b = some r → S b ≠ none) {N : Nat} (h1 : 1 ≤ N) (hN : N ≤ 512) {Q : Pt → Mem → Prop} (hQ : ∀ p S' ρ', Mv S ρ S' ρ' R345 → PoolP S' ρ' p N (fun _ => false) (-1) → Q (some (p, 0)) S') : pool_New S N Q := by
  apply t_pool_New
  unfold b_pool_New
  intro p hp
  have m0 : Mv S ρ (S.set p (bw 178 [.slice none 0 0, .slice none 0 0, .int .i64 (-1)])) (ρ.upd p 3) R345 := (Mv.refl hg).new hp _ 3
  simp only [jn]
  refine lp_rule (fun (z : Int) S' => ∃ (i : Nat) (ρ' : Rho) (fs us : Sl), z = (i : Int) ∧ i ≤ N ∧ Mv S ρ S' ρ' R345 ∧ Pc S' ρ' 3 p [eL fs, eL us, .int .i64 (-1)] ∧ S' p = some (bw 178 [eL fs, eL us, .int .i64 (-1)]) ∧ Rw S' ρ' 4 1 fs (Hq.fl (iL i)) ∧ Rw S' ρ' 5 1 us (uL i fun _ => false)) (fun z => N - z.toNat) ?_
    ⟨0, _, ⟨none, 0, 0⟩, ⟨none, 0, 0⟩, rfl, by omega, m0, ⟨⟨_, set_same, rfl, rfl⟩, upd_same⟩, set_same, Rw.nil, Rw.nil⟩
  rintro X z S1 ⟨i, ρ1, fs, us, rfl, hi, m1, hpc, hblk, hf, hu⟩ ih
  rw [clamp hN]
  have hfl : (Hq.fl (iL i)).length = i * 1 := by rw [Hq.fl_length]; simp [iL]
  have hfn := hf.n (by decide) hfl
  have hun := hu.n (by decide) uL_len
  by_cases hlt : (i : Int) < (N : Int)
  · rw [if_pos hlt, gL_i (hpc.cell 0 (by simp) rfl)]
    refine ap_rw (R := R345) m1 (.inr (.inl rfl)) hf rfl (by decide) rfl (by omega) fun fs' S2 ρ2 m2 m2' hf2 _ => ?_
    have hpc2 := hpc.keep m2' (by decide)
    have hblk2 : S2 p = some (bw 178 [eL fs, eL us, .int .i64 (-1)]) := by rw [mv_keep m2' (by rw [hblk]; simp) hpc.rol (by decide)]; exact hblk
    have hu2 := hu.keep m2' (by decide)
    refine pt_i hblk2 (by simp) ?_
    have e1 : spl [eL fs, eL us, Value.int .i64 (-1)] 0 [eL fs'] = [eL fs', eL us, .int .i64 (-1)] := rfl
    rw [e1]
    have m3 : Mv S ρ (S2.set p (bw 178 [eL fs', eL us, .int .i64 (-1)])) ρ2 R345 := m2.put hpc2.rol (.inl rfl) _
    have m3' : Mv S2 ρ2 (S2.set p (bw 178 [eL fs', eL us, .int .i64 (-1)])) ρ2 (· = 3) := (Mv.refl (R := (· = 3)) m2.rg).put hpc2.rol rfl _
    have hf3 := hf2.keep m3' (by decide)
    have hu3 := hu2.keep m3' (by decide)
    have hpc3 : Pc (S2.set p (bw 178 [eL fs', eL us, .int .i64 (-1)])) ρ2 3 p [eL fs', eL us, .int .i64 (-1)] := ⟨⟨_, set_same, rfl, rfl⟩, hpc2.rol⟩
    rw [gL_i (hpc3.cell 1 (by simp) rfl)]
    refine ap_rw (R := R345) m3 (.inr (.inr rfl)) hu3 rfl (by decide) rfl (by omega) fun us' S4 ρ4 m4 m4' hu4 _ => ?_
    have hblk4 : S4 p = some (bw 178 [eL fs', eL us, .int .i64 (-1)]) := by rw [mv_keep m4' (by rw [set_same]; simp) hpc2.rol (by decide)]; exact set_same
    refine pt_i hblk4 (by simp) ?_
    have e2 : spl [eL fs', eL us, Value.int .i64 (-1)] 1 [eL us'] = [eL fs', eL us', .int .i64 (-1)] := rfl
    rw [e2]
    have hr4 := m4'.ext p 3 hpc2.rol
    have m5 : Mv S ρ (S4.set p (bw 178 [eL fs', eL us', .int .i64 (-1)])) ρ4 R345 := m4.put hr4 (.inl rfl) _
    have m5' : Mv S4 ρ4 (S4.set p (bw 178 [eL fs', eL us', .int .i64 (-1)])) ρ4 (· = 3) := (Mv.refl (R := (· = 3)) m4.rg).put hr4 rfl _
    rw [w64 (by omega) (by omega)]
    refine ih _ _ ⟨i + 1, ρ4, fs', us', rfl, by omega, m5, ⟨⟨_, set_same, rfl, rfl⟩, hr4⟩, set_same, ?_, ?_⟩ (by omega)
    · rw [iL_succ]; exact (hf3.keep m4' (by decide)).keep m5' (by decide)
    · rw [uL_succ]; exact hu4.keep m5' (by decide)
  · rw [if_neg hlt]
    have : i = N := by omega
    subst this
    have hil : (iL i).length = i := by simp [iL]
    rcases Hq.row_open hf.row with ⟨_, h0⟩ | ⟨c, cap, t, j, e1, hle, hc, hj⟩
    · rw [h0] at hil; simp at hil; omega
    have hrc : ρ1 c = some 4 := hf.rol c 0 (by rw [e1])
    have hne : p ≠ c := fun e => by rw [← e, hpc.rol] at hrc; cases hrc
    have hcell : S1.cell p 0 = some (eL fs) := hpc.cell 0 (by simp) rfl
    have hw := Hq.wi_of hc
    rw [← hw]
    refine Hq.init_spec (s := fs) ⟨hcell, by rw [e1], by rw [e1], hne⟩ (by omega) fun l' hp' hh => ?_
    have hll := hp'.length_eq
    have m2 : Mv S ρ (Hq.wi S1 c t j l') ρ1 R345 := m1.put hrc (.inr (.inl rfl)) _
    have m2' : Mv S1 ρ1 (Hq.wi S1 c t j l') ρ1 (· = 4) := (Mv.refl (R := (· = 4)) m1.rg).put hrc rfl _
    refine hQ p _ ρ1 m2 ⟨⟨178, fs, us, l', ?_, fun x hx => ?_, hu.keep m2' (by decide), by rw [← iL_free]; exact hp'⟩, hpc.rol, hN⟩
    · have efs : fs = ⟨some (c, 0), l'.length, cap⟩ := by rw [e1, hll]
      rw [efs]
      exact Hq.ck_mk (by unfold Hq.wi; rw [set_ne hne, hblk, efs]) rfl Hq.wi_c (by omega) (by rw [hll]; exact hj) hne hh (by omega)
    · have : x = c := by rw [e1] at hx; simpa [Hq.own] using hx
      rw [this]; exact hrc
theorem kn_cells {form : Int} {ob kb : Nat} : spl (spl (spl z77 0 [.int .i64 form]) 74 [eP (some (ob, 0))]) 171 [.pointer (some ⟨kb, 0, none⟩)] = knL (kn0 form) (fun _ => vx0) ob kb := by kernel_rfl
theorem hd_cells {m p t : Nat} : ([eP (some (m, 0)), eP (some (p, 0)), .slice none 0 0, eP (some (t, 0)), .slice none 0 0, .slice none 0 0, .slice none 0 0, .slice none 0 0, .slice none 0 0, .slice none 0 0, .slice none 0 0] : List Value) = hdL ⟨m, p, t, 0, 0, ⟨none, 0, 0⟩, ⟨none, 0, 0⟩, fun _ => ⟨none, 0, 0⟩, fun _ => vx0⟩ := rfl
end
end Go.Proofs.YtabdpmnhjlmnlaaGreatDoor
end
section
namespace Go.Cr
open Go Go.Pt
def ownL (l : List Nat) : Nat → Ow := fun f => if f ∈ l then ⟨1, 0, 0, 0⟩ else ow0
theorem ownL_in {l : List Nat} {f : Nat} (h : f ∈ l) : ownL l f = ⟨1, 0, 0, 0⟩ := if_pos h
theorem ownL_out {l : List Nat} {f : Nat} (h : f ∉ l) : ownL l f = ow0 := if_neg h
theorem ownL_keep {l : List Nat} {g : Nat} : keepC (ownL l) g (-1) = ownL (l ++ [g]) := by
  unfold keepC
  funext f
  by_cases hm : g ∈ l
  · rw [ownL_in hm, if_neg (by decide)]
    by_cases hf1 : f ∈ l
    · rw [ownL_in hf1, ownL_in (by simp [hf1])]
    · have : f ≠ g := fun e => hf1 (e ▸ hm)
      rw [ownL_out hf1, ownL_out (by simp only [List.mem_append, List.mem_singleton, not_or]; exact ⟨hf1, this⟩)]
  · rw [ownL_out hm, if_pos (show ow0.kind = 0 from rfl), if_neg (by decide)]
    by_cases hf1 : f = g
    · subst hf1; rw [upd_at, ownL_in (by simp)]
    · rw [upd_of hf1]
      by_cases hf2 : f ∈ l
      · rw [ownL_in hf2, ownL_in (by simp [hf2])]
      · rw [ownL_out hf2, ownL_out (by simp only [List.mem_append, List.mem_singleton, not_or]; exact ⟨hf2, hf1⟩)]
def cstN (form : Int) (N : Nat) (l : List Nat) (u : Nat → Bool) : Cst := { toKn := kn0 form, N := N, dat := fun _ => noughts, used := u, left := -1, cache := [], own := ownL l, alm := fun _ _ => none, region := l, ev := fun _ => [] }
def cstA (form : Int) (N : Nat) (l : List Nat) (u : Nat → Bool) (o : Nat → Ow) : Cst := { toKn := kn0 form, N := N, dat := fun _ => noughts, used := u, left := -1, cache := [], own := o, alm := fun _ _ => none, region := l, ev := fun _ => [] }
theorem wok_W0 {free : Int} : WOk (W0 free) := by
  refine ⟨fun n _ => ⟨rfl, fun _ => rfl, fun _ => rfl⟩, fun n _ => rfl, fun n h => (by cases h), fun n s h => (by cases h), fun n => ⟨Nat.zero_le 64, fun x h => by cases h⟩, fun n j h => (by cases h), fun n => ⟨Int.le_refl 0, (by decide : (0:Int) ≤ 32)⟩, fun n k h => (by cases h), fun n p l h => (by cases h), fun n => ?_, fun i h => (by cases h), fun i _ => rfl, fun i h => (by cases h), fun i j h => (by cases h), fun n k w h => (by cases h)⟩
  have : (W0 free).pages n = 0 := count_zero fun _ _ => rfl
  rw [this]; exact Int.le_refl _
theorem rel_cstN {form : Int} (hf : form = 1 ∨ form = 2) {N : Nat} (hN : N ≤ 512) {l : List Nat} {u : Nat → Bool} (h : takeN N l.length (fun _ => false) = some (l, u)) {φ : Nat → Nat → Nat} : Rel (cstN form N l u) (W0 (N - l.length)) φ := by
  obtain ⟨_, h2, h3, h4, h5⟩ := takeN_some h
  have hk : ∀ f, (cstN form N l u).own f = if f ∈ l then ⟨1, 0, 0, 0⟩ else ow0 := fun _ => rfl
  have hc : count (fun f => ! (fun _ => false : Nat → Bool) f) N = N := by
    unfold count
    have : (List.range N).filter (fun f => ! false) = List.range N := by simp
    rw [this]; simp
  refine ⟨wok_W0, rfl, rfl, rfl, hN, hf, ⟨Int.le_refl 0, (by decide : (0:Int) ≤ 4611686018427387904)⟩, fun n h => (by cases h), fun n k => rfl, ?_, rfl, fun f _ => ?_, fun f _ h => ?_, fun f _ => ?_, fun f _ => ⟨noughts_len, fun x hx => noughts_byt hx⟩, fun n _ => ⟨rfl, rfl, rfl⟩, fun n h => (by cases h), fun n f h => (by cases h), fun f _ h => ?_, fun n j h => (by cases h), fun n p h => (by cases h), fun n p l h => (by cases h), fun f _ h => ?_, ⟨h2, fun f => ?_⟩, fun r h => (by cases h), Nat.zero_le 8⟩
  · show ((N : Int) - l.length) = count (fun f => ! u f) N
    rw [hc] at h5; omega
  · show u f = _
    rw [h4 f, hk f]
    by_cases e : f ∈ l
    · rw [if_pos e]; simp [e]
    · rw [if_neg e]; simp [e, ow0]
  · rw [hk f] at h ⊢
    split at h
    · cases h
    · rename_i e; rw [if_neg e]
  · rw [hk f]
    by_cases e : f ∈ l
    · rw [if_pos e]; decide
    · rw [if_neg e]; decide
  · rw [hk f] at h
    split at h <;> cases h
  · rw [hk f] at h
    split at h <;> cases h
  · show f ∈ l ↔ _
    rw [hk f]
    constructor
    · intro e; exact ⟨(h3 f e).1, by rw [if_pos e]⟩
    · rintro ⟨_, e⟩
      split at e
      · assumption
      · cases e
end Go.Cr
namespace Go.Proofs.YtabdpmnhjlmnlaaGreatDoor
open Go Go.Pt Go.Cr Go.Hp
section
variable {S S' : Mem} {ρ ρ' : Rho} {R : Nat → Prop}
theorem spl_reg {A : Ad} {s : Sl} : spl (hdL A) 4 [eL s] = hdL { A with gs := s } := rfl
theorem begin_spec (hg : ∀ b r, ρ b = some r → S b ≠ none) (h0 : ρ 0 = none) (hgl : Gl S) {form : Int} {N : Nat} (h1 : 1 ≤ N) (hN : N ≤ 512) {Q : Nat → Mem → Prop}
    (hQ : ∀ S' ρ' h A, Mv S ρ S' ρ' Rc → CrabA S' ρ' h A (cst0 form N) → Q h S') :
    store_New S N fun t Sx_1 => pool_New Sx_1 N fun t_1 Sx_2 => guest_New Sx_2 form N fun t_2 Sx_3 =>
      al Sx_3 86 ([eP t, eP t_1, .slice (none) 0 0, eP t_2, .slice (none) 0 0, .slice (none) 0 0, .slice (none) 0 0, .slice (none) 0 0, .slice (none) 0 0, .slice (none) 0 0, .slice (none) 0 0]) fun b Sx_4 => Q b Sx_4 := by
  refine storeNew_spec hg h1 hN fun m S1 ρ1 m1 hs1 => ?_
  refine poolNew_spec m1.rg h1 hN fun p S2 ρ2 m2 hp2 => ?_
  have hs2 := hs1.keep m2 (by decide) (by decide)
  apply t_guest_New
  unfold b_guest_New
  refine ownNew_spec m2.rg h1 hN fun ob S3 ρ3 m3 ho3 => ?_
  have hs3 := hs2.keep m3 (fun h => h) (fun h => h)
  have hp3 := hp2.keep m3 (fun h => h) (fun h => h) (fun h => h)
  intro kb hkb t ht h hh
  rw [kn_cells] at hh ⊢
  rw [hd_cells]
  have M4 : Mv S3 ρ3 (S3.set kb (bw 127 [.slice none 0 0])) (ρ3.upd kb 10) (fun _ => False) := (Mv.refl m3.rg).new hkb _ 10
  have M5 := M4.new ht (bw 77 (knL (kn0 form) (fun _ => vx0) ob kb)) 7
  have M6 := M5.new hh (bw 86 (hdL ⟨m, p, t, ob, kb, ⟨none, 0, 0⟩, ⟨none, 0, 0⟩, fun _ => ⟨none, 0, 0⟩, fun _ => vx0⟩)) 0
  have n1 : kb ≠ t := fun e => by subst e; simp at ht
  have n2 : kb ≠ h := fun e => by subst e; simp [set_ne n1] at hh
  have n3 : t ≠ h := fun e => by subst e; simp at hh
  have mA : Mv S ρ S3 ρ3 Rc := ((m1.mono (fun _ h => h.elim)).trans (m2.mono fun r hr => by unfold R345 at hr; show r < 110; omega)).trans (m3.mono fun _ h => h.elim)
  have mB := mA.trans (M6.mono fun _ h => h.elim)
  have bk : ((S3.set kb (bw 127 [.slice none 0 0])).set t (bw 77 (knL (kn0 form) (fun _ => vx0) ob kb))).set h (bw 86 (hdL ⟨m, p, t, ob, kb, ⟨none, 0, 0⟩, ⟨none, 0, 0⟩, fun _ => ⟨none, 0, 0⟩, fun _ => vx0⟩)) kb = some (bw 127 [.slice none 0 0]) := by
    rw [set_ne n2, set_ne n1, set_same]
  have pc7 : Pc (((S3.set kb (bw 127 [.slice none 0 0])).set t (bw 77 (knL (kn0 form) (fun _ => vx0) ob kb))).set h (bw 86 (hdL ⟨m, p, t, ob, kb, ⟨none, 0, 0⟩, ⟨none, 0, 0⟩, fun _ => ⟨none, 0, 0⟩, fun _ => vx0⟩))) (((ρ3.upd kb 10).upd t 7).upd h 0) 7 t (knL (kn0 form) (fun _ => vx0) ob kb) := by
    generalize knL (kn0 form) (fun _ => vx0) ob kb = L
    exact ⟨⟨bw 77 L, by rw [set_ne n3]; exact set_same, rfl, lpart_all rfl⟩, by rw [upd_ne n3]; exact upd_same⟩
  refine hQ _ _ h ⟨m, p, t, ob, kb, ⟨none, 0, 0⟩, ⟨none, 0, 0⟩, fun _ => ⟨none, 0, 0⟩, fun _ => vx0⟩ mB
    ⟨mB.rg, g0_keep hgl mB h0, gl_keep hgl mB h0, ⟨⟨_, set_same, rfl, rfl⟩, upd_same⟩, hs3.keep M6 (fun h => h) (fun h => h), hp3.keep M6 (fun h => h) (fun h => h) (fun h => h), Rw.nil, pc7, ho3.keep M6 (fun h => h) (fun h => h),
      ⟨⟨127, ⟨none, 0, 0⟩, [], ⟨bk, rfl, Row.nil, fun c hc => (by cases hc), ?_, by decide⟩, fun x hx => (by cases hx), ⟨List.nodup_nil, fun a ha => (by cases ha), fun n k t h => (by cases h)⟩⟩, by rw [upd_ne n2, upd_ne n1]; exact upd_same⟩, Rw.nil, fun i _ => Rw.nil, fun i _ => ⟨Rw.nil, fun s hs => (by cases hs), Rw.nil, Rw.nil, fun j _ => Rw.nil⟩⟩
  exact fun i _ h => absurd h (Nat.not_lt_zero _)
theorem keepLoop {h : Nat} {A : Ad} {form : Int} {N : Nat} {l : List Nat} {u : Nat → Bool} (hl : ∀ f ∈ l, f < N) (hl2 : l.length ≤ 1000) {Q : Mem → Prop} (hc : CrabA S ρ h A (cstA form N l u fun _ => ow0)) (hQ : ∀ S', Mv S ρ S' ρ Rc → CrabA S' ρ h A (cstN form N l u) → Q S') :
    lp (fun Xx (t_7 : Int) (Sx_8 : Mem) =>
     if t_7 < (A.gs.n : Int) then
      sl A.gs fun b_1 o n n_1 =>
      0 ≤ t_7 ∧ t_7 < ((n : Nat) : Int) ∧
      gI (Sx_8.cell b_1 (o + t_7.toNat * 1)) .i64 fun t_8 =>
      gP (Sx_8.cell h 3) fun t_9 =>
      nn t_9 fun b_2 o_1 =>
      gP (Sx_8.cell b_2 (o_1 + 74)) fun t_10 =>
      owner_Book_Keep Sx_8 t_10 t_8 (-1) fun t_11 Sx_9 =>
      Xx (IntKind.i64.wrap (t_7 + 1)) Sx_9
     else
     Q Sx_8) 0 S := by
  refine lp_rule (fun (z : Int) S' => ∃ i : Nat, z = (i : Int) ∧ i ≤ l.length ∧ Mv S ρ S' ρ Rc ∧ CrabA S' ρ h A (cstA form N l u (ownL (l.take i)))) (fun z => l.length - z.toNat) ?_
    ⟨0, rfl, by omega, Mv.refl hc.rg, by
      have e : ownL (l.take 0) = fun _ => ow0 := by funext f; exact ownL_out (by simp)
      rw [e]; exact hc⟩
  rintro X z S1 ⟨i, rfl, hi, m1, hc1⟩ ih
  have hn : A.gs.n = l.length := hc1.gs.n (m := l.length) (by decide) (by show (nL l).length = _; simp [nL])
  by_cases hlt : (i : Int) < (A.gs.n : Int)
  · rw [if_pos hlt]
    have hil : i < l.length := by omega
    obtain ⟨c, e1, e2⟩ := hc1.gs.sl (by show 0 < (nL l).length; simp [nL]; omega)
    rw [e1, sl_i]
    have h3 : S1.cell h 3 = some (eP (some (A.t, 0))) := hc1.c3
    have h74 : S1.cell A.t (0 + 74) = some (eP (some (A.ob, 0))) := by rw [hc1.tt.cell 74 (by rw [knL_len]; decide) (by rfl)]; exact knL_ow
    have hcell : S1.cell c (0 + (i : Int).toNat * 1) = some (.int .i64 (l.getD i 0 : Nat)) := by
      rw [hc1.gs.cell e2 i (by show i < (nL l).length; simp [nL]; omega) (by omega)]
      show nthL (nL l) i = _
      rw [nthL_eq]
      unfold nL
      rw [List.getElem?_map, List.getElem?_eq_getElem hil, List.getD_eq_getElem?_getD, List.getElem?_eq_getElem hil]; rfl
    refine ⟨by omega, by omega, ?_⟩
    rw [gI_i hcell, gP_i h3, nn_i, gP_i h74]
    have hf : l.getD i 0 < N := hl _ (getD_mem hil)
    refine keepB_spec hc1.ow m1.rg hf (by decide) fun e S2 m2 ho2 => ?_
    have hc2 := hc1.setOwn m2 ho2
    rw [w64 (by omega) (by omega)]
    refine ih _ _ ⟨i + 1, rfl, by omega, m1.trans (m2.mono fun r hr => by show r < 110; omega), ?_⟩ (by omega)
    have e3 : keepC (ownL (l.take i)) (l.getD i 0) (-1) = ownL (l.take (i + 1)) := by
      rw [ownL_keep, List.take_add_one, List.getD_eq_getElem?_getD, List.getElem?_eq_getElem hil]; rfl
    rw [← e3]
    exact hc2
  · rw [if_neg hlt]
    have : i = l.length := by omega
    subst this
    rw [List.take_length] at hc1
    exact hQ _ m1 hc1
def badNew (form frames region : Int) : Prop := frames < 1 ∨ 512 < frames ∨ region < 1 ∨ frames < region ∨ (form ≠ 1 ∧ form ≠ 2)
instance (form frames region : Int) : Decidable (badNew form frames region) := inferInstanceAs (Decidable (_ ∨ _))
theorem new_spec (hg : ∀ b r, ρ b = some r → S b ≠ none) (h0 : ρ 0 = none) (hgl : Gl S) {form frames region : Int} {Q : Pt → Int → Mem → Prop}
    (hE : badNew form frames region → Q none 1 S)
    (hY : ¬ badNew form frames region → ∀ S' ρ' h A l u, Mv S ρ S' ρ' Rc → CrabA S' ρ' h A (cstN form frames.toNat l u) → takeN frames.toNat l.length (fun _ => false) = some (l, u) → (l.length : Int) = region → Q (some (h, 0)) 0 S') : crab_New S form frames region Q := by
  apply t_crab_New
  unfold b_crab_New
  simp only [jn]
  by_cases hb : badNew form frames region
  · have := hE hb
    unfold badNew at hb
    by_cases h1 : frames < 1
    · rw [if_pos h1]; exact this
    rw [if_neg h1]
    by_cases h2 : 512 < frames
    · rw [if_pos h2]; exact this
    rw [if_neg h2]
    by_cases h3 : region < 1
    · rw [if_pos h3]; exact this
    rw [if_neg h3]
    by_cases h4 : frames < region
    · rw [if_pos h4]; exact this
    rw [if_neg h4, if_pos (by omega), if_pos (by omega)]
    exact this
  have hY := hY hb
  unfold badNew at hb
  rw [if_neg (by omega), if_neg (by omega), if_neg (by omega), if_neg (by omega)]
  have hform : form = 1 ∨ form = 2 := by omega
  obtain ⟨N, rfl⟩ : ∃ N : Nat, frames = N := ⟨frames.toNat, by omega⟩
  obtain ⟨r, rfl⟩ : ∃ r : Nat, region = r := ⟨region.toNat, by omega⟩
  have key : store_New S N fun t Sx_1 => pool_New Sx_1 N fun t_1 Sx_2 => guest_New Sx_2 form N fun t_2 Sx_3 =>
      al Sx_3 86 ([eP t, eP t_1, .slice (none) 0 0, eP t_2, .slice (none) 0 0, .slice (none) 0 0, .slice (none) 0 0, .slice (none) 0 0, .slice (none) 0 0, .slice (none) 0 0, .slice (none) 0 0]) fun b Sx_4 =>
   gP (Sx_4.cell b 1) fun t_3 =>
   pool_Pool_Some Sx_4 t_3 r fun t_4 t_5 Sx_5 =>
   pt Sx_5 b 4 1 ([eL t_4]) fun Sx_6 =>
   gL (Sx_6.cell b 4) fun t_6 =>
   lp (fun Xx (t_7 : Int) (Sx_8 : Mem) =>
     if t_7 < (t_6.n : Int) then
      sl t_6 fun b_1 o n n_1 =>
      0 ≤ t_7 ∧ t_7 < ((n : Nat) : Int) ∧
      gI (Sx_8.cell b_1 (o + t_7.toNat * 1)) .i64 fun t_8 =>
      gP (Sx_8.cell b 3) fun t_9 =>
      nn t_9 fun b_2 o_1 =>
      gP (Sx_8.cell b_2 (o_1 + 74)) fun t_10 =>
      owner_Book_Keep Sx_8 t_10 t_8 (-1) fun t_11 Sx_9 =>
      Xx (IntKind.i64.wrap (t_7 + 1)) Sx_9
     else
     Q (some (b, 0)) 0 Sx_8) 0 Sx_6 := by
    refine begin_spec hg h0 hgl (by omega) (by omega) fun S1 ρ1 h A m1 hc1 => ?_
    have c1 : S1.cell h 1 = some (eP (some (A.p, 0))) := hc1.c1
    rw [gP_i c1]
    refine some_spec (r := 12) hc1.pl m1.rg (show (-1:Int) ≤ -1 ∧ (-1:Int) ≤ 4294967296 by decide) (by omega) (by decide) (fun l u hle ht s S2 ρ2 m2 hp2 hs2 => ?_) (fun hN => ?_)
    · have hll := (takeN_some ht).1
      refine (hc1.hd.keep m2 (by decide)).pt m2.rg 4 (by rfl) (by rw [hdL_len]; exact (by decide : 5 ≤ 11)) (by rfl) fun S3 m3 hh3 => ?_
      rw [spl_reg] at hh3
      have M : Mv S1 ρ1 S3 ρ2 (fun x => x = 0 ∨ R345 x ∨ x = 12) := (m2.mono fun r hr => .inr hr).trans (m3.mono fun r hr => .inl hr)
      have hc3 : CrabA S3 ρ2 h { A with gs := s } (cstA form N l u fun _ => ow0) :=
        ⟨M.rg, g0_keep hc1.gl M hc1.g0, gl_keep hc1.gl M hc1.g0, hh3, hc1.st.keep M (by decide) (by decide), hp2.keep m3 (by decide) (by decide) (by decide), hc1.ca.keep M (by decide), hc1.tt.keep M (by decide), hc1.ow.keep M (by decide) (by decide), hc1.ck.keep M (by decide) (by decide), hs2.keep m3 (by decide), fun i hi => (hc1.ev i hi).keep M (by unfold R345; omega), fun i hi => (hc1.vs i hi).keep M hi fun r h1 h2 => by unfold R345; omega⟩
      have c4 : S3.cell h 4 = some (eL s) := hc3.c4
      rw [gL_i c4]
      refine keepLoop (A := { A with gs := s }) (fun f hf => ((takeN_some ht).2.2.1 f hf).1) (by omega) hc3 fun S4 m4 hc4 => ?_
      have e : ((N : Int)).toNat = N := by omega
      refine hY S4 ρ2 h _ l u (m1.trans ((M.mono fun x hx => ?_).trans m4)) (by rw [e]; exact hc4) (by rw [e, hll]; exact ht) (by rw [hll])
      unfold R345 at hx; show x < 110; omega
    · exfalso
      rcases hN with h | h
      · exact absurd h.1 (show ¬ (0:Int) ≤ -1 by decide)
      · have := takeN_none.1 h
        have hc : count (fun f => ! (cst0 form N).used f) N = N := by
          show count (fun f => ! false) N = N
          unfold count
          have : (List.range N).filter (fun f => ! false) = List.range N := by simp
          rw [this]; simp
        rw [show (cst0 form N).N = N from rfl, hc] at this
        omega
  by_cases h5 : form ≠ 1
  · rw [if_pos h5, if_neg (by omega)]; exact key
  · rw [if_neg h5]; exact key
theorem rel_new {form frames region : Int} (hb : ¬ badNew form frames region) {l : List Nat} {u : Nat → Bool} (h : takeN frames.toNat l.length (fun _ => false) = some (l, u)) (hl : (l.length : Int) = region) : Rel (cstN form frames.toNat l u) (W0 (frames - region)) fun _ _ => 0 := by
  unfold badNew at hb
  have := rel_cstN (φ := fun _ _ => 0) (by omega : form = 1 ∨ form = 2) (by omega : frames.toNat ≤ 512) h
  have e : ((frames.toNat : Nat) : Int) - l.length = frames - region := by omega
  rwa [e] at this
end
end Go.Proofs.YtabdpmnhjlmnlaaGreatDoor
namespace Go.Cr
end Go.Cr
end
section
namespace Go.Proofs.YtabdpmnhjlmnlaaGreatDoor
open Go Go.Pt
attribute [local irreducible] Code.wp Back bodyPost wpList FR WL WC WQ WA AW Tr Yc HC AllC
set_option maxRecDepth 20000
set_option maxHeartbeats 4000000
set_option linter.unusedVariables false
def b_hermitcrablaw16_awake (S : Mem) (Q : Bool → Mem → Prop) : Prop :=
 crab_New S 1 40 4 fun t t_1 Sx =>
 jn (fun (Sx_1 : Mem) =>
 al Sx_1 5 ([.int .u8 65, .int .u8 0, .int .u8 64, .int .u8 4, .int .u8 0, .int .u8 0, .int .u8 0, .int .u8 80]) fun b Sx_2 =>
 fz Sx_2 b fun Sx_3 =>
 crab_Crab_Create Sx_3 t 1 4 1 (⟨some (b, 0), 8, 8⟩) fun t_2 t_3 Sx_4 =>
 crab_Crab_Run Sx_4 t t_2 0 fun t_4 Sx_5 =>
 crab_Crab_Run Sx_5 t t_2 0 fun t_5 Sx_6 =>
 crab_Crab_Events Sx_6 t t_2 fun t_6 Sx_7 =>
 if t_3 = 0 then
 if (t_6.n : Int) = 4 then
 sl t_6 fun b_1 o n n_1 =>
 (0 : Int) < (n : Nat) ∧
 gI (Sx_7.cell b_1 o) .u8 fun t_7 =>
 if t_7 = 1 then
 (1 : Int) < (n : Nat) ∧
 gI (Sx_7.cell b_1 (o + 4)) .u8 fun t_8 =>
 if t_8 = 1 then
 (2 : Int) < (n : Nat) ∧
 gA (Sx_7.part b_1 (o + 8) 4) fun t_9 =>
 fits [.i .u8, .i .i64, .i .u64, .i .u64] t_9 = true ∧
 if (eqL t_9 ([.int .u8 3, .int .i64 0, .int .u64 65, .int .u64 0])) = true then
 (3 : Int) < (n : Nat) ∧
 gA (Sx_7.part b_1 (o + 12) 4) fun t_10 =>
 fits [.i .u8, .i .i64, .i .u64, .i .u64] t_10 = true ∧
 Q (eqL t_10 ([.int .u8 2, .int .i64 0, .int .u64 0, .int .u64 0])) Sx_7
 else
 Q false Sx_7
 else
 Q false Sx_7
 else
 Q false Sx_7
 else
 Q false Sx_7
 else
 Q false Sx_7) fun Jx =>
 if t_1 ≠ 0 then
 Q false Sx
 else
 if t = none then
 Q false Sx
 else
 Jx Sx
theorem t_hermitcrablaw16_awake {S : Mem} {Q : Bool → Mem → Prop} (H : b_hermitcrablaw16_awake S Q) : hermitcrablaw16_awake S Q := by
 unfold b_hermitcrablaw16_awake at H
 exact Tr.intro Tryz.func27 E Tryz.ntmps27 E fun w0 => csr<|gv E E<|nxr<|s_k2 E E H fun t t_1 Sx H1 => mv E E<|s_p E (y_extract E E)<|s_p E (y_extract E E)<|gv E E<|gv E E<|nx<|c_join2 H1 (fun (J : Mem → Prop) (z : Unit) S => J S) (fun z => ⟨67, [(1, eP t)]⟩) (fun z => []) (fun _ Sx_1 H2 => csr<|mv E E<|s_bs E E (by decide) E fun b => s_pub 0 E fun hb => have H3 := H2 b hb; s_fz E E H3 fun Sx_3 H4 => s_k2 E E H4 fun t_2 t_3 Sx_4 H5 => mv E E<|s_p E (y_extract E E)<|s_p E (y_extract E E)<|gv E E<|gv E E<|nxr<|mv E E<|mv E E<|s_k1 E E H5 fun t_4 Sx_5 H6 => nxr<|mv E E<|mv E E<|s_k1 E E H6 fun t_5 Sx_6 H7 => nxr<|mv E E<|mv E E<|s_k1 E E H7 fun t_6 Sx_7 H8 => gv E E<|nx<|by exact csr<|mv E E<|iteK H8 (fun c H9 => ceT E E E (c)<|mv E E<|mv E E<|s_p E (y_len E)<|iteK H9 (fun c_1 H10 => ceT E E E (c_1)<|pk E E E<|mv E E<|mv E E<|by obtain ⟨b_1, o, n, n_1, rfl, H11⟩ := H10; exact an H11 fun c_3 H12 => s_p E (y_ixL E E (by decide) c_3 E)<|s_p E (y_fa E E)<|gx H12 fun t_7 ht_7 H13 => s_v E (y_ld E) (hc_S ht_7)<|iteK H13 (fun c_4 H14 => ceT E E E (c_4)<|pk E E E<|mv E E<|mv E E<|an H14 fun c_6 H15 => s_p E (y_ixL E E (by decide) c_6 E)<|s_p E (y_fa E E)<|gx H15 fun t_8 ht_8 H16 => s_v E (y_ld E) (hc_S ht_8)<|iteK H16 (fun c_7 H17 => ceT E E E (c_7)<|pk E E E<|mv E E<|mv E E<|an H17 fun c_9 H18 => s_p E (y_ixL E E (by decide) c_9 E)<|gx H18 fun t_9 ht_9 H19 => by refine s_v E (y_ldA E (part_len ht_9)) (hc_SP ht_9) ?_; exact s_p E (y_build E E)<|by exact an H19 fun c_10 H20 => iteK H20 (fun c_12 H21 => s_p E (yB (y_eqA E E c_10 E) c_12)<|pk E E E<|mv E E<|mv E E<|an H21 fun c_14 H22 => s_p E (y_ixL E E (by decide) c_14 E)<|gx H22 fun t_10 ht_10 H23 => by refine s_v E (y_ldA E (part_len ht_10)) (hc_SP ht_10) ?_; exact s_p E (y_build E E)<|by exact an H23 fun c_15 H24 => s_p E (y_eqA E E c_15 E)<|pk E E E<|gv E E<|nx<|c_ret<|q_ret Tryz.results27 (rv_tmp E rv_nil) ⟨_, E, H24⟩) fun c_12 H21 => s_p E (yB (y_eqA E E c_10 E) (bf_of c_12))<|pk E E E<|mv E E<|sk4 E E E E<|s_skip E<|pk E E E<|gv E E<|nx<|c_ret<|q_ret Tryz.results27 (rv_tmp E rv_nil) ⟨_, E, H21⟩) fun c_7 H17 => ceF E E E (c_7)<|pk E E E<|mv E E<|sk4 E E E E<|s_skip E<|pk E E E<|mv E E<|sk4 E E E E<|s_skip E<|pk E E E<|gv E E<|nx<|c_ret<|q_ret Tryz.results27 (rv_tmp E rv_nil) ⟨_, E, H17⟩) fun c_4 H14 => ceF E E E (c_4)<|pk E E E<|mv E E<|sk4 E E E E<|s_skip E<|pk E E E<|mv E E<|sk4 E E E E<|s_skip E<|pk E E E<|mv E E<|sk4 E E E E<|s_skip E<|pk E E E<|gv E E<|nx<|c_ret<|q_ret Tryz.results27 (rv_tmp E rv_nil) ⟨_, E, H14⟩) fun c_1 H10 => ceF E E E (c_1)<|pk E E E<|mv E E<|sk4 E E E E<|s_skip E<|pk E E E<|mv E E<|sk4 E E E E<|s_skip E<|pk E E E<|mv E E<|sk4 E E E E<|s_skip E<|pk E E E<|mv E E<|sk4 E E E E<|s_skip E<|pk E E E<|gv E E<|nx<|c_ret<|q_ret Tryz.results27 (rv_tmp E rv_nil) ⟨_, E, H10⟩) fun c H9 => ceF E E E (c)<|mv E E<|sk2 E E<|s_skip E<|pk E E E<|mv E E<|sk4 E E E E<|s_skip E<|pk E E E<|mv E E<|sk4 E E E E<|s_skip E<|pk E E E<|mv E E<|sk4 E E E E<|s_skip E<|pk E E E<|mv E E<|sk4 E E E E<|s_skip E<|pk E E E<|gv E E<|nx<|c_ret<|q_ret Tryz.results27 (rv_tmp E rv_nil) ⟨_, E, H9⟩) (fun Jx hJx H25 => csr<|mv E E<|iteK H25 (fun c_17 H26 => s_p E (yT (y_neq E E) c_17)<|mv E E<|sk2 E E<|pk E E E<|nx<|c_t E E<|csr<|gv E E<|nx<|c_ret<|q_then_ret<|q_ret Tryz.results27 (rv_tmp E rv_nil) ⟨_, E, H26⟩) fun c_17 H26 => s_p E (yF (y_neq E E) c_17)<|mv E E<|mv E E<|iteK H26 (fun c_18 H27 => s_p E (yT (y_pnil (p := t) E E) c_18)<|pk E E E<|nx<|c_t E E<|csr<|gv E E<|nx<|c_ret<|q_then_ret<|q_ret Tryz.results27 (rv_tmp E rv_nil) ⟨_, E, H27⟩) fun c_18 H27 => s_p E (yF (y_pnil (p := t) E E) c_18)<|pk E E E<|nx<|cfs E E<|hJx () _ _ _ _ [] H27 E ⟨E, True.intro⟩ E)
def b_hermitcrablaw16_CrabTells (S : Mem) (kind : Int) (n : Int) (seat : Int) (pc : Int) (s : List Value) (Q : Bool → Mem → Prop) : Prop :=
 s.length = 26 ∧
 gI (nthL s 23) .u8 fun t =>
 gI (nthL (spl s 23 ([.int .u8 (Int.tmod t 3)])) 24) .u32 fun t_1 =>
 gI (nthL (spl (spl s 23 ([.int .u8 (Int.tmod t 3)])) 24 ([.int .u32 (Int.tmod t_1 256)])) 25) .u32 fun t_2 =>
 crab_Told S ([.int .u8 kind, .int .u64 n]) seat pc (spl (spl (spl s 23 ([.int .u8 (Int.tmod t 3)])) 24 ([.int .u32 (Int.tmod t_1 256)])) 25 ([.int .u32 (Int.tmod t_2 256)])) fun t_3 Sx =>
 t_3.all (·.oneCell') = true ∧
 hermitcrabref12_Sum Sx (spl (spl (spl s 23 ([.int .u8 (Int.tmod t 3)])) 24 ([.int .u32 (Int.tmod t_1 256)])) 25 ([.int .u32 (Int.tmod t_2 256)])) fun t_4 Sx_1 =>
 jn (fun (want : List Value) (Sx_2 : Mem) =>
 want.length = 4 ∧
 jn (fun (want_1 : List Value) (Sx_3 : Mem) =>
 want_1.length = 4 ∧
 hermitcrablaw16_awake Sx_3 fun t_5 Sx_4 =>
 if t_5 = true then
 fits [.i .u8, .i .i64, .i .u64, .i .u64] t_3 = true ∧
 fits [.i .u8, .i .i64, .i .u64, .i .u64] want_1 = true ∧
 Q (eqL t_3 want_1) Sx_4
 else
 Q false Sx_4) fun Jx =>
 if kind = 4 then
 Jx ([.int .u8 5, .int .i64 seat, .int .u64 n, .int .u64 pc]) Sx_2
 else
 Jx want Sx_2) fun Jx_1 =>
 if kind = 1 then
 Jx_1 ([.int .u8 4, .int .i64 seat, .int .u64 n, .int .u64 pc]) Sx_1
 else
 Jx_1 ([.int .u8 1, .int .i64 seat, .int .u64 pc, .int .u64 t_4]) Sx_1
theorem t_hermitcrablaw16_CrabTells {S : Mem} {kind : Int} {n : Int} {seat : Int} {pc : Int} {s : List Value} {Q : Bool → Mem → Prop} (H : b_hermitcrablaw16_CrabTells S kind n seat pc s Q) : hermitcrablaw16_CrabTells S kind n seat pc s Q := by
 unfold b_hermitcrablaw16_CrabTells at H
 exact Tr.intro Tryz.func4 E Tryz.ntmps4 E fun w0 => an H fun hs H1 => csr<|s_box E E E fun b => gv E E<|nxr<|s_p E (y_fa E E)<|gx H1 fun t ht H2 => s_v E (y_ld E) (hc_V 0 E ht)<|s_p E (y_rem E E (by decide))<|s_p E (y_fa E E)<|s_stV (sz := 1) (vs := [.int .u8 (Int.tmod t 3)]) 0 E E E E E E (fit_of hs (by omega)) E<|nxr<|s_p E (y_fa E E)<|gx H2 fun t_1 ht_1 H3 => s_v E (y_ld E) (hc_V 0 E ht_1)<|s_p E (y_rem E E (by decide))<|s_p E (y_fa E E)<|s_stV (sz := 1) (vs := [.int .u32 (Int.tmod t_1 256)]) 0 E E E E E E (fit_of (spl_ln hs (by have := True.intro; (try simp only [List.length_cons, List.length_nil]); omega)) (by omega)) E<|nxr<|s_p E (y_fa E E)<|gx H3 fun t_2 ht_2 H4 => s_v E (y_ld E) (hc_V 0 E ht_2)<|s_p E (y_rem E E (by decide))<|s_p E (y_fa E E)<|s_stV (sz := 1) (vs := [.int .u32 (Int.tmod t_2 256)]) 0 E E E E E E (fit_of (spl_ln (spl_ln hs (by have := True.intro; (try simp only [List.length_cons, List.length_nil]); omega)) (by have := True.intro; (try simp only [List.length_cons, List.length_nil]); omega)) (by omega)) E<|nxr<|mv E E<|mv E E<|s_p E (y_build E E)<|by exact mv E E<|mv E E<|by refine s_v E (y_ldA E (spl_ln (spl_ln (spl_ln hs (by have := True.intro; (try simp only [List.length_cons, List.length_nil]); omega)) (by have := True.intro; (try simp only [List.length_cons, List.length_nil]); omega)) (by have := True.intro; (try simp only [List.length_cons, List.length_nil]); omega))) (hc_VP (k := 26) 0 E (lpart_all (spl_ln (spl_ln (spl_ln hs (by have := True.intro; (try simp only [List.length_cons, List.length_nil]); omega)) (by have := True.intro; (try simp only [List.length_cons, List.length_nil]); omega)) (by have := True.intro; (try simp only [List.length_cons, List.length_nil]); omega)))) ?_; exact s_call E E H4 fun rv Sx H5 => by obtain ⟨t_3, rfl, ht_3, H6⟩ := H5; exact by refine s_alloc E fun b_1 => ?_; exact an H6 fun c H7 => s_stV_all 1 E E E E E ht_3 E c<|nxr<|mv E E<|mv E E<|by refine s_v E (y_ldA E (spl_ln (spl_ln (spl_ln hs (by have := True.intro; (try simp only [List.length_cons, List.length_nil]); omega)) (by have := True.intro; (try simp only [List.length_cons, List.length_nil]); omega)) (by have := True.intro; (try simp only [List.length_cons, List.length_nil]); omega))) (hc_VP (k := 26) 0 E (lpart_all (spl_ln (spl_ln (spl_ln hs (by have := True.intro; (try simp only [List.length_cons, List.length_nil]); omega)) (by have := True.intro; (try simp only [List.length_cons, List.length_nil]); omega)) (by have := True.intro; (try simp only [List.length_cons, List.length_nil]); omega)))) ?_; exact s_k1 E E H7 fun t_4 Sx_1 H8 => s_p E (y_build E E)<|by exact by refine s_alloc E fun b_2 => ?_; exact s_stV (sz := 4) (vs := [.int .u8 1, .int .i64 seat, .int .u64 pc, .int .u64 t_4]) 2 E E E E E E (Nat.le_of_ble_eq_true E) E<|nx<|c_join2 H8 (fun (J : List Value → Mem → Prop) (z : List Value) S => J z S) (fun z => ⟨55, [(0, .int .u8 kind), (1, .int .u64 n), (2, .int .i64 seat), (3, .int .u64 pc), (11, .pointer (some ⟨b_1, 0, none⟩)), (12, .pointer (some ⟨b_2, 0, none⟩))]⟩) (fun z => [⟨b_1, 45, t_3⟩, ⟨b_2, 45, z⟩]) (fun want Sx_2 H9 => an H9 fun hwant H10 => c_join2 H10 (fun (J : List Value → Mem → Prop) (z : List Value) S => J z S) (fun z => ⟨55, [(11, .pointer (some ⟨b_1, 0, none⟩)), (12, .pointer (some ⟨b_2, 0, none⟩))]⟩) (fun z => [⟨b_1, 45, t_3⟩, ⟨b_2, 45, z⟩]) (fun want_1 Sx_3 H11 => an H11 fun hwant_1 H12 => csr<|s_k1 E E H12 fun t_5 Sx_4 H13 => by have H14 := ib_e H13; rcases H14 with ⟨rfl, H15⟩ | ⟨rfl, H15⟩; exact (mv E E<|by refine s_v E (y_ldA E ht_3) (hc_VP (k := 4) 0 E (lpart_all ht_3)) ?_; exact by refine s_v E (y_ldA E hwant_1) (hc_VP (k := 4) 1 E (lpart_all hwant_1)) ?_; exact an H15 fun c_1 H16 => an H16 fun c_2 H17 => s_p E (y_eqA E E c_1 c_2)<|pk E E E<|gv E E<|nx<|c_ret<|q_ret Tryz.results4 (rv_tmp E rv_nil) ⟨_, E, H17⟩); exact (mv E E<|sk2 E E<|s_skip E<|pk E E E<|gv E E<|nx<|c_ret<|q_ret Tryz.results4 (rv_tmp E rv_nil) ⟨_, E, H15⟩)) (fun Jx hJx H18 => csr<|mv E E<|iteK H18 (fun c_3 H19 => ceT E E E (c_3)<|nx<|ctr E E<|mv E E<|mv E E<|mv E E<|s_p E (y_build E E)<|by exact s_stV_all 1 E E E E E E hwant E<|s_nil<|hJx ([.int .u8 5, .int .i64 seat, .int .u64 n, .int .u64 pc]) _ _ _ _ [0, 0] H19 E ⟨E, E, True.intro⟩ E) fun c_3 H19 => ceF E E E (c_3)<|nx<|cfs E E<|hJx want _ _ _ _ [0, 0] H19 E ⟨E, E, True.intro⟩ E)) (fun Jx_1 hJx_1 H20 => csr<|mv E E<|iteK H20 (fun c_4 H21 => ceT E E E (c_4)<|nx<|ctr E E<|mv E E<|mv E E<|mv E E<|s_p E (y_build E E)<|by exact s_stV (sz := 4) (vs := [.int .u8 4, .int .i64 seat, .int .u64 n, .int .u64 pc]) 2 E E E E E E (Nat.le_of_ble_eq_true E) E<|s_nil<|hJx_1 ([.int .u8 4, .int .i64 seat, .int .u64 n, .int .u64 pc]) _ _ _ _ [1, 1] H21 E ⟨E, E, E, E, E, E, True.intro⟩ E) fun c_4 H21 => ceF E E E (c_4)<|nx<|cfs E E<|hJx_1 ([.int .u8 1, .int .i64 seat, .int .u64 pc, .int .u64 t_4]) _ _ _ _ [1, 1] H21 E ⟨E, E, E, E, E, E, True.intro⟩ E)
end Go.Proofs.YtabdpmnhjlmnlaaGreatDoor
end
section
namespace Go.Cr
open Go Go.Pt
def awImg : List Int := [65, 0, 64, 4, 0, 0, 0, 80]
def awW1 : Wd := ((W0 36).create 1 4 1 awImg).2.2
def awW2 : Wd := (awW1.run 0 0).2
def awW3 : Wd := (awW2.run 0 0).2
def Evt.q (e : Evt) : Int × Int × Int × Int := (e.kind, e.seat, e.a, e.b)
theorem Evt.of_q {e : Evt} {k s a b : Int} (h : e.q = (k, s, a, b)) : e = ⟨k, s, a, b⟩ := by
  obtain ⟨_, _, _, _⟩ := e
  simp only [Evt.q, Prod.mk.injEq] at h
  obtain ⟨rfl, rfl, rfl, rfl⟩ := h; rfl
theorem aw_len : (awW3.ev 0).length = 4 := by decide +kernel
theorem aw_1 : ((awW3.ev 0).getD 0 ⟨0, 0, 0, 0⟩).kind = 1 := by decide +kernel
theorem aw_2 : ((awW3.ev 0).getD 1 ⟨0, 0, 0, 0⟩).kind = 1 := by decide +kernel
theorem aw_3 : ((awW3.ev 0).getD 2 ⟨0, 0, 0, 0⟩).q = (3, 0, 65, 0) := by decide +kernel
theorem aw_4 : ((awW3.ev 0).getD 3 ⟨0, 0, 0, 0⟩).q = (2, 0, 0, 0) := by decide +kernel
theorem aw_c : ((W0 36).create 1 4 1 awImg).1 = 0 ∧ ((W0 36).create 1 4 1 awImg).2.1 = 0 := by decide +kernel
theorem aw_ev : ∃ e1 e2 : Evt, e1.kind = 1 ∧ e2.kind = 1 ∧ awW3.ev 0 = [e1, e2, ⟨3, 0, 65, 0⟩, ⟨2, 0, 0, 0⟩] := by
  have h1 := aw_1
  have h2 := aw_2
  have h3 := aw_3
  have h4 := aw_4
  have h0 := aw_len
  match h : awW3.ev 0, h0 with
  | [a, b, c, d], _ =>
    rw [h] at h1 h2 h3 h4
    have e3 : c = _ := Evt.of_q h3
    have e4 : d = _ := Evt.of_q h4
    exact ⟨a, b, h1, h2, by rw [e3, e4]⟩
end Go.Cr
end
section
namespace Go.Cr
open Go Go.Pt
def Wd.evB (W : Wd) (m : Nat) : Prop := ∀ i, (W.ev i).length ≤ m
section
variable {W : Wd} {m : Nat}
theorem Wd.evB.mono (h : W.evB m) {k : Nat} (hk : m ≤ k) : W.evB k := fun i => Nat.le_trans (h i) hk
theorem Wd.evB.of {W' : Wd} (h : W.evB m) (e : W'.ev = W.ev) : W'.evB m := fun i => by rw [e]; exact h i
theorem evB_W0 {f : Int} : (W0 f).evB 0 := fun _ => Nat.le_refl 0
theorem Wd.evB.tell (h : W.evB m) {n : Nat} {e : Evt} : (W.tell n e).evB (m + 1) := fun i => by
  unfold Wd.tell
  show (upd W.ev n (W.ev n ++ [e]) i).length ≤ m + 1
  by_cases ei : i = n
  · subst ei; rw [upd_at, List.length_append]; have := h i; simp; omega
  · rw [upd_of ei]; have := h i; omega
theorem raise_ev {n k i : Nat} : (W.raise n k i).2.ev = W.ev := by unfold Wd.raise; split <;> rfl
theorem ring_ev {n : Nat} {a b : Int} : (W.ring n a b).2.ev = W.ev := by
  unfold Wd.ring; split
  · rfl
  · split
    · rfl
    · exact raise_ev
theorem nextKey_ev {n : Nat} : (W.nextKey n).2.2.ev = W.ev := by unfold Wd.nextKey; split <;> rfl
theorem offer_ev {n : Nat} {p to : Int} {w : Bool} : (W.offer n p to w).2.2.ev = W.ev := by
  unfold Wd.offer; split
  · rfl
  · split
    · rfl
    · split
      · rfl
      · split <;> rfl
theorem lease_ev {n : Nat} {c i p : Int} : (W.lease n c i p).2.ev = W.ev := by
  unfold Wd.lease; split
  · rfl
  · split
    · rfl
    · split
      · split <;> rfl
      · split
        · rfl
        · split
          · rfl
          · split
            · rfl
            · split <;> rfl
theorem give_ev {n : Nat} {p : Int} : (W.give n p).2.ev = W.ev := by
  unfold Wd.give; split
  · rfl
  · split <;> rfl
theorem get_ev {n : Nat} {p : Int} : (W.get n p).2.ev = W.ev := by
  unfold Wd.get; split
  · rfl
  · split
    · rfl
    · split
      · rfl
      · split <;> rfl
theorem load_ev {n : Nat} {s p : Int} : (W.load n s p).2.ev = W.ev := by
  unfold Wd.load; split
  · rfl
  · split
    · rfl
    · split <;> rfl
theorem save_ev {n : Nat} {s p : Int} : (W.save n s p).2.ev = W.ev := by
  unfold Wd.save; split
  · rfl
  · split
    · rfl
    · split <;> rfl
theorem ite_ind {α : Type} {P : α → Prop} {c : Prop} [Decidable c] {a b : α} (h1 : c → P a) (h2 : ¬ c → P b) : P (if c then a else b) := by
  by_cases h : c
  · rw [if_pos h]; exact h1 h
  · rw [if_neg h]; exact h2 h
theorem Wd.evB.call (h : W.evB m) {n k : Nat} {c w1 w2 w3 : Int} : (W.call n k c w1 w2 w3).2.2.evB (m + 1) := by
  have h1 := h.mono (Nat.le_succ m)
  unfold Wd.call
  refine ite_ind (P := fun r : Int × Int × Wd => r.2.2.evB (m + 1)) (fun _ => h.tell) fun _ => ?_
  refine ite_ind (P := fun r : Int × Int × Wd => r.2.2.evB (m + 1)) (fun _ => h1.of nextKey_ev) fun _ => ?_
  refine ite_ind (P := fun r : Int × Int × Wd => r.2.2.evB (m + 1)) (fun _ => h1.of ring_ev) fun _ => ?_
  refine ite_ind (P := fun r : Int × Int × Wd => r.2.2.evB (m + 1)) (fun _ => h1) fun _ => ?_
  refine ite_ind (P := fun r : Int × Int × Wd => r.2.2.evB (m + 1)) (fun _ => h1.of offer_ev) fun _ => ?_
  refine ite_ind (P := fun r : Int × Int × Wd => r.2.2.evB (m + 1)) (fun _ => h1.of lease_ev) fun _ => ?_
  refine ite_ind (P := fun r : Int × Int × Wd => r.2.2.evB (m + 1)) (fun _ => h1.of give_ev) fun _ => ?_
  refine ite_ind (P := fun r : Int × Int × Wd => r.2.2.evB (m + 1)) (fun _ => h1.of get_ev) fun _ => ?_
  refine ite_ind (P := fun r : Int × Int × Wd => r.2.2.evB (m + 1)) (fun _ => h1.of load_ev) fun _ => ?_
  refine ite_ind (P := fun r : Int × Int × Wd => r.2.2.evB (m + 1)) (fun _ => h1.of save_ev) fun _ => ?_
  refine ite_ind (P := fun r : Int × Int × Wd => r.2.2.evB (m + 1)) (fun _ => h1) fun _ => ?_
  refine ite_ind (P := fun r : Int × Int × Wd => r.2.2.evB (m + 1)) (fun _ => h1.of (W' := W.setV n _) rfl) fun _ => ?_
  exact h1
theorem Wd.evB.run (h : W.evB m) {n k : Int} : (W.run n k).2.evB (m + 3) := by
  unfold Wd.run
  by_cases h1 : ¬ W.there n ∨ k < 0 ∨ (W.vm n.toNat).seats.length ≤ k
  · rw [if_pos h1]; exact h.mono (by omega)
  rw [if_neg h1]
  dsimp only
  generalize stepM ((W.vm n.toNat).seat k.toNat) (W.gm n.toNat) (W.time n.toNat) k = o
  by_cases h2 : o.k = 5
  · rw [if_pos h2]; exact h.mono (by omega)
  rw [if_neg h2]
  have h3 : (((W.setDat o.g.dat).putSeat n.toNat k.toNat o.s).tell n.toNat (told o.k o.n k ((W.vm n.toNat).seat k.toNat).pc o.s)).evB (m + 1) := (h.of (W' := (W.setDat o.g.dat).putSeat n.toNat k.toNat o.s) rfl).tell
  split
  · unfold Wd.hyper
    dsimp only
    exact Wd.evB.tell (m := m + 2) (Wd.evB.of (h3.call (n := n.toNat) (k := k.toNat) (c := o.n)) rfl)
  · exact h3.mono (by omega)
theorem Wd.evB.create (h : W.evB m) {s q p : Int} {img : List Int} : (W.create s q p img).2.2.evB m := by
  unfold Wd.create
  split
  · exact h
  split
  · exact h
  split
  · exact h
  split
  · exact h
  · rename_i n _ _
    intro i
    show (upd W.ev n [] i).length ≤ m
    by_cases e : i = n
    · rw [e, upd_at]; exact Nat.zero_le _
    · rw [upd_of e]; exact h i
theorem Wd.evB.key (h : W.evB m) {n b : Int} : (W.key n b).2.evB m := by
  unfold Wd.key
  split
  · exact h
  split
  · exact h
  · exact h.of raise_ev
def Wd.runs (W : Wd) (n k : Int) : Nat → Wd
  | 0 => W
  | j + 1 => ((W.runs n k j).run n k).2
theorem Wd.evB.runs (h : W.evB m) {n k : Int} : ∀ {j : Nat}, (W.runs n k j).evB (m + 3 * j)
  | 0 => h
  | j + 1 => (Wd.evB.run (h.runs (j := j))).mono (by omega)
end
end Go.Cr
end
section
namespace Go.Proofs.YtabdpmnhjlmnlaaGreatDoor
open Go Go.Pt Go.Cr Go.Hp
def Lv (S0 : Mem) (ρ0 : Rho) (h : Nat) (S : Mem) (W : Wd) : Prop := ∃ ρ A C φ, Mv S0 ρ0 S ρ Rc ∧ CrabA S ρ h A C ∧ Rel C W φ
def rho0 : Rho := fun _ => none
section
variable {S S' S0 : Mem} {ρ ρ' ρ0 : Rho} {R : Nat → Prop} {h : Nat} {A : Ad} {C : Cst} {W : Wd} {φ : Nat → Nat → Nat}
theorem rg0 {S : Mem} : ∀ b r, rho0 b = some r → S b ≠ none := fun b r h => by cases h
theorem mv_keeps0 (m : Mv S rho0 S' ρ R) : Keeps S S' [] := fun b hb _ => m.kp b hb fun r e => by cases e
theorem Lv.keeps (l : Lv S rho0 h S' W) : Keeps S S' [] := by
  obtain ⟨ρ, A, C, φ, m, _⟩ := l
  exact mv_keeps0 m
theorem After.lv {W' : Wd} (m : Mv S0 ρ0 S ρ Rc) (hA : After h A C S ρ W' S') : Lv S0 ρ0 h S' W' := by
  obtain ⟨ρ', A', C', φ', m', hc, hr, _⟩ := hA
  exact ⟨ρ', A', C', φ', m.trans m', hc, hr⟩
theorem Aft.lv {W' : Wd} (m : Mv S0 ρ0 S ρ Rc) (hA : Aft h C S ρ W' S') : Lv S0 ρ0 h S' W' := by
  obtain ⟨ρ', A', C', φ', m', hc, hr, _⟩ := hA
  exact ⟨ρ', A', C', φ', m.trans m', hc, hr⟩
theorem Lv.on (l : Lv S0 ρ0 h S W) (hk : Keeps S S' []) : Lv S0 ρ0 h S' W := by
  obtain ⟨ρ, A, C, φ, m, hc, hr⟩ := l
  exact ⟨ρ, A, C, φ, m.then hk, hc.keeps hk, hr⟩
theorem new_L (hgl : Gl S) {form frames region : Int} {Q : Pt → Int → Mem → Prop} (hE : badNew form frames region → Q none 1 S)
    (hY : ¬ badNew form frames region → ∀ S' h, Lv S rho0 h S' (W0 (frames - region)) → Q (some (h, 0)) 0 S') : crab_New S form frames region Q :=
  new_spec rg0 rfl hgl hE fun hb S' ρ' h A l u m hc ht hl => hY hb S' h ⟨ρ', A, _, _, m, hc, rel_new hb ht hl⟩
theorem run_L (l : Lv S0 ρ0 h S W) {e : Nat} (he : W.evB e) (hel : e ≤ 800000000) {n k : Int} {Q : Int → Mem → Prop} (hQ : ∀ S', Lv S0 ρ0 h S' (W.run n k).2 → Q (W.run n k).1 S') : crab_Crab_Run S (some (h, 0)) n k Q := by
  obtain ⟨ρ, A, C, φ, m, hc, hr⟩ := l
  exact crun_spec hc hr (fun i => Nat.le_trans (he i) hel) fun S' hA => hQ S' (hA.lv m)
theorem events_L (l : Lv S0 ρ0 h S W) {n : Nat} (hn : n < 6) {e : Nat} (he : W.evB e) (hel : e ≤ 800000000) {Q : Sl → Mem → Prop}
    (hQ : ∀ t S', Keeps S S' [] → Row S' 4 t ((W.ev n).flatMap evL) → (∀ b o, t.p = some (b, o) → S b = none) → Q t S') : crab_Crab_Events S (some (h, 0)) n Q := by
  obtain ⟨ρ, A, C, φ, m, hc, hr⟩ := l
  rw [← hr.ev] at hQ
  exact events_spec hc hn (by rw [hr.ev]; have := he n; omega) hQ
theorem img_new {b : Nat} (hb : S b = none) (hg : ∀ b r, ρ b = some r → S b ≠ none) {k : Blk} {xs : List Int} (hk : k.cs = bL xs) (hf : lpart k.cs 0 xs.length = some (bL xs)) (hx : Byt xs) {c : Nat} (hS : S' b = some k) (hc : xs.length ≤ c) (hp : S'.part b 0 xs.length = some (bL xs)) : ImgAt S' ρ ⟨some (b, 0), xs.length, c⟩ xs :=
  ⟨rfl, hc, hx, .inr ⟨b, 0, rfl, hp, by
    cases e : ρ b with
    | none => rfl
    | some r => exact absurd hb (hg b r e), by rw [hS]; simp⟩⟩
theorem fm_get {α : Type} {f : α → List Value} {w : Nat} (h : ∀ a, (f a).length = w) {l : List α} {j k : Nat} (hj : j < l.length) (hk : k < w) : nthL (l.flatMap f) (j * w + k) = nthL (f l[j]) k := by
  obtain ⟨e1, e2⟩ := fm_split h hj
  rw [e1, nthL_skip e2, nthL_left (by rw [h]; exact hk)]
theorem row_get {S : Mem} {t : Sl} {l : List Evt} (h : Row S 4 t (l.flatMap evL)) (h0 : l ≠ []) : t.n = l.length ∧ ∃ b, t = ⟨some (b, 0), t.n, t.c⟩ ∧ (∀ i j x, (hi : i < l.length) → j < 4 → x = i * 4 + j → S.cell b x = nthL (evL l[i]) j) ∧ ∀ i x, (hi : i < l.length) → x = i * 4 → S.part b x 4 = some (evL l[i]) := by
  have hlen : (l.flatMap evL).length = l.length * 4 := fm_len ev_len l
  have hpos : 0 < l.length := List.length_pos_iff.2 h0
  have hw : Rw S (fun _ => some 0) 0 4 t (l.flatMap evL) := ⟨h, fun _ _ _ => rfl⟩
  refine ⟨hw.n (by decide) hlen, ?_⟩
  obtain ⟨b, e1, e2⟩ := hw.sl (by omega)
  refine ⟨b, e1, fun i j x hi hj hx => ?_, fun i x hi hx => ?_⟩
  · rw [hw.cell e2 (i * 4 + j) (by omega) hx, fm_get ev_len hi hj]
  · rw [hw.part e2 (i * 4) (by omega) hx, fm_part ev_len hi]
theorem byt_aw : Byt awImg := fun x hx => by
  simp only [awImg, List.mem_cons, List.not_mem_nil, or_false] at hx
  omega
theorem awake_spec (hgl : Gl S) {Q : Bool → Mem → Prop} (hQ : ∀ S', Keeps S S' [] → Q true S') : hermitcrablaw16_awake S Q := by
  apply t_hermitcrablaw16_awake
  unfold b_hermitcrablaw16_awake
  refine new_L hgl (fun h => absurd h (by decide)) fun _ S1 h l1 => ?_
  simp only [jn]
  rw [if_neg (by decide), if_neg (by simp)]
  obtain ⟨ρ, A, C, φ, m1, hc1, hr1⟩ := l1
  intro b hb
  refine ⟨_, set_same, rfl, ?_⟩
  have hk : Keeps S1 ((S1.set b (bw 5 [.int .u8 65, .int .u8 0, .int .u8 64, .int .u8 4, .int .u8 0, .int .u8 0, .int .u8 0, .int .u8 80])).set b ⟨5, [.int .u8 65, .int .u8 0, .int .u8 64, .int .u8 4, .int .u8 0, .int .u8 0, .int .u8 0, .int .u8 80], (8, 9)⟩) [] := fun x hx _ => by
    have : x ≠ b := fun e => hx (e ▸ hb)
    rw [set_ne this, set_ne this]
  have hc2 := hc1.keeps hk
  refine create_spec (xs := awImg) hc2 hr1 (img_new hb hc1.rg (k := ⟨5, bL awImg, (8, 9)⟩) rfl rfl byt_aw set_same (by decide) (by rw [part_of set_same]; rfl)) (by decide) fun S2 hA => ?_
  have l2 := hA.lv (m1.then hk)
  have ec : ((W0 (40 - 4)).create 1 4 1 awImg).1 = 0 ∧ ((W0 (40 - 4)).create 1 4 1 awImg).2.1 = 0 := aw_c
  rw [ec.1, ec.2]
  have e1 : awW1.evB 0 := evB_W0.create
  refine run_L l2 e1 (by decide) fun S3 l3 => ?_
  refine run_L l3 e1.run (by decide) fun S4 l4 => ?_
  obtain ⟨x1, x2, h1, h2, he⟩ := aw_ev
  refine events_L (n := 0) l4 (by decide) e1.run.run (by decide) fun t S5 hk5 hrow _ => ?_
  have hrow' : Row S5 4 t ([x1, x2, ⟨3, 0, 65, 0⟩, ⟨2, 0, 0, 0⟩].flatMap evL) := by
    rw [← he]; exact hrow
  obtain ⟨hn, c, ht, hcell, hpart⟩ := row_get hrow' (by simp)
  have hn4 : t.n = 4 := hn
  rw [if_pos rfl, if_pos (by omega), ht, sl_i]
  refine ⟨by omega, ?_⟩
  rw [gI_i (hcell 0 0 _ (by simp) (by decide) rfl)]
  rw [List.getElem_cons_zero, if_pos h1]
  refine ⟨by omega, ?_⟩
  rw [gI_i (hcell 1 0 _ (by simp) (by decide) rfl)]
  rw [show [x1, x2, (⟨3, 0, 65, 0⟩ : Evt), ⟨2, 0, 0, 0⟩][1] = x2 from rfl, if_pos h2]
  refine ⟨by omega, ?_⟩
  rw [gA_i (hpart 2 _ (by simp) rfl)]
  refine ⟨rfl, ?_⟩
  rw [if_pos (by rfl)]
  refine ⟨by omega, ?_⟩
  rw [gA_i (hpart 3 _ (by simp) rfl)]
  exact ⟨rfl, hQ _ (l4.keeps.trans hk5)⟩
end
end Go.Proofs.YtabdpmnhjlmnlaaGreatDoor
end
section
namespace Go.Pt
open Go Go.RowKit Go.ChangeShapes
def memOf (W : World) : Mem := fun b => match W.heap[b]? with
  | some (.cells c t fr) => some ⟨t, c.toList, fr⟩
  | _ => none
theorem memOf_st (W : World) : St W (memOf W) (memOf W) [] W := by
  refine ⟨rfl, rfl, rfl, Nat.le_refl _, fun _ _ _ => rfl, fun b k h => ?_, by simp, by simp, fun b h1 h2 => (h2 h1).elim, fun _ h => h⟩
  unfold memOf at h
  split at h
  · rename_i c t fr hh
    cases h
    simpa using hh
  · cases h
theorem calls_of_tr {P : Program} {f : FuncId} {args : List Value} {W : World} {u : Value} (h : Tr P f (memOf W) args (fun v S' => v = u ∧ Keeps (memOf W) S' [])) :
    Calls P f args.toArray W fun e W' => e = .returned u ∧ Below W.heap.size W W' := by
  refine (h W (memOf_st W)).mono ?_
  rintro e W' ⟨v, S', rfl, ⟨rfl, hk⟩, hS⟩
  refine ⟨rfl, hS.os, hS.tape, hS.output, hS.size, fun k hlt => ?_⟩
  cases hm : memOf W k with
  | none => exact hS.frame k hlt hm
  | some q =>
    have e1 := hS.mem k q (hk.get hm (by simp))
    have e2 := (memOf_st W).mem k q hm
    rw [e1, e2]
def BytesIn (S : Mem) (l : Sl) : Prop := ∀ i : Nat, i < l.n → ∃ b o z, l.p = some (b, o) ∧ S.cell b (o + i) = some (.int .u8 z) ∧ 0 ≤ z ∧ z ≤ 255
theorem BytesIn.keep {S S' : Mem} {l : Sl} (h : BytesIn S l) (hk : Keeps S S' []) : BytesIn S' l := fun i hi => by
  obtain ⟨b, o, z, h1, h2, h3⟩ := h i hi
  obtain ⟨k, h4, h5⟩ := cell_e h2
  exact ⟨b, o, z, h1, by rw [cell_of (hk.get h4 (by simp))]; exact h5, h3⟩
end Go.Pt
end
section
namespace Go.Pt
open Go Go.RowKit Go.ChangeShapes
def NumsIn (S : Mem) (l : Sl) : Prop := ∀ i : Nat, i < l.n → ∃ b o z, l.p = some (b, o) ∧ S.cell b (o + i) = some (.int .u64 z) ∧ 0 ≤ z ∧ z ≤ 18446744073709551615
theorem NumsIn.keep {S S' : Mem} {l : Sl} (h : NumsIn S l) (hk : Keeps S S' []) : NumsIn S' l := fun i hi => by
  obtain ⟨b, o, z, h1, h2, h3⟩ := h i hi
  obtain ⟨k, h4, h5⟩ := cell_e h2
  exact ⟨b, o, z, h1, by rw [cell_of (hk.get h4 (by simp))]; exact h5, h3⟩
end Go.Pt
end
section
namespace Go.Pt
open Go Go.RowKit Go.ChangeShapes Go.WideShapes Go.ChangeAt Go.Lib
theorem handed_both {H : Type} {enc : TypeId × Value → H} {a : Assume} {C : Checked} {os : Os} {f : FuncId} {fn : Func} {s : ChangeSpec} {conds : List PathCond} {apart fresh handsOn again : Bool} {X : World → Array Value → Prop}
    (hX : ∀ (w w' : World) (args : Array Value), w.heap = w'.heap → X w args → X w' args) (own : ownKnob C.prog.godebug = none) (started : os.Started) (noInit : C.prog.inits.idxOf? f = none) (hfn : C.prog.funcs[f]? = some fn)
    (witness : ∃ (w : World) (tape : Tape) (i : Input), w.os = os ∧ (w.forCall tape i).Shaped C.prog ∧ i.vars = [] ∧ Input.okWide C.prog (w.forCall tape i) .any w.heap.size f i ∧
      ((s.pre enc C.prog fn conds apart (w.forCall tape i).memory i.args ∧ X (w.forCall tape i).memory i.args) ∧ sizedMet enc C.prog fn (OpenSpec.ofChange s) apart (w.forCall tape i).memory i.args) ∧ a.holds C.prog (lone (Frame.enter C.prog f i.args .normal) [] (w.forCall tape i)))
    (law : ∀ (W : World) (base : Nat) (args : Array Value) (ds gs : List (DataW H)) (before : List MemPlace), (∀ (j : Nat) t v, fn.params[j]? = some t → args[j]? = some v → Value.okWide C.prog W .any base t v) →
      DataW.Whole enc C.prog fn.params.toList s.vars apart W args.toList ds gs before → X W args → W.ShapedOpen C.prog →
      Calls C.prog f args W fun e W' => ∃ v, e = .returned v ∧ s.post enc C.prog fn apart fresh handsOn again W args v W') :
    ReturnsInHanded a C os f .any (fun w args => (s.pre enc C.prog fn conds apart w args ∧ X w args) ∧ sizedMet enc C.prog fn (OpenSpec.ofChange s) apart w args) (s.post enc C.prog fn apart fresh handsOn again) :=
  returnsInHanded_of_calls own started noInit witness fun w tape i _ hsh _ hok hpre _ => by
    obtain ⟨_, _, _, g, hg, _, _, _, _, hval⟩ := hok
    obtain rfl : g = fn := Option.some.inj (hg.symm.trans hfn)
    obtain ⟨⟨⟨ds, gs, before, hw, _⟩, hx⟩, _⟩ := hpre
    refine (law (w.forCall tape i) w.heap.size i.args ds gs before hval (DataW.Whole.of_heap (w' := w.forCall tape i) (by rfl) hw) (hX _ _ _ (by rfl) hx) hsh).mono fun e W' h => ?_
    obtain ⟨v, rfl, hp⟩ := h
    exact ChangeSpec.post_blind hp
theorem and_i {a b : Bool} (h : a = true) (k : b = true) : (a && b) = true := by rw [h, k]; rfl
end Go.Pt
namespace Go.Proofs.YtabdpmnhjlmnlaaGreatDoor
open Go Go.Pt Go.RowKit Go.Lib Go.Cr Go.ChangeShapes Go.WideShapes
set_option maxRecDepth 10000
theorem cell_row {W : World} {P : Program} {n : String} {g : Nat} {cs : Array Value} (hg : P.globalNamed n = some g) (h : W.var? P n = some cs) : ∃ t fr, memOf W g = some ⟨t, cs.toList, fr⟩ := by
  unfold World.var? at h
  rw [hg] at h
  simp only [Option.bind_some] at h
  split at h
  · rename_i c t fr hh
    cases h
    exact ⟨t, fr, by unfold memOf; rw [hh]⟩
  · cases h
theorem gl_of_laid {W : World} (h : laidMetH Tryz.prog Rows.crabBeginsRow.laid W) : Gl (memOf W) := by
  rw [MakeChecks.laidMetH_plain _ _ _ (by kernel_rfl)] at h
  have hp : VarReads Tryz.prog W "math/bits.deBruijn64tab" Rows.laid_math_bits_deBruijn64tab := laidMet.reads h (by simp [Rows.crabBeginsRow])
  obtain ⟨g, t, cs, fuel, p, hg, ht, hv, hd⟩ := hp
  obtain rfl := Option.some.inj ((show Tryz.prog.globalNamed "math/bits.deBruijn64tab" = some 0 by kernel_rfl).symm.trans hg)
  obtain rfl := Option.some.inj ((show (Tryz.prog.globals[0]?).map (·.type) = some 337 by kernel_rfl).symm.trans ht)
  obtain ⟨t', fr, hm⟩ := cell_row hg hv
  have e : (Rows.laid_math_bits_deBruijn64tab : DataW Unit) = tabData .u8 (deBruijn64tab.map fun (n : Nat) => (n : Int)) := by kernel_rfl
  rw [e] at hd
  have hcs := cells_of_tab Tryz.underlying337 Tryz.underlying5 (by kernel_rfl) (by kernel_rfl) hd
  rw [hcs, List.map_map] at hm
  exact ⟨t', fr, hm⟩
end Go.Proofs.YtabdpmnhjlmnlaaGreatDoor
end
section
namespace Go.Cr
open Go Go.Pt
structure Seat.Raw (s : Seat) : Prop where
  len : s.R.length = 16
  r : ∀ x ∈ s.R, W64 x
  pc : W64 s.pc
  base : W64 s.base
  vec : W64 s.vec
  epc : W64 s.epc
  cause : W64 s.cause
  addr : W64 s.addr
  st : 0 ≤ s.st
  pend : 0 ≤ s.pend
  mask : 0 ≤ s.mask
def Seat.fit (s : Seat) : Seat := ⟨s.R, s.pc, s.base, s.vec, s.epc, s.cause, s.addr, s.opn, Int.tmod s.st 3, Int.tmod s.pend 256, Int.tmod s.mask 256⟩
theorem Seat.fit_ok {s : Seat} (h : s.Raw) : s.fit.Ok := by
  have h1 := h.st
  have h2 := h.pend
  have h3 := h.mask
  refine ⟨h.len, h.r, h.pc, h.base, h.vec, h.epc, h.cause, h.addr, ?_, ?_, ?_⟩
  · show 0 ≤ Int.tmod s.st 3 ∧ Int.tmod s.st 3 ≤ 2
    rw [Int.tmod_eq_emod_of_nonneg h1]; omega
  · show 0 ≤ Int.tmod s.pend 256 ∧ Int.tmod s.pend 256 ≤ 255
    rw [Int.tmod_eq_emod_of_nonneg h2]; omega
  · show 0 ≤ Int.tmod s.mask 256 ∧ Int.tmod s.mask 256 ≤ 255
    rw [Int.tmod_eq_emod_of_nonneg h3]; omega
end Go.Cr
namespace Go.Proofs.YtabdpmnhjlmnlaaGreatDoor
open Go Go.Pt Go.Cr Go.Hp
section
variable {S S' S0 : Mem} {s : Seat}
theorem crabTells_law (hgl : Gl S) {kind n seat pc : Int} (h : s.Raw) : b_hermitcrablaw16_CrabTells S kind n seat pc s.L fun r S' => r = true ∧ Keeps S S' [] := by
  have hl := h.len
  have ho := Seat.fit_ok h
  unfold b_hermitcrablaw16_CrabTells
  refine ⟨Seat.L_len hl, ?_⟩
  rw [gI_i (Seat.g23 hl)]
  have e1 : spl s.L 23 [.int .u8 (Int.tmod s.st 3)] = ({ s with st := Int.tmod s.st 3 } : Seat).L := Seat.s23 hl _
  rw [e1, gI_i (Seat.g24 (s := { s with st := Int.tmod s.st 3 }) hl)]
  have e2 : spl ({ s with st := Int.tmod s.st 3 } : Seat).L 24 [.int .u32 (Int.tmod s.pend 256)] = ({ s with st := Int.tmod s.st 3, pend := Int.tmod s.pend 256 } : Seat).L := Seat.s24 (s := { s with st := Int.tmod s.st 3 }) hl _
  rw [e2, gI_i (Seat.g25 (s := { s with st := Int.tmod s.st 3, pend := Int.tmod s.pend 256 }) hl)]
  have e3 : spl ({ s with st := Int.tmod s.st 3, pend := Int.tmod s.pend 256 } : Seat).L 25 [.int .u32 (Int.tmod s.mask 256)] = s.fit.L := Seat.s25 (s := { s with st := Int.tmod s.st 3, pend := Int.tmod s.pend 256 }) hl _
  rw [e3]
  show crab_Told S (exL kind n) seat pc s.fit.L _
  refine told_spec ho fun S1 hk1 => ?_
  refine ⟨rfl, ?_⟩
  show hermitcrabref12_Sum S1 s.fit.L _
  refine refSum_spec ho fun S2 hk2 => ?_
  have hk : Keeps S S2 [] := hk1.trans hk2
  have hg2 : Gl S2 := hgl.keep (hk 0 (gl_some hgl) (by simp))
  have fin : ∀ (w : List Value), w = evL (told kind n seat pc s.fit) → hermitcrablaw16_awake S2 fun t_5 Sx_4 =>
     if t_5 = true then
      fits [.i .u8, .i .i64, .i .u64, .i .u64] (evL (told kind n seat pc s.fit)) = true ∧
      fits [.i .u8, .i .i64, .i .u64, .i .u64] w = true ∧
      (fun r S' => r = true ∧ Keeps S S' []) (eqL (evL (told kind n seat pc s.fit)) w) Sx_4
     else
     (fun r S' => r = true ∧ Keeps S S' []) false Sx_4 := fun w hw => by
    refine awake_spec hg2 fun S3 hk3 => ?_
    subst hw
    rw [if_pos rfl]
    exact ⟨rfl, rfl, (eqL_iff (ks := [.i .u8, .i .i64, .i .u64, .i .u64]) rfl rfl).2 rfl, hk.trans hk3⟩
  simp only [jn]
  unfold told at fin
  by_cases h1 : kind = 1
  · have h4 : ¬ kind = 4 := by omega
    rw [if_pos h1, if_neg h4]
    refine ⟨rfl, rfl, fin _ ?_⟩
    rw [if_pos h1]; rfl
  · rw [if_neg h1]
    by_cases h4 : kind = 4
    · rw [if_pos h4]
      refine ⟨rfl, rfl, fin _ ?_⟩
      rw [if_neg h1, if_pos h4]; rfl
    · rw [if_neg h4]
      refine ⟨rfl, rfl, fin _ ?_⟩
      rw [if_neg h1, if_neg h4]; rfl
end
end Go.Proofs.YtabdpmnhjlmnlaaGreatDoor
end
section
namespace Go.Proofs.YtabdpmnhjlmnlaaGreatDoor
open Go Go.Pt Go.RowKit Go.Lib Go.Cr Go.ChangeShapes Go.WideShapes
def toI : Value → Int
  | .int _ z => z
  | _ => 0
theorem w64_of {n : Int} (h : (Lit.int .u64 n).wf = true) : W64 n := bounds_u64 h
set_option maxRecDepth 100000 in
theorem open_seat {H : Type} {enc : TypeId × Value → H} {W : World} {base bs : Nat} {spare : Nat → Bool} {held : Bool} {r : Reach} {v : Value} {d : DataW H} {ps : List MemPlace}
    (hval : Value.okWide Tryz.prog W r bs 43 v) (h : DataW.Trod enc Tryz.prog W base spare held 43 v d ps) : ∃ s : Seat, v = valL s.L ∧ s.Raw := by
  unfold Value.okWide at hval
  rw [Tryz.underlying43] at hval
  obtain ⟨cs, rfl, _⟩ := hval
  obtain ⟨fuel, hf⟩ := h
  simp only [Value.cells] at hf
  obtain ⟨xs, n, _, _, hlen, hxs, hfld⟩ := DataW.trod_struct Tryz.underlying43 hf
  have h26 : Tryz.prog.cellsOf 43 = 26 := by kernel_rfl
  rw [h26] at hlen
  have g := fun (j : Nat) (hj : j < 11) => List.getElem?_eq_getElem (l := xs) (i := j) (by rw [hxs]; exact hj)
  have c39 : Tryz.prog.cellsOf 39 = 1 := by kernel_rfl
  have c40 : Tryz.prog.cellsOf 40 = 16 := by kernel_rfl
  have c41 : Tryz.prog.cellsOf 41 = 1 := by kernel_rfl
  have c4 : Tryz.prog.cellsOf 4 = 1 := by kernel_rfl
  have c5 : Tryz.prog.cellsOf 5 = 1 := by kernel_rfl
  have f0 : DataW.trod enc Tryz.prog W base spare held n 40 ((cs.toList.drop 0).take (Tryz.prog.cellsOf 40)) = some _ := (hfld 0 _ rfl).trans (g 0 (by decide))
  have f1 : DataW.trod enc Tryz.prog W base spare held n 39 ((cs.toList.drop 16).take (Tryz.prog.cellsOf 39)) = some _ := (hfld 1 _ rfl).trans (g 1 (by decide))
  have f2 : DataW.trod enc Tryz.prog W base spare held n 39 ((cs.toList.drop 17).take (Tryz.prog.cellsOf 39)) = some _ := (hfld 2 _ rfl).trans (g 2 (by decide))
  have f3 : DataW.trod enc Tryz.prog W base spare held n 39 ((cs.toList.drop 18).take (Tryz.prog.cellsOf 39)) = some _ := (hfld 3 _ rfl).trans (g 3 (by decide))
  have f4 : DataW.trod enc Tryz.prog W base spare held n 39 ((cs.toList.drop 19).take (Tryz.prog.cellsOf 39)) = some _ := (hfld 4 _ rfl).trans (g 4 (by decide))
  have f5 : DataW.trod enc Tryz.prog W base spare held n 39 ((cs.toList.drop 20).take (Tryz.prog.cellsOf 39)) = some _ := (hfld 5 _ rfl).trans (g 5 (by decide))
  have f6 : DataW.trod enc Tryz.prog W base spare held n 39 ((cs.toList.drop 21).take (Tryz.prog.cellsOf 39)) = some _ := (hfld 6 _ rfl).trans (g 6 (by decide))
  have f7 : DataW.trod enc Tryz.prog W base spare held n 4 ((cs.toList.drop 22).take (Tryz.prog.cellsOf 4)) = some _ := (hfld 7 _ rfl).trans (g 7 (by decide))
  have f8 : DataW.trod enc Tryz.prog W base spare held n 5 ((cs.toList.drop 23).take (Tryz.prog.cellsOf 5)) = some _ := (hfld 8 _ rfl).trans (g 8 (by decide))
  have f9 : DataW.trod enc Tryz.prog W base spare held n 41 ((cs.toList.drop 24).take (Tryz.prog.cellsOf 41)) = some _ := (hfld 9 _ rfl).trans (g 9 (by decide))
  have f10 : DataW.trod enc Tryz.prog W base spare held n 41 ((cs.toList.drop 25).take (Tryz.prog.cellsOf 41)) = some _ := (hfld 10 _ rfl).trans (g 10 (by decide))
  rw [c39] at f1 f2 f3 f4 f5 f6
  rw [c4] at f7
  rw [c5] at f8
  rw [c41] at f9 f10
  rw [c40, List.drop_zero] at f0
  obtain ⟨z1, e1, _, w1⟩ := DataW.trod_int Tryz.underlying39 f1
  obtain ⟨z2, e2, _, w2⟩ := DataW.trod_int Tryz.underlying39 f2
  obtain ⟨z3, e3, _, w3⟩ := DataW.trod_int Tryz.underlying39 f3
  obtain ⟨z4, e4, _, w4⟩ := DataW.trod_int Tryz.underlying39 f4
  obtain ⟨z5, e5, _, w5⟩ := DataW.trod_int Tryz.underlying39 f5
  obtain ⟨z6, e6, _, w6⟩ := DataW.trod_int Tryz.underlying39 f6
  obtain ⟨b7, e7, _⟩ := DataW.trod_bool Tryz.underlying4 f7
  obtain ⟨z8, e8, _, w8⟩ := DataW.trod_int Tryz.underlying5 f8
  obtain ⟨z9, e9, _, w9⟩ := DataW.trod_int Tryz.underlying41 f9
  obtain ⟨z10, e10, _, w10⟩ := DataW.trod_int Tryz.underlying41 f10
  obtain ⟨ys, m, _, _, hyl, hyn, hy⟩ := DataW.trod_array Tryz.underlying40 f0
  have hr : ∀ i, i < 16 → ∃ z, cs.toList[i]? = some (.int .u64 z) ∧ W64 z := fun i hi => by
    have := hy i hi
    rw [c39, Nat.mul_one, List.getElem?_eq_getElem (by omega)] at this
    obtain ⟨z, e, _, w⟩ := DataW.trod_int Tryz.underlying39 this
    refine ⟨z, ?_, w64_of w⟩
    have e' := congrArg (fun x => x[0]?) e
    rw [List.getElem?_take, if_pos (by decide), List.getElem?_drop, Nat.add_zero, List.getElem?_take, if_pos hi] at e'
    exact e'
  have hR : cs.toList.take 16 = ((cs.toList.take 16).map toI).map (Value.int .u64) := by
    apply List.ext_getElem?
    intro i
    rw [List.map_map, List.getElem?_map, List.getElem?_take]
    by_cases hi : i < 16
    · obtain ⟨z, e, _⟩ := hr i hi
      rw [if_pos hi, e]; rfl
    · rw [if_neg hi]; rfl
  have hT : cs.toList.drop 16 = Seat.tail ⟨[], z1, z2, z3, z4, z5, z6, b7, z8, z9, z10⟩ := by
    have hl10 : (cs.toList.drop 16).length = 10 := by rw [List.length_drop, hlen]
    have k := fun j => (List.drop_drop (i := j) (j := 16) (l := cs.toList))
    rw [show 17 = 16 + 1 from rfl, ← k] at e2
    rw [show 18 = 16 + 2 from rfl, ← k] at e3
    rw [show 19 = 16 + 3 from rfl, ← k] at e4
    rw [show 20 = 16 + 4 from rfl, ← k] at e5
    rw [show 21 = 16 + 5 from rfl, ← k] at e6
    rw [show 22 = 16 + 6 from rfl, ← k] at e7
    rw [show 23 = 16 + 7 from rfl, ← k] at e8
    rw [show 24 = 16 + 8 from rfl, ← k] at e9
    rw [show 25 = 16 + 9 from rfl, ← k] at e10
    generalize cs.toList.drop 16 = l at hl10 e1 e2 e3 e4 e5 e6 e7 e8 e9 e10 ⊢
    match l, hl10 with
    | [q0, q1, q2, q3, q4, q5, q6, q7, q8, q9], _ =>
      simp only [List.drop_succ_cons, List.drop_zero, List.take_succ_cons, List.take_zero, List.cons.injEq, and_true] at e1 e2 e3 e4 e5 e6 e7 e8 e9 e10
      simp only [Seat.tail, e1, e2, e3, e4, e5, e6, e7, e8, e9, e10]
  refine ⟨⟨(cs.toList.take 16).map toI, z1, z2, z3, z4, z5, z6, b7, z8, z9, z10⟩, ?_, ⟨?_, ?_, w64_of w1, w64_of w2, w64_of w3, w64_of w4, w64_of w5, w64_of w6, (bounds_u8 w8).1, (bounds_u32 w9).1, (bounds_u32 w10).1⟩⟩
  · unfold valL Seat.L
    show Value.agg cs = _
    have : cs.toList = ((cs.toList.take 16).map toI).map (Value.int .u64) ++ Seat.tail ⟨[], z1, z2, z3, z4, z5, z6, b7, z8, z9, z10⟩ := by
      rw [← hR, ← hT, List.take_append_drop]
    have e : cs = (cs.toList).toArray := by simp
    rw [e]
    congr 1
    congr 1
  · show ((cs.toList.take 16).map toI).length = 16
    rw [List.length_map, List.length_take, hlen]; rfl
  · intro x hx
    obtain ⟨q, hq, rfl⟩ := List.mem_map.1 hx
    obtain ⟨i, hi⟩ := List.mem_iff_getElem?.1 hq
    rw [List.getElem?_take] at hi
    split at hi
    · rename_i h16
      obtain ⟨z, e, w⟩ := hr i h16
      rw [e] at hi; cases hi; exact w
    · cases hi
section
variable {H : Type} {enc : TypeId × Value → H} {P : Program} {w : World} {base : Nat} {spare : Nat → Bool} {held : Bool}
theorem trodAll_five {t0 t1 t2 t3 t4 : TypeId} {args : Array Value} {ds : List (DataW H)} {ps : List MemPlace} (h : DataW.TrodAll enc P w base spare held [t0, t1, t2, t3, t4] args.toList ds ps) :
    ∃ v0 v1 v2 v3 v4 d0 d1 d2 d3 d4 p0 p1 p2 p3 p4, args = #[v0, v1, v2, v3, v4] ∧ ds = [d0, d1, d2, d3, d4] ∧ ps = p0 ++ (p1 ++ (p2 ++ (p3 ++ p4))) ∧ DataW.Trod enc P w base spare held t0 v0 d0 p0 ∧ DataW.Trod enc P w base spare held t1 v1 d1 p1 ∧ DataW.Trod enc P w base spare held t2 v2 d2 p2 ∧ DataW.Trod enc P w base spare held t3 v3 d3 p3 ∧ DataW.Trod enc P w base spare held t4 v4 d4 p4 := by
  obtain ⟨v0, vs0, d0, ds0, p0, q0, hargs, rfl, rfl, h0, r0⟩ := trodAll_cons h
  obtain ⟨v1, vs1, d1, ds1, p1, q1, rfl, rfl, rfl, h1, r1⟩ := trodAll_cons r0
  obtain ⟨v2, vs2, d2, ds2, p2, q2, rfl, rfl, rfl, h2, r2⟩ := trodAll_cons r1
  obtain ⟨v3, vs3, d3, ds3, p3, q3, rfl, rfl, rfl, h3, r3⟩ := trodAll_cons r2
  obtain ⟨v4, vs4, d4, ds4, p4, q4, rfl, rfl, rfl, h4, r4⟩ := trodAll_cons r3
  obtain ⟨rfl, rfl, rfl⟩ := trodAll_nil r4
  exact ⟨v0, v1, v2, v3, v4, d0, d1, d2, d3, d4, p0, p1, p2, p3, p4, by cases args; simp_all, rfl, by simp, h0, h1, h2, h3, h4⟩
theorem trodAll_mk5 {t0 t1 t2 t3 t4 : TypeId} {v0 v1 v2 v3 v4 : Value} {d0 d1 d2 d3 d4 : DataW H} {p0 p1 p2 p3 p4 : List MemPlace} (h0 : DataW.Trod enc P w base spare held t0 v0 d0 p0) (h1 : DataW.Trod enc P w base spare held t1 v1 d1 p1)
    (h2 : DataW.Trod enc P w base spare held t2 v2 d2 p2) (h3 : DataW.Trod enc P w base spare held t3 v3 d3 p3) (h4 : DataW.Trod enc P w base spare held t4 v4 d4 p4) : DataW.TrodAll enc P w base spare held [t0, t1, t2, t3, t4] [v0, v1, v2, v3, v4] [d0, d1, d2, d3, d4] (p0 ++ (p1 ++ (p2 ++ (p3 ++ p4)))) := ⟨p0, _, h0, trodAll_mk4 h1 h2 h3 h4, rfl⟩
end
end Go.Proofs.YtabdpmnhjlmnlaaGreatDoor
end
