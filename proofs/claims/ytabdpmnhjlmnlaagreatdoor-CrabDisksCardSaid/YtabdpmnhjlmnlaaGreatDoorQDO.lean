/- Texts of this work, joined by program (pack.py): Ij, PsO, Ik, Il, Im, Ka, Kb, Kc, Jw, Kd, PsS, PtL, PtM, Jr, Je. -/
import Derived.Test.YtabdpmnhjlmnlaaGreatDoorQDN
import Derived.Test.YtabdpmnhjlmnlaaGreatDoorQDC
import Derived.Test.YtabdpmnhjlmnlaaGreatDoorQDI
import Derived.Test.YtabdpmnhjlmnlaaGreatDoorQDL
import Derived.Test.YtabdpmnhjlmnlaaGreatDoorQDE
import Derived.Test.YtabdpmnhjlmnlaaGreatDoorQDH
import Derived.Test.YtabdpmnhjlmnlaaGreatDoorQDB
import Derived.ProofKit
import Derived.OpenShut
import Derived.Test.YtabdpmnhjlmnlaaGreatDoorRows
import Derived.LaidMore
import Derived.Lay
import Derived.Lib.LaidU8
import Derived.Deep.Slices
import Derived.Stop.Joined
set_option linter.unusedVariables false
section
namespace Go.Cr
open Go Go.Pt
def ownL (l : List Nat) : Nat → Ow := fun f => if f ∈ l then ⟨1, 0, 0, 0⟩ else ow0
theorem ownL_in {l : List Nat} {f : Nat} (h : f ∈ l) : ownL l f = ⟨1, 0, 0, 0⟩ := if_pos h
theorem ownL_out {l : List Nat} {f : Nat} (h : f ∉ l) : ownL l f = ow0 := if_neg h
theorem ownL_keep {l : List Nat} {g : Nat} : keepC (ownL l) g (-1) = ownL (l ++ [g]) := by
  unfold keepC
  funext f
  by_cases hm : g ∈ l
  · rw [ownL_in hm, if_neg (by decide)]
    by_cases hf1 : f ∈ l
    · rw [ownL_in hf1, ownL_in (by simp [hf1])]
    · have : f ≠ g := fun e => hf1 (e ▸ hm)
      rw [ownL_out hf1, ownL_out (by simp only [List.mem_append, List.mem_singleton, not_or]; exact ⟨hf1, this⟩)]
  · rw [ownL_out hm, if_pos (show ow0.kind = 0 from rfl), if_neg (by decide)]
    by_cases hf1 : f = g
    · subst hf1; rw [upd_at, ownL_in (by simp)]
    · rw [upd_of hf1]
      by_cases hf2 : f ∈ l
      · rw [ownL_in hf2, ownL_in (by simp [hf2])]
      · rw [ownL_out hf2, ownL_out (by simp only [List.mem_append, List.mem_singleton, not_or]; exact ⟨hf2, hf1⟩)]
def cstN (form : Int) (N : Nat) (l : List Nat) (u : Nat → Bool) : Cst := { toKn := kn0 form, N := N, dat := fun _ => noughts, used := u, left := -1, cache := [], own := ownL l, alm := fun _ _ => none, region := l, ev := fun _ => [] }
def cstA (form : Int) (N : Nat) (l : List Nat) (u : Nat → Bool) (o : Nat → Ow) : Cst := { toKn := kn0 form, N := N, dat := fun _ => noughts, used := u, left := -1, cache := [], own := o, alm := fun _ _ => none, region := l, ev := fun _ => [] }
theorem wok_W0 {free : Int} : WOk (W0 free) := by
  refine ⟨fun n _ => ⟨rfl, fun _ => rfl, fun _ => rfl⟩, fun n _ => rfl, fun n h => (by cases h), fun n s h => (by cases h), fun n => ⟨Nat.zero_le 64, fun x h => by cases h⟩, fun n j h => (by cases h), fun n => ⟨Int.le_refl 0, (by decide : (0:Int) ≤ 32)⟩, fun n k h => (by cases h), fun n p l h => (by cases h), fun n => ?_, fun i h => (by cases h), fun i _ => rfl, fun i h => (by cases h), fun i j h => (by cases h), fun n k w h => (by cases h)⟩
  have : (W0 free).pages n = 0 := count_zero fun _ _ => rfl
  rw [this]; exact Int.le_refl _
theorem rel_cstN {form : Int} (hf : form = 1 ∨ form = 2) {N : Nat} (hN : N ≤ 512) {l : List Nat} {u : Nat → Bool} (h : takeN N l.length (fun _ => false) = some (l, u)) {φ : Nat → Nat → Nat} : Rel (cstN form N l u) (W0 (N - l.length)) φ := by
  obtain ⟨_, h2, h3, h4, h5⟩ := takeN_some h
  have hk : ∀ f, (cstN form N l u).own f = if f ∈ l then ⟨1, 0, 0, 0⟩ else ow0 := fun _ => rfl
  have hc : count (fun f => ! (fun _ => false : Nat → Bool) f) N = N := by
    unfold count
    have : (List.range N).filter (fun f => ! false) = List.range N := by simp
    rw [this]; simp
  refine ⟨wok_W0, rfl, rfl, rfl, hN, hf, ⟨Int.le_refl 0, (by decide : (0:Int) ≤ 4611686018427387904)⟩, fun n h => (by cases h), fun n k => rfl, ?_, rfl, fun f _ => ?_, fun f _ h => ?_, fun f _ => ?_, fun f _ => ⟨noughts_len, fun x hx => noughts_byt hx⟩, fun n _ => ⟨rfl, rfl, rfl⟩, fun n h => (by cases h), fun n f h => (by cases h), fun f _ h => ?_, fun n j h => (by cases h), fun n p h => (by cases h), fun n p l h => (by cases h), fun f _ h => ?_, ⟨h2, fun f => ?_⟩, fun r h => (by cases h), Nat.zero_le 8⟩
  · show ((N : Int) - l.length) = count (fun f => ! u f) N
    rw [hc] at h5; omega
  · show u f = _
    rw [h4 f, hk f]
    by_cases e : f ∈ l
    · rw [if_pos e]; simp [e]
    · rw [if_neg e]; simp [e, ow0]
  · rw [hk f] at h ⊢
    split at h
    · cases h
    · rename_i e; rw [if_neg e]
  · rw [hk f]
    by_cases e : f ∈ l
    · rw [if_pos e]; decide
    · rw [if_neg e]; decide
  · rw [hk f] at h
    split at h <;> cases h
  · rw [hk f] at h
    split at h <;> cases h
  · show f ∈ l ↔ _
    rw [hk f]
    constructor
    · intro e; exact ⟨(h3 f e).1, by rw [if_pos e]⟩
    · rintro ⟨_, e⟩
      split at e
      · assumption
      · cases e
end Go.Cr
namespace Go.Proofs.YtabdpmnhjlmnlaaGreatDoor
open Go Go.Pt Go.Cr Go.Hp
section
variable {S S' : Mem} {ρ ρ' : Rho} {R : Nat → Prop}
theorem spl_reg {A : Ad} {s : Sl} : spl (hdL A) 4 [eL s] = hdL { A with gs := s } := rfl
theorem begin_spec (hg : ∀ b r, ρ b = some r → S b ≠ none) (h0 : ρ 0 = none) (hgl : Gl S) {form : Int} {N : Nat} (h1 : 1 ≤ N) (hN : N ≤ 512) {Q : Nat → Mem → Prop}
    (hQ : ∀ S' ρ' h A, Mv S ρ S' ρ' Rc → CrabA S' ρ' h A (cst0 form N) → Q h S') :
    store_New S N fun t Sx_1 => pool_New Sx_1 N fun t_1 Sx_2 => guest_New Sx_2 form N fun t_2 Sx_3 =>
      al Sx_3 86 ([eP t, eP t_1, .slice (none) 0 0, eP t_2, .slice (none) 0 0, .slice (none) 0 0, .slice (none) 0 0, .slice (none) 0 0, .slice (none) 0 0, .slice (none) 0 0, .slice (none) 0 0]) fun b Sx_4 => Q b Sx_4 := by
  refine storeNew_spec hg h1 hN fun m S1 ρ1 m1 hs1 => ?_
  refine poolNew_spec m1.rg h1 hN fun p S2 ρ2 m2 hp2 => ?_
  have hs2 := hs1.keep m2 (by decide) (by decide)
  apply t_guest_New
  unfold b_guest_New
  refine ownNew_spec m2.rg h1 hN fun ob S3 ρ3 m3 ho3 => ?_
  have hs3 := hs2.keep m3 (fun h => h) (fun h => h)
  have hp3 := hp2.keep m3 (fun h => h) (fun h => h) (fun h => h)
  intro kb hkb t ht h hh
  rw [kn_cells] at hh ⊢
  rw [hd_cells]
  have M4 : Mv S3 ρ3 (S3.set kb (bw 127 [.slice none 0 0])) (ρ3.upd kb 10) (fun _ => False) := (Mv.refl m3.rg).new hkb _ 10
  have M5 := M4.new ht (bw 77 (knL (kn0 form) (fun _ => vx0) ob kb)) 7
  have M6 := M5.new hh (bw 86 (hdL ⟨m, p, t, ob, kb, ⟨none, 0, 0⟩, ⟨none, 0, 0⟩, fun _ => ⟨none, 0, 0⟩, fun _ => vx0⟩)) 0
  have n1 : kb ≠ t := fun e => by subst e; simp at ht
  have n2 : kb ≠ h := fun e => by subst e; simp [set_ne n1] at hh
  have n3 : t ≠ h := fun e => by subst e; simp at hh
  have mA : Mv S ρ S3 ρ3 Rc := ((m1.mono (fun _ h => h.elim)).trans (m2.mono fun r hr => by unfold R345 at hr; show r < 110; omega)).trans (m3.mono fun _ h => h.elim)
  have mB := mA.trans (M6.mono fun _ h => h.elim)
  have bk : ((S3.set kb (bw 127 [.slice none 0 0])).set t (bw 77 (knL (kn0 form) (fun _ => vx0) ob kb))).set h (bw 86 (hdL ⟨m, p, t, ob, kb, ⟨none, 0, 0⟩, ⟨none, 0, 0⟩, fun _ => ⟨none, 0, 0⟩, fun _ => vx0⟩)) kb = some (bw 127 [.slice none 0 0]) := by
    rw [set_ne n2, set_ne n1, set_same]
  have pc7 : Pc (((S3.set kb (bw 127 [.slice none 0 0])).set t (bw 77 (knL (kn0 form) (fun _ => vx0) ob kb))).set h (bw 86 (hdL ⟨m, p, t, ob, kb, ⟨none, 0, 0⟩, ⟨none, 0, 0⟩, fun _ => ⟨none, 0, 0⟩, fun _ => vx0⟩))) (((ρ3.upd kb 10).upd t 7).upd h 0) 7 t (knL (kn0 form) (fun _ => vx0) ob kb) := by
    generalize knL (kn0 form) (fun _ => vx0) ob kb = L
    exact ⟨⟨bw 77 L, by rw [set_ne n3]; exact set_same, rfl, lpart_all rfl⟩, by rw [upd_ne n3]; exact upd_same⟩
  refine hQ _ _ h ⟨m, p, t, ob, kb, ⟨none, 0, 0⟩, ⟨none, 0, 0⟩, fun _ => ⟨none, 0, 0⟩, fun _ => vx0⟩ mB
    ⟨mB.rg, g0_keep hgl mB h0, gl_keep hgl mB h0, ⟨⟨_, set_same, rfl, rfl⟩, upd_same⟩, hs3.keep M6 (fun h => h) (fun h => h), hp3.keep M6 (fun h => h) (fun h => h) (fun h => h), Rw.nil, pc7, ho3.keep M6 (fun h => h) (fun h => h),
      ⟨⟨127, ⟨none, 0, 0⟩, [], ⟨bk, rfl, Row.nil, fun c hc => (by cases hc), ?_, by decide⟩, fun x hx => (by cases hx), ⟨List.nodup_nil, fun a ha => (by cases ha), fun n k t h => (by cases h)⟩⟩, by rw [upd_ne n2, upd_ne n1]; exact upd_same⟩, Rw.nil, fun i _ => Rw.nil, fun i _ => ⟨Rw.nil, fun s hs => (by cases hs), Rw.nil, Rw.nil, fun j _ => Rw.nil⟩⟩
  exact fun i _ h => absurd h (Nat.not_lt_zero _)
theorem keepLoop {h : Nat} {A : Ad} {form : Int} {N : Nat} {l : List Nat} {u : Nat → Bool} (hl : ∀ f ∈ l, f < N) (hl2 : l.length ≤ 1000) {Q : Mem → Prop} (hc : CrabA S ρ h A (cstA form N l u fun _ => ow0)) (hQ : ∀ S', Mv S ρ S' ρ Rc → CrabA S' ρ h A (cstN form N l u) → Q S') :
    lp (fun Xx (t_7 : Int) (Sx_8 : Mem) =>
     if t_7 < (A.gs.n : Int) then
      sl A.gs fun b_1 o n n_1 =>
      0 ≤ t_7 ∧ t_7 < ((n : Nat) : Int) ∧
      gI (Sx_8.cell b_1 (o + t_7.toNat * 1)) .i64 fun t_8 =>
      gP (Sx_8.cell h 3) fun t_9 =>
      nn t_9 fun b_2 o_1 =>
      gP (Sx_8.cell b_2 (o_1 + 74)) fun t_10 =>
      owner_Book_Keep Sx_8 t_10 t_8 (-1) fun t_11 Sx_9 =>
      Xx (IntKind.i64.wrap (t_7 + 1)) Sx_9
     else
     Q Sx_8) 0 S := by
  refine lp_rule (fun (z : Int) S' => ∃ i : Nat, z = (i : Int) ∧ i ≤ l.length ∧ Mv S ρ S' ρ Rc ∧ CrabA S' ρ h A (cstA form N l u (ownL (l.take i)))) (fun z => l.length - z.toNat) ?_
    ⟨0, rfl, by omega, Mv.refl hc.rg, by
      have e : ownL (l.take 0) = fun _ => ow0 := by funext f; exact ownL_out (by simp)
      rw [e]; exact hc⟩
  rintro X z S1 ⟨i, rfl, hi, m1, hc1⟩ ih
  have hn : A.gs.n = l.length := hc1.gs.n (m := l.length) (by decide) (by show (nL l).length = _; simp [nL])
  by_cases hlt : (i : Int) < (A.gs.n : Int)
  · rw [if_pos hlt]
    have hil : i < l.length := by omega
    obtain ⟨c, e1, e2⟩ := hc1.gs.sl (by show 0 < (nL l).length; simp [nL]; omega)
    rw [e1, sl_i]
    have h3 : S1.cell h 3 = some (eP (some (A.t, 0))) := hc1.c3
    have h74 : S1.cell A.t (0 + 74) = some (eP (some (A.ob, 0))) := by rw [hc1.tt.cell 74 (by rw [knL_len]; decide) (by rfl)]; exact knL_ow
    have hcell : S1.cell c (0 + (i : Int).toNat * 1) = some (.int .i64 (l.getD i 0 : Nat)) := by
      rw [hc1.gs.cell e2 i (by show i < (nL l).length; simp [nL]; omega) (by omega)]
      show nthL (nL l) i = _
      rw [nthL_eq]
      unfold nL
      rw [List.getElem?_map, List.getElem?_eq_getElem hil, List.getD_eq_getElem?_getD, List.getElem?_eq_getElem hil]; rfl
    refine ⟨by omega, by omega, ?_⟩
    rw [gI_i hcell, gP_i h3, nn_i, gP_i h74]
    have hf : l.getD i 0 < N := hl _ (getD_mem hil)
    refine keepB_spec hc1.ow m1.rg hf (by decide) fun e S2 m2 ho2 => ?_
    have hc2 := hc1.setOwn m2 ho2
    rw [w64 (by omega) (by omega)]
    refine ih _ _ ⟨i + 1, rfl, by omega, m1.trans (m2.mono fun r hr => by show r < 110; omega), ?_⟩ (by omega)
    have e3 : keepC (ownL (l.take i)) (l.getD i 0) (-1) = ownL (l.take (i + 1)) := by
      rw [ownL_keep, List.take_add_one, List.getD_eq_getElem?_getD, List.getElem?_eq_getElem hil]; rfl
    rw [← e3]
    exact hc2
  · rw [if_neg hlt]
    have : i = l.length := by omega
    subst this
    rw [List.take_length] at hc1
    exact hQ _ m1 hc1
def badNew (form frames region : Int) : Prop := frames < 1 ∨ 512 < frames ∨ region < 1 ∨ frames < region ∨ (form ≠ 1 ∧ form ≠ 2)
instance (form frames region : Int) : Decidable (badNew form frames region) := inferInstanceAs (Decidable (_ ∨ _))
theorem new_spec (hg : ∀ b r, ρ b = some r → S b ≠ none) (h0 : ρ 0 = none) (hgl : Gl S) {form frames region : Int} {Q : Pt → Int → Mem → Prop}
    (hE : badNew form frames region → Q none 1 S)
    (hY : ¬ badNew form frames region → ∀ S' ρ' h A l u, Mv S ρ S' ρ' Rc → CrabA S' ρ' h A (cstN form frames.toNat l u) → takeN frames.toNat l.length (fun _ => false) = some (l, u) → (l.length : Int) = region → Q (some (h, 0)) 0 S') : crab_New S form frames region Q := by
  apply t_crab_New
  unfold b_crab_New
  simp only [jn]
  by_cases hb : badNew form frames region
  · have := hE hb
    unfold badNew at hb
    by_cases h1 : frames < 1
    · rw [if_pos h1]; exact this
    rw [if_neg h1]
    by_cases h2 : 512 < frames
    · rw [if_pos h2]; exact this
    rw [if_neg h2]
    by_cases h3 : region < 1
    · rw [if_pos h3]; exact this
    rw [if_neg h3]
    by_cases h4 : frames < region
    · rw [if_pos h4]; exact this
    rw [if_neg h4, if_pos (by omega), if_pos (by omega)]
    exact this
  have hY := hY hb
  unfold badNew at hb
  rw [if_neg (by omega), if_neg (by omega), if_neg (by omega), if_neg (by omega)]
  have hform : form = 1 ∨ form = 2 := by omega
  obtain ⟨N, rfl⟩ : ∃ N : Nat, frames = N := ⟨frames.toNat, by omega⟩
  obtain ⟨r, rfl⟩ : ∃ r : Nat, region = r := ⟨region.toNat, by omega⟩
  have key : store_New S N fun t Sx_1 => pool_New Sx_1 N fun t_1 Sx_2 => guest_New Sx_2 form N fun t_2 Sx_3 =>
      al Sx_3 86 ([eP t, eP t_1, .slice (none) 0 0, eP t_2, .slice (none) 0 0, .slice (none) 0 0, .slice (none) 0 0, .slice (none) 0 0, .slice (none) 0 0, .slice (none) 0 0, .slice (none) 0 0]) fun b Sx_4 =>
   gP (Sx_4.cell b 1) fun t_3 =>
   pool_Pool_Some Sx_4 t_3 r fun t_4 t_5 Sx_5 =>
   pt Sx_5 b 4 1 ([eL t_4]) fun Sx_6 =>
   gL (Sx_6.cell b 4) fun t_6 =>
   lp (fun Xx (t_7 : Int) (Sx_8 : Mem) =>
     if t_7 < (t_6.n : Int) then
      sl t_6 fun b_1 o n n_1 =>
      0 ≤ t_7 ∧ t_7 < ((n : Nat) : Int) ∧
      gI (Sx_8.cell b_1 (o + t_7.toNat * 1)) .i64 fun t_8 =>
      gP (Sx_8.cell b 3) fun t_9 =>
      nn t_9 fun b_2 o_1 =>
      gP (Sx_8.cell b_2 (o_1 + 74)) fun t_10 =>
      owner_Book_Keep Sx_8 t_10 t_8 (-1) fun t_11 Sx_9 =>
      Xx (IntKind.i64.wrap (t_7 + 1)) Sx_9
     else
     Q (some (b, 0)) 0 Sx_8) 0 Sx_6 := by
    refine begin_spec hg h0 hgl (by omega) (by omega) fun S1 ρ1 h A m1 hc1 => ?_
    have c1 : S1.cell h 1 = some (eP (some (A.p, 0))) := hc1.c1
    rw [gP_i c1]
    refine some_spec (r := 12) hc1.pl m1.rg (show (-1:Int) ≤ -1 ∧ (-1:Int) ≤ 4294967296 by decide) (by omega) (by decide) (fun l u hle ht s S2 ρ2 m2 hp2 hs2 => ?_) (fun hN => ?_)
    · have hll := (takeN_some ht).1
      refine (hc1.hd.keep m2 (by decide)).pt m2.rg 4 (by rfl) (by rw [hdL_len]; exact (by decide : 5 ≤ 11)) (by rfl) fun S3 m3 hh3 => ?_
      rw [spl_reg] at hh3
      have M : Mv S1 ρ1 S3 ρ2 (fun x => x = 0 ∨ R345 x ∨ x = 12) := (m2.mono fun r hr => .inr hr).trans (m3.mono fun r hr => .inl hr)
      have hc3 : CrabA S3 ρ2 h { A with gs := s } (cstA form N l u fun _ => ow0) :=
        ⟨M.rg, g0_keep hc1.gl M hc1.g0, gl_keep hc1.gl M hc1.g0, hh3, hc1.st.keep M (by decide) (by decide), hp2.keep m3 (by decide) (by decide) (by decide), hc1.ca.keep M (by decide), hc1.tt.keep M (by decide), hc1.ow.keep M (by decide) (by decide), hc1.ck.keep M (by decide) (by decide), hs2.keep m3 (by decide), fun i hi => (hc1.ev i hi).keep M (by unfold R345; omega), fun i hi => (hc1.vs i hi).keep M hi fun r h1 h2 => by unfold R345; omega⟩
      have c4 : S3.cell h 4 = some (eL s) := hc3.c4
      rw [gL_i c4]
      refine keepLoop (A := { A with gs := s }) (fun f hf => ((takeN_some ht).2.2.1 f hf).1) (by omega) hc3 fun S4 m4 hc4 => ?_
      have e : ((N : Int)).toNat = N := by omega
      refine hY S4 ρ2 h _ l u (m1.trans ((M.mono fun x hx => ?_).trans m4)) (by rw [e]; exact hc4) (by rw [e, hll]; exact ht) (by rw [hll])
      unfold R345 at hx; show x < 110; omega
    · exfalso
      rcases hN with h | h
      · exact absurd h.1 (show ¬ (0:Int) ≤ -1 by decide)
      · have := takeN_none.1 h
        have hc : count (fun f => ! (cst0 form N).used f) N = N := by
          show count (fun f => ! false) N = N
          unfold count
          have : (List.range N).filter (fun f => ! false) = List.range N := by simp
          rw [this]; simp
        rw [show (cst0 form N).N = N from rfl, hc] at this
        omega
  by_cases h5 : form ≠ 1
  · rw [if_pos h5, if_neg (by omega)]; exact key
  · rw [if_neg h5]; exact key
theorem rel_new {form frames region : Int} (hb : ¬ badNew form frames region) {l : List Nat} {u : Nat → Bool} (h : takeN frames.toNat l.length (fun _ => false) = some (l, u)) (hl : (l.length : Int) = region) : Rel (cstN form frames.toNat l u) (W0 (frames - region)) fun _ _ => 0 := by
  unfold badNew at hb
  have := rel_cstN (φ := fun _ _ => 0) (by omega : form = 1 ∨ form = 2) (by omega : frames.toNat ≤ 512) h
  have e : ((frames.toNat : Nat) : Int) - l.length = frames - region := by omega
  rwa [e] at this
end
end Go.Proofs.YtabdpmnhjlmnlaaGreatDoor
namespace Go.Cr
end Go.Cr
end
section
namespace Go.Proofs.YtabdpmnhjlmnlaaGreatDoor
open Go Go.Pt
attribute [local irreducible] Code.wp Back bodyPost wpList FR WL WC WQ WA AW Tr Yc HC AllC
set_option maxRecDepth 20000
set_option maxHeartbeats 4000000
set_option linter.unusedVariables false
def b_hermitcrablaw16_awake (S : Mem) (Q : Bool → Mem → Prop) : Prop :=
 crab_New S 1 40 4 fun t t_1 Sx =>
 jn (fun (Sx_1 : Mem) =>
 al Sx_1 5 ([.int .u8 65, .int .u8 0, .int .u8 64, .int .u8 4, .int .u8 0, .int .u8 0, .int .u8 0, .int .u8 80]) fun b Sx_2 =>
 fz Sx_2 b fun Sx_3 =>
 crab_Crab_Create Sx_3 t 1 4 1 (⟨some (b, 0), 8, 8⟩) fun t_2 t_3 Sx_4 =>
 crab_Crab_Run Sx_4 t t_2 0 fun t_4 Sx_5 =>
 crab_Crab_Run Sx_5 t t_2 0 fun t_5 Sx_6 =>
 crab_Crab_Events Sx_6 t t_2 fun t_6 Sx_7 =>
 if t_3 = 0 then
 if (t_6.n : Int) = 4 then
 sl t_6 fun b_1 o n n_1 =>
 (0 : Int) < (n : Nat) ∧
 gI (Sx_7.cell b_1 o) .u8 fun t_7 =>
 if t_7 = 1 then
 (1 : Int) < (n : Nat) ∧
 gI (Sx_7.cell b_1 (o + 4)) .u8 fun t_8 =>
 if t_8 = 1 then
 (2 : Int) < (n : Nat) ∧
 gA (Sx_7.part b_1 (o + 8) 4) fun t_9 =>
 fits [.i .u8, .i .i64, .i .u64, .i .u64] t_9 = true ∧
 if (eqL t_9 ([.int .u8 3, .int .i64 0, .int .u64 65, .int .u64 0])) = true then
 (3 : Int) < (n : Nat) ∧
 gA (Sx_7.part b_1 (o + 12) 4) fun t_10 =>
 fits [.i .u8, .i .i64, .i .u64, .i .u64] t_10 = true ∧
 Q (eqL t_10 ([.int .u8 2, .int .i64 0, .int .u64 0, .int .u64 0])) Sx_7
 else
 Q false Sx_7
 else
 Q false Sx_7
 else
 Q false Sx_7
 else
 Q false Sx_7
 else
 Q false Sx_7) fun Jx =>
 if t_1 ≠ 0 then
 Q false Sx
 else
 if t = none then
 Q false Sx
 else
 Jx Sx
theorem t_hermitcrablaw16_awake {S : Mem} {Q : Bool → Mem → Prop} (H : b_hermitcrablaw16_awake S Q) : hermitcrablaw16_awake S Q := by
 unfold b_hermitcrablaw16_awake at H
 exact Tr.intro Tryz.func27 E Tryz.ntmps27 E fun w0 => csr<|gv E E<|nxr<|s_k2 E E H fun t t_1 Sx H1 => mv E E<|s_p E (y_extract E E)<|s_p E (y_extract E E)<|gv E E<|gv E E<|nx<|c_join2 H1 (fun (J : Mem → Prop) (z : Unit) S => J S) (fun z => ⟨67, [(1, eP t)]⟩) (fun z => []) (fun _ Sx_1 H2 => csr<|mv E E<|s_bs E E (by decide) E fun b => s_pub 0 E fun hb => have H3 := H2 b hb; s_fz E E H3 fun Sx_3 H4 => s_k2 E E H4 fun t_2 t_3 Sx_4 H5 => mv E E<|s_p E (y_extract E E)<|s_p E (y_extract E E)<|gv E E<|gv E E<|nxr<|mv E E<|mv E E<|s_k1 E E H5 fun t_4 Sx_5 H6 => nxr<|mv E E<|mv E E<|s_k1 E E H6 fun t_5 Sx_6 H7 => nxr<|mv E E<|mv E E<|s_k1 E E H7 fun t_6 Sx_7 H8 => gv E E<|nx<|by exact csr<|mv E E<|iteK H8 (fun c H9 => ceT E E E (c)<|mv E E<|mv E E<|s_p E (y_len E)<|iteK H9 (fun c_1 H10 => ceT E E E (c_1)<|pk E E E<|mv E E<|mv E E<|by obtain ⟨b_1, o, n, n_1, rfl, H11⟩ := H10; exact an H11 fun c_3 H12 => s_p E (y_ixL E E (by decide) c_3 E)<|s_p E (y_fa E E)<|gx H12 fun t_7 ht_7 H13 => s_v E (y_ld E) (hc_S ht_7)<|iteK H13 (fun c_4 H14 => ceT E E E (c_4)<|pk E E E<|mv E E<|mv E E<|an H14 fun c_6 H15 => s_p E (y_ixL E E (by decide) c_6 E)<|s_p E (y_fa E E)<|gx H15 fun t_8 ht_8 H16 => s_v E (y_ld E) (hc_S ht_8)<|iteK H16 (fun c_7 H17 => ceT E E E (c_7)<|pk E E E<|mv E E<|mv E E<|an H17 fun c_9 H18 => s_p E (y_ixL E E (by decide) c_9 E)<|gx H18 fun t_9 ht_9 H19 => by refine s_v E (y_ldA E (part_len ht_9)) (hc_SP ht_9) ?_; exact s_p E (y_build E E)<|by exact an H19 fun c_10 H20 => iteK H20 (fun c_12 H21 => s_p E (yB (y_eqA E E c_10 E) c_12)<|pk E E E<|mv E E<|mv E E<|an H21 fun c_14 H22 => s_p E (y_ixL E E (by decide) c_14 E)<|gx H22 fun t_10 ht_10 H23 => by refine s_v E (y_ldA E (part_len ht_10)) (hc_SP ht_10) ?_; exact s_p E (y_build E E)<|by exact an H23 fun c_15 H24 => s_p E (y_eqA E E c_15 E)<|pk E E E<|gv E E<|nx<|c_ret<|q_ret Tryz.results27 (rv_tmp E rv_nil) ⟨_, E, H24⟩) fun c_12 H21 => s_p E (yB (y_eqA E E c_10 E) (bf_of c_12))<|pk E E E<|mv E E<|sk4 E E E E<|s_skip E<|pk E E E<|gv E E<|nx<|c_ret<|q_ret Tryz.results27 (rv_tmp E rv_nil) ⟨_, E, H21⟩) fun c_7 H17 => ceF E E E (c_7)<|pk E E E<|mv E E<|sk4 E E E E<|s_skip E<|pk E E E<|mv E E<|sk4 E E E E<|s_skip E<|pk E E E<|gv E E<|nx<|c_ret<|q_ret Tryz.results27 (rv_tmp E rv_nil) ⟨_, E, H17⟩) fun c_4 H14 => ceF E E E (c_4)<|pk E E E<|mv E E<|sk4 E E E E<|s_skip E<|pk E E E<|mv E E<|sk4 E E E E<|s_skip E<|pk E E E<|mv E E<|sk4 E E E E<|s_skip E<|pk E E E<|gv E E<|nx<|c_ret<|q_ret Tryz.results27 (rv_tmp E rv_nil) ⟨_, E, H14⟩) fun c_1 H10 => ceF E E E (c_1)<|pk E E E<|mv E E<|sk4 E E E E<|s_skip E<|pk E E E<|mv E E<|sk4 E E E E<|s_skip E<|pk E E E<|mv E E<|sk4 E E E E<|s_skip E<|pk E E E<|mv E E<|sk4 E E E E<|s_skip E<|pk E E E<|gv E E<|nx<|c_ret<|q_ret Tryz.results27 (rv_tmp E rv_nil) ⟨_, E, H10⟩) fun c H9 => ceF E E E (c)<|mv E E<|sk2 E E<|s_skip E<|pk E E E<|mv E E<|sk4 E E E E<|s_skip E<|pk E E E<|mv E E<|sk4 E E E E<|s_skip E<|pk E E E<|mv E E<|sk4 E E E E<|s_skip E<|pk E E E<|mv E E<|sk4 E E E E<|s_skip E<|pk E E E<|gv E E<|nx<|c_ret<|q_ret Tryz.results27 (rv_tmp E rv_nil) ⟨_, E, H9⟩) (fun Jx hJx H25 => csr<|mv E E<|iteK H25 (fun c_17 H26 => s_p E (yT (y_neq E E) c_17)<|mv E E<|sk2 E E<|pk E E E<|nx<|c_t E E<|csr<|gv E E<|nx<|c_ret<|q_then_ret<|q_ret Tryz.results27 (rv_tmp E rv_nil) ⟨_, E, H26⟩) fun c_17 H26 => s_p E (yF (y_neq E E) c_17)<|mv E E<|mv E E<|iteK H26 (fun c_18 H27 => s_p E (yT (y_pnil (p := t) E E) c_18)<|pk E E E<|nx<|c_t E E<|csr<|gv E E<|nx<|c_ret<|q_then_ret<|q_ret Tryz.results27 (rv_tmp E rv_nil) ⟨_, E, H27⟩) fun c_18 H27 => s_p E (yF (y_pnil (p := t) E E) c_18)<|pk E E E<|nx<|cfs E E<|hJx () _ _ _ _ [] H27 E ⟨E, True.intro⟩ E)
end Go.Proofs.YtabdpmnhjlmnlaaGreatDoor
end
section
namespace Go.Cr
open Go Go.Pt
def awImg : List Int := [65, 0, 64, 4, 0, 0, 0, 80]
def awW1 : Wd := ((W0 36).create 1 4 1 awImg).2.2
def awW2 : Wd := (awW1.run 0 0).2
def awW3 : Wd := (awW2.run 0 0).2
def Evt.q (e : Evt) : Int × Int × Int × Int := (e.kind, e.seat, e.a, e.b)
theorem Evt.of_q {e : Evt} {k s a b : Int} (h : e.q = (k, s, a, b)) : e = ⟨k, s, a, b⟩ := by
  obtain ⟨_, _, _, _⟩ := e
  simp only [Evt.q, Prod.mk.injEq] at h
  obtain ⟨rfl, rfl, rfl, rfl⟩ := h; rfl
theorem aw_len : (awW3.ev 0).length = 4 := by decide +kernel
theorem aw_1 : ((awW3.ev 0).getD 0 ⟨0, 0, 0, 0⟩).kind = 1 := by decide +kernel
theorem aw_2 : ((awW3.ev 0).getD 1 ⟨0, 0, 0, 0⟩).kind = 1 := by decide +kernel
theorem aw_3 : ((awW3.ev 0).getD 2 ⟨0, 0, 0, 0⟩).q = (3, 0, 65, 0) := by decide +kernel
theorem aw_4 : ((awW3.ev 0).getD 3 ⟨0, 0, 0, 0⟩).q = (2, 0, 0, 0) := by decide +kernel
theorem aw_c : ((W0 36).create 1 4 1 awImg).1 = 0 ∧ ((W0 36).create 1 4 1 awImg).2.1 = 0 := by decide +kernel
theorem aw_ev : ∃ e1 e2 : Evt, e1.kind = 1 ∧ e2.kind = 1 ∧ awW3.ev 0 = [e1, e2, ⟨3, 0, 65, 0⟩, ⟨2, 0, 0, 0⟩] := by
  have h1 := aw_1
  have h2 := aw_2
  have h3 := aw_3
  have h4 := aw_4
  have h0 := aw_len
  match h : awW3.ev 0, h0 with
  | [a, b, c, d], _ =>
    rw [h] at h1 h2 h3 h4
    have e3 : c = _ := Evt.of_q h3
    have e4 : d = _ := Evt.of_q h4
    exact ⟨a, b, h1, h2, by rw [e3, e4]⟩
end Go.Cr
end
section
namespace Go.Cr
open Go Go.Pt
def Wd.evB (W : Wd) (m : Nat) : Prop := ∀ i, (W.ev i).length ≤ m
section
variable {W : Wd} {m : Nat}
theorem Wd.evB.mono (h : W.evB m) {k : Nat} (hk : m ≤ k) : W.evB k := fun i => Nat.le_trans (h i) hk
theorem Wd.evB.of {W' : Wd} (h : W.evB m) (e : W'.ev = W.ev) : W'.evB m := fun i => by rw [e]; exact h i
theorem evB_W0 {f : Int} : (W0 f).evB 0 := fun _ => Nat.le_refl 0
theorem Wd.evB.tell (h : W.evB m) {n : Nat} {e : Evt} : (W.tell n e).evB (m + 1) := fun i => by
  unfold Wd.tell
  show (upd W.ev n (W.ev n ++ [e]) i).length ≤ m + 1
  by_cases ei : i = n
  · subst ei; rw [upd_at, List.length_append]; have := h i; simp; omega
  · rw [upd_of ei]; have := h i; omega
theorem raise_ev {n k i : Nat} : (W.raise n k i).2.ev = W.ev := by unfold Wd.raise; split <;> rfl
theorem ring_ev {n : Nat} {a b : Int} : (W.ring n a b).2.ev = W.ev := by
  unfold Wd.ring; split
  · rfl
  · split
    · rfl
    · exact raise_ev
theorem nextKey_ev {n : Nat} : (W.nextKey n).2.2.ev = W.ev := by unfold Wd.nextKey; split <;> rfl
theorem offer_ev {n : Nat} {p to : Int} {w : Bool} : (W.offer n p to w).2.2.ev = W.ev := by
  unfold Wd.offer; split
  · rfl
  · split
    · rfl
    · split
      · rfl
      · split <;> rfl
theorem lease_ev {n : Nat} {c i p : Int} : (W.lease n c i p).2.ev = W.ev := by
  unfold Wd.lease; split
  · rfl
  · split
    · rfl
    · split
      · split <;> rfl
      · split
        · rfl
        · split
          · rfl
          · split
            · rfl
            · split <;> rfl
theorem give_ev {n : Nat} {p : Int} : (W.give n p).2.ev = W.ev := by
  unfold Wd.give; split
  · rfl
  · split <;> rfl
theorem get_ev {n : Nat} {p : Int} : (W.get n p).2.ev = W.ev := by
  unfold Wd.get; split
  · rfl
  · split
    · rfl
    · split
      · rfl
      · split <;> rfl
theorem load_ev {n : Nat} {s p : Int} : (W.load n s p).2.ev = W.ev := by
  unfold Wd.load; split
  · rfl
  · split
    · rfl
    · split <;> rfl
theorem save_ev {n : Nat} {s p : Int} : (W.save n s p).2.ev = W.ev := by
  unfold Wd.save; split
  · rfl
  · split
    · rfl
    · split <;> rfl
theorem ite_ind {α : Type} {P : α → Prop} {c : Prop} [Decidable c] {a b : α} (h1 : c → P a) (h2 : ¬ c → P b) : P (if c then a else b) := by
  by_cases h : c
  · rw [if_pos h]; exact h1 h
  · rw [if_neg h]; exact h2 h
theorem Wd.evB.call (h : W.evB m) {n k : Nat} {c w1 w2 w3 : Int} : (W.call n k c w1 w2 w3).2.2.evB (m + 1) := by
  have h1 := h.mono (Nat.le_succ m)
  unfold Wd.call
  refine ite_ind (P := fun r : Int × Int × Wd => r.2.2.evB (m + 1)) (fun _ => h.tell) fun _ => ?_
  refine ite_ind (P := fun r : Int × Int × Wd => r.2.2.evB (m + 1)) (fun _ => h1.of nextKey_ev) fun _ => ?_
  refine ite_ind (P := fun r : Int × Int × Wd => r.2.2.evB (m + 1)) (fun _ => h1.of ring_ev) fun _ => ?_
  refine ite_ind (P := fun r : Int × Int × Wd => r.2.2.evB (m + 1)) (fun _ => h1) fun _ => ?_
  refine ite_ind (P := fun r : Int × Int × Wd => r.2.2.evB (m + 1)) (fun _ => h1.of offer_ev) fun _ => ?_
  refine ite_ind (P := fun r : Int × Int × Wd => r.2.2.evB (m + 1)) (fun _ => h1.of lease_ev) fun _ => ?_
  refine ite_ind (P := fun r : Int × Int × Wd => r.2.2.evB (m + 1)) (fun _ => h1.of give_ev) fun _ => ?_
  refine ite_ind (P := fun r : Int × Int × Wd => r.2.2.evB (m + 1)) (fun _ => h1.of get_ev) fun _ => ?_
  refine ite_ind (P := fun r : Int × Int × Wd => r.2.2.evB (m + 1)) (fun _ => h1.of load_ev) fun _ => ?_
  refine ite_ind (P := fun r : Int × Int × Wd => r.2.2.evB (m + 1)) (fun _ => h1.of save_ev) fun _ => ?_
  refine ite_ind (P := fun r : Int × Int × Wd => r.2.2.evB (m + 1)) (fun _ => h1) fun _ => ?_
  refine ite_ind (P := fun r : Int × Int × Wd => r.2.2.evB (m + 1)) (fun _ => h1.of (W' := W.setV n _) rfl) fun _ => ?_
  exact h1
theorem Wd.evB.run (h : W.evB m) {n k : Int} : (W.run n k).2.evB (m + 3) := by
  unfold Wd.run
  by_cases h1 : ¬ W.there n ∨ k < 0 ∨ (W.vm n.toNat).seats.length ≤ k
  · rw [if_pos h1]; exact h.mono (by omega)
  rw [if_neg h1]
  dsimp only
  generalize stepM ((W.vm n.toNat).seat k.toNat) (W.gm n.toNat) (W.time n.toNat) k = o
  by_cases h2 : o.k = 5
  · rw [if_pos h2]; exact h.mono (by omega)
  rw [if_neg h2]
  have h3 : (((W.setDat o.g.dat).putSeat n.toNat k.toNat o.s).tell n.toNat (told o.k o.n k ((W.vm n.toNat).seat k.toNat).pc o.s)).evB (m + 1) := (h.of (W' := (W.setDat o.g.dat).putSeat n.toNat k.toNat o.s) rfl).tell
  split
  · unfold Wd.hyper
    dsimp only
    exact Wd.evB.tell (m := m + 2) (Wd.evB.of (h3.call (n := n.toNat) (k := k.toNat) (c := o.n)) rfl)
  · exact h3.mono (by omega)
theorem Wd.evB.create (h : W.evB m) {s q p : Int} {img : List Int} : (W.create s q p img).2.2.evB m := by
  unfold Wd.create
  split
  · exact h
  split
  · exact h
  split
  · exact h
  split
  · exact h
  · rename_i n _ _
    intro i
    show (upd W.ev n [] i).length ≤ m
    by_cases e : i = n
    · rw [e, upd_at]; exact Nat.zero_le _
    · rw [upd_of e]; exact h i
theorem Wd.evB.key (h : W.evB m) {n b : Int} : (W.key n b).2.evB m := by
  unfold Wd.key
  split
  · exact h
  split
  · exact h
  · exact h.of raise_ev
def Wd.runs (W : Wd) (n k : Int) : Nat → Wd
  | 0 => W
  | j + 1 => ((W.runs n k j).run n k).2
theorem Wd.evB.runs (h : W.evB m) {n k : Int} : ∀ {j : Nat}, (W.runs n k j).evB (m + 3 * j)
  | 0 => h
  | j + 1 => (Wd.evB.run (h.runs (j := j))).mono (by omega)
end
end Go.Cr
end
section
namespace Go.Proofs.YtabdpmnhjlmnlaaGreatDoor
open Go Go.Pt Go.Cr Go.Hp
def Lv (S0 : Mem) (ρ0 : Rho) (h : Nat) (S : Mem) (W : Wd) : Prop := ∃ ρ A C φ, Mv S0 ρ0 S ρ Rc ∧ CrabA S ρ h A C ∧ Rel C W φ
def rho0 : Rho := fun _ => none
section
variable {S S' S0 : Mem} {ρ ρ' ρ0 : Rho} {R : Nat → Prop} {h : Nat} {A : Ad} {C : Cst} {W : Wd} {φ : Nat → Nat → Nat}
theorem rg0 {S : Mem} : ∀ b r, rho0 b = some r → S b ≠ none := fun b r h => by cases h
theorem mv_keeps0 (m : Mv S rho0 S' ρ R) : Keeps S S' [] := fun b hb _ => m.kp b hb fun r e => by cases e
theorem Lv.keeps (l : Lv S rho0 h S' W) : Keeps S S' [] := by
  obtain ⟨ρ, A, C, φ, m, _⟩ := l
  exact mv_keeps0 m
theorem After.lv {W' : Wd} (m : Mv S0 ρ0 S ρ Rc) (hA : After h A C S ρ W' S') : Lv S0 ρ0 h S' W' := by
  obtain ⟨ρ', A', C', φ', m', hc, hr, _⟩ := hA
  exact ⟨ρ', A', C', φ', m.trans m', hc, hr⟩
theorem Aft.lv {W' : Wd} (m : Mv S0 ρ0 S ρ Rc) (hA : Aft h C S ρ W' S') : Lv S0 ρ0 h S' W' := by
  obtain ⟨ρ', A', C', φ', m', hc, hr, _⟩ := hA
  exact ⟨ρ', A', C', φ', m.trans m', hc, hr⟩
theorem Lv.on (l : Lv S0 ρ0 h S W) (hk : Keeps S S' []) : Lv S0 ρ0 h S' W := by
  obtain ⟨ρ, A, C, φ, m, hc, hr⟩ := l
  exact ⟨ρ, A, C, φ, m.then hk, hc.keeps hk, hr⟩
theorem new_L (hgl : Gl S) {form frames region : Int} {Q : Pt → Int → Mem → Prop} (hE : badNew form frames region → Q none 1 S)
    (hY : ¬ badNew form frames region → ∀ S' h, Lv S rho0 h S' (W0 (frames - region)) → Q (some (h, 0)) 0 S') : crab_New S form frames region Q :=
  new_spec rg0 rfl hgl hE fun hb S' ρ' h A l u m hc ht hl => hY hb S' h ⟨ρ', A, _, _, m, hc, rel_new hb ht hl⟩
theorem run_L (l : Lv S0 ρ0 h S W) {e : Nat} (he : W.evB e) (hel : e ≤ 800000000) {n k : Int} {Q : Int → Mem → Prop} (hQ : ∀ S', Lv S0 ρ0 h S' (W.run n k).2 → Q (W.run n k).1 S') : crab_Crab_Run S (some (h, 0)) n k Q := by
  obtain ⟨ρ, A, C, φ, m, hc, hr⟩ := l
  exact crun_spec hc hr (fun i => Nat.le_trans (he i) hel) fun S' hA => hQ S' (hA.lv m)
theorem events_L (l : Lv S0 ρ0 h S W) {n : Nat} (hn : n < 6) {e : Nat} (he : W.evB e) (hel : e ≤ 800000000) {Q : Sl → Mem → Prop}
    (hQ : ∀ t S', Keeps S S' [] → Row S' 4 t ((W.ev n).flatMap evL) → (∀ b o, t.p = some (b, o) → S b = none) → Q t S') : crab_Crab_Events S (some (h, 0)) n Q := by
  obtain ⟨ρ, A, C, φ, m, hc, hr⟩ := l
  rw [← hr.ev] at hQ
  exact events_spec hc hn (by rw [hr.ev]; have := he n; omega) hQ
theorem img_new {b : Nat} (hb : S b = none) (hg : ∀ b r, ρ b = some r → S b ≠ none) {k : Blk} {xs : List Int} (hk : k.cs = bL xs) (hf : lpart k.cs 0 xs.length = some (bL xs)) (hx : Byt xs) {c : Nat} (hS : S' b = some k) (hc : xs.length ≤ c) (hp : S'.part b 0 xs.length = some (bL xs)) : ImgAt S' ρ ⟨some (b, 0), xs.length, c⟩ xs :=
  ⟨rfl, hc, hx, .inr ⟨b, 0, rfl, hp, by
    cases e : ρ b with
    | none => rfl
    | some r => exact absurd hb (hg b r e), by rw [hS]; simp⟩⟩
theorem fm_get {α : Type} {f : α → List Value} {w : Nat} (h : ∀ a, (f a).length = w) {l : List α} {j k : Nat} (hj : j < l.length) (hk : k < w) : nthL (l.flatMap f) (j * w + k) = nthL (f l[j]) k := by
  obtain ⟨e1, e2⟩ := fm_split h hj
  rw [e1, nthL_skip e2, nthL_left (by rw [h]; exact hk)]
theorem row_get {S : Mem} {t : Sl} {l : List Evt} (h : Row S 4 t (l.flatMap evL)) (h0 : l ≠ []) : t.n = l.length ∧ ∃ b, t = ⟨some (b, 0), t.n, t.c⟩ ∧ (∀ i j x, (hi : i < l.length) → j < 4 → x = i * 4 + j → S.cell b x = nthL (evL l[i]) j) ∧ ∀ i x, (hi : i < l.length) → x = i * 4 → S.part b x 4 = some (evL l[i]) := by
  have hlen : (l.flatMap evL).length = l.length * 4 := fm_len ev_len l
  have hpos : 0 < l.length := List.length_pos_iff.2 h0
  have hw : Rw S (fun _ => some 0) 0 4 t (l.flatMap evL) := ⟨h, fun _ _ _ => rfl⟩
  refine ⟨hw.n (by decide) hlen, ?_⟩
  obtain ⟨b, e1, e2⟩ := hw.sl (by omega)
  refine ⟨b, e1, fun i j x hi hj hx => ?_, fun i x hi hx => ?_⟩
  · rw [hw.cell e2 (i * 4 + j) (by omega) hx, fm_get ev_len hi hj]
  · rw [hw.part e2 (i * 4) (by omega) hx, fm_part ev_len hi]
theorem byt_aw : Byt awImg := fun x hx => by
  simp only [awImg, List.mem_cons, List.not_mem_nil, or_false] at hx
  omega
theorem awake_spec (hgl : Gl S) {Q : Bool → Mem → Prop} (hQ : ∀ S', Keeps S S' [] → Q true S') : hermitcrablaw16_awake S Q := by
  apply t_hermitcrablaw16_awake
  unfold b_hermitcrablaw16_awake
  refine new_L hgl (fun h => absurd h (by decide)) fun _ S1 h l1 => ?_
  simp only [jn]
  rw [if_neg (by decide), if_neg (by simp)]
  obtain ⟨ρ, A, C, φ, m1, hc1, hr1⟩ := l1
  intro b hb
  refine ⟨_, set_same, rfl, ?_⟩
  have hk : Keeps S1 ((S1.set b (bw 5 [.int .u8 65, .int .u8 0, .int .u8 64, .int .u8 4, .int .u8 0, .int .u8 0, .int .u8 0, .int .u8 80])).set b ⟨5, [.int .u8 65, .int .u8 0, .int .u8 64, .int .u8 4, .int .u8 0, .int .u8 0, .int .u8 0, .int .u8 80], (8, 9)⟩) [] := fun x hx _ => by
    have : x ≠ b := fun e => hx (e ▸ hb)
    rw [set_ne this, set_ne this]
  have hc2 := hc1.keeps hk
  refine create_spec (xs := awImg) hc2 hr1 (img_new hb hc1.rg (k := ⟨5, bL awImg, (8, 9)⟩) rfl rfl byt_aw set_same (by decide) (by rw [part_of set_same]; rfl)) (by decide) fun S2 hA => ?_
  have l2 := hA.lv (m1.then hk)
  have ec : ((W0 (40 - 4)).create 1 4 1 awImg).1 = 0 ∧ ((W0 (40 - 4)).create 1 4 1 awImg).2.1 = 0 := aw_c
  rw [ec.1, ec.2]
  have e1 : awW1.evB 0 := evB_W0.create
  refine run_L l2 e1 (by decide) fun S3 l3 => ?_
  refine run_L l3 e1.run (by decide) fun S4 l4 => ?_
  obtain ⟨x1, x2, h1, h2, he⟩ := aw_ev
  refine events_L (n := 0) l4 (by decide) e1.run.run (by decide) fun t S5 hk5 hrow _ => ?_
  have hrow' : Row S5 4 t ([x1, x2, ⟨3, 0, 65, 0⟩, ⟨2, 0, 0, 0⟩].flatMap evL) := by
    rw [← he]; exact hrow
  obtain ⟨hn, c, ht, hcell, hpart⟩ := row_get hrow' (by simp)
  have hn4 : t.n = 4 := hn
  rw [if_pos rfl, if_pos (by omega), ht, sl_i]
  refine ⟨by omega, ?_⟩
  rw [gI_i (hcell 0 0 _ (by simp) (by decide) rfl)]
  rw [List.getElem_cons_zero, if_pos h1]
  refine ⟨by omega, ?_⟩
  rw [gI_i (hcell 1 0 _ (by simp) (by decide) rfl)]
  rw [show [x1, x2, (⟨3, 0, 65, 0⟩ : Evt), ⟨2, 0, 0, 0⟩][1] = x2 from rfl, if_pos h2]
  refine ⟨by omega, ?_⟩
  rw [gA_i (hpart 2 _ (by simp) rfl)]
  refine ⟨rfl, ?_⟩
  rw [if_pos (by rfl)]
  refine ⟨by omega, ?_⟩
  rw [gA_i (hpart 3 _ (by simp) rfl)]
  exact ⟨rfl, hQ _ (l4.keeps.trans hk5)⟩
end
end Go.Proofs.YtabdpmnhjlmnlaaGreatDoor
end
section
namespace Go.Cr
open Go Go.Pt
structure One (W : Wd) (n : Nat) (s : Seat) : Prop where
  lt : n < 6
  on : (W.vm n).on = true
  seats : (W.vm n).seats = [s]
def Wd.done (W : Wd) (n : Nat) (s s' : Seat) (k c : Int) : Wd := (W.putSeat n 0 s').tell n (told k c 0 s.pc s')
section
variable {W : Wd} {n : Nat} {s s' : Seat} {g : GM} {k c : Int}
theorem One.seat (h : One W n s) : (W.vm n).seat 0 = s := by unfold Bv.seat; rw [h.seats]; rfl
theorem One.run (h : One W n s) (ho : stepM s (W.gm n) (W.time n) 0 = ⟨s', k, c, g⟩) (h5 : k ≠ 5) : W.run n 0 = (0, if k = 2 then ((W.setDat g.dat).done n s s' k c).hyper n 0 c s' else (W.setDat g.dat).done n s s' k c) := by
  have ht : W.there (n : Int) := ⟨by omega, by have := h.lt; omega, by rw [Int.toNat_natCast]; exact h.on⟩
  unfold Wd.run
  rw [Int.toNat_natCast, if_neg (by
    rintro (h1 | h1 | h1)
    · exact h1 ht
    · omega
    · rw [h.seats] at h1; simp at h1)]
  dsimp only
  rw [show (0 : Int).toNat = 0 from rfl, h.seat, ho]
  dsimp only
  rw [if_neg h5]
  rfl
theorem done_vm (m : Nat) : (W.done n s s' k c).vm m = if m = n then (W.vm n).setSeat 0 s' else W.vm m := by
  show upd W.vm n _ m = _
  unfold upd; rfl
theorem One.done (h : One W n s) : One (W.done n s s' k c) n s' := by
  refine ⟨h.lt, ?_, ?_⟩
  · rw [done_vm, if_pos rfl]; exact h.on
  · rw [done_vm, if_pos rfl]
    show (W.vm n).seats.set 0 s' = [s']
    rw [h.seats]; rfl
theorem done_keys : ((W.done n s s' k c).vm n).keys = (W.vm n).keys := by rw [done_vm, if_pos rfl]; rfl
theorem done_ev : (W.done n s s' k c).ev n = W.ev n ++ [told k c 0 s.pc s'] := upd_at
theorem done_own : (W.done n s s' k c).own = W.own := rfl
theorem step_of {time me w : Int} (h0 : s.st = 0) (ho : s.opn = false) (hb : s.base = 0) {pc : Nat} (hpc : s.pc = pc) (hp : pc % 4 = 0) (hlt : pc < 256) {f : Nat} {b : Bool} (hm : g.map 0 = some (f, b)) {page : List Int} (hd : g.dat f = page) (hw : num ((page.drop pc).take 4) = w) (hi : isW w) : stepM s g time me = doM s g time me (dK w) (dA w) (dB w) (dC w) (dN w) := by
  unfold stepM
  rw [if_neg (by rw [h0]; simp)]
  have hn : nextL s = none := by unfold nextL; rw [if_neg (by rw [ho]; simp)]
  have hg : getW s g s.pc 4 = some w := by
    unfold getW place
    rw [if_neg (by omega), if_pos hb]
    dsimp only
    rw [if_neg (by omega)]
    unfold ldB
    rw [show (s.pc / 256).toNat = 0 by omega, show (s.pc % 256).toNat = pc by omega, hm]
    simp only [Option.map_some, hd, hw]
  rw [hn, hg]
  dsimp only
  rw [if_pos hi]
end
section
variable {s : Seat} {g : GM} {t me a b c n : Int}
theorem doM1 : doM s g t me 1 a b c n = ⟨{ s.setr a (x64 n) with pc := x64 (s.pc + 4) }, 0, 0, g⟩ := rfl
theorem doM14 : doM s g t me 14 a b c n = ⟨{ s with pc := if s.r a = s.r b then x64 (s.pc + x64 (4 * x64 n)) else x64 (s.pc + 4) }, 0, 0, g⟩ := rfl
theorem doM20 : doM s g t me 20 a b c n = ⟨{ s with pc := x64 (s.pc + 4) }, 2, x64 n, g⟩ := rfl
theorem doM12 : doM s g t me 12 a b c n = match getW s g (x64 (s.r b + x64 n)) 8 with
    | some v => ⟨{ s.setr a v with pc := x64 (s.pc + 4) }, 0, 0, g⟩
    | none => trapM s g 3 (x64 (s.r b + x64 n)) := rfl
theorem doM13 : doM s g t me 13 a b c n = match putW s g (x64 (s.r b + x64 n)) (s.r a) with
    | some g' => ⟨{ s with pc := x64 (s.pc + 4) }, 0, 0, g'⟩
    | none => trapM s g 4 (x64 (s.r b + x64 n)) := rfl
end
def Wd.ans (W : Wd) (n : Nat) (c e v : Int) : Wd := (W.putSeat n 0 (((W.vm n).seat 0).answer e v)).tell n ⟨2, 0, ior .u64 (x64 (c * 256)) e, v⟩
section
variable {W W' : Wd} {n : Nat} {s : Seat} {c e v : Int}
theorem hyper_eq (h : W.call n 0 c (s.r 1) (s.r 2) (s.r 3) = (v, e, W')) : W.hyper n 0 c s = W'.ans n c e v := by
  unfold Wd.hyper
  rw [h]; rfl
theorem ans_vm (m : Nat) : (W.ans n c e v).vm m = if m = n then (W.vm n).setSeat 0 (((W.vm n).seat 0).answer e v) else W.vm m := by
  show upd W.vm n _ m = _
  unfold upd; rfl
theorem One.ans (h : One W n s) : One (W.ans n c e v) n (s.answer e v) := by
  refine ⟨h.lt, ?_, ?_⟩
  · rw [ans_vm, if_pos rfl]; exact h.on
  · rw [ans_vm, if_pos rfl, h.seat]
    show (W.vm n).seats.set 0 _ = _
    rw [h.seats]; rfl
theorem ans_keys : ((W.ans n c e v).vm n).keys = (W.vm n).keys := by rw [ans_vm, if_pos rfl]; rfl
theorem ans_ev : (W.ans n c e v).ev n = W.ev n ++ [⟨2, 0, ior .u64 (x64 (c * 256)) e, v⟩] := upd_at
theorem ans_own : (W.ans n c e v).own = W.own := rfl
theorem gm_own {p : Nat} (hp : p < 32) {l : List Int} (h : W.own n p = some l) : (W.gm n).map p = some (32 * n + p, true) ∧ (W.gm n).dat (32 * n + p) = l := by
  constructor
  · show (if 32 ≤ p then none else (W.where_ n p).map fun q => (32 * q.1 + q.2.1, q.2.2)) = _
    rw [if_neg (by omega)]
    unfold Wd.where_
    rw [if_pos (by rw [h]; rfl)]; rfl
  · show (W.own ((32 * n + p) / 32) ((32 * n + p) % 32)).getD [] = l
    rw [show (32 * n + p) / 32 = n by omega, show (32 * n + p) % 32 = p by omega, h]; rfl
end
end Go.Cr
end
section
namespace Go.Cr
open Go Go.Pt
def keyImg : List Int := [8, 0, 0, 5, 1, 0, 0, 80, 255, 255, 168, 58]
structure KX (W : Wd) (pc : Nat) (l : List Int) : Prop where
  ex : ∃ s : Seat, One W 0 s ∧ s.st = 0 ∧ s.opn = false ∧ s.base = 0 ∧ s.pc = pc
  keys : (W.vm 0).keys = l
  own : W.own 0 0 = some (pageB keyImg 0)
theorem One.setV {W : Wd} {n : Nat} {s s' : Seat} (h : One W n s) {v : Bv} {b : Bool} (hb : b = true) (h1 : v.on = b) (h2 : v.seats = [s']) : One (W.setV n v) n s' := by
  subst hb
  refine ⟨h.lt, ?_, ?_⟩
  · show Bv.on (upd W.vm n v n) = true
    rw [upd_at]; exact h1
  · show Bv.seats (upd W.vm n v n) = [s']
    rw [upd_at]; exact h2
theorem isW_hvc : isW 1342177281 := by decide +kernel
theorem isW_beq : isW 984154111 := by decide +kernel
section
variable {W : Wd} {l : List Int}
theorem KX.done {pc : Nat} (h : KX W pc l) {s s' : Seat} (ho : One W 0 s) {pc' : Nat} (h1 : s'.st = 0) (h2 : s'.opn = false) (h3 : s'.base = 0) (h4 : s'.pc = pc') {k c : Int} : KX (W.done 0 s s' k c) pc' l :=
  ⟨⟨s', ho.done, h1, h2, h3, h4⟩, by rw [done_keys]; exact h.keys, by rw [done_own]; exact h.own⟩
theorem KX.hvc (hwk : WOk W) (h : KX W 4 l) : (W.run 0 0).1 = 0 ∧ KX (W.run 0 0).2 8 l.tail ∧ ∃ x, (W.run 0 0).2.ev 0 = W.ev 0 ++ [x, ⟨2, 0, if l = [] then 258 else 256, l.headD 0⟩] := by
  obtain ⟨s, ho, h1, h2, h3, h4⟩ := h.ex
  obtain ⟨g1, g2⟩ := gm_own (n := 0) (by decide) h.own
  have hst : stepM s (W.gm 0) (W.time 0) 0 = ⟨{ s with pc := 8 }, 2, 1, W.gm 0⟩ := by
    rw [step_of (w := 1342177281) h1 h2 h3 h4 (by decide) (by decide) g1 g2 (by decide +kernel) isW_hvc]
    have e1 : dK 1342177281 = 20 := by decide
    have e2 : dN 1342177281 = 1 := by decide
    rw [e1, e2, doM20, h4]; rfl
  have hr := ho.run hst (by decide)
  rw [show ((0 : Nat) : Int) = 0 from rfl, if_pos rfl] at hr
  rw [setDat_self fun m q l h => (hwk.pg m q l h).2.1] at hr
  rw [hr]
  have hd : KX (W.done 0 s { s with pc := 8 } 2 1) 8 l := h.done (s' := { s with pc := 8 }) ho h1 h2 h3 (pc' := 8) rfl
  have hdo : One (W.done 0 s { s with pc := 8 } 2 1) 0 { s with pc := 8 } := ho.done
  have hdk := hd.keys
  refine ⟨rfl, ?_⟩
  cases l with
  | nil =>
    have hcall : (W.done 0 s { s with pc := 8 } 2 1).call 0 0 1 (({ s with pc := 8 } : Seat).r 1) (({ s with pc := 8 } : Seat).r 2) (({ s with pc := 8 } : Seat).r 3) = (0, 2, W.done 0 s { s with pc := 8 } 2 1) := by
      show Wd.nextKey _ 0 = _
      unfold Wd.nextKey
      rw [hdk]
    rw [hyper_eq hcall]
    refine ⟨⟨⟨_, hdo.ans, h1, h2, h3, rfl⟩, by rw [ans_keys]; exact hdk, by rw [ans_own]; exact hd.own⟩, told 2 1 0 s.pc { s with pc := 8 }, ?_⟩
    rw [ans_ev, done_ev, List.append_assoc]; rfl
  | cons x l =>
    have hcall : (W.done 0 s { s with pc := 8 } 2 1).call 0 0 1 (({ s with pc := 8 } : Seat).r 1) (({ s with pc := 8 } : Seat).r 2) (({ s with pc := 8 } : Seat).r 3) = (x, 0, (W.done 0 s { s with pc := 8 } 2 1).setV 0 (((W.done 0 s { s with pc := 8 } 2 1).vm 0).setKeys l)) := by
      show Wd.nextKey _ 0 = _
      unfold Wd.nextKey
      rw [hdk]
    rw [hyper_eq hcall]
    have hdo2 : One ((W.done 0 s { s with pc := 8 } 2 1).setV 0 (((W.done 0 s { s with pc := 8 } 2 1).vm 0).setKeys l)) 0 { s with pc := 8 } := hdo.setV rfl hdo.on hdo.seats
    refine ⟨⟨⟨_, hdo2.ans, h1, h2, h3, rfl⟩, ?_, by rw [ans_own]; exact hd.own⟩, told 2 1 0 s.pc { s with pc := 8 }, ?_⟩
    · rw [ans_keys]
      show Bv.keys (upd (W.done 0 s { s with pc := 8 } 2 1).vm 0 (((W.done 0 s { s with pc := 8 } 2 1).vm 0).setKeys l) 0) = _
      rw [upd_at]; rfl
    · rw [ans_ev]
      show (W.done 0 s { s with pc := 8 } 2 1).ev 0 ++ _ = _
      rw [done_ev, List.append_assoc]; rfl
theorem KX.beq (hwk : WOk W) (h : KX W 8 l) : (W.run 0 0).1 = 0 ∧ KX (W.run 0 0).2 4 l ∧ ∃ x, (W.run 0 0).2.ev 0 = W.ev 0 ++ [x] := by
  obtain ⟨s, ho, h1, h2, h3, h4⟩ := h.ex
  obtain ⟨g1, g2⟩ := gm_own (n := 0) (by decide) h.own
  have hst : stepM s (W.gm 0) (W.time 0) 0 = ⟨{ s with pc := 4 }, 0, 0, W.gm 0⟩ := by
    rw [step_of (w := 984154111) h1 h2 h3 h4 (by decide) (by decide) g1 g2 (by decide +kernel) isW_beq]
    have e1 : dK 984154111 = 14 := by decide
    have e2 : dN 984154111 = -1 := by decide
    have e3 : dA 984154111 = dB 984154111 := by decide
    rw [e1, e2, e3, doM14, if_pos rfl, h4]; rfl
  have hr := ho.run hst (by decide)
  rw [show ((0 : Nat) : Int) = 0 from rfl, if_neg (by decide)] at hr
  rw [setDat_self fun m q l h => (hwk.pg m q l h).2.1] at hr
  rw [hr]
  exact ⟨rfl, h.done (s' := { s with pc := 4 }) ho h1 h2 h3 (pc' := 4) rfl, _, done_ev⟩
end
end Go.Cr
end
section
namespace Go.Cr
open Go Go.Pt
def le4 (w : Int) : List Int := [w % 256, w / 256 % 256, w / 65536 % 256, w / 16777216 % 256]
theorem le4_num {w : Int} (h : 0 ≤ w) (h2 : w < 4294967296) : num (le4 w) = w := by simp only [le4, num]; omega
def imgW (l : List Int) : List Int := l.flatMap le4
theorem imgW_len : ∀ l : List Int, (imgW l).length = 4 * l.length
  | [] => rfl
  | a :: l => by
    have := imgW_len l
    unfold imgW at this ⊢
    rw [List.flatMap_cons, List.length_append, this, List.length_cons]
    show 4 + _ = _
    omega
theorem imgW_byt {l : List Int} : Byt (imgW l) := fun x hx => by
  obtain ⟨w, _, h⟩ := List.mem_flatMap.1 hx
  simp only [le4, List.mem_cons, List.not_mem_nil, or_false] at h
  omega
theorem imgW_at : ∀ {l : List Int} {i : Nat} {w : Int}, l[i]? = some w → ((imgW l).drop (4 * i)).take 4 = le4 w
  | [], i, w, h => by simp at h
  | a :: l, 0, w, h => by
    simp only [List.getElem?_cons_zero, Option.some.injEq] at h
    subst h
    rfl
  | a :: l, i + 1, w, h => by
    rw [List.getElem?_cons_succ] at h
    have := imgW_at h
    rw [← this, show imgW (a :: l) = le4 a ++ imgW l from rfl, show 4 * (i + 1) = (le4 a).length + 4 * i by simp only [le4, List.length_cons, List.length_nil]; omega, List.drop_append]
    rw [List.drop_of_length_le (by omega), List.nil_append, show (le4 a).length + 4 * i - (le4 a).length = 4 * i by omega]
theorem pageW_at {l : List Int} (hl : l.length ≤ 64) {i : Nat} {w : Int} (h : l[i]? = some w) : ((pageB (imgW l) 0).drop (4 * i)).take 4 = le4 w := by
  have hi := (List.getElem?_eq_some_iff.1 h).1
  have hn := imgW_len l
  unfold pageB fit256
  have e : (imgW l).take 256 = imgW l := List.take_of_length_le (by omega)
  rw [Nat.mul_zero, List.drop_zero, e, List.drop_append_of_le_length (by omega), List.take_append_of_le_length (by rw [List.length_drop]; omega)]
  exact imgW_at h
theorem pageW_1 {l : List Int} (hl : l.length ≤ 64) : pageB (imgW l) 1 = noughts := by
  have hn := imgW_len l
  unfold pageB fit256
  rw [List.drop_of_length_le (by omega)]; rfl
theorem rtN {k a b c n : Int} (h : Rt k a b c 0) (hn : fN (cls k) = true) (hk : ¬ (k = 18 ∨ k = 19)) : Rt k a b c n := ⟨h.kk, h.aa, h.bb, h.cc, .inl hn, fun h => absurd h hk⟩
structure PX (W : Wd) (n : Nat) (ws : List Int) (s : Seat) : Prop where
  one : One W n s
  st : s.st = 0
  opn : s.opn = false
  base : s.base = 0
  own : W.own n 0 = some (pageB (imgW ws) 0)
  len : ws.length ≤ 64
section
variable {W : Wd} {n : Nat} {ws : List Int} {s s' : Seat} {g : GM} {i : Nat} {k a b c m x y : Int}
theorem PX.run (h : PX W n ws s) (hpc : s.pc = (4 * i : Nat)) (hi : ws[i]? = some (wrd k a b c m)) (hb : Bd k a b c m) (hr : Rt k a b c m)
    (hd : doM s (W.gm n) (W.time n) 0 k a b c m = ⟨s', x, y, g⟩) (h5 : x ≠ 5) : W.run n 0 = (0, if x = 2 then ((W.setDat g.dat).done n s s' x y).hyper n 0 y s' else (W.setDat g.dat).done n s s' x y) := by
  obtain ⟨w1, e1, e2, e3, e4, e5⟩ := wrd_is hb hr
  have hw := wrd_bd hb hr
  have hlt := (List.getElem?_eq_some_iff.1 hi).1
  have hlen := h.len
  obtain ⟨g1, g2⟩ := gm_own (n := n) (by decide) h.own
  refine h.one.run ?_ h5
  rw [step_of h.st h.opn h.base hpc (by omega) (by omega) g1 g2 (by rw [pageW_at h.len hi]; exact le4_num hw.1 (by omega)) w1, e1, e2, e3, e4, e5, hd]
theorem PX.plain (h : PX W n ws s) (hwk : WOk W) (hpc : s.pc = (4 * i : Nat)) (hi : ws[i]? = some (wrd k a b c m)) (hb : Bd k a b c m) (hr : Rt k a b c m)
    (hd : doM s (W.gm n) (W.time n) 0 k a b c m = ⟨s', 0, y, W.gm n⟩) : W.run n 0 = (0, W.done n s s' 0 y) := by
  rw [h.run hpc hi hb hr hd (by decide), if_neg (by decide), setDat_self fun m q l h => (hwk.pg m q l h).2.1]
theorem PX.hvc (h : PX W n ws s) (hwk : WOk W) (hpc : s.pc = (4 * i : Nat)) (hi : ws[i]? = some (wrd 20 0 0 0 m)) (h1 : 0 ≤ m) (h2 : m ≤ 255) (hp : s' = { s with pc := s.pc + 4 }) {e v : Int} {W' : Wd}
    (hc : (W.done n s s' 2 m).call n 0 m (s'.r 1) (s'.r 2) (s'.r 3) = (v, e, W')) : W.run n 0 = (0, W'.ans n m e v) := by
  have hlt := (List.getElem?_eq_some_iff.1 hi).1
  have hlen := h.len
  have hd : doM s (W.gm n) (W.time n) 0 20 0 0 0 m = ⟨s', 2, m, W.gm n⟩ := by
    rw [doM20, show x64 m = m by rw [x64_mod]; omega, show x64 (s.pc + 4) = s.pc + 4 by rw [x64_mod]; omega, hp]
  have hb : Bd 20 0 0 0 m := by constructor <;> omega
  rw [h.run hpc hi hb (rtN (by decide) (by decide) (by decide)) hd (by decide), if_pos rfl, setDat_self fun m q l h => (hwk.pg m q l h).2.1, hyper_eq hc]
theorem PX.done (h : PX W n ws s) (h1 : s'.st = 0) (h2 : s'.opn = false) (h3 : s'.base = 0) : PX (W.done n s s' x y) n ws s' :=
  ⟨h.one.done, h1, h2, h3, h.own, h.len⟩
theorem PX.ans {e v : Int} (h : PX W n ws s) : PX (W.ans n c e v) n ws (s.answer e v) :=
  ⟨h.one.ans, h.st, h.opn, h.base, h.own, h.len⟩
theorem save_own (hwk : WOk W) {p off : Nat} (hp : p < 32) (ho : off + 8 ≤ 256) (ho8 : off % 8 = 0) {l : List Int} (hl : W.own n p = some l) (hs : s.base = 0) {w : Int} {ad : Int} (ha : ad = (256 * p + off : Nat)) :
    putW s (W.gm n) ad w = some (wrB (W.gm n) (32 * n + p) off (bytes8 w)) ∧ W.setDat (wrB (W.gm n) (32 * n + p) off (bytes8 w)).dat = W.setO n p (some (spB l off (bytes8 w))) := by
  obtain ⟨g1, g2⟩ := gm_own (n := n) hp hl
  constructor
  · unfold putW place
    rw [if_neg (by omega), if_pos hs]
    dsimp only
    rw [if_neg (by omega), show (ad / 256).toNat = p by omega, g1, show (ad % 256).toNat = off by omega]
  · have h32 : ∀ m q l, W.own m q = some l → q < 32 := fun m q l h => (hwk.pg m q l h).2.1
    have := setO_dat (W := W) (d := (W.gm n).dat) (m := n) (q := p) (l := l) (l' := spB l off (bytes8 w)) h32 hl
    rw [setDat_self h32] at this
    rw [this]
    congr 1
    funext z
    unfold wrB upd spB
    dsimp only
    rw [g2]
theorem load_own {p off : Nat} (hp : p < 32) (ho : off + 8 ≤ 256) (ho8 : off % 8 = 0) {l : List Int} (hl : W.own n p = some l) (hs : s.base = 0) {ad : Int} (ha : ad = (256 * p + off : Nat)) :
    getW s (W.gm n) ad 8 = some (num ((l.drop off).take 8)) := by
  obtain ⟨g1, g2⟩ := gm_own (n := n) hp hl
  unfold getW place
  rw [if_neg (by omega), if_pos hs]
  dsimp only
  rw [if_neg (by omega), show (ad / 256).toNat = p by omega, show (ad % 256).toNat = off by omega]
  unfold ldB
  rw [g1]
  simp only [Option.map_some, g2]
end
def Wd.made (W : Wd) (n : Nat) (seats quota pages : Int) (img : List Int) : Wd :=
  { W with free := W.free - (5 + pages), vm := upd W.vm n (mkV seats quota), time := upd W.time n 0, ev := upd W.ev n [], own := upd W.own n fun p => if (p : Int) < pages then some (pageB img p) else none }
theorem create_ok {W : Wd} {seats quota pages : Int} {img : List Int} {n : Nat} (h1 : ¬ (seats < 1 ∨ 3 < seats ∨ quota < 1 ∨ 32 < quota ∨ pages < 1 ∨ quota < pages)) (h2 : img.length ≤ 256 * pages) (hn : firstOff (fun n => (W.vm n).on) 6 = some n) (hf : 5 + pages ≤ W.free) :
    W.create seats quota pages img = ((n : Int), 0, W.made n seats quota pages img) := by
  unfold Wd.create
  rw [if_neg h1, if_neg (by omega), hn]
  dsimp only
  rw [if_neg (by omega)]; rfl
theorem PX.begin {W : Wd} {n : Nat} (hn : n < 6) {quota pages : Int} {ws : List Int} (hp : 0 < pages) (hl : ws.length ≤ 64) : PX (W.made n 1 quota pages (imgW ws)) n ws seat0 := by
  refine ⟨⟨hn, ?_, ?_⟩, rfl, rfl, rfl, ?_, hl⟩
  · show Bv.on (upd W.vm n (mkV 1 quota) n) = true
    rw [upd_at]; rfl
  · show Bv.seats (upd W.vm n (mkV 1 quota) n) = [seat0]
    rw [upd_at]; rfl
  · show upd W.own n _ n 0 = _
    rw [upd_at, if_pos (by omega)]
theorem run00 {W : Wd} {a : Int} {X : Wd} (h : W.run ((0 : Nat) : Int) 0 = (a, X)) : (W.run 0 0).2 = X := by
  rw [show ((0 : Nat) : Int) = 0 from rfl] at h
  rw [h]
theorem x64_id {n : Int} (h : 0 ≤ n) (h2 : n < 18446744073709551616) : x64 n = n := by rw [x64_mod]; omega
theorem small_id {n : Int} (h : n ≤ 65535) : small n = n := if_neg (by omega)
end Go.Cr
end
section
namespace Go.Cr
open Go Go.Pt
theorem ishr32 {a s : Nat} (hs : s ≤ 31) : ishr .u32 (a : Int) (s : Int) = ((a / 2 ^ s : Nat) : Int) := by
  unfold ishr
  have e : min ((s : Int)).toNat IntKind.u32.bits = s := by
    show min ((s : Int)).toNat 32 = s
    simp; omega
  rw [e]
  have e2 : ((2 : Int) ^ s) = ((2 ^ s : Nat) : Int) := by push_cast; rfl
  rw [e2, Int.fdiv_eq_ediv_of_nonneg _ (Int.natCast_nonneg _)]
  exact (Int.natCast_ediv _ _).symm
theorem w16 {n : Int} (h : -32768 ≤ n) (h2 : n ≤ 32767) : IntKind.i16.wrap n = n := by
  simp only [IntKind.wrap, IntKind.bits, IntKind.signed]
  simp
  omega
theorem le4_b {w : Int} (h0 : 0 ≤ w) : [Value.int .u8 (IntKind.u8.wrap w), .int .u8 (IntKind.u8.wrap (ishr .u32 w 8)), .int .u8 (IntKind.u8.wrap (ishr .u32 w 16)), .int .u8 (IntKind.u8.wrap (ishr .u32 w 24))] = bL (le4 w) := by
  obtain ⟨a, rfl⟩ : ∃ a : Nat, w = a := ⟨w.toNat, by omega⟩
  have e8 := ishr32 (a := a) (s := 8) (by decide)
  have e16 := ishr32 (a := a) (s := 16) (by decide)
  have e24 := ishr32 (a := a) (s := 24) (by decide)
  rw [show ((8 : Nat) : Int) = 8 from rfl] at e8
  rw [show ((16 : Nat) : Int) = 16 from rfl] at e16
  rw [show ((24 : Nat) : Int) = 24 from rfl] at e24
  rw [e8, e16, e24, u8_mod, u8_mod, u8_mod, u8_mod, Int.natCast_ediv, Int.natCast_ediv, Int.natCast_ediv]; rfl
end Go.Cr
namespace Go.Proofs.YtabdpmnhjlmnlaaGreatDoor
open Go Go.Pt Go.Cr Go.Hp
section
variable {S S' : Mem} {ρ : Rho}
theorem imgW_app {l : List Int} {i : Nat} (h : i < l.length) : imgW (l.take (i + 1)) = imgW (l.take i) ++ le4 l[i] := by
  unfold imgW
  rw [List.take_succ_eq_append_getElem h, List.flatMap_append, List.flatMap_cons, List.flatMap_nil, List.append_nil]
theorem img_loop {b : Nat} {ws : List Int} (hb : S b = some (bw 41 (ws.map (Value.int .u32)))) (hw : ∀ w ∈ ws, 0 ≤ w) (hl : ws.length ≤ 64) {m : Int} (hm : m = ws.length) {K : Sl × Int → Mem → Prop}
    (hK : ∀ p i S', Keeps S S' [] → Row S' 1 p (bL (imgW ws)) → (∀ c o, p.p = some (c, o) → S c = none) → K (p, i) S') :
    lp (fun Xx (z : Sl × Int) (Sx_18 : Mem) =>
                if z.2 < m then
                    0 ≤ z.2 ∧ z.2 < m ∧
                    gI (Sx_18.cell b (0 + z.2.toNat * 1)) .u32 fun t_16 =>
                    0 ≤ z.2 ∧ z.2 < m ∧
                    gI (Sx_18.cell b (0 + z.2.toNat * 1)) .u32 fun t_17 =>
                    0 ≤ z.2 ∧ z.2 < m ∧
                    gI (Sx_18.cell b (0 + z.2.toNat * 1)) .u32 fun t_18 =>
                    0 ≤ z.2 ∧ z.2 < m ∧
                    gI (Sx_18.cell b (0 + z.2.toNat * 1)) .u32 fun t_19 =>
                    ap Sx_18 5 1 1 [.int .u8 0] z.1 4 ([.int .u8 (IntKind.u8.wrap t_16), .int .u8 (IntKind.u8.wrap (ishr .u32 t_17 8)), .int .u8 (IntKind.u8.wrap (ishr .u32 t_18 16)), .int .u8 (IntKind.u8.wrap (ishr .u32 t_19 24))]) fun t_20 Sx_20 =>
                    Sx_20.cell b (0 + z.2.toNat * 1) = some (.int .u32 t_19) ∧
                    Sx_20.cell b (0 + z.2.toNat * 1) = some (.int .u32 t_18) ∧
                    Sx_20.cell b (0 + z.2.toNat * 1) = some (.int .u32 t_17) ∧
                    Sx_20.cell b (0 + z.2.toNat * 1) = some (.int .u32 t_16) ∧
                    Xx (t_20, IntKind.i64.wrap (z.2 + 1)) Sx_20
                else
                K z Sx_18) (⟨none, 0, 0⟩, 0) S := by
  subst hm
  refine lp_rule (fun (z : Sl × Int) S' => ∃ i : Nat, z.2 = (i : Int) ∧ i ≤ ws.length ∧ Keeps S S' [] ∧ Row S' 1 z.1 (bL (imgW (ws.take i))) ∧ ∀ c o, z.1.p = some (c, o) → S c = none) (fun z => ws.length - z.2.toNat) ?_ ⟨0, rfl, Nat.zero_le _, Keeps.refl, Row.nil, fun c o h => by cases h⟩
  rintro X ⟨p, z⟩ S1 ⟨i, hz, hi, hk, hrow, hf⟩ ih
  dsimp only at hz hrow hf ih ⊢
  subst hz
  by_cases hlt : (i : Int) < (ws.length : Int)
  · rw [if_pos hlt]
    have hil : i < ws.length := by omega
    have hb1 : S1 b = some (bw 41 (ws.map (Value.int .u32))) := by rw [hk b (by rw [hb]; simp) (by simp)]; exact hb
    have hcell : ∀ S2 : Mem, S2 b = some (bw 41 (ws.map (Value.int .u32))) → S2.cell b (0 + (i : Int).toNat * 1) = some (.int .u32 ws[i]) := fun S2 h2 => by
      rw [cell_of h2, nthL_eq]
      show (ws.map (Value.int .u32))[0 + (i : Int).toNat * 1]? = _
      rw [show 0 + (i : Int).toNat * 1 = i by omega, List.getElem?_map, List.getElem?_eq_getElem hil]; rfl
    refine ⟨by omega, hlt, ?_⟩
    rw [gI_i (hcell S1 hb1)]
    refine ⟨by omega, hlt, ?_⟩
    rw [gI_i (hcell S1 hb1)]
    refine ⟨by omega, hlt, ?_⟩
    rw [gI_i (hcell S1 hb1)]
    refine ⟨by omega, hlt, ?_⟩
    rw [gI_i (hcell S1 hb1)]
    rw [le4_b (hw _ (List.getElem_mem hil))]
    have hn : p.n = 4 * i := by
      have := hrow.len
      unfold bL at this
      rw [List.length_map, imgW_len, List.length_take] at this
      omega
    refine ap_row hrow rfl (by decide) rfl (by omega) fun t S2 c kb e1 e2 e3 e4 e5 => ?_
    have hc : S c = none := by
      rcases e3 with e3 | e3
      · exact hf c 0 e3
      · cases hs : S c with
        | none => rfl
        | some x => rw [hk c (by rw [hs]; simp) (by simp), hs] at e3; cases e3
    have hcb : b ≠ c := fun e => by rw [← e, hb] at hc; cases hc
    have hb2 : S2 b = some (bw 41 (ws.map (Value.int .u32))) := by rw [e4, set_ne hcb]; exact hb1
    refine ⟨hcell S2 hb2, hcell S2 hb2, hcell S2 hb2, hcell S2 hb2, ?_⟩
    rw [w64 (by omega) (by omega)]
    refine ih _ _ ⟨i + 1, by dsimp only; omega, by omega, by rw [e4]; exact hk.fresh hc, ?_, fun c' o' e' => ?_⟩ (by dsimp only; omega)
    · dsimp only
      rw [imgW_app hil]
      unfold bL at e5 ⊢
      rw [List.map_append]; exact e5
    · rw [e2] at e'; cases e'; exact hc
  · rw [if_neg hlt]
    have : i = ws.length := by omega
    subst this
    rw [List.take_length] at hrow
    exact hK p _ S1 hk hrow hf
theorem img_row {p : Sl} {xs : List Int} (hx : Byt xs) (hr : Row S' 1 p (bL xs)) (hf : ∀ c o, p.p = some (c, o) → ρ c = none) : ImgAt S' ρ p xs := by
  have hn := hr.len
  unfold bL at hn
  rw [List.length_map, Nat.mul_one] at hn
  refine ⟨hn, hr.cap, hx, ?_⟩
  rcases hr.lie with ⟨h1, h2⟩ | ⟨b, k, h1, h2, h3, h4, h5⟩
  · left
    have := hr.cap
    cases xs with
    | nil => rfl
    | cons a l => simp at hn; omega
  · right
    have := hr.part h1
    rw [Nat.mul_one, ← hn] at this
    exact ⟨b, 0, h1, this, hf b 0 h1, by rw [h2]; simp⟩
theorem Lv.wok {S0 : Mem} {ρ0 : Rho} {h : Nat} {W : Wd} (l : Lv S0 ρ0 h S W) : WOk W := by
  obtain ⟨_, _, _, _, _, _, hr⟩ := l
  exact hr.wk
end
end Go.Proofs.YtabdpmnhjlmnlaaGreatDoor
end
section
namespace Go.Cr
open Go Go.Pt
def dkW (v k : Int) : List Int := [wrd 1 6 0 0 v, wrd 1 7 0 0 256, wrd 13 6 7 0 0, wrd 1 1 0 0 k, wrd 1 2 0 0 1, wrd 20 0 0 0 11, wrd 1 6 0 0 0, wrd 13 6 7 0 0, wrd 1 1 0 0 k, wrd 1 2 0 0 1, wrd 20 0 0 0 10, wrd 12 1 7 0 0, wrd 20 0 0 0 0]
structure DX (v k : Int) (W : Wd) (s : Seat) (pg dk : List Int) (m : Nat) : Prop where
  px : PX W 0 (dkW v k) s
  o1 : W.own 0 1 = some pg
  dk : (W.vm 0).disk k.toNat = dk
  ot : (W.vm 1).disk k.toNat = noughts
  len : (W.ev 0).length = m
def sd (r1 r2 r6 r7 pc : Int) : Seat := { seat0 with R := [0, r1, r2, 0, 0, 0, r6, r7, 0, 0, 0, 0, 0, 0, 0, 0], pc := pc }
section
variable {v k : Int} {W W' : Wd} {s s' : Seat} {pg pg' dk dk' : List Int} {m i : Nat}
theorem DX.done (h : DX v k W s pg dk m) {x y : Int} (h1 : s'.st = 0) (h2 : s'.opn = false) (h3 : s'.base = 0) : DX v k (W.done 0 s s' x y) s' pg dk (m + 1) := by
  refine ⟨h.px.done h1 h2 h3, h.o1, ?_, ?_, ?_⟩
  · rw [done_vm, if_pos rfl]; exact h.dk
  · rw [done_vm, if_neg (by decide)]; exact h.ot
  · rw [done_ev, List.length_append, h.len]; rfl
theorem DX.ans (h : DX v k W s pg dk m) {c e x : Int} : DX v k (W.ans 0 c e x) (s.answer e x) pg dk (m + 1) := by
  refine ⟨h.px.ans, h.o1, ?_, ?_, ?_⟩
  · rw [ans_vm, if_pos rfl]; exact h.dk
  · rw [ans_vm, if_neg (by decide)]; exact h.ot
  · rw [ans_ev, List.length_append, h.len]; rfl
theorem DX.setO (h : DX v k W s pg dk m) : DX v k (W.setO 0 1 (some pg')) s pg' dk m := by
  refine ⟨⟨⟨h.px.one.lt, h.px.one.on, h.px.one.seats⟩, h.px.st, h.px.opn, h.px.base, ?_, h.px.len⟩, ?_, h.dk, h.ot, h.len⟩
  · show upd W.own 0 (upd (W.own 0) 1 (some pg')) 0 0 = _
    rw [upd_at, upd_of (by decide)]; exact h.px.own
  · show upd W.own 0 (upd (W.own 0) 1 (some pg')) 0 1 = _
    rw [upd_at, upd_at]
theorem DX.setD (h : DX v k W s pg dk m) : DX v k (W.setV 0 ((W.vm 0).setDisk k.toNat dk')) s pg dk' m := by
  refine ⟨⟨h.px.one.setV rfl h.px.one.on h.px.one.seats, h.px.st, h.px.opn, h.px.base, h.px.own, h.px.len⟩, h.o1, ?_, ?_, h.len⟩
  · show Bv.disk (upd W.vm 0 ((W.vm 0).setDisk k.toNat dk') 0) k.toNat = _
    rw [upd_at]
    show upd (W.vm 0).disk k.toNat dk' k.toNat = _
    rw [upd_at]
  · show Bv.disk (upd W.vm 0 ((W.vm 0).setDisk k.toNat dk') 1) k.toNat = _
    rw [upd_of (by decide)]; exact h.ot
theorem DX.plain (h : DX v k W s pg dk m) (hwk : WOk W) (hpc : s.pc = (4 * i : Nat)) {o a b c n y : Int} (hi : (dkW v k)[i]? = some (wrd o a b c n)) (hb : Bd o a b c n) (hr : Rt o a b c n)
    (hd : doM s (W.gm 0) (W.time 0) 0 o a b c n = ⟨s', 0, y, W.gm 0⟩) (h1 : s'.st = 0) (h2 : s'.opn = false) (h3 : s'.base = 0) : DX v k (W.run 0 0).2 s' pg dk (m + 1) := by
  rw [run00 (h.px.plain hwk hpc hi hb hr hd)]
  exact h.done h1 h2 h3
theorem DX.save (h : DX v k W s pg dk m) (hwk : WOk W) (hpc : s.pc = (4 * i : Nat)) (hi : (dkW v k)[i]? = some (wrd 13 6 7 0 0)) (h7 : s.r 7 = 256) (hs : s' = { s with pc := s.pc + 4 }) : DX v k (W.run 0 0).2 s' (spB pg 0 (bytes8 (s.r 6))) dk (m + 1) := by
  have hlt := (List.getElem?_eq_some_iff.1 hi).1
  have hlen := h.px.len
  obtain ⟨e1, e2⟩ := save_own (W := W) (n := 0) (s := s) hwk (p := 1) (off := 0) (by decide) (by decide) (by decide) h.o1 h.px.base (w := s.r 6) (ad := 256) (by decide)
  have hd : doM s (W.gm 0) (W.time 0) 0 13 6 7 0 0 = ⟨s', 0, 0, wrB (W.gm 0) (32 * 0 + 1) 0 (bytes8 (s.r 6))⟩ := by
    rw [doM13, h7, show x64 (256 + x64 0) = 256 by decide, e1]
    dsimp only
    rw [show x64 (s.pc + 4) = s.pc + 4 by rw [x64_mod]; omega, hs]
  have hr := h.px.run hpc hi (by constructor <;> omega) (rtN (by decide) (by decide) (by decide)) hd (by decide)
  rw [if_neg (by decide), e2] at hr
  rw [run00 hr]
  subst hs
  exact (h.setO (pg' := spB pg 0 (bytes8 (s.r 6)))).done h.px.st h.px.opn h.px.base
theorem DX.hvc (h : DX v k W s pg dk m) (hwk : WOk W) (hpc : s.pc = (4 * i : Nat)) {n : Int} (hi : (dkW v k)[i]? = some (wrd 20 0 0 0 n)) (h1 : 0 ≤ n) (h2 : n ≤ 255) (hs : s' = { s with pc := s.pc + 4 }) {e x : Int}
    (hc : (W.done 0 s s' 2 n).call 0 0 n (s'.r 1) (s'.r 2) (s'.r 3) = (x, e, W')) {m' : Nat} (hW : DX v k (W.done 0 s s' 2 n) s' pg dk (m + 1) → DX v k W' s' pg' dk' m') : DX v k (W.run 0 0).2 (s'.answer e x) pg' dk' (m' + 1) := by
  rw [run00 (h.px.hvc hwk hpc hi h1 h2 hs hc)]
  exact (hW (h.done (by rw [hs]; exact h.px.st) (by rw [hs]; exact h.px.opn) (by rw [hs]; exact h.px.base))).ans
def dS (v k : Int) : Nat → Seat
  | 0 => sd 0 0 0 0 0
  | 1 => sd 0 0 v 0 4
  | 2 => sd 0 0 v 256 8
  | 3 => sd 0 0 v 256 12
  | 4 => sd k 0 v 256 16
  | 5 => sd k 1 v 256 20
  | 6 => sd 0 1 v 256 24
  | 7 => sd 0 1 0 256 28
  | 8 => sd 0 1 0 256 32
  | 9 => sd k 1 0 256 36
  | 10 => sd k 1 0 256 40
  | 11 => sd 0 1 0 256 44
  | 12 => sd v 1 0 256 48
  | _ => sd 0 1 0 256 52
def pgV (v : Int) : List Int := spB noughts 0 (bytes8 v)
def dP (v : Int) (i : Nat) : List Int := if i ≤ 2 then noughts else if i ≤ 7 then pgV v else if i ≤ 10 then spB (pgV v) 0 (bytes8 0) else pgV v
def dD (v : Int) (i : Nat) : List Int := if i ≤ 5 then noughts else pgV v
def dM (i : Nat) : Nat := if i ≤ 5 then i else if i ≤ 10 then i + 1 else if i ≤ 12 then i + 2 else 17
def DXi (v k : Int) (i : Nat) (W : Wd) : Prop := DX v k W (dS v k i) (dP v i) (dD v i) (dM i)
theorem li_d {s : Seat} {g : GM} {t me a n pc : Int} (h0 : 0 ≤ n) (h1 : n < 18446744073709551616) (hp : s.pc = pc) (hs : { s.setr a n with pc := x64 (pc + 4) } = s') : doM s g t me 1 a 0 0 n = ⟨s', 0, 0, g⟩ := by
  rw [doM1, x64_id h0 h1, hp, hs]
theorem pgV_byt (hv : 0 ≤ v ∧ v ≤ 255) : (pgV v).take 8 = bytes8 v := by
  have h := bytes8_len v
  unfold pgV spB
  rw [List.take_zero, List.nil_append, List.take_append_of_le_length (by omega), List.take_of_length_le (by omega)]
theorem DXi.step (hv : 0 ≤ v ∧ v ≤ 255) (hk : 0 ≤ k ∧ k ≤ 3) (hwk : WOk W) : ∀ {i : Nat}, i < 12 → DXi v k i W → DXi v k (i + 1) (W.run 0 0).2
  | 0, _, h => DX.plain (i := 0) h hwk rfl rfl (by constructor <;> omega) (rtN (by decide) (by decide) (by decide)) (li_d hv.1 (by omega) (pc := 0) rfl rfl) rfl rfl rfl
  | 1, _, h => DX.plain (i := 1) h hwk rfl rfl (by constructor <;> omega) (rtN (by decide) (by decide) (by decide)) (li_d (by decide) (by decide) (pc := 4) rfl rfl) rfl rfl rfl
  | 2, _, h => DX.save (i := 2) h hwk rfl rfl rfl rfl
  | 3, _, h => DX.plain (i := 3) h hwk rfl rfl (by constructor <;> omega) (rtN (by decide) (by decide) (by decide)) (li_d hk.1 (by omega) (pc := 12) rfl rfl) rfl rfl rfl
  | 4, _, h => DX.plain (i := 4) h hwk rfl rfl (by constructor <;> omega) (rtN (by decide) (by decide) (by decide)) (li_d (by decide) (by decide) (pc := 16) rfl rfl) rfl rfl rfl
  | 5, _, h => by
    refine DX.hvc (i := 5) (n := 11) (s' := sd k 1 v 256 24) (e := 0) (x := 0) (dk' := pgV v) h hwk rfl rfl (by decide) (by decide) rfl (W' := _) ?_ fun hd => hd.setD
    have hd : (Wd.done W 0 (dS v k 5) (sd k 1 v 256 24) 2 11).own 0 1 = some (pgV v) := h.o1
    generalize Wd.done W 0 (dS v k 5) (sd k 1 v 256 24) 2 11 = X at hd
    show ((0 : Int), X.save 0 (small k) (small 1)) = _
    rw [small_id (by omega), small_id (by decide)]
    unfold Wd.save
    rw [if_neg (by omega), if_neg (by decide)]
    have hw : X.where_ 0 (1 : Int).toNat = some (0, 1, true) := by
      unfold Wd.where_
      rw [show (1 : Int).toNat = 1 from rfl, hd]; rfl
    rw [hw]
    dsimp only
    rw [hd]; rfl
  | 6, _, h => DX.plain (i := 6) h hwk rfl rfl (by constructor <;> omega) (rtN (by decide) (by decide) (by decide)) (li_d (by decide) (by decide) (pc := 24) rfl rfl) rfl rfl rfl
  | 7, _, h => DX.save (i := 7) h hwk rfl rfl rfl rfl
  | 8, _, h => DX.plain (i := 8) h hwk rfl rfl (by constructor <;> omega) (rtN (by decide) (by decide) (by decide)) (li_d hk.1 (by omega) (pc := 32) rfl rfl) rfl rfl rfl
  | 9, _, h => DX.plain (i := 9) h hwk rfl rfl (by constructor <;> omega) (rtN (by decide) (by decide) (by decide)) (li_d (by decide) (by decide) (pc := 36) rfl rfl) rfl rfl rfl
  | 10, _, h => by
    refine DX.hvc (i := 10) (n := 10) (s' := sd k 1 0 256 44) (e := 0) (x := 0) (pg' := pgV v) h hwk rfl rfl (by decide) (by decide) rfl (W' := _) ?_ fun hd => hd.setO
    have hd : (Wd.done W 0 (dS v k 10) (sd k 1 0 256 44) 2 10).own 0 1 = some (dP v 10) := h.o1
    have hk2 : ((Wd.done W 0 (dS v k 10) (sd k 1 0 256 44) 2 10).vm 0).disk k.toNat = pgV v := by rw [done_vm, if_pos rfl]; exact h.dk
    generalize Wd.done W 0 (dS v k 10) (sd k 1 0 256 44) 2 10 = X at hd hk2
    show ((0 : Int), X.load 0 (small k) (small 1)) = _
    rw [small_id (by omega), small_id (by decide)]
    unfold Wd.load
    rw [if_neg (by omega), if_neg (by decide)]
    have hw : X.where_ 0 (1 : Int).toNat = some (0, 1, true) := by
      unfold Wd.where_
      rw [show (1 : Int).toNat = 1 from rfl, hd]; rfl
    rw [hw]
    dsimp only
    rw [hk2]
  | 11, _, h => by
    have hl := load_own (W := W) (n := 0) (s := dS v k 11) (p := 1) (off := 0) (by decide) (by decide) (by decide) h.o1 h.px.base (ad := 256) (by decide)
    refine DX.plain (i := 11) (o := 12) (a := 1) (b := 7) (c := 0) (n := 0) (y := 0) (s' := sd v 1 0 256 48) h hwk rfl rfl (by constructor <;> omega) (rtN (by decide) (by decide) (by decide)) ?_ rfl rfl rfl
    rw [doM12, show x64 ((dS v k 11).r 7 + x64 0) = 256 from rfl, hl, List.drop_zero]
    dsimp only
    rw [show dP v 11 = pgV v from rfl, pgV_byt hv, num_bytes8 ⟨hv.1, by omega⟩]; rfl
  | n + 12, h, _ => by omega
theorem DXi.last (hv : 0 ≤ v ∧ v ≤ 255) (hwk : WOk W) (h : DXi v k 12 W) : ∃ l x, (W.run 0 0).2.ev 0 = l ++ [⟨3, 0, v, 0⟩, x] ∧ l.length = 15 ∧ ((W.run 0 0).2.vm 0).disk k.toNat = pgV v ∧ ((W.run 0 0).2.vm 1).disk k.toNat = noughts := by
  have hc : (Wd.done W 0 (dS v k 12) (sd v 1 0 256 52) 2 0).call 0 0 0 ((sd v 1 0 256 52).r 1) ((sd v 1 0 256 52).r 2) ((sd v 1 0 256 52).r 3) = (0, 0, (Wd.done W 0 (dS v k 12) (sd v 1 0 256 52) 2 0).tell 0 ⟨3, 0, v, 0⟩) := by
    show ((0 : Int), (0 : Int), Wd.tell _ 0 ⟨3, ((0 : Nat) : Int), v % 256, 0⟩) = _
    rw [Int.emod_eq_of_lt hv.1 (by omega)]; rfl
  have hd : DX v k (Wd.done W 0 (dS v k 12) (sd v 1 0 256 52) 2 0) (sd v 1 0 256 52) (pgV v) (pgV v) 15 := DX.done h rfl rfl rfl
  rw [run00 (PX.hvc (i := 12) (s' := sd v 1 0 256 52) h.px hwk rfl rfl (by decide) (by decide) rfl hc)]
  generalize Wd.done W 0 (dS v k 12) (sd v 1 0 256 52) 2 0 = X at hd
  refine ⟨X.ev 0, ⟨2, 0, ior .u64 (x64 (0 * 256)) 0, 0⟩, ?_, hd.len, ?_, ?_⟩
  · rw [ans_ev]
    show upd X.ev 0 (X.ev 0 ++ _) 0 ++ _ = _
    rw [upd_at, List.append_assoc]; rfl
  · rw [ans_vm, if_pos rfl]; exact hd.dk
  · rw [ans_vm, if_neg (by decide)]; exact hd.ot
end
def dkA (v k : Int) : Wd := (W0 56).made 0 1 4 2 (imgW (dkW v k))
def dkB (v k : Int) : Wd := (dkA v k).made 1 1 4 2 (imgW (dkW v k))
theorem dk_img {v k : Int} : (imgW (dkW v k)).length = 52 := by rw [imgW_len]; rfl
theorem dk_c1 {v k : Int} : (W0 56).create 1 4 2 (imgW (dkW v k)) = (0, 0, dkA v k) := create_ok (n := 0) (by decide) (by rw [dk_img]; decide) (by decide) (by decide)
theorem dk_c2 {v k : Int} : (dkA v k).create 1 4 2 (imgW (dkW v k)) = (1, 0, dkB v k) := create_ok (n := 1) (by decide) (by rw [dk_img]; decide) (by rfl) (by show (7 : Int) ≤ 56 - 7; decide)
theorem dk_0 {v k : Int} : DXi v k 0 (dkB v k) := by
  have h := PX.begin (W := W0 56) (n := 0) (by decide) (quota := 4) (pages := 2) (ws := dkW v k) (by decide) (Nat.le_of_ble_eq_true rfl)
  refine ⟨⟨⟨by decide, ?_, ?_⟩, rfl, rfl, rfl, ?_, h.len⟩, ?_, rfl, rfl, rfl⟩
  · exact h.one.on
  · exact h.one.seats
  · exact h.own
  · show (dkA v k).own 0 1 = _
    show upd (W0 56).own 0 (fun p => if (p : Int) < 2 then some (pageB (imgW (dkW v k)) p) else none) 0 1 = _
    rw [upd_at, if_pos (by decide), pageW_1 (Nat.le_of_ble_eq_true rfl)]; rfl
end Go.Cr
end
section
namespace Go.Proofs.YtabdpmnhjlmnlaaGreatDoor
open Go Go.Pt
attribute [local irreducible] Code.wp Back bodyPost wpList FR WL WC WQ WA AW Tr Yc HC AllC
set_option maxRecDepth 20000
set_option maxHeartbeats 4000000
set_option linter.unusedVariables false
def b_hermitcrablaw16_CrabDisks (S : Mem) (v : Int) (sector : Int) (Q : Bool → Mem → Prop) : Prop :=
 jn (fun (Sx : Mem) =>
 crab_New Sx 1 60 4 fun t t_1 Sx_1 =>
 jn (fun (Sx_2 : Mem) =>
 hermitcrabref01_Word Sx_2 1 6 0 0 (IntKind.i16.wrap v) fun t_2 Sx_3 =>
 hermitcrabref01_Word Sx_3 1 7 0 0 256 fun t_3 Sx_4 =>
 hermitcrabref01_Word Sx_4 13 6 7 0 0 fun t_4 Sx_5 =>
 hermitcrabref01_Word Sx_5 1 1 0 0 (IntKind.i16.wrap (Int.tmod sector 4)) fun t_5 Sx_6 =>
 hermitcrabref01_Word Sx_6 1 2 0 0 1 fun t_6 Sx_7 =>
 hermitcrabref01_Word Sx_7 20 0 0 0 11 fun t_7 Sx_8 =>
 hermitcrabref01_Word Sx_8 1 6 0 0 0 fun t_8 Sx_9 =>
 hermitcrabref01_Word Sx_9 13 6 7 0 0 fun t_9 Sx_10 =>
 hermitcrabref01_Word Sx_10 1 1 0 0 (IntKind.i16.wrap (Int.tmod sector 4)) fun t_10 Sx_11 =>
 hermitcrabref01_Word Sx_11 1 2 0 0 1 fun t_11 Sx_12 =>
 hermitcrabref01_Word Sx_12 20 0 0 0 10 fun t_12 Sx_13 =>
 hermitcrabref01_Word Sx_13 12 1 7 0 0 fun t_13 Sx_14 =>
 hermitcrabref01_Word Sx_14 20 0 0 0 0 fun t_14 Sx_15 =>
 al Sx_15 41 ([.int .u32 t_2, .int .u32 t_3, .int .u32 t_4, .int .u32 t_5, .int .u32 t_6, .int .u32 t_7, .int .u32 t_8, .int .u32 t_9, .int .u32 t_10, .int .u32 t_11, .int .u32 t_12, .int .u32 t_13, .int .u32 t_14]) fun b Sx_16 =>
 jn (fun (p : Sl) (Sx_17 : Mem) =>
 crab_Crab_Create Sx_17 t 1 4 2 p fun t_15 t_16 Sx_18 =>
 crab_Crab_Create Sx_18 t 1 4 2 p fun t_17 t_18 Sx_19 =>
 jn (fun (Sx_20 : Mem) =>
 crab_Crab_Events Sx_20 t t_15 fun t_19 Sx_21 =>
 if t_16 = 0 then
 if t_18 = 0 then
 if (t_19.n : Int) = IntKind.i64.wrap (13 + 4) then
 sl t_19 fun b_1 o n n_1 =>
 0 ≤ IntKind.i64.wrap ((t_19.n : Int) - 2) ∧ IntKind.i64.wrap ((t_19.n : Int) - 2) < ((n : Nat) : Int) ∧
 gA (Sx_21.part b_1 (o + (IntKind.i64.wrap ((t_19.n : Int) - 2)).toNat * 4) 4) fun t_20 =>
 fits [.i .u8, .i .i64, .i .u64, .i .u64] t_20 = true ∧
 if (eqL t_20 ([.int .u8 3, .int .i64 0, .int .u64 (IntKind.u64.wrap v), .int .u64 0])) = true then
 nn t fun b_2 o_1 =>
 gP (Sx_21.cell b_2 (o_1 + 3)) fun t_21 =>
 nn t_21 fun b_3 o_2 =>
 0 ≤ t_15 ∧ t_15 < 6 ∧
 0 ≤ IntKind.i16.wrap (Int.tmod sector 4) ∧ IntKind.i16.wrap (Int.tmod sector 4) < 4 ∧
 gL (Sx_21.cell b_3 (o_2 + 2 + t_15.toNat * 12 + 7 + (IntKind.i16.wrap (Int.tmod sector 4)).toNat * 1)) fun t_22 =>
 sl t_22 fun b_4 o_3 n_2 n_3 =>
 (0 : Int) < (n_2 : Nat) ∧
 gI (Sx_21.cell b_4 o_3) .u8 fun t_23 =>
 if t_23 = v then
 gP (Sx_21.cell b_2 (o_1 + 3)) fun t_24 =>
 nn t_24 fun b_5 o_4 =>
 0 ≤ t_17 ∧ t_17 < 6 ∧
 0 ≤ IntKind.i16.wrap (Int.tmod sector 4) ∧ IntKind.i16.wrap (Int.tmod sector 4) < 4 ∧
 gL (Sx_21.cell b_5 (o_4 + 2 + t_17.toNat * 12 + 7 + (IntKind.i16.wrap (Int.tmod sector 4)).toNat * 1)) fun t_25 =>
 sl t_25 fun b_6 o_5 n_4 n_5 =>
 (0 : Int) < (n_4 : Nat) ∧
 gI (Sx_21.cell b_6 o_5) .u8 fun t_26 =>
 Q (decide (t_26 = 0)) Sx_21
 else
 Q false Sx_21
 else
 Q false Sx_21
 else
 Q false Sx_21
 else
 Q false Sx_21
 else
 Q false Sx_21) fun Jx =>
 lp (fun Xx (i : Int) (Sx_22 : Mem) =>
 if i < 13 then
 crab_Crab_Run Sx_22 t t_15 0 fun t_27 Sx_23 =>
 Xx (IntKind.i64.wrap (i + 1)) Sx_23
 else
 Jx Sx_22) 0 Sx_19) fun Jx_1 =>
 lp (fun Xx_1 (z : Sl × Int) (Sx_24 : Mem) =>
 match z with
 | (p_1, i_1) =>
 jn (fun (Sx_25 : Mem) =>
 0 ≤ i_1 ∧ i_1 < 13 ∧
 gI (Sx_25.cell b (0 + i_1.toNat * 1)) .u32 fun t_28 =>
 0 ≤ i_1 ∧ i_1 < 13 ∧
 gI (Sx_25.cell b (0 + i_1.toNat * 1)) .u32 fun t_29 =>
 0 ≤ i_1 ∧ i_1 < 13 ∧
 gI (Sx_25.cell b (0 + i_1.toNat * 1)) .u32 fun t_30 =>
 0 ≤ i_1 ∧ i_1 < 13 ∧
 gI (Sx_25.cell b (0 + i_1.toNat * 1)) .u32 fun t_31 =>
 ap Sx_25 5 1 1 [.int .u8 0] p_1 4 ([.int .u8 (IntKind.u8.wrap t_28), .int .u8 (IntKind.u8.wrap (ishr .u32 t_29 8)), .int .u8 (IntKind.u8.wrap (ishr .u32 t_30 16)), .int .u8 (IntKind.u8.wrap (ishr .u32 t_31 24))]) fun t_32 Sx_26 =>
 Sx_26.cell b (0 + i_1.toNat * 1) = some (.int .u32 t_31) ∧
 Sx_26.cell b (0 + i_1.toNat * 1) = some (.int .u32 t_30) ∧
 Sx_26.cell b (0 + i_1.toNat * 1) = some (.int .u32 t_29) ∧
 Sx_26.cell b (0 + i_1.toNat * 1) = some (.int .u32 t_28) ∧
 Xx_1 (t_32, IntKind.i64.wrap (i_1 + 1)) Sx_26) fun Jx_2 =>
 if i_1 < 13 then
 Jx_2 Sx_24
 else
 Jx_1 p_1 Sx_24) (⟨none, 0, 0⟩, 0) Sx_16) fun Jx_3 =>
 if t_1 ≠ 0 then
 Q false Sx_1
 else
 Jx_3 Sx_1) fun Jx_4 =>
 hermitcrablaw16_awake S fun t_33 Sx_27 =>
 if t_33 = true then
 Jx_4 Sx_27
 else
 Q false Sx_27
theorem t_hermitcrablaw16_CrabDisks {S : Mem} {v : Int} {sector : Int} {Q : Bool → Mem → Prop} (H : b_hermitcrablaw16_CrabDisks S v sector Q) : hermitcrablaw16_CrabDisks S v sector Q := by
 unfold b_hermitcrablaw16_CrabDisks at H
 exact Tr.intro Tryz.func5 E Tryz.ntmps5 E fun w0 => csr<|gv E E<|nx<|c_join2 H (fun (J : Mem → Prop) (z : Unit) S => J S) (fun z => ⟨163, [(0, .int .u8 v), (1, .int .u8 sector)]⟩) (fun z => []) (fun _ Sx H1 => csr<|s_k2 E E H1 fun t t_1 Sx_1 H2 => mv E E<|s_p E (y_extract E E)<|s_p E (y_extract E E)<|gv E E<|gv E E<|nx<|c_join2 H2 (fun (J : Mem → Prop) (z : Unit) S => J S) (fun z => ⟨163, [(0, .int .u8 v), (1, .int .u8 sector), (5, eP t)]⟩) (fun z => []) (fun _ Sx_2 H3 => csr<|mv E E<|s_p E (y_rem E E (by decide))<|s_p E (y_conv ⟨_, Tryz.underlying5⟩ E)<|gv E E<|nxr<|mv E E<|s_p E (y_conv ⟨_, Tryz.underlying5⟩ E)<|s_k1 E E H3 fun t_2 Sx_3 H4 => s_k1 E E H4 fun t_3 Sx_4 H5 => s_k1 E E H5 fun t_4 Sx_5 H6 => mv E E<|s_k1 E E H6 fun t_5 Sx_6 H7 => s_k1 E E H7 fun t_6 Sx_7 H8 => s_k1 E E H8 fun t_7 Sx_8 H9 => s_k1 E E H9 fun t_8 Sx_9 H10 => s_k1 E E H10 fun t_9 Sx_10 H11 => mv E E<|s_k1 E E H11 fun t_10 Sx_11 H12 => s_k1 E E H12 fun t_11 Sx_12 H13 => s_k1 E E H13 fun t_12 Sx_13 H14 => s_k1 E E H14 fun t_13 Sx_14 H15 => s_k1 E E H15 fun t_14 Sx_15 H16 => s_bs E E (by decide) E fun b => s_pub 0 E fun hb => have H17 := H16 b hb; gv E E<|nx<|by exact csr<|gv E E<|nx<|c_join2 H17 (fun (J : Sl → Mem → Prop) (z : Sl) S => J z S) (fun z => ⟨163, [(0, .int .u8 v), (5, eP t), (7, .int .i16 (IntKind.i16.wrap (Int.tmod sector 4))), (8, .slice (some ⟨b, 0, none⟩) 13 13), (9, eL z)]⟩) (fun z => []) (fun p Sx_17 H18 => csr<|mv E E<|mv E E<|s_k2 E E H18 fun t_15 t_16 Sx_18 H19 => mv E E<|s_p E (y_extract E E)<|s_p E (y_extract E E)<|gv E E<|gv E E<|nxr<|mv E E<|mv E E<|s_k2 E E H19 fun t_17 t_18 Sx_19 H20 => mv E E<|s_p E (y_extract E E)<|s_p E (y_extract E E)<|gv E E<|gv E E<|nx<|c_join2 H20 (fun (J : Mem → Prop) (z : Unit) S => J S) (fun z => ⟨163, [(0, .int .u8 v), (5, eP t), (7, .int .i16 (IntKind.i16.wrap (Int.tmod sector 4))), (8, .slice (some ⟨b, 0, none⟩) 13 13), (11, .int .i64 t_15), (12, .int .i64 t_16), (13, .int .i64 t_17), (14, .int .i64 t_18)]⟩) (fun z => []) (fun _ Sx_20 H21 => csr<|mv E E<|mv E E<|s_k1 E E H21 fun t_19 Sx_21 H22 => gv E E<|nxr<|mv E E<|iteK H22 (fun c H23 => ceT E E E (c)<|mv E E<|mv E E<|iteK H23 (fun c_1 H24 => ceT E E E (c_1)<|pk E E E<|mv E E<|mv E E<|by exact s_p E (y_len E)<|mv E E<|s_p E (y_len E)<|s_p E (y_add E E)<|iteK H24 (fun c_2 H25 => ceT E E E (c_2)<|pk E E E<|mv E E<|mv E E<|mv E E<|s_p E (y_len E)<|s_p E (y_sub E E)<|by obtain ⟨b_1, o, n, n_1, rfl, H26⟩ := H25; exact an2 H26 fun c_3 c_4 H27 => s_p E (y_ixL E E c_3 c_4 E)<|gx H27 fun t_20 ht_20 H28 => by refine s_v E (y_ldA E (part_len ht_20)) (hc_SP ht_20) ?_; exact mv E E<|s_p E (y_conv ⟨_, Tryz.underlying5⟩ E)<|s_p E (y_build E E)<|by exact an H28 fun c_5 H29 => iteK H29 (fun c_7 H30 => s_p E (yB (y_eqA E E c_5 E) c_7)<|pk E E E<|mv E E<|mv E E<|by obtain ⟨b_2, o_1, rfl, H31⟩ := H30; exact s_p E (y_nc E)<|s_p E (y_fa E E)<|gx H31 fun t_21 ht_21 H32 => s_v E (y_ld E) (hc_S ht_21)<|mv E E<|mv E E<|by obtain ⟨b_3, o_2, rfl, H33⟩ := H32; exact s_p E (y_nc E)<|s_p E (y_fa E E)<|an2 H33 fun c_8 c_9 H34 => s_p E (y_ixA E E c_8 c_9 E)<|s_p E (y_fa E E)<|an2 H34 fun c_10 c_11 H35 => s_p E (y_ixA E E c_10 c_11 E)<|gx H35 fun t_22 ht_22 H36 => s_v E (y_ld E) (hc_S ht_22)<|by obtain ⟨b_4, o_3, n_2, n_3, rfl, H37⟩ := H36; exact an H37 fun c_13 H38 => s_p E (y_ixL E E (by decide) c_13 E)<|gx H38 fun t_23 ht_23 H39 => s_v E (y_ld E) (hc_S ht_23)<|mv E E<|iteK H39 (fun c_14 H40 => ceT E E E (c_14)<|pk E E E<|mv E E<|mv E E<|s_p E (y_nc E)<|s_p E (y_fa E E)<|gx H40 fun t_24 ht_24 H41 => s_v E (y_ld E) (hc_S ht_24)<|mv E E<|mv E E<|by obtain ⟨b_5, o_4, rfl, H42⟩ := H41; exact s_p E (y_nc E)<|s_p E (y_fa E E)<|an2 H42 fun c_15 c_16 H43 => s_p E (y_ixA E E c_15 c_16 E)<|s_p E (y_fa E E)<|an2 H43 fun c_17 c_18 H44 => s_p E (y_ixA E E c_17 c_18 E)<|gx H44 fun t_25 ht_25 H45 => s_v E (y_ld E) (hc_S ht_25)<|by obtain ⟨b_6, o_5, n_4, n_5, rfl, H46⟩ := H45; exact an H46 fun c_20 H47 => s_p E (y_ixL E E (by decide) c_20 E)<|gx H47 fun t_26 ht_26 H48 => s_v E (y_ld E) (hc_S ht_26)<|s_p E (y_eql E E)<|pk E E E<|gv E E<|nx<|c_ret<|q_ret Tryz.results5 (rv_tmp E rv_nil) ⟨_, E, H48⟩) fun c_14 H40 => ceF E E E (c_14)<|pk E E E<|mv E E<|sk8 E E E E E E E E<|sk4 E E E E<|sk2 E E<|s_skip E<|pk E E E<|gv E E<|nx<|c_ret<|q_ret Tryz.results5 (rv_tmp E rv_nil) ⟨_, E, H40⟩) fun c_7 H30 => s_p E (yB (y_eqA E E c_5 E) (bf_of c_7))<|pk E E E<|mv E E<|sk8 E E E E E E E E<|sk8 E E E E E E E E<|pk E E E<|mv E E<|sk8 E E E E E E E E<|sk4 E E E E<|sk2 E E<|s_skip E<|pk E E E<|gv E E<|nx<|c_ret<|q_ret Tryz.results5 (rv_tmp E rv_nil) ⟨_, E, H30⟩) fun c_2 H25 => ceF E E E (c_2)<|pk E E E<|mv E E<|sk8 E E E E E E E E<|sk2 E E<|pk E E E<|mv E E<|sk8 E E E E E E E E<|sk8 E E E E E E E E<|pk E E E<|mv E E<|sk8 E E E E E E E E<|sk2 E E<|s_skip E<|by exact sk4 E E E E<|pk E E E<|gv E E<|nx<|c_ret<|q_ret Tryz.results5 (rv_tmp E rv_nil) ⟨_, E, H25⟩) fun c_1 H24 => ceF E E E (c_1)<|pk E E E<|mv E E<|s_skip E<|by exact sk4 E E E E<|s_skip E<|pk E E E<|mv E E<|sk8 E E E E E E E E<|sk2 E E<|pk E E E<|mv E E<|sk8 E E E E E E E E<|sk8 E E E E E E E E<|pk E E E<|mv E E<|sk8 E E E E E E E E<|sk4 E E E E<|by exact sk2 E E<|s_skip E<|pk E E E<|gv E E<|nx<|c_ret<|q_ret Tryz.results5 (rv_tmp E rv_nil) ⟨_, E, H24⟩) fun c H23 => ceF E E E (c)<|mv E E<|sk2 E E<|pk E E E<|mv E E<|sk2 E E<|by exact sk4 E E E E<|pk E E E<|mv E E<|sk8 E E E E E E E E<|sk2 E E<|pk E E E<|mv E E<|sk8 E E E E E E E E<|sk8 E E E E E E E E<|pk E E E<|mv E E<|sk8 E E E E E E E E<|sk4 E E E E<|s_skip E<|by exact sk2 E E<|pk E E E<|gv E E<|nx<|c_ret<|q_ret Tryz.results5 (rv_tmp E rv_nil) ⟨_, E, H23⟩) (fun Jx hJx H49 => csr<|gv E E<|nx<|c_block<|c_loop (fun z => ⟨163, [(0, .int .u8 v), (5, eP t), (7, .int .i16 (IntKind.i16.wrap (Int.tmod sector 4))), (8, .slice (some ⟨b, 0, none⟩) 13 13), (11, .int .i64 t_15), (12, .int .i64 t_16), (13, .int .i64 t_17), (14, .int .i64 t_18), (15, .int .i64 z)]⟩) (fun z => []) 0 (idx := []) H49 E ⟨E, E, E, E, E, E, E, E, E, True.intro⟩ E<|fun Xx hXx i Sx_22 H50 => c_seq<|csr<|mv E E<|mv E E<|s_p E (y_len E)<|iteK H50 (fun c_21 H51 => s_p E (yT (y_lss E E) c_21)<|nx<|c_t E E<|c_skip<|q_then<|c_seq<|by exact c_block<|c_region<|mv E E<|mv E E<|s_k1 E E H51 fun t_27 Sx_23 H52 => s_nil<|q_blk<|q_then<|c_region<|mv E E<|s_p E (y_add E E)<|gv E E<|s_nil<|hXx (IntKind.i64.wrap (i + 1)) _ _ _ _ [] H52 E ⟨E, E, E, E, E, E, E, E, E, True.intro⟩ E) fun c_21 H51 => s_p E (yF (y_lss E E) c_21)<|nx<|c_f E E<|c_exit<|q_then_exit<|q_then_exit<|q_blk_out<|hJx () _ _ _ _ [] H51 E ⟨E, E, E, E, E, E, E, E, True.intro⟩ E)) (fun Jx_1 hJx_1 H53 => csr<|gv E E<|nx<|c_block<|c_loop (fun z => ⟨163, [(0, .int .u8 v), (5, eP t), (7, .int .i16 (IntKind.i16.wrap (Int.tmod sector 4))), (8, .slice (some ⟨b, 0, none⟩) 13 13), (9, eL z.1), (10, .int .i64 z.2)]⟩) (fun z => []) (⟨none, 0, 0⟩, 0) (idx := []) H53 E ⟨E, E, E, E, E, E, True.intro⟩ E<|by rintro Xx_1 hXx_1 ⟨p_1, i_1⟩ Sx_24 H54; exact c_join2 H54 (fun (J : Mem → Prop) (z : Unit) S => J S) (fun z => ⟨163, [(0, .int .u8 v), (5, eP t), (7, .int .i16 (IntKind.i16.wrap (Int.tmod sector 4))), (8, .slice (some ⟨b, 0, none⟩) 13 13), (9, eL p_1), (10, .int .i64 i_1)]⟩) (fun z => []) (fun _ Sx_25 H55 => c_seq<|c_block<|c_drawn (by kernel_rfl)<|a_takeP 0 E (by decide +kernel) (np_blk (np_then (np_then (np_blk (np_then np_body))))) E (y_move E)<|by exact a_takeP 1 E (by decide +kernel) (np_blk (np_then (np_then (np_blk (np_then np_body))))) E (y_move E)<|by exact a_takeP 2 E (by decide +kernel) (np_blk (np_then (np_then (np_blk (np_then np_body))))) E (y_move E)<|by exact an2 H55 fun c_22 c_23 H56 => a_takeP 3 E (by decide +kernel) (np_blk (np_then (np_then (np_blk (np_then np_body))))) E (y_ixL E E c_22 c_23 E)<|by exact gx H56 fun t_28 ht_28 H57 => a_take 4 E (by decide +kernel) (np_blk (np_then (np_then (np_blk (np_then np_body))))) E (y_ld E) (hc_S ht_28)<|by exact a_takeP 5 E (by decide +kernel) (np_blk (np_then (np_then (np_blk (np_then np_body))))) E (y_conv ⟨_, Tryz.underlying41⟩ E)<|by exact a_takeP 6 E (by decide +kernel) (np_blk (np_then (np_then (np_blk (np_then np_body))))) E (y_move E)<|by exact a_takeP 7 E (by decide +kernel) (np_blk (np_then (np_then (np_blk (np_then np_body))))) E (y_move E)<|by exact an2 H57 fun c_24 c_25 H58 => a_takeP 8 E (by decide +kernel) (np_blk (np_then (np_then (np_blk (np_then np_body))))) E (y_ixL E E c_24 c_25 E)<|by exact gx H58 fun t_29 ht_29 H59 => a_take 9 E (by decide +kernel) (np_blk (np_then (np_then (np_blk (np_then np_body))))) E (y_ld E) (hc_S ht_29)<|by exact a_takeP 10 E (by decide +kernel) (np_blk (np_then (np_then (np_blk (np_then np_body))))) E (y_shr E E (by decide))<|by exact a_takeP 11 E (by decide +kernel) (np_blk (np_then (np_then (np_blk (np_then np_body))))) E (y_conv ⟨_, Tryz.underlying41⟩ E)<|by exact a_takeP 12 E (by decide +kernel) (np_blk (np_then (np_then (np_blk (np_then np_body))))) E (y_move E)<|by exact a_takeP 13 E (by decide +kernel) (np_blk (np_then (np_then (np_blk (np_then np_body))))) E (y_move E)<|by exact an2 H59 fun c_26 c_27 H60 => a_takeP 14 E (by decide +kernel) (np_blk (np_then (np_then (np_blk (np_then np_body))))) E (y_ixL E E c_26 c_27 E)<|by exact gx H60 fun t_30 ht_30 H61 => a_take 15 E (by decide +kernel) (np_blk (np_then (np_then (np_blk (np_then np_body))))) E (y_ld E) (hc_S ht_30)<|by exact a_takeP 16 E (by decide +kernel) (np_blk (np_then (np_then (np_blk (np_then np_body))))) E (y_shr E E (by decide))<|by exact a_takeP 17 E (by decide +kernel) (np_blk (np_then (np_then (np_blk (np_then np_body))))) E (y_conv ⟨_, Tryz.underlying41⟩ E)<|by exact a_takeP 18 E (by decide +kernel) (np_blk (np_then (np_then (np_blk (np_then np_body))))) E (y_move E)<|by exact a_takeP 19 E (by decide +kernel) (np_blk (np_then (np_then (np_blk (np_then np_body))))) E (y_move E)<|by exact an2 H61 fun c_28 c_29 H62 => a_takeP 20 E (by decide +kernel) (np_blk (np_then (np_then (np_blk (np_then np_body))))) E (y_ixL E E c_28 c_29 E)<|by exact gx H62 fun t_31 ht_31 H63 => a_take 21 E (by decide +kernel) (np_blk (np_then (np_then (np_blk (np_then np_body))))) E (y_ld E) (hc_S ht_31)<|by exact a_takeP 22 E (by decide +kernel) (np_blk (np_then (np_then (np_blk (np_then np_body))))) E (y_shr E E (by decide))<|by exact a_takeP 23 E (by decide +kernel) (np_blk (np_then (np_then (np_blk (np_then np_body))))) E (y_conv ⟨_, Tryz.underlying41⟩ E)<|by exact a_step 24 (by decide +kernel) E<|by exact s_bs E E (by decide) E fun b_7 => s_nil<|q_any (ac_cons (hc_S ht_31) (ac_cons (hc_S ht_30) (ac_cons (hc_S ht_29) (ac_cons (hc_S ht_28) ac_nil))))<|a_step 25 (by decide +kernel) E<|by exact s_app (sx := p_1) (vs := [.int .u8 (IntKind.u8.wrap t_28), .int .u8 (IntKind.u8.wrap (ishr .u32 t_29 8)), .int .u8 (IntKind.u8.wrap (ishr .u32 t_30 16)), .int .u8 (IntKind.u8.wrap (ishr .u32 t_31 24))]) E E E (fc_V 0 E E) E E (by decide) H63 fun t_32 Sx_26 H64 => by obtain ⟨k, H65⟩ := H64; exact by obtain ⟨k_1, H66⟩ := H65; exact by obtain ⟨k_2, H67⟩ := H66; exact by obtain ⟨k_3, H68⟩ := H67; exact s_nil<|q_any (ac_cons (hc_S k) (ac_cons (hc_S k_1) (ac_cons (hc_S k_2) (ac_cons (hc_S k_3) ac_nil))))<|a_takeP 26 E (by decide +kernel) (np_blk (np_then (np_then (np_blk (np_then np_body))))) E (y_assign E)<|by exact a_done (by decide +kernel)<|by exact q_blk<|q_then<|c_region<|mv E E<|s_p E (y_add E E)<|gv E E<|s_nil<|hXx_1 (t_32, IntKind.i64.wrap (i_1 + 1)) _ _ _ _ [] H68 E ⟨E, E, E, E, E, E, True.intro⟩ E) (fun Jx_2 hJx_2 H69 => csr<|mv E E<|mv E E<|s_p E (y_len E)<|iteK H69 (fun c_30 H70 => s_p E (yT (y_lss E E) c_30)<|nx<|c_t E E<|c_skip<|hJx_2 () _ _ _ _ [] H70 E ⟨E, E, E, E, E, E, True.intro⟩ E) fun c_30 H70 => s_p E (yF (y_lss E E) c_30)<|nx<|c_f E E<|c_exit<|q_then_exit<|q_then_exit<|q_blk_out<|hJx_1 p_1 _ _ _ _ [] H70 E ⟨E, E, E, E, E, True.intro⟩ E))) (fun Jx_3 hJx_3 H71 => csr<|mv E E<|iteK H71 (fun c_31 H72 => s_p E (yT (y_neq E E) c_31)<|nx<|c_t E E<|csr<|gv E E<|nx<|c_ret<|q_then_ret<|q_ret Tryz.results5 (rv_tmp E rv_nil) ⟨_, E, H72⟩) fun c_31 H72 => s_p E (yF (y_neq E E) c_31)<|nx<|cfs E E<|hJx_3 () _ _ _ _ [] H72 E ⟨E, E, E, True.intro⟩ E)) (fun Jx_4 hJx_4 H73 => csr<|s_k1 E E H73 fun t_33 Sx_27 H74 => by have H75 := ib_e H74; rcases H75 with ⟨rfl, H76⟩ | ⟨rfl, H76⟩; exact (s_p E (yB (y_not E) E)<|nx<|cfs E E<|hJx_4 () _ _ _ _ [] H76 E ⟨E, E, True.intro⟩ E); exact (s_p E (yB (y_not E) E)<|nx<|c_t E E<|csr<|gv E E<|nx<|c_ret<|q_then_ret<|q_ret Tryz.results5 (rv_tmp E rv_nil) ⟨_, E, H76⟩))
end Go.Proofs.YtabdpmnhjlmnlaaGreatDoor
end
section
namespace Go.Pt
open Go Go.RowKit Go.ChangeShapes
def memOf (W : World) : Mem := fun b => match W.heap[b]? with
  | some (.cells c t fr) => some ⟨t, c.toList, fr⟩
  | _ => none
theorem memOf_st (W : World) : St W (memOf W) (memOf W) [] W := by
  refine ⟨rfl, rfl, rfl, Nat.le_refl _, fun _ _ _ => rfl, fun b k h => ?_, by simp, by simp, fun b h1 h2 => (h2 h1).elim, fun _ h => h⟩
  unfold memOf at h
  split at h
  · rename_i c t fr hh
    cases h
    simpa using hh
  · cases h
theorem calls_of_tr {P : Program} {f : FuncId} {args : List Value} {W : World} {u : Value} (h : Tr P f (memOf W) args (fun v S' => v = u ∧ Keeps (memOf W) S' [])) :
    Calls P f args.toArray W fun e W' => e = .returned u ∧ Below W.heap.size W W' := by
  refine (h W (memOf_st W)).mono ?_
  rintro e W' ⟨v, S', rfl, ⟨rfl, hk⟩, hS⟩
  refine ⟨rfl, hS.os, hS.tape, hS.output, hS.size, fun k hlt => ?_⟩
  cases hm : memOf W k with
  | none => exact hS.frame k hlt hm
  | some q =>
    have e1 := hS.mem k q (hk.get hm (by simp))
    have e2 := (memOf_st W).mem k q hm
    rw [e1, e2]
def BytesIn (S : Mem) (l : Sl) : Prop := ∀ i : Nat, i < l.n → ∃ b o z, l.p = some (b, o) ∧ S.cell b (o + i) = some (.int .u8 z) ∧ 0 ≤ z ∧ z ≤ 255
theorem BytesIn.keep {S S' : Mem} {l : Sl} (h : BytesIn S l) (hk : Keeps S S' []) : BytesIn S' l := fun i hi => by
  obtain ⟨b, o, z, h1, h2, h3⟩ := h i hi
  obtain ⟨k, h4, h5⟩ := cell_e h2
  exact ⟨b, o, z, h1, by rw [cell_of (hk.get h4 (by simp))]; exact h5, h3⟩
end Go.Pt
end
section
namespace Go.Pt
open Go Go.RowKit Go.ChangeShapes
def NumsIn (S : Mem) (l : Sl) : Prop := ∀ i : Nat, i < l.n → ∃ b o z, l.p = some (b, o) ∧ S.cell b (o + i) = some (.int .u64 z) ∧ 0 ≤ z ∧ z ≤ 18446744073709551615
theorem NumsIn.keep {S S' : Mem} {l : Sl} (h : NumsIn S l) (hk : Keeps S S' []) : NumsIn S' l := fun i hi => by
  obtain ⟨b, o, z, h1, h2, h3⟩ := h i hi
  obtain ⟨k, h4, h5⟩ := cell_e h2
  exact ⟨b, o, z, h1, by rw [cell_of (hk.get h4 (by simp))]; exact h5, h3⟩
end Go.Pt
end
section
namespace Go.Pt
open Go Go.RowKit Go.ChangeShapes Go.WideShapes Go.ChangeAt Go.Lib
theorem handed_both {H : Type} {enc : TypeId × Value → H} {a : Assume} {C : Checked} {os : Os} {f : FuncId} {fn : Func} {s : ChangeSpec} {conds : List PathCond} {apart fresh handsOn again : Bool} {X : World → Array Value → Prop}
    (hX : ∀ (w w' : World) (args : Array Value), w.heap = w'.heap → X w args → X w' args) (own : ownKnob C.prog.godebug = none) (started : os.Started) (noInit : C.prog.inits.idxOf? f = none) (hfn : C.prog.funcs[f]? = some fn)
    (witness : ∃ (w : World) (tape : Tape) (i : Input), w.os = os ∧ (w.forCall tape i).Shaped C.prog ∧ i.vars = [] ∧ Input.okWide C.prog (w.forCall tape i) .any w.heap.size f i ∧
      ((s.pre enc C.prog fn conds apart (w.forCall tape i).memory i.args ∧ X (w.forCall tape i).memory i.args) ∧ sizedMet enc C.prog fn (OpenSpec.ofChange s) apart (w.forCall tape i).memory i.args) ∧ a.holds C.prog (lone (Frame.enter C.prog f i.args .normal) [] (w.forCall tape i)))
    (law : ∀ (W : World) (base : Nat) (args : Array Value) (ds gs : List (DataW H)) (before : List MemPlace), (∀ (j : Nat) t v, fn.params[j]? = some t → args[j]? = some v → Value.okWide C.prog W .any base t v) →
      DataW.Whole enc C.prog fn.params.toList s.vars apart W args.toList ds gs before → X W args → W.ShapedOpen C.prog →
      Calls C.prog f args W fun e W' => ∃ v, e = .returned v ∧ s.post enc C.prog fn apart fresh handsOn again W args v W') :
    ReturnsInHanded a C os f .any (fun w args => (s.pre enc C.prog fn conds apart w args ∧ X w args) ∧ sizedMet enc C.prog fn (OpenSpec.ofChange s) apart w args) (s.post enc C.prog fn apart fresh handsOn again) :=
  returnsInHanded_of_calls own started noInit witness fun w tape i _ hsh _ hok hpre _ => by
    obtain ⟨_, _, _, g, hg, _, _, _, _, hval⟩ := hok
    obtain rfl : g = fn := Option.some.inj (hg.symm.trans hfn)
    obtain ⟨⟨⟨ds, gs, before, hw, _⟩, hx⟩, _⟩ := hpre
    refine (law (w.forCall tape i) w.heap.size i.args ds gs before hval (DataW.Whole.of_heap (w' := w.forCall tape i) (by rfl) hw) (hX _ _ _ (by rfl) hx) hsh).mono fun e W' h => ?_
    obtain ⟨v, rfl, hp⟩ := h
    exact ChangeSpec.post_blind hp
theorem and_i {a b : Bool} (h : a = true) (k : b = true) : (a && b) = true := by rw [h, k]; rfl
end Go.Pt
namespace Go.Proofs.YtabdpmnhjlmnlaaGreatDoor
open Go Go.Pt Go.RowKit Go.Lib Go.Cr Go.ChangeShapes Go.WideShapes
set_option maxRecDepth 10000
theorem cell_row {W : World} {P : Program} {n : String} {g : Nat} {cs : Array Value} (hg : P.globalNamed n = some g) (h : W.var? P n = some cs) : ∃ t fr, memOf W g = some ⟨t, cs.toList, fr⟩ := by
  unfold World.var? at h
  rw [hg] at h
  simp only [Option.bind_some] at h
  split at h
  · rename_i c t fr hh
    cases h
    exact ⟨t, fr, by unfold memOf; rw [hh]⟩
  · cases h
theorem gl_of_laid {W : World} (h : laidMetH Tryz.prog Rows.crabBeginsRow.laid W) : Gl (memOf W) := by
  rw [MakeChecks.laidMetH_plain _ _ _ (by kernel_rfl)] at h
  have hp : VarReads Tryz.prog W "math/bits.deBruijn64tab" Rows.laid_math_bits_deBruijn64tab := laidMet.reads h (by simp [Rows.crabBeginsRow])
  obtain ⟨g, t, cs, fuel, p, hg, ht, hv, hd⟩ := hp
  obtain rfl := Option.some.inj ((show Tryz.prog.globalNamed "math/bits.deBruijn64tab" = some 0 by kernel_rfl).symm.trans hg)
  obtain rfl := Option.some.inj ((show (Tryz.prog.globals[0]?).map (·.type) = some 337 by kernel_rfl).symm.trans ht)
  obtain ⟨t', fr, hm⟩ := cell_row hg hv
  have e : (Rows.laid_math_bits_deBruijn64tab : DataW Unit) = tabData .u8 (deBruijn64tab.map fun (n : Nat) => (n : Int)) := by kernel_rfl
  rw [e] at hd
  have hcs := cells_of_tab Tryz.underlying337 Tryz.underlying5 (by kernel_rfl) (by kernel_rfl) hd
  rw [hcs, List.map_map] at hm
  exact ⟨t', fr, hm⟩
end Go.Proofs.YtabdpmnhjlmnlaaGreatDoor
end
section
namespace Go.Proofs.YtabdpmnhjlmnlaaGreatDoor
open Go Go.Pt Go.Cr Go.Hp
section
variable {S S' S0 : Mem} {ρ0 : Rho} {h : Nat} {W : Wd}
theorem wrd_nn {k a b c n : Int} (hb : Bd k a b c n) (hr : Rt k a b c n) : 0 ≤ wrd k a b c n := (wrd_bd hb hr).1
theorem dk_nn {v k : Int} (hv : 0 ≤ v ∧ v ≤ 255) (hk : 0 ≤ k ∧ k ≤ 3) : ∀ w ∈ dkW v k, 0 ≤ w := fun w hw => by
  simp only [dkW, List.mem_cons, List.not_mem_nil, or_false] at hw
  rcases hw with e | e | e | e | e | e | e | e | e | e | e | e | e <;> rw [e] <;> exact wrd_nn (by constructor <;> omega) (rtN (by decide) (by decide) (by decide))
theorem Lv.sector (l : Lv S0 ρ0 h S W) {n j : Nat} (hn : n < 6) (hj : j < 4) {x : Int} {xs : List Int} (hd : (W.vm n).disk j = x :: xs) : ∃ t d, S.cell h (0 + 3) = some (eP (some (t, 0))) ∧ ∃ s, S.cell t (0 + 2 + n * 12 + 7 + j * 1) = some (eL s) ∧ s = ⟨some (d, 0), s.n, s.c⟩ ∧ 0 < s.n ∧ S.cell d 0 = some (.int .u8 x) := by
  obtain ⟨ρ, A, C, φ, m, hc, hr⟩ := l
  have hdi := (hc.vs n hn).di j hj
  rw [hr.vm, hd] at hdi
  obtain ⟨d, e1, e2⟩ := hdi.sl (by simp [bL])
  have hn2 := hdi.n (by decide) (m := xs.length + 1) (by simp [bL])
  exact ⟨A.t, d, hc.c3, _, disk_cell hc hn hj, e1, by omega, hdi.cell e2 0 (by simp [bL]) rfl⟩
theorem pgV_cons (v : Int) (hv : 0 ≤ v ∧ v ≤ 255) : ∃ l, pgV v = v :: l := by
  have e : bytes8 v = v / 2 ^ (8 * 0) % 256 :: ((List.range 7).map fun i => v / 2 ^ (8 * (i + 1)) % 256) := rfl
  unfold pgV spB
  rw [List.take_zero, List.nil_append, e, List.cons_append, show v / 2 ^ (8 * 0) % 256 = v by simp; omega]
  exact ⟨_, rfl⟩
theorem nought_cons : ∃ l, noughts = 0 :: l := ⟨_, rfl⟩
set_option maxHeartbeats 1000000 in
theorem crabDisks_law (hgl : Gl S) {v sec : Int} (hv : 0 ≤ v ∧ v ≤ 255) (hs : 0 ≤ sec ∧ sec ≤ 255) : b_hermitcrablaw16_CrabDisks S v sec fun r S' => r = true ∧ Keeps S S' [] := by
  unfold b_hermitcrablaw16_CrabDisks
  simp only [jn]
  refine awake_spec hgl fun S1 hk1 => ?_
  rw [if_pos rfl]
  have hg1 : Gl S1 := hgl.keep (hk1 0 (gl_some hgl) (by simp))
  refine new_L hg1 (fun h => absurd h (by decide)) fun _ S2 h l2 => ?_
  rw [if_neg (by decide)]
  obtain ⟨ρ, A, C, φ, m1, hc1, hr1⟩ := l2
  have ek : IntKind.i16.wrap (Int.tmod sec 4) = sec % 4 := by rw [Int.tmod_eq_emod_of_nonneg hs.1, w16 (by omega) (by omega)]
  rw [ek, w16 (n := v) (by omega) (by omega)]
  obtain ⟨k, hk⟩ : ∃ k, k = sec % 4 := ⟨_, rfl⟩
  have hk3 : 0 ≤ k ∧ k ≤ 3 := by omega
  rw [← hk]
  clear hk ek
  refine refWord_spec (by constructor <;> omega) (rtN (by decide) (by decide) (by decide)) fun T1 q1 => ?_
  refine refWord_spec (by constructor <;> omega) (rtN (by decide) (by decide) (by decide)) fun T2 q2 => ?_
  refine refWord_spec (by constructor <;> omega) (rtN (by decide) (by decide) (by decide)) fun T3 q3 => ?_
  refine refWord_spec (by constructor <;> omega) (rtN (by decide) (by decide) (by decide)) fun T4 q4 => ?_
  refine refWord_spec (by constructor <;> omega) (rtN (by decide) (by decide) (by decide)) fun T5 q5 => ?_
  refine refWord_spec (by constructor <;> omega) (rtN (by decide) (by decide) (by decide)) fun T6 q6 => ?_
  refine refWord_spec (by constructor <;> omega) (rtN (by decide) (by decide) (by decide)) fun T7 q7 => ?_
  refine refWord_spec (by constructor <;> omega) (rtN (by decide) (by decide) (by decide)) fun T8 q8 => ?_
  refine refWord_spec (by constructor <;> omega) (rtN (by decide) (by decide) (by decide)) fun T9 q9 => ?_
  refine refWord_spec (by constructor <;> omega) (rtN (by decide) (by decide) (by decide)) fun T10 q10 => ?_
  refine refWord_spec (by constructor <;> omega) (rtN (by decide) (by decide) (by decide)) fun T11 q11 => ?_
  refine refWord_spec (by constructor <;> omega) (rtN (by decide) (by decide) (by decide)) fun T12 q12 => ?_
  refine refWord_spec (by constructor <;> omega) (rtN (by decide) (by decide) (by decide)) fun T13 q13 => ?_
  have q : Keeps S2 T13 [] := q1.trans <| q2.trans <| q3.trans <| q4.trans <| q5.trans <| q6.trans <| q7.trans <| q8.trans <| q9.trans <| q10.trans <| q11.trans <| q12.trans q13
  clear q1 q2 q3 q4 q5 q6 q7 q8 q9 q10 q11 q12 q13
  intro b hb
  refine img_loop (m := 13) (ws := dkW v k) set_same (dk_nn hv hk3) (Nat.le_of_ble_eq_true rfl) rfl fun p _ S3 q3 hrow hfr => ?_
  dsimp only
  have qk : Keeps S2 (T13.set b (bw 41 ((dkW v k).map (Value.int .u32)))) [] := q.trans (Keeps.refl.fresh hb)
  have qk3 := qk.trans q3
  have hc3 := hc1.keeps qk3
  have himg : ImgAt S3 ρ p (imgW (dkW v k)) := img_row imgW_byt hrow fun c o e => by
    have hn := hfr c o e
    have hn2 : S2 c = none := by
      cases hs2 : S2 c with
      | none => rfl
      | some x => rw [qk c (by rw [hs2]; simp) (by simp), hs2] at hn; cases hn
    cases hr : ρ c with
    | none => rfl
    | some r => exact absurd hn2 (hc1.rg c r hr)
  have hW0 : W0 ((60 : Int) - 4) = W0 56 := by rfl
  rw [hW0] at hr1
  refine create_spec hc3 hr1 himg (by rw [dk_img]; decide) fun S4 hA4 => ?_
  rw [dk_c1] at hA4 ⊢
  obtain ⟨ρ4, A4, C4, φ4, m4, hc4, hr4, _⟩ := hA4
  refine create_spec hc4 hr4 (himg.mv m4) (by rw [dk_img]; decide) fun S5 hA5 => ?_
  rw [dk_c2] at hA5 ⊢
  have l5 : Lv S1 rho0 h S5 (dkB v k) := hA5.lv ((m1.then qk3).trans m4)
  have e5 : (dkB v k).evB 0 := by
    have := (evB_W0 (f := 56)).create (s := 1) (q := 4) (p := 2) (img := imgW (dkW v k))
    rw [dk_c1] at this
    have := this.create (s := 1) (q := 4) (p := 2) (img := imgW (dkW v k))
    rw [dk_c2] at this
    exact this
  dsimp only
  refine lp_rule (fun (z : Int) S' => ∃ (i : Nat) (W : Wd), z = (i : Int) ∧ Lv S1 rho0 h S' W ∧ W.evB (3 * i) ∧ (i ≤ 12 ∧ DXi v k i W ∨ i = 13 ∧ ∃ l x, W.ev 0 = l ++ [⟨3, 0, v, 0⟩, x] ∧ l.length = 15 ∧ (W.vm 0).disk k.toNat = pgV v ∧ (W.vm 1).disk k.toNat = noughts)) (fun z => 13 - z.toNat) ?_ ⟨0, dkB v k, rfl, l5, e5, .inl ⟨by decide, dk_0⟩⟩
  rintro X z S6 ⟨i, W, rfl, l6, e6, hi⟩ ih
  by_cases hlt : (i : Int) < 13
  · rw [if_pos hlt]
    rcases hi with ⟨h12, hi⟩ | ⟨h13, _⟩
    · refine run_L l6 e6 (by omega) fun S7 l7 => ?_
      rw [w64 (by omega) (by omega)]
      refine ih _ _ ⟨i + 1, _, by omega, l7, e6.run, ?_⟩ (by omega)
      by_cases h1 : i < 12
      · exact .inl ⟨by omega, hi.step hv hk3 l6.wok h1⟩
      · have : i = 12 := by omega
        subst this
        exact .inr ⟨rfl, hi.last hv l6.wok⟩
    · omega
  · rw [if_neg hlt]
    rcases hi with ⟨h12, hi⟩ | ⟨h13, l, x, g1, g2, g3, g4⟩
    · omega
    subst h13
    refine events_L (n := 0) l6 (by decide) e6 (by decide) fun t S7 hk7 hrow _ => ?_
    have l7 := l6.on hk7
    obtain ⟨hn, c, ht, hcell, hpart⟩ := row_get hrow (by rw [g1]; simp)
    have hlen : (W.ev 0).length = 17 := by rw [g1, List.length_append, g2]; rfl
    rw [hlen] at hn
    have e17 : (t.n : Int) = IntKind.i64.wrap (13 + 4) := by rw [hn]; rfl
    rw [if_pos rfl, if_pos rfl, if_pos e17, ht, sl_i]
    have e15 : IntKind.i64.wrap ((t.n : Int) - 2) = 15 := by rw [hn]; rfl
    refine ⟨by rw [e15]; decide, by rw [e15, hn]; decide, ?_⟩
    rw [e15]
    have e16 : (W.ev 0)[15]'(by omega) = ⟨3, 0, v, 0⟩ := by
      have : (W.ev 0)[15]? = some ⟨3, 0, v, 0⟩ := by
        rw [g1, List.getElem?_append_right (by omega), g2]; rfl
      exact (List.getElem?_eq_some_iff.1 this).2
    have hp := hpart 15 (0 + (15 : Int).toNat * 4) (by omega) rfl
    rw [e16] at hp
    rw [gA_i hp]
    refine ⟨rfl, ?_⟩
    rw [if_pos ((eqL_iff (ks := [.i .u8, .i .i64, .i .u64, .i .u64]) rfl rfl).2 (by rw [wu64 (by omega) (by omega)]; rfl)), nn_i]
    obtain ⟨l1, hl1⟩ := pgV_cons v hv
    obtain ⟨l2, hl2⟩ := nought_cons
    obtain ⟨t1, d1, c1, s1, c2, c3, c4, c5⟩ := l7.sector (n := 0) (j := k.toNat) (by decide) (by omega) (g3.trans hl1)
    obtain ⟨t2, d2, c6, s2, c7, c8, c9, c10⟩ := l7.sector (n := 1) (j := k.toNat) (by decide) (by omega) (g4.trans hl2)
    rw [gP_i c1, nn_i]
    refine ⟨by decide, by decide, by omega, by omega, ?_⟩
    rw [show (0 : Int).toNat = 0 from rfl, gL_i c2, c3, sl_i]
    refine ⟨by omega, ?_⟩
    rw [gI_i c5, if_pos rfl, gP_i c6, nn_i]
    refine ⟨by decide, by decide, by omega, by omega, ?_⟩
    rw [show (1 : Int).toNat = 1 from rfl, gL_i c7, c8, sl_i]
    refine ⟨by omega, ?_⟩
    rw [gI_i c10]
    exact ⟨rfl, hk1.trans l7.keeps⟩
end
end Go.Proofs.YtabdpmnhjlmnlaaGreatDoor
end
