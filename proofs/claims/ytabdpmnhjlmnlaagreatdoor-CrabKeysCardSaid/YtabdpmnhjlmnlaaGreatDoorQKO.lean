/- Texts of this work, joined by program (pack.py): Ij, PsO, Ik, Il, Im, PtL, PtM, Jr, Jt, Ka, Kb, PsQ, Jd. -/
import Derived.Test.YtabdpmnhjlmnlaaGreatDoorQKN
import Derived.Test.YtabdpmnhjlmnlaaGreatDoorQKC
import Derived.Test.YtabdpmnhjlmnlaaGreatDoorQKI
import Derived.Test.YtabdpmnhjlmnlaaGreatDoorQKE
import Derived.Test.YtabdpmnhjlmnlaaGreatDoorQKH
import Derived.Test.YtabdpmnhjlmnlaaGreatDoorQKB
import Derived.Test.YtabdpmnhjlmnlaaGreatDoorQKL
import Derived.ProofKit
import Derived.OpenShut
import Derived.Test.YtabdpmnhjlmnlaaGreatDoorRows
import Derived.LaidMore
import Derived.Lay
import Derived.Lib.LaidU8
import Derived.Deep.Slices
import Derived.Stop.Joined
set_option linter.unusedVariables false
section
namespace Go.Cr
open Go Go.Pt
def ownL (l : List Nat) : Nat → Ow := fun f => if f ∈ l then ⟨1, 0, 0, 0⟩ else ow0
theorem ownL_in {l : List Nat} {f : Nat} (h : f ∈ l) : ownL l f = ⟨1, 0, 0, 0⟩ := if_pos h
theorem ownL_out {l : List Nat} {f : Nat} (h : f ∉ l) : ownL l f = ow0 := if_neg h
theorem ownL_keep {l : List Nat} {g : Nat} : keepC (ownL l) g (-1) = ownL (l ++ [g]) := by
  unfold keepC
  funext f
  by_cases hm : g ∈ l
  · rw [ownL_in hm, if_neg (by decide)]
    by_cases hf1 : f ∈ l
    · rw [ownL_in hf1, ownL_in (by simp [hf1])]
    · have : f ≠ g := fun e => hf1 (e ▸ hm)
      rw [ownL_out hf1, ownL_out (by simp only [List.mem_append, List.mem_singleton, not_or]; exact ⟨hf1, this⟩)]
  · rw [ownL_out hm, if_pos (show ow0.kind = 0 from rfl), if_neg (by decide)]
    by_cases hf1 : f = g
    · subst hf1; rw [upd_at, ownL_in (by simp)]
    · rw [upd_of hf1]
      by_cases hf2 : f ∈ l
      · rw [ownL_in hf2, ownL_in (by simp [hf2])]
      · rw [ownL_out hf2, ownL_out (by simp only [List.mem_append, List.mem_singleton, not_or]; exact ⟨hf2, hf1⟩)]
def cstN (form : Int) (N : Nat) (l : List Nat) (u : Nat → Bool) : Cst := { toKn := kn0 form, N := N, dat := fun _ => noughts, used := u, left := -1, cache := [], own := ownL l, alm := fun _ _ => none, region := l, ev := fun _ => [] }
def cstA (form : Int) (N : Nat) (l : List Nat) (u : Nat → Bool) (o : Nat → Ow) : Cst := { toKn := kn0 form, N := N, dat := fun _ => noughts, used := u, left := -1, cache := [], own := o, alm := fun _ _ => none, region := l, ev := fun _ => [] }
theorem wok_W0 {free : Int} : WOk (W0 free) := by
  refine ⟨fun n _ => ⟨rfl, fun _ => rfl, fun _ => rfl⟩, fun n _ => rfl, fun n h => (by cases h), fun n s h => (by cases h), fun n => ⟨Nat.zero_le 64, fun x h => by cases h⟩, fun n j h => (by cases h), fun n => ⟨Int.le_refl 0, (by decide : (0:Int) ≤ 32)⟩, fun n k h => (by cases h), fun n p l h => (by cases h), fun n => ?_, fun i h => (by cases h), fun i _ => rfl, fun i h => (by cases h), fun i j h => (by cases h), fun n k w h => (by cases h)⟩
  have : (W0 free).pages n = 0 := count_zero fun _ _ => rfl
  rw [this]; exact Int.le_refl _
theorem rel_cstN {form : Int} (hf : form = 1 ∨ form = 2) {N : Nat} (hN : N ≤ 512) {l : List Nat} {u : Nat → Bool} (h : takeN N l.length (fun _ => false) = some (l, u)) {φ : Nat → Nat → Nat} : Rel (cstN form N l u) (W0 (N - l.length)) φ := by
  obtain ⟨_, h2, h3, h4, h5⟩ := takeN_some h
  have hk : ∀ f, (cstN form N l u).own f = if f ∈ l then ⟨1, 0, 0, 0⟩ else ow0 := fun _ => rfl
  have hc : count (fun f => ! (fun _ => false : Nat → Bool) f) N = N := by
    unfold count
    have : (List.range N).filter (fun f => ! false) = List.range N := by simp
    rw [this]; simp
  refine ⟨wok_W0, rfl, rfl, rfl, hN, hf, ⟨Int.le_refl 0, (by decide : (0:Int) ≤ 4611686018427387904)⟩, fun n h => (by cases h), fun n k => rfl, ?_, rfl, fun f _ => ?_, fun f _ h => ?_, fun f _ => ?_, fun f _ => ⟨noughts_len, fun x hx => noughts_byt hx⟩, fun n _ => ⟨rfl, rfl, rfl⟩, fun n h => (by cases h), fun n f h => (by cases h), fun f _ h => ?_, fun n j h => (by cases h), fun n p h => (by cases h), fun n p l h => (by cases h), fun f _ h => ?_, ⟨h2, fun f => ?_⟩, fun r h => (by cases h), Nat.zero_le 8⟩
  · show ((N : Int) - l.length) = count (fun f => ! u f) N
    rw [hc] at h5; omega
  · show u f = _
    rw [h4 f, hk f]
    by_cases e : f ∈ l
    · rw [if_pos e]; simp [e]
    · rw [if_neg e]; simp [e, ow0]
  · rw [hk f] at h ⊢
    split at h
    · cases h
    · rename_i e; rw [if_neg e]
  · rw [hk f]
    by_cases e : f ∈ l
    · rw [if_pos e]; decide
    · rw [if_neg e]; decide
  · rw [hk f] at h
    split at h <;> cases h
  · rw [hk f] at h
    split at h <;> cases h
  · show f ∈ l ↔ _
    rw [hk f]
    constructor
    · intro e; exact ⟨(h3 f e).1, by rw [if_pos e]⟩
    · rintro ⟨_, e⟩
      split at e
      · assumption
      · cases e
end Go.Cr
namespace Go.Proofs.YtabdpmnhjlmnlaaGreatDoor
open Go Go.Pt Go.Cr Go.Hp
section
variable {S S' : Mem} {ρ ρ' : Rho} {R : Nat → Prop}
theorem spl_reg {A : Ad} {s : Sl} : spl (hdL A) 4 [eL s] = hdL { A with gs := s } := rfl
theorem begin_spec (hg : ∀ b r, ρ b = some r → S b ≠ none) (h0 : ρ 0 = none) (hgl : Gl S) {form : Int} {N : Nat} (h1 : 1 ≤ N) (hN : N ≤ 512) {Q : Nat → Mem → Prop}
    (hQ : ∀ S' ρ' h A, Mv S ρ S' ρ' Rc → CrabA S' ρ' h A (cst0 form N) → Q h S') :
    store_New S N fun t Sx_1 => pool_New Sx_1 N fun t_1 Sx_2 => guest_New Sx_2 form N fun t_2 Sx_3 =>
      al Sx_3 86 ([eP t, eP t_1, .slice (none) 0 0, eP t_2, .slice (none) 0 0, .slice (none) 0 0, .slice (none) 0 0, .slice (none) 0 0, .slice (none) 0 0, .slice (none) 0 0, .slice (none) 0 0]) fun b Sx_4 => Q b Sx_4 := by
  refine storeNew_spec hg h1 hN fun m S1 ρ1 m1 hs1 => ?_
  refine poolNew_spec m1.rg h1 hN fun p S2 ρ2 m2 hp2 => ?_
  have hs2 := hs1.keep m2 (by decide) (by decide)
  apply t_guest_New
  unfold b_guest_New
  refine ownNew_spec m2.rg h1 hN fun ob S3 ρ3 m3 ho3 => ?_
  have hs3 := hs2.keep m3 (fun h => h) (fun h => h)
  have hp3 := hp2.keep m3 (fun h => h) (fun h => h) (fun h => h)
  intro kb hkb t ht h hh
  rw [kn_cells] at hh ⊢
  rw [hd_cells]
  have M4 : Mv S3 ρ3 (S3.set kb (bw 127 [.slice none 0 0])) (ρ3.upd kb 10) (fun _ => False) := (Mv.refl m3.rg).new hkb _ 10
  have M5 := M4.new ht (bw 77 (knL (kn0 form) (fun _ => vx0) ob kb)) 7
  have M6 := M5.new hh (bw 86 (hdL ⟨m, p, t, ob, kb, ⟨none, 0, 0⟩, ⟨none, 0, 0⟩, fun _ => ⟨none, 0, 0⟩, fun _ => vx0⟩)) 0
  have n1 : kb ≠ t := fun e => by subst e; simp at ht
  have n2 : kb ≠ h := fun e => by subst e; simp [set_ne n1] at hh
  have n3 : t ≠ h := fun e => by subst e; simp at hh
  have mA : Mv S ρ S3 ρ3 Rc := ((m1.mono (fun _ h => h.elim)).trans (m2.mono fun r hr => by unfold R345 at hr; show r < 110; omega)).trans (m3.mono fun _ h => h.elim)
  have mB := mA.trans (M6.mono fun _ h => h.elim)
  have bk : ((S3.set kb (bw 127 [.slice none 0 0])).set t (bw 77 (knL (kn0 form) (fun _ => vx0) ob kb))).set h (bw 86 (hdL ⟨m, p, t, ob, kb, ⟨none, 0, 0⟩, ⟨none, 0, 0⟩, fun _ => ⟨none, 0, 0⟩, fun _ => vx0⟩)) kb = some (bw 127 [.slice none 0 0]) := by
    rw [set_ne n2, set_ne n1, set_same]
  have pc7 : Pc (((S3.set kb (bw 127 [.slice none 0 0])).set t (bw 77 (knL (kn0 form) (fun _ => vx0) ob kb))).set h (bw 86 (hdL ⟨m, p, t, ob, kb, ⟨none, 0, 0⟩, ⟨none, 0, 0⟩, fun _ => ⟨none, 0, 0⟩, fun _ => vx0⟩))) (((ρ3.upd kb 10).upd t 7).upd h 0) 7 t (knL (kn0 form) (fun _ => vx0) ob kb) := by
    generalize knL (kn0 form) (fun _ => vx0) ob kb = L
    exact ⟨⟨bw 77 L, by rw [set_ne n3]; exact set_same, rfl, lpart_all rfl⟩, by rw [upd_ne n3]; exact upd_same⟩
  refine hQ _ _ h ⟨m, p, t, ob, kb, ⟨none, 0, 0⟩, ⟨none, 0, 0⟩, fun _ => ⟨none, 0, 0⟩, fun _ => vx0⟩ mB
    ⟨mB.rg, g0_keep hgl mB h0, gl_keep hgl mB h0, ⟨⟨_, set_same, rfl, rfl⟩, upd_same⟩, hs3.keep M6 (fun h => h) (fun h => h), hp3.keep M6 (fun h => h) (fun h => h) (fun h => h), Rw.nil, pc7, ho3.keep M6 (fun h => h) (fun h => h),
      ⟨⟨127, ⟨none, 0, 0⟩, [], ⟨bk, rfl, Row.nil, fun c hc => (by cases hc), ?_, by decide⟩, fun x hx => (by cases hx), ⟨List.nodup_nil, fun a ha => (by cases ha), fun n k t h => (by cases h)⟩⟩, by rw [upd_ne n2, upd_ne n1]; exact upd_same⟩, Rw.nil, fun i _ => Rw.nil, fun i _ => ⟨Rw.nil, fun s hs => (by cases hs), Rw.nil, Rw.nil, fun j _ => Rw.nil⟩⟩
  exact fun i _ h => absurd h (Nat.not_lt_zero _)
theorem keepLoop {h : Nat} {A : Ad} {form : Int} {N : Nat} {l : List Nat} {u : Nat → Bool} (hl : ∀ f ∈ l, f < N) (hl2 : l.length ≤ 1000) {Q : Mem → Prop} (hc : CrabA S ρ h A (cstA form N l u fun _ => ow0)) (hQ : ∀ S', Mv S ρ S' ρ Rc → CrabA S' ρ h A (cstN form N l u) → Q S') :
    lp (fun Xx (t_7 : Int) (Sx_8 : Mem) =>
     if t_7 < (A.gs.n : Int) then
      sl A.gs fun b_1 o n n_1 =>
      0 ≤ t_7 ∧ t_7 < ((n : Nat) : Int) ∧
      gI (Sx_8.cell b_1 (o + t_7.toNat * 1)) .i64 fun t_8 =>
      gP (Sx_8.cell h 3) fun t_9 =>
      nn t_9 fun b_2 o_1 =>
      gP (Sx_8.cell b_2 (o_1 + 74)) fun t_10 =>
      owner_Book_Keep Sx_8 t_10 t_8 (-1) fun t_11 Sx_9 =>
      Xx (IntKind.i64.wrap (t_7 + 1)) Sx_9
     else
     Q Sx_8) 0 S := by
  refine lp_rule (fun (z : Int) S' => ∃ i : Nat, z = (i : Int) ∧ i ≤ l.length ∧ Mv S ρ S' ρ Rc ∧ CrabA S' ρ h A (cstA form N l u (ownL (l.take i)))) (fun z => l.length - z.toNat) ?_
    ⟨0, rfl, by omega, Mv.refl hc.rg, by
      have e : ownL (l.take 0) = fun _ => ow0 := by funext f; exact ownL_out (by simp)
      rw [e]; exact hc⟩
  rintro X z S1 ⟨i, rfl, hi, m1, hc1⟩ ih
  have hn : A.gs.n = l.length := hc1.gs.n (m := l.length) (by decide) (by show (nL l).length = _; simp [nL])
  by_cases hlt : (i : Int) < (A.gs.n : Int)
  · rw [if_pos hlt]
    have hil : i < l.length := by omega
    obtain ⟨c, e1, e2⟩ := hc1.gs.sl (by show 0 < (nL l).length; simp [nL]; omega)
    rw [e1, sl_i]
    have h3 : S1.cell h 3 = some (eP (some (A.t, 0))) := hc1.c3
    have h74 : S1.cell A.t (0 + 74) = some (eP (some (A.ob, 0))) := by rw [hc1.tt.cell 74 (by rw [knL_len]; decide) (by rfl)]; exact knL_ow
    have hcell : S1.cell c (0 + (i : Int).toNat * 1) = some (.int .i64 (l.getD i 0 : Nat)) := by
      rw [hc1.gs.cell e2 i (by show i < (nL l).length; simp [nL]; omega) (by omega)]
      show nthL (nL l) i = _
      rw [nthL_eq]
      unfold nL
      rw [List.getElem?_map, List.getElem?_eq_getElem hil, List.getD_eq_getElem?_getD, List.getElem?_eq_getElem hil]; rfl
    refine ⟨by omega, by omega, ?_⟩
    rw [gI_i hcell, gP_i h3, nn_i, gP_i h74]
    have hf : l.getD i 0 < N := hl _ (getD_mem hil)
    refine keepB_spec hc1.ow m1.rg hf (by decide) fun e S2 m2 ho2 => ?_
    have hc2 := hc1.setOwn m2 ho2
    rw [w64 (by omega) (by omega)]
    refine ih _ _ ⟨i + 1, rfl, by omega, m1.trans (m2.mono fun r hr => by show r < 110; omega), ?_⟩ (by omega)
    have e3 : keepC (ownL (l.take i)) (l.getD i 0) (-1) = ownL (l.take (i + 1)) := by
      rw [ownL_keep, List.take_add_one, List.getD_eq_getElem?_getD, List.getElem?_eq_getElem hil]; rfl
    rw [← e3]
    exact hc2
  · rw [if_neg hlt]
    have : i = l.length := by omega
    subst this
    rw [List.take_length] at hc1
    exact hQ _ m1 hc1
def badNew (form frames region : Int) : Prop := frames < 1 ∨ 512 < frames ∨ region < 1 ∨ frames < region ∨ (form ≠ 1 ∧ form ≠ 2)
instance (form frames region : Int) : Decidable (badNew form frames region) := inferInstanceAs (Decidable (_ ∨ _))
theorem new_spec (hg : ∀ b r, ρ b = some r → S b ≠ none) (h0 : ρ 0 = none) (hgl : Gl S) {form frames region : Int} {Q : Pt → Int → Mem → Prop}
    (hE : badNew form frames region → Q none 1 S)
    (hY : ¬ badNew form frames region → ∀ S' ρ' h A l u, Mv S ρ S' ρ' Rc → CrabA S' ρ' h A (cstN form frames.toNat l u) → takeN frames.toNat l.length (fun _ => false) = some (l, u) → (l.length : Int) = region → Q (some (h, 0)) 0 S') : crab_New S form frames region Q := by
  apply t_crab_New
  unfold b_crab_New
  simp only [jn]
  by_cases hb : badNew form frames region
  · have := hE hb
    unfold badNew at hb
    by_cases h1 : frames < 1
    · rw [if_pos h1]; exact this
    rw [if_neg h1]
    by_cases h2 : 512 < frames
    · rw [if_pos h2]; exact this
    rw [if_neg h2]
    by_cases h3 : region < 1
    · rw [if_pos h3]; exact this
    rw [if_neg h3]
    by_cases h4 : frames < region
    · rw [if_pos h4]; exact this
    rw [if_neg h4, if_pos (by omega), if_pos (by omega)]
    exact this
  have hY := hY hb
  unfold badNew at hb
  rw [if_neg (by omega), if_neg (by omega), if_neg (by omega), if_neg (by omega)]
  have hform : form = 1 ∨ form = 2 := by omega
  obtain ⟨N, rfl⟩ : ∃ N : Nat, frames = N := ⟨frames.toNat, by omega⟩
  obtain ⟨r, rfl⟩ : ∃ r : Nat, region = r := ⟨region.toNat, by omega⟩
  have key : store_New S N fun t Sx_1 => pool_New Sx_1 N fun t_1 Sx_2 => guest_New Sx_2 form N fun t_2 Sx_3 =>
      al Sx_3 86 ([eP t, eP t_1, .slice (none) 0 0, eP t_2, .slice (none) 0 0, .slice (none) 0 0, .slice (none) 0 0, .slice (none) 0 0, .slice (none) 0 0, .slice (none) 0 0, .slice (none) 0 0]) fun b Sx_4 =>
   gP (Sx_4.cell b 1) fun t_3 =>
   pool_Pool_Some Sx_4 t_3 r fun t_4 t_5 Sx_5 =>
   pt Sx_5 b 4 1 ([eL t_4]) fun Sx_6 =>
   gL (Sx_6.cell b 4) fun t_6 =>
   lp (fun Xx (t_7 : Int) (Sx_8 : Mem) =>
     if t_7 < (t_6.n : Int) then
      sl t_6 fun b_1 o n n_1 =>
      0 ≤ t_7 ∧ t_7 < ((n : Nat) : Int) ∧
      gI (Sx_8.cell b_1 (o + t_7.toNat * 1)) .i64 fun t_8 =>
      gP (Sx_8.cell b 3) fun t_9 =>
      nn t_9 fun b_2 o_1 =>
      gP (Sx_8.cell b_2 (o_1 + 74)) fun t_10 =>
      owner_Book_Keep Sx_8 t_10 t_8 (-1) fun t_11 Sx_9 =>
      Xx (IntKind.i64.wrap (t_7 + 1)) Sx_9
     else
     Q (some (b, 0)) 0 Sx_8) 0 Sx_6 := by
    refine begin_spec hg h0 hgl (by omega) (by omega) fun S1 ρ1 h A m1 hc1 => ?_
    have c1 : S1.cell h 1 = some (eP (some (A.p, 0))) := hc1.c1
    rw [gP_i c1]
    refine some_spec (r := 12) hc1.pl m1.rg (show (-1:Int) ≤ -1 ∧ (-1:Int) ≤ 4294967296 by decide) (by omega) (by decide) (fun l u hle ht s S2 ρ2 m2 hp2 hs2 => ?_) (fun hN => ?_)
    · have hll := (takeN_some ht).1
      refine (hc1.hd.keep m2 (by decide)).pt m2.rg 4 (by rfl) (by rw [hdL_len]; exact (by decide : 5 ≤ 11)) (by rfl) fun S3 m3 hh3 => ?_
      rw [spl_reg] at hh3
      have M : Mv S1 ρ1 S3 ρ2 (fun x => x = 0 ∨ R345 x ∨ x = 12) := (m2.mono fun r hr => .inr hr).trans (m3.mono fun r hr => .inl hr)
      have hc3 : CrabA S3 ρ2 h { A with gs := s } (cstA form N l u fun _ => ow0) :=
        ⟨M.rg, g0_keep hc1.gl M hc1.g0, gl_keep hc1.gl M hc1.g0, hh3, hc1.st.keep M (by decide) (by decide), hp2.keep m3 (by decide) (by decide) (by decide), hc1.ca.keep M (by decide), hc1.tt.keep M (by decide), hc1.ow.keep M (by decide) (by decide), hc1.ck.keep M (by decide) (by decide), hs2.keep m3 (by decide), fun i hi => (hc1.ev i hi).keep M (by unfold R345; omega), fun i hi => (hc1.vs i hi).keep M hi fun r h1 h2 => by unfold R345; omega⟩
      have c4 : S3.cell h 4 = some (eL s) := hc3.c4
      rw [gL_i c4]
      refine keepLoop (A := { A with gs := s }) (fun f hf => ((takeN_some ht).2.2.1 f hf).1) (by omega) hc3 fun S4 m4 hc4 => ?_
      have e : ((N : Int)).toNat = N := by omega
      refine hY S4 ρ2 h _ l u (m1.trans ((M.mono fun x hx => ?_).trans m4)) (by rw [e]; exact hc4) (by rw [e, hll]; exact ht) (by rw [hll])
      unfold R345 at hx; show x < 110; omega
    · exfalso
      rcases hN with h | h
      · exact absurd h.1 (show ¬ (0:Int) ≤ -1 by decide)
      · have := takeN_none.1 h
        have hc : count (fun f => ! (cst0 form N).used f) N = N := by
          show count (fun f => ! false) N = N
          unfold count
          have : (List.range N).filter (fun f => ! false) = List.range N := by simp
          rw [this]; simp
        rw [show (cst0 form N).N = N from rfl, hc] at this
        omega
  by_cases h5 : form ≠ 1
  · rw [if_pos h5, if_neg (by omega)]; exact key
  · rw [if_neg h5]; exact key
theorem rel_new {form frames region : Int} (hb : ¬ badNew form frames region) {l : List Nat} {u : Nat → Bool} (h : takeN frames.toNat l.length (fun _ => false) = some (l, u)) (hl : (l.length : Int) = region) : Rel (cstN form frames.toNat l u) (W0 (frames - region)) fun _ _ => 0 := by
  unfold badNew at hb
  have := rel_cstN (φ := fun _ _ => 0) (by omega : form = 1 ∨ form = 2) (by omega : frames.toNat ≤ 512) h
  have e : ((frames.toNat : Nat) : Int) - l.length = frames - region := by omega
  rwa [e] at this
end
end Go.Proofs.YtabdpmnhjlmnlaaGreatDoor
namespace Go.Cr
end Go.Cr
end
section
namespace Go.Proofs.YtabdpmnhjlmnlaaGreatDoor
open Go Go.Pt
attribute [local irreducible] Code.wp Back bodyPost wpList FR WL WC WQ WA AW Tr Yc HC AllC
set_option maxRecDepth 20000
set_option maxHeartbeats 4000000
set_option linter.unusedVariables false
def b_hermitcrablaw16_awake (S : Mem) (Q : Bool → Mem → Prop) : Prop :=
 crab_New S 1 40 4 fun t t_1 Sx =>
 jn (fun (Sx_1 : Mem) =>
 al Sx_1 5 ([.int .u8 65, .int .u8 0, .int .u8 64, .int .u8 4, .int .u8 0, .int .u8 0, .int .u8 0, .int .u8 80]) fun b Sx_2 =>
 fz Sx_2 b fun Sx_3 =>
 crab_Crab_Create Sx_3 t 1 4 1 (⟨some (b, 0), 8, 8⟩) fun t_2 t_3 Sx_4 =>
 crab_Crab_Run Sx_4 t t_2 0 fun t_4 Sx_5 =>
 crab_Crab_Run Sx_5 t t_2 0 fun t_5 Sx_6 =>
 crab_Crab_Events Sx_6 t t_2 fun t_6 Sx_7 =>
 if t_3 = 0 then
 if (t_6.n : Int) = 4 then
 sl t_6 fun b_1 o n n_1 =>
 (0 : Int) < (n : Nat) ∧
 gI (Sx_7.cell b_1 o) .u8 fun t_7 =>
 if t_7 = 1 then
 (1 : Int) < (n : Nat) ∧
 gI (Sx_7.cell b_1 (o + 4)) .u8 fun t_8 =>
 if t_8 = 1 then
 (2 : Int) < (n : Nat) ∧
 gA (Sx_7.part b_1 (o + 8) 4) fun t_9 =>
 fits [.i .u8, .i .i64, .i .u64, .i .u64] t_9 = true ∧
 if (eqL t_9 ([.int .u8 3, .int .i64 0, .int .u64 65, .int .u64 0])) = true then
 (3 : Int) < (n : Nat) ∧
 gA (Sx_7.part b_1 (o + 12) 4) fun t_10 =>
 fits [.i .u8, .i .i64, .i .u64, .i .u64] t_10 = true ∧
 Q (eqL t_10 ([.int .u8 2, .int .i64 0, .int .u64 0, .int .u64 0])) Sx_7
 else
 Q false Sx_7
 else
 Q false Sx_7
 else
 Q false Sx_7
 else
 Q false Sx_7
 else
 Q false Sx_7) fun Jx =>
 if t_1 ≠ 0 then
 Q false Sx
 else
 if t = none then
 Q false Sx
 else
 Jx Sx
theorem t_hermitcrablaw16_awake {S : Mem} {Q : Bool → Mem → Prop} (H : b_hermitcrablaw16_awake S Q) : hermitcrablaw16_awake S Q := by
 unfold b_hermitcrablaw16_awake at H
 exact Tr.intro Tryz.func27 E Tryz.ntmps27 E fun w0 => csr<|gv E E<|nxr<|s_k2 E E H fun t t_1 Sx H1 => mv E E<|s_p E (y_extract E E)<|s_p E (y_extract E E)<|gv E E<|gv E E<|nx<|c_join2 H1 (fun (J : Mem → Prop) (z : Unit) S => J S) (fun z => ⟨67, [(1, eP t)]⟩) (fun z => []) (fun _ Sx_1 H2 => csr<|mv E E<|s_bs E E (by decide) E fun b => s_pub 0 E fun hb => have H3 := H2 b hb; s_fz E E H3 fun Sx_3 H4 => s_k2 E E H4 fun t_2 t_3 Sx_4 H5 => mv E E<|s_p E (y_extract E E)<|s_p E (y_extract E E)<|gv E E<|gv E E<|nxr<|mv E E<|mv E E<|s_k1 E E H5 fun t_4 Sx_5 H6 => nxr<|mv E E<|mv E E<|s_k1 E E H6 fun t_5 Sx_6 H7 => nxr<|mv E E<|mv E E<|s_k1 E E H7 fun t_6 Sx_7 H8 => gv E E<|nx<|by exact csr<|mv E E<|iteK H8 (fun c H9 => ceT E E E (c)<|mv E E<|mv E E<|s_p E (y_len E)<|iteK H9 (fun c_1 H10 => ceT E E E (c_1)<|pk E E E<|mv E E<|mv E E<|by obtain ⟨b_1, o, n, n_1, rfl, H11⟩ := H10; exact an H11 fun c_3 H12 => s_p E (y_ixL E E (by decide) c_3 E)<|s_p E (y_fa E E)<|gx H12 fun t_7 ht_7 H13 => s_v E (y_ld E) (hc_S ht_7)<|iteK H13 (fun c_4 H14 => ceT E E E (c_4)<|pk E E E<|mv E E<|mv E E<|an H14 fun c_6 H15 => s_p E (y_ixL E E (by decide) c_6 E)<|s_p E (y_fa E E)<|gx H15 fun t_8 ht_8 H16 => s_v E (y_ld E) (hc_S ht_8)<|iteK H16 (fun c_7 H17 => ceT E E E (c_7)<|pk E E E<|mv E E<|mv E E<|an H17 fun c_9 H18 => s_p E (y_ixL E E (by decide) c_9 E)<|gx H18 fun t_9 ht_9 H19 => by refine s_v E (y_ldA E (part_len ht_9)) (hc_SP ht_9) ?_; exact s_p E (y_build E E)<|by exact an H19 fun c_10 H20 => iteK H20 (fun c_12 H21 => s_p E (yB (y_eqA E E c_10 E) c_12)<|pk E E E<|mv E E<|mv E E<|an H21 fun c_14 H22 => s_p E (y_ixL E E (by decide) c_14 E)<|gx H22 fun t_10 ht_10 H23 => by refine s_v E (y_ldA E (part_len ht_10)) (hc_SP ht_10) ?_; exact s_p E (y_build E E)<|by exact an H23 fun c_15 H24 => s_p E (y_eqA E E c_15 E)<|pk E E E<|gv E E<|nx<|c_ret<|q_ret Tryz.results27 (rv_tmp E rv_nil) ⟨_, E, H24⟩) fun c_12 H21 => s_p E (yB (y_eqA E E c_10 E) (bf_of c_12))<|pk E E E<|mv E E<|sk4 E E E E<|s_skip E<|pk E E E<|gv E E<|nx<|c_ret<|q_ret Tryz.results27 (rv_tmp E rv_nil) ⟨_, E, H21⟩) fun c_7 H17 => ceF E E E (c_7)<|pk E E E<|mv E E<|sk4 E E E E<|s_skip E<|pk E E E<|mv E E<|sk4 E E E E<|s_skip E<|pk E E E<|gv E E<|nx<|c_ret<|q_ret Tryz.results27 (rv_tmp E rv_nil) ⟨_, E, H17⟩) fun c_4 H14 => ceF E E E (c_4)<|pk E E E<|mv E E<|sk4 E E E E<|s_skip E<|pk E E E<|mv E E<|sk4 E E E E<|s_skip E<|pk E E E<|mv E E<|sk4 E E E E<|s_skip E<|pk E E E<|gv E E<|nx<|c_ret<|q_ret Tryz.results27 (rv_tmp E rv_nil) ⟨_, E, H14⟩) fun c_1 H10 => ceF E E E (c_1)<|pk E E E<|mv E E<|sk4 E E E E<|s_skip E<|pk E E E<|mv E E<|sk4 E E E E<|s_skip E<|pk E E E<|mv E E<|sk4 E E E E<|s_skip E<|pk E E E<|mv E E<|sk4 E E E E<|s_skip E<|pk E E E<|gv E E<|nx<|c_ret<|q_ret Tryz.results27 (rv_tmp E rv_nil) ⟨_, E, H10⟩) fun c H9 => ceF E E E (c)<|mv E E<|sk2 E E<|s_skip E<|pk E E E<|mv E E<|sk4 E E E E<|s_skip E<|pk E E E<|mv E E<|sk4 E E E E<|s_skip E<|pk E E E<|mv E E<|sk4 E E E E<|s_skip E<|pk E E E<|mv E E<|sk4 E E E E<|s_skip E<|pk E E E<|gv E E<|nx<|c_ret<|q_ret Tryz.results27 (rv_tmp E rv_nil) ⟨_, E, H9⟩) (fun Jx hJx H25 => csr<|mv E E<|iteK H25 (fun c_17 H26 => s_p E (yT (y_neq E E) c_17)<|mv E E<|sk2 E E<|pk E E E<|nx<|c_t E E<|csr<|gv E E<|nx<|c_ret<|q_then_ret<|q_ret Tryz.results27 (rv_tmp E rv_nil) ⟨_, E, H26⟩) fun c_17 H26 => s_p E (yF (y_neq E E) c_17)<|mv E E<|mv E E<|iteK H26 (fun c_18 H27 => s_p E (yT (y_pnil (p := t) E E) c_18)<|pk E E E<|nx<|c_t E E<|csr<|gv E E<|nx<|c_ret<|q_then_ret<|q_ret Tryz.results27 (rv_tmp E rv_nil) ⟨_, E, H27⟩) fun c_18 H27 => s_p E (yF (y_pnil (p := t) E E) c_18)<|pk E E E<|nx<|cfs E E<|hJx () _ _ _ _ [] H27 E ⟨E, True.intro⟩ E)
end Go.Proofs.YtabdpmnhjlmnlaaGreatDoor
end
section
namespace Go.Cr
open Go Go.Pt
def awImg : List Int := [65, 0, 64, 4, 0, 0, 0, 80]
def awW1 : Wd := ((W0 36).create 1 4 1 awImg).2.2
def awW2 : Wd := (awW1.run 0 0).2
def awW3 : Wd := (awW2.run 0 0).2
def Evt.q (e : Evt) : Int × Int × Int × Int := (e.kind, e.seat, e.a, e.b)
theorem Evt.of_q {e : Evt} {k s a b : Int} (h : e.q = (k, s, a, b)) : e = ⟨k, s, a, b⟩ := by
  obtain ⟨_, _, _, _⟩ := e
  simp only [Evt.q, Prod.mk.injEq] at h
  obtain ⟨rfl, rfl, rfl, rfl⟩ := h; rfl
theorem aw_len : (awW3.ev 0).length = 4 := by decide +kernel
theorem aw_1 : ((awW3.ev 0).getD 0 ⟨0, 0, 0, 0⟩).kind = 1 := by decide +kernel
theorem aw_2 : ((awW3.ev 0).getD 1 ⟨0, 0, 0, 0⟩).kind = 1 := by decide +kernel
theorem aw_3 : ((awW3.ev 0).getD 2 ⟨0, 0, 0, 0⟩).q = (3, 0, 65, 0) := by decide +kernel
theorem aw_4 : ((awW3.ev 0).getD 3 ⟨0, 0, 0, 0⟩).q = (2, 0, 0, 0) := by decide +kernel
theorem aw_c : ((W0 36).create 1 4 1 awImg).1 = 0 ∧ ((W0 36).create 1 4 1 awImg).2.1 = 0 := by decide +kernel
theorem aw_ev : ∃ e1 e2 : Evt, e1.kind = 1 ∧ e2.kind = 1 ∧ awW3.ev 0 = [e1, e2, ⟨3, 0, 65, 0⟩, ⟨2, 0, 0, 0⟩] := by
  have h1 := aw_1
  have h2 := aw_2
  have h3 := aw_3
  have h4 := aw_4
  have h0 := aw_len
  match h : awW3.ev 0, h0 with
  | [a, b, c, d], _ =>
    rw [h] at h1 h2 h3 h4
    have e3 : c = _ := Evt.of_q h3
    have e4 : d = _ := Evt.of_q h4
    exact ⟨a, b, h1, h2, by rw [e3, e4]⟩
end Go.Cr
end
section
namespace Go.Cr
open Go Go.Pt
def Wd.evB (W : Wd) (m : Nat) : Prop := ∀ i, (W.ev i).length ≤ m
section
variable {W : Wd} {m : Nat}
theorem Wd.evB.mono (h : W.evB m) {k : Nat} (hk : m ≤ k) : W.evB k := fun i => Nat.le_trans (h i) hk
theorem Wd.evB.of {W' : Wd} (h : W.evB m) (e : W'.ev = W.ev) : W'.evB m := fun i => by rw [e]; exact h i
theorem evB_W0 {f : Int} : (W0 f).evB 0 := fun _ => Nat.le_refl 0
theorem Wd.evB.tell (h : W.evB m) {n : Nat} {e : Evt} : (W.tell n e).evB (m + 1) := fun i => by
  unfold Wd.tell
  show (upd W.ev n (W.ev n ++ [e]) i).length ≤ m + 1
  by_cases ei : i = n
  · subst ei; rw [upd_at, List.length_append]; have := h i; simp; omega
  · rw [upd_of ei]; have := h i; omega
theorem raise_ev {n k i : Nat} : (W.raise n k i).2.ev = W.ev := by unfold Wd.raise; split <;> rfl
theorem ring_ev {n : Nat} {a b : Int} : (W.ring n a b).2.ev = W.ev := by
  unfold Wd.ring; split
  · rfl
  · split
    · rfl
    · exact raise_ev
theorem nextKey_ev {n : Nat} : (W.nextKey n).2.2.ev = W.ev := by unfold Wd.nextKey; split <;> rfl
theorem offer_ev {n : Nat} {p to : Int} {w : Bool} : (W.offer n p to w).2.2.ev = W.ev := by
  unfold Wd.offer; split
  · rfl
  · split
    · rfl
    · split
      · rfl
      · split <;> rfl
theorem lease_ev {n : Nat} {c i p : Int} : (W.lease n c i p).2.ev = W.ev := by
  unfold Wd.lease; split
  · rfl
  · split
    · rfl
    · split
      · split <;> rfl
      · split
        · rfl
        · split
          · rfl
          · split
            · rfl
            · split <;> rfl
theorem give_ev {n : Nat} {p : Int} : (W.give n p).2.ev = W.ev := by
  unfold Wd.give; split
  · rfl
  · split <;> rfl
theorem get_ev {n : Nat} {p : Int} : (W.get n p).2.ev = W.ev := by
  unfold Wd.get; split
  · rfl
  · split
    · rfl
    · split
      · rfl
      · split <;> rfl
theorem load_ev {n : Nat} {s p : Int} : (W.load n s p).2.ev = W.ev := by
  unfold Wd.load; split
  · rfl
  · split
    · rfl
    · split <;> rfl
theorem save_ev {n : Nat} {s p : Int} : (W.save n s p).2.ev = W.ev := by
  unfold Wd.save; split
  · rfl
  · split
    · rfl
    · split <;> rfl
theorem ite_ind {α : Type} {P : α → Prop} {c : Prop} [Decidable c] {a b : α} (h1 : c → P a) (h2 : ¬ c → P b) : P (if c then a else b) := by
  by_cases h : c
  · rw [if_pos h]; exact h1 h
  · rw [if_neg h]; exact h2 h
theorem Wd.evB.call (h : W.evB m) {n k : Nat} {c w1 w2 w3 : Int} : (W.call n k c w1 w2 w3).2.2.evB (m + 1) := by
  have h1 := h.mono (Nat.le_succ m)
  unfold Wd.call
  refine ite_ind (P := fun r : Int × Int × Wd => r.2.2.evB (m + 1)) (fun _ => h.tell) fun _ => ?_
  refine ite_ind (P := fun r : Int × Int × Wd => r.2.2.evB (m + 1)) (fun _ => h1.of nextKey_ev) fun _ => ?_
  refine ite_ind (P := fun r : Int × Int × Wd => r.2.2.evB (m + 1)) (fun _ => h1.of ring_ev) fun _ => ?_
  refine ite_ind (P := fun r : Int × Int × Wd => r.2.2.evB (m + 1)) (fun _ => h1) fun _ => ?_
  refine ite_ind (P := fun r : Int × Int × Wd => r.2.2.evB (m + 1)) (fun _ => h1.of offer_ev) fun _ => ?_
  refine ite_ind (P := fun r : Int × Int × Wd => r.2.2.evB (m + 1)) (fun _ => h1.of lease_ev) fun _ => ?_
  refine ite_ind (P := fun r : Int × Int × Wd => r.2.2.evB (m + 1)) (fun _ => h1.of give_ev) fun _ => ?_
  refine ite_ind (P := fun r : Int × Int × Wd => r.2.2.evB (m + 1)) (fun _ => h1.of get_ev) fun _ => ?_
  refine ite_ind (P := fun r : Int × Int × Wd => r.2.2.evB (m + 1)) (fun _ => h1.of load_ev) fun _ => ?_
  refine ite_ind (P := fun r : Int × Int × Wd => r.2.2.evB (m + 1)) (fun _ => h1.of save_ev) fun _ => ?_
  refine ite_ind (P := fun r : Int × Int × Wd => r.2.2.evB (m + 1)) (fun _ => h1) fun _ => ?_
  refine ite_ind (P := fun r : Int × Int × Wd => r.2.2.evB (m + 1)) (fun _ => h1.of (W' := W.setV n _) rfl) fun _ => ?_
  exact h1
theorem Wd.evB.run (h : W.evB m) {n k : Int} : (W.run n k).2.evB (m + 3) := by
  unfold Wd.run
  by_cases h1 : ¬ W.there n ∨ k < 0 ∨ (W.vm n.toNat).seats.length ≤ k
  · rw [if_pos h1]; exact h.mono (by omega)
  rw [if_neg h1]
  dsimp only
  generalize stepM ((W.vm n.toNat).seat k.toNat) (W.gm n.toNat) (W.time n.toNat) k = o
  by_cases h2 : o.k = 5
  · rw [if_pos h2]; exact h.mono (by omega)
  rw [if_neg h2]
  have h3 : (((W.setDat o.g.dat).putSeat n.toNat k.toNat o.s).tell n.toNat (told o.k o.n k ((W.vm n.toNat).seat k.toNat).pc o.s)).evB (m + 1) := (h.of (W' := (W.setDat o.g.dat).putSeat n.toNat k.toNat o.s) rfl).tell
  split
  · unfold Wd.hyper
    dsimp only
    exact Wd.evB.tell (m := m + 2) (Wd.evB.of (h3.call (n := n.toNat) (k := k.toNat) (c := o.n)) rfl)
  · exact h3.mono (by omega)
theorem Wd.evB.create (h : W.evB m) {s q p : Int} {img : List Int} : (W.create s q p img).2.2.evB m := by
  unfold Wd.create
  split
  · exact h
  split
  · exact h
  split
  · exact h
  split
  · exact h
  · rename_i n _ _
    intro i
    show (upd W.ev n [] i).length ≤ m
    by_cases e : i = n
    · rw [e, upd_at]; exact Nat.zero_le _
    · rw [upd_of e]; exact h i
theorem Wd.evB.key (h : W.evB m) {n b : Int} : (W.key n b).2.evB m := by
  unfold Wd.key
  split
  · exact h
  split
  · exact h
  · exact h.of raise_ev
def Wd.runs (W : Wd) (n k : Int) : Nat → Wd
  | 0 => W
  | j + 1 => ((W.runs n k j).run n k).2
theorem Wd.evB.runs (h : W.evB m) {n k : Int} : ∀ {j : Nat}, (W.runs n k j).evB (m + 3 * j)
  | 0 => h
  | j + 1 => (Wd.evB.run (h.runs (j := j))).mono (by omega)
end
end Go.Cr
end
section
namespace Go.Proofs.YtabdpmnhjlmnlaaGreatDoor
open Go Go.Pt Go.Cr Go.Hp
def Lv (S0 : Mem) (ρ0 : Rho) (h : Nat) (S : Mem) (W : Wd) : Prop := ∃ ρ A C φ, Mv S0 ρ0 S ρ Rc ∧ CrabA S ρ h A C ∧ Rel C W φ
def rho0 : Rho := fun _ => none
section
variable {S S' S0 : Mem} {ρ ρ' ρ0 : Rho} {R : Nat → Prop} {h : Nat} {A : Ad} {C : Cst} {W : Wd} {φ : Nat → Nat → Nat}
theorem rg0 {S : Mem} : ∀ b r, rho0 b = some r → S b ≠ none := fun b r h => by cases h
theorem mv_keeps0 (m : Mv S rho0 S' ρ R) : Keeps S S' [] := fun b hb _ => m.kp b hb fun r e => by cases e
theorem Lv.keeps (l : Lv S rho0 h S' W) : Keeps S S' [] := by
  obtain ⟨ρ, A, C, φ, m, _⟩ := l
  exact mv_keeps0 m
theorem After.lv {W' : Wd} (m : Mv S0 ρ0 S ρ Rc) (hA : After h A C S ρ W' S') : Lv S0 ρ0 h S' W' := by
  obtain ⟨ρ', A', C', φ', m', hc, hr, _⟩ := hA
  exact ⟨ρ', A', C', φ', m.trans m', hc, hr⟩
theorem Aft.lv {W' : Wd} (m : Mv S0 ρ0 S ρ Rc) (hA : Aft h C S ρ W' S') : Lv S0 ρ0 h S' W' := by
  obtain ⟨ρ', A', C', φ', m', hc, hr, _⟩ := hA
  exact ⟨ρ', A', C', φ', m.trans m', hc, hr⟩
theorem Lv.on (l : Lv S0 ρ0 h S W) (hk : Keeps S S' []) : Lv S0 ρ0 h S' W := by
  obtain ⟨ρ, A, C, φ, m, hc, hr⟩ := l
  exact ⟨ρ, A, C, φ, m.then hk, hc.keeps hk, hr⟩
theorem new_L (hgl : Gl S) {form frames region : Int} {Q : Pt → Int → Mem → Prop} (hE : badNew form frames region → Q none 1 S)
    (hY : ¬ badNew form frames region → ∀ S' h, Lv S rho0 h S' (W0 (frames - region)) → Q (some (h, 0)) 0 S') : crab_New S form frames region Q :=
  new_spec rg0 rfl hgl hE fun hb S' ρ' h A l u m hc ht hl => hY hb S' h ⟨ρ', A, _, _, m, hc, rel_new hb ht hl⟩
theorem run_L (l : Lv S0 ρ0 h S W) {e : Nat} (he : W.evB e) (hel : e ≤ 800000000) {n k : Int} {Q : Int → Mem → Prop} (hQ : ∀ S', Lv S0 ρ0 h S' (W.run n k).2 → Q (W.run n k).1 S') : crab_Crab_Run S (some (h, 0)) n k Q := by
  obtain ⟨ρ, A, C, φ, m, hc, hr⟩ := l
  exact crun_spec hc hr (fun i => Nat.le_trans (he i) hel) fun S' hA => hQ S' (hA.lv m)
theorem key_L (l : Lv S0 ρ0 h S W) {n b : Int} (hb : 0 ≤ b ∧ b ≤ 255) {Q : Int → Mem → Prop} (hQ : ∀ S', Lv S0 ρ0 h S' (W.key n b).2 → Q (W.key n b).1 S') : crab_Crab_Key S (some (h, 0)) n b Q := by
  obtain ⟨ρ, A, C, φ, m, hc, hr⟩ := l
  exact key_spec hc hr hb fun S' hA => hQ S' (hA.lv m)
theorem events_L (l : Lv S0 ρ0 h S W) {n : Nat} (hn : n < 6) {e : Nat} (he : W.evB e) (hel : e ≤ 800000000) {Q : Sl → Mem → Prop}
    (hQ : ∀ t S', Keeps S S' [] → Row S' 4 t ((W.ev n).flatMap evL) → (∀ b o, t.p = some (b, o) → S b = none) → Q t S') : crab_Crab_Events S (some (h, 0)) n Q := by
  obtain ⟨ρ, A, C, φ, m, hc, hr⟩ := l
  rw [← hr.ev] at hQ
  exact events_spec hc hn (by rw [hr.ev]; have := he n; omega) hQ
theorem img_new {b : Nat} (hb : S b = none) (hg : ∀ b r, ρ b = some r → S b ≠ none) {k : Blk} {xs : List Int} (hk : k.cs = bL xs) (hf : lpart k.cs 0 xs.length = some (bL xs)) (hx : Byt xs) {c : Nat} (hS : S' b = some k) (hc : xs.length ≤ c) (hp : S'.part b 0 xs.length = some (bL xs)) : ImgAt S' ρ ⟨some (b, 0), xs.length, c⟩ xs :=
  ⟨rfl, hc, hx, .inr ⟨b, 0, rfl, hp, by
    cases e : ρ b with
    | none => rfl
    | some r => exact absurd hb (hg b r e), by rw [hS]; simp⟩⟩
theorem fm_get {α : Type} {f : α → List Value} {w : Nat} (h : ∀ a, (f a).length = w) {l : List α} {j k : Nat} (hj : j < l.length) (hk : k < w) : nthL (l.flatMap f) (j * w + k) = nthL (f l[j]) k := by
  obtain ⟨e1, e2⟩ := fm_split h hj
  rw [e1, nthL_skip e2, nthL_left (by rw [h]; exact hk)]
theorem row_get {S : Mem} {t : Sl} {l : List Evt} (h : Row S 4 t (l.flatMap evL)) (h0 : l ≠ []) : t.n = l.length ∧ ∃ b, t = ⟨some (b, 0), t.n, t.c⟩ ∧ (∀ i j x, (hi : i < l.length) → j < 4 → x = i * 4 + j → S.cell b x = nthL (evL l[i]) j) ∧ ∀ i x, (hi : i < l.length) → x = i * 4 → S.part b x 4 = some (evL l[i]) := by
  have hlen : (l.flatMap evL).length = l.length * 4 := fm_len ev_len l
  have hpos : 0 < l.length := List.length_pos_iff.2 h0
  have hw : Rw S (fun _ => some 0) 0 4 t (l.flatMap evL) := ⟨h, fun _ _ _ => rfl⟩
  refine ⟨hw.n (by decide) hlen, ?_⟩
  obtain ⟨b, e1, e2⟩ := hw.sl (by omega)
  refine ⟨b, e1, fun i j x hi hj hx => ?_, fun i x hi hx => ?_⟩
  · rw [hw.cell e2 (i * 4 + j) (by omega) hx, fm_get ev_len hi hj]
  · rw [hw.part e2 (i * 4) (by omega) hx, fm_part ev_len hi]
theorem byt_aw : Byt awImg := fun x hx => by
  simp only [awImg, List.mem_cons, List.not_mem_nil, or_false] at hx
  omega
theorem awake_spec (hgl : Gl S) {Q : Bool → Mem → Prop} (hQ : ∀ S', Keeps S S' [] → Q true S') : hermitcrablaw16_awake S Q := by
  apply t_hermitcrablaw16_awake
  unfold b_hermitcrablaw16_awake
  refine new_L hgl (fun h => absurd h (by decide)) fun _ S1 h l1 => ?_
  simp only [jn]
  rw [if_neg (by decide), if_neg (by simp)]
  obtain ⟨ρ, A, C, φ, m1, hc1, hr1⟩ := l1
  intro b hb
  refine ⟨_, set_same, rfl, ?_⟩
  have hk : Keeps S1 ((S1.set b (bw 5 [.int .u8 65, .int .u8 0, .int .u8 64, .int .u8 4, .int .u8 0, .int .u8 0, .int .u8 0, .int .u8 80])).set b ⟨5, [.int .u8 65, .int .u8 0, .int .u8 64, .int .u8 4, .int .u8 0, .int .u8 0, .int .u8 0, .int .u8 80], (8, 9)⟩) [] := fun x hx _ => by
    have : x ≠ b := fun e => hx (e ▸ hb)
    rw [set_ne this, set_ne this]
  have hc2 := hc1.keeps hk
  refine create_spec (xs := awImg) hc2 hr1 (img_new hb hc1.rg (k := ⟨5, bL awImg, (8, 9)⟩) rfl rfl byt_aw set_same (by decide) (by rw [part_of set_same]; rfl)) (by decide) fun S2 hA => ?_
  have l2 := hA.lv (m1.then hk)
  have ec : ((W0 (40 - 4)).create 1 4 1 awImg).1 = 0 ∧ ((W0 (40 - 4)).create 1 4 1 awImg).2.1 = 0 := aw_c
  rw [ec.1, ec.2]
  have e1 : awW1.evB 0 := evB_W0.create
  refine run_L l2 e1 (by decide) fun S3 l3 => ?_
  refine run_L l3 e1.run (by decide) fun S4 l4 => ?_
  obtain ⟨x1, x2, h1, h2, he⟩ := aw_ev
  refine events_L (n := 0) l4 (by decide) e1.run.run (by decide) fun t S5 hk5 hrow _ => ?_
  have hrow' : Row S5 4 t ([x1, x2, ⟨3, 0, 65, 0⟩, ⟨2, 0, 0, 0⟩].flatMap evL) := by
    rw [← he]; exact hrow
  obtain ⟨hn, c, ht, hcell, hpart⟩ := row_get hrow' (by simp)
  have hn4 : t.n = 4 := hn
  rw [if_pos rfl, if_pos (by omega), ht, sl_i]
  refine ⟨by omega, ?_⟩
  rw [gI_i (hcell 0 0 _ (by simp) (by decide) rfl)]
  rw [List.getElem_cons_zero, if_pos h1]
  refine ⟨by omega, ?_⟩
  rw [gI_i (hcell 1 0 _ (by simp) (by decide) rfl)]
  rw [show [x1, x2, (⟨3, 0, 65, 0⟩ : Evt), ⟨2, 0, 0, 0⟩][1] = x2 from rfl, if_pos h2]
  refine ⟨by omega, ?_⟩
  rw [gA_i (hpart 2 _ (by simp) rfl)]
  refine ⟨rfl, ?_⟩
  rw [if_pos (by rfl)]
  refine ⟨by omega, ?_⟩
  rw [gA_i (hpart 3 _ (by simp) rfl)]
  exact ⟨rfl, hQ _ (l4.keeps.trans hk5)⟩
end
end Go.Proofs.YtabdpmnhjlmnlaaGreatDoor
end
section
namespace Go.Pt
open Go Go.RowKit Go.ChangeShapes
def memOf (W : World) : Mem := fun b => match W.heap[b]? with
  | some (.cells c t fr) => some ⟨t, c.toList, fr⟩
  | _ => none
theorem memOf_st (W : World) : St W (memOf W) (memOf W) [] W := by
  refine ⟨rfl, rfl, rfl, Nat.le_refl _, fun _ _ _ => rfl, fun b k h => ?_, by simp, by simp, fun b h1 h2 => (h2 h1).elim, fun _ h => h⟩
  unfold memOf at h
  split at h
  · rename_i c t fr hh
    cases h
    simpa using hh
  · cases h
theorem memOf_cell {W : World} {b o : Nat} {v : Value} (h : W.cell? ⟨b, o, none⟩ = some v) : (memOf W).cell b o = some v := by
  unfold World.cell? at h
  unfold Mem.cell memOf
  split at h
  · rename_i c t fr hh
    simp only at hh
    simp only [Option.isSome_none, Bool.false_eq_true, if_false] at h
    rw [hh]
    simp only [nthL_eq]
    simpa using h
  · cases h
theorem calls_of_tr {P : Program} {f : FuncId} {args : List Value} {W : World} {u : Value} (h : Tr P f (memOf W) args (fun v S' => v = u ∧ Keeps (memOf W) S' [])) :
    Calls P f args.toArray W fun e W' => e = .returned u ∧ Below W.heap.size W W' := by
  refine (h W (memOf_st W)).mono ?_
  rintro e W' ⟨v, S', rfl, ⟨rfl, hk⟩, hS⟩
  refine ⟨rfl, hS.os, hS.tape, hS.output, hS.size, fun k hlt => ?_⟩
  cases hm : memOf W k with
  | none => exact hS.frame k hlt hm
  | some q =>
    have e1 := hS.mem k q (hk.get hm (by simp))
    have e2 := (memOf_st W).mem k q hm
    rw [e1, e2]
def BytesIn (S : Mem) (l : Sl) : Prop := ∀ i : Nat, i < l.n → ∃ b o z, l.p = some (b, o) ∧ S.cell b (o + i) = some (.int .u8 z) ∧ 0 ≤ z ∧ z ≤ 255
theorem BytesIn.keep {S S' : Mem} {l : Sl} (h : BytesIn S l) (hk : Keeps S S' []) : BytesIn S' l := fun i hi => by
  obtain ⟨b, o, z, h1, h2, h3⟩ := h i hi
  obtain ⟨k, h4, h5⟩ := cell_e h2
  exact ⟨b, o, z, h1, by rw [cell_of (hk.get h4 (by simp))]; exact h5, h3⟩
end Go.Pt
end
section
namespace Go.Pt
open Go Go.RowKit Go.ChangeShapes
def NumsIn (S : Mem) (l : Sl) : Prop := ∀ i : Nat, i < l.n → ∃ b o z, l.p = some (b, o) ∧ S.cell b (o + i) = some (.int .u64 z) ∧ 0 ≤ z ∧ z ≤ 18446744073709551615
theorem NumsIn.keep {S S' : Mem} {l : Sl} (h : NumsIn S l) (hk : Keeps S S' []) : NumsIn S' l := fun i hi => by
  obtain ⟨b, o, z, h1, h2, h3⟩ := h i hi
  obtain ⟨k, h4, h5⟩ := cell_e h2
  exact ⟨b, o, z, h1, by rw [cell_of (hk.get h4 (by simp))]; exact h5, h3⟩
end Go.Pt
end
section
namespace Go.Pt
open Go Go.RowKit Go.ChangeShapes Go.WideShapes Go.ChangeAt Go.Lib
theorem handed_both {H : Type} {enc : TypeId × Value → H} {a : Assume} {C : Checked} {os : Os} {f : FuncId} {fn : Func} {s : ChangeSpec} {conds : List PathCond} {apart fresh handsOn again : Bool} {X : World → Array Value → Prop}
    (hX : ∀ (w w' : World) (args : Array Value), w.heap = w'.heap → X w args → X w' args) (own : ownKnob C.prog.godebug = none) (started : os.Started) (noInit : C.prog.inits.idxOf? f = none) (hfn : C.prog.funcs[f]? = some fn)
    (witness : ∃ (w : World) (tape : Tape) (i : Input), w.os = os ∧ (w.forCall tape i).Shaped C.prog ∧ i.vars = [] ∧ Input.okWide C.prog (w.forCall tape i) .any w.heap.size f i ∧
      ((s.pre enc C.prog fn conds apart (w.forCall tape i).memory i.args ∧ X (w.forCall tape i).memory i.args) ∧ sizedMet enc C.prog fn (OpenSpec.ofChange s) apart (w.forCall tape i).memory i.args) ∧ a.holds C.prog (lone (Frame.enter C.prog f i.args .normal) [] (w.forCall tape i)))
    (law : ∀ (W : World) (base : Nat) (args : Array Value) (ds gs : List (DataW H)) (before : List MemPlace), (∀ (j : Nat) t v, fn.params[j]? = some t → args[j]? = some v → Value.okWide C.prog W .any base t v) →
      DataW.Whole enc C.prog fn.params.toList s.vars apart W args.toList ds gs before → X W args → W.ShapedOpen C.prog →
      Calls C.prog f args W fun e W' => ∃ v, e = .returned v ∧ s.post enc C.prog fn apart fresh handsOn again W args v W') :
    ReturnsInHanded a C os f .any (fun w args => (s.pre enc C.prog fn conds apart w args ∧ X w args) ∧ sizedMet enc C.prog fn (OpenSpec.ofChange s) apart w args) (s.post enc C.prog fn apart fresh handsOn again) :=
  returnsInHanded_of_calls own started noInit witness fun w tape i _ hsh _ hok hpre _ => by
    obtain ⟨_, _, _, g, hg, _, _, _, _, hval⟩ := hok
    obtain rfl : g = fn := Option.some.inj (hg.symm.trans hfn)
    obtain ⟨⟨⟨ds, gs, before, hw, _⟩, hx⟩, _⟩ := hpre
    refine (law (w.forCall tape i) w.heap.size i.args ds gs before hval (DataW.Whole.of_heap (w' := w.forCall tape i) (by rfl) hw) (hX _ _ _ (by rfl) hx) hsh).mono fun e W' h => ?_
    obtain ⟨v, rfl, hp⟩ := h
    exact ChangeSpec.post_blind hp
theorem and_i {a b : Bool} (h : a = true) (k : b = true) : (a && b) = true := by rw [h, k]; rfl
end Go.Pt
namespace Go.Proofs.YtabdpmnhjlmnlaaGreatDoor
open Go Go.Pt Go.RowKit Go.Lib Go.Cr Go.ChangeShapes Go.WideShapes
set_option maxRecDepth 10000
theorem cell_row {W : World} {P : Program} {n : String} {g : Nat} {cs : Array Value} (hg : P.globalNamed n = some g) (h : W.var? P n = some cs) : ∃ t fr, memOf W g = some ⟨t, cs.toList, fr⟩ := by
  unfold World.var? at h
  rw [hg] at h
  simp only [Option.bind_some] at h
  split at h
  · rename_i c t fr hh
    cases h
    exact ⟨t, fr, by unfold memOf; rw [hh]⟩
  · cases h
theorem gl_of_laid {W : World} (h : laidMetH Tryz.prog Rows.crabBeginsRow.laid W) : Gl (memOf W) := by
  rw [MakeChecks.laidMetH_plain _ _ _ (by kernel_rfl)] at h
  have hp : VarReads Tryz.prog W "math/bits.deBruijn64tab" Rows.laid_math_bits_deBruijn64tab := laidMet.reads h (by simp [Rows.crabBeginsRow])
  obtain ⟨g, t, cs, fuel, p, hg, ht, hv, hd⟩ := hp
  obtain rfl := Option.some.inj ((show Tryz.prog.globalNamed "math/bits.deBruijn64tab" = some 0 by kernel_rfl).symm.trans hg)
  obtain rfl := Option.some.inj ((show (Tryz.prog.globals[0]?).map (·.type) = some 337 by kernel_rfl).symm.trans ht)
  obtain ⟨t', fr, hm⟩ := cell_row hg hv
  have e : (Rows.laid_math_bits_deBruijn64tab : DataW Unit) = tabData .u8 (deBruijn64tab.map fun (n : Nat) => (n : Int)) := by kernel_rfl
  rw [e] at hd
  have hcs := cells_of_tab Tryz.underlying337 Tryz.underlying5 (by kernel_rfl) (by kernel_rfl) hd
  rw [hcs, List.map_map] at hm
  exact ⟨t', fr, hm⟩
end Go.Proofs.YtabdpmnhjlmnlaaGreatDoor
end
section
namespace Go.Proofs.YtabdpmnhjlmnlaaGreatDoor
open Go Go.Pt Go.RowKit Go.Lib Go.Cr Go.ChangeShapes Go.WideShapes
structure By (S : Mem) (l : Sl) (xs : List Int) : Prop where
  len : xs.length = l.n
  cap : l.n ≤ l.c
  byt : Byt xs
  lie : xs = [] ∨ ∃ b o, l.p = some (b, o) ∧ S b ≠ none ∧ S.part b o xs.length = some (bL xs)
theorem By.keep {S S' : Mem} {l : Sl} {xs : List Int} (h : By S l xs) (hk : Keeps S S' []) : By S' l xs :=
  ⟨h.len, h.cap, h.byt, h.lie.imp id fun ⟨b, o, h1, h2, h3⟩ => by
    have e := hk b h2 (by simp)
    obtain ⟨k, hk⟩ := Option.ne_none_iff_exists'.1 h2
    exact ⟨b, o, h1, by rw [e]; exact h2, by rw [part_of hk] at h3; rw [part_of (e.trans hk)]; exact h3⟩⟩
theorem By.img {S : Mem} {ρ : Rho} {l : Sl} {xs : List Int} (h : By S l xs) (hr : ∀ b o, l.p = some (b, o) → ρ b = none) : ImgAt S ρ l xs :=
  ⟨h.len, h.cap, h.byt, h.lie.imp id fun ⟨b, o, h1, h2, h3⟩ => ⟨b, o, h1, h3, hr b o h1, h2⟩⟩
theorem open_by {H : Type} {enc : TypeId × Value → H} {P : Program} {W : World} {base bs : Nat} {spare : Nat → Bool} {held : Bool} {r : Reach} {t e : TypeId} {v : Value} {d : DataW H} {ps : List MemPlace}
    (ht : P.underlying t = some (.slice e)) (he : P.underlying e = some (.int .u8)) (hc : P.cellsOf e = 1) (hval : Value.okWide P W r bs t v) (h : DataW.Trod enc P W base spare held t v d ps) : ∃ (l : Sl) (xs : List Int), v = eL l ∧ By (memOf W) l xs := by
  obtain ⟨fuel, hf⟩ := h
  rcases open_ints ht he hc hf with ⟨h0, _⟩ | ⟨a, len, cap, zs, h0, _, hl, hm, hz, _, hcell, hw⟩
  · refine ⟨⟨none, 0, 0⟩, [], ?_, ⟨rfl, Nat.le_refl _, fun x hx => (by cases hx), .inl rfl⟩⟩
    cases v <;> simp_all [Value.cells, eL, adr, Value.okWide, Cell.okWide, Cell.ok]
  · have hv : v = .slice (some a) len cap := by
      cases v <;> simp_all [Value.cells, Value.okWide, Cell.okWide, Cell.ok]
    subst hv
    have hval' : a.spot = none ∧ len ≤ cap := by
      simp only [Value.okWide, ht, Cell.okWide, Cell.ok] at hval
      exact ⟨hval.2.2.2.1, hval.1⟩
    obtain ⟨b, o, sp⟩ := a
    simp only at hval'
    obtain ⟨hsp, hcap⟩ := hval'
    subst hsp
    have hln : len ≤ zs.length := by rw [hz]; split <;> omega
    refine ⟨⟨some (b, o), len, cap⟩, zs.take len, rfl, ⟨?_, hcap, fun x hx => bounds_u8 (hw _ (List.mem_of_mem_take hx)), ?_⟩⟩
    · simp only [List.length_take]; omega
    · by_cases h0 : len = 0
      · left; rw [h0]; rfl
      right
      have key : ∀ i, i < len → (memOf W).cell b (o + i) = some (.int .u8 (zs.getD i 0)) := fun i hi => by
        have := hcell i (by omega)
        have e : (⟨b, o, none⟩ : Addr).add i = ⟨b, o + i, none⟩ := by unfold Addr.add; split <;> simp_all
        rw [e] at this
        exact memOf_cell this
      obtain ⟨k, hk, _⟩ := cell_e (key 0 (by omega))
      have hlt : ∀ i, i < len → k.cs[o + i]? = some (.int .u8 (zs.getD i 0)) := fun i hi => by
        have := key i hi
        rw [cell_of hk, nthL_eq] at this
        exact this
      have hb : o + (len - 1) < k.cs.length := by
        have := hlt (len - 1) (by omega)
        exact (List.getElem?_eq_some_iff.1 this).1
      have hll : (zs.take len).length = len := by rw [List.length_take]; omega
      refine ⟨b, o, rfl, by rw [hk]; simp, ?_⟩
      rw [hll, part_of hk, lpart_i (by omega)]
      congr 1
      apply List.ext_getElem?
      intro i
      rw [List.getElem?_take, List.getElem?_drop]
      unfold bL
      rw [List.getElem?_map, List.getElem?_take]
      by_cases hi : i < len
      · rw [if_pos hi, if_pos hi, hlt i hi, List.getElem?_eq_getElem (by omega), List.getD_eq_getElem?_getD, List.getElem?_eq_getElem (by omega)]; rfl
      · rw [if_neg hi, if_neg hi]; rfl
end Go.Proofs.YtabdpmnhjlmnlaaGreatDoor
end
section
namespace Go.Cr
open Go Go.Pt
structure One (W : Wd) (n : Nat) (s : Seat) : Prop where
  lt : n < 6
  on : (W.vm n).on = true
  seats : (W.vm n).seats = [s]
def Wd.done (W : Wd) (n : Nat) (s s' : Seat) (k c : Int) : Wd := (W.putSeat n 0 s').tell n (told k c 0 s.pc s')
section
variable {W : Wd} {n : Nat} {s s' : Seat} {g : GM} {k c : Int}
theorem One.seat (h : One W n s) : (W.vm n).seat 0 = s := by unfold Bv.seat; rw [h.seats]; rfl
theorem One.run (h : One W n s) (ho : stepM s (W.gm n) (W.time n) 0 = ⟨s', k, c, g⟩) (h5 : k ≠ 5) : W.run n 0 = (0, if k = 2 then ((W.setDat g.dat).done n s s' k c).hyper n 0 c s' else (W.setDat g.dat).done n s s' k c) := by
  have ht : W.there (n : Int) := ⟨by omega, by have := h.lt; omega, by rw [Int.toNat_natCast]; exact h.on⟩
  unfold Wd.run
  rw [Int.toNat_natCast, if_neg (by
    rintro (h1 | h1 | h1)
    · exact h1 ht
    · omega
    · rw [h.seats] at h1; simp at h1)]
  dsimp only
  rw [show (0 : Int).toNat = 0 from rfl, h.seat, ho]
  dsimp only
  rw [if_neg h5]
  rfl
theorem done_vm (m : Nat) : (W.done n s s' k c).vm m = if m = n then (W.vm n).setSeat 0 s' else W.vm m := by
  show upd W.vm n _ m = _
  unfold upd; rfl
theorem One.done (h : One W n s) : One (W.done n s s' k c) n s' := by
  refine ⟨h.lt, ?_, ?_⟩
  · rw [done_vm, if_pos rfl]; exact h.on
  · rw [done_vm, if_pos rfl]
    show (W.vm n).seats.set 0 s' = [s']
    rw [h.seats]; rfl
theorem done_keys : ((W.done n s s' k c).vm n).keys = (W.vm n).keys := by rw [done_vm, if_pos rfl]; rfl
theorem done_ev : (W.done n s s' k c).ev n = W.ev n ++ [told k c 0 s.pc s'] := upd_at
theorem done_own : (W.done n s s' k c).own = W.own := rfl
theorem step_of {time me w : Int} (h0 : s.st = 0) (ho : s.opn = false) (hb : s.base = 0) {pc : Nat} (hpc : s.pc = pc) (hp : pc % 4 = 0) (hlt : pc < 256) {f : Nat} {b : Bool} (hm : g.map 0 = some (f, b)) {page : List Int} (hd : g.dat f = page) (hw : num ((page.drop pc).take 4) = w) (hi : isW w) : stepM s g time me = doM s g time me (dK w) (dA w) (dB w) (dC w) (dN w) := by
  unfold stepM
  rw [if_neg (by rw [h0]; simp)]
  have hn : nextL s = none := by unfold nextL; rw [if_neg (by rw [ho]; simp)]
  have hg : getW s g s.pc 4 = some w := by
    unfold getW place
    rw [if_neg (by omega), if_pos hb]
    dsimp only
    rw [if_neg (by omega)]
    unfold ldB
    rw [show (s.pc / 256).toNat = 0 by omega, show (s.pc % 256).toNat = pc by omega, hm]
    simp only [Option.map_some, hd, hw]
  rw [hn, hg]
  dsimp only
  rw [if_pos hi]
end
section
variable {s : Seat} {g : GM} {t me a b c n : Int}
theorem doM1 : doM s g t me 1 a b c n = ⟨{ s.setr a (x64 n) with pc := x64 (s.pc + 4) }, 0, 0, g⟩ := rfl
theorem doM14 : doM s g t me 14 a b c n = ⟨{ s with pc := if s.r a = s.r b then x64 (s.pc + x64 (4 * x64 n)) else x64 (s.pc + 4) }, 0, 0, g⟩ := rfl
theorem doM20 : doM s g t me 20 a b c n = ⟨{ s with pc := x64 (s.pc + 4) }, 2, x64 n, g⟩ := rfl
end
def Wd.ans (W : Wd) (n : Nat) (c e v : Int) : Wd := (W.putSeat n 0 (((W.vm n).seat 0).answer e v)).tell n ⟨2, 0, ior .u64 (x64 (c * 256)) e, v⟩
section
variable {W W' : Wd} {n : Nat} {s : Seat} {c e v : Int}
theorem hyper_eq (h : W.call n 0 c (s.r 1) (s.r 2) (s.r 3) = (v, e, W')) : W.hyper n 0 c s = W'.ans n c e v := by
  unfold Wd.hyper
  rw [h]; rfl
theorem ans_vm (m : Nat) : (W.ans n c e v).vm m = if m = n then (W.vm n).setSeat 0 (((W.vm n).seat 0).answer e v) else W.vm m := by
  show upd W.vm n _ m = _
  unfold upd; rfl
theorem One.ans (h : One W n s) : One (W.ans n c e v) n (s.answer e v) := by
  refine ⟨h.lt, ?_, ?_⟩
  · rw [ans_vm, if_pos rfl]; exact h.on
  · rw [ans_vm, if_pos rfl, h.seat]
    show (W.vm n).seats.set 0 _ = _
    rw [h.seats]; rfl
theorem ans_keys : ((W.ans n c e v).vm n).keys = (W.vm n).keys := by rw [ans_vm, if_pos rfl]; rfl
theorem ans_ev : (W.ans n c e v).ev n = W.ev n ++ [⟨2, 0, ior .u64 (x64 (c * 256)) e, v⟩] := upd_at
theorem ans_own : (W.ans n c e v).own = W.own := rfl
theorem gm_own {p : Nat} (hp : p < 32) {l : List Int} (h : W.own n p = some l) : (W.gm n).map p = some (32 * n + p, true) ∧ (W.gm n).dat (32 * n + p) = l := by
  constructor
  · show (if 32 ≤ p then none else (W.where_ n p).map fun q => (32 * q.1 + q.2.1, q.2.2)) = _
    rw [if_neg (by omega)]
    unfold Wd.where_
    rw [if_pos (by rw [h]; rfl)]; rfl
  · show (W.own ((32 * n + p) / 32) ((32 * n + p) % 32)).getD [] = l
    rw [show (32 * n + p) / 32 = n by omega, show (32 * n + p) % 32 = p by omega, h]; rfl
end
end Go.Cr
end
section
namespace Go.Cr
open Go Go.Pt
def keyImg : List Int := [8, 0, 0, 5, 1, 0, 0, 80, 255, 255, 168, 58]
structure KX (W : Wd) (pc : Nat) (l : List Int) : Prop where
  ex : ∃ s : Seat, One W 0 s ∧ s.st = 0 ∧ s.opn = false ∧ s.base = 0 ∧ s.pc = pc
  keys : (W.vm 0).keys = l
  own : W.own 0 0 = some (pageB keyImg 0)
theorem One.setV {W : Wd} {n : Nat} {s s' : Seat} (h : One W n s) {v : Bv} {b : Bool} (hb : b = true) (h1 : v.on = b) (h2 : v.seats = [s']) : One (W.setV n v) n s' := by
  subst hb
  refine ⟨h.lt, ?_, ?_⟩
  · show Bv.on (upd W.vm n v n) = true
    rw [upd_at]; exact h1
  · show Bv.seats (upd W.vm n v n) = [s']
    rw [upd_at]; exact h2
theorem isW_li : isW 83886088 := by decide +kernel
theorem isW_hvc : isW 1342177281 := by decide +kernel
theorem isW_beq : isW 984154111 := by decide +kernel
section
variable {W : Wd} {l : List Int}
theorem KX.done {pc : Nat} (h : KX W pc l) {s s' : Seat} (ho : One W 0 s) {pc' : Nat} (h1 : s'.st = 0) (h2 : s'.opn = false) (h3 : s'.base = 0) (h4 : s'.pc = pc') {k c : Int} : KX (W.done 0 s s' k c) pc' l :=
  ⟨⟨s', ho.done, h1, h2, h3, h4⟩, by rw [done_keys]; exact h.keys, by rw [done_own]; exact h.own⟩
theorem KX.hvc (hwk : WOk W) (h : KX W 4 l) : (W.run 0 0).1 = 0 ∧ KX (W.run 0 0).2 8 l.tail ∧ ∃ x, (W.run 0 0).2.ev 0 = W.ev 0 ++ [x, ⟨2, 0, if l = [] then 258 else 256, l.headD 0⟩] := by
  obtain ⟨s, ho, h1, h2, h3, h4⟩ := h.ex
  obtain ⟨g1, g2⟩ := gm_own (n := 0) (by decide) h.own
  have hst : stepM s (W.gm 0) (W.time 0) 0 = ⟨{ s with pc := 8 }, 2, 1, W.gm 0⟩ := by
    rw [step_of (w := 1342177281) h1 h2 h3 h4 (by decide) (by decide) g1 g2 (by decide +kernel) isW_hvc]
    have e1 : dK 1342177281 = 20 := by decide
    have e2 : dN 1342177281 = 1 := by decide
    rw [e1, e2, doM20, h4]; rfl
  have hr := ho.run hst (by decide)
  rw [show ((0 : Nat) : Int) = 0 from rfl, if_pos rfl] at hr
  rw [setDat_self fun m q l h => (hwk.pg m q l h).2.1] at hr
  rw [hr]
  have hd : KX (W.done 0 s { s with pc := 8 } 2 1) 8 l := h.done (s' := { s with pc := 8 }) ho h1 h2 h3 (pc' := 8) rfl
  have hdo : One (W.done 0 s { s with pc := 8 } 2 1) 0 { s with pc := 8 } := ho.done
  have hdk := hd.keys
  refine ⟨rfl, ?_⟩
  cases l with
  | nil =>
    have hcall : (W.done 0 s { s with pc := 8 } 2 1).call 0 0 1 (({ s with pc := 8 } : Seat).r 1) (({ s with pc := 8 } : Seat).r 2) (({ s with pc := 8 } : Seat).r 3) = (0, 2, W.done 0 s { s with pc := 8 } 2 1) := by
      show Wd.nextKey _ 0 = _
      unfold Wd.nextKey
      rw [hdk]
    rw [hyper_eq hcall]
    refine ⟨⟨⟨_, hdo.ans, h1, h2, h3, rfl⟩, by rw [ans_keys]; exact hdk, by rw [ans_own]; exact hd.own⟩, told 2 1 0 s.pc { s with pc := 8 }, ?_⟩
    rw [ans_ev, done_ev, List.append_assoc]; rfl
  | cons x l =>
    have hcall : (W.done 0 s { s with pc := 8 } 2 1).call 0 0 1 (({ s with pc := 8 } : Seat).r 1) (({ s with pc := 8 } : Seat).r 2) (({ s with pc := 8 } : Seat).r 3) = (x, 0, (W.done 0 s { s with pc := 8 } 2 1).setV 0 (((W.done 0 s { s with pc := 8 } 2 1).vm 0).setKeys l)) := by
      show Wd.nextKey _ 0 = _
      unfold Wd.nextKey
      rw [hdk]
    rw [hyper_eq hcall]
    have hdo2 : One ((W.done 0 s { s with pc := 8 } 2 1).setV 0 (((W.done 0 s { s with pc := 8 } 2 1).vm 0).setKeys l)) 0 { s with pc := 8 } := hdo.setV rfl hdo.on hdo.seats
    refine ⟨⟨⟨_, hdo2.ans, h1, h2, h3, rfl⟩, ?_, by rw [ans_own]; exact hd.own⟩, told 2 1 0 s.pc { s with pc := 8 }, ?_⟩
    · rw [ans_keys]
      show Bv.keys (upd (W.done 0 s { s with pc := 8 } 2 1).vm 0 (((W.done 0 s { s with pc := 8 } 2 1).vm 0).setKeys l) 0) = _
      rw [upd_at]; rfl
    · rw [ans_ev]
      show (W.done 0 s { s with pc := 8 } 2 1).ev 0 ++ _ = _
      rw [done_ev, List.append_assoc]; rfl
theorem KX.beq (hwk : WOk W) (h : KX W 8 l) : (W.run 0 0).1 = 0 ∧ KX (W.run 0 0).2 4 l ∧ ∃ x, (W.run 0 0).2.ev 0 = W.ev 0 ++ [x] := by
  obtain ⟨s, ho, h1, h2, h3, h4⟩ := h.ex
  obtain ⟨g1, g2⟩ := gm_own (n := 0) (by decide) h.own
  have hst : stepM s (W.gm 0) (W.time 0) 0 = ⟨{ s with pc := 4 }, 0, 0, W.gm 0⟩ := by
    rw [step_of (w := 984154111) h1 h2 h3 h4 (by decide) (by decide) g1 g2 (by decide +kernel) isW_beq]
    have e1 : dK 984154111 = 14 := by decide
    have e2 : dN 984154111 = -1 := by decide
    have e3 : dA 984154111 = dB 984154111 := by decide
    rw [e1, e2, e3, doM14, if_pos rfl, h4]; rfl
  have hr := ho.run hst (by decide)
  rw [show ((0 : Nat) : Int) = 0 from rfl, if_neg (by decide)] at hr
  rw [setDat_self fun m q l h => (hwk.pg m q l h).2.1] at hr
  rw [hr]
  exact ⟨rfl, h.done (s' := { s with pc := 4 }) ho h1 h2 h3 (pc' := 4) rfl, _, done_ev⟩
theorem KX.li (hwk : WOk W) (h : KX W 0 l) : (W.run 0 0).1 = 0 ∧ KX (W.run 0 0).2 4 l ∧ ∃ x, (W.run 0 0).2.ev 0 = W.ev 0 ++ [x] := by
  obtain ⟨s, ho, h1, h2, h3, h4⟩ := h.ex
  obtain ⟨g1, g2⟩ := gm_own (n := 0) (by decide) h.own
  have hst : stepM s (W.gm 0) (W.time 0) 0 = ⟨{ s.setr (dA 83886088) 8 with pc := 4 }, 0, 0, W.gm 0⟩ := by
    rw [step_of (w := 83886088) h1 h2 h3 h4 (by decide) (by decide) g1 g2 (by decide +kernel) isW_li]
    have e1 : dK 83886088 = 1 := by decide
    have e2 : dN 83886088 = 8 := by decide
    rw [e1, e2, doM1, h4]; rfl
  have hr := ho.run hst (by decide)
  rw [show ((0 : Nat) : Int) = 0 from rfl, if_neg (by decide)] at hr
  rw [setDat_self fun m q l h => (hwk.pg m q l h).2.1] at hr
  rw [hr]
  exact ⟨rfl, h.done (s' := { s.setr (dA 83886088) 8 with pc := 4 }) ho h1 h2 h3 (pc' := 4) rfl, _, done_ev⟩
end
end Go.Cr
end
section
namespace Go.Proofs.YtabdpmnhjlmnlaaGreatDoor
open Go Go.Pt
attribute [local irreducible] Code.wp Back bodyPost wpList FR WL WC WQ WA AW Tr Yc HC AllC
set_option maxRecDepth 20000
set_option maxHeartbeats 4000000
set_option linter.unusedVariables false
def b_hermitcrablaw16_CrabKeys (S : Mem) (keys : Sl) (n : Int) (Q : Bool → Mem → Prop) : Prop :=
 jn (fun (Sx : Mem) =>
 crab_New Sx 1 40 4 fun t t_1 Sx_1 =>
 jn (fun (Sx_2 : Mem) =>
 al Sx_2 5 ([.int .u8 8, .int .u8 0, .int .u8 0, .int .u8 5, .int .u8 1, .int .u8 0, .int .u8 0, .int .u8 80, .int .u8 255, .int .u8 255, .int .u8 168, .int .u8 58]) fun b Sx_3 =>
 fz Sx_3 b fun Sx_4 =>
 crab_Crab_Create Sx_4 t 1 4 1 (⟨some (b, 0), 12, 12⟩) fun t_2 t_3 Sx_5 =>
 jn (fun (Sx_6 : Mem) =>
 jn (fun (Sx_7 : Mem) =>
 crab_Crab_Run Sx_7 t t_2 0 fun t_4 Sx_8 =>
 jn (fun (Sx_9 : Mem) =>
 Q true Sx_9) fun Jx =>
 lp (fun Xx (i : Int) (Sx_10 : Mem) =>
 jn (fun (Sx_11 : Mem) =>
 jn (fun (Sx_12 : Mem) =>
 Xx (IntKind.i64.wrap (i + 1)) Sx_12) fun Jx_1 =>
 crab_Crab_Run Sx_11 t t_2 0 fun t_5 Sx_13 =>
 crab_Crab_Run Sx_13 t t_2 0 fun t_6 Sx_14 =>
 crab_Crab_Events Sx_14 t t_2 fun t_7 Sx_15 =>
 jn (fun (Sx_16 : Mem) =>
 sl t_7 fun b_1 o n_1 n_2 =>
 0 ≤ IntKind.i64.wrap ((t_7.n : Int) - 2) ∧ IntKind.i64.wrap ((t_7.n : Int) - 2) < ((n_1 : Nat) : Int) ∧
 gA (Sx_16.part b_1 (o + (IntKind.i64.wrap ((t_7.n : Int) - 2)).toNat * 4) 4) fun t_8 =>
 t_8.all (·.oneCell') = true ∧
 jn (fun (want : List Value) (Sx_17 : Mem) =>
 want.length = 4 ∧
 fits [.i .u8, .i .i64, .i .u64, .i .u64] t_8 = true ∧
 fits [.i .u8, .i .i64, .i .u64, .i .u64] want = true ∧
 if (!(eqL t_8 want)) = true then
 Q false Sx_17
 else
 Jx_1 Sx_17) fun Jx_2 =>
 if i < (keys.n : Int) then
 if i < 64 then
 sl keys fun b_4 o_1 n_3 n_4 =>
 0 ≤ i ∧ i < ((n_3 : Nat) : Int) ∧
 gI (Sx_16.cell b_4 (o_1 + i.toNat * 1)) .u8 fun t_9 =>
 Jx_2 ([.int .u8 2, .int .i64 0, .int .u64 256, .int .u64 (IntKind.u64.wrap t_9)]) Sx_16
 else
 Jx_2 ([.int .u8 2, .int .i64 0, .int .u64 258, .int .u64 0]) Sx_16
 else
 Jx_2 ([.int .u8 2, .int .i64 0, .int .u64 258, .int .u64 0]) Sx_16) fun Jx_3 =>
 if (t_7.n : Int) < 2 then
 Q false Sx_15
 else
 Jx_3 Sx_15) fun Jx_4 =>
 if i < IntKind.i64.wrap (Int.tmod n 80) then
 Jx_4 Sx_10
 else
 Jx Sx_10) 0 Sx_8) fun Jx_5 =>
 lp (fun Xx_1 (i_1 : Int) (Sx_18 : Mem) =>
 jn (fun (Sx_19 : Mem) =>
 sl keys fun b_5 o_2 n_5 n_6 =>
 0 ≤ i_1 ∧ i_1 < ((n_5 : Nat) : Int) ∧
 gI (Sx_19.cell b_5 (o_2 + i_1.toNat * 1)) .u8 fun t_10 =>
 crab_Crab_Key Sx_19 t t_2 t_10 fun t_11 Sx_20 =>
 if decide (t_11 = 0) ≠ decide (i_1 < 64) then
 Q false Sx_20
 else
 if t_11 ≠ 0 then
 if t_11 ≠ 3 then
 Q false Sx_20
 else
 Xx_1 (IntKind.i64.wrap (i_1 + 1)) Sx_20
 else
 Xx_1 (IntKind.i64.wrap (i_1 + 1)) Sx_20) fun Jx_6 =>
 if i_1 < (keys.n : Int) then
 Jx_6 Sx_18
 else
 Jx_5 Sx_18) 0 Sx_6) fun Jx_7 =>
 if t_3 ≠ 0 then
 Q false Sx_5
 else
 Jx_7 Sx_5) fun Jx_8 =>
 if t_1 ≠ 0 then
 Q false Sx_1
 else
 Jx_8 Sx_1) fun Jx_9 =>
 hermitcrablaw16_awake S fun t_12 Sx_21 =>
 if t_12 = true then
 if 100 < (keys.n : Int) then
 hermitcrablaw16_awake Sx_21 fun t_13 Sx_22 =>
 Q t_13 Sx_22
 else
 Jx_9 Sx_21
 else
 hermitcrablaw16_awake Sx_21 fun t_14 Sx_23 =>
 Q t_14 Sx_23
theorem t_hermitcrablaw16_CrabKeys {S : Mem} {keys : Sl} {n : Int} {Q : Bool → Mem → Prop} (H : b_hermitcrablaw16_CrabKeys S keys n Q) : hermitcrablaw16_CrabKeys S keys n Q := by
 unfold b_hermitcrablaw16_CrabKeys at H
 exact Tr.intro Tryz.func6 E Tryz.ntmps6 E fun w0 => csr<|gv E E<|nx<|c_join2 H (fun (J : Mem → Prop) (z : Unit) S => J S) (fun z => ⟨110, [(0, eL keys), (1, .int .u8 n)]⟩) (fun z => []) (fun _ Sx H1 => csr<|s_k2 E E H1 fun t t_1 Sx_1 H2 => mv E E<|s_p E (y_extract E E)<|s_p E (y_extract E E)<|gv E E<|gv E E<|nx<|c_join2 H2 (fun (J : Mem → Prop) (z : Unit) S => J S) (fun z => ⟨110, [(0, eL keys), (1, .int .u8 n), (5, eP t)]⟩) (fun z => []) (fun _ Sx_2 H3 => csr<|mv E E<|s_bs E E (by decide) E fun b => s_pub 0 E fun hb => have H4 := H3 b hb; s_fz E E H4 fun Sx_4 H5 => s_k2 E E H5 fun t_2 t_3 Sx_5 H6 => mv E E<|s_p E (y_extract E E)<|s_p E (y_extract E E)<|gv E E<|gv E E<|nx<|c_join2 H6 (fun (J : Mem → Prop) (z : Unit) S => J S) (fun z => ⟨110, [(0, eL keys), (1, .int .u8 n), (5, eP t), (7, .int .i64 t_2)]⟩) (fun z => []) (fun _ Sx_6 H7 => c_join2 H7 (fun (J : Mem → Prop) (z : Unit) S => J S) (fun z => ⟨110, [(0, eL keys), (1, .int .u8 n), (5, eP t), (7, .int .i64 t_2)]⟩) (fun z => []) (fun _ Sx_7 H8 => csr<|mv E E<|mv E E<|s_k1 E E H8 fun t_4 Sx_8 H9 => nx<|c_join2 H9 (fun (J : Mem → Prop) (z : Unit) S => J S) (fun z => ⟨110, []⟩) (fun z => []) (fun _ Sx_9 H10 => csr<|gv E E<|nx<|c_ret<|by exact q_ret Tryz.results6 (rv_tmp E rv_nil) ⟨_, E, H10⟩) (fun Jx hJx H11 => csr<|gv E E<|nx<|c_block<|by exact c_loop (fun z => ⟨110, [(0, eL keys), (1, .int .u8 n), (5, eP t), (7, .int .i64 t_2), (11, .int .i64 z)]⟩) (fun z => []) 0 (idx := []) H11 E ⟨E, E, E, E, E, True.intro⟩ E<|fun Xx hXx i Sx_10 H12 => c_join2 H12 (fun (J : Mem → Prop) (z : Unit) S => J S) (fun z => ⟨110, [(0, eL keys), (1, .int .u8 n), (5, eP t), (7, .int .i64 t_2), (11, .int .i64 i)]⟩) (fun z => []) (fun _ Sx_11 H13 => c_join2 H13 (fun (J : Mem → Prop) (z : Unit) S => J S) (fun z => ⟨110, [(0, eL keys), (1, .int .u8 n), (5, eP t), (7, .int .i64 t_2), (11, .int .i64 i)]⟩) (fun z => []) (fun _ Sx_12 H14 => c_region<|mv E E<|s_p E (y_add E E)<|gv E E<|s_nil<|hXx (IntKind.i64.wrap (i + 1)) _ _ _ _ [] H14 E ⟨E, E, E, E, E, True.intro⟩ E) (fun Jx_1 hJx_1 H15 => c_block<|csr<|mv E E<|mv E E<|s_k1 E E H15 fun t_5 Sx_13 H16 => nxr<|mv E E<|mv E E<|s_k1 E E H16 fun t_6 Sx_14 H17 => nxr<|mv E E<|mv E E<|s_k1 E E H17 fun t_7 Sx_15 H18 => gv E E<|nx<|c_join2 H18 (fun (J : Mem → Prop) (z : Unit) S => J S) (fun z => ⟨110, [(0, eL keys), (1, .int .u8 n), (5, eP t), (7, .int .i64 t_2), (11, .int .i64 i), (12, eL t_7)]⟩) (fun z => []) (fun _ Sx_16 H19 => csr<|mv E E<|mv E E<|s_p E (y_len E)<|s_p E (y_sub E E)<|by obtain ⟨b_1, o, n_1, n_2, rfl, H20⟩ := H19; exact an2 H20 fun c c_1 H21 => s_p E (y_ixL E E c c_1 E)<|gx H21 fun t_8 ht_8 H22 => by refine s_v E (y_ldA E (part_len ht_8)) (hc_SP ht_8) ?_; exact by refine s_alloc E fun b_2 => ?_; exact an H22 fun c_2 H23 => s_stV_all 0 E E E E E (part_len ht_8) E c_2<|nxr<|s_p E (y_build E E)<|by exact by refine s_alloc E fun b_3 => ?_; exact s_stV (sz := 4) (vs := [.int .u8 2, .int .i64 0, .int .u64 258, .int .u64 0]) 1 E E E E E E (Nat.le_of_ble_eq_true E) E<|nx<|c_join2 H23 (fun (J : List Value → Mem → Prop) (z : List Value) S => J z S) (fun z => ⟨110, [(0, eL keys), (1, .int .u8 n), (5, eP t), (7, .int .i64 t_2), (11, .int .i64 i), (13, .pointer (some ⟨b_2, 0, none⟩)), (14, .pointer (some ⟨b_3, 0, none⟩))]⟩) (fun z => [⟨b_2, 45, t_8⟩, ⟨b_3, 45, z⟩]) (fun want Sx_17 H24 => an H24 fun hwant H25 => csr<|by refine s_v E (y_ldA E (part_len ht_8)) (hc_VP (k := 4) 0 E (lpart_all (part_len ht_8))) ?_; exact by refine s_v E (y_ldA E hwant) (hc_VP (k := 4) 1 E (lpart_all hwant)) ?_; exact an H25 fun c_3 H26 => an H26 fun c_4 H27 => iteK H27 (fun c_5 H28 => s_p E (yB (y_neA E E c_3 c_4) c_5)<|nx<|c_t E E<|csr<|gv E E<|nx<|c_ret<|q_blk_ret<|q_then_ret<|q_then_ret<|q_blk_ret<|q_then_ret<|q_ret Tryz.results6 (rv_tmp E rv_nil) ⟨_, E, H28⟩) fun c_5 H28 => s_p E (yB (y_neA E E c_3 c_4) (bf_of c_5))<|nx<|cfs E E<|q_blk<|hJx_1 () _ _ _ _ [] H28 E ⟨E, E, E, E, E, True.intro⟩ E) (fun Jx_2 hJx_2 H29 => csr<|mv E E<|mv E E<|s_p E (y_len E)<|iteK H29 (fun c_6 H30 => s_p E (yT (y_lss E E) c_6)<|mv E E<|mv E E<|iteK H30 (fun c_7 H31 => s_p E (yT (y_lss E E) c_7)<|pk E E E<|nx<|ctr E E<|mv E E<|mv E E<|by obtain ⟨b_4, o_1, n_3, n_4, rfl, H32⟩ := H31; exact an2 H32 fun c_8 c_9 H33 => s_p E (y_ixL E E c_8 c_9 E)<|gx H33 fun t_9 ht_9 H34 => s_v E (y_ld E) (hc_S ht_9)<|s_p E (y_conv ⟨_, Tryz.underlying5⟩ E)<|s_p E (y_build E E)<|by exact s_stV (sz := 4) (vs := [.int .u8 2, .int .i64 0, .int .u64 256, .int .u64 (IntKind.u64.wrap t_9)]) 1 E E E E E E (Nat.le_of_ble_eq_true E) E<|s_nil<|hJx_2 ([.int .u8 2, .int .i64 0, .int .u64 256, .int .u64 (IntKind.u64.wrap t_9)]) _ _ _ _ [0, 0] H34 E ⟨E, E, E, E, E, E, E, True.intro⟩ E) fun c_7 H31 => s_p E (yF (y_lss E E) c_7)<|pk E E E<|nx<|cfs E E<|hJx_2 ([.int .u8 2, .int .i64 0, .int .u64 258, .int .u64 0]) _ _ _ _ [0, 0] H31 E ⟨E, E, E, E, E, E, E, True.intro⟩ E) fun c_6 H30 => s_p E (yF (y_lss E E) c_6)<|mv E E<|sk2 E E<|pk E E E<|nx<|cfs E E<|hJx_2 ([.int .u8 2, .int .i64 0, .int .u64 258, .int .u64 0]) _ _ _ _ [0, 0] H30 E ⟨E, E, E, E, E, E, E, True.intro⟩ E)) (fun Jx_3 hJx_3 H35 => csr<|mv E E<|s_p E (y_len E)<|iteK H35 (fun c_10 H36 => s_p E (yT (y_lss E E) c_10)<|nx<|c_t E E<|csr<|gv E E<|nx<|c_ret<|q_then_ret<|q_blk_ret<|q_then_ret<|q_then_ret<|q_blk_ret<|q_then_ret<|q_ret Tryz.results6 (rv_tmp E rv_nil) ⟨_, E, H36⟩) fun c_10 H36 => s_p E (yF (y_lss E E) c_10)<|nx<|cfs E E<|hJx_3 () _ _ _ _ [] H36 E ⟨E, E, E, E, E, E, True.intro⟩ E))) (fun Jx_4 hJx_4 H37 => csr<|mv E E<|mv E E<|s_p E (y_rem E E (by decide))<|s_p E (y_conv ⟨_, Tryz.underlying5⟩ E)<|iteK H37 (fun c_11 H38 => s_p E (yT (y_lss E E) c_11)<|nx<|c_t E E<|c_skip<|hJx_4 () _ _ _ _ [] H38 E ⟨E, E, E, E, E, True.intro⟩ E) fun c_11 H38 => s_p E (yF (y_lss E E) c_11)<|nx<|c_f E E<|c_exit<|q_then_exit<|q_then_exit<|q_blk_out<|hJx () _ _ _ _ [] H38 E True.intro E))) (fun Jx_5 hJx_5 H39 => csr<|gv E E<|nx<|c_block<|c_loop (fun z => ⟨110, [(0, eL keys), (1, .int .u8 n), (5, eP t), (7, .int .i64 t_2), (9, .int .i64 z)]⟩) (fun z => []) 0 (idx := []) H39 E ⟨E, E, E, E, E, True.intro⟩ E<|fun Xx_1 hXx_1 i_1 Sx_18 H40 => c_join2 H40 (fun (J : Mem → Prop) (z : Unit) S => J S) (fun z => ⟨110, [(0, eL keys), (1, .int .u8 n), (5, eP t), (7, .int .i64 t_2), (9, .int .i64 i_1)]⟩) (fun z => []) (fun _ Sx_19 H41 => c_seq<|c_block<|csr<|by exact mv E E<|mv E E<|mv E E<|mv E E<|by obtain ⟨b_5, o_2, n_5, n_6, rfl, H42⟩ := H41; exact an2 H42 fun c_12 c_13 H43 => s_p E (y_ixL E E c_12 c_13 E)<|gx H43 fun t_10 ht_10 H44 => s_v E (y_ld E) (hc_S ht_10)<|s_k1 E E H44 fun t_11 Sx_20 H45 => gv E E<|nxr<|mv E E<|s_p E (y_eql E E)<|mv E E<|s_p E (y_lss E E)<|iteK H45 (fun c_14 H46 => s_p E (yT (y_neB E E) c_14)<|mv E E<|sk4 E E E E<|sk2 E E<|pk E E E<|nx<|c_t E E<|csr<|gv E E<|nx<|c_ret<|q_blk_ret<|q_then_ret<|q_then_ret<|q_blk_ret<|q_then_ret<|q_ret Tryz.results6 (rv_tmp E rv_nil) ⟨_, E, H46⟩) fun c_14 H46 => s_p E (yF (y_neB E E) c_14)<|mv E E<|mv E E<|iteK H46 (fun c_15 H47 => s_p E (yT (y_neq E E) c_15)<|mv E E<|mv E E<|iteK H47 (fun c_16 H48 => s_p E (yT (y_neq E E) c_16)<|pk E E E<|pk E E E<|nx<|c_t E E<|csr<|gv E E<|nx<|c_ret<|q_blk_ret<|q_then_ret<|q_then_ret<|q_blk_ret<|q_then_ret<|q_ret Tryz.results6 (rv_tmp E rv_nil) ⟨_, E, H48⟩) fun c_16 H48 => s_p E (yF (y_neq E E) c_16)<|pk E E E<|pk E E E<|nx<|cfs E E<|q_blk<|q_then<|c_region<|mv E E<|s_p E (y_add E E)<|gv E E<|s_nil<|hXx_1 (IntKind.i64.wrap (i_1 + 1)) _ _ _ _ [] H48 E ⟨E, E, E, E, E, True.intro⟩ E) fun c_15 H47 => s_p E (yF (y_neq E E) c_15)<|mv E E<|sk2 E E<|pk E E E<|pk E E E<|nx<|cfs E E<|q_blk<|q_then<|c_region<|mv E E<|s_p E (y_add E E)<|gv E E<|s_nil<|hXx_1 (IntKind.i64.wrap (i_1 + 1)) _ _ _ _ [] H47 E ⟨E, E, E, E, E, True.intro⟩ E) (fun Jx_6 hJx_6 H49 => csr<|mv E E<|mv E E<|by exact s_p E (y_len E)<|iteK H49 (fun c_17 H50 => s_p E (yT (y_lss E E) c_17)<|nx<|c_t E E<|c_skip<|hJx_6 () _ _ _ _ [] H50 E ⟨E, E, E, E, E, True.intro⟩ E) fun c_17 H50 => s_p E (yF (y_lss E E) c_17)<|nx<|c_f E E<|c_exit<|q_then_exit<|q_then_exit<|q_blk_out<|hJx_5 () _ _ _ _ [] H50 E ⟨E, E, E, E, True.intro⟩ E))) (fun Jx_7 hJx_7 H51 => csr<|mv E E<|iteK H51 (fun c_18 H52 => s_p E (yT (y_neq E E) c_18)<|nx<|c_t E E<|csr<|gv E E<|nx<|c_ret<|q_then_ret<|q_ret Tryz.results6 (rv_tmp E rv_nil) ⟨_, E, H52⟩) fun c_18 H52 => s_p E (yF (y_neq E E) c_18)<|nx<|cfs E E<|hJx_7 () _ _ _ _ [] H52 E ⟨E, E, E, E, True.intro⟩ E)) (fun Jx_8 hJx_8 H53 => csr<|mv E E<|iteK H53 (fun c_19 H54 => s_p E (yT (y_neq E E) c_19)<|nx<|c_t E E<|csr<|gv E E<|nx<|c_ret<|q_then_ret<|q_ret Tryz.results6 (rv_tmp E rv_nil) ⟨_, E, H54⟩) fun c_19 H54 => s_p E (yF (y_neq E E) c_19)<|nx<|cfs E E<|hJx_8 () _ _ _ _ [] H54 E ⟨E, E, E, True.intro⟩ E)) (fun Jx_9 hJx_9 H55 => csr<|s_k1 E E H55 fun t_12 Sx_21 H56 => by have H57 := ib_e H56; rcases H57 with ⟨rfl, H58⟩ | ⟨rfl, H58⟩; exact (s_p E (yB (y_not E) E)<|mv E E<|mv E E<|s_p E (y_len E)<|iteK H58 (fun c_20 H59 => s_p E (yT (y_gtr E E) c_20)<|pk E E E<|nx<|c_t E E<|csr<|s_k1 E E H59 fun t_13 Sx_22 H60 => gv E E<|nx<|c_ret<|q_then_ret<|q_ret Tryz.results6 (rv_tmp E rv_nil) ⟨_, E, H60⟩) fun c_20 H59 => s_p E (yF (y_gtr E E) c_20)<|pk E E E<|nx<|cfs E E<|hJx_9 () _ _ _ _ [] H59 E ⟨E, E, True.intro⟩ E); exact (s_p E (yB (y_not E) E)<|mv E E<|sk2 E E<|s_skip E<|pk E E E<|nx<|c_t E E<|csr<|s_k1 E E H58 fun t_14 Sx_23 H61 => gv E E<|nx<|c_ret<|q_then_ret<|q_ret Tryz.results6 (rv_tmp E rv_nil) ⟨_, E, H61⟩))
end Go.Proofs.YtabdpmnhjlmnlaaGreatDoor
end
section
namespace Go.Cr
open Go Go.Pt
theorem wake_st {s : Seat} : s.st = 0 → s.wake = s := fun h => by unfold Seat.wake; rw [if_neg (by rw [h]; rintro ⟨h1, _⟩; exact absurd h1 (by decide))]
theorem KX.key {W : Wd} {pc : Nat} {l : List Int} (h : KX W pc l) (hl : l.length < 64) (b : Int) : (W.key 0 b).1 = 0 ∧ KX (W.key 0 b).2 pc (l ++ [b]) := by
  obtain ⟨s, ho, h1, h2, h3, h4⟩ := h.ex
  have ht : W.there 0 := ⟨by decide, by decide, ho.on⟩
  unfold Wd.key
  rw [if_neg (fun h => h ht), if_neg (by rw [show (0 : Int).toNat = 0 from rfl, h.keys]; omega)]
  refine ⟨rfl, ?_⟩
  dsimp only
  rw [show (0 : Int).toNat = 0 from rfl]
  have hb : One (W.setV 0 ((W.vm 0).setKeys ((W.vm 0).keys ++ [b]))) 0 s := ⟨by decide, by show Bv.on (upd W.vm 0 _ 0) = true; rw [upd_at]; exact ho.on, by show Bv.seats (upd W.vm 0 _ 0) = [s]; rw [upd_at]; exact ho.seats⟩
  have hk : ((W.setV 0 ((W.vm 0).setKeys ((W.vm 0).keys ++ [b]))).vm 0).keys = l ++ [b] := by
    show Bv.keys (upd W.vm 0 _ 0) = _
    rw [upd_at, h.keys]; rfl
  have hown : (W.setV 0 ((W.vm 0).setKeys ((W.vm 0).keys ++ [b]))).own = W.own := rfl
  generalize W.setV 0 ((W.vm 0).setKeys ((W.vm 0).keys ++ [b])) = X at hb hk hown
  unfold Wd.raise
  rw [hb.seat, if_neg (by rw [h1]; decide)]
  have hr : s.raise 6 = { s with pend := ior .u32 s.pend (2 ^ 6) } := by
    unfold Seat.raise
    rw [if_neg (by rw [h1]; decide), wake_st (s := { s with pend := ior .u32 s.pend (2 ^ 6) }) h1]
  rw [hr]
  refine ⟨⟨{ s with pend := ior .u32 s.pend (2 ^ 6) }, ⟨by decide, ?_, ?_⟩, h1, h2, h3, h4⟩, ?_, ?_⟩
  · show Bv.on (upd X.vm 0 _ 0) = true
    rw [upd_at]; exact hb.on
  · show Bv.seats (upd X.vm 0 _ 0) = _
    rw [upd_at]
    show (X.vm 0).seats.set 0 _ = _
    rw [hb.seats]; rfl
  · show Bv.keys (upd X.vm 0 _ 0) = _
    rw [upd_at]; exact hk
  · show X.own 0 0 = _
    rw [hown]; exact h.own
theorem KX.full {W : Wd} {pc : Nat} {l : List Int} (h : KX W pc l) (hl : 64 ≤ l.length) (b : Int) : W.key 0 b = (3, W) := by
  obtain ⟨s, ho, _⟩ := h.ex
  have ht : W.there 0 := ⟨by decide, by decide, ho.on⟩
  unfold Wd.key
  rw [if_neg (fun h => h ht), if_pos (by rw [show (0 : Int).toNat = 0 from rfl, h.keys]; exact hl)]
def keyW : Wd := ((W0 36).create 1 4 1 keyImg).2.2
theorem keyW_c : ((W0 36).create 1 4 1 keyImg).1 = 0 ∧ ((W0 36).create 1 4 1 keyImg).2.1 = 0 := by decide +kernel
theorem keyW_x : KX keyW 0 [] := ⟨⟨seat0, ⟨by decide, rfl, rfl⟩, rfl, rfl, rfl, rfl⟩, rfl, rfl⟩
end Go.Cr
namespace Go.Proofs.YtabdpmnhjlmnlaaGreatDoor
open Go Go.Pt Go.Cr Go.Hp
section
variable {S S' S0 : Mem} {ρ0 : Rho} {h : Nat} {W : Wd}
theorem Lv.wk (l : Lv S0 ρ0 h S W) : WOk W := by
  obtain ⟨_, _, _, _, _, _, hr⟩ := l
  exact hr.wk
theorem By.cell {l : Sl} {xs : List Int} (h : By S l xs) {i : Nat} (hi : i < xs.length) : ∃ b o, l = ⟨some (b, o), l.n, l.c⟩ ∧ S.cell b (o + i) = some (.int .u8 xs[i]) := by
  rcases h.lie with h0 | ⟨b, o, h1, h2, h3⟩
  · rw [h0] at hi; simp at hi
  · refine ⟨b, o, ?_, ?_⟩
    · obtain ⟨p, n, c⟩ := l
      simp only at h1
      rw [h1]
    · obtain ⟨k, hk⟩ := Option.ne_none_iff_exists'.1 h2
      rw [part_of hk] at h3
      have := lpart_get h3 i hi
      rw [cell_of hk, nthL_eq, ← this]
      unfold bL
      rw [List.getElem?_map, List.getElem?_eq_getElem hi]; rfl
theorem byt_key : Byt keyImg := fun x hx => by
  simp only [keyImg, List.mem_cons, List.not_mem_nil, or_false] at hx
  omega
set_option maxHeartbeats 1000000 in
theorem crabKeys_law (hgl : Gl S) {keys : Sl} {xs : List Int} (hb : By S keys xs) {n : Int} (hn : 0 ≤ n ∧ n ≤ 255) : b_hermitcrablaw16_CrabKeys S keys n fun r S' => r = true ∧ Keeps S S' [] := by
  have hlen := hb.len
  unfold b_hermitcrablaw16_CrabKeys
  simp only [jn]
  refine awake_spec hgl fun S1 hk1 => ?_
  have hg1 : Gl S1 := hgl.keep (hk1 0 (gl_some hgl) (by simp))
  rw [if_pos rfl]
  by_cases hbig : (100 : Int) < (keys.n : Int)
  · rw [if_pos hbig]
    exact awake_spec hg1 fun S2 hk2 => ⟨rfl, hk1.trans hk2⟩
  rw [if_neg hbig]
  have hb1 := hb.keep hk1
  refine new_L hg1 (fun h => absurd h (by decide)) fun _ S2 h l2 => ?_
  rw [if_neg (by decide)]
  obtain ⟨ρ, A, C, φ, m1, hc1, hr1⟩ := l2
  intro b hbn
  refine ⟨_, set_same, rfl, ?_⟩
  have hk : Keeps S2 ((S2.set b (bw 5 [.int .u8 8, .int .u8 0, .int .u8 0, .int .u8 5, .int .u8 1, .int .u8 0, .int .u8 0, .int .u8 80, .int .u8 255, .int .u8 255, .int .u8 168, .int .u8 58])).set b ⟨5, [.int .u8 8, .int .u8 0, .int .u8 0, .int .u8 5, .int .u8 1, .int .u8 0, .int .u8 0, .int .u8 80, .int .u8 255, .int .u8 255, .int .u8 168, .int .u8 58], (12, 13)⟩) [] := fun x hx _ => by
    have : x ≠ b := fun e => hx (e ▸ hbn)
    rw [set_ne this, set_ne this]
  refine create_spec (xs := keyImg) (hc1.keeps hk) hr1 (img_new hbn hc1.rg (k := ⟨5, bL keyImg, (12, 13)⟩) rfl rfl byt_key set_same (by decide) (by rw [part_of set_same]; rfl)) (by decide) fun S3 hA => ?_
  have l3 : Lv S1 rho0 h S3 keyW := hA.lv (m1.then hk)
  have ec : ((W0 (40 - 4)).create 1 4 1 keyImg).1 = 0 ∧ ((W0 (40 - 4)).create 1 4 1 keyImg).2.1 = 0 := keyW_c
  rw [ec.1, ec.2, if_neg (by decide)]
  have e3 : keyW.evB 0 := evB_W0.create
  -- the keys
  refine lp_rule (fun (z : Int) S' => ∃ (i : Nat) (W : Wd), z = (i : Int) ∧ i ≤ xs.length ∧ Lv S1 rho0 h S' W ∧ W.evB 0 ∧ KX W 0 (xs.take (min i 64))) (fun z => xs.length - z.toNat) ?_ ⟨0, keyW, rfl, by omega, l3, e3, keyW_x⟩
  rintro X z S4 ⟨i, W, rfl, hi, l4, e4, hx4⟩ ih
  by_cases hlt : (i : Int) < (keys.n : Int)
  · rw [if_pos hlt]
    have hil : i < xs.length := by omega
    obtain ⟨kb, ko, hke, hcell⟩ := (hb1.keep l4.keeps).cell hil
    rw [hke, sl_i]
    refine ⟨by omega, hlt, ?_⟩
    rw [show ko + (i : Int).toNat * 1 = ko + i by omega, gI_i hcell]
    refine key_L l4 (hb.byt _ (List.getElem_mem hil)) fun S5 l5 => ?_
    have htl : (xs.take (min i 64)).length = min i 64 := by rw [List.length_take]; omega
    have wi : IntKind.i64.wrap ((i : Int) + 1) = ((i + 1 : Nat) : Int) := by rw [w64 (by omega) (by omega)]; omega
    by_cases h64 : i < 64
    · obtain ⟨k1, k2⟩ := hx4.key (by omega) xs[i]
      rw [k1, if_neg (by rw [decide_eq_true (by decide : (0 : Int) = 0), decide_eq_true (by omega : (i : Int) < 64)]; simp), if_neg (by decide), wi]
      refine ih _ _ ⟨i + 1, _, rfl, by omega, l5, e4.key, ?_⟩ (by omega)
      have : xs.take (min (i + 1) 64) = xs.take (min i 64) ++ [xs[i]] := by
        rw [show min (i + 1) 64 = i + 1 by omega, show min i 64 = i by omega, List.take_succ_eq_append_getElem hil]
      rw [this]; exact k2
    · have k3 := hx4.full (by omega) xs[i]
      rw [k3, if_neg (by rw [decide_eq_false (by decide : ¬ (3 : Int) = 0), decide_eq_false (by omega : ¬ (i : Int) < 64)]; simp), if_pos (show (3 : Int) ≠ 0 by decide), if_neg (show ¬ (3 : Int) ≠ 3 by decide), wi]
      rw [k3] at l5
      refine ih _ _ ⟨i + 1, _, rfl, by omega, l5, e4, ?_⟩ (by omega)
      rw [show min (i + 1) 64 = 64 by omega]
      rw [show min i 64 = 64 by omega] at hx4
      exact hx4
  · rw [if_neg hlt]
    have hie : i = xs.length := by omega
    subst hie
    have htk : xs.take (min xs.length 64) = xs.take 64 := by
      by_cases h : xs.length ≤ 64
      · rw [Nat.min_eq_left h, List.take_length, List.take_of_length_le h]
      · rw [Nat.min_eq_right (by omega)]
    rw [htk] at hx4
    refine run_L l4 e4 (by decide) fun S5 l5 => ?_
    obtain ⟨_, hx5, _, _⟩ := hx4.li l4.wk
    have e5 := e4.run (n := 0) (k := 0)
    have hnm : IntKind.i64.wrap (Int.tmod n 80) = n % 80 := by rw [Int.tmod_eq_emod_of_nonneg hn.1, w64 (by omega) (by omega)]
    rw [hnm]
    refine lp_rule (fun (z : Int) S' => ∃ (i : Nat) (W : Wd), z = (i : Int) ∧ (i : Int) ≤ n % 80 ∧ Lv S1 rho0 h S' W ∧ W.evB (3 + 6 * i) ∧ KX W 4 ((xs.take 64).drop i)) (fun z => (n % 80 - z).toNat) ?_ ⟨0, _, rfl, by omega, l5, e5, hx5⟩
    rintro X z S6 ⟨i, W, rfl, hi2, l6, e6, hx6⟩ ih2
    by_cases hlt2 : (i : Int) < n % 80
    · rw [if_pos hlt2]
      refine run_L l6 e6 (by omega) fun S7 l7 => ?_
      obtain ⟨_, hx7, x, hv7⟩ := hx6.hvc l6.wk
      have e7 := e6.run (n := 0) (k := 0)
      refine run_L l7 e7 (by omega) fun S8 l8 => ?_
      obtain ⟨_, hx8, y, hv8⟩ := hx7.beq l7.wk
      have e8 := e7.run (n := 0) (k := 0)
      refine events_L (n := 0) l8 (by decide) e8 (by omega) fun t S9 hk9 hrow _ => ?_
      have hev : (((W.run 0 0).2.run 0 0).2).ev 0 = (W.ev 0 ++ [x]) ++ (⟨2, 0, if (xs.take 64).drop i = [] then 258 else 256, ((xs.take 64).drop i).headD 0⟩ :: [y]) := by
        rw [hv8, hv7]; simp
      have hL := e8 0
      obtain ⟨htn, c, hte, _, hpart⟩ := row_get hrow (by rw [hev]; simp)
      have hlen2 : ((((W.run 0 0).2.run 0 0).2).ev 0).length = (W.ev 0).length + 3 := by rw [hev]; simp
      have w2 : IntKind.i64.wrap ((t.n : Int) - 2) = ((W.ev 0).length + 1 : Nat) := by rw [w64 (by omega) (by omega)]; omega
      have l9 := l8.on hk9
      have wi : IntKind.i64.wrap ((i : Int) + 1) = ((i + 1 : Nat) : Int) := by rw [w64 (by omega) (by omega)]; omega
      have hd : ((xs.take 64).drop i).tail = (xs.take 64).drop (i + 1) := by rw [List.tail_drop]
      rw [hd] at hx8
      have fin : X ((i + 1 : Nat) : Int) S9 := ih2 _ _ ⟨i + 1, _, rfl, by omega, l9, e8.mono (by omega), hx8⟩ (by omega)
      have hp : S9.part c (0 + (((W.ev 0).length + 1 : Nat) : Int).toNat * 4) 4 = some (evL ⟨2, 0, if (xs.take 64).drop i = [] then 258 else 256, ((xs.take 64).drop i).headD 0⟩) := by
        have := hpart ((W.ev 0).length + 1) (0 + (((W.ev 0).length + 1 : Nat) : Int).toNat * 4) (by omega) (by omega)
        rw [this]
        congr 2
        have e : ((((W.run 0 0).2.run 0 0).2).ev 0)[(W.ev 0).length + 1]? = some ⟨2, 0, if (xs.take 64).drop i = [] then 258 else 256, ((xs.take 64).drop i).headD 0⟩ := by
          rw [hev, List.getElem?_append_right (by simp)]; simp
        exact (List.getElem?_eq_some_iff.1 e).2
      rw [if_neg (by omega), hte]
      rw [hte] at w2
      simp only at w2
      rw [sl_i]
      refine ⟨by rw [w2]; omega, by rw [w2]; omega, ?_⟩
      rw [w2, gA_i hp]
      refine ⟨rfl, ?_⟩
      have done : ∀ w : List Value, w = evL ⟨2, 0, if (xs.take 64).drop i = [] then 258 else 256, ((xs.take 64).drop i).headD 0⟩ → w.length = 4 ∧ fits [.i .u8, .i .i64, .i .u64, .i .u64] (evL ⟨2, 0, if (xs.take 64).drop i = [] then 258 else 256, ((xs.take 64).drop i).headD 0⟩) = true ∧ fits [.i .u8, .i .i64, .i .u64, .i .u64] w = true ∧ (if (!(eqL (evL ⟨2, 0, if (xs.take 64).drop i = [] then 258 else 256, ((xs.take 64).drop i).headD 0⟩) w)) = true then False ∧ Keeps S S9 [] else X (IntKind.i64.wrap ((i : Int) + 1)) S9) := fun w hw => by
        subst hw
        refine ⟨rfl, rfl, rfl, ?_⟩
        rw [(eqL_iff (ks := [.i .u8, .i .i64, .i .u64, .i .u64]) rfl rfl).2 rfl, if_neg (by decide), wi]
        exact fin
      by_cases hk2 : (i : Int) < (keys.n : Int)
      · rw [if_pos hk2]
        by_cases h64 : (i : Int) < 64
        · rw [if_pos h64]
          have hil : i < xs.length := by omega
          obtain ⟨kb, ko, hke, hcell⟩ := (hb1.keep l9.keeps).cell hil
          rw [hke, sl_i]
          refine ⟨by omega, hk2, ?_⟩
          rw [show ko + (i : Int).toNat * 1 = ko + i by omega, gI_i hcell]
          have hbx := hb.byt _ (List.getElem_mem hil)
          have hdr : (xs.take 64).drop i = xs[i] :: (xs.take 64).drop (i + 1) := by
            have h1 : i < (xs.take 64).length := by rw [List.length_take]; omega
            rw [List.drop_eq_getElem_cons h1]
            congr 1
            rw [List.getElem_take]
          have := done [.int .u8 2, .int .i64 0, .int .u64 256, .int .u64 (IntKind.u64.wrap xs[i])] (by
            rw [hdr, if_neg (by simp), wu64 (by omega) (by omega)]; rfl)
          simpa using this
        · rw [if_neg h64]
          have := done [.int .u8 2, .int .i64 0, .int .u64 258, .int .u64 0] (by
            rw [List.drop_eq_nil_of_le (by rw [List.length_take]; omega), if_pos rfl]; rfl)
          simpa using this
      · rw [if_neg hk2]
        have := done [.int .u8 2, .int .i64 0, .int .u64 258, .int .u64 0] (by
          rw [List.drop_eq_nil_of_le (by rw [List.length_take]; omega), if_pos rfl]; rfl)
        simpa using this
    · rw [if_neg hlt2]
      exact ⟨trivial, hk1.trans l6.keeps⟩
end
end Go.Proofs.YtabdpmnhjlmnlaaGreatDoor
end
