/- The engine, part C: the words of the printed texts; joins. No program in sight. -/
import Derived.Test.YtpilffakhkagjaaDoorPtB
namespace Go.Pt
open Go Go.RowKit
/-! ### Words of the printed texts -/
def gI (c : Option Value) (k : IntKind) (K : Int → Prop) : Prop := ∃ n, c = some (.int k n) ∧ K n
def gB (c : Option Value) (K : Bool → Prop) : Prop := ∃ n, c = some (.bool n) ∧ K n
def gS (c : Option Value) (K : ByteArray → Prop) : Prop := ∃ n, c = some (.string n) ∧ K n
def gP (c : Option Value) (K : Pt → Prop) : Prop := ∃ n, c = some (eP n) ∧ K n
def gL (c : Option Value) (K : Sl → Prop) : Prop := ∃ n, c = some (eL n) ∧ K n
def gV (c : Option Value) (K : Value → Prop) : Prop := ∃ n, c = some n ∧ K n
def gA (c : Option (List Value)) (K : List Value → Prop) : Prop := ∃ n, c = some n ∧ K n
/-- A byte of a string. -/
def gU (l : List UInt8) (i : Nat) (K : UInt8 → Prop) : Prop := ∃ b, l[i]? = some b ∧ K b
def nn (p : Pt) (K : Nat → Nat → Prop) : Prop := ∃ b o, p = some (b, o) ∧ K b o
/-- An element's address: the slice is not nil. -/
def sl (s : Sl) (K : Nat → Nat → Nat → Nat → Prop) : Prop := ∃ b o n c, s = ⟨some (b, o), n, c⟩ ∧ K b o n c
def jn {β : Type} (J : β) (B : β → Prop) : Prop := B J
def al (S : Mem) (t : TypeId) (z : List Value) (K : Nat → Mem → Prop) : Prop := ∀ b, S b = none → K b (S.set b (bw t z))
def pt (S : Mem) (b o n : Nat) (vs : List Value) (K : Mem → Prop) : Prop := S.room b o n ∧ K (S.put b o vs)
def asA (v : Value) (t : TypeId) (n : Nat) (K : List Value → Prop) : Prop := ∃ a, v = .iface t (valL a) ∧ a.length = n ∧ K a
theorem adr_inj {p q : Pt} (h : adr p = adr q) : p = q := by
  cases p with
  | none => cases q with
    | none => rfl
    | some y => obtain ⟨c, d⟩ := y; simp [adr] at h
  | some x => cases q with
    | none => obtain ⟨c, d⟩ := x; simp [adr] at h
    | some y => obtain ⟨c, d⟩ := x; obtain ⟨e, f⟩ := y; simp [adr] at h; simp [h]
theorem eP_inj {p q : Pt} (h : eP p = eP q) : p = q := by simp only [eP, Value.pointer.injEq] at h; exact adr_inj h
theorem eL_inj {p q : Sl} (h : eL p = eL q) : p = q := by
  simp only [eL, Value.slice.injEq] at h
  obtain ⟨h1, h2, h3⟩ := h
  have h4 := adr_inj h1
  cases p; cases q; simp_all
theorem gI_i {c : Option Value} {k : IntKind} {n : Int} (h : c = some (.int k n)) (K : Int → Prop) : gI c k K = K n := by
  subst h; exact propext ⟨fun ⟨m, hm, hK⟩ => by simp at hm; subst hm; exact hK, fun hK => ⟨n, rfl, hK⟩⟩
theorem gB_i {c : Option Value} {n : Bool} (h : c = some (.bool n)) (K : Bool → Prop) : gB c K = K n := by
  subst h; exact propext ⟨fun ⟨m, hm, hK⟩ => by simp at hm; subst hm; exact hK, fun hK => ⟨n, rfl, hK⟩⟩
theorem gS_i {c : Option Value} {n : ByteArray} (h : c = some (.string n)) (K : ByteArray → Prop) : gS c K = K n := by
  subst h; exact propext ⟨fun ⟨m, hm, hK⟩ => by simp at hm; subst hm; exact hK, fun hK => ⟨n, rfl, hK⟩⟩
theorem gP_i {c : Option Value} {n : Pt} (h : c = some (eP n)) (K : Pt → Prop) : gP c K = K n := by
  subst h; exact propext ⟨fun ⟨m, hm, hK⟩ => by rw [eP_inj (Option.some.inj hm)]; exact hK, fun hK => ⟨n, rfl, hK⟩⟩
theorem gL_i {c : Option Value} {n : Sl} (h : c = some (eL n)) (K : Sl → Prop) : gL c K = K n := by
  subst h; exact propext ⟨fun ⟨m, hm, hK⟩ => by rw [eL_inj (Option.some.inj hm)]; exact hK, fun hK => ⟨n, rfl, hK⟩⟩
theorem gV_i {c : Option Value} {n : Value} (h : c = some n) (K : Value → Prop) : gV c K = K n := by
  subst h; exact propext ⟨fun ⟨m, hm, hK⟩ => by rw [Option.some.inj hm]; exact hK, fun hK => ⟨n, rfl, hK⟩⟩
theorem gA_i {c : Option (List Value)} {n : List Value} (h : c = some n) (K : List Value → Prop) : gA c K = K n := by
  subst h; exact propext ⟨fun ⟨m, hm, hK⟩ => by rw [Option.some.inj hm]; exact hK, fun hK => ⟨n, rfl, hK⟩⟩
theorem nn_i (b o : Nat) (K : Nat → Nat → Prop) : nn (some (b, o)) K = K b o :=
  propext ⟨fun ⟨b', o', h, hK⟩ => by simp at h; obtain ⟨rfl, rfl⟩ := h; exact hK, fun hK => ⟨b, o, rfl, hK⟩⟩
theorem sl_i (b o n c : Nat) (K : Nat → Nat → Nat → Nat → Prop) : sl ⟨some (b, o), n, c⟩ K = K b o n c :=
  propext ⟨fun ⟨b', o', n', c', h, hK⟩ => by simp at h; obtain ⟨⟨rfl, rfl⟩, rfl, rfl⟩ := h; exact hK, fun hK => ⟨b, o, n, c, rfl, hK⟩⟩
theorem lpart_all {a : List Value} {n : Nat} (h : a.length = n) : lpart a 0 n = some a := by
  rw [lpart_i (by omega)]; simp [← h]
theorem ite_e {p A B : Prop} [Decidable p] (h : if p then A else B) : (p ∧ A) ∨ (¬ p ∧ B) := by
  by_cases hp : p
  · rw [if_pos hp] at h; exact .inl ⟨hp, h⟩
  · rw [if_neg hp] at h; exact .inr ⟨hp, h⟩
theorem ib_e {e : Bool} {A B : Prop} (h : if e = true then A else B) : (e = true ∧ A) ∨ (e = false ∧ B) := by
  cases e
  · exact .inr ⟨rfl, by simpa using h⟩
  · exact .inl ⟨rfl, by simpa using h⟩
theorem bf_of {b : Bool} (h : ¬ b = true) : b = false := by cases b <;> simp_all
theorem fit_of {a : List Value} {n o m : Nat} (h : a.length = n) (h2 : o + m ≤ n) : o + m ≤ a.length := by omega
theorem spl_all {cs vs : List Value} (h : cs.length = vs.length) : spl cs 0 vs = vs := by
  cases cs <;> simp [spl, h] <;> simp_all
section
variable {P : Program} {w0 : World} {S0 : Mem} {opl : List Oper} {Q : Exit → Act → World → Prop} {rest : List Oper} {l : Fr} {S : Mem} {V : Hp}
variable {d : Option Tmp} {op : Op} {ty : TypeId} {ps : String} {af : Array Edge} {g : Option (Nat × Bool)}
theorem s_stV_all {t : TypeId} {x y : Operand} {b sz : Nat} (n : Nat) {et : TypeId} {cs vs : List Value} {v : Value} [hk : SizeT P t sz] (hw : wantL opl l g = some true) (hx : ev l x = some (.pointer (some ⟨b, 0, none⟩)))
    (hy : ev l y = some v) (hv : cellsL v = vs) (hn : nthL V n = some ⟨b, et, cs⟩) (hsz : vs.length = sz) (hc : cs.length = sz) (h1 : vs.all (·.oneCell') = true)
    (k : WL P w0 S0 opl Q rest (putn l d undef) S (setE V n vs)) (hty : Nat.beq et itT = false := by rfl) : WL P w0 S0 opl Q (⟨d, .store t x y, ty, ps, af, g⟩ :: rest) l S V :=
  s_stV n hw hx hy hv hn hsz (by omega) h1 (by rw [spl_all (by omega)]; exact k) hty
theorem c_join2 {α β : Type} {J : β} {B : β → Prop} (H : jn J B) (ap : β → α → Mem → Prop) (lf : α → Fr) (Vf : α → Hp) {x y : Code} (h2 : ∀ z S, ap J z S → WC P w0 S0 y Q (lf z) S (Vf z))
    (h1 : ∀ J : β, (∀ (z : α) (l : Fr) (S : Mem) (V B : Hp) (idx : List Nat), ap J z S → (lf z).n = l.n → leF l (lf z).kv → selE idx V = some (Vf z, B) → WQ w0 S0 (Exit.then (y.wp P Q) Q) .normal l S V) → B J →
      WC P w0 S0 x (Exit.then (y.wp P Q) Q) l S V) : WC P w0 S0 (.seq x y) Q l S V :=
  c_join (ap J) lf Vf h2 fun h => h1 J h H
end
end Go.Pt
