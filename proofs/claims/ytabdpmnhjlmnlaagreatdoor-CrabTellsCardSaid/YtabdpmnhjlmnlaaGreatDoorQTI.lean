/- Texts of this work, joined by program (pack.py): Cd, Cm, Cp, Cq, Cs, Mx, My, Mz, Wm, Tp. -/
import Derived.Test.YtabdpmnhjlmnlaaGreatDoorQTG
import Derived.Test.YtabdpmnhjlmnlaaGreatDoorQTH
import Derived.Lib.Mul64
set_option linter.unusedVariables false
section
namespace Go.Cr
open Go Go.Pt
def cls (c : Int) : Nat := if c = 0 ∨ c = 21 ∨ c = 22 then 0 else if c = 1 ∨ c = 2 ∨ c = 18 ∨ c = 19 then 1 else if c = 20 then 2 else if 11 ≤ c ∧ c ≤ 17 then 3 else 4
def fA : Nat → Bool | 1 | 3 | 4 => true | _ => false
def fB : Nat → Bool | 3 | 4 => true | _ => false
def fC : Nat → Bool | 4 => true | _ => false
def fN : Nat → Bool | 1 | 2 | 3 => true | _ => false
def kdL (m : Nat) : List Value := [.bool (fA m), .bool (fB m), .bool (fC m), .bool (fN m)]
def rf : Nat → Int | 0 => 0 | 1 => 9 | 2 => 8 | 3 => 11 | _ => 7
def regR (f : Bool) (r : Int) : Prop := r = 0 ∨ (f = true ∧ r < 16)
structure Rt (k a b c n : Int) : Prop where
  kk : k < 23
  aa : regR (fA (cls k)) a
  bb : regR (fB (cls k)) b
  cc : regR (fC (cls k)) c
  nn : fN (cls k) = true ∨ n = 0
  rw : k = 18 ∨ k = 19 → 0 ≤ n ∧ n < 9
instance (f : Bool) (r : Int) : Decidable (regR f r) := by unfold regR; infer_instance
instance (k a b c n : Int) : Decidable (Rt k a b c n) :=
  decidable_of_iff (k < 23 ∧ regR (fA (cls k)) a ∧ regR (fB (cls k)) b ∧ regR (fC (cls k)) c ∧ (fN (cls k) = true ∨ n = 0) ∧ (k = 18 ∨ k = 19 → 0 ≤ n ∧ n < 9))
    ⟨fun ⟨h1, h2, h3, h4, h5, h6⟩ => ⟨h1, h2, h3, h4, h5, h6⟩, fun h => ⟨h.kk, h.aa, h.bb, h.cc, h.nn, h.rw⟩⟩
structure Bd (k a b c n : Int) : Prop where
  kk : 0 ≤ k ∧ k ≤ 255
  aa : 0 ≤ a ∧ a ≤ 255
  bb : 0 ≤ b ∧ b ≤ 255
  cc : 0 ≤ c ∧ c ≤ 255
  nn : -32768 ≤ n ∧ n ≤ 32767
def opL (k a b c n : Int) : List Value := [.int .u8 k, .int .u8 a, .int .u8 b, .int .u8 c, .int .i16 n]
theorem ofInt_nat (w n : Nat) : BitVec.ofInt w (n : Int) = BitVec.ofNat w n := by
  apply BitVec.eq_of_toNat_eq; simp
theorem iand_nat {a b : Nat} (ha : a < 18446744073709551616) (hb : b < 18446744073709551616) : iand .u64 a b = ((a &&& b : Nat) : Int) := by
  unfold iand
  show IntKind.u64.wrap ((BitVec.ofInt 64 (a : Int) &&& BitVec.ofInt 64 (b : Int)).toNat : Int) = _
  rw [ofInt_nat, ofInt_nat, BitVec.toNat_and, BitVec.toNat_ofNat, BitVec.toNat_ofNat, Nat.mod_eq_of_lt ha, Nat.mod_eq_of_lt hb]
  have : a &&& b ≤ a := Nat.and_le_left
  exact wu64 (by omega) (by omega)
theorem ior_nat {a b : Nat} (ha : a < 18446744073709551616) (hb : b < 18446744073709551616) : ior .u64 a b = ((a ||| b : Nat) : Int) := by
  unfold ior
  show IntKind.u64.wrap ((BitVec.ofInt 64 (a : Int) ||| BitVec.ofInt 64 (b : Int)).toNat : Int) = _
  rw [ofInt_nat, ofInt_nat, BitVec.toNat_or, BitVec.toNat_ofNat, BitVec.toNat_ofNat, Nat.mod_eq_of_lt ha, Nat.mod_eq_of_lt hb]
  have : a ||| b < 2 ^ 64 := Nat.or_lt_two_pow (by omega) (by omega)
  exact wu64 (by omega) (by omega)
theorem andn_of {x y : BitVec 64} (h : x &&& y = 0#64) : x &&& ~~~y = x := by
  apply BitVec.eq_of_getLsbD_eq
  intro i hi
  have h2 := congrArg (fun z => z.getLsbD i) h
  simp only [BitVec.getLsbD_and, BitVec.getLsbD_not, BitVec.getLsbD_zero] at h2 ⊢
  cases hx : x.getLsbD i <;> cases hy : y.getLsbD i <;> simp_all
theorem low_and {X j b : Nat} (hb : b < 2 ^ j) : (X * 2 ^ j) &&& b = 0 := by
  apply Nat.eq_of_testBit_eq
  intro i
  rw [Nat.testBit_and, Nat.zero_testBit, ← Nat.shiftLeft_eq, Nat.testBit_shiftLeft]
  by_cases hi : j ≤ i
  · have : b.testBit i = false := Nat.testBit_lt_two_pow (Nat.lt_of_lt_of_le hb (Nat.pow_le_pow_right (by decide) hi))
    rw [this]; simp
  · simp [hi]
theorem iandn_nat {a b : Nat} (ha : a < 18446744073709551616) (hb : b < 18446744073709551616) (h : a &&& b = 0) : iandn .u64 a b = (a : Int) := by
  unfold iandn
  show IntKind.u64.wrap ((BitVec.ofInt 64 (a : Int) &&& ~~~ BitVec.ofInt 64 (b : Int)).toNat : Int) = _
  rw [ofInt_nat, ofInt_nat, andn_of ?_]
  · rw [BitVec.toNat_ofNat, Nat.mod_eq_of_lt ha]
    exact wu64 (by omega) (by omega)
  · apply BitVec.eq_of_toNat_eq
    rw [BitVec.toNat_and, BitVec.toNat_ofNat, BitVec.toNat_ofNat, Nat.mod_eq_of_lt ha, Nat.mod_eq_of_lt hb, h]
    rfl
theorem or_add {X j b : Nat} (hb : b < 2 ^ j) : (X * 2 ^ j) ||| b = X * 2 ^ j + b := by
  rw [← Nat.shiftLeft_eq, Nat.shiftLeft_add_eq_or_of_lt hb]
def wrd (k a b c n : Int) : Int := k * 67108864 + a * 4194304 + b * 262144 + (if fC (cls k) = true then c else n % 65536)
theorem ishl_nat {a s : Nat} (hs : s ≤ 63) (h : a * 2 ^ s < 18446744073709551616) : ishl .u64 (a : Int) (s : Int) = ((a * 2 ^ s : Nat) : Int) := by
  unfold ishl
  have e : min ((s : Int)).toNat IntKind.u64.bits = s := by
    show min ((s : Int)).toNat 64 = s
    simp; omega
  rw [e]
  have e2 : ((a : Int) * 2 ^ s) = ((a * 2 ^ s : Nat) : Int) := by push_cast; rfl
  rw [e2]
  exact wu64 (by omega) (by omega)
theorem ishr_nat {a s : Nat} (hs : s ≤ 63) : ishr .u64 (a : Int) (s : Int) = ((a / 2 ^ s : Nat) : Int) := by
  unfold ishr
  have e : min ((s : Int)).toNat IntKind.u64.bits = s := by
    show min ((s : Int)).toNat 64 = s
    simp; omega
  rw [e]
  have e2 : ((2 : Int) ^ s) = ((2 ^ s : Nat) : Int) := by push_cast; rfl
  rw [e2, Int.fdiv_eq_ediv_of_nonneg _ (Int.natCast_nonneg _)]
  exact (Int.natCast_ediv _ _).symm
theorem mask_nat {n : Nat} (h0 : 0 < n) (hn : n ≤ 63) : IntKind.u64.wrap (ishl .u64 1 (n : Int) - 1) = ((2 ^ n - 1 : Nat) : Int) := by
  have hp : 2 ^ n < 18446744073709551616 := Nat.lt_of_le_of_lt (Nat.pow_le_pow_right (by decide) hn) (by decide)
  have hp0 : 0 < 2 ^ n := Nat.two_pow_pos n
  have := ishl_nat (a := 1) hn (by rw [Nat.one_mul]; exact hp)
  rw [Nat.one_mul] at this
  rw [show ((1 : Nat) : Int) = 1 from rfl] at this
  rw [this, show ((2 ^ n : Nat) : Int) - 1 = ((2 ^ n - 1 : Nat) : Int) by omega]
  exact wu64 (by omega) (by omega)
def dK (w : Int) : Int := w / 67108864 % 64
def dA (w : Int) : Int := w / 4194304 % 16
def dB (w : Int) : Int := w / 262144 % 16
def dC (w : Int) : Int := if fC (cls (dK w)) = true then w % 16 else 0
def dN (w : Int) : Int := if fC (cls (dK w)) = true then 0 else IntKind.i16.wrap (w % 65536)
theorem i16_bd (x : Int) : -32768 ≤ IntKind.i16.wrap x ∧ IntKind.i16.wrap x ≤ 32767 := by
  simp [IntKind.wrap, IntKind.bits, IntKind.signed]; omega
theorem d_bd (w : Int) : Bd (dK w) (dA w) (dB w) (dC w) (dN w) := by
  refine ⟨by unfold dK; omega, by unfold dA; omega, by unfold dB; omega, ?_, ?_⟩
  · unfold dC; split <;> omega
  · unfold dN; split
    · decide
    · exact i16_bd _
def isW (w : Int) : Prop := Rt (dK w) (dA w) (dB w) (dC w) (dN w) ∧ wrd (dK w) (dA w) (dB w) (dC w) (dN w) = w
instance (w : Int) : Decidable (isW w) := by unfold isW; infer_instance
end Go.Cr
namespace Go.Proofs.YtabdpmnhjlmnlaaGreatDoor
open Go Go.Pt Go.Cr
section
variable {S : Mem}
theorem fields_spec {c : Int} {Q : List Value → Mem → Prop} (hQ : Q (kdL (cls c)) S) : code_fields S c Q := by
  apply t_code_fields
  unfold b_code_fields
  simp only [jn, if_true, Bool.false_eq_true, if_false]
  have key : ∀ m, cls c = m → Q (kdL m) S := fun m h => by rw [← h]; exact hQ
  by_cases h0 : c = 0
  · rw [if_pos h0]; exact key 0 (by unfold cls; rw [if_pos (by omega)])
  rw [if_neg h0]
  by_cases h21 : c = 21
  · rw [if_pos h21]; exact key 0 (by unfold cls; rw [if_pos (by omega)])
  rw [if_neg h21]
  by_cases h22 : c = 22
  · rw [if_pos h22]; exact key 0 (by unfold cls; rw [if_pos (by omega)])
  rw [if_neg h22]
  by_cases h1 : c = 1
  · rw [if_pos h1]; exact key 1 (by unfold cls; rw [if_neg (by omega), if_pos (by omega)])
  rw [if_neg h1]
  by_cases h2 : c = 2
  · rw [if_pos h2]; exact key 1 (by unfold cls; rw [if_neg (by omega), if_pos (by omega)])
  rw [if_neg h2]
  by_cases h18 : c = 18
  · rw [if_pos h18]; exact key 1 (by unfold cls; rw [if_neg (by omega), if_pos (by omega)])
  rw [if_neg h18]
  by_cases h19 : c = 19
  · rw [if_pos h19]; exact key 1 (by unfold cls; rw [if_neg (by omega), if_pos (by omega)])
  rw [if_neg h19]
  by_cases h20 : c = 20
  · rw [if_pos h20]; exact key 2 (by unfold cls; rw [if_neg (by omega), if_neg (by omega), if_pos (by omega)])
  rw [if_neg h20]
  by_cases h11 : c = 11
  · rw [if_pos h11]; exact key 3 (by unfold cls; rw [if_neg (by omega), if_neg (by omega), if_neg (by omega), if_pos (by omega)])
  rw [if_neg h11]
  by_cases h12 : c = 12
  · rw [if_pos h12]; exact key 3 (by unfold cls; rw [if_neg (by omega), if_neg (by omega), if_neg (by omega), if_pos (by omega)])
  rw [if_neg h12]
  by_cases h13 : c = 13
  · rw [if_pos h13]; exact key 3 (by unfold cls; rw [if_neg (by omega), if_neg (by omega), if_neg (by omega), if_pos (by omega)])
  rw [if_neg h13]
  by_cases h14 : c = 14
  · rw [if_pos h14]; exact key 3 (by unfold cls; rw [if_neg (by omega), if_neg (by omega), if_neg (by omega), if_pos (by omega)])
  rw [if_neg h14]
  by_cases h15 : c = 15
  · rw [if_pos h15]; exact key 3 (by unfold cls; rw [if_neg (by omega), if_neg (by omega), if_neg (by omega), if_pos (by omega)])
  rw [if_neg h15]
  by_cases h16 : c = 16
  · rw [if_pos h16]; exact key 3 (by unfold cls; rw [if_neg (by omega), if_neg (by omega), if_neg (by omega), if_pos (by omega)])
  rw [if_neg h16]
  by_cases h17 : c = 17
  · rw [if_pos h17]; exact key 3 (by unfold cls; rw [if_neg (by omega), if_neg (by omega), if_neg (by omega), if_pos (by omega)])
  rw [if_neg h17]
  exact ⟨rfl, key 4 (by unfold cls; rw [if_neg (by omega), if_neg (by omega), if_neg (by omega), if_neg (by omega)])⟩
theorem one_spec {f : Bool} {r : Int} {Q : Bool → Mem → Prop} (hQ : Q (decide (regR f r)) S) : code_Right_f1 S f r Q := by
  apply t_code_Right_f1
  unfold b_code_Right_f1
  unfold regR at hQ
  by_cases h : r = 0
  · rw [if_pos h]; simp only [h, true_or, decide_true] at hQ; exact hQ
  · rw [if_neg h]
    cases f with
    | true => rw [if_pos rfl]; simpa [h] using hQ
    | false => rw [if_neg (by decide)]; simpa [h] using hQ
theorem cv_one {f : Bool} {r : Int} {K : Bool → Mem → Prop} (hK : K (decide (regR f r)) S) : cv Tryz.prog S (.func (.func 240) #[] #[]) [.bool f, .int .u8 r] fun rv S' => ∃ t : Bool, rv = .bool t ∧ K t S' := by
  refine ⟨240, [], [], rfl, inferInstance, ?_⟩
  have h := one_spec (f := f) (r := r) (Q := K) hK
  unfold code_Right_f1 at h
  exact Tr.mono h fun v S' ⟨r0, h1, h2⟩ => ⟨r0, h1, h2⟩
theorem right_spec {k a b c n : Int} {Q : Bool → Mem → Prop} (hQ : Q (decide (Rt k a b c n)) S) : code_Right S (opL k a b c n) Q := by
  have g0 : nthL (opL k a b c n) 0 = some (.int .u8 k) := rfl
  have g1 : nthL (opL k a b c n) 1 = some (.int .u8 a) := rfl
  have g2 : nthL (opL k a b c n) 2 = some (.int .u8 b) := rfl
  have g3 : nthL (opL k a b c n) 3 = some (.int .u8 c) := rfl
  have g4 : nthL (opL k a b c n) 4 = some (.int .i16 n) := rfl
  have no : ¬ Rt k a b c n → Q false S := fun h => by rw [decide_eq_false h] at hQ; exact hQ
  apply t_code_Right
  unfold b_code_Right
  refine ⟨rfl, ?_⟩
  rw [gI_i g0]
  refine fields_spec ⟨rfl, ?_⟩
  refine jn_cut (fun j => k < 23 → regR (fA (cls k)) a → regR (fB (cls k)) b → regR (fC (cls k)) c → (fN (cls k) = true ∨ n = 0) → j S) ?_ fun j hj => ?_
  · intro h1 h2 h3 h4 h5
    have fin : ∀ (p : Prop) [Decidable p], (p ↔ (k = 18 ∨ k = 19 → 0 ≤ n ∧ n < 9)) → Q (decide p) S := fun p _ hp => by
      have : decide p = decide (Rt k a b c n) := decide_eq_decide.2 ⟨fun h => ⟨h1, h2, h3, h4, h5, hp.1 h⟩, fun h => hp.2 h.rw⟩
      rw [this]; exact hQ
    rw [gI_i g0]
    by_cases h18 : k = 18
    · rw [if_pos h18, gI_i g4]
      by_cases h0 : 0 ≤ n
      · rw [if_pos h0, gI_i g4]
        exact fin _ ⟨fun h _ => ⟨h0, h⟩, fun h => (h (.inl h18)).2⟩
      · rw [if_neg h0]; exact no fun h => h0 (h.rw (.inl h18)).1
    rw [if_neg h18, gI_i g0]
    by_cases h19 : k = 19
    · rw [if_pos h19, gI_i g4]
      by_cases h0 : 0 ≤ n
      · rw [if_pos h0, gI_i g4]
        exact fin _ ⟨fun h _ => ⟨h0, h⟩, fun h => (h (.inr h19)).2⟩
      · rw [if_neg h0]; exact no fun h => h0 (h.rw (.inr h19)).1
    rw [if_neg h19]
    have := fin True ⟨fun _ h => by omega, fun _ => trivial⟩
    simpa using this
  · rw [gI_i g0]
    by_cases h1 : 23 ≤ k
    · rw [if_pos h1]; exact no fun h => by have := h.kk; omega
    rw [if_neg h1, gB_i (show nthL (kdL (cls k)) 0 = some (.bool (fA (cls k))) from rfl), gI_i g1]
    refine cv_one ?_
    by_cases h2 : regR (fA (cls k)) a
    rotate_left
    · rw [decide_eq_false h2, if_neg (by decide)]; exact no fun h => h2 h.aa
    rw [decide_eq_true h2, if_pos rfl, gB_i (show nthL (kdL (cls k)) 1 = some (.bool (fB (cls k))) from rfl), gI_i g2]
    refine cv_one ?_
    by_cases h3 : regR (fB (cls k)) b
    rotate_left
    · rw [decide_eq_false h3, if_neg (by decide)]; exact no fun h => h3 h.bb
    rw [decide_eq_true h3, if_pos rfl, gB_i (show nthL (kdL (cls k)) 2 = some (.bool (fC (cls k))) from rfl), gI_i g3]
    refine cv_one ?_
    by_cases h4 : regR (fC (cls k)) c
    rotate_left
    · rw [decide_eq_false h4, if_neg (by decide)]; exact no fun h => h4 h.cc
    rw [decide_eq_true h4, if_pos rfl, gB_i (show nthL (kdL (cls k)) 3 = some (.bool (fN (cls k))) from rfl)]
    by_cases h5 : fN (cls k) = true
    · rw [if_pos h5]; exact hj (by omega) h2 h3 h4 (.inl h5)
    rw [if_neg h5, gI_i g4]
    by_cases h6 : n = 0
    · rw [if_neg (by simpa using h6)]; exact hj (by omega) h2 h3 h4 (.inr h6)
    · rw [if_pos h6]; exact no fun h => by rcases h.nn with h | h <;> contradiction
theorem with_spec {w v X j : Nat} {at_ n : Nat} (hw : w = X * 2 ^ j) (hj : at_ + n ≤ j) (hj2 : j ≤ 63) (hn : 0 < n) (hv : v < 2 ^ n) (hw64 : w < 18446744073709551616) {Q : Int → Mem → Prop} (hQ : Q ((w + v * 2 ^ at_ : Nat) : Int) S) : word_With S (w : Int) at_ n (v : Int) Q := by
  apply t_word_With
  unfold b_word_With
  have hpn : 2 ^ n < 18446744073709551616 := Nat.lt_of_le_of_lt (Nat.pow_le_pow_right (by decide) (show n ≤ 63 by omega)) (by decide)
  have hpj : 2 ^ j < 18446744073709551616 := Nat.lt_of_le_of_lt (Nat.pow_le_pow_right (by decide) hj2) (by decide)
  have hp0 : 0 < 2 ^ n := Nat.two_pow_pos n
  have hpa : 0 < 2 ^ at_ := Nat.two_pow_pos at_
  have hmul : 2 ^ n * 2 ^ at_ ≤ 2 ^ j := by rw [← Nat.pow_add]; exact Nat.pow_le_pow_right (by decide) (by omega)
  have hm1 : (2 ^ n - 1) * 2 ^ at_ < 2 ^ j := Nat.lt_of_lt_of_le (Nat.mul_lt_mul_of_pos_right (by omega) hpa) hmul
  have hv1 : v * 2 ^ at_ < 2 ^ j := Nat.lt_of_lt_of_le (Nat.mul_lt_mul_of_pos_right hv hpa) hmul
  refine jn_cut (fun j => j S) ?_ fun j0 hj0 => by rw [if_neg (by omega), if_neg (by omega), if_neg (by omega)]; exact hj0
  refine jn_cut (fun j0 => j0 ((2 ^ n - 1 : Nat) : Int) S) ?_ fun j0 hj0 => ?_
  · refine ⟨by omega, by omega, ?_⟩
    rw [ishl_nat (by omega) (by omega), iandn_nat hw64 (by omega) (by rw [hw]; exact low_and hm1)]
    rw [iand_nat (by omega) (by omega), Nat.and_two_pow_sub_one_eq_mod, Nat.mod_eq_of_lt hv, ishl_nat (by omega) (by omega), ior_nat hw64 (by omega), hw, or_add hv1, ← hw]
    exact hQ
  · rw [if_pos (by omega)]
    refine ⟨by omega, ?_⟩
    rw [mask_nat hn (by omega)]
    exact hj0
theorem field_spec {w at_ n : Nat} (ha : at_ ≤ 63) (hn : 0 < n) (hn2 : n ≤ 63) (hw64 : w < 18446744073709551616) {Q : Int → Mem → Prop} (hQ : Q ((w / 2 ^ at_ % 2 ^ n : Nat) : Int) S) : word_Field S (w : Int) at_ n Q := by
  apply t_word_Field
  unfold b_word_Field
  have hpn : 2 ^ n < 18446744073709551616 := Nat.lt_of_le_of_lt (Nat.pow_le_pow_right (by decide) hn2) (by decide)
  refine jn_cut (fun j => j S) ?_ fun j0 hj0 => by rw [if_neg (by omega), if_neg (by omega), if_neg (by omega)]; exact hj0
  refine ⟨by omega, ?_⟩
  have hd : w / 2 ^ at_ ≤ w := Nat.div_le_self _ _
  rw [if_pos (by omega)]
  refine ⟨by omega, ?_⟩
  rw [mask_nat hn hn2, ishr_nat ha, iand_nat (by omega) (by omega), Nat.and_two_pow_sub_one_eq_mod]
  exact hQ
theorem encode_spec {k a b c n : Int} (hb : Bd k a b c n) {Q : Int → Bool → Mem → Prop} (hY : Rt k a b c n → Q (wrd k a b c n) true S) (hN : ¬ Rt k a b c n → Q 0 false S) : code_Encode S (opL k a b c n) Q := by
  apply t_code_Encode
  unfold b_code_Encode
  refine ⟨rfl, ?_⟩
  refine jn_cut (fun j => Rt k a b c n → j S) ?_ fun j hj => ?_
  rotate_left
  · refine right_spec ?_
    by_cases hr : Rt k a b c n
    · rw [decide_eq_true hr, if_pos rfl]; exact hj hr
    · rw [decide_eq_false hr, if_neg (by decide)]; exact hN hr
  intro hr
  have h1 := hb.kk
  have h2 := hb.aa
  have h3 := hb.bb
  have h4 := hb.cc
  have h5 := hb.nn
  have hq := hY hr
  have hk := hr.kk
  have ha := hr.aa
  have hbb := hr.bb
  have hcc := hr.cc
  unfold regR at ha hbb hcc
  have g0 : nthL (opL k a b c n) 0 = some (.int .u8 k) := rfl
  have g1 : nthL (opL k a b c n) 1 = some (.int .u8 a) := rfl
  have g2 : nthL (opL k a b c n) 2 = some (.int .u8 b) := rfl
  have g3 : nthL (opL k a b c n) 3 = some (.int .u8 c) := rfl
  have g4 : nthL (opL k a b c n) 4 = some (.int .i16 n) := rfl
  generalize opL k a b c n = o at *
  obtain ⟨kk, hkk⟩ : ∃ m : Nat, k = m := ⟨k.toNat, by omega⟩
  obtain ⟨aa, haa⟩ : ∃ m : Nat, a = m := ⟨a.toNat, by omega⟩
  obtain ⟨bb, hbb'⟩ : ∃ m : Nat, b = m := ⟨b.toNat, by omega⟩
  obtain ⟨cc, hcc'⟩ : ∃ m : Nat, c = m := ⟨c.toNat, by omega⟩
  obtain ⟨nn, hnn⟩ : ∃ m : Nat, n % 65536 = m := ⟨(n % 65536).toNat, by omega⟩
  rw [gI_i g0, wu64 h1.1 (by omega), hkk]
  refine with_spec (w := 0) (v := kk) (X := 0) (j := 63) (at_ := 26) (n := 6) (by simp) (by decide) (by decide) (by decide) (by omega) (by decide) ?_
  rw [gI_i g1, wu64 h2.1 (by omega), haa]
  refine with_spec (v := aa) (X := kk) (j := 26) (at_ := 22) (n := 4) (by simp) (by decide) (by decide) (by decide) (by omega) (by omega) ?_
  rw [gI_i g2, wu64 h3.1 (by omega), hbb']
  refine with_spec (v := bb) (X := kk * 16 + aa) (j := 22) (at_ := 18) (n := 4) (by omega) (by decide) (by decide) (by decide) (by omega) (by omega) ?_
  refine jn_cut (fun j => fC (cls k) = false → j S) ?_ fun j hj => ?_
  · intro hf
    have hw16 : IntKind.u16.wrap n = n % 65536 := by simp [IntKind.wrap, IntKind.bits, IntKind.signed]
    rw [gI_i g4, hw16, wu64 (by omega) (by omega), hnn]
    refine with_spec (v := nn) (X := kk * 256 + aa * 16 + bb) (j := 18) (at_ := 0) (n := 16) (by omega) (by decide) (by decide) (by decide) (by omega) (by omega) ?_
    have e : IntKind.u32.wrap (((0 + kk * 2 ^ 26 + aa * 2 ^ 22 + bb * 2 ^ 18 + nn * 2 ^ 0 : Nat)) : Int) = wrd k a b c n := by
      rw [wu32 (by omega) (by omega)]
      unfold wrd
      rw [hf, if_neg (by decide)]
      omega
    rw [e]; exact hq
  · rw [gI_i g0]
    refine fields_spec ?_
    rw [gB_i (show nthL (kdL (cls k)) 2 = some (.bool (fC (cls k))) from rfl)]
    by_cases hf : fC (cls k) = true
    · rw [if_pos hf, gI_i g3, wu64 h4.1 (by omega), hcc']
      refine with_spec (v := cc) (X := kk * 256 + aa * 16 + bb) (j := 18) (at_ := 0) (n := 4) (by omega) (by decide) (by decide) (by decide) (by omega) (by omega) ?_
      have e : IntKind.u32.wrap (((0 + kk * 2 ^ 26 + aa * 2 ^ 22 + bb * 2 ^ 18 + cc * 2 ^ 0 : Nat)) : Int) = wrd k a b c n := by
        rw [wu32 (by omega) (by omega)]
        unfold wrd
        rw [if_pos hf]
        omega
      rw [e]; exact hq
    · rw [if_neg hf]; exact hj (by simpa using hf)
theorem decode_spec {w : Int} (h0 : 0 ≤ w) (h1 : w ≤ 4294967295) {Q : List Value → Bool → Mem → Prop} (hY : isW w → Q (opL (dK w) (dA w) (dB w) (dC w) (dN w)) true S) (hN : ¬ isW w → Q (opL 0 0 0 0 0) false S) : code_Decode S w Q := by
  apply t_code_Decode
  unfold b_code_Decode
  obtain ⟨m, rfl⟩ : ∃ m : Nat, w = m := ⟨w.toNat, by omega⟩
  rw [wu64 (x := (m : Int)) (by omega) (by omega)]
  refine field_spec (w := m) (at_ := 26) (n := 6) (by decide) (by decide) (by decide) (by omega) ?_
  refine field_spec (w := m) (at_ := 22) (n := 4) (by decide) (by decide) (by decide) (by omega) ?_
  refine field_spec (w := m) (at_ := 18) (n := 4) (by decide) (by decide) (by decide) (by omega) ?_
  have eK : IntKind.u8.wrap ((m / 2 ^ 26 % 2 ^ 6 : Nat) : Int) = dK m := by rw [wu8 (by omega) (by omega)]; unfold dK; omega
  have eA : IntKind.u8.wrap ((m / 2 ^ 22 % 2 ^ 4 : Nat) : Int) = dA m := by rw [wu8 (by omega) (by omega)]; unfold dA; omega
  have eB : IntKind.u8.wrap ((m / 2 ^ 18 % 2 ^ 4 : Nat) : Int) = dB m := by rw [wu8 (by omega) (by omega)]; unfold dB; omega
  rw [eK, eA, eB]
  refine jn_cut (fun j => j (opL (dK m) (dA m) (dB m) (dC m) (dN m)) S) ?_ fun j hj => ?_
  · refine ⟨rfl, ?_⟩
    refine encode_spec (d_bd m) (fun hr => ?_) fun hr => ?_
    · rw [if_pos rfl]
      by_cases he : wrd (dK m) (dA m) (dB m) (dC m) (dN m) = m
      · rw [if_neg (by simpa using he)]
        exact ⟨rfl, hY ⟨hr, he⟩⟩
      · rw [if_pos he]; exact hN fun h => he h.2
    · rw [if_neg (by decide)]; exact hN fun h => hr h.1
  · refine fields_spec ?_
    rw [gB_i (show nthL (kdL (cls (dK m))) 2 = some (.bool (fC (cls (dK m)))) from rfl)]
    by_cases hf : fC (cls (dK m)) = true
    · rw [if_pos hf]
      refine field_spec (w := m) (at_ := 0) (n := 4) (by decide) (by decide) (by decide) (by omega) ?_
      have eC : IntKind.u8.wrap ((m / 2 ^ 0 % 2 ^ 4 : Nat) : Int) = dC m := by rw [wu8 (by omega) (by omega)]; unfold dC; rw [if_pos hf]; omega
      have eN : dN m = 0 := by unfold dN; rw [if_pos hf]
      rw [eC]; rw [eN] at hj; exact hj
    · rw [if_neg hf]
      refine field_spec (w := m) (at_ := 0) (n := 16) (by decide) (by decide) (by decide) (by omega) ?_
      have eC : dC m = 0 := by unfold dC; rw [if_neg hf]
      have eN : IntKind.i16.wrap ((m / 2 ^ 0 % 2 ^ 16 : Nat) : Int) = dN m := by unfold dN; rw [if_neg hf]; congr 1; omega
      rw [eN]; rw [eC] at hj; exact hj
end
end Go.Proofs.YtabdpmnhjlmnlaaGreatDoor
end
section
namespace Go.Cr
open Go Go.Pt
structure GM where
  map : Nat → Option (Nat × Bool)
  dat : Nat → List Int
def Byt (l : List Int) : Prop := ∀ x ∈ l, 0 ≤ x ∧ x ≤ 255
structure GM.Ok (g : GM) : Prop where
  pg : ∀ p, 32 ≤ p → g.map p = none
  len : ∀ p f w, g.map p = some (f, w) → (g.dat f).length = 256
  byt : ∀ p f w, g.map p = some (f, w) → Byt (g.dat f)
def num : List Int → Int
  | [] => 0
  | x :: l => x + 256 * num l
theorem num_bd : ∀ {l : List Int}, Byt l → 0 ≤ num l ∧ num l < 256 ^ l.length
  | [], _ => by simp [num]
  | x :: l, h => by
    have h1 := h x (by simp)
    have h2 := num_bd (l := l) fun y hy => h y (by simp [hy])
    simp only [num, List.length_cons, Int.pow_succ]
    omega
theorem num_append : ∀ (l r : List Int), num (l ++ r) = num l + 256 ^ l.length * num r
  | [], r => by simp [num]
  | x :: l, r => by
    simp only [List.cons_append, num, List.length_cons, Int.pow_succ, num_append l r]
    rw [Int.mul_add, Int.mul_comm (256 ^ l.length) 256, Int.mul_assoc]
    omega
def bytes8 (w : Int) : List Int := (List.range 8).map fun i => w / 2 ^ (8 * i) % 256
theorem bytes8_len (w : Int) : (bytes8 w).length = 8 := by simp [bytes8]
theorem bytes8_byt (w : Int) : Byt (bytes8 w) := fun x hx => by
  obtain ⟨i, _, rfl⟩ := List.mem_map.1 hx
  omega
def ldB (g : GM) (page off n : Nat) : Option (List Int) := (g.map page).map fun q => ((g.dat q.1).drop off).take n
theorem ldB_byt {g : GM} (hg : g.Ok) {page off n : Nat} {l : List Int} (h : ldB g page off n = some l) (hn : off + n ≤ 256) : l.length = n ∧ Byt l := by
  unfold ldB at h
  cases hm : g.map page with
  | none => rw [hm] at h; cases h
  | some q =>
    rw [hm] at h
    simp only [Option.map_some, Option.some.injEq] at h
    subst h
    have hl := hg.len page q.1 q.2 hm
    refine ⟨by simp only [List.length_take, List.length_drop]; omega, fun x hx => hg.byt page q.1 q.2 hm x (List.mem_of_mem_drop (List.mem_of_mem_take hx))⟩
def place (s : Seat) (g : GM) (addr : Int) (wr : Bool) : Option (Nat × Nat) :=
  if 31 < addr / 256 then none
  else if s.base = 0 then some ((addr / 256).toNat, (addr % 256).toNat)
  else if 31 < s.base / 256 then none
  else match ldB g (s.base / 256).toNat (8 * (addr / 256)).toNat 8 with
    | none => none
    | some p => if num p % 2 = 0 ∨ (wr = true ∧ num p / 2 % 2 = 0) ∨ 31 < num p / 256 then none else some ((num p / 256).toNat, (addr % 256).toNat)
theorem place_bd {s : Seat} {g : GM} (hg : g.Ok) {addr : Int} (ha : W64 addr) {wr : Bool} {q : Nat × Nat} (h : place s g addr wr = some q) : q.1 ≤ 31 ∧ q.2 = (addr % 256).toNat ∧ q.2 ≤ 255 := by
  unfold place at h
  split at h
  · cases h
  · split at h
    · cases h; exact ⟨by show (addr / 256).toNat ≤ 31; omega, rfl, by show (addr % 256).toNat ≤ 255; omega⟩
    · split at h
      · cases h
      · split at h
        · cases h
        · rename_i p hp
          have hb := ldB_byt hg hp (by omega)
          have := num_bd hb.2
          split at h
          · cases h
          · cases h; exact ⟨by show (num p / 256).toNat ≤ 31; omega, rfl, by show (addr % 256).toNat ≤ 255; omega⟩
def getW (s : Seat) (g : GM) (addr : Int) (n : Nat) : Option Int := match place s g addr false with
  | none => none
  | some q => if addr % n ≠ 0 then none else (ldB g q.1 q.2 n).map num
def wrB (g : GM) (f off : Nat) (l : List Int) : GM := { g with dat := fun x => if x = f then (g.dat f).take off ++ l ++ (g.dat f).drop (off + l.length) else g.dat x }
def putW (s : Seat) (g : GM) (addr w : Int) : Option GM := match place s g addr true with
  | none => none
  | some q => if addr % 8 ≠ 0 then none else match g.map q.1 with
    | some (f, true) => some (wrB g f q.2 (bytes8 w))
    | _ => none
structure Out where
  s : Seat
  k : Int
  n : Int
  g : GM
def trapM (s : Seat) (g : GM) (c a : Int) : Out := ⟨s.trap c a, if (s.trap c a).st = 2 then 4 else 1, c, g⟩
def x64 (n : Int) : Int := IntKind.u64.wrap n
def getR (s : Seat) (time : Int) (me : Int) (n : Int) : Int := if n = 0 then s.base else if n = 1 then s.vec else if n = 2 then s.epc else if n = 3 then s.cause else if n = 4 then s.addr else if n = 5 then s.mask else if n = 6 then (if s.opn = true then 1 else 0) else if n = 7 then time else me
def setR (s : Seat) (n v : Int) : Option Seat := if n = 0 then some { s with base := v } else if n = 1 then some { s with vec := v } else if n = 2 then some { s with epc := v } else if n = 3 then some { s with cause := v } else if n = 4 then some { s with addr := v } else if n = 5 then some { s with mask := v % 256 } else if n = 6 then some { s with opn := decide (v % 2 = 1) } else none
def sumM (k b c : Int) : Int := if k = 3 then x64 (b + c) else if k = 4 then x64 (b - c) else if k = 5 then x64 (b * c) else if k = 6 then iand .u64 b c else if k = 7 then ior .u64 b c else if k = 8 then ixor .u64 b c else if k = 9 then ishl .u64 b (c % 64) else ishr .u64 b (c % 64)
def Seat.r (s : Seat) (i : Int) : Int := s.R.getD i.toNat 0
def Seat.setr (s : Seat) (i v : Int) : Seat := { s with R := s.R.set i.toNat v }
def doM (s : Seat) (g : GM) (time me k a b c n : Int) : Out :=
  let N := x64 n
  let nx := x64 (s.pc + 4)
  let ok (t : Seat) (pc : Int) : Out := ⟨{ t with pc := pc }, 0, 0, g⟩
  if k = 1 then ok (s.setr a N) nx
  else if k = 2 then ok (s.setr a (x64 (s.r a % 65536 + x64 (N * 65536)))) nx
  else if k = 11 then ok (s.setr a (x64 (s.r b + N))) nx
  else if k = 12 then match getW s g (x64 (s.r b + N)) 8 with
    | some v => ok (s.setr a v) nx
    | none => trapM s g 3 (x64 (s.r b + N))
  else if k = 13 then match putW s g (x64 (s.r b + N)) (s.r a) with
    | some g' => ⟨{ s with pc := nx }, 0, 0, g'⟩
    | none => trapM s g 4 (x64 (s.r b + N))
  else if k = 14 then ok s (if s.r a = s.r b then x64 (s.pc + x64 (4 * N)) else nx)
  else if k = 15 then ok s (if s.r a ≠ s.r b then x64 (s.pc + x64 (4 * N)) else nx)
  else if k = 16 then ok s (if IntKind.i64.wrap (s.r a) < IntKind.i64.wrap (s.r b) then x64 (s.pc + x64 (4 * N)) else nx)
  else if k = 17 then ok (s.setr a nx) (x64 (s.r b + N))
  else if k = 18 then ok (s.setr a (getR s time me n)) nx
  else if k = 19 then match setR s n (s.r a) with
    | some t => ok t nx
    | none => trapM s g 1 s.pc
  else if k = 20 then ⟨{ s with pc := nx }, 2, N, g⟩
  else if k = 21 then if s.may = 0 then ⟨{ s with pc := nx, st := 1 }, 3, 0, g⟩ else ⟨{ s with pc := nx }, 0, 0, g⟩
  else if k = 22 then ⟨s.back, 0, 0, g⟩
  else if 3 ≤ k then ok (s.setr a (sumM k (s.r b) (s.r c))) nx
  else ok s nx
def stepM (s : Seat) (g : GM) (time me : Int) : Out :=
  if s.st ≠ 0 then ⟨s, 5, 0, g⟩
  else match nextL s with
    | some n => trapM { s with pend := s.pend - 2 ^ n } g (16 + n) 0
    | none => match getW s g s.pc 4 with
      | none => trapM s g 2 s.pc
      | some w => if isW w then doM s g time me (dK w) (dA w) (dB w) (dC w) (dN w) else trapM s g 1 w
end Go.Cr
end
section
namespace Go.Cr
open Go Go.Pt
structure By (S : Mem) (p : Sl) (xs : List Int) : Prop where
  len : xs.length = p.n
  cap : p.n ≤ p.c
  bd : Byt xs
  lie : p.n = 0 ∨ ∃ b o, p.p = some (b, o) ∧ ∀ i (h : i < xs.length), S.cell b (o + i) = some (.int .u8 xs[i])
theorem or_low {a b j : Nat} (ha : a < 2 ^ j) : a ||| (b * 2 ^ j) = a + b * 2 ^ j := by
  rw [Nat.or_comm, or_add ha, Nat.add_comm]
theorem and_bit (m i : Nat) : m &&& 2 ^ i = 2 ^ i * (m / 2 ^ i % 2) := by
  apply Nat.eq_of_testBit_eq
  intro j
  rw [Nat.testBit_and, Nat.testBit_two_pow]
  have ht : m.testBit i = decide (m / 2 ^ i % 2 = 1) := Nat.testBit_eq_decide_div_mod_eq
  rcases Nat.mod_two_eq_zero_or_one (m / 2 ^ i) with h | h
  · rw [h, Nat.mul_zero, Nat.zero_testBit]
    by_cases hj : i = j
    · subst hj; rw [ht, h]; rfl
    · simp [hj]
  · rw [h, Nat.mul_one, Nat.testBit_two_pow]
    by_cases hj : i = j
    · subst hj; rw [ht, h]; rfl
    · simp [hj]
theorem pow256 (i : Nat) : (256 : Int) ^ i = ((2 ^ (8 * i) : Nat) : Int) := by
  have : (2 : Nat) ^ (8 * i) = 256 ^ i := by rw [Nat.pow_mul]
  rw [this, Int.natCast_pow]; rfl
end Go.Cr
namespace Go.Proofs.YtabdpmnhjlmnlaaGreatDoor
open Go Go.Pt Go.Cr
section
variable {S : Mem}
theorem of_spec {p : Sl} {xs : List Int} (hp : By S p xs) (h8 : xs.length ≤ 8) {Q : Int → Mem → Prop} (hQ : Q (num xs) S) : word_Of S p Q := by
  apply t_word_Of
  unfold b_word_Of
  refine jn_cut (fun j => j (num xs) S) hQ fun Jx hJ => ?_
  have hlen := hp.len
  refine lp_rule (fun (z : Int × Int) S' => ∃ i : Nat, z = (num (xs.take i), (i : Int)) ∧ i ≤ xs.length ∧ S' = S) (fun z => xs.length - z.2.toNat) ?_ ⟨0, rfl, by omega, rfl⟩
  rintro X z S' ⟨i, rfl, hi, rfl⟩ ih
  dsimp only at ih ⊢
  by_cases hlt : (i : Int) < (p.n : Int)
  · rw [if_pos hlt]
    rcases hp.lie with h0 | ⟨b, o, hpp, hc⟩
    · omega
    have hil : i < xs.length := by omega
    have hx := hp.bd _ (List.getElem_mem hil)
    obtain ⟨pp, pn, pc⟩ := p
    simp only at hpp hlt hlen
    subst hpp
    rw [sl_i]
    refine ⟨by omega, by omega, ?_⟩
    rw [show o + (i : Int).toNat * 1 = o + i by omega, gI_i (hc i hil), if_pos (by omega), w64 (x := 8 * (i : Int)) (by omega) (by omega)]
    refine ⟨by omega, ?_⟩
    obtain ⟨x, hxx⟩ : ∃ m : Nat, xs[i] = m := ⟨xs[i].toNat, by omega⟩
    have hb := num_bd (l := xs.take i) fun y hy => hp.bd y (List.mem_of_mem_take hy)
    rw [List.length_take, Nat.min_eq_left (by omega), pow256] at hb
    obtain ⟨m, hm⟩ : ∃ m : Nat, num (xs.take i) = m := ⟨(num (xs.take i)).toNat, by omega⟩
    have hp64 : 2 ^ (8 * i) ≤ 2 ^ 56 := Nat.pow_le_pow_right (by decide) (by omega)
    have hx2 : x * 2 ^ (8 * i) ≤ 255 * 2 ^ (8 * i) := Nat.mul_le_mul_right _ (by omega)
    have e1 : ishl .u64 (IntKind.u64.wrap xs[i]) (8 * (i : Int)) = ((x * 2 ^ (8 * i) : Nat) : Int) := by
      rw [hxx, wu64 (by omega) (by omega)]
      have := ishl_nat (a := x) (s := 8 * i) (by omega) (by omega)
      rw [← this]; congr 1
    have e2 : num (xs.take (i + 1)) = num (xs.take i) + 256 ^ i * xs[i] := by
      rw [List.take_succ_eq_append_getElem hil, num_append, List.length_take, Nat.min_eq_left (by omega)]
      simp [num]
    rw [e1, hm, ior_nat (by omega) (by omega), or_low (by omega), w64 (by omega) (by omega)]
    refine ih _ S' ⟨i + 1, ?_, by omega, rfl⟩ (by dsimp only; omega)
    rw [e2, hm, hxx, pow256]
    congr 1
    push_cast
    rw [Int.mul_comm]
  · rw [if_neg hlt]
    have e : i = xs.length := by omega
    subst e
    rw [List.take_length]; exact hJ
end
structure Bus (bus : Value) (I : Mem → Rho → GM → Prop) (R : Nat → Prop) : Prop where
  ifc : isI bus
  rg : ∀ {S ρ g}, I S ρ g → ∀ b r, ρ b = some r → S b ≠ none
  ok : ∀ {S ρ g}, I S ρ g → g.Ok
  gl : ∀ {S ρ g}, I S ρ g → Gl S
  kp : ∀ {S ρ g S'}, I S ρ g → Keeps S S' [] → I S' ρ g
  load : ∀ {S ρ g} {page off n : Nat} {Q : Value → Mem → Prop}, I S ρ g → page ≤ 31 → 0 < n → off + n ≤ 256 →
    (∀ S' ρ' sl (e : Int), Mv S ρ S' ρ' R → I S' ρ' g → (match ldB g page off n with | some l => e = 0 ∧ By S' sl l | none => e ≠ 0 ∧ By S' sl []) → Q (.tuple #[eL sl, .int .i64 e]) S') → ci Tryz.prog S bus "Load" [.int .i64 page, .int .i64 off, .int .i64 n] Q
  save : ∀ {S ρ g} {page off : Nat} {sl : Sl} {l : List Int} {Q : Value → Mem → Prop}, I S ρ g → page ≤ 31 → off + 8 ≤ 256 → By S sl l → (∀ b o, sl.p = some (b, o) → ρ b = none) → l.length = 8 →
    (∀ S' ρ' g' (e : Int), Mv S ρ S' ρ' R → I S' ρ' g' → (match g.map page with | some (f, true) => e = 0 ∧ g' = wrB g f off l | _ => e ≠ 0 ∧ g' = g) → Q (.int .i64 e) S') → ci Tryz.prog S bus "Save" [.int .i64 page, .int .i64 off, eL sl] Q
structure Cx (I : Mem → Rho → GM → Prop) (R : Nat → Prop) (S : Mem) (ρ : Rho) (g : GM) (b o : Nat) (s : Seat) : Prop where
  i : I S ρ g
  at_ : At S b o s.L
  rol : ∃ r, ρ b = some r ∧ ¬ R r
section
variable {bus : Value} {I : Mem → Rho → GM → Prop} {R : Nat → Prop} {S : Mem} {ρ : Rho} {g : GM} {b o : Nat} {s : Seat} {time me : Int}
theorem Cx.mv {S' : Mem} {ρ' : Rho} {g' : GM} (h : Cx I R S ρ g b o s) (m : Mv S ρ S' ρ' R) (hi : I S' ρ' g') : Cx I R S' ρ' g' b o s := by
  obtain ⟨r, h1, h2⟩ := h.rol
  exact ⟨hi, h.at_.keep (m.kp b h.at_.some fun r' e => by rw [h1] at e; cases e; exact h2), r, m.ext b r h1, h2⟩
theorem Cx.cell (h : Cx I R S ρ g b o s) (hl : s.R.length = 16) {i : Nat} (hi : i < 26) : S.cell b (o + i) = nthL s.L i := h.at_.cell (by rw [Seat.L_len hl]; exact hi)
def cL (b o : Nat) (bus : Value) (time me : Int) : List Value := [.pointer (some ⟨b, o, none⟩), bus, .int .u64 time, .int .i64 me]
theorem place_spec (hB : Bus bus I R) (hx : Cx I R S ρ g b o s) (hs : s.Ok) {addr : Int} (ha : W64 addr) {wr : Bool} {Q : Int → Int → Bool → Mem → Prop}
    (hQ : ∀ S1 ρ1, Mv S ρ S1 ρ1 R → Cx I R S1 ρ1 g b o s → match place s g addr wr with | some q => Q q.1 q.2 true S1 | none => Q 0 0 false S1) : cpu_cpu_place S (cL b o bus time me) addr wr Q := by
  have hl := hs.len
  have hbase := hs.base
  have c0 : nthL (cL b o bus time me) 0 = some (.pointer (adr (some (b, o)))) := rfl
  have c1 : nthL (cL b o bus time me) 1 = some bus := rfl
  apply t_cpu_cpu_place
  unfold b_cpu_cpu_place
  refine ⟨rfl, ?_⟩
  simp only [jn]
  rw [td ha.1, wu64 (x := addr / 256) (by omega) (by omega), tm ha.1]
  have m0 : Mv S ρ S ρ R := Mv.refl (hB.rg hx.i)
  unfold place at hQ
  by_cases h1 : 31 < addr / 256
  · rw [if_pos (by omega)]
    have := hQ S ρ m0 hx
    rw [if_pos h1] at this; exact this
  rw [if_neg (by omega), gP_i c0, nn_i, gI_i ((hx.cell hl (by decide)).trans (Seat.g17 hl))]
  by_cases h2 : s.base = 0
  · rw [if_pos h2]
    have := hQ S ρ m0 hx
    rw [if_neg h1, if_pos h2] at this
    rw [w64 (by omega) (by omega), w64 (by omega) (by omega)]
    have e1 : (((addr / 256).toNat : Nat) : Int) = addr / 256 := by omega
    have e2 : (((addr % 256).toNat : Nat) : Int) = addr % 256 := by omega
    simp only [e1, e2] at this
    exact this
  rw [if_neg h2, gP_i c0, nn_i, gI_i ((hx.cell hl (by decide)).trans (Seat.g17 hl)), td hbase.1, wu64 (x := s.base / 256) (by omega) (by omega)]
  by_cases h3 : 31 < s.base / 256
  · rw [if_pos (by omega)]
    have := hQ S ρ m0 hx
    rw [if_neg h1, if_neg h2, if_pos h3] at this; exact this
  rw [if_neg (by omega), gV_i c1, w64 (x := s.base / 256) (by omega) (by omega), wu64 (x := 8 * (addr / 256)) (by omega) (by omega), w64 (x := 8 * (addr / 256)) (by omega) (by omega)]
  have e1 : s.base / 256 = (((s.base / 256).toNat : Nat) : Int) := by omega
  have e2 : 8 * (addr / 256) = (((8 * (addr / 256)).toNat : Nat) : Int) := by omega
  have e3 : (8 : Int) = ((8 : Nat) : Int) := rfl
  have hld : ∀ {Q : Value → Mem → Prop}, (∀ S' ρ' sl (e : Int), Mv S ρ S' ρ' R → I S' ρ' g → (match ldB g (s.base / 256).toNat (8 * (addr / 256)).toNat 8 with | some l => e = 0 ∧ By S' sl l | none => e ≠ 0 ∧ By S' sl []) → Q (.tuple #[eL sl, .int .i64 e]) S') → ci Tryz.prog S bus "Load" [.int .i64 (s.base / 256), .int .i64 (8 * (addr / 256)), .int .i64 8] Q := fun {Q} h => by
    have := hB.load (page := (s.base / 256).toNat) (off := (8 * (addr / 256)).toNat) (n := 8) hx.i (by omega) (by decide) (by omega) h
    rw [← e1, ← e2] at this
    exact this
  refine hld fun S' ρ' sl e hm hi hl2 => ⟨sl, e, rfl, ?_⟩
  have hq := hQ S' ρ' hm (hx.mv hm hi)
  rw [if_neg h1, if_neg h2, if_neg h3] at hq
  cases hd : ldB g (s.base / 256).toNat (8 * (addr / 256)).toNat 8 with
  | none =>
    rw [hd] at hl2 hq
    refine of_spec hl2.2 (by simp) ?_
    rw [if_pos hl2.1]; exact hq
  | some p =>
    rw [hd] at hl2 hq
    obtain ⟨rfl, hby⟩ := hl2
    obtain ⟨hp8, hpb⟩ := ldB_byt (hB.ok hx.i) hd (by omega)
    refine of_spec hby (by omega) ?_
    rw [if_neg (fun h => h rfl)]
    have hn := num_bd hpb
    rw [hp8] at hn
    obtain ⟨m, hm⟩ : ∃ m : Nat, num p = m := ⟨(num p).toNat, by omega⟩
    have hm64 : m < 18446744073709551616 := by omega
    dsimp only at hq
    rw [hm] at hq ⊢
    have a1 : iand .u64 (m : Int) 1 = ((m % 2 : Nat) : Int) := by
      have := iand_nat (a := m) (b := 1) hm64 (by decide)
      rw [Nat.and_one_is_mod] at this; exact this
    have a2 : iand .u64 (m : Int) 2 = ((2 * (m / 2 % 2) : Nat) : Int) := by
      have := iand_nat (a := m) (b := 2) hm64 (by decide)
      have e := and_bit m 1
      rw [Nat.pow_one] at e
      rw [e] at this; exact this
    have a3 : ishr .u64 (m : Int) 8 = ((m / 256 : Nat) : Int) := ishr_nat (a := m) (s := 8) (by decide)
    rw [a1, a2, a3]
    by_cases k1 : m % 2 = 0
    · rw [if_pos (by omega)]
      rw [if_pos (by left; omega)] at hq; exact hq
    rw [if_neg (by omega)]
    have fin : (wr = true → m / 2 % 2 ≠ 0) → (if 32 ≤ ((m / 256 : Nat) : Int) then Q 0 0 false S' else Q (IntKind.i64.wrap ((m / 256 : Nat) : Int)) (IntKind.i64.wrap (addr % 256)) true S') := fun hw => by
      by_cases k3 : 31 < m / 256
      · rw [if_pos (by omega)]
        rw [if_pos (by right; right; omega)] at hq; exact hq
      · rw [if_neg (by omega)]
        rw [if_neg (by
          rintro (h | ⟨h, h'⟩ | h)
          · omega
          · exact hw h (by omega)
          · omega)] at hq
        rw [w64 (by omega) (by omega), w64 (by omega) (by omega)]
        have e1 : (((m / 256 : Int).toNat : Nat) : Int) = ((m / 256 : Nat) : Int) := by omega
        have e2 : (((addr % 256).toNat : Nat) : Int) = addr % 256 := by omega
        simp only [e1, e2] at hq
        exact hq
    cases wr with
    | false => rw [if_neg (by decide)]; exact fin fun h => by cases h
    | true =>
      rw [if_pos rfl]
      by_cases k2 : m / 2 % 2 = 0
      · rw [if_pos (by omega)]
        rw [if_pos (by right; left; exact ⟨rfl, by omega⟩)] at hq; exact hq
      · rw [if_neg (by omega)]; exact fin fun _ => k2
theorem loadW_spec (hB : Bus bus I R) (hx : Cx I R S ρ g b o s) (hs : s.Ok) {addr : Int} (ha : W64 addr) {n : Nat} (hn : n = 4 ∨ n = 8) {Q : Int → Bool → Mem → Prop}
    (hQ : ∀ S1 ρ1, Mv S ρ S1 ρ1 R → Cx I R S1 ρ1 g b o s → match getW s g addr n with | some w => Q w true S1 | none => ∀ x, Q x false S1) : cpu_cpu_load S (cL b o bus time me) addr n Q := by
  have c1 : nthL (cL b o bus time me) 1 = some bus := rfl
  apply t_cpu_cpu_load
  unfold b_cpu_cpu_load
  refine ⟨rfl, ?_⟩
  refine jn_cut (fun J => ∀ S1 ρ1, Mv S ρ S1 ρ1 R → Cx I R S1 ρ1 g b o s → match place s g addr false with | some q => J q.1 q.2 true S1 | none => ∀ x y, J x y false S1) ?_ fun J hJ => ?_
  rotate_left
  · refine place_spec hB hx hs ha fun S1 ρ1 hm hx1 => ?_
    have h := hJ S1 ρ1 hm hx1
    cases hp : place s g addr false with
    | none => rw [hp] at h; dsimp only at h ⊢; rw [if_neg (by decide)]; exact h _ _
    | some q => rw [hp] at h; dsimp only at h ⊢; rw [if_pos rfl]; exact h
  intro S1 ρ1 hm hx1
  unfold getW at hQ
  simp only [jn]
  cases hp : place s g addr false with
  | none =>
    dsimp only
    intro x y
    rw [if_neg (by decide)]
    have := hQ S1 ρ1 hm hx1
    rw [hp] at this; exact this _
  | some q =>
    dsimp only
    have hpb := place_bd (hB.ok hx.i) ha hp
    rw [if_pos trivial]
    have hw : IntKind.u64.wrap (n : Int) = n := wu64 (by omega) (by omega)
    rw [hw, tm ha.1]
    refine ⟨by omega, ?_⟩
    by_cases h1 : addr % (n : Int) ≠ 0
    · rw [if_pos h1]
      have := hQ S1 ρ1 hm hx1
      rw [hp] at this; dsimp only at this
      rw [if_pos h1] at this; exact this _
    rw [if_neg h1, gV_i c1]
    refine hB.load hx1.i hpb.1 (by rcases hn with rfl | rfl <;> decide) (by rcases hn with rfl | rfl <;> omega) fun S' ρ' sl e hm' hi hl2 => ⟨sl, e, rfl, ?_⟩
    have hq := hQ S' ρ' (hm.trans hm') (hx1.mv hm' hi)
    rw [hp] at hq
    dsimp only at hq
    rw [if_neg h1] at hq
    cases hd : ldB g q.1 q.2 n with
    | none =>
      rw [hd] at hl2 hq
      refine of_spec hl2.2 (by simp) ?_
      rw [decide_eq_false hl2.1]
      exact hq _
    | some l =>
      rw [hd] at hl2 hq
      obtain ⟨rfl, hby⟩ := hl2
      obtain ⟨hp8, _⟩ := ldB_byt (hB.ok hx.i) hd (by rcases hn with rfl | rfl <;> omega)
      refine of_spec hby (by omega) ?_
      rw [decide_eq_true rfl]
      exact hq
end
end Go.Proofs.YtabdpmnhjlmnlaaGreatDoor
end
section
namespace Go.Cr
open Go Go.Pt
theorem u8_mod (x : Int) : IntKind.u8.wrap x = x % 256 := by simp [IntKind.wrap, IntKind.bits, IntKind.signed]
def bL (xs : List Int) : List Value := xs.map (.int .u8)
def bp (w : Int) (i : Nat) : List Value := (List.range 8).map fun j => Value.int .u8 (if j < i then w / 2 ^ (8 * j) % 256 else 0)
theorem bp_succ (w : Int) (i : Nat) (h : i < 8) : spl (bp w i) i [.int .u8 (w / 2 ^ (8 * i) % 256)] = bp w (i + 1) := by
  match i, h with
  | 0, _ => rfl
  | 1, _ => rfl
  | 2, _ => rfl
  | 3, _ => rfl
  | 4, _ => rfl
  | 5, _ => rfl
  | 6, _ => rfl
  | 7, _ => rfl
theorem bp_all (w : Int) : bp w 8 = bL (bytes8 w) := by
  unfold bp bL bytes8
  rw [List.map_map]
  apply List.map_congr_left
  intro j hj
  have := List.mem_range.1 hj
  simp only [Function.comp, if_pos this]
def exL (k n : Int) : List Value := [.int .u8 k, .int .u64 n]
theorem _root_.Go.Pt.At.pt1 {S : Mem} {b o : Nat} {s s' : Seat} (h : At S b o s.L) (hl : s.R.length = 16) {i : Nat} {v : Value} (hi : i < 26) (he : spl s.L i [v] = s'.L) {K : Mem → Prop} (hK : K (S.put b o s'.L)) : Go.Pt.pt S b (o + i) 1 [v] K :=
  h.pt (i := i) (vs := [v]) rfl (by rw [Seat.L_len hl]; show i + 1 ≤ 26; omega) (by rw [he]; exact hK)
end Go.Cr
namespace Go.Proofs.YtabdpmnhjlmnlaaGreatDoor
open Go Go.Pt Go.Cr
theorem bytes_spec {S : Mem} {w : Int} (hw : W64 w) {Q : Sl → Mem → Prop} (hQ : ∀ c, S c = none → Q ⟨some (c, 0), 8, 8⟩ (S.set c (bw 5 (bL (bytes8 w))))) : word_Bytes S w Q := by
  apply t_word_Bytes
  unfold b_word_Bytes
  intro c hc
  refine jn_cut (fun J => J (S.set c (bw 5 (bL (bytes8 w))))) (hQ c hc) fun J hJ => ?_
  refine lp_rule (fun (z : Int) S' => ∃ i : Nat, z = i ∧ i ≤ 8 ∧ S' = S.set c (bw 5 (bp w i))) (fun z => 8 - z.toNat) ?_ ⟨0, rfl, by omega, rfl⟩
  rintro X z S' ⟨i, rfl, hi, rfl⟩ ih
  by_cases hlt : (i : Int) < 8
  · rw [if_pos hlt]
    have hi8 : i < 8 := by omega
    have e8 : IntKind.i64.wrap (8 * (i : Int)) = ((8 * i : Nat) : Int) := by rw [w64 (by omega) (by omega)]; omega
    obtain ⟨m, hm⟩ : ∃ m : Nat, w = m := ⟨w.toNat, by omega⟩
    rw [e8]
    refine ⟨by omega, by omega, hlt, ?_⟩
    rw [show 0 + (i : Int).toNat * 1 = i by omega, w64 (by omega) (by omega)]
    refine pt_i (t := 5) (cs := bp w i) set_same (by simp [bp]; omega) ?_
    have ev : IntKind.u8.wrap (ishr .u64 w ((8 * i : Nat) : Int)) = w / 2 ^ (8 * i) % 256 := by
      rw [hm, ishr_nat (by omega), u8_mod, Int.natCast_ediv]; rfl
    rw [ev, set_set, bp_succ w i hi8]
    exact ih _ _ ⟨i + 1, by omega, by omega, rfl⟩ (by omega)
  · rw [if_neg hlt]
    have : i = 8 := by omega
    subst this
    rw [bp_all]; exact hJ
theorem by_of {S : Mem} {c t : Nat} {xs : List Int} (hx : Byt xs) {n : Nat} (hn : xs.length = n) : By (S.set c (bw t (bL xs))) ⟨some (c, 0), n, n⟩ xs :=
  ⟨hn, Nat.le_refl _, hx, .inr ⟨c, 0, rfl, fun i hi => by
    rw [cell_of set_same, nthL_eq]
    simp [bL, List.getElem?_eq_getElem hi]⟩⟩
section
variable {bus : Value} {I : Mem → Rho → GM → Prop} {R : Nat → Prop} {S : Mem} {ρ : Rho} {g : GM} {b o : Nat} {s : Seat} {time me : Int}
theorem saveW_spec (hB : Bus bus I R) (hx : Cx I R S ρ g b o s) (hs : s.Ok) {addr w : Int} (ha : W64 addr) (hw : W64 w) {Q : Bool → Mem → Prop}
    (hQ : ∀ S1 ρ1, Mv S ρ S1 ρ1 R → match putW s g addr w with | some g' => Cx I R S1 ρ1 g' b o s → Q true S1 | none => Cx I R S1 ρ1 g b o s → Q false S1) : cpu_cpu_save S (cL b o bus time me) addr w Q := by
  have c1 : nthL (cL b o bus time me) 1 = some bus := rfl
  apply t_cpu_cpu_save
  unfold b_cpu_cpu_save
  refine ⟨rfl, ?_⟩
  refine jn_cut (fun J => ∀ S1 ρ1, Mv S ρ S1 ρ1 R → Cx I R S1 ρ1 g b o s → match place s g addr true with | some q => J q.1 q.2 true S1 | none => ∀ x y, J x y false S1) ?_ fun J hJ => ?_
  rotate_left
  · refine place_spec hB hx hs ha fun S1 ρ1 hm hx1 => ?_
    have h := hJ S1 ρ1 hm hx1
    cases hp : place s g addr true with
    | none => rw [hp] at h; dsimp only at h ⊢; rw [if_neg (by decide)]; exact h _ _
    | some q => rw [hp] at h; dsimp only at h ⊢; rw [if_pos rfl]; exact h
  intro S1 ρ1 hm hx1
  have hq1 := hQ S1 ρ1 hm
  unfold putW at hQ hq1
  cases hp : place s g addr true with
  | none =>
    dsimp only
    intro x y
    rw [if_neg (by decide)]
    rw [hp] at hq1; exact hq1 hx1
  | some q =>
    dsimp only
    have hpb := place_bd (hB.ok hx.i) ha hp
    rw [if_pos rfl, tm ha.1]
    rw [hp] at hq1
    dsimp only at hq1
    by_cases h1 : addr % 8 = 0
    · rw [if_pos h1, gV_i c1]
      refine ⟨hB.ifc, ?_⟩
      refine bytes_spec hw fun c hc => ?_
      have hk : Keeps S1 (S1.set c (bw 5 (bL (bytes8 w)))) [] := Keeps.refl.fresh hc
      have m2 : Mv S1 ρ1 (S1.set c (bw 5 (bL (bytes8 w)))) ρ1 R := Mv.keeps (hB.rg hx1.i) hk
      have hx2 := hx1.mv m2 (hB.kp hx1.i hk)
      refine hB.save hx2.i hpb.1 (by omega) (by_of (bytes8_byt w) (bytes8_len w)) (fun b o e => by
        cases e
        cases hr : ρ1 c with
        | none => rfl
        | some r => exact absurd hc (hB.rg hx1.i c r hr)) (bytes8_len w) fun S' ρ' g' e hm' hi hl2 => ⟨e, rfl, ?_⟩
      have hq := hQ S' ρ' ((hm.trans m2).trans hm')
      rw [hp] at hq
      dsimp only at hq
      rw [if_neg (fun h => h h1)] at hq
      cases hg : g.map q.1 with
      | none =>
        rw [hg] at hl2 hq
        dsimp only at hl2 hq
        rw [decide_eq_false hl2.1]
        refine hq ?_
        have := hx2.mv hm' hi
        rw [hl2.2] at this; exact this
      | some fw =>
        obtain ⟨f, wr⟩ := fw
        rw [hg] at hl2 hq
        cases wr with
        | true =>
          dsimp only at hl2 hq
          rw [hl2.1, decide_eq_true rfl]
          refine hq ?_
          have := hx2.mv hm' hi
          rw [hl2.2] at this; exact this
        | false =>
          dsimp only at hl2 hq
          rw [decide_eq_false hl2.1]
          refine hq ?_
          have := hx2.mv hm' hi
          rw [hl2.2] at this; exact this
    · rw [if_neg h1]
      rw [if_pos h1] at hq1
      exact hq1 hx1
theorem ctrap_spec (hA : At S b o s.L) (hl : s.R.length = 16) {cause addr : Int} {Q : List Value → Mem → Prop} (hQ : Q (exL (if (s.trap cause addr).st = 2 then 4 else 1) cause) (S.put b o (s.trap cause addr).L)) : cpu_cpu_trap S (cL b o bus time me) cause addr Q := by
  have c0 : nthL (cL b o bus time me) 0 = some (eP (some (b, o))) := rfl
  have hp : Pl S b o := Pl.of hA hl
  have hl' : (s.trap cause addr).R.length = 16 := by unfold Seat.trap; split <;> exact hl
  apply t_cpu_cpu_trap
  unfold b_cpu_cpu_trap
  refine ⟨rfl, ?_⟩
  rw [gP_i c0]
  have h := trap_spec hp hl (cause := cause) (addr := addr) (Q := fun Sx => gP (nthL (cL b o bus time me) 0) fun t_1 => nn t_1 fun b_2 o => gI (Sx.cell b_2 (o + 23)) .u8 fun t_2 => if t_2 = 2 then Q ([.int .u8 4, .int .u64 cause]) Sx else Q ([.int .u8 1, .int .u64 cause]) Sx) ?_
  · rw [hA.self] at h; exact h
  · rw [gP_i c0, nn_i, gI_i ((hp.cell hl' (by decide)).trans (Seat.g23 hl'))]
    by_cases h2 : (s.trap cause addr).st = 2
    · rw [if_pos h2]; rw [if_pos h2] at hQ; exact hQ
    · rw [if_neg h2]; rw [if_neg h2] at hQ; exact hQ
end
end Go.Proofs.YtabdpmnhjlmnlaaGreatDoor
end
section
namespace Go.Cr
open Go Go.Pt
theorem x64_mod (x : Int) : x64 x = x % 18446744073709551616 := by unfold x64; exact IntKind.wrap_u64 x
theorem x64_w (x : Int) : W64 (x64 x) := by rw [x64_mod]; exact ⟨by omega, by omega⟩
theorem Seat.r_w {s : Seat} (h : s.Ok) (i : Int) : W64 (s.r i) := by
  unfold Seat.r
  rw [List.getD_eq_getElem?_getD]
  cases hx : s.R[i.toNat]? with
  | none => exact ⟨by simp, by simp⟩
  | some v => exact h.r v (List.mem_of_getElem? hx)
theorem lu_key {w v : Int} (hw : W64 w) (hv : W64 v) : ior .u64 (iandn .u64 w (ishl .u64 (IntKind.u64.wrap (ishl .u64 1 48 - 1)) 16)) (ishl .u64 (iand .u64 v (IntKind.u64.wrap (ishl .u64 1 48 - 1))) 16) = x64 (w % 65536 + x64 (v * 65536)) := by
  obtain ⟨a, rfl⟩ : ∃ m : Nat, w = m := ⟨w.toNat, by omega⟩
  obtain ⟨b, rfl⟩ : ∃ m : Nat, v = m := ⟨v.toNat, by omega⟩
  have hM : IntKind.u64.wrap (ishl .u64 1 48 - 1) = ((2 ^ 48 - 1 : Nat) : Int) := mask_nat (n := 48) (by decide) (by decide)
  have e1 : ishl .u64 ((2 ^ 48 - 1 : Nat) : Int) 16 = (((2 ^ 48 - 1) * 2 ^ 16 : Nat) : Int) := ishl_nat (a := 2 ^ 48 - 1) (s := 16) (by decide) (by decide)
  have e2 : iand .u64 (b : Int) ((2 ^ 48 - 1 : Nat) : Int) = ((b % 2 ^ 48 : Nat) : Int) := by
    rw [iand_nat (by omega) (by decide), Nat.and_two_pow_sub_one_eq_mod]
  have e3 : ishl .u64 ((b % 2 ^ 48 : Nat) : Int) 16 = ((b % 2 ^ 48 * 2 ^ 16 : Nat) : Int) := ishl_nat (a := b % 2 ^ 48) (s := 16) (by decide) (by omega)
  have e4 : iandn .u64 (a : Int) (((2 ^ 48 - 1) * 2 ^ 16 : Nat) : Int) = ((a % 65536 : Nat) : Int) := by
    unfold iandn
    show IntKind.u64.wrap ((BitVec.ofInt 64 (a : Int) &&& ~~~ BitVec.ofInt 64 (((2 ^ 48 - 1) * 2 ^ 16 : Nat) : Int)).toNat : Int) = _
    have q : (~~~ BitVec.ofInt 64 (((2 ^ 48 - 1) * 2 ^ 16 : Nat) : Int)) = BitVec.ofNat 64 65535 := by decide
    rw [q, ofInt_nat, BitVec.toNat_and, BitVec.toNat_ofNat, BitVec.toNat_ofNat, Nat.mod_eq_of_lt (by omega), Nat.mod_eq_of_lt (by decide)]
    have : a &&& 65535 = a % 65536 := Nat.and_two_pow_sub_one_eq_mod a 16
    rw [this]
    exact wu64 (by omega) (by omega)
  rw [hM, e1, e2, e3, e4, ior_nat (by omega) (by omega), or_low (by omega), x64_mod, x64_mod]
  omega
theorem sum_and {c : Int} (h : W64 c) : iand .u64 c 63 = c % 64 := by
  obtain ⟨m, rfl⟩ : ∃ m : Nat, c = m := ⟨c.toNat, by omega⟩
  have := iand_nat (a := m) (b := 63) (by omega) (by decide)
  have e : m &&& 63 = m % 64 := Nat.and_two_pow_sub_one_eq_mod m 6
  rw [e] at this
  exact this
theorem setR_same {s t : Seat} {n v : Int} (h : setR s n v = some t) : t.st = s.st ∧ t.R = s.R := by
  unfold setR at h
  repeat' split at h
  all_goals first | (cases h; exact ⟨rfl, rfl⟩) | cases h
theorem setr_len {s : Seat} (h : s.R.length = 16) (i v : Int) : (s.setr i v).R.length = 16 := by simp [Seat.setr, h]
end Go.Cr
namespace Go.Proofs.YtabdpmnhjlmnlaaGreatDoor
open Go Go.Pt Go.Cr
section
variable {bus : Value} {I : Mem → Rho → GM → Prop} {R : Nat → Prop} {S : Mem} {ρ : Rho} {g : GM} {b o : Nat} {s : Seat} {time me : Int}
theorem lu_spec {w v : Int} (hw : W64 w) (hv : W64 v) {Q : Int → Mem → Prop} (hQ : Q (x64 (w % 65536 + x64 (v * 65536))) S) : word_With S w 16 48 v Q := by
  apply t_word_With
  unfold b_word_With
  simp only [jn]
  rw [if_neg (by decide), if_neg (by decide), if_neg (by decide), if_pos (by decide)]
  refine ⟨by decide, by decide, by decide, ?_⟩
  rw [lu_key hw hv]; exact hQ
theorem taken14 {x y : Int} {Q : Bool → Mem → Prop} (hQ : Q (decide (x = y)) S) : cpu_taken S 14 x y Q := by
  apply t_cpu_taken
  unfold b_cpu_taken
  simp only [jn]
  rw [if_pos trivial]; exact hQ
theorem taken15 {x y : Int} {Q : Bool → Mem → Prop} (hQ : Q (decide (x ≠ y)) S) : cpu_taken S 15 x y Q := by
  apply t_cpu_taken
  unfold b_cpu_taken
  simp only [jn]
  rw [if_neg (by decide), if_pos trivial]; exact hQ
theorem taken16 {x y : Int} {Q : Bool → Mem → Prop} (hQ : Q (decide (IntKind.i64.wrap x < IntKind.i64.wrap y)) S) : cpu_taken S 16 x y Q := by
  apply t_cpu_taken
  unfold b_cpu_taken
  simp only [jn]
  rw [if_neg (by decide), if_neg (by decide)]; exact hQ
theorem sum_spec {k x y : Int} (hy : W64 y) {Q : Int → Mem → Prop} (hQ : Q (sumM k x y) S) : cpu_sum S k x y Q := by
  apply t_cpu_sum
  unfold b_cpu_sum
  simp only [jn, sum_and hy]
  unfold sumM x64 at hQ
  by_cases h3 : k = 3
  · rw [if_pos h3] at hQ ⊢; exact hQ
  rw [if_neg h3] at hQ ⊢
  by_cases h4 : k = 4
  · rw [if_pos h4] at hQ ⊢; exact hQ
  rw [if_neg h4] at hQ ⊢
  by_cases h5 : k = 5
  · rw [if_pos h5] at hQ ⊢; exact hQ
  rw [if_neg h5] at hQ ⊢
  by_cases h6 : k = 6
  · rw [if_pos h6] at hQ ⊢; exact hQ
  rw [if_neg h6] at hQ ⊢
  by_cases h7 : k = 7
  · rw [if_pos h7] at hQ ⊢; exact hQ
  rw [if_neg h7] at hQ ⊢
  by_cases h8 : k = 8
  · rw [if_pos h8] at hQ ⊢; exact hQ
  rw [if_neg h8] at hQ ⊢
  by_cases h9 : k = 9
  · rw [if_pos h9] at hQ ⊢; exact ⟨by omega, hQ⟩
  rw [if_neg h9] at hQ ⊢
  exact ⟨by omega, hQ⟩
theorem flag_spec {f : Bool} {Q : Int → Mem → Prop} (hQ : Q (if f = true then 1 else 0) S) : seat_flag S f Q := by
  apply t_seat_flag
  unfold b_seat_flag
  cases f with
  | true => simpa using hQ
  | false => simpa using hQ
theorem get_spec (hs : s.Ok) {n : Int} (hn : 0 ≤ n ∧ n < 9) (hme : 0 ≤ me ∧ me ≤ 2) {Q : Int → Bool → Mem → Prop} (hQ : Q (getR s time me n) true S) : seat_Get S s.L n time me Q := by
  have hl := hs.len
  have hm := hs.mask
  apply t_seat_Get
  unfold b_seat_Get
  refine ⟨Seat.L_len hl, ?_⟩
  simp only [jn]
  rw [gI_i (Seat.g17 hl), gI_i (Seat.g18 hl), gI_i (Seat.g19 hl), gI_i (Seat.g20 hl), gI_i (Seat.g21 hl), gI_i (Seat.g25 hl), gB_i (Seat.g22 hl), wu64 (x := s.mask) (by omega) (by omega), wu64 (x := me) (by omega) (by omega)]
  unfold getR at hQ
  have : n = 0 ∨ n = 1 ∨ n = 2 ∨ n = 3 ∨ n = 4 ∨ n = 5 ∨ n = 6 ∨ n = 7 ∨ n = 8 := by omega
  rcases this with rfl | rfl | rfl | rfl | rfl | rfl | rfl | rfl | rfl <;> simp only [Int.reduceEq, if_true, if_false] at hQ ⊢
  · exact hQ
  · exact hQ
  · exact hQ
  · exact hQ
  · exact hQ
  · exact hQ
  · exact flag_spec hQ
  · exact hQ
  · exact hQ
theorem set_spec (hA : At S b o s.L) (hs : s.Ok) {n v : Int} (hn : 0 ≤ n ∧ n < 9) (hv : W64 v) {Q : Bool → Mem → Prop} (hQ : match setR s n v with | some t => Q true (S.put b o t.L) | none => Q false S) : seat_Set S (some (b, o)) n v Q := by
  have hl := hs.len
  obtain ⟨m, hm⟩ : ∃ m : Nat, v = m := ⟨v.toNat, by omega⟩
  have a1 : iand .u64 v 255 = v % 256 := by
    have := iand_nat (a := m) (b := 255) (by omega) (by decide)
    have e : m &&& 255 = m % 256 := Nat.and_two_pow_sub_one_eq_mod m 8
    rw [e] at this
    rw [hm]; exact this
  have a2 : iand .u64 v 1 = v % 2 := by
    have := iand_nat (a := m) (b := 1) (by omega) (by decide)
    rw [Nat.and_one_is_mod] at this
    rw [hm]; exact this
  apply t_seat_Set
  unfold b_seat_Set
  simp only [jn, reduceCtorEq, if_false]
  simp only [nn_i, a1, a2]
  rw [wu32 (x := v % 256) (by omega) (by omega)]
  unfold setR at hQ
  have : n = 0 ∨ n = 1 ∨ n = 2 ∨ n = 3 ∨ n = 4 ∨ n = 5 ∨ n = 6 ∨ n = 7 ∨ n = 8 := by omega
  rcases this with rfl | rfl | rfl | rfl | rfl | rfl | rfl | rfl | rfl <;> simp only [Int.reduceEq, if_true, if_false, reduceIte] at hQ ⊢
  · exact hA.pt1 hl (by decide) (Seat.s17 hl v) hQ
  · exact hA.pt1 hl (by decide) (Seat.s18 hl v) hQ
  · exact hA.pt1 hl (by decide) (Seat.s19 hl v) hQ
  · exact hA.pt1 hl (by decide) (Seat.s20 hl v) hQ
  · exact hA.pt1 hl (by decide) (Seat.s21 hl v) hQ
  · exact hA.pt1 hl (by decide) (Seat.s25 hl _) hQ
  · exact hA.pt1 hl (by decide) (Seat.s22 hl _) hQ
  · exact hQ
  · exact hQ
end
end Go.Proofs.YtabdpmnhjlmnlaaGreatDoor
namespace Go.Proofs.YtabdpmnhjlmnlaaGreatDoor
open Go Go.Pt Go.Cr
section
variable {bus : Value} {I : Mem → Rho → GM → Prop} {R : Nat → Prop} {S : Mem} {ρ : Rho} {g : GM} {b o : Nat} {s : Seat} {time me : Int}
set_option maxHeartbeats 1000000 in
theorem do_spec (hB : Bus bus I R) (hx : Cx I R S ρ g b o s) (hs : s.Ok) {k x y z n : Int} (hbd : Bd k x y z n) (hrt : Rt k x y z n) (hst : s.st = 0) (ht : W64 time) (hme : 0 ≤ me ∧ me ≤ 2) {Q : List Value → Mem → Prop}
    (hQ : ∀ S1 ρ1, Mv S ρ S1 ρ1 R → I S1 ρ1 (doM s g time me k x y z n).g → At S1 b o s.L → Q (exL (doM s g time me k x y z n).k (doM s g time me k x y z n).n) (S1.put b o (doM s g time me k x y z n).s.L)) : cpu_cpu_do S (cL b o bus time me) (opL k x y z n) Q := by
  have hl := hs.len
  have hA := hx.at_
  have hp : Pl S b o := Pl.of hA hl
  have m0 : Mv S ρ S ρ R := Mv.refl (hB.rg hx.i)
  have c0 : nthL (cL b o bus time me) 0 = some (eP (some (b, o))) := rfl
  have c2 : nthL (cL b o bus time me) 2 = some (.int .u64 time) := rfl
  have c3 : nthL (cL b o bus time me) 3 = some (.int .i64 me) := rfl
  have g0 : nthL (opL k x y z n) 0 = some (.int .u8 k) := rfl
  have g1 : nthL (opL k x y z n) 1 = some (.int .u8 x) := rfl
  have g2 : nthL (opL k x y z n) 2 = some (.int .u8 y) := rfl
  have g3 : nthL (opL k x y z n) 3 = some (.int .u8 z) := rfl
  have g4 : nthL (opL k x y z n) 4 = some (.int .i16 n) := rfl
  have hk0 := hbd.kk
  have hx0 := hbd.aa
  have hy0 := hbd.bb
  have hz0 := hbd.cc
  have hn0 := hbd.nn
  have hk := hrt.kk
  have hxr := hrt.aa
  have hyr := hrt.bb
  have hzr := hrt.cc
  have hrw := hrt.rw
  unfold regR at hxr hyr hzr
  have hx16 : x < 16 := by omega
  have hy16 : y < 16 := by omega
  have hz16 : z < 16 := by omega
  have cr : ∀ {i : Int}, 0 ≤ i → i < 16 → S.cell b (o + i.toNat) = some (.int .u64 (s.r i)) := fun {i} h0 h1 => (hx.cell hl (by omega)).trans (Seat.L_r hl (by omega))
  have e64 : IntKind.i64.wrap n = n := w64 (by omega) (by omega)
  apply t_cpu_cpu_do
  unfold b_cpu_cpu_do
  refine ⟨rfl, rfl, ?_⟩
  rw [gP_i c0, gI_i g4]
  simp only [Nat.mul_one, e64]
  rw [nn_i, gI_i ((hx.cell hl (by decide)).trans (Seat.g16 hl)), gI_i g1]
  refine ⟨hx0.1, hx16, ?_⟩
  rw [gI_i (cr hx0.1 hx16), gI_i g2]
  refine ⟨hy0.1, hy16, ?_⟩
  rw [gI_i (cr hy0.1 hy16)]
  refine jn_cut (fun J => ∀ S1 (t : Seat) pc v, Pl S1 b o → t.R.length = 16 → v.length = 2 → Q (exL 0 0) (S1.put b o ({ t with pc := pc } : Seat).L) → J pc v (S1.put b o t.L)) ?_ fun J hJ => ?_
  · intro S1 t pc v hp1 hl1 hv hq
    exact ⟨hv, hp1.pt (s := t) hl1 (by decide) (Seat.s16 hl1 pc) hq⟩
  have hJ0 : ∀ {S1 : Mem} (pc : Int) (v : List Value), At S1 b o s.L → v.length = 2 → Q (exL 0 0) (S1.put b o ({ s with pc := pc } : Seat).L) → J pc v S1 := fun {S1} pc v hA1 hv hq => by
    have := hJ S1 s pc v (Pl.of hA1 hl) hl hv hq
    rw [hA1.self] at this; exact this
  have hJr : ∀ (u pc : Int) (v : List Value), v.length = 2 → Q (exL 0 0) (S.put b o ({ s.setr x u with pc := pc } : Seat).L) → Go.Pt.pt S b (o + x.toNat) 1 [.int .u64 u] fun Sx => J pc v Sx := fun u pc v hv hq =>
    hA.pt1 hl (by omega) (Seat.set_r hl (by omega) u) (hJ S (s.setr x u) pc v hp (setr_len hl x u) hv hq)
  have hq0 := hQ S ρ m0
  rw [gI_i g0]
  have hwN : W64 (x64 n) := x64_w n
  have hwy : W64 (s.r y) := Seat.r_w hs y
  have hwx : W64 (s.r x) := Seat.r_w hs x
  have hkk : k = 0 ∨ k = 1 ∨ k = 2 ∨ k = 3 ∨ k = 4 ∨ k = 5 ∨ k = 6 ∨ k = 7 ∨ k = 8 ∨ k = 9 ∨ k = 10 ∨ k = 11 ∨ k = 12 ∨ k = 13 ∨ k = 14 ∨ k = 15 ∨ k = 16 ∨ k = 17 ∨ k = 18 ∨ k = 19 ∨ k = 20 ∨ k = 21 ∨ k = 22 := by omega
  have ar : (3 ≤ k ∧ k ≤ 10) → (gI (nthL (opL k x y z n) 1) .u8 fun t_37 => gI (nthL (opL k x y z n) 3) .u8 fun t_39 => 0 ≤ t_39 ∧ t_39 < 16 ∧ gI (S.cell b (o + t_39.toNat)) .u64 fun t_40 => cpu_sum S k (s.r y) t_40 fun t_41 Sx_23 => 0 ≤ t_37 ∧ t_37 < 16 ∧ Go.Pt.pt Sx_23 b (o + t_37.toNat) 1 [.int .u64 t_41] fun Sx_24 => J (IntKind.u64.wrap (s.pc + 4)) [.int .u8 0, .int .u64 0] Sx_24) := fun hk => by
    rw [gI_i g1, gI_i g3]
    refine ⟨hz0.1, hz16, ?_⟩
    rw [gI_i (cr hz0.1 hz16)]
    refine sum_spec (Seat.r_w hs z) ⟨hx0.1, hx16, ?_⟩
    refine hJr _ _ _ rfl ?_
    have : doM s g time me k x y z n = ⟨{ s.setr x (sumM k (s.r y) (s.r z)) with pc := x64 (s.pc + 4) }, 0, 0, g⟩ := by
      unfold doM
      simp only
      repeat rw [if_neg (by omega)]
      rw [if_pos (by omega)]
    rw [this] at hq0
    exact hq0 hx.i hA
  have hres : ∀ c u : Int, (exL c u).all (·.oneCell') = true := fun _ _ => rfl
  rcases hkk with rfl | rfl | rfl | rfl | rfl | rfl | rfl | rfl | rfl | rfl | rfl | rfl | rfl | rfl | rfl | rfl | rfl | rfl | rfl | rfl | rfl | rfl | rfl <;> simp only [Int.reduceEq, reduceIte, jn, gI_i g0, Int.reduceLE, Bool.false_eq_true]
  · exact hJ0 _ _ hA rfl (hq0 hx.i hA)
  · rw [gI_i g1]
    exact ⟨hx0.1, hx16, hJr _ _ _ rfl (hq0 hx.i hA)⟩
  · rw [gI_i g1]
    refine lu_spec hwx hwN ?_
    exact ⟨hx0.1, hx16, hJr _ _ _ rfl (hq0 hx.i hA)⟩
  · exact ar (by decide)
  · exact ar (by decide)
  · exact ar (by decide)
  · exact ar (by decide)
  · exact ar (by decide)
  · exact ar (by decide)
  · exact ar (by decide)
  · exact ar (by decide)
  · rw [gI_i g1]
    exact ⟨hx0.1, hx16, hJr _ _ _ rfl (hq0 hx.i hA)⟩
  · refine loadW_spec hB hx hs (x64_w _) (n := 8) (.inr rfl) fun S1 ρ1 hm hx1 => ?_
    have hq := hQ S1 ρ1 hm
    change I S1 ρ1 (match getW s g (x64 (s.r y + x64 n)) 8 with | some v => (⟨{ s.setr x v with pc := x64 (s.pc + 4) }, 0, 0, g⟩ : Out) | none => trapM s g 3 (x64 (s.r y + x64 n))).g → _ → Q (exL (match getW s g (x64 (s.r y + x64 n)) 8 with | some v => (⟨{ s.setr x v with pc := x64 (s.pc + 4) }, 0, 0, g⟩ : Out) | none => trapM s g 3 (x64 (s.r y + x64 n))).k (match getW s g (x64 (s.r y + x64 n)) 8 with | some v => (⟨{ s.setr x v with pc := x64 (s.pc + 4) }, 0, 0, g⟩ : Out) | none => trapM s g 3 (x64 (s.r y + x64 n))).n) (S1.put b o (match getW s g (x64 (s.r y + x64 n)) 8 with | some v => (⟨{ s.setr x v with pc := x64 (s.pc + 4) }, 0, 0, g⟩ : Out) | none => trapM s g 3 (x64 (s.r y + x64 n))).s.L) at hq
    change match getW s g (x64 (s.r y + x64 n)) 8 with | some w => _ | none => _
    cases hg : getW s g (x64 (s.r y + x64 n)) 8 with
    | some v =>
      rw [hg] at hq
      dsimp only at hq ⊢
      rw [if_pos rfl, gI_i g1]
      exact ⟨hx0.1, hx16, hx1.at_.pt1 hl (by omega) (Seat.set_r hl (by omega) v) (hJ S1 (s.setr x v) _ _ (Pl.of hx1.at_ hl) (setr_len hl x v) rfl (hq hx1.i hx1.at_))⟩
    | none =>
      rw [hg] at hq
      dsimp only at hq ⊢
      intro u
      rw [if_neg (by decide)]
      exact ctrap_spec hx1.at_ hl ⟨hres _ _, hq hx1.i hx1.at_⟩
  · refine saveW_spec hB hx hs (x64_w _) hwx fun S1 ρ1 hm => ?_
    have hq := hQ S1 ρ1 hm
    change I S1 ρ1 (match putW s g (x64 (s.r y + x64 n)) (s.r x) with | some g' => (⟨{ s with pc := x64 (s.pc + 4) }, 0, 0, g'⟩ : Out) | none => trapM s g 4 (x64 (s.r y + x64 n))).g → _ → Q (exL (match putW s g (x64 (s.r y + x64 n)) (s.r x) with | some g' => (⟨{ s with pc := x64 (s.pc + 4) }, 0, 0, g'⟩ : Out) | none => trapM s g 4 (x64 (s.r y + x64 n))).k (match putW s g (x64 (s.r y + x64 n)) (s.r x) with | some g' => (⟨{ s with pc := x64 (s.pc + 4) }, 0, 0, g'⟩ : Out) | none => trapM s g 4 (x64 (s.r y + x64 n))).n) (S1.put b o (match putW s g (x64 (s.r y + x64 n)) (s.r x) with | some g' => (⟨{ s with pc := x64 (s.pc + 4) }, 0, 0, g'⟩ : Out) | none => trapM s g 4 (x64 (s.r y + x64 n))).s.L) at hq
    change match putW s g (x64 (s.r y + x64 n)) (s.r x) with | some g' => _ | none => _
    cases hg : putW s g (x64 (s.r y + x64 n)) (s.r x) with
    | some g' =>
      rw [hg] at hq
      dsimp only at hq ⊢
      intro hx1
      rw [if_pos rfl]
      exact hJ0 _ _ hx1.at_ rfl (hq hx1.i hx1.at_)
    | none =>
      rw [hg] at hq
      dsimp only at hq ⊢
      intro hx1
      rw [if_neg (by decide)]
      exact ctrap_spec hx1.at_ hl ⟨hres _ _, hq hx1.i hx1.at_⟩
  · refine taken14 ?_
    have hq := hq0 hx.i hA
    change Q (exL 0 0) (S.put b o ({ s with pc := if s.r x = s.r y then x64 (s.pc + x64 (4 * x64 n)) else x64 (s.pc + 4) } : Seat).L) at hq
    by_cases he : s.r x = s.r y
    · rw [if_pos he] at hq
      rw [decide_eq_true he, if_pos rfl, gI_i ((hx.cell hl (by decide)).trans (Seat.g16 hl))]
      exact hJ0 _ _ hA rfl hq
    · rw [if_neg he] at hq
      rw [decide_eq_false he, if_neg (by decide)]
      exact hJ0 _ _ hA rfl hq
  · refine taken15 ?_
    have hq := hq0 hx.i hA
    change Q (exL 0 0) (S.put b o ({ s with pc := if s.r x ≠ s.r y then x64 (s.pc + x64 (4 * x64 n)) else x64 (s.pc + 4) } : Seat).L) at hq
    by_cases he : s.r x ≠ s.r y
    · rw [if_pos he] at hq
      rw [decide_eq_true he, if_pos rfl, gI_i ((hx.cell hl (by decide)).trans (Seat.g16 hl))]
      exact hJ0 _ _ hA rfl hq
    · rw [if_neg he] at hq
      rw [decide_eq_false he, if_neg (by decide)]
      exact hJ0 _ _ hA rfl hq
  · refine taken16 ?_
    have hq := hq0 hx.i hA
    change Q (exL 0 0) (S.put b o ({ s with pc := if IntKind.i64.wrap (s.r x) < IntKind.i64.wrap (s.r y) then x64 (s.pc + x64 (4 * x64 n)) else x64 (s.pc + 4) } : Seat).L) at hq
    by_cases he : IntKind.i64.wrap (s.r x) < IntKind.i64.wrap (s.r y)
    · rw [if_pos he] at hq
      rw [decide_eq_true he, if_pos rfl, gI_i ((hx.cell hl (by decide)).trans (Seat.g16 hl))]
      exact hJ0 _ _ hA rfl hq
    · rw [if_neg he] at hq
      rw [decide_eq_false he, if_neg (by decide)]
      exact hJ0 _ _ hA rfl hq
  · rw [gI_i g1]
    exact ⟨hx0.1, hx16, hJr _ _ _ rfl (hq0 hx.i hA)⟩
  · have h9 := hrw (.inl rfl)
    have hall := hA.all
    rw [Seat.L_len hl] at hall
    rw [gI_i g1, gA_i hall, gI_i g4, e64, gI_i c2, gI_i c3]
    refine get_spec hs h9 hme ?_
    exact ⟨hx0.1, hx16, hJr _ _ _ rfl (hq0 hx.i hA)⟩
  · have h9 := hrw (.inr rfl)
    rw [gI_i g4, e64]
    refine set_spec hA hs h9 hwx ?_
    have hq := hq0
    change I S ρ (match setR s n (s.r x) with | some t => (⟨{ t with pc := x64 (s.pc + 4) }, 0, 0, g⟩ : Out) | none => trapM s g 1 s.pc).g → _ → Q (exL (match setR s n (s.r x) with | some t => (⟨{ t with pc := x64 (s.pc + 4) }, 0, 0, g⟩ : Out) | none => trapM s g 1 s.pc).k (match setR s n (s.r x) with | some t => (⟨{ t with pc := x64 (s.pc + 4) }, 0, 0, g⟩ : Out) | none => trapM s g 1 s.pc).n) (S.put b o (match setR s n (s.r x) with | some t => (⟨{ t with pc := x64 (s.pc + 4) }, 0, 0, g⟩ : Out) | none => trapM s g 1 s.pc).s.L) at hq
    cases hset : setR s n (s.r x) with
    | some t =>
      rw [hset] at hq
      dsimp only at hq ⊢
      have ht : t.st = s.st ∧ t.R = s.R := setR_same hset
      have hw : t.wake = t := by unfold Seat.wake; rw [if_neg (fun h => by have := h.1; omega)]
      have hlt : t.R.length = 16 := by rw [ht.2]; exact hl
      rw [if_pos rfl]
      refine wake_spec hp hlt ?_
      rw [hw]
      exact hJ S t _ _ hp hlt rfl (hq hx.i hA)
    | none =>
      rw [hset] at hq
      dsimp only at hq ⊢
      rw [if_neg (by decide), gI_i ((hx.cell hl (by decide)).trans (Seat.g16 hl))]
      exact ctrap_spec hA hl ⟨hres _ _, hq hx.i hA⟩
  · exact hA.pt1 hl (by decide) (Seat.s16 hl _) (hq0 hx.i hA)
  · refine hA.pt1 hl (by decide) (Seat.s16 hl _) ?_
    rw [gI_i ((hp.cell (s := { s with pc := IntKind.u64.wrap (s.pc + 4) }) hl (by decide)).trans (Seat.g24 (s := { s with pc := IntKind.u64.wrap (s.pc + 4) }) hl)), gI_i ((hp.cell (s := { s with pc := IntKind.u64.wrap (s.pc + 4) }) hl (by decide)).trans (Seat.g25 (s := { s with pc := IntKind.u64.wrap (s.pc + 4) }) hl))]
    have hq := hq0
    change I S ρ (if s.may = 0 then (⟨{ s with pc := x64 (s.pc + 4), st := 1 }, 3, 0, g⟩ : Out) else ⟨{ s with pc := x64 (s.pc + 4) }, 0, 0, g⟩).g → _ → Q (exL (if s.may = 0 then (⟨{ s with pc := x64 (s.pc + 4), st := 1 }, 3, 0, g⟩ : Out) else ⟨{ s with pc := x64 (s.pc + 4) }, 0, 0, g⟩).k (if s.may = 0 then (⟨{ s with pc := x64 (s.pc + 4), st := 1 }, 3, 0, g⟩ : Out) else ⟨{ s with pc := x64 (s.pc + 4) }, 0, 0, g⟩).n) (S.put b o (if s.may = 0 then (⟨{ s with pc := x64 (s.pc + 4), st := 1 }, 3, 0, g⟩ : Out) else ⟨{ s with pc := x64 (s.pc + 4) }, 0, 0, g⟩).s.L) at hq
    by_cases hmay : s.may = 0
    · rw [if_pos hmay] at hq
      rw [if_pos (show iand .u32 s.pend s.mask = 0 from hmay)]
      exact hp.pt (s := { s with pc := IntKind.u64.wrap (s.pc + 4) }) hl (by decide) (Seat.s23 (s := { s with pc := IntKind.u64.wrap (s.pc + 4) }) hl _) (hq hx.i hA)
    · rw [if_neg hmay] at hq
      rw [if_neg (show ¬ iand .u32 s.pend s.mask = 0 from hmay)]
      exact hq hx.i hA
  · have h := back_spec hp hl (Q := fun Sx => Q [.int .u8 0, .int .u64 0] Sx) (hq0 hx.i hA)
    rw [hA.self] at h
    exact h
end
end Go.Proofs.YtabdpmnhjlmnlaaGreatDoor
end
section
namespace Go.Cr
open Go Go.Pt Go.Lib
def C64 : Nat := 11400714819323198485
def mixN (x : Nat) : Int := ixor .u64 ((x * C64 / 18446744073709551616 * 131072 % 18446744073709551616 + x * C64 / 18446744073709551616 / 140737488355328 : Nat) : Int) ((x * C64 % 18446744073709551616 : Nat) : Int)
def mixM (sum w : Int) : Int := mixN (ixor .u64 sum w).toNat
theorem ixor_nat {a b : Nat} (ha : a < 18446744073709551616) (hb : b < 18446744073709551616) : ixor .u64 a b = ((a ^^^ b : Nat) : Int) := by
  unfold ixor
  show IntKind.u64.wrap ((BitVec.ofInt 64 (a : Int) ^^^ BitVec.ofInt 64 (b : Int)).toNat : Int) = _
  rw [ofInt_nat, ofInt_nat, BitVec.toNat_xor, BitVec.toNat_ofNat, BitVec.toNat_ofNat, Nat.mod_eq_of_lt ha, Nat.mod_eq_of_lt hb]
  have : a ^^^ b < 2 ^ 64 := Nat.xor_lt_two_pow (by omega) (by omega)
  exact wu64 (by omega) (by omega)
theorem ixor_w {a b : Int} (ha : W64 a) (hb : W64 b) : ∃ m : Nat, ixor .u64 a b = m ∧ m < 18446744073709551616 := by
  obtain ⟨x, rfl⟩ : ∃ m : Nat, a = m := ⟨a.toNat, by omega⟩
  obtain ⟨y, rfl⟩ : ∃ m : Nat, b = m := ⟨b.toNat, by omega⟩
  refine ⟨x ^^^ y, ixor_nat (by omega) (by omega), ?_⟩
  have : x ^^^ y < 2 ^ 64 := Nat.xor_lt_two_pow (by omega) (by omega)
  omega
end Go.Cr
namespace Go.Proofs.YtabdpmnhjlmnlaaGreatDoor
open Go Go.Pt Go.Cr Go.Lib
section
variable {S : Mem}
theorem mul_spec {x y : Nat} (hx : x < 18446744073709551616) (hy : y < 18446744073709551616) {Q : Int → Int → Mem → Prop} (hQ : Q ((x * y / 18446744073709551616 : Nat) : Int) ((x * y % 18446744073709551616 : Nat) : Int) S) : bits_Mul64 S x y Q := by
  apply t_bits_Mul64
  unfold b_bits_Mul64
  obtain ⟨bd, bt, bw, hhi⟩ := mul64_hi x y hx hy
  have ba := half_mul_le (a := x / 4294967296) (b := y / 4294967296) (by omega) (by omega)
  have sx : ishr .u64 (x : Int) 32 = ((x / 4294967296 : Nat) : Int) := ishr_nat (a := x) (s := 32) (by decide)
  have sy : ishr .u64 (y : Int) 32 = ((y / 4294967296 : Nat) : Int) := ishr_nat (a := y) (s := 32) (by decide)
  have mk : ∀ a : Nat, a < 18446744073709551616 → iand .u64 (a : Int) 4294967295 = ((a % 4294967296 : Nat) : Int) := fun a h => by
    have := iand_nat (a := a) (b := 4294967295) h (by decide)
    have e : a &&& 4294967295 = a % 4294967296 := Nat.and_two_pow_sub_one_eq_mod a 32
    rw [e] at this; exact this
  have sr : ∀ a : Nat, ishr .u64 (a : Int) 32 = ((a / 4294967296 : Nat) : Int) := fun a => ishr_nat (a := a) (s := 32) (by decide)
  have wn : ∀ a : Nat, a < 18446744073709551616 → IntKind.u64.wrap (a : Int) = (a : Int) := fun a h => wu64 (by omega) (by omega)
  have wm : IntKind.u64.wrap ((x : Int) * y) = ((x * y % 18446744073709551616 : Nat) : Int) := by
    rw [← Int.natCast_mul, IntKind.wrap_u64]; omega
  rw [sx, sy, mk x hx, mk y hy, wm]
  simp only [← Int.natCast_mul]
  generalize hp : x / 4294967296 * (y / 4294967296) = p at *
  generalize hq : x / 4294967296 * (y % 4294967296) = q at *
  generalize hr : x % 4294967296 * (y / 4294967296) = r at *
  generalize ht : x % 4294967296 * (y % 4294967296) = t at *
  rw [wn t (by omega), sr t, wn q (by omega), ← Int.natCast_add, wn (q + t / 4294967296) (by omega), sr, mk _ (by omega), wn r (by omega), ← Int.natCast_add, wn ((q + t / 4294967296) % 4294967296 + r) (by omega), sr, wn p (by omega), ← Int.natCast_add, wn (p + (q + t / 4294967296) / 4294967296) (by omega), ← Int.natCast_add, wn _ (by omega), hhi]
  exact hQ
theorem rot_spec {x : Nat} (hx : x < 18446744073709551616) {Q : Int → Mem → Prop} (hQ : Q ((x * 131072 % 18446744073709551616 + x / 140737488355328 : Nat) : Int) S) : bits_RotateLeft64 S x 17 Q := by
  apply t_bits_RotateLeft64
  unfold b_bits_RotateLeft64
  have e1 : iand .u64 (IntKind.u64.wrap 17) 63 = 17 := by decide
  have e2 : IntKind.u64.wrap (64 - 17) = 47 := by decide
  rw [e1, e2]
  refine ⟨by decide, by decide, ?_⟩
  have e3 : ishl .u64 (x : Int) 17 = ((x % 140737488355328 * 2 ^ 17 : Nat) : Int) := by
    unfold ishl
    show IntKind.u64.wrap ((x : Int) * 131072) = _
    rw [IntKind.wrap_u64]; omega
  have e4 : ishr .u64 (x : Int) 47 = ((x / 140737488355328 : Nat) : Int) := ishr_nat (a := x) (s := 47) (by decide)
  rw [e3, e4, ior_nat (by omega) (by omega), or_add (by omega)]
  have : x % 140737488355328 * 2 ^ 17 = x * 131072 % 18446744073709551616 := by omega
  rw [this]; exact hQ
theorem mix_spec {sum w : Int} (hs : W64 sum) (hw : W64 w) {Q : Int → Mem → Prop} (hQ : Q (mixM sum w) S) : word_Mix S sum w Q := by
  apply t_word_Mix
  unfold b_word_Mix
  obtain ⟨m, e, hm⟩ := ixor_w hs hw
  unfold mixM at hQ
  rw [e, Int.toNat_natCast] at hQ
  unfold mixN at hQ
  rw [e]
  refine mul_spec (y := C64) hm (by decide) ?_
  refine rot_spec (Nat.div_lt_of_lt_mul (Nat.mul_lt_mul_of_lt_of_le hm (by decide) (by decide))) ?_
  exact hQ
theorem mix_w {sum w : Int} (hs : W64 sum) (hw : W64 w) : W64 (mixM sum w) := by
  obtain ⟨m, e, hm⟩ := ixor_w hs hw
  unfold mixM
  rw [e, Int.toNat_natCast]
  unfold mixN
  have hh : m * C64 / 18446744073709551616 < 18446744073709551616 := Nat.div_lt_of_lt_mul (Nat.mul_lt_mul_of_lt_of_le hm (by decide) (by decide))
  generalize m * C64 / 18446744073709551616 = h at *
  have hl : m * C64 % 18446744073709551616 < 18446744073709551616 := Nat.mod_lt _ (by decide)
  generalize m * C64 % 18446744073709551616 = lo at *
  obtain ⟨z, ez, hz⟩ := ixor_w (a := ((h * 131072 % 18446744073709551616 + h / 140737488355328 : Nat) : Int)) (b := (lo : Int)) ⟨by omega, by omega⟩ ⟨by omega, by omega⟩
  rw [ez]; exact ⟨by omega, by omega⟩
set_option maxRecDepth 20000 in
theorem refMix_spec {sum w : Int} (hs : W64 sum) (hw : W64 w) {Q : Int → Mem → Prop} (hQ : Q (mixM sum w) S) : hermitcrabref01_Mix S sum w Q := by
  apply t_hermitcrabref01_Mix
  unfold b_hermitcrabref01_Mix
  obtain ⟨m, e, hm⟩ := ixor_w hs hw
  unfold mixM at hQ
  rw [e, Int.toNat_natCast] at hQ
  unfold mixN at hQ
  rw [e]
  obtain ⟨bd, bt, bw, hhi⟩ := mul64_hi m C64 hm (by decide)
  have hsp : m * C64 = (m / 4294967296) * (C64 / 4294967296) * (4294967296 * 4294967296) + ((m / 4294967296) * (C64 % 4294967296) + (m % 4294967296) * (C64 / 4294967296)) * 4294967296 + (m % 4294967296) * (C64 % 4294967296) := by
    have h := Go.Lib.split_mul (m / 4294967296) (m % 4294967296) (C64 / 4294967296) (C64 % 4294967296) 4294967296
    rw [Nat.div_add_mod' m 4294967296, Nat.div_add_mod' C64 4294967296] at h
    exact h
  have ba := half_mul_le (a := m / 4294967296) (b := C64 / 4294967296) (by omega) (by decide)
  have dv : ∀ a : Nat, a < 18446744073709551616 → IntKind.u64.wrap (Int.tdiv (a : Int) 4294967296) = ((a / 4294967296 : Nat) : Int) := fun a h => by rw [td (by omega), wu64 (by omega) (by omega)]; omega
  have md : ∀ a : Nat, Int.tmod (a : Int) 4294967296 = ((a % 4294967296 : Nat) : Int) := fun a => by rw [tm (by omega)]; omega
  have wn : ∀ a : Nat, a < 18446744073709551616 → IntKind.u64.wrap (a : Int) = (a : Int) := fun a h => wu64 (by omega) (by omega)
  have cd : IntKind.u64.wrap (Int.tdiv 11400714819323198485 4294967296) = ((C64 / 4294967296 : Nat) : Int) := by decide
  have cm : Int.tmod 11400714819323198485 4294967296 = ((C64 % 4294967296 : Nat) : Int) := by decide
  simp only [cd, cm, dv m hm, md m, ← Int.natCast_mul]
  generalize hp : m / 4294967296 * (C64 / 4294967296) = p at *
  generalize hq : m / 4294967296 * (C64 % 4294967296) = q at *
  generalize hr : m % 4294967296 * (C64 / 4294967296) = r at *
  generalize ht : m % 4294967296 * (C64 % 4294967296) = t at *
  simp only [wn t (by omega), wn q (by omega), wn r (by omega), wn p (by omega), dv t (by omega), md t, ← Int.natCast_add]
  simp only [wn (q + t / 4294967296) (by omega), dv (q + t / 4294967296) (by omega), md (q + t / 4294967296), ← Int.natCast_add]
  simp only [wn (r + (q + t / 4294967296) % 4294967296) (by omega), dv (r + (q + t / 4294967296) % 4294967296) (by omega), md (r + (q + t / 4294967296) % 4294967296), ← Int.natCast_add]
  have hhi2 : p + (q + t / 4294967296) / 4294967296 + (r + (q + t / 4294967296) % 4294967296) / 4294967296 = m * C64 / 18446744073709551616 := by rw [← hhi, Nat.add_comm r]
  have hh : m * C64 / 18446744073709551616 < 18446744073709551616 := Nat.div_lt_of_lt_mul (Nat.mul_lt_mul_of_lt_of_le hm (by decide) (by decide))
  have hlo : (r + (q + t / 4294967296) % 4294967296) % 4294967296 * 4294967296 + t % 4294967296 = m * C64 % 18446744073709551616 := by omega
  have l1 : IntKind.u64.wrap ((((r + (q + t / 4294967296) % 4294967296) % 4294967296 : Nat) : Int) * 4294967296) = (((r + (q + t / 4294967296) % 4294967296) % 4294967296 * 4294967296 : Nat) : Int) := by rw [wu64 (by omega) (by omega)]; omega
  rw [wn (p + (q + t / 4294967296) / 4294967296) (by omega)]
  rw [← Int.natCast_add, wn (p + (q + t / 4294967296) / 4294967296 + (r + (q + t / 4294967296) % 4294967296) / 4294967296) (by omega), hhi2, l1, ← Int.natCast_add, hlo]
  generalize m * C64 / 18446744073709551616 = h at *
  have hl : m * C64 % 18446744073709551616 < 18446744073709551616 := Nat.mod_lt _ (by decide)
  generalize m * C64 % 18446744073709551616 = lo at *
  have h1 : IntKind.u64.wrap ((h : Int) * 131072) = ((h * 131072 % 18446744073709551616 : Nat) : Int) := by rw [IntKind.wrap_u64]; omega
  have h2 : IntKind.u64.wrap (Int.tdiv (h : Int) 140737488355328) = ((h / 140737488355328 : Nat) : Int) := by rw [td (by omega), wu64 (by omega) (by omega)]; omega
  rw [h1, h2, ← Int.natCast_add, wn _ (by omega), wn lo hl]
  exact hQ
end
end Go.Proofs.YtabdpmnhjlmnlaaGreatDoor
end
section
namespace Go.Cr
open Go Go.Pt
def Seat.words (s : Seat) : List Int := s.R ++ [s.pc, s.base, s.vec, s.epc, s.cause, s.addr, (if s.opn = true then 1 else 0), s.st, s.pend, s.mask]
def Seat.sum (s : Seat) : Int := s.words.foldl mixM 0
theorem Seat.words_w {s : Seat} (h : s.Ok) : ∀ x ∈ s.words, W64 x := by
  intro x hx
  have h1 := h.st
  have h2 := h.pend
  have h3 := h.mask
  unfold Seat.words at hx
  rcases List.mem_append.1 hx with hx | hx
  · exact h.r x hx
  · simp only [List.mem_cons, List.not_mem_nil, or_false] at hx
    rcases hx with rfl | rfl | rfl | rfl | rfl | rfl | rfl | rfl | rfl | rfl
    · exact h.pc
    · exact h.base
    · exact h.vec
    · exact h.epc
    · exact h.cause
    · exact h.addr
    · split <;> exact ⟨by decide, by decide⟩
    · exact ⟨by omega, by omega⟩
    · exact ⟨by omega, by omega⟩
    · exact ⟨by omega, by omega⟩
theorem Seat.words_len {s : Seat} (h : s.R.length = 16) : s.words.length = 26 := by simp [Seat.words, h]
end Go.Cr
namespace Go.Proofs.YtabdpmnhjlmnlaaGreatDoor
open Go Go.Pt Go.Cr
section
variable {S : Mem} {s : Seat}
theorem rsum_loop {t : Sl} {xs : List Int} (hw : ∀ x ∈ xs, W64 x) (hrow : Row S 1 t (xs.map (Value.int .u64))) (hn : xs.length ≤ 1000) {Q : Int → Mem → Prop} (hQ : Q (xs.foldl mixM 0) S) :
    (lp (fun Xx (z : Int × Int) (Sx_2 : Mem) => match z with
      | (n_1, i) => jn (fun (Sx_3 : Mem) => sl t fun b_1 o n_2 _ => 0 ≤ i ∧ i < ((n_2 : Nat) : Int) ∧ gI (Sx_3.cell b_1 (o + i.toNat * 1)) .u64 fun t_1 => hermitcrabref01_Mix Sx_3 n_1 t_1 fun t_2 Sx_4 => Xx (t_2, IntKind.i64.wrap (i + 1)) Sx_4) fun Jx_1 =>
        if i < (t.n : Int) then Jx_1 Sx_2 else Q n_1 Sx_2) (0, 0) S) := by
  have hlen : t.n = xs.length := by have := hrow.len; simp only [List.length_map, Nat.mul_one] at this; exact this.symm
  refine lp_rule (fun (z : Int × Int) S' => ∃ i : Nat, z = ((xs.take i).foldl mixM 0, (i : Int)) ∧ i ≤ xs.length ∧ S' = S ∧ W64 ((xs.take i).foldl mixM 0)) (fun z => xs.length - z.2.toNat) ?_ ⟨0, rfl, by omega, rfl, by rw [List.take_zero]; exact ⟨by decide, by decide⟩⟩
  rintro X z S' ⟨i, rfl, hi, rfl, hacc⟩ ih
  dsimp only at ih ⊢
  simp only [jn]
  by_cases hlt : (i : Int) < (t.n : Int)
  · rw [if_pos hlt]
    have hil : i < xs.length := by omega
    rcases hrow.lie with ⟨_, h2⟩ | ⟨b, k, h1, h2, _, h4, h5⟩
    · have := hrow.cap; omega
    obtain ⟨tp, tn, tc⟩ := t
    simp only at h1 hlen hlt h4 h5
    subst h1
    rw [sl_i]
    have hc : S'.cell b i = some (.int .u64 xs[i]) := by
      rw [cell_of h2, nthL_eq]
      have : (k.cs.take (tn * 1))[i]? = some (.int .u64 xs[i]) := by rw [h5]; simp [List.getElem?_eq_getElem hil]
      rw [List.getElem?_take, if_pos (by omega)] at this
      exact this
    refine ⟨by omega, hlt, ?_⟩
    rw [show 0 + (i : Int).toNat * 1 = i by omega, gI_i hc]
    have hx := hw _ (List.getElem_mem hil)
    refine refMix_spec hacc hx ?_
    rw [w64 (by omega) (by omega)]
    have e : (xs.take (i + 1)).foldl mixM 0 = mixM ((xs.take i).foldl mixM 0) xs[i] := by
      rw [List.take_succ_eq_append_getElem hil, List.foldl_append]; rfl
    refine ih _ S' ⟨i + 1, by rw [e]; simp, by omega, rfl, by rw [e]; exact mix_w hacc hx⟩ (by dsimp only; omega)
  · rw [if_neg hlt]
    have e : i = xs.length := by omega
    subst e
    rw [List.take_length]; exact hQ
theorem words_spec (ho : s.Ok) {Q : Sl → Mem → Prop} (hQ : ∀ t S', Keeps S S' [] → Row S' 1 t (s.words.map (Value.int .u64)) → Q t S') : hermitcrabref11_Words S s.L Q := by
  have hs := ho.len
  have h1 := ho.st
  have h2 := ho.pend
  have h3 := ho.mask
  apply t_hermitcrabref11_Words
  unfold b_hermitcrabref11_Words
  refine ⟨Seat.L_len hs, ?_⟩
  have fre : ∀ {S' S2 : Mem} {t : Sl} {c : Nat} {kb : Blk}, Keeps S S' [] → (∀ x o, t.p = some (x, o) → S x = none) → (t.p = some (c, 0) ∨ S' c = none) → S2 = S'.set c kb → S c = none ∧ Keeps S S2 [] := fun {S' S2 t c kb} hk hf e3 e4 => by
    have hc : S c = none := by
      rcases e3 with e3 | e3
      · exact hf c 0 e3
      · cases hS : S c with
        | none => rfl
        | some kk => have := hk.get hS (by simp); rw [e3] at this; cases this
    exact ⟨hc, by rw [e4]; exact hk.fresh hc⟩
  refine jn_cut (fun J => ∀ t S', Keeps S S' [] → (∀ x o, t.p = some (x, o) → S x = none) → t.n = 16 → Row S' 1 t (s.R.map (Value.int .u64)) → J t S') ?_ fun J hJ => ?_
  · intro t S' hk hf hn hrow
    have fin : ∀ ox : Int, ox = (if s.opn = true then 1 else 0) → ap S' 39 1 8 [.int .u64 0] t 10 ([.int .u64 s.pc, .int .u64 s.base, .int .u64 s.vec, .int .u64 s.epc, .int .u64 s.cause, .int .u64 s.addr, .int .u64 ox, .int .u64 (IntKind.u64.wrap s.st), .int .u64 (IntKind.u64.wrap s.pend), .int .u64 (IntKind.u64.wrap s.mask)]) fun t_9 Sx_2 => Q t_9 Sx_2 := fun ox hox => by
      rw [wu64 (x := s.st) (by omega) (by omega), wu64 (x := s.pend) (by omega) (by omega), wu64 (x := s.mask) (by omega) (by omega)]
      refine ap_row hrow rfl (by decide) rfl (by omega) fun t' S2 c kb e1 e2 e3 e4 e5 => hQ t' S2 (fre hk hf e3 e4).2 ?_
      have : s.words.map (Value.int .u64) = s.R.map (Value.int .u64) ++ [.int .u64 s.pc, .int .u64 s.base, .int .u64 s.vec, .int .u64 s.epc, .int .u64 s.cause, .int .u64 s.addr, .int .u64 ox, .int .u64 s.st, .int .u64 s.pend, .int .u64 s.mask] := by
        unfold Seat.words; rw [List.map_append, hox]; rfl
      rw [this]; exact e5
    simp only [jn]
    rw [gI_i (Seat.g16 hs), gI_i (Seat.g17 hs), gI_i (Seat.g18 hs), gI_i (Seat.g19 hs), gI_i (Seat.g20 hs), gI_i (Seat.g21 hs), gI_i (Seat.g23 hs), gI_i (Seat.g24 hs), gI_i (Seat.g25 hs), gB_i (Seat.g22 hs)]
    by_cases hop : s.opn = true
    · rw [if_pos hop]; exact fin 1 (by rw [if_pos hop])
    · rw [if_neg hop]
      rw [gI_i (Seat.g16 hs), gI_i (Seat.g17 hs), gI_i (Seat.g18 hs), gI_i (Seat.g19 hs), gI_i (Seat.g20 hs), gI_i (Seat.g21 hs), gI_i (Seat.g23 hs), gI_i (Seat.g24 hs), gI_i (Seat.g25 hs)]
      exact fin 0 (by rw [if_neg hop])
  refine lp_rule (fun (z : Sl × Int) S' => ∃ i : Nat, z.2 = i ∧ i ≤ 16 ∧ z.1.n = i ∧ Keeps S S' [] ∧ (∀ x o, z.1.p = some (x, o) → S x = none) ∧ Row S' 1 z.1 ((s.R.take i).map (Value.int .u64))) (fun z => 16 - z.2.toNat) ?_ ⟨0, rfl, by omega, rfl, Keeps.refl, (fun x o h => by cases h), by simpa using Row.nil⟩
  rintro X ⟨l, z⟩ S' ⟨i, hz, hi, hn, hk, hf, hrow⟩ ih
  dsimp only at hz hn hf hrow ih ⊢
  subst hz
  simp only [jn]
  by_cases hlt : (i : Int) < 16
  · rw [if_pos hlt]
    refine ⟨by omega, hlt, ?_⟩
    have hg : nthL s.L i = some (.int .u64 (s.R.getD i 0)) := Seat.L_r hs (by omega)
    rw [show 0 + (i : Int).toNat * 1 = i by omega, gI_i hg]
    refine ap_row hrow rfl (by decide) rfl (by omega) fun t' S2 c kb e1 e2 e3 e4 e5 => ?_
    have hc := fre hk hf e3 e4
    rw [w64 (by omega) (by omega)]
    refine ih _ S2 ⟨i + 1, by simp, by omega, by show t'.n = i + 1; omega, hc.2, (fun x o h => by rw [e2] at h; cases h; exact hc.1), ?_⟩ (by dsimp only; omega)
    have e : (s.R.take (i + 1)).map (Value.int .u64) = (s.R.take i).map (Value.int .u64) ++ [.int .u64 (s.R.getD i 0)] := by
      rw [List.take_succ_eq_append_getElem (by omega), List.map_append, List.getD_eq_getElem?_getD, List.getElem?_eq_getElem (by omega)]; rfl
    rw [e]; exact e5
  · rw [if_neg hlt]
    have : i = 16 := by omega
    subst this
    rw [List.take_of_length_le (by omega)] at hrow
    exact hJ l S' hk hf hn hrow
theorem refSum_spec (ho : s.Ok) {Q : Int → Mem → Prop} (hQ : ∀ S', Keeps S S' [] → Q s.sum S') : hermitcrabref12_Sum S s.L Q := by
  have hs := ho.len
  apply t_hermitcrabref12_Sum
  unfold b_hermitcrabref12_Sum
  refine ⟨Seat.L_len hs, ?_⟩
  apply t_hermitcrabref11_Sum
  unfold b_hermitcrabref11_Sum
  refine ⟨Seat.L_len hs, ?_⟩
  refine words_spec ho fun t S' hk hrow => ?_
  exact rsum_loop (Q := fun n Sx => Q n Sx) (Seat.words_w ho) hrow (by rw [Seat.words_len hs]; decide) (hQ S' hk)
end
end Go.Proofs.YtabdpmnhjlmnlaaGreatDoor
end
section
namespace Go.Proofs.YtabdpmnhjlmnlaaGreatDoor
open Go Go.Pt Go.Cr
section
variable {S : Mem} {s : Seat}
theorem pack_spec (ho : s.Ok) {Q : Sl → Mem → Prop} (hQ : ∀ t S', Keeps S S' [] → Row S' 1 t (s.words.map (Value.int .u64)) → Q t S') : seat_Pack S s.L Q := by
  have hs := ho.len
  have h1 := ho.st
  have h2 := ho.pend
  have h3 := ho.mask
  apply t_seat_Pack
  unfold b_seat_Pack
  refine ⟨Seat.L_len hs, ?_⟩
  intro b hb
  have hsb : (S.set b (bw 43 s.L)) b = some (bw 43 s.L) := set_same
  have hk0 : Keeps S (S.set b (bw 43 s.L)) [] := Keeps.refl.fresh hb
  have hpart : (S.set b (bw 43 s.L)).part b 0 (16 * 1) = some (s.R.map (Value.int .u64)) := by
    rw [part_of hsb, lpart_i (by show 0 + 16 * 1 ≤ s.L.length; rw [Seat.L_len hs]; decide)]
    show some ((s.L.drop 0).take 16) = _
    rw [List.drop_zero]
    unfold Seat.L
    rw [List.take_left' (by simpa using hs)]
  refine ⟨s.R.map (Value.int .u64), .inr ⟨b, 0, rfl, hpart⟩, by rw [List.all_map]; exact List.all_eq_true.2 fun _ _ => rfl, ?_⟩
  refine ap_row Row.nil (by simpa using hs) (by decide) rfl (by decide) fun t S1 c kb e1 e2 e3 e4 e5 => ?_
  have hc : (S.set b (bw 43 s.L)) c = none := by
    rcases e3 with e3 | e3
    · cases e3
    · exact e3
  have hcb : c ≠ b := fun h => by rw [h, hsb] at hc; cases hc
  have hk1 : Keeps S S1 [] := by rw [e4]; exact hk0.trans (Keeps.refl.fresh hc)
  have hS1b : S1 b = some (bw 43 s.L) := by rw [e4, set_ne hcb.symm]; exact hsb
  have hcell : ∀ i, S1.cell b i = nthL s.L i := fun i => by rw [cell_of hS1b]
  rw [gI_i ((hcell 16).trans (Seat.g16 hs)), gI_i ((hcell 17).trans (Seat.g17 hs)), gI_i ((hcell 18).trans (Seat.g18 hs)), gI_i ((hcell 19).trans (Seat.g19 hs)), gI_i ((hcell 20).trans (Seat.g20 hs)), gI_i ((hcell 21).trans (Seat.g21 hs)), gB_i ((hcell 22).trans (Seat.g22 hs)), gI_i ((hcell 23).trans (Seat.g23 hs)), gI_i ((hcell 24).trans (Seat.g24 hs)), gI_i ((hcell 25).trans (Seat.g25 hs))]
  refine flag_spec ?_
  refine ⟨(hcell 25).trans (Seat.g25 hs), (hcell 24).trans (Seat.g24 hs), (hcell 23).trans (Seat.g23 hs), (hcell 21).trans (Seat.g21 hs), (hcell 20).trans (Seat.g20 hs), (hcell 19).trans (Seat.g19 hs), (hcell 18).trans (Seat.g18 hs), (hcell 17).trans (Seat.g17 hs), (hcell 16).trans (Seat.g16 hs), ?_⟩
  rw [wu64 (x := s.st) (by omega) (by omega), wu64 (x := s.pend) (by omega) (by omega), wu64 (x := s.mask) (by omega) (by omega)]
  have htn : t.n = 16 := by rw [e1]
  refine ap_row e5 rfl (by decide) rfl (by omega) fun t2 S2 c2 kb2 f1 f2 f3 f4 f5 => ?_
  have hc2 : c2 ≠ b ∧ Keeps S S2 [] := by
    rcases f3 with f3 | f3
    · rw [e2] at f3; cases f3
      have hSc : S c = none := by rw [set_ne hcb] at hc; exact hc
      exact ⟨hcb, by rw [f4]; exact hk1.fresh hSc⟩
    · refine ⟨fun h => (by rw [h, hS1b] at f3; cases f3), ?_⟩
      have hSc : S c2 = none := by
        cases hS : S c2 with
        | none => rfl
        | some kk => have := hk1.get hS (by simp); rw [f3] at this; cases this
      rw [f4]; exact hk1.fresh hSc
  have hS2b : S2 b = some (bw 43 s.L) := by rw [f4, set_ne hc2.1.symm]; exact hS1b
  have hcell2 : ∀ i, S2.cell b i = nthL s.L i := fun i => by rw [cell_of hS2b]
  refine ⟨(hcell2 25).trans (Seat.g25 hs), (hcell2 24).trans (Seat.g24 hs), (hcell2 23).trans (Seat.g23 hs), hQ t2 S2 hc2.2 ?_⟩
  have : s.words.map (Value.int .u64) = [] ++ s.R.map (Value.int .u64) ++ [.int .u64 s.pc, .int .u64 s.base, .int .u64 s.vec, .int .u64 s.epc, .int .u64 s.cause, .int .u64 s.addr, .int .u64 (if s.opn = true then 1 else 0), .int .u64 s.st, .int .u64 s.pend, .int .u64 s.mask] := by
    unfold Seat.words; rw [List.map_append]; rfl
  rw [this]; exact f5
theorem isum_loop {t : Sl} {xs : List Int} (hw : ∀ x ∈ xs, W64 x) (hrow : Row S 1 t (xs.map (Value.int .u64))) (hn : xs.length ≤ 1000) {Q : Int → Mem → Prop} (hQ : Q (xs.foldl mixM 0) S) :
    (lp (fun Xx (z : Int × Int) (Sx_2 : Mem) => match z with
      | (n_1, i) => if i < (t.n : Int) then sl t fun b_1 o n_2 _ => 0 ≤ i ∧ i < ((n_2 : Nat) : Int) ∧ gI (Sx_2.cell b_1 (o + i.toNat * 1)) .u64 fun t_1 => word_Mix Sx_2 n_1 t_1 fun t_2 Sx_4 => Xx (t_2, IntKind.i64.wrap (i + 1)) Sx_4 else Q n_1 Sx_2) (0, 0) S) := by
  have hlen : t.n = xs.length := by have := hrow.len; simp only [List.length_map, Nat.mul_one] at this; exact this.symm
  refine lp_rule (fun (z : Int × Int) S' => ∃ i : Nat, z = ((xs.take i).foldl mixM 0, (i : Int)) ∧ i ≤ xs.length ∧ S' = S ∧ W64 ((xs.take i).foldl mixM 0)) (fun z => xs.length - z.2.toNat) ?_ ⟨0, rfl, by omega, rfl, by rw [List.take_zero]; exact ⟨by decide, by decide⟩⟩
  rintro X z S' ⟨i, rfl, hi, rfl, hacc⟩ ih
  dsimp only at ih ⊢
  by_cases hlt : (i : Int) < (t.n : Int)
  · rw [if_pos hlt]
    have hil : i < xs.length := by omega
    rcases hrow.lie with ⟨_, h2⟩ | ⟨b, k, h1, h2, _, h4, h5⟩
    · have := hrow.cap; omega
    obtain ⟨tp, tn, tc⟩ := t
    simp only at h1 hlen hlt h4 h5
    subst h1
    rw [sl_i]
    have hc : S'.cell b i = some (.int .u64 xs[i]) := by
      rw [cell_of h2, nthL_eq]
      have : (k.cs.take (tn * 1))[i]? = some (.int .u64 xs[i]) := by rw [h5]; simp [List.getElem?_eq_getElem hil]
      rw [List.getElem?_take, if_pos (by omega)] at this
      exact this
    refine ⟨by omega, hlt, ?_⟩
    rw [show 0 + (i : Int).toNat * 1 = i by omega, gI_i hc]
    have hx := hw _ (List.getElem_mem hil)
    refine mix_spec hacc hx ?_
    rw [w64 (by omega) (by omega)]
    have e : (xs.take (i + 1)).foldl mixM 0 = mixM ((xs.take i).foldl mixM 0) xs[i] := by
      rw [List.take_succ_eq_append_getElem hil, List.foldl_append]; rfl
    refine ih _ S' ⟨i + 1, by rw [e]; simp, by omega, rfl, by rw [e]; exact mix_w hacc hx⟩ (by dsimp only; omega)
  · rw [if_neg hlt]
    have e : i = xs.length := by omega
    subst e
    rw [List.take_length]; exact hQ
theorem sumS_spec (ho : s.Ok) {Q : Int → Mem → Prop} (hQ : ∀ S', Keeps S S' [] → Q s.sum S') : seat_Sum S s.L Q := by
  have hs := ho.len
  apply t_seat_Sum
  unfold b_seat_Sum
  refine ⟨Seat.L_len hs, ?_⟩
  refine pack_spec ho fun t S' hk hrow => ?_
  exact isum_loop (Q := fun n Sx => Q n Sx) (Seat.words_w ho) hrow (by rw [Seat.words_len hs]; decide) (hQ S' hk)
end
end Go.Proofs.YtabdpmnhjlmnlaaGreatDoor
end
section
namespace Go.Cr
open Go Go.Pt
def upd {α : Type} (f : Nat → α) (i : Nat) (v : α) : Nat → α := fun x => if x = i then v else f x
theorem upd_at {α : Type} {f : Nat → α} {i : Nat} {v : α} : upd f i v i = v := by simp [upd]
theorem upd_of {α : Type} {f : Nat → α} {i j : Nat} {v : α} (h : j ≠ i) : upd f i v j = f j := by simp [upd, h]
theorem upd_upd {α : Type} {f : Nat → α} {i : Nat} {v w : α} : upd (upd f i v) i w = upd f i w := by
  funext x; simp only [upd]; split <;> rfl
theorem upd_self {α : Type} {f : Nat → α} {i : Nat} : upd f i (f i) = f := by
  funext x; simp only [upd]; split
  · rename_i h; rw [h]
  · rfl
structure Ls where
  on : Bool
  fr : Nat
  pg : Nat
  to : Nat
  wr : Bool
  at_ : Int
def Ls.setA (l : Ls) (a : Int) : Ls := ⟨l.on, l.fr, l.pg, l.to, l.wr, a⟩
def ls0 : Ls := ⟨false, 0, 0, 0, false, 0⟩
structure Evt where
  kind : Int
  seat : Int
  a : Int
  b : Int
structure Bv where
  on : Bool
  seats : List Seat
  quota : Int
  keys : List Int
  disk : Nat → List Int
  bells : Nat → Bool
def bv0 : Bv := ⟨false, [], 0, [], fun _ => [], fun _ => false⟩
structure Wd where
  free : Int
  vm : Nat → Bv
  time : Nat → Int
  own : Nat → Nat → Option (List Int)
  alarm : Nat → Nat → Option Int
  ls : Nat → Ls
  ev : Nat → List Evt
def W0 (free : Int) : Wd := ⟨free, fun _ => bv0, fun _ => 0, fun _ _ => none, fun _ _ => none, fun _ => ls0, fun _ => []⟩
def Wd.there (W : Wd) (n : Int) : Prop := 0 ≤ n ∧ n < 6 ∧ (W.vm n.toNat).on = true
instance (W : Wd) (n : Int) : Decidable (W.there n) := inferInstanceAs (Decidable (_ ∧ _ ∧ _))
def fit256 (l : List Int) : List Int := l.take 256 ++ List.replicate (256 - l.length) 0
theorem fit256_len (l : List Int) : (fit256 l).length = 256 := by simp [fit256]; omega
def pageB (img : List Int) (i : Nat) : List Int := fit256 (img.drop (256 * i))
def noughts : List Int := List.replicate 256 0
theorem noughts_len : noughts.length = 256 := List.length_replicate
theorem noughts_mem {x : Int} (h : x ∈ noughts) : x = 0 := List.eq_of_mem_replicate h
theorem noughts_byt {x : Int} (h : x ∈ noughts) : 0 ≤ x ∧ x ≤ 255 := by rw [noughts_mem h]; decide
theorem noughts_is : List.replicate 256 (0 : Int) = noughts := rfl
def firstOff (f : Nat → Bool) (n : Nat) : Option Nat := (List.range n).find? fun i => ! f i
def count (f : Nat → Bool) (n : Nat) : Nat := ((List.range n).filter f).length
def Wd.pages (W : Wd) (n : Nat) : Nat := count (fun p => (W.own n p).isSome) 32
def mkV (seats quota : Int) : Bv := { on := true, seats := List.replicate seats.toNat seat0, quota := quota, keys := [], disk := fun _ => noughts, bells := fun _ => false }
def Wd.create (W : Wd) (seats quota pages : Int) (img : List Int) : Int × Int × Wd :=
  if seats < 1 ∨ 3 < seats ∨ quota < 1 ∨ 32 < quota ∨ pages < 1 ∨ quota < pages then (0, 1, W)
  else if 256 * pages < img.length then (0, 6, W)
  else match firstOff (fun n => (W.vm n).on) 6 with
    | none => (0, 2, W)
    | some n => if W.free < 5 + pages then (0, 3, W)
      else (n, 0, { W with free := W.free - (5 + pages), vm := upd W.vm n (mkV seats quota), time := upd W.time n 0, ev := upd W.ev n [],
                           own := upd W.own n fun p => if (p : Int) < pages then some (pageB img p) else none })
def Wd.destroy (W : Wd) (n : Int) : Int × Wd :=
  if ¬ W.there n then (2, W)
  else (0, { W with free := W.free + (5 + W.pages n.toNat),
                    vm := fun i => if i = n.toNat then bv0 else { W.vm i with bells := upd (W.vm i).bells n.toNat false },
                    own := upd W.own n.toNat fun _ => none,
                    alarm := upd W.alarm n.toNat fun _ => none,
                    ls := fun i => if (W.ls i).on = true ∧ ((W.ls i).fr = n.toNat ∨ (W.ls i).to = n.toNat) then ls0 else W.ls i })
def Bv.ring (v : Bv) (n : Nat) (on : Bool) : Bv := { v with bells := upd v.bells n on }
def Wd.setV (W : Wd) (n : Nat) (v : Bv) : Wd := { W with vm := upd W.vm n v }
def Wd.join (W : Wd) (a b : Int) (on : Bool) : Int × Wd :=
  if ¬ W.there a ∨ ¬ W.there b then (2, W)
  else if a = b then (1, W)
  else (0, (W.setV a.toNat ((W.vm a.toNat).ring b.toNat on)).setV b.toNat ((W.vm b.toNat).ring a.toNat on))
def Bv.setSeat (v : Bv) (k : Nat) (s : Seat) : Bv := { v with seats := v.seats.set k s }
def Seat.raise (s : Seat) (i : Nat) : Seat := if s.st = 2 then s else Seat.wake { s with pend := ior .u32 s.pend (2 ^ i) }
def Bv.seat (v : Bv) (k : Nat) : Seat := v.seats.getD k seat0
def Wd.raise (W : Wd) (n k i : Nat) : Int × Wd :=
  if ((W.vm n).seat k).st = 2 then (10, W) else (0, W.setV n ((W.vm n).setSeat k (((W.vm n).seat k).raise i)))
def Bv.setKeys (v : Bv) (l : List Int) : Bv := { v with keys := l }
def Wd.key (W : Wd) (n b : Int) : Int × Wd :=
  if ¬ W.there n then (2, W)
  else if 64 ≤ (W.vm n.toNat).keys.length then (3, W)
  else (0, ((W.setV n.toNat ((W.vm n.toNat).setKeys ((W.vm n.toNat).keys ++ [b]))).raise n.toNat 0 6).2)
def dueA (al : Nat → Option Int) (time : Int) (k : Nat) : Bool := match al k with
  | some a => decide (a ≤ time)
  | none => false
def Wd.tick (W : Wd) : Wd :=
  { W with time := fun n => W.time n + 1,
           vm := fun n => { W.vm n with seats := (W.vm n).seats.mapIdx fun k s => if dueA (W.alarm n) (W.time n + 1) k = true then s.raise 7 else s },
           alarm := fun n k => if dueA (W.alarm n) (W.time n + 1) k = true then none else W.alarm n k }
def Wd.tell (W : Wd) (n : Nat) (e : Evt) : Wd := { W with ev := upd W.ev n (W.ev n ++ [e]) }
def leaseAt (ls : Nat → Ls) (n : Nat) (page : Int) : Option Nat := (List.range 16).find? fun i => (ls i).on && (decide ((ls i).to = n) && decide ((ls i).at_ = page))
def Wd.where_ (W : Wd) (n p : Nat) : Option (Nat × Nat × Bool) :=
  if (W.own n p).isSome then some (n, p, true)
  else (leaseAt W.ls n p).map fun i => ((W.ls i).fr, (W.ls i).pg, (W.ls i).wr)
def Wd.gm (W : Wd) (n : Nat) : GM :=
  ⟨fun p => if 32 ≤ p then none else (W.where_ n p).map fun q => (32 * q.1 + q.2.1, q.2.2), fun f => (W.own (f / 32) (f % 32)).getD []⟩
def Wd.setDat (W : Wd) (d : Nat → List Int) : Wd := { W with own := fun n p => (W.own n p).map fun _ => d (32 * n + p) }
def Wd.setO (W : Wd) (n p : Nat) (o : Option (List Int)) : Wd := { W with own := upd W.own n (upd (W.own n) p o) }
def small (w : Int) : Int := if 65535 < w then -1 else w
def Wd.mine (W : Wd) (n : Nat) (p : Int) : Int :=
  if p < 0 ∨ 31 < p ∨ W.where_ n p.toNat = none then 11 else if (W.own n p.toNat).isSome = true then 0 else 7
def Wd.setL (W : Wd) (i : Nat) (l : Ls) : Wd := { W with ls := upd W.ls i l }
def Wd.lease (W : Wd) (n : Nat) (c : Int) (i page : Int) : Int × Wd :=
  if i < 0 ∨ 15 < i ∨ (W.ls i.toNat).on = false then (2, W)
  else if c < 7 ∧ (W.ls i.toNat).to ≠ n ∨ c = 7 ∧ (W.ls i.toNat).fr ≠ n then (7, W)
  else if c = 6 then (if (W.ls i.toNat).at_ < 0 then (10, W) else (0, W.setL i.toNat ((W.ls i.toNat).setA (-1))))
  else if 0 ≤ (W.ls i.toNat).at_ then (8, W)
  else if c = 7 then (0, W.setL i.toNat ls0)
  else if page < 0 ∨ 31 < page then (1, W)
  else if W.where_ n page.toNat ≠ none then (8, W)
  else (0, W.setL i.toNat ((W.ls i.toNat).setA page))
def lentL (ls : Nat → Ls) (n : Nat) (p : Int) : Bool := (List.range 16).any fun i => (ls i).on && (decide ((ls i).fr = n) && decide (((ls i).pg : Int) = p))
def Wd.ring (W : Wd) (n : Nat) (a b : Int) : Int × Wd :=
  if ¬ W.there a ∨ (W.vm n).bells a.toNat = false then (2, W)
  else if b < 0 ∨ 7 < b then (1, W)
  else W.raise a.toNat 0 b.toNat
def Wd.offer (W : Wd) (n : Nat) (p to : Int) (w : Bool) : Int × Int × Wd :=
  if W.mine n p ≠ 0 then (0, W.mine n p, W)
  else if ¬ W.there to then (0, 2, W)
  else if (n : Int) = to then (0, 1, W)
  else match firstOff (fun i => (W.ls i).on) 16 with
    | none => (0, 3, W)
    | some i => (i, 0, W.setL i ⟨true, n, p.toNat, to.toNat, w, -1⟩)
def Wd.give (W : Wd) (n : Nat) (p : Int) : Int × Wd :=
  if W.mine n p ≠ 0 then (W.mine n p, W)
  else if lentL W.ls n p = true then (8, W)
  else (0, { W.setO n p.toNat none with free := W.free + 1 })
def Wd.get (W : Wd) (n : Nat) (p : Int) : Int × Wd :=
  if p < 0 ∨ 31 < p then (1, W)
  else if W.where_ n p.toNat ≠ none then (8, W)
  else if (W.vm n).quota ≤ W.pages n then (9, W)
  else if W.free = 0 then (3, W)
  else (0, { W.setO n p.toNat (some noughts) with free := W.free - 1 })
def Wd.load (W : Wd) (n : Nat) (sec p : Int) : Int × Wd :=
  if sec < 0 ∨ 3 < sec then (1, W)
  else if p < 0 ∨ 31 < p then (11, W)
  else match W.where_ n p.toNat with
    | some (m, q, true) => (0, W.setO m q (some ((W.vm n).disk sec.toNat)))
    | _ => (11, W)
def Bv.setDisk (v : Bv) (k : Nat) (l : List Int) : Bv := { v with disk := upd v.disk k l }
def Wd.save (W : Wd) (n : Nat) (sec p : Int) : Int × Wd :=
  if sec < 0 ∨ 3 < sec then (1, W)
  else if p < 0 ∨ 31 < p then (11, W)
  else match W.where_ n p.toNat with
    | some (m, q, _) => (0, W.setV n ((W.vm n).setDisk sec.toNat ((W.own m q).getD [])))
    | none => (11, W)
def Wd.nextKey (W : Wd) (n : Nat) : Int × Int × Wd := match (W.vm n).keys with
  | [] => (0, 2, W)
  | x :: l => (x, 0, W.setV n ((W.vm n).setKeys l))
def Wd.setAlarm (W : Wd) (n k : Nat) (w : Int) : Wd := { W with alarm := upd W.alarm n (upd (W.alarm n) k (some w)) }
def Seat.die (s : Seat) : Seat := { s with st := 2 }
def Wd.call (W : Wd) (n k : Nat) (c w1 w2 w3 : Int) : Int × Int × Wd :=
  if c = 0 then (0, 0, W.tell n ⟨3, k, w1 % 256, 0⟩)
  else if c = 1 then W.nextKey n
  else if c = 2 then ((0 : Int), W.ring n (small w1) (small w2))
  else if c = 3 then (0, 0, W.setAlarm n k w1)
  else if c = 4 then W.offer n (small w1) (small w2) (decide (w3 ≠ 0))
  else if 5 ≤ c ∧ c ≤ 7 then ((0 : Int), W.lease n c (small w1) (small w2))
  else if c = 8 then ((0 : Int), W.give n (small w1))
  else if c = 9 then ((0 : Int), W.get n (small w1))
  else if c = 10 then ((0 : Int), W.load n (small w1) (small w2))
  else if c = 11 then ((0 : Int), W.save n (small w1) (small w2))
  else if c = 12 then (n, 0, W)
  else if c = 13 then (0, 0, W.setV n ((W.vm n).setSeat k ((W.vm n).seat k).die))
  else (0, 1, W)
def told (x n : Int) (k : Int) (pc : Int) (s : Seat) : Evt := if x = 1 then ⟨4, k, n, pc⟩ else if x = 4 then ⟨5, k, n, pc⟩ else ⟨1, k, pc, s.sum⟩
def Seat.answer (s : Seat) (e v : Int) : Seat := (s.setr 0 e).setr 1 v
def Wd.putSeat (W : Wd) (n k : Nat) (s : Seat) : Wd := W.setV n ((W.vm n).setSeat k s)
def Wd.hyper (W : Wd) (n k : Nat) (c : Int) (s : Seat) : Wd :=
  let r := W.call n k c (s.r 1) (s.r 2) (s.r 3)
  (r.2.2.putSeat n k (((r.2.2.vm n).seat k).answer r.2.1 r.1)).tell n ⟨2, k, ior .u64 (x64 (c * 256)) r.2.1, r.1⟩
def Wd.run (W : Wd) (n k : Int) : Int × Wd :=
  if ¬ W.there n ∨ k < 0 ∨ (W.vm n.toNat).seats.length ≤ k then (2, W)
  else
    let s := (W.vm n.toNat).seat k.toNat
    let o := stepM s (W.gm n.toNat) (W.time n.toNat) k
    if o.k = 5 then (10, W)
    else
      let W2 := ((W.setDat o.g.dat).putSeat n.toNat k.toNat o.s).tell n.toNat (told o.k o.n k s.pc o.s)
      (0, if o.k = 2 then W2.hyper n.toNat k.toNat o.n o.s else W2)
end Go.Cr
end
section
namespace Go.Cr
open Go Go.Pt
def pk (form : Int) (f : Nat) (wr : Bool) : Int :=
  if form = 1 then 1 + 256 * f + (if wr = true then 2 else 0)
  else 9223372036854775808 + (65535 - f) + (if wr = true then 4611686018427387904 else 0)
theorem pk_w {form : Int} {f : Nat} (hf : f ≤ 65535) {wr : Bool} : W64 (pk form f wr) ∧ pk form f wr ≠ 0 := by
  unfold pk
  split <;> split <;> exact ⟨⟨by omega, by omega⟩, by omega⟩
end Go.Cr
end
