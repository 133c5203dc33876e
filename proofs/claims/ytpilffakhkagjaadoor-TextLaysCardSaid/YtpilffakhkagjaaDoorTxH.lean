/- Words of instructions: fields put together, and taken apart. -/
import Derived.Test.YtpilffakhkagjaaDoorTxG
namespace Go.Tx
open Go Go.Lib Go.Pt
theorem ofInt_nat (w n : Nat) : BitVec.ofInt w (n : Int) = BitVec.ofNat w n := by
  apply BitVec.eq_of_toNat_eq; simp
theorem iand_nat {a b : Nat} (ha : a < 18446744073709551616) (hb : b < 18446744073709551616) : iand .u64 a b = ((a &&& b : Nat) : Int) := by
  unfold iand
  show IntKind.u64.wrap ((BitVec.ofInt 64 (a : Int) &&& BitVec.ofInt 64 (b : Int)).toNat : Int) = _
  rw [ofInt_nat, ofInt_nat, BitVec.toNat_and, BitVec.toNat_ofNat, BitVec.toNat_ofNat, Nat.mod_eq_of_lt ha, Nat.mod_eq_of_lt hb]
  have : a &&& b ≤ a := Nat.and_le_left
  exact wu64 (by omega) (by omega)
theorem ior_nat {a b : Nat} (ha : a < 18446744073709551616) (hb : b < 18446744073709551616) : ior .u64 a b = ((a ||| b : Nat) : Int) := by
  unfold ior
  show IntKind.u64.wrap ((BitVec.ofInt 64 (a : Int) ||| BitVec.ofInt 64 (b : Int)).toNat : Int) = _
  rw [ofInt_nat, ofInt_nat, BitVec.toNat_or, BitVec.toNat_ofNat, BitVec.toNat_ofNat, Nat.mod_eq_of_lt ha, Nat.mod_eq_of_lt hb]
  have : a ||| b < 2 ^ 64 := Nat.or_lt_two_pow (by omega) (by omega)
  exact wu64 (by omega) (by omega)
theorem andn_of {x y : BitVec 64} (h : x &&& y = 0#64) : x &&& ~~~y = x := by
  apply BitVec.eq_of_getLsbD_eq
  intro i hi
  have h2 := congrArg (fun z => z.getLsbD i) h
  simp only [BitVec.getLsbD_and, BitVec.getLsbD_not, BitVec.getLsbD_zero] at h2 ⊢
  cases hx : x.getLsbD i <;> cases hy : y.getLsbD i <;> simp_all
theorem low_and {X j b : Nat} (hb : b < 2 ^ j) : (X * 2 ^ j) &&& b = 0 := by
  apply Nat.eq_of_testBit_eq
  intro i
  rw [Nat.testBit_and, Nat.zero_testBit, ← Nat.shiftLeft_eq, Nat.testBit_shiftLeft]
  by_cases hi : j ≤ i
  · have : b.testBit i = false := Nat.testBit_lt_two_pow (Nat.lt_of_lt_of_le hb (Nat.pow_le_pow_right (by decide) hi))
    rw [this]; simp
  · simp [hi]
theorem iandn_nat {a b : Nat} (ha : a < 18446744073709551616) (hb : b < 18446744073709551616) (h : a &&& b = 0) : iandn .u64 a b = (a : Int) := by
  unfold iandn
  show IntKind.u64.wrap ((BitVec.ofInt 64 (a : Int) &&& ~~~ BitVec.ofInt 64 (b : Int)).toNat : Int) = _
  rw [ofInt_nat, ofInt_nat, andn_of ?_]
  · rw [BitVec.toNat_ofNat, Nat.mod_eq_of_lt ha]
    exact wu64 (by omega) (by omega)
  · apply BitVec.eq_of_toNat_eq
    rw [BitVec.toNat_and, BitVec.toNat_ofNat, BitVec.toNat_ofNat, Nat.mod_eq_of_lt ha, Nat.mod_eq_of_lt hb, h]
    rfl
theorem or_add {X j b : Nat} (hb : b < 2 ^ j) : (X * 2 ^ j) ||| b = X * 2 ^ j + b := by
  rw [← Nat.shiftLeft_eq, Nat.shiftLeft_add_eq_or_of_lt hb]
/-- A word. -/
def wrd (k a b c n : Int) : Int := k * 67108864 + a * 4194304 + b * 262144 + (if fC (cls k) = true then c else n % 65536)
end Go.Tx
namespace Go.Proofs.YtpilffakhkagjaaDoor
open Go Go.Pt Go.RowKit Go.Lib Go.Tx
section
variable {S : Mem}
theorem ishl_nat {a s : Nat} (hs : s ≤ 63) (h : a * 2 ^ s < 18446744073709551616) : ishl .u64 (a : Int) (s : Int) = ((a * 2 ^ s : Nat) : Int) := by
  unfold ishl
  have e : min ((s : Int)).toNat IntKind.u64.bits = s := by
    show min ((s : Int)).toNat 64 = s
    simp; omega
  rw [e]
  have e2 : ((a : Int) * 2 ^ s) = ((a * 2 ^ s : Nat) : Int) := by push_cast; rfl
  rw [e2]
  exact wu64 (by omega) (by omega)
theorem ishr_nat {a s : Nat} (hs : s ≤ 63) : ishr .u64 (a : Int) (s : Int) = ((a / 2 ^ s : Nat) : Int) := by
  unfold ishr
  have e : min ((s : Int)).toNat IntKind.u64.bits = s := by
    show min ((s : Int)).toNat 64 = s
    simp; omega
  rw [e]
  have e2 : ((2 : Int) ^ s) = ((2 ^ s : Nat) : Int) := by push_cast; rfl
  rw [e2, Int.fdiv_eq_ediv_of_nonneg _ (Int.natCast_nonneg _)]
  exact (Int.natCast_ediv _ _).symm
theorem mask_nat {n : Nat} (h0 : 0 < n) (hn : n ≤ 63) : IntKind.u64.wrap (ishl .u64 1 (n : Int) - 1) = ((2 ^ n - 1 : Nat) : Int) := by
  have hp : 2 ^ n < 18446744073709551616 := Nat.lt_of_le_of_lt (Nat.pow_le_pow_right (by decide) hn) (by decide)
  have hp0 : 0 < 2 ^ n := Nat.two_pow_pos n
  have := ishl_nat (a := 1) hn (by rw [Nat.one_mul]; exact hp)
  rw [Nat.one_mul] at this
  rw [show ((1 : Nat) : Int) = 1 from rfl] at this
  rw [this, show ((2 ^ n : Nat) : Int) - 1 = ((2 ^ n - 1 : Nat) : Int) by omega]
  exact wu64 (by omega) (by omega)
/-- Bits that are noughts are put in. -/
theorem with_spec {w v X j : Nat} {at_ n : Nat} (hw : w = X * 2 ^ j) (hj : at_ + n ≤ j) (hj2 : j ≤ 63) (hn : 0 < n) (hv : v < 2 ^ n) (hw64 : w < 18446744073709551616) {Q : Int → Mem → Prop} (hQ : Q ((w + v * 2 ^ at_ : Nat) : Int) S) : word_With S (w : Int) at_ n (v : Int) Q := by
  apply t_word_With
  unfold b_word_With
  have hpn : 2 ^ n < 18446744073709551616 := Nat.lt_of_le_of_lt (Nat.pow_le_pow_right (by decide) (show n ≤ 63 by omega)) (by decide)
  have hpj : 2 ^ j < 18446744073709551616 := Nat.lt_of_le_of_lt (Nat.pow_le_pow_right (by decide) hj2) (by decide)
  have hp0 : 0 < 2 ^ n := Nat.two_pow_pos n
  have hpa : 0 < 2 ^ at_ := Nat.two_pow_pos at_
  have hmul : 2 ^ n * 2 ^ at_ ≤ 2 ^ j := by rw [← Nat.pow_add]; exact Nat.pow_le_pow_right (by decide) (by omega)
  have hm1 : (2 ^ n - 1) * 2 ^ at_ < 2 ^ j := Nat.lt_of_lt_of_le (Nat.mul_lt_mul_of_pos_right (by omega) hpa) hmul
  have hv1 : v * 2 ^ at_ < 2 ^ j := Nat.lt_of_lt_of_le (Nat.mul_lt_mul_of_pos_right hv hpa) hmul
  refine jn_cut (fun j => j S) ?_ fun j0 hj0 => by rw [if_neg (by omega), if_neg (by omega), if_neg (by omega)]; exact hj0
  refine jn_cut (fun j0 => j0 ((2 ^ n - 1 : Nat) : Int) S) ?_ fun j0 hj0 => ?_
  · refine ⟨by omega, by omega, ?_⟩
    rw [ishl_nat (by omega) (by omega), iandn_nat hw64 (by omega) (by rw [hw]; exact low_and hm1)]
    rw [iand_nat (by omega) (by omega), Nat.and_two_pow_sub_one_eq_mod, Nat.mod_eq_of_lt hv, ishl_nat (by omega) (by omega), ior_nat hw64 (by omega), hw, or_add hv1, ← hw]
    exact hQ
  · rw [if_pos (by omega)]
    refine ⟨by omega, ?_⟩
    rw [mask_nat hn (by omega)]
    exact hj0
theorem field_spec {w at_ n : Nat} (ha : at_ ≤ 63) (hn : 0 < n) (hn2 : n ≤ 63) (hw64 : w < 18446744073709551616) {Q : Int → Mem → Prop} (hQ : Q ((w / 2 ^ at_ % 2 ^ n : Nat) : Int) S) : word_Field S (w : Int) at_ n Q := by
  apply t_word_Field
  unfold b_word_Field
  have hpn : 2 ^ n < 18446744073709551616 := Nat.lt_of_le_of_lt (Nat.pow_le_pow_right (by decide) hn2) (by decide)
  refine jn_cut (fun j => j S) ?_ fun j0 hj0 => by rw [if_neg (by omega), if_neg (by omega), if_neg (by omega)]; exact hj0
  refine ⟨by omega, ?_⟩
  have hd : w / 2 ^ at_ ≤ w := Nat.div_le_self _ _
  rw [if_pos (by omega)]
  refine ⟨by omega, ?_⟩
  rw [mask_nat hn hn2, ishr_nat ha, iand_nat (by omega) (by omega), Nat.and_two_pow_sub_one_eq_mod]
  exact hQ
theorem natc {x : Int} (h : 0 ≤ x) : x = ((x.toNat : Nat) : Int) := by omega
theorem encode_spec {k a b c n : Int} (hb : Bd k a b c n) {Q : Int → Bool → Mem → Prop} (hY : Rt k a b c n → Q (wrd k a b c n) true S) (hN : ¬ Rt k a b c n → Q 0 false S) : code_Encode S (opL k a b c n) Q := by
  apply t_code_Encode
  unfold b_code_Encode
  refine ⟨rfl, ?_⟩
  refine jn_cut (fun j => Rt k a b c n → j S) ?_ fun j hj => ?_
  rotate_left
  · refine right_spec ?_
    by_cases hr : Rt k a b c n
    · rw [decide_eq_true hr, if_pos rfl]; exact hj hr
    · rw [decide_eq_false hr, if_neg (by decide)]; exact hN hr
  intro hr
  have h1 := hb.kk
  have h2 := hb.aa
  have h3 := hb.bb
  have h4 := hb.cc
  have h5 := hb.nn
  have hq := hY hr
  have hk := hr.kk
  have ha := hr.aa
  have hbb := hr.bb
  have hcc := hr.cc
  unfold regR at ha hbb hcc
  have g0 : nthL (opL k a b c n) 0 = some (.int .u8 k) := rfl
  have g1 : nthL (opL k a b c n) 1 = some (.int .u8 a) := rfl
  have g2 : nthL (opL k a b c n) 2 = some (.int .u8 b) := rfl
  have g3 : nthL (opL k a b c n) 3 = some (.int .u8 c) := rfl
  have g4 : nthL (opL k a b c n) 4 = some (.int .i16 n) := rfl
  generalize opL k a b c n = o at *
  obtain ⟨kk, hkk⟩ : ∃ m : Nat, k = m := ⟨k.toNat, by omega⟩
  obtain ⟨aa, haa⟩ : ∃ m : Nat, a = m := ⟨a.toNat, by omega⟩
  obtain ⟨bb, hbb'⟩ : ∃ m : Nat, b = m := ⟨b.toNat, by omega⟩
  obtain ⟨cc, hcc'⟩ : ∃ m : Nat, c = m := ⟨c.toNat, by omega⟩
  obtain ⟨nn, hnn⟩ : ∃ m : Nat, n % 65536 = m := ⟨(n % 65536).toNat, by omega⟩
  rw [gI_i g0, wu64 h1.1 (by omega), hkk]
  refine with_spec (w := 0) (v := kk) (X := 0) (j := 63) (at_ := 26) (n := 6) (by simp) (by decide) (by decide) (by decide) (by omega) (by decide) ?_
  rw [gI_i g1, wu64 h2.1 (by omega), haa]
  refine with_spec (v := aa) (X := kk) (j := 26) (at_ := 22) (n := 4) (by simp) (by decide) (by decide) (by decide) (by omega) (by omega) ?_
  rw [gI_i g2, wu64 h3.1 (by omega), hbb']
  refine with_spec (v := bb) (X := kk * 16 + aa) (j := 22) (at_ := 18) (n := 4) (by omega) (by decide) (by decide) (by decide) (by omega) (by omega) ?_
  refine jn_cut (fun j => fC (cls k) = false → j S) ?_ fun j hj => ?_
  · intro hf
    have hw16 : IntKind.u16.wrap n = n % 65536 := by simp [IntKind.wrap, IntKind.bits, IntKind.signed]
    rw [gI_i g4, hw16, wu64 (by omega) (by omega), hnn]
    refine with_spec (v := nn) (X := kk * 256 + aa * 16 + bb) (j := 18) (at_ := 0) (n := 16) (by omega) (by decide) (by decide) (by decide) (by omega) (by omega) ?_
    have e : IntKind.u32.wrap (((0 + kk * 2 ^ 26 + aa * 2 ^ 22 + bb * 2 ^ 18 + nn * 2 ^ 0 : Nat)) : Int) = wrd k a b c n := by
      rw [wu32 (by omega) (by omega)]
      unfold wrd
      rw [hf, if_neg (by decide)]
      omega
    rw [e]; exact hq
  · rw [gI_i g0]
    refine fields_spec ?_
    rw [gB_i (show nthL (kdL (cls k)) 2 = some (.bool (fC (cls k))) from rfl)]
    by_cases hf : fC (cls k) = true
    · rw [if_pos hf, gI_i g3, wu64 h4.1 (by omega), hcc']
      refine with_spec (v := cc) (X := kk * 256 + aa * 16 + bb) (j := 18) (at_ := 0) (n := 4) (by omega) (by decide) (by decide) (by decide) (by omega) (by omega) ?_
      have e : IntKind.u32.wrap (((0 + kk * 2 ^ 26 + aa * 2 ^ 22 + bb * 2 ^ 18 + cc * 2 ^ 0 : Nat)) : Int) = wrd k a b c n := by
        rw [wu32 (by omega) (by omega)]
        unfold wrd
        rw [if_pos hf]
        omega
      rw [e]; exact hq
    · rw [if_neg hf]; exact hj (by simpa using hf)
theorem wrd_bd {k a b c n : Int} (hb : Bd k a b c n) (hr : Rt k a b c n) : 0 ≤ wrd k a b c n ∧ wrd k a b c n < 1543503872 := by
  have h1 := hb.kk
  have h2 := hb.aa
  have h3 := hb.bb
  have h4 := hb.cc
  have hk := hr.kk
  have ha := hr.aa
  have hbb := hr.bb
  have hcc := hr.cc
  unfold regR at ha hbb hcc
  unfold wrd
  split <;> omega
theorem refWord_spec {k a b c n : Int} (hb : Bd k a b c n) (hr : Rt k a b c n) {Q : Int → Mem → Prop} (hQ : ∀ S', Keeps S S' [] → Q (wrd k a b c n) S') : hermitcrabref01_Word S k a b c n Q := by
  have h1 := hb.kk
  have h2 := hb.aa
  have h3 := hb.bb
  have h4 := hb.cc
  have hk := hr.kk
  have ha := hr.aa
  have hbb := hr.bb
  have hcc := hr.cc
  unfold regR at ha hbb hcc
  apply t_hermitcrabref01_Word
  unfold b_hermitcrabref01_Word
  refine refFields_spec h1.1 hk fun S' hk' => ?_
  have hq := hQ S' hk'
  have hm4 := cls_le k
  have ec : (Int.tmod (IntKind.i64.wrap (Int.tdiv (rf (cls k)) 4)) 2 = 1) ↔ fC (cls k) = true := by
    generalize cls k = m at *
    rcases m with _ | _ | _ | _ | _ | m <;> first | decide | omega
  have hw16 : IntKind.u16.wrap n = n % 65536 := by simp [IntKind.wrap, IntKind.bits, IntKind.signed]
  unfold wrd at hq
  rw [wu32 (x := k) (by omega) (by omega), wu32 (x := a) (by omega) (by omega), wu32 (x := b) (by omega) (by omega), wu32 (x := k * 67108864) (by omega) (by omega), wu32 (x := a * 4194304) (by omega) (by omega), wu32 (x := b * 262144) (by omega) (by omega), wu32 (x := k * 67108864 + a * 4194304) (by omega) (by omega), wu32 (x := k * 67108864 + a * 4194304 + b * 262144) (by omega) (by omega)]
  by_cases hf : fC (cls k) = true
  · rw [if_pos (ec.2 hf), wu32 (x := c) (by omega) (by omega), wu32 (by omega) (by omega)]
    rw [if_pos hf] at hq; exact hq
  · rw [if_neg (fun h => hf (ec.1 h)), hw16, wu32 (x := n % 65536) (by omega) (by omega), wu32 (by omega) (by omega)]
    rw [if_neg hf] at hq; exact hq
/-- What a word is taken apart into. -/
def dK (w : Int) : Int := w / 67108864 % 64
def dA (w : Int) : Int := w / 4194304 % 16
def dB (w : Int) : Int := w / 262144 % 16
def dC (w : Int) : Int := if fC (cls (dK w)) = true then w % 16 else 0
def dN (w : Int) : Int := if fC (cls (dK w)) = true then 0 else IntKind.i16.wrap (w % 65536)
theorem i16_bd (x : Int) : -32768 ≤ IntKind.i16.wrap x ∧ IntKind.i16.wrap x ≤ 32767 := by
  simp [IntKind.wrap, IntKind.bits, IntKind.signed]; omega
theorem d_bd (w : Int) : Bd (dK w) (dA w) (dB w) (dC w) (dN w) := by
  refine ⟨by unfold dK; omega, by unfold dA; omega, by unfold dB; omega, ?_, ?_⟩
  · unfold dC; split <;> omega
  · unfold dN; split
    · decide
    · exact i16_bd _
/-- Is a word an instruction? -/
def isW (w : Int) : Prop := Rt (dK w) (dA w) (dB w) (dC w) (dN w) ∧ wrd (dK w) (dA w) (dB w) (dC w) (dN w) = w
theorem decode_spec {w : Int} (h0 : 0 ≤ w) (h1 : w ≤ 4294967295) {Q : List Value → Bool → Mem → Prop} (hY : isW w → Q (opL (dK w) (dA w) (dB w) (dC w) (dN w)) true S) (hN : ¬ isW w → Q (opL 0 0 0 0 0) false S) : code_Decode S w Q := by
  apply t_code_Decode
  unfold b_code_Decode
  obtain ⟨m, rfl⟩ : ∃ m : Nat, w = m := ⟨w.toNat, by omega⟩
  rw [wu64 (x := (m : Int)) (by omega) (by omega)]
  refine field_spec (w := m) (at_ := 26) (n := 6) (by decide) (by decide) (by decide) (by omega) ?_
  refine field_spec (w := m) (at_ := 22) (n := 4) (by decide) (by decide) (by decide) (by omega) ?_
  refine field_spec (w := m) (at_ := 18) (n := 4) (by decide) (by decide) (by decide) (by omega) ?_
  have eK : IntKind.u8.wrap ((m / 2 ^ 26 % 2 ^ 6 : Nat) : Int) = dK m := by rw [wu8 (by omega) (by omega)]; unfold dK; omega
  have eA : IntKind.u8.wrap ((m / 2 ^ 22 % 2 ^ 4 : Nat) : Int) = dA m := by rw [wu8 (by omega) (by omega)]; unfold dA; omega
  have eB : IntKind.u8.wrap ((m / 2 ^ 18 % 2 ^ 4 : Nat) : Int) = dB m := by rw [wu8 (by omega) (by omega)]; unfold dB; omega
  rw [eK, eA, eB]
  refine jn_cut (fun j => j (opL (dK m) (dA m) (dB m) (dC m) (dN m)) S) ?_ fun j hj => ?_
  · refine ⟨rfl, ?_⟩
    refine encode_spec (d_bd m) (fun hr => ?_) fun hr => ?_
    · rw [if_pos rfl]
      by_cases he : wrd (dK m) (dA m) (dB m) (dC m) (dN m) = m
      · rw [if_neg (by simpa using he)]
        exact ⟨rfl, hY ⟨hr, he⟩⟩
      · rw [if_pos he]; exact hN fun h => he h.2
    · rw [if_neg (by decide)]; exact hN fun h => hr h.1
  · refine fields_spec ?_
    rw [gB_i (show nthL (kdL (cls (dK m))) 2 = some (.bool (fC (cls (dK m)))) from rfl)]
    by_cases hf : fC (cls (dK m)) = true
    · rw [if_pos hf]
      refine field_spec (w := m) (at_ := 0) (n := 4) (by decide) (by decide) (by decide) (by omega) ?_
      have eC : IntKind.u8.wrap ((m / 2 ^ 0 % 2 ^ 4 : Nat) : Int) = dC m := by rw [wu8 (by omega) (by omega)]; unfold dC; rw [if_pos hf]; omega
      have eN : dN m = 0 := by unfold dN; rw [if_pos hf]
      rw [eC]; rw [eN] at hj; exact hj
    · rw [if_neg hf]
      refine field_spec (w := m) (at_ := 0) (n := 16) (by decide) (by decide) (by decide) (by omega) ?_
      have eC : dC m = 0 := by unfold dC; rw [if_neg hf]
      have eN : IntKind.i16.wrap ((m / 2 ^ 0 % 2 ^ 16 : Nat) : Int) = dN m := by unfold dN; rw [if_neg hf]; congr 1; omega
      rw [eN]; rw [eC] at hj; exact hj
/-- An instruction that may be is taken apart into itself. -/
theorem wrd_is {k a b c n : Int} (hb : Bd k a b c n) (hr : Rt k a b c n) : isW (wrd k a b c n) ∧ dK (wrd k a b c n) = k ∧ dA (wrd k a b c n) = a ∧ dB (wrd k a b c n) = b ∧ dC (wrd k a b c n) = c ∧ dN (wrd k a b c n) = n := by
  have h1 := hb.kk
  have h2 := hb.aa
  have h3 := hb.bb
  have h4 := hb.cc
  have h5 := hb.nn
  have hk := hr.kk
  have ha := hr.aa
  have hbb := hr.bb
  have hcc := hr.cc
  unfold regR at ha hbb hcc
  have q : 0 ≤ (if fC (cls k) = true then c else n % 65536) ∧ (if fC (cls k) = true then c else n % 65536) < 65536 := by split <;> omega
  have eK : dK (wrd k a b c n) = k := by unfold dK wrd; omega
  have eA : dA (wrd k a b c n) = a := by unfold dA wrd; omega
  have eB : dB (wrd k a b c n) = b := by unfold dB wrd; omega
  have eC : dC (wrd k a b c n) = c := by
    unfold dC; rw [eK]
    by_cases hf : fC (cls k) = true
    · rw [if_pos hf]; unfold wrd; rw [if_pos hf]; omega
    · rw [if_neg hf]; simp only [hf] at hcc; simp at hcc; omega
  have eN : dN (wrd k a b c n) = n := by
    unfold dN; rw [eK]
    by_cases hf : fC (cls k) = true
    · rw [if_pos hf]
      have hfn : fN (cls k) = false := by
        have hm4 := cls_le k
        generalize cls k = m at *
        rcases m with _ | _ | _ | _ | _ | m <;> simp [fC, fN] at *
      rcases hr.nn with h | h
      · rw [hfn] at h; cases h
      · exact h.symm
    · rw [if_neg hf]
      have e : wrd k a b c n % 65536 = n % 65536 := by unfold wrd; rw [if_neg hf]; omega
      rw [e]
      simp [IntKind.wrap, IntKind.bits, IntKind.signed]
      omega
  refine ⟨⟨?_, ?_⟩, eK, eA, eB, eC, eN⟩
  · rw [eK, eA, eB, eC, eN]; exact hr
  · rw [eK, eA, eB, eC, eN]
end
end Go.Proofs.YtpilffakhkagjaaDoor
