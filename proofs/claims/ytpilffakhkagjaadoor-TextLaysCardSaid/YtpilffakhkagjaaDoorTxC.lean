/- Instructions, their fields, which may be; their texts. -/
import Derived.Test.YtpilffakhkagjaaDoorTxB
import Derived.Test.YtpilffakhkagjaaDoorPfA
namespace Go.Tx
open Go Go.Lib
/-- An operation's class: nothing; A and N; N; A, B and N; A, B and C. -/
def cls (c : Int) : Nat := if c = 0 ∨ c = 21 ∨ c = 22 then 0 else if c = 1 ∨ c = 2 ∨ c = 18 ∨ c = 19 then 1 else if c = 20 then 2 else if 11 ≤ c ∧ c ≤ 17 then 3 else 4
theorem cls_le (c : Int) : cls c ≤ 4 := by unfold cls; repeat' split <;> try omega
def fA : Nat → Bool | 1 | 3 | 4 => true | _ => false
def fB : Nat → Bool | 3 | 4 => true | _ => false
def fC : Nat → Bool | 4 => true | _ => false
def fN : Nat → Bool | 1 | 2 | 3 => true | _ => false
def kdL (m : Nat) : List Value := [.bool (fA m), .bool (fB m), .bool (fC m), .bool (fN m)]
def partsL : Nat → Bs | 0 => [] | 1 => [97, 110] | 2 => [110] | 3 => [97, 98, 110] | _ => [97, 98, 99]
def rf : Nat → Int | 0 => 0 | 1 => 9 | 2 => 8 | 3 => 11 | _ => 7
def regR (f : Bool) (r : Int) : Prop := r = 0 ∨ (f = true ∧ r < 16)
/-- May it be? -/
structure Rt (k a b c n : Int) : Prop where
  kk : k < 23
  aa : regR (fA (cls k)) a
  bb : regR (fB (cls k)) b
  cc : regR (fC (cls k)) c
  nn : fN (cls k) = true ∨ n = 0
  rw : k = 18 ∨ k = 19 → 0 ≤ n ∧ n < 9
instance (f : Bool) (r : Int) : Decidable (regR f r) := by unfold regR; infer_instance
instance (k a b c n : Int) : Decidable (Rt k a b c n) :=
  decidable_of_iff (k < 23 ∧ regR (fA (cls k)) a ∧ regR (fB (cls k)) b ∧ regR (fC (cls k)) c ∧ (fN (cls k) = true ∨ n = 0) ∧ (k = 18 ∨ k = 19 → 0 ≤ n ∧ n < 9))
    ⟨fun ⟨h1, h2, h3, h4, h5, h6⟩ => ⟨h1, h2, h3, h4, h5, h6⟩, fun h => ⟨h.kk, h.aa, h.bb, h.cc, h.nn, h.rw⟩⟩
/-- The fields are bytes, and a short. -/
structure Bd (k a b c n : Int) : Prop where
  kk : 0 ≤ k ∧ k ≤ 255
  aa : 0 ≤ a ∧ a ≤ 255
  bb : 0 ≤ b ∧ b ≤ 255
  cc : 0 ≤ c ∧ c ≤ 255
  nn : -32768 ≤ n ∧ n ≤ 32767
def opL (k a b c n : Int) : List Value := [.int .u8 k, .int .u8 a, .int .u8 b, .int .u8 c, .int .i16 n]
/-- The names. -/
def nms : List Bs := [[110, 111, 112], [108, 105], [108, 117], [97, 100, 100], [115, 117, 98], [109, 117, 108], [97, 110, 100], [111, 114], [120, 111, 114], [115, 104, 108], [115, 104, 114], [97, 100, 100, 105], [108, 100], [115, 116], [98, 101, 113], [98, 110, 101], [98, 108, 116], [106, 97, 108], [114, 100], [119, 114], [104, 118, 99], [119, 102, 105], [114, 101, 116]]
def nm (k : Int) : Bs := (nms[k.toNat]?).getD []
def rg (r : Int) : Bs := 114 :: itoa r
def piecesL (k a b c n : Int) : List Bs := match cls k with
  | 0 => []
  | 1 => [rg a, itoa n]
  | 2 => [itoa n]
  | 3 => [rg a, rg b, itoa n]
  | _ => [rg a, rg b, rg c]
/-- An instruction's text. -/
def txt (k a b c n : Int) : Bs := joinC 32 (nm k) (piecesL k a b c n)
def namesL : List Value := nms.map fun l => Value.string (bt l)
end Go.Tx
namespace Go.Proofs.YtpilffakhkagjaaDoor
open Go Go.Pt Go.RowKit Go.Lib Go.Tx
/-- What the program's variables hold. -/
structure Gl (S : Mem) : Prop where
  names : ∃ t fr, S 0 = some ⟨t, namesL, fr⟩
  pow : ∃ t fr, S 3 = some ⟨t, pow10, fr⟩
  mx : ∃ m t fr cs, S 4 = some ⟨t, .int .i64 m :: cs, fr⟩
theorem Gl.keep {S S' : Mem} {W : List Nat} (h : Gl S) (hk : Keeps S S' W) (h0 : 0 ∉ W) (h3 : 3 ∉ W) (h4 : 4 ∉ W) : Gl S' := by
  obtain ⟨t, fr, h1⟩ := h.names
  obtain ⟨t2, fr2, h2⟩ := h.pow
  obtain ⟨m, t5, fr5, cs, h5⟩ := h.mx
  exact ⟨⟨t, fr, hk.get h1 h0⟩, ⟨t2, fr2, hk.get h2 h3⟩, ⟨m, t5, fr5, cs, hk.get h5 h4⟩⟩
theorem Gl.name {S : Mem} (h : Gl S) {k : Int} (h0 : 0 ≤ k) (h1 : k < 23) : S.cell 0 (0 + k.toNat * 1) = some (.string (bt (nm k))) := by
  obtain ⟨t, fr, hn⟩ := h.names
  rw [cell_of hn, nthL_eq]
  simp only [Nat.zero_add, Nat.mul_one, namesL, List.getElem?_map, nm]
  have : k.toNat < nms.length := by simp [nms]; omega
  rw [List.getElem?_eq_getElem this]; rfl
section
variable {S : Mem}
theorem fields_spec {c : Int} {Q : List Value → Mem → Prop} (hQ : Q (kdL (cls c)) S) : code_fields S c Q := by
  apply t_code_fields
  unfold b_code_fields
  simp only [jn, if_true, Bool.false_eq_true, if_false]
  have key : ∀ m, cls c = m → Q (kdL m) S := fun m h => by rw [← h]; exact hQ
  by_cases h0 : c = 0
  · rw [if_pos h0]; exact key 0 (by unfold cls; rw [if_pos (by omega)])
  rw [if_neg h0]
  by_cases h21 : c = 21
  · rw [if_pos h21]; exact key 0 (by unfold cls; rw [if_pos (by omega)])
  rw [if_neg h21]
  by_cases h22 : c = 22
  · rw [if_pos h22]; exact key 0 (by unfold cls; rw [if_pos (by omega)])
  rw [if_neg h22]
  by_cases h1 : c = 1
  · rw [if_pos h1]; exact key 1 (by unfold cls; rw [if_neg (by omega), if_pos (by omega)])
  rw [if_neg h1]
  by_cases h2 : c = 2
  · rw [if_pos h2]; exact key 1 (by unfold cls; rw [if_neg (by omega), if_pos (by omega)])
  rw [if_neg h2]
  by_cases h18 : c = 18
  · rw [if_pos h18]; exact key 1 (by unfold cls; rw [if_neg (by omega), if_pos (by omega)])
  rw [if_neg h18]
  by_cases h19 : c = 19
  · rw [if_pos h19]; exact key 1 (by unfold cls; rw [if_neg (by omega), if_pos (by omega)])
  rw [if_neg h19]
  by_cases h20 : c = 20
  · rw [if_pos h20]; exact key 2 (by unfold cls; rw [if_neg (by omega), if_neg (by omega), if_pos (by omega)])
  rw [if_neg h20]
  by_cases h11 : c = 11
  · rw [if_pos h11]; exact key 3 (by unfold cls; rw [if_neg (by omega), if_neg (by omega), if_neg (by omega), if_pos (by omega)])
  rw [if_neg h11]
  by_cases h12 : c = 12
  · rw [if_pos h12]; exact key 3 (by unfold cls; rw [if_neg (by omega), if_neg (by omega), if_neg (by omega), if_pos (by omega)])
  rw [if_neg h12]
  by_cases h13 : c = 13
  · rw [if_pos h13]; exact key 3 (by unfold cls; rw [if_neg (by omega), if_neg (by omega), if_neg (by omega), if_pos (by omega)])
  rw [if_neg h13]
  by_cases h14 : c = 14
  · rw [if_pos h14]; exact key 3 (by unfold cls; rw [if_neg (by omega), if_neg (by omega), if_neg (by omega), if_pos (by omega)])
  rw [if_neg h14]
  by_cases h15 : c = 15
  · rw [if_pos h15]; exact key 3 (by unfold cls; rw [if_neg (by omega), if_neg (by omega), if_neg (by omega), if_pos (by omega)])
  rw [if_neg h15]
  by_cases h16 : c = 16
  · rw [if_pos h16]; exact key 3 (by unfold cls; rw [if_neg (by omega), if_neg (by omega), if_neg (by omega), if_pos (by omega)])
  rw [if_neg h16]
  by_cases h17 : c = 17
  · rw [if_pos h17]; exact key 3 (by unfold cls; rw [if_neg (by omega), if_neg (by omega), if_neg (by omega), if_pos (by omega)])
  rw [if_neg h17]
  exact ⟨rfl, key 4 (by unfold cls; rw [if_neg (by omega), if_neg (by omega), if_neg (by omega), if_neg (by omega)])⟩
theorem parts_spec {c : Int} {Q : ByteArray → Mem → Prop} (hQ : Q (bt (partsL (cls c))) S) : text_parts S c Q := by
  apply t_text_parts
  unfold b_text_parts
  simp only [jn, if_true, Bool.false_eq_true, if_false]
  have key : ∀ m, cls c = m → Q (bt (partsL m)) S := fun m h => by rw [← h]; exact hQ
  by_cases h0 : c = 0
  · rw [if_pos h0]; exact key 0 (by unfold cls; rw [if_pos (by omega)])
  rw [if_neg h0]
  by_cases h21 : c = 21
  · rw [if_pos h21]; exact key 0 (by unfold cls; rw [if_pos (by omega)])
  rw [if_neg h21]
  by_cases h22 : c = 22
  · rw [if_pos h22]; exact key 0 (by unfold cls; rw [if_pos (by omega)])
  rw [if_neg h22]
  by_cases h1 : c = 1
  · rw [if_pos h1]; exact key 1 (by unfold cls; rw [if_neg (by omega), if_pos (by omega)])
  rw [if_neg h1]
  by_cases h2 : c = 2
  · rw [if_pos h2]; exact key 1 (by unfold cls; rw [if_neg (by omega), if_pos (by omega)])
  rw [if_neg h2]
  by_cases h18 : c = 18
  · rw [if_pos h18]; exact key 1 (by unfold cls; rw [if_neg (by omega), if_pos (by omega)])
  rw [if_neg h18]
  by_cases h19 : c = 19
  · rw [if_pos h19]; exact key 1 (by unfold cls; rw [if_neg (by omega), if_pos (by omega)])
  rw [if_neg h19]
  by_cases h20 : c = 20
  · rw [if_pos h20]; exact key 2 (by unfold cls; rw [if_neg (by omega), if_neg (by omega), if_pos (by omega)])
  rw [if_neg h20]
  by_cases h11 : c = 11
  · rw [if_pos h11]; exact key 3 (by unfold cls; rw [if_neg (by omega), if_neg (by omega), if_neg (by omega), if_pos (by omega)])
  rw [if_neg h11]
  by_cases h12 : c = 12
  · rw [if_pos h12]; exact key 3 (by unfold cls; rw [if_neg (by omega), if_neg (by omega), if_neg (by omega), if_pos (by omega)])
  rw [if_neg h12]
  by_cases h13 : c = 13
  · rw [if_pos h13]; exact key 3 (by unfold cls; rw [if_neg (by omega), if_neg (by omega), if_neg (by omega), if_pos (by omega)])
  rw [if_neg h13]
  by_cases h14 : c = 14
  · rw [if_pos h14]; exact key 3 (by unfold cls; rw [if_neg (by omega), if_neg (by omega), if_neg (by omega), if_pos (by omega)])
  rw [if_neg h14]
  by_cases h15 : c = 15
  · rw [if_pos h15]; exact key 3 (by unfold cls; rw [if_neg (by omega), if_neg (by omega), if_neg (by omega), if_pos (by omega)])
  rw [if_neg h15]
  by_cases h16 : c = 16
  · rw [if_pos h16]; exact key 3 (by unfold cls; rw [if_neg (by omega), if_neg (by omega), if_neg (by omega), if_pos (by omega)])
  rw [if_neg h16]
  by_cases h17 : c = 17
  · rw [if_pos h17]; exact key 3 (by unfold cls; rw [if_neg (by omega), if_neg (by omega), if_neg (by omega), if_pos (by omega)])
  rw [if_neg h17]
  exact key 4 (by unfold cls; rw [if_neg (by omega), if_neg (by omega), if_neg (by omega), if_neg (by omega)])
theorem refFields_spec {c : Int} (h0 : 0 ≤ c) (h1 : c < 23) {Q : Int → Mem → Prop} (hQ : ∀ S', Keeps S S' [] → Q (rf (cls c)) S') : hermitcrabref01_Fields S c Q := by
  apply t_hermitcrabref01_Fields
  unfold b_hermitcrabref01_Fields
  intro b hb
  refine ⟨h0, h1, ?_⟩
  have hq := hQ (S.set b (bw 3 ([.int .i64 0, .int .i64 9, .int .i64 9, .int .i64 7, .int .i64 7, .int .i64 7, .int .i64 7, .int .i64 7, .int .i64 7, .int .i64 7, .int .i64 7, .int .i64 11, .int .i64 11, .int .i64 11, .int .i64 11, .int .i64 11, .int .i64 11, .int .i64 11, .int .i64 9, .int .i64 9, .int .i64 8, .int .i64 0, .int .i64 0]))) (Keeps.refl.new hb)
  rw [gI_i (n := rf (cls c)) ?_]
  · exact hq
  · rw [cell_of set_same]
    have : ∀ i : Fin 23, nthL ([.int .i64 0, .int .i64 9, .int .i64 9, .int .i64 7, .int .i64 7, .int .i64 7, .int .i64 7, .int .i64 7, .int .i64 7, .int .i64 7, .int .i64 7, .int .i64 11, .int .i64 11, .int .i64 11, .int .i64 11, .int .i64 11, .int .i64 11, .int .i64 11, .int .i64 9, .int .i64 9, .int .i64 8, .int .i64 0, .int .i64 0] : List Value) (0 + i.1 * 1) = some (.int .i64 (rf (cls (i.1 : Int)))) := by
      rintro ⟨i, hi⟩
      match i, hi with
      | 0, _ => rfl
      | 1, _ => rfl
      | 2, _ => rfl
      | 3, _ => rfl
      | 4, _ => rfl
      | 5, _ => rfl
      | 6, _ => rfl
      | 7, _ => rfl
      | 8, _ => rfl
      | 9, _ => rfl
      | 10, _ => rfl
      | 11, _ => rfl
      | 12, _ => rfl
      | 13, _ => rfl
      | 14, _ => rfl
      | 15, _ => rfl
      | 16, _ => rfl
      | 17, _ => rfl
      | 18, _ => rfl
      | 19, _ => rfl
      | 20, _ => rfl
      | 21, _ => rfl
      | 22, _ => rfl
      | n + 23, h => exact absurd h (by omega)
    have h2 := this ⟨c.toNat, by omega⟩
    rw [show ((⟨c.toNat, by omega⟩ : Fin 23).1 : Int) = c by simp; omega] at h2
    exact h2
theorem refName_spec {c : Int} (h0 : 0 ≤ c) (h1 : c < 23) {Q : ByteArray → Mem → Prop} (hQ : ∀ S', Keeps S S' [] → Q (bt (nm c)) S') : hermitcrabref01_Name S c Q := by
  apply t_hermitcrabref01_Name
  unfold b_hermitcrabref01_Name
  intro b hb
  refine ⟨h0, h1, ?_⟩
  have hq := hQ _ (Keeps.refl.new (k := bw 9 namesL) hb)
  rw [gS_i (n := bt (nm c)) ?_]
  · exact hq
  · rw [cell_of set_same]
    show nthL namesL _ = _
    rw [nthL_eq]
    simp only [Nat.zero_add, Nat.mul_one, namesL, List.getElem?_map, nm]
    have : c.toNat < nms.length := by simp [nms]; omega
    rw [List.getElem?_eq_getElem this]; rfl
theorem one_spec {f : Bool} {r : Int} {Q : Bool → Mem → Prop} (hQ : Q (decide (regR f r)) S) : code_Right_f1 S f r Q := by
  apply t_code_Right_f1
  unfold b_code_Right_f1
  unfold regR at hQ
  by_cases h : r = 0
  · rw [if_pos h]; simp only [h, true_or, decide_true] at hQ; exact hQ
  · rw [if_neg h]
    cases f with
    | true => rw [if_pos rfl]; simpa [h] using hQ
    | false => rw [if_neg (by decide)]; simpa [h] using hQ
end
end Go.Proofs.YtpilffakhkagjaaDoor
