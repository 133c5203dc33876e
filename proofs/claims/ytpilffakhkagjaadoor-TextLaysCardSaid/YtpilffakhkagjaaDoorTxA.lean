/- Texts of instructions, plainly: lists of bytes; split, trimmed, parsed. No program in sight. -/
import Derived.Lib.SplitLaws
import Derived.Lib.ParseIntB
import Derived.Lib.ItoaMem
import Derived.Lib.TrimByte
import Derived.KernelRfl
namespace Go.Tx
open Go.Lib
abbrev Bs := List UInt8
/-- Pieces, parted by a byte. -/
def joinC (c : UInt8) (p : Bs) (ps : List Bs) : Bs := p ++ ps.flatMap (fun q => c :: q)
theorem joinC_nil (c : UInt8) (p : Bs) : joinC c p [] = p := by simp [joinC]
theorem joinC_cons (c : UInt8) (p q : Bs) (ps : List Bs) : joinC c p (q :: ps) = p ++ c :: joinC c q ps := by simp [joinC]
theorem occ_one (s : Bs) (c : UInt8) (j : Nat) : occAt s [c] j = true ↔ s[j]? = some c := by
  unfold occAt
  cases h : s.drop j with
  | nil =>
    have : s[j]? = none := by rw [List.getElem?_eq_none_iff]; exact List.drop_eq_nil_iff.1 h
    simp [this, List.isPrefixOf]
  | cons x t =>
    have : s[j]? = some x := by
      have := congrArg (fun l => l[0]?) h
      simp only [List.getElem?_drop, Nat.add_zero, List.getElem?_cons_zero] at this
      exact this
    rw [this]
    simp only [List.isPrefixOf, Bool.and_true, beq_iff_eq, Option.some.injEq]
    exact eq_comm
theorem index_first_c {p rest : Bs} {c : UInt8} (hp : c ∉ p) : index (p ++ c :: rest) [c] = (p.length : Int) := by
  refine index_first (by simp) ((occ_one _ _ _).2 (by simp)) fun j hj => ?_
  rw [Bool.eq_false_iff]
  intro h
  have h2 := (occ_one _ _ _).1 h
  rw [List.getElem?_append_left hj] at h2
  exact hp (List.mem_of_getElem? h2)
theorem split_join (c : UInt8) : ∀ (ps : List Bs) (p : Bs), c ∉ p → (∀ q ∈ ps, c ∉ q) → splitK [c] 0 ps.length (joinC c p ps) = p :: ps
  | [], p, _, _ => by simp [splitK, joinC]
  | q :: ps, p, hp, hq => by
    rw [joinC_cons, List.length_cons, splitK]
    have hi := index_first_c (rest := joinC c q ps) hp
    rw [hi, if_neg (by simp)]
    simp only [Int.toNat_natCast, Nat.add_zero, List.length_singleton]
    rw [List.take_left' rfl, ← List.drop_drop, List.drop_left' rfl, List.drop_one, List.tail_cons, split_join c ps q (hq q (by simp)) fun x hx => hq x (by simp [hx])]
theorem count_join (c : UInt8) (ps : List Bs) (p : Bs) (hp : c ∉ p) (hq : ∀ q ∈ ps, c ∉ q) : count (joinC c p ps) [c] = ps.length := by
  rw [count_one]
  induction ps generalizing p with
  | nil => rw [joinC_nil]; exact List.count_eq_zero.2 hp
  | cons q ps ih =>
    rw [joinC_cons, List.count_append, List.count_cons_self, ih q (hq q (by simp)) fun x hx => hq x (by simp [hx]), List.count_eq_zero.2 hp, List.length_cons]
    omega
/-- A text of bytes. -/
def bt (l : Bs) : ByteArray := ⟨l.toArray⟩
@[simp] theorem bt_data (l : Bs) : (bt l).data.toList = l := rfl
theorem bt_inj {a b : Bs} (h : bt a = bt b) : a = b := by
  have := congrArg (·.data.toList) h
  simpa using this
theorem bt_append (a b : Bs) : bt a ++ bt b = bt (a ++ b) := by
  apply ByteArray.ext; simp [bt]
theorem bt_size (a : Bs) : (bt a).size = a.length := rfl
theorem bt_of (s : ByteArray) : bt s.data.toList = s := rfl
theorem splitB_join (c : UInt8) (p : Bs) (ps : List Bs) (hp : c ∉ p) (hq : ∀ q ∈ ps, c ∉ q) : countB (bt (joinC c p ps)) ⟨#[c]⟩ = ps.length ∧ splitB ⟨#[c]⟩ 0 (countB (bt (joinC c p ps)) ⟨#[c]⟩) (bt (joinC c p ps)) = (p :: ps).map bt := by
  have h1 : countB (bt (joinC c p ps)) ⟨#[c]⟩ = ps.length := count_join c ps p hp hq
  refine ⟨h1, ?_⟩
  rw [h1]
  have h2 := splitB_data ⟨#[c]⟩ 0 ps.length (bt (joinC c p ps))
  have h3 : splitK (ByteArray.mk #[c]).data.toList 0 ps.length (bt (joinC c p ps)).data.toList = p :: ps := split_join c ps p hp hq
  rw [h3] at h2
  have h4 := congrArg (List.map bt) h2
  rw [List.map_map] at h4
  rw [← h4]
  have : (bt ∘ fun x : ByteArray => x.data.toList) = id := by funext x; rfl
  rw [this, List.map_id]
/-! numbers -/
theorem dg_small (u : Nat) : 48 ≤ (UInt8.ofNat (48 + u % 10)).toNat ∧ (UInt8.ofNat (48 + u % 10)).toNat ≤ 57 ∧ (UInt8.ofNat (48 + u % 10)).toNat - 48 = u % 10 := by
  have : u % 10 < 10 := Nat.mod_lt _ (by decide)
  have e : (UInt8.ofNat (48 + u % 10)).toNat = 48 + u % 10 := by simp; omega
  omega
theorem digits_are (u : Nat) : ∀ b ∈ decDigits u, 48 ≤ b.toNat ∧ b.toNat ≤ 57 := by
  induction u using Nat.strongRecOn with
  | _ u ih =>
    intro b hb
    rw [decDigits] at hb
    split at hb
    · rename_i h
      rw [List.mem_singleton] at hb
      subst hb
      have := dg_small u
      rw [Nat.mod_eq_of_lt h] at this
      omega
    · rename_i h
      rcases List.mem_append.1 hb with hb | hb
      · exact ih (u / 10) (by omega) b hb
      · rw [List.mem_singleton] at hb
        subst hb
        have := dg_small u
        omega
theorem parseM_append (M : Nat) : ∀ (l r : Bs) (acc u : Nat), parseUintM M acc l = .ok u → parseUintM M acc (l ++ r) = parseUintM M u r
  | [], r, acc, u, h => by simp only [parseUintM, NumEnd.ok.injEq] at h; subst h; rfl
  | b :: l, r, acc, u, h => by
    simp only [parseUintM, List.cons_append] at h ⊢
    split at h
    · rename_i h1
      rw [if_pos h1]
      split at h
      · cases h
      · rename_i h2
        rw [if_neg h2]
        split at h
        · cases h
        · rename_i h3
          rw [if_neg h3]
          exact parseM_append M l r _ u h
    · cases h
theorem parse_digits (M : Nat) (hM : M < 18446744073709551615) (u : Nat) (h : u ≤ M) : parseUintM M 0 (decDigits u) = .ok u := by
  induction u using Nat.strongRecOn with
  | _ u ih =>
    rw [decDigits]
    have d := dg_small u
    split
    · rename_i h10
      rw [Nat.mod_eq_of_lt h10] at d
      simp only [parseUintM]
      rw [if_pos ⟨d.1, d.2.1⟩, if_neg (by omega), if_neg (by omega), d.2.2]
      simp
    · rename_i h10
      rw [parseM_append M _ _ 0 (u / 10) (ih (u / 10) (by omega) (by omega))]
      simp only [parseUintM]
      rw [if_pos ⟨d.1, d.2.1⟩, if_neg (by omega), d.2.2, if_neg (by omega)]
      congr 1
      omega
theorem digits_ne (u : Nat) : decDigits u ≠ [] := by
  rw [decDigits]; split <;> simp
theorem digits_head (u : Nat) : ∃ b r, decDigits u = b :: r ∧ 48 ≤ b.toNat ∧ b.toNat ≤ 57 := by
  cases h : decDigits u with
  | nil => exact absurd h (digits_ne u)
  | cons b r => exact ⟨b, r, rfl, digits_are u b (by rw [h]; simp)⟩
theorem parse_nat {u : Nat} (h : u ≤ 32767) : parseIntB 16 (decDigits u) = .ok (u : Int) := by
  obtain ⟨b, r, e, h1, h2⟩ := digits_head u
  have hp := parse_digits (2 ^ 16 - 1) (by decide) u (by omega)
  unfold parseIntB
  rw [e]
  simp only
  rw [if_neg (by omega), ← e]
  unfold parseUintB
  rw [if_neg (digits_ne u), hp]
  simp only
  rw [if_neg (by omega), if_neg (by omega), if_neg (by omega)]
theorem parse_itoa {n : Int} (h1 : -32768 ≤ n) (h2 : n ≤ 32767) : parseIntB 16 (itoa n) = .ok n := by
  unfold itoa
  by_cases hn : n < 0
  · rw [if_pos hn]
    have hp := parse_digits (2 ^ 16 - 1) (by decide) n.natAbs (by omega)
    unfold parseIntB
    simp only
    have e45 : (45 : UInt8).toNat = 45 := rfl
    rw [if_pos (Or.inr e45)]
    unfold parseUintB
    rw [if_neg (digits_ne _), hp]
    simp only
    rw [if_neg (by simp), if_neg (by omega), if_pos e45]
    congr 1
    omega
  · rw [if_neg hn, parse_nat (by omega)]
    congr 1
    omega
/-- No blank, no r, no semicolon in a number. -/
theorem itoa_signs (n : Int) : ∀ b ∈ itoa n, b = 45 ∨ (48 ≤ b.toNat ∧ b.toNat ≤ 57) := by
  unfold itoa
  split
  · intro b hb
    rcases List.mem_cons.1 hb with rfl | hb
    · exact .inl rfl
    · exact .inr (digits_are _ b hb)
  · intro b hb; exact .inr (digits_are _ b hb)
theorem itoa_no (n : Int) {c : UInt8} (hc : c ≠ 45) (h2 : c.toNat < 48 ∨ 57 < c.toNat) : c ∉ itoa n := fun h => by
  rcases itoa_signs n c h with h | h
  · exact hc h
  · omega
theorem itoa_head (n : Int) : ∃ b r, itoa n = b :: r ∧ (b = 45 ∨ (48 ≤ b.toNat ∧ b.toNat ≤ 57)) := by
  have hne : itoa n ≠ [] := by
    unfold itoa; split
    · simp
    · exact digits_ne _
  cases h : itoa n with
  | nil => exact absurd h hne
  | cons b r => exact ⟨b, r, rfl, itoa_signs n b (by rw [h]; simp)⟩
end Go.Tx
