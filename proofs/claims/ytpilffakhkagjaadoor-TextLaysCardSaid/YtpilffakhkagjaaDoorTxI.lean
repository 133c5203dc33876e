/- List: bytes as lines. -/
import Derived.Test.YtpilffakhkagjaaDoorTxH
namespace Go.Tx
open Go Go.Lib Go.Pt
theorem ior32_nat {a b : Nat} (ha : a < 4294967296) (hb : b < 4294967296) : ior .u32 a b = ((a ||| b : Nat) : Int) := by
  unfold ior
  show IntKind.u32.wrap ((BitVec.ofInt 32 (a : Int) ||| BitVec.ofInt 32 (b : Int)).toNat : Int) = _
  rw [ofInt_nat, ofInt_nat, BitVec.toNat_or, BitVec.toNat_ofNat, BitVec.toNat_ofNat, Nat.mod_eq_of_lt ha, Nat.mod_eq_of_lt hb]
  have : a ||| b < 2 ^ 32 := Nat.or_lt_two_pow (by omega) (by omega)
  exact wu32 (by omega) (by omega)
theorem ishl32_nat {a s : Nat} (hs : s ≤ 31) (h : a * 2 ^ s < 4294967296) : ishl .u32 (a : Int) (s : Int) = ((a * 2 ^ s : Nat) : Int) := by
  unfold ishl
  have e : min ((s : Int)).toNat IntKind.u32.bits = s := by
    show min ((s : Int)).toNat 32 = s
    simp; omega
  rw [e]
  have e2 : ((a : Int) * 2 ^ s) = ((a * 2 ^ s : Nat) : Int) := by push_cast; rfl
  rw [e2]
  exact wu32 (by omega) (by omega)
theorem ishr32_nat {a s : Nat} (hs : s ≤ 31) : ishr .u32 (a : Int) (s : Int) = ((a / 2 ^ s : Nat) : Int) := by
  unfold ishr
  have e : min ((s : Int)).toNat IntKind.u32.bits = s := by
    show min ((s : Int)).toNat 32 = s
    simp; omega
  rw [e]
  have e2 : ((2 : Int) ^ s) = ((2 ^ s : Nat) : Int) := by push_cast; rfl
  rw [e2, Int.fdiv_eq_ediv_of_nonneg _ (Int.natCast_nonneg _)]
  exact (Int.natCast_ediv _ _).symm
theorem or_low {a b j : Nat} (ha : a < 2 ^ j) : a ||| (b * 2 ^ j) = a + b * 2 ^ j := by
  rw [Nat.or_comm, or_add ha, Nat.add_comm]
/-- Four bytes as a word. -/
def word4 (x0 x1 x2 x3 : Int) : Int := x0 + x1 * 256 + x2 * 65536 + x3 * 16777216
theorem word4_eq {x0 x1 x2 x3 : Int} (h0 : 0 ≤ x0 ∧ x0 ≤ 255) (h1 : 0 ≤ x1 ∧ x1 ≤ 255) (h2 : 0 ≤ x2 ∧ x2 ≤ 255) (h3 : 0 ≤ x3 ∧ x3 ≤ 255) :
    ior .u32 (ior .u32 (ior .u32 (IntKind.u32.wrap x0) (ishl .u32 (IntKind.u32.wrap x1) 8)) (ishl .u32 (IntKind.u32.wrap x2) 16)) (ishl .u32 (IntKind.u32.wrap x3) 24) = word4 x0 x1 x2 x3 := by
  rw [wu32 (x := x0) h0.1 (by omega), wu32 (x := x1) h1.1 (by omega), wu32 (x := x2) h2.1 (by omega), wu32 (x := x3) h3.1 (by omega)]
  obtain ⟨a, ha⟩ : ∃ m : Nat, x0 = m := ⟨x0.toNat, by omega⟩
  obtain ⟨b, hb⟩ : ∃ m : Nat, x1 = m := ⟨x1.toNat, by omega⟩
  obtain ⟨c, hc⟩ : ∃ m : Nat, x2 = m := ⟨x2.toNat, by omega⟩
  obtain ⟨d, hd⟩ : ∃ m : Nat, x3 = m := ⟨x3.toNat, by omega⟩
  subst ha; subst hb; subst hc; subst hd
  have e8 := ishl32_nat (a := b) (s := 8) (by decide) (by omega)
  have e16 := ishl32_nat (a := c) (s := 16) (by decide) (by omega)
  have e24 := ishl32_nat (a := d) (s := 24) (by decide) (by omega)
  rw [show ((8 : Nat) : Int) = 8 from rfl] at e8
  rw [show ((16 : Nat) : Int) = 16 from rfl] at e16
  rw [show ((24 : Nat) : Int) = 24 from rfl] at e24
  rw [e8, e16, e24, ior32_nat (by omega) (by omega), or_low (by omega), ior32_nat (by omega) (by omega), or_low (by omega), ior32_nat (by omega) (by omega), or_low (by omega)]
  unfold word4
  omega
end Go.Tx
namespace Go.Proofs.YtpilffakhkagjaaDoor
open Go Go.Pt Go.RowKit Go.Lib Go.Tx
instance (w : Int) : Decidable (isW w) := by unfold isW; infer_instance
/-- A word's line. -/
def tw (w : Int) : Bs := if isW w then txt (dK w) (dA w) (dB w) (dC w) (dN w) else [63]
def wAt (xs : List Int) (i : Nat) : Int := word4 (xs.getD (4 * i) 0) (xs.getD (4 * i + 1) 0) (xs.getD (4 * i + 2) 0) (xs.getD (4 * i + 3) 0)
def linesC (xs : List Int) (m : Nat) : List Value := (List.range m).map fun i => Value.string (bt (tw (wAt xs i)))
/-- These are a slice's bytes. -/
structure By (S : Mem) (p : Sl) (xs : List Int) : Prop where
  len : xs.length = p.n
  cap : p.n ≤ p.c
  bd : ∀ x ∈ xs, 0 ≤ x ∧ x ≤ 255
  lie : p.n = 0 ∨ ∃ b o, p.p = some (b, o) ∧ ∀ i (h : i < xs.length), S.cell b (o + i) = some (.int .u8 xs[i])
theorem By.keep {S S' : Mem} {p : Sl} {xs : List Int} (h : By S p xs) (hk : Keeps S S' []) : By S' p xs :=
  ⟨h.len, h.cap, h.bd, h.lie.imp id fun ⟨b, o, h1, h2⟩ => ⟨b, o, h1, fun i hi => by
    have h3 := h2 i hi
    obtain ⟨k, h4, h5⟩ := cell_e h3
    rw [cell_of (hk.get h4 (by simp))]; exact h5⟩⟩
theorem getD_bd {xs : List Int} (h : ∀ x ∈ xs, 0 ≤ x ∧ x ≤ 255) (i : Nat) : 0 ≤ xs.getD i 0 ∧ xs.getD i 0 ≤ 255 := by
  rw [List.getD_eq_getElem?_getD]
  cases hx : xs[i]? with
  | none => simp
  | some v => exact h v (List.mem_of_getElem? hx)
section
variable {S : Mem}
theorem wAt_bd {xs : List Int} (h : ∀ x ∈ xs, 0 ≤ x ∧ x ≤ 255) (i : Nat) : 0 ≤ wAt xs i ∧ wAt xs i ≤ 4294967295 := by
  have h0 := getD_bd h (4 * i)
  have h1 := getD_bd h (4 * i + 1)
  have h2 := getD_bd h (4 * i + 2)
  have h3 := getD_bd h (4 * i + 3)
  unfold wAt word4
  omega
theorem list_spec {p : Sl} {xs : List Int} (hg : Gl S) (hp : By S p xs) (hl : p.n ≤ 100) {Q : Sl → Mem → Prop}
    (hQ : ∀ s' S', Keeps S S' [] → (∀ x o, s'.p = some (x, o) → S x = none) → s'.n = p.n / 4 → Row S' 1 s' (linesC xs (p.n / 4)) → Q s' S') : text_List S p Q := by
  apply t_text_List
  unfold b_text_List
  refine jn_cut (fun j => ∀ s' S', Keeps S S' [] → (∀ x o, s'.p = some (x, o) → S x = none) → s'.n = p.n / 4 → Row S' 1 s' (linesC xs (p.n / 4)) → j s' S') hQ fun Jx hJx => ?_
  refine lp_rule (fun (z : Sl × Sl) S' => ∃ (i : Nat) (q l : Sl), z = (q, l) ∧ 4 * i ≤ p.n ∧ q.n = p.n - 4 * i ∧ q.c = p.c - 4 * i ∧ (q.n ≠ 0 → ∃ b o, p.p = some (b, o) ∧ q.p = some (b, o + 4 * i)) ∧ Keeps S S' [] ∧ (∀ x o, l.p = some (x, o) → S x = none) ∧ l.n = i ∧ Row S' 1 l (linesC xs i)) (fun z => z.1.n) ?_
    ⟨0, p, ⟨none, 0, 0⟩, rfl, by omega, by omega, by omega, fun h => ?_, Keeps.refl, (fun x o h => by cases h), rfl, Row.nil⟩
  rotate_left
  · rcases hp.lie with h1 | ⟨b, o, h1, _⟩
    · exact absurd h1 h
    · exact ⟨b, o, h1, h1⟩
  rintro X z S' ⟨i, q, l, rfl, hi, hqn, hqc, hqp, hk, hlf, hln, hrow⟩ ih
  dsimp only at ih ⊢
  have hcap := hp.cap
  have hlen := hp.len
  refine jn_cut (fun j => 4 ≤ q.n → j S') ?_ fun j hj => ?_
  rotate_left
  · by_cases h4 : 4 ≤ (q.n : Int)
    · rw [if_pos h4]; exact hj (by omega)
    · rw [if_neg h4]
      have e : i = p.n / 4 := by omega
      subst e
      exact hJx l S' hk hlf hln hrow
  intro h4
  obtain ⟨b, o, hpp, hqp'⟩ := hqp (by omega)
  have hcell : ∀ j, j < p.n → S'.cell b (o + j) = some (.int .u8 (xs.getD j 0)) := fun j hj => by
    rcases hp.lie with h1 | ⟨b2, o2, h1, h2⟩
    · omega
    · rw [hpp] at h1; cases h1
      have h3 := h2 j (by omega)
      obtain ⟨kk, h5, h6⟩ := cell_e h3
      rw [cell_of (hk.get h5 (by simp)), h6, List.getD_eq_getElem?_getD, List.getElem?_eq_getElem (by omega)]; rfl
  have c0 := hcell (4 * i) (by omega)
  have c1 := hcell (4 * i + 1) (by omega)
  have c2 := hcell (4 * i + 2) (by omega)
  have c3 := hcell (4 * i + 3) (by omega)
  rw [← Nat.add_assoc] at c1 c2 c3
  obtain ⟨qp, qn, qc⟩ := q
  simp only at hqn hqc hqp' h4 ih
  subst hqp'
  -- the rest of a round: with this line
  refine jn_cut (fun j => ∀ l' S2, Keeps S S2 [] → (∀ x o, l'.p = some (x, o) → S x = none) → l'.n = i + 1 → Row S2 1 l' (linesC xs (i + 1)) → j l' S2) ?_ fun J1 hJ1 => ?_
  · intro l' S2 hk2 hf2 hn2 hr2
    refine ⟨by decide, by show (4 : Int) ≤ (qn : Int); omega, by show (qn : Int) ≤ (qc : Int); omega, ?_⟩
    refine ih _ S2 ⟨i + 1, _, l', rfl, by omega, ?_, ?_, ?_, hk2, hf2, hn2, hr2⟩ ?_
    · simp only [slc]; omega
    · simp only [slc]; omega
    · intro hne
      refine ⟨b, o, hpp, ?_⟩
      simp only [slc] at hne ⊢
      rw [if_neg (by omega)]
      simp only [Option.map_some]
      congr 2
    · simp only [slc]; omega
  rw [sl_i]
  have bd := getD_bd hp.bd
  refine ⟨by omega, ?_⟩
  rw [gI_i c0]
  refine ⟨by omega, ?_⟩
  rw [gI_i c1]
  refine ⟨by omega, ?_⟩
  rw [gI_i c2]
  refine ⟨by omega, ?_⟩
  rw [gI_i c3, word4_eq (bd _) (bd _) (bd _) (bd _)]
  have hw := wAt_bd hp.bd i
  have hg' := hg.keep hk (by simp) (by simp) (by simp)
  have step : ∀ {K : Sl → Mem → Prop}, (∀ l' S2, Keeps S S2 [] → (∀ x o, l'.p = some (x, o) → S x = none) → l'.n = i + 1 → Row S2 1 l' (linesC xs (i + 1)) → K l' S2) → ap S' 9 1 16 [.string ⟨#[]⟩] l 1 [.string (bt (tw (wAt xs i)))] K := fun {K} hK => by
    refine ap_row hrow rfl (by decide) rfl (by omega) fun s2 S2 c kb e1 e2 e3 e4 e5 => ?_
    have hc : S c = none := by
      rcases e3 with e3 | e3
      · exact hlf c 0 e3
      · cases hs : S c with
        | none => rfl
        | some kk => have := hk.get hs (by simp); rw [e3] at this; cases this
    refine hK s2 S2 ?_ (fun x o' h => ?_) (by omega) ?_
    · rw [e4]; exact hk.fresh hc
    · rw [e2] at h; cases h; exact hc
    · have : linesC xs (i + 1) = linesC xs i ++ [Value.string (bt (tw (wAt xs i)))] := by simp [linesC, List.range_succ]
      rw [this]; exact e5
  refine decode_spec hw.1 hw.2 (fun hY => ?_) fun hN => ?_
  · refine ⟨c3, c2, c1, c0, ?_⟩
    rw [if_pos rfl]
    refine ⟨rfl, ?_⟩
    refine show_spec hg' (d_bd _) ?_
    rw [if_pos hY.1]
    have e : tw (wAt xs i) = txt (dK (wAt xs i)) (dA (wAt xs i)) (dB (wAt xs i)) (dC (wAt xs i)) (dN (wAt xs i)) := by unfold tw; rw [if_pos hY]
    have := step hJ1
    rw [e] at this
    exact this
  · refine ⟨c3, c2, c1, c0, ?_⟩
    rw [if_neg (by decide)]
    refine ⟨rfl, ?_⟩
    have e : tw (wAt xs i) = [63] := by unfold tw; rw [if_neg hN]
    have := step hJ1
    rw [e] at this
    exact this
end
end Go.Proofs.YtpilffakhkagjaaDoor
