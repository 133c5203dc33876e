/- Which instructions may be; an instruction's text, by the program and by the reference. -/
import Derived.Test.YtpilffakhkagjaaDoorTxC
namespace Go.Proofs.YtpilffakhkagjaaDoor
open Go Go.Pt Go.RowKit Go.Lib Go.Tx
section
variable {S : Mem}
theorem cv_one {f : Bool} {r : Int} {K : Bool → Mem → Prop} (hK : K (decide (regR f r)) S) : cv Tryd.prog S (.func (.func 30) #[] #[]) [.bool f, .int .u8 r] fun rv S' => ∃ t : Bool, rv = .bool t ∧ K t S' := by
  refine ⟨30, [], rfl, inferInstance, ?_⟩
  have h := one_spec (f := f) (r := r) (Q := K) hK
  unfold code_Right_f1 at h
  exact Tr.mono h fun v S' ⟨r0, h1, h2⟩ => ⟨r0, h1, h2⟩
theorem jn_cut {β : Type} {J : β} {B : β → Prop} (R : β → Prop) (hJ : R J) (hB : ∀ j, R j → B j) : jn J B := hB J hJ
theorem right_spec {k a b c n : Int} {Q : Bool → Mem → Prop} (hQ : Q (decide (Rt k a b c n)) S) : code_Right S (opL k a b c n) Q := by
  have g0 : nthL (opL k a b c n) 0 = some (.int .u8 k) := rfl
  have g1 : nthL (opL k a b c n) 1 = some (.int .u8 a) := rfl
  have g2 : nthL (opL k a b c n) 2 = some (.int .u8 b) := rfl
  have g3 : nthL (opL k a b c n) 3 = some (.int .u8 c) := rfl
  have g4 : nthL (opL k a b c n) 4 = some (.int .i16 n) := rfl
  have no : ¬ Rt k a b c n → Q false S := fun h => by rw [decide_eq_false h] at hQ; exact hQ
  apply t_code_Right
  unfold b_code_Right
  refine ⟨rfl, ?_⟩
  rw [gI_i g0]
  refine fields_spec ⟨rfl, ?_⟩
  refine jn_cut (fun j => k < 23 → regR (fA (cls k)) a → regR (fB (cls k)) b → regR (fC (cls k)) c → (fN (cls k) = true ∨ n = 0) → j S) ?_ fun j hj => ?_
  · intro h1 h2 h3 h4 h5
    have fin : ∀ (p : Prop) [Decidable p], (p ↔ (k = 18 ∨ k = 19 → 0 ≤ n ∧ n < 9)) → Q (decide p) S := fun p _ hp => by
      have : decide p = decide (Rt k a b c n) := decide_eq_decide.2 ⟨fun h => ⟨h1, h2, h3, h4, h5, hp.1 h⟩, fun h => hp.2 h.rw⟩
      rw [this]; exact hQ
    rw [gI_i g0]
    by_cases h18 : k = 18
    · rw [if_pos h18, gI_i g4]
      by_cases h0 : 0 ≤ n
      · rw [if_pos h0, gI_i g4]
        exact fin _ ⟨fun h _ => ⟨h0, h⟩, fun h => (h (.inl h18)).2⟩
      · rw [if_neg h0]; exact no fun h => h0 (h.rw (.inl h18)).1
    rw [if_neg h18, gI_i g0]
    by_cases h19 : k = 19
    · rw [if_pos h19, gI_i g4]
      by_cases h0 : 0 ≤ n
      · rw [if_pos h0, gI_i g4]
        exact fin _ ⟨fun h _ => ⟨h0, h⟩, fun h => (h (.inr h19)).2⟩
      · rw [if_neg h0]; exact no fun h => h0 (h.rw (.inr h19)).1
    rw [if_neg h19]
    have := fin True ⟨fun _ h => by omega, fun _ => trivial⟩
    simpa using this
  · rw [gI_i g0]
    by_cases h1 : 23 ≤ k
    · rw [if_pos h1]; exact no fun h => by have := h.kk; omega
    rw [if_neg h1, gB_i (show nthL (kdL (cls k)) 0 = some (.bool (fA (cls k))) from rfl), gI_i g1]
    refine cv_one ?_
    by_cases h2 : regR (fA (cls k)) a
    rotate_left
    · rw [decide_eq_false h2, if_neg (by decide)]; exact no fun h => h2 h.aa
    rw [decide_eq_true h2, if_pos rfl, gB_i (show nthL (kdL (cls k)) 1 = some (.bool (fB (cls k))) from rfl), gI_i g2]
    refine cv_one ?_
    by_cases h3 : regR (fB (cls k)) b
    rotate_left
    · rw [decide_eq_false h3, if_neg (by decide)]; exact no fun h => h3 h.bb
    rw [decide_eq_true h3, if_pos rfl, gB_i (show nthL (kdL (cls k)) 2 = some (.bool (fC (cls k))) from rfl), gI_i g3]
    refine cv_one ?_
    by_cases h4 : regR (fC (cls k)) c
    rotate_left
    · rw [decide_eq_false h4, if_neg (by decide)]; exact no fun h => h4 h.cc
    rw [decide_eq_true h4, if_pos rfl, gB_i (show nthL (kdL (cls k)) 3 = some (.bool (fN (cls k))) from rfl)]
    by_cases h5 : fN (cls k) = true
    · rw [if_pos h5]; exact hj (by omega) h2 h3 h4 (.inl h5)
    rw [if_neg h5, gI_i g4]
    by_cases h6 : n = 0
    · rw [if_neg (by simpa using h6)]; exact hj (by omega) h2 h3 h4 (.inr h6)
    · rw [if_pos h6]; exact no fun h => by rcases h.nn with h | h <;> contradiction
/-- The numeral of the reference is the library's. -/
theorem num_nat : ∀ (m : Nat) {S : Mem} {Q : ByteArray → Mem → Prop}, m ≤ 1000000 → Q (bt (decDigits m)) S → hermitcrabref01_Num S m Q := by
  intro m
  induction m using Nat.strongRecOn with
  | _ m ih =>
    intro S Q hm hQ
    apply t_hermitcrabref01_Num
    unfold b_hermitcrabref01_Num
    simp only [jn]
    rw [if_neg (by omega)]
    have one : ∀ d : Nat, d < 10 → strOfNums [IntKind.u8.wrap (IntKind.i64.wrap (48 + (d : Int)))] = bt [UInt8.ofNat (48 + d)] := fun d hd => by
      rw [w64 (by omega) (by omega), wu8 (by omega) (by omega)]
      simp only [strOfNums, List.map_cons, List.map_nil, bt]
      congr 3
    by_cases h10 : (m : Int) < 10
    · rw [if_pos h10, one m (by omega)]
      rw [decDigits, dif_pos (by omega)] at hQ
      exact hQ
    · rw [if_neg h10, td (by omega), tm (by omega), w64 (x := (m : Int) / 10) (by omega) (by omega)]
      rw [show (m : Int) / 10 = ((m / 10 : Nat) : Int) by omega, show (m : Int) % 10 = ((m % 10 : Nat) : Int) by omega]
      have hl : (decDigits (m / 10)).length ≤ 7 := by
        have h2 : ∀ (k u : Nat), u < 10 ^ (k + 1) → (decDigits u).length ≤ k + 1 := by
          intro k
          induction k with
          | zero => intro u hu; rw [decDigits, dif_pos (by simpa using hu)]; simp
          | succ k ih =>
            intro u hu
            rw [decDigits]
            split
            · simp
            · have := ih (u / 10) (by rw [Nat.pow_succ] at hu; omega)
              simp; omega
        exact h2 6 (m / 10) (by omega)
      refine ih (m / 10) (by omega) (by omega) ⟨?_, ?_⟩
      · rw [one _ (by omega), bt_size, bt_size]; simp; omega
      · rw [one _ (by omega), bt_append]
        rw [decDigits, dif_neg (by omega)] at hQ
        exact hQ
theorem digits_len (u : Nat) (h : u ≤ 1000000) : (decDigits u).length ≤ 7 := by
  have h2 : ∀ (k u : Nat), u < 10 ^ (k + 1) → (decDigits u).length ≤ k + 1 := by
    intro k
    induction k with
    | zero => intro u hu; rw [decDigits, dif_pos (by simpa using hu)]; simp
    | succ k ih =>
      intro u hu
      rw [decDigits]
      split
      · simp
      · have := ih (u / 10) (by rw [Nat.pow_succ] at hu; omega)
        simp; omega
  exact h2 6 u (by omega)
theorem itoa_len {n : Int} (h1 : -32768 ≤ n) (h2 : n ≤ 32767) : (itoa n).length ≤ 8 := by
  unfold itoa
  split
  · have := digits_len n.natAbs (by omega); simp; omega
  · have := digits_len n.toNat (by omega); omega
theorem num_spec {n : Int} (h1 : -32768 ≤ n) (h2 : n ≤ 32767) {Q : ByteArray → Mem → Prop} (hQ : Q (bt (itoa n)) S) : hermitcrabref01_Num S n Q := by
  by_cases hn : n < 0
  · apply t_hermitcrabref01_Num
    unfold b_hermitcrabref01_Num
    refine jn_cut (fun _ => True) trivial fun j _ => ?_
    rw [if_pos hn, w64 (by omega) (by omega), show 0 - n = ((n.natAbs : Nat) : Int) by omega]
    refine num_nat _ (by omega) ⟨?_, ?_⟩
    · have := digits_len n.natAbs (by omega)
      rw [bt_size]
      show 1 + _ ≤ _
      omega
    · show Q (bt [45] ++ bt (decDigits n.natAbs)) S
      rw [bt_append]
      unfold itoa at hQ
      rw [if_pos hn] at hQ
      exact hQ
  · have e : n = ((n.toNat : Nat) : Int) := by omega
    unfold itoa at hQ
    rw [if_neg hn] at hQ
    rw [e]
    exact num_nat _ (by omega) hQ
/-! the texts -/
def tl (q : Bs) : Bs := 32 :: q
theorem txt_eq (k a b c n : Int) : txt k a b c n = nm k ++ (match cls k with
  | 0 => []
  | 1 => tl (rg a) ++ tl (itoa n)
  | 2 => tl (itoa n)
  | 3 => tl (rg a) ++ (tl (rg b) ++ tl (itoa n))
  | _ => tl (rg a) ++ (tl (rg b) ++ tl (rg c))) := by
  unfold txt piecesL
  rcases h : cls k with _ | _ | _ | _ | m <;> simp [joinC, tl]
theorem nm_len (k : Int) : (nm k).length ≤ 4 := by
  unfold nm
  have : ∀ l ∈ nms, l.length ≤ 4 := by decide
  cases h : nms[k.toNat]? with
  | none => simp
  | some l => exact this l (List.mem_of_getElem? h)
theorem rg_len {r : Int} (h : 0 ≤ r ∧ r ≤ 255) : (rg r).length ≤ 9 := by
  have := itoa_len (n := r) (by omega) (by omega)
  simp [rg]; omega
end
end Go.Proofs.YtpilffakhkagjaaDoor
