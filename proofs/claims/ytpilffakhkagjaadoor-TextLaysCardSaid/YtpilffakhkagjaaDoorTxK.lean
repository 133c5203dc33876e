/- Lines, parted by semicolons, with blanks around; plainly. -/
import Derived.Test.YtpilffakhkagjaaDoorTxI
namespace Go.Tx
open Go Go.Lib
theorem drop_blanks (c : UInt8) (m : Nat) (t : Bs) (h : ∀ b r, t = b :: r → b ≠ c) : (List.replicate m c ++ t).dropWhile (· == c) = t := by
  induction m with
  | zero =>
    simp only [List.replicate_zero, List.nil_append]
    cases t with
    | nil => rfl
    | cons b r => rw [List.dropWhile_cons_of_neg (by simpa using h b r rfl)]
  | succ m ih =>
    rw [List.replicate_succ, List.cons_append, List.dropWhile_cons_of_pos (by simp)]
    exact ih
theorem trim_pads (c : UInt8) (m m' : Nat) (t : Bs) (ht : t ≠ []) (h1 : t.head? ≠ some c) (h2 : t.getLast? ≠ some c) : trimB (List.replicate m c ++ (t ++ List.replicate m' c)) c = t := by
  unfold trimB trimRightB trimLeftB
  have e : (List.replicate m c ++ (t ++ List.replicate m' c)).reverse = List.replicate m' c ++ (t.reverse ++ List.replicate m c) := by simp
  rw [e, drop_blanks c m' _ ?_]
  · simp only [List.reverse_append, List.reverse_reverse, List.reverse_replicate]
    refine drop_blanks c m t fun b r hb hc => ?_
    subst hb; subst hc
    simp at h1
  · intro b r hb hc
    subst hc
    cases hr : t.reverse with
    | nil => exact ht (by simpa using congrArg List.reverse hr)
    | cons x xs =>
      rw [hr, List.cons_append] at hb
      have : x = b := (List.cons.inj hb).1
      subst this
      have h3 : t.getLast? = some x := by
        have := congrArg List.reverse hr
        rw [List.reverse_reverse] at this
        rw [this]; simp
      exact h2 h3
theorem join_last (c : UInt8) : ∀ (ps : List Bs) (p : Bs), p ≠ [] → c ∉ p → (∀ q ∈ ps, q ≠ [] ∧ c ∉ q) → (joinC c p ps).getLast? ≠ some c
  | [], p, _, hc, _ => by
    rw [joinC_nil]
    intro h
    exact hc (List.mem_of_getLast? h)
  | q :: ps, p, _, hc, hq => by
    rw [joinC_cons]
    have h := join_last c ps q (hq q (by simp)).1 (hq q (by simp)).2 fun x hx => hq x (by simp [hx])
    have hne : joinC c q ps ≠ [] := by
      unfold joinC
      intro h
      exact (hq q (by simp)).1 (List.append_eq_nil_iff.1 h).1
    intro h2
    rw [List.getLast?_append] at h2
    cases hj : joinC c q ps with
    | nil => exact hne hj
    | cons x xs =>
      rw [hj] at h2 h
      simp only [List.getLast?_cons_cons] at h2
      cases hl : (x :: xs).getLast? with
      | none => simp at hl
      | some y => rw [hl] at h2 h; exact h (by simpa using h2)
theorem nm_ne {k : Int} (h0 : 0 ≤ k) (h1 : k < 23) : nm k ≠ [] := by
  unfold nm
  have : ∀ l ∈ nms, l ≠ [] := by decide
  have h2 : k.toNat < nms.length := by simp [nms]; omega
  rw [List.getElem?_eq_getElem h2]
  exact this _ (List.getElem_mem h2)
theorem pc_ne (a b c n : Int) (q : UInt8) : pc a b c n q ≠ [] := by
  unfold pc
  obtain ⟨x, r, e, _⟩ := itoa_head n
  repeat' split
  · simp [rg]
  · simp [rg]
  · simp [rg]
  · rw [e]; simp
theorem txt_ends {k a b c n : Int} (h0 : 0 ≤ k) (h1 : k < 23) : txt k a b c n ≠ [] ∧ (txt k a b c n).head? ≠ some 32 ∧ (txt k a b c n).getLast? ≠ some 32 := by
  have hn := nm_ne h0 h1
  have h32 := nm_no32 k
  refine ⟨?_, ?_, ?_⟩
  · unfold txt joinC; intro h; exact hn (List.append_eq_nil_iff.1 h).1
  · unfold txt joinC
    cases hnm : nm k with
    | nil => exact absurd hnm hn
    | cons x xs =>
      simp only [List.cons_append, List.head?_cons, ne_eq, Option.some.injEq]
      intro h
      exact h32 (by rw [hnm, h]; simp)
  · unfold txt
    refine join_last 32 _ _ hn h32 fun q hq => ⟨?_, pieces_no32 k a b c n q hq⟩
    rw [pieces_map] at hq
    obtain ⟨x, _, rfl⟩ := List.mem_map.1 hq
    exact pc_ne _ _ _ _ _
theorem txt_no59 (k a b c n : Int) : (59 : UInt8) ∉ txt k a b c n := by
  have h1 : (59 : UInt8) ∉ nm k := by
    unfold nm
    have : ∀ l ∈ nms, (59 : UInt8) ∉ l := by decide
    cases h : nms[k.toNat]? with
    | none => simp
    | some l => exact this l (List.mem_of_getElem? h)
  have hi : ∀ n : Int, (59 : UInt8) ∉ itoa n := fun n => itoa_no n (by decide) (by decide)
  have hr : ∀ r : Int, (59 : UInt8) ∉ rg r := fun r h => by
    rcases List.mem_cons.1 h with h | h
    · exact absurd h (by decide)
    · exact hi r h
  unfold txt joinC
  intro h
  rcases List.mem_append.1 h with h | h
  · exact h1 h
  · obtain ⟨q, hq, h⟩ := List.mem_flatMap.1 h
    rcases List.mem_cons.1 h with h | h
    · exact absurd h (by decide)
    · rw [pieces_map] at hq
      obtain ⟨x, _, rfl⟩ := List.mem_map.1 hq
      unfold pc at h
      repeat' split at h
      · exact hr a h
      · exact hr b h
      · exact hr c h
      · exact hi n h
/-- Lines, with semicolons between. -/
def jn59 : List Bs → Bs
  | [] => []
  | p :: ps => joinC 59 p ps
theorem jn59_snoc (q : Bs) : ∀ L : List Bs, jn59 (L ++ [q]) = if L = [] then q else jn59 L ++ 59 :: q
  | [] => by simp [jn59, joinC]
  | p :: ps => by simp [jn59, joinC]
theorem jn59_len {m : Nat} : ∀ L : List Bs, (∀ q ∈ L, q.length ≤ m) → (jn59 L).length ≤ (m + 1) * L.length
  | [], _ => by simp [jn59]
  | p :: ps, h => by
    unfold jn59 joinC
    have h1 := h p (by simp)
    have : ∀ ps : List Bs, (∀ q ∈ ps, q.length ≤ m) → (ps.flatMap fun q => (59 : UInt8) :: q).length ≤ (m + 1) * ps.length := by
      intro ps
      induction ps with
      | nil => simp
      | cons q ps ih =>
        intro hq
        have h3 := ih fun x hx => hq x (by simp [hx])
        have h4 := hq q (by simp)
        simp only [List.flatMap_cons, List.length_append, List.length_cons, Nat.mul_add]
        simp only [Nat.add_mul] at h3 ⊢
        omega
    have h2 := this ps fun q hq => h q (by simp [hq])
    simp only [List.length_append, List.length_cons, Nat.mul_add]
    simp only [Nat.add_mul] at h2 ⊢
    omega
/-- An instruction. -/
structure Op5 where
  k : Int
  a : Int
  b : Int
  c : Int
  n : Int
def Op5.L (o : Op5) : List Value := opL o.k o.a o.b o.c o.n
def Op5.txt (o : Op5) : Bs := Go.Tx.txt o.k o.a o.b o.c o.n
def Op5.wrd (o : Op5) : Int := Go.Tx.wrd o.k o.a o.b o.c o.n
def Op5.Bd (o : Op5) : Prop := Go.Tx.Bd o.k o.a o.b o.c o.n
def Op5.Rt (o : Op5) : Prop := Go.Tx.Rt o.k o.a o.b o.c o.n
def Op5.near (o : Op5) : Op5 := ⟨nK o.k, nA o.k o.a, nB o.k o.b, nC o.k o.c, nN o.k o.n⟩
theorem Op5.near_bd {o : Op5} (h : o.Bd) : o.near.Bd := Go.Tx.near_bd h
theorem Op5.near_rt {o : Op5} (h : o.Bd) : o.near.Rt := Go.Tx.near_rt h
end Go.Tx
namespace Go.Proofs.YtpilffakhkagjaaDoor
open Go Go.Pt Go.RowKit Go.Lib Go.Tx
theorem txt_len {k a b c n : Int} (hb : Bd k a b c n) : (txt k a b c n).length ≤ 40 := by
  rw [txt_parts]
  have l0 := nm_len k
  have piece_len : ∀ q, (pieceT a b c n q).length ≤ 10 := fun q => by
    have la := rg_len hb.aa
    have lb := rg_len hb.bb
    have lc := rg_len hb.cc
    have ln := itoa_len hb.nn.1 hb.nn.2
    unfold pieceT
    repeat' split
    all_goals simp only [List.length_cons]; omega
  have p1 := piece_len 97
  have p2 := piece_len 98
  have p3 := piece_len 99
  have p4 := piece_len 110
  rcases h : cls k with _ | _ | _ | _ | m <;> simp only [partsL, List.flatMap_cons, List.flatMap_nil, List.length_append, List.length_nil] <;> omega
end Go.Proofs.YtpilffakhkagjaaDoor
