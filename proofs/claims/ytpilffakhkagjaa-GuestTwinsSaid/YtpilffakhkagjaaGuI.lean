/- guest.SameVM. -/
import Derived.Test.YtpilffakhkagjaaGuH
namespace Go.Proofs.Ytpilffakhkagjaa
open Go Go.Pt
theorem sl_r {s : Sl} {b o n c : Nat} {K : Nat → Nat → Nat → Nat → Prop} (h : s = ⟨some (b, o), n, c⟩) (hk : K b o n c) : sl s K := ⟨b, o, n, c, h, hk⟩
theorem str_inj : ∀ {xs ys : List Int}, (∀ x ∈ xs, 0 ≤ x ∧ x ≤ 255) → (∀ x ∈ ys, 0 ≤ x ∧ x ≤ 255) → strOfNums xs = strOfNums ys → xs = ys := by
  intro xs ys hx hy h
  have h1 : xs.map (fun n => UInt8.ofNat n.toNat) = ys.map (fun n => UInt8.ofNat n.toNat) := by
    have := congrArg (fun s : ByteArray => s.data.toList) h
    simpa [strOfNums] using this
  clear h
  induction xs generalizing ys with
  | nil =>
    cases ys with
    | nil => rfl
    | cons y ys => simp at h1
  | cons x xs ih =>
    cases ys with
    | nil => simp at h1
    | cons y ys =>
      simp only [List.map_cons, List.cons.injEq] at h1
      have e1 : x.toNat = y.toNat := by
        have h2 := congrArg UInt8.toNat h1.1
        have bx := hx x (by simp)
        have by_ := hy y (by simp)
        simp only [UInt8.toNat_ofNat'] at h2
        omega
      have bx := hx x (by simp)
      have by_ := hy y (by simp)
      have e2 : x = y := by omega
      rw [e2, ih (fun z hz => hx z (by simp [hz])) (fun z hz => hy z (by simp [hz])) h1.2]
theorem bs_row {S : Mem} {s : Sl} {xs : List Int} (h : Row S 1 s (bL xs)) {K : ByteArray → Prop} (hK : K (strOfNums xs)) : bs S s K := by
  have hl := h.len
  refine ⟨xs, ?_, hK⟩
  cases hp : s.p with
  | none =>
    left
    refine ⟨rfl, ?_⟩
    rcases h.lie with ⟨_, e2⟩ | ⟨b, k, e1, _⟩
    · have := h.cap
      exact List.length_eq_zero_iff.1 (by simp only [bL, List.length_map] at hl; omega)
    · rw [hp] at e1; cases e1
  | some bo =>
    obtain ⟨b, o⟩ := bo
    have ho : o = 0 := by
      rcases h.lie with ⟨e1, _⟩ | ⟨c', k, e1, _⟩
      · rw [hp] at e1; cases e1
      · rw [hp] at e1; cases e1; rfl
    subst ho
    right
    have := h.part hp
    rw [Nat.mul_one] at this
    exact ⟨b, 0, rfl, by simpa [bL] using hl, this⟩
theorem bytesEq_spec {S : Mem} {s t : Sl} {xs ys : List Int} (h : Row S 1 s (bL xs)) (k : Row S 1 t (bL ys)) (hx : Byt xs) (hy : Byt ys) {Q : Bool → Mem → Prop} (hQ : Q (decide (xs = ys)) S) : bytes_Equal S s t Q := by
  apply t_bytes_Equal
  unfold b_bytes_Equal
  refine bs_row h (bs_row k ?_)
  have e : decide (strOfNums xs = strOfNums ys) = decide (xs = ys) := decide_eq_decide.2 ⟨str_inj hx.bd hy.bd, fun h => by rw [h]⟩
  rw [e]; exact hQ
theorem flat_part {S : Mem} {s : Sl} {w : Nat} {A : List (List Value)} (hw : ∀ v ∈ A, v.length = w) (h : Row S w s A.flatten) (h0 : 0 < w) : s.n = A.length ∧ ∀ i (hi : i < A.length), ∃ c cap, s = ⟨some (c, 0), A.length, cap⟩ ∧ S.part c (0 + i * w) w = some A[i] := by
  have hl := h.len
  rw [flt_len hw] at hl
  have hn : s.n = A.length := Nat.eq_of_mul_eq_mul_right h0 hl.symm
  refine ⟨hn, fun i hi => ?_⟩
  obtain ⟨p, n, cap⟩ := s
  simp only at hn
  subst hn
  rcases h.lie with ⟨_, e2⟩ | ⟨c, k, e1, e2, e3, e4, e5⟩
  · have := h.cap; simp only at e2 this; omega
  · simp only at e1 e4 e5
    subst e1
    refine ⟨c, cap, rfl, ?_⟩
    have hp := h.part (b := c) rfl
    simp only at hp
    rw [part_of e2] at hp ⊢
    have hlen : A.length * w ≤ k.cs.length := by rw [e4]; exact Nat.mul_le_mul_right _ h.cap
    have hi2 : (i + 1) * w ≤ A.length * w := Nat.mul_le_mul_right _ hi
    rw [Nat.add_mul, Nat.one_mul] at hi2
    rw [lpart_i (by omega)]
    obtain ⟨f1, f2⟩ := flt_split hw hi
    have hAi : A[i].length = w := hw _ (List.getElem_mem hi)
    congr 1
    have ht : (k.cs.drop (0 + i * w)).take w = ((k.cs.take (A.length * w)).drop (i * w)).take w := by
      rw [Nat.zero_add, List.drop_take, List.take_take, Nat.min_eq_left (by omega)]
    rw [ht, e5, f1, List.drop_left' f2, List.take_left' hAi]
theorem seatsEq_spec {S : Mem} {s t : Sl} {A B : List (List Value)} (hA : ∀ v ∈ A, fits ckS v = true) (hB : ∀ v ∈ B, fits ckS v = true) (lA : A.length ≤ 1000) (h : Row S 26 s A.flatten) (k : Row S 26 t B.flatten) {Q : Bool → Mem → Prop} (hT : A = B → Q true S) (hF : A ≠ B → Q false S) : slices_Equal_api_Seat_api_Seat S s t Q := by
  have wA : ∀ v ∈ A, v.length = 26 := fun v hv => by have := fits_len (hA v hv); simpa [ckS] using this
  have wB : ∀ v ∈ B, v.length = 26 := fun v hv => by have := fits_len (hB v hv); simpa [ckS] using this
  obtain ⟨nA, pA⟩ := flat_part wA h (by decide)
  obtain ⟨nB, pB⟩ := flat_part wB k (by decide)
  apply t_slices_Equal_api_Seat_api_Seat
  unfold b_slices_Equal_api_Seat_api_Seat
  simp only [jn]
  by_cases hn : (s.n : Int) ≠ (t.n : Int)
  · rw [if_pos hn]
    exact hF fun e => hn (by rw [nA, nB, e])
  · rw [if_neg hn]
    have hl : A.length = B.length := by omega
    refine lp_rule (fun (z : Int) S' => ∃ i : Nat, z = (i : Int) ∧ i ≤ A.length ∧ S' = S ∧ A.take i = B.take i) (fun z => (A.length - z).toNat) ?_ ⟨0, rfl, by omega, rfl, by simp⟩
    rintro X z S' ⟨i, rfl, hi, rfl, he⟩ ih
    by_cases hlt : (i : Int) < (s.n : Int)
    · rw [if_pos hlt]
      obtain ⟨c1, cap1, e1, q1⟩ := pA i (by omega)
      obtain ⟨c2, cap2, e2, q2⟩ := pB i (by omega)
      refine sl_r e1 ⟨by omega, by omega, ?_⟩
      rw [Int.toNat_natCast, gA_i q1]
      refine sl_r e2 ?_
      refine ⟨by omega, by omega, ?_⟩
      rw [gA_i q2]
      have fA := hA _ (List.getElem_mem (show i < A.length by omega))
      have fB := hB _ (List.getElem_mem (show i < B.length by omega))
      refine ⟨fA, fB, ?_⟩
      by_cases hq : A[i]'(by omega) = B[i]'(by omega)
      · rw [if_neg (by rw [(eqL_iff fA fB).2 hq]; decide), w64 (by omega) (by omega)]
        refine ih _ _ ⟨i + 1, by omega, by omega, rfl, ?_⟩ (by omega)
        rw [List.take_succ_eq_append_getElem (by omega), List.take_succ_eq_append_getElem (by omega), he, hq]
      · rw [if_pos (by
          have : eqL (A[i]'(by omega)) (B[i]'(by omega)) = false := by
            rw [Bool.eq_false_iff]; exact fun h2 => hq ((eqL_iff fA fB).1 h2)
          rw [this]; rfl)]
        exact hF fun e => hq (by subst e; rfl)
    · rw [if_neg hlt]
      have : i = A.length := by omega
      subst this
      refine hT ?_
      rw [List.take_length] at he
      rw [he, hl, List.take_length]
/-- Two VMs are one, but for their tables, and how late they are. -/
def sameA (a b : Va) : Prop := a.on = b.on ∧ a.quota = b.quota ∧ a.bells = b.bells ∧ a.seats = b.seats ∧ a.keys = b.keys ∧ a.d0 = b.d0 ∧ a.d1 = b.d1 ∧ a.d2 = b.d2 ∧ a.d3 = b.d3
theorem sameVM_spec {S : Mem} {a b : Va} {x y : Vs} (h : VmIs S a x) (k : VmIs S b y) (oa : VaOk a) (ok : VaOk b) {Q : Bool → Mem → Prop} (hT : sameA a b → Q true S) (hF : ¬ sameA a b → Q false S) : guest_SameVM S (vc a x) (vc b y) Q := by
  apply t_guest_SameVM
  unfold b_guest_SameVM
  refine ⟨rfl, rfl, ?_⟩
  simp only [jn]
  rw [gB_i (show nthL (vc a x) 0 = some (.bool a.on) from rfl), gB_i (show nthL (vc b y) 0 = some (.bool b.on) from rfl)]
  by_cases c0 : a.on = b.on
  case neg => rw [if_pos c0]; exact hF fun e => c0 e.1
  rw [if_neg (by simpa using c0), gI_i (show nthL (vc a x) 4 = some (.int .i64 a.quota) from rfl), gI_i (show nthL (vc b y) 4 = some (.int .i64 b.quota) from rfl)]
  by_cases c1 : a.quota = b.quota
  case neg => rw [if_pos c1]; exact hF fun e => c1 e.2.1
  rw [if_neg (by simpa using c1), gI_i (show nthL (vc a x) 11 = some (.int .u32 a.bells) from rfl), gI_i (show nthL (vc b y) 11 = some (.int .u32 b.bells) from rfl)]
  by_cases c2 : a.bells = b.bells
  case neg => rw [if_pos c2]; exact hF fun e => c2 e.2.2.1
  rw [if_neg (by simpa using c2), gL_i (show nthL (vc a x) 1 = some (eL x.ss) from rfl), gL_i (show nthL (vc b y) 1 = some (eL y.ss) from rfl)]
  refine seatsEq_spec oa.seats ok.seats oa.small h.ss k.ss (fun c3 => ?_) fun c3 => ?_
  case refine_2 => rw [if_neg (by decide)]; exact hF fun e => c3 e.2.2.2.1
  rw [if_pos rfl, gL_i (show nthL (vc a x) 6 = some (eL x.ks) from rfl), gL_i (show nthL (vc b y) 6 = some (eL y.ks) from rfl)]
  refine bytesEq_spec h.ks k.ks oa.keys ok.keys ?_
  by_cases c4 : a.keys = b.keys
  case neg => rw [decide_eq_false c4, if_neg (by decide)]; exact hF fun e => c4 e.2.2.2.2.1
  rw [decide_eq_true c4, if_pos rfl]
  have w1 : IntKind.i64.wrap ((0 : Int) + 1) = 1 := by decide
  have w2 : IntKind.i64.wrap ((1 : Int) + 1) = 2 := by decide
  have w3 : IntKind.i64.wrap ((2 : Int) + 1) = 3 := by decide
  have w4 : IntKind.i64.wrap ((3 : Int) + 1) = 4 := by decide
  intro X hX
  refine hX _ _ ?_
  dsimp only
  rw [if_pos (by decide)]
  refine ⟨by decide, by decide, gL_r (n := x.e0) rfl ⟨by decide, by decide, gL_r (n := y.e0) rfl ?_⟩⟩
  refine bytesEq_spec h.e0 k.e0 oa.d0 ok.d0 ?_
  by_cases c5 : a.d0 = b.d0
  case neg => rw [decide_eq_false c5, if_neg (by decide)]; exact hF fun e => c5 e.2.2.2.2.2.1
  rw [decide_eq_true c5, if_pos rfl, w1]
  refine hX _ _ ?_
  dsimp only
  rw [if_pos (by decide)]
  refine ⟨by decide, by decide, gL_r (n := x.e1) rfl ⟨by decide, by decide, gL_r (n := y.e1) rfl ?_⟩⟩
  refine bytesEq_spec h.e1 k.e1 oa.d1 ok.d1 ?_
  by_cases c6 : a.d1 = b.d1
  case neg => rw [decide_eq_false c6, if_neg (by decide)]; exact hF fun e => c6 e.2.2.2.2.2.2.1
  rw [decide_eq_true c6, if_pos rfl, w2]
  refine hX _ _ ?_
  dsimp only
  rw [if_pos (by decide)]
  refine ⟨by decide, by decide, gL_r (n := x.e2) rfl ⟨by decide, by decide, gL_r (n := y.e2) rfl ?_⟩⟩
  refine bytesEq_spec h.e2 k.e2 oa.d2 ok.d2 ?_
  by_cases c7 : a.d2 = b.d2
  case neg => rw [decide_eq_false c7, if_neg (by decide)]; exact hF fun e => c7 e.2.2.2.2.2.2.2.1
  rw [decide_eq_true c7, if_pos rfl, w3]
  refine hX _ _ ?_
  dsimp only
  rw [if_pos (by decide)]
  refine ⟨by decide, by decide, gL_r (n := x.e3) rfl ⟨by decide, by decide, gL_r (n := y.e3) rfl ?_⟩⟩
  refine bytesEq_spec h.e3 k.e3 oa.d3 ok.d3 ?_
  by_cases c8 : a.d3 = b.d3
  case neg => rw [decide_eq_false c8, if_neg (by decide)]; exact hF fun e => c8 e.2.2.2.2.2.2.2.2
  rw [decide_eq_true c8, if_pos rfl, w4]
  refine hX _ _ ?_
  dsimp only
  rw [if_neg (by decide)]
  exact hT ⟨c0, c1, c2, c3, c4, c5, c6, c7, c8⟩
end Go.Proofs.Ytpilffakhkagjaa
