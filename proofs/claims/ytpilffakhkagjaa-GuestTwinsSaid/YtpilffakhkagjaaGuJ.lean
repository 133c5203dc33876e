/- owner.Book: Keep, Twin, Count; books compared. -/
import Derived.Test.YtpilffakhkagjaaGuI
import Derived.Test.YtpilffakhkagjaaPfK
namespace Go.Proofs.Ytpilffakhkagjaa
open Go Go.Pt
section
variable {S : Mem} {ob_ rb : Nat} {rows : List (List Value)}
/-- A row of a book. -/
def orow (k n p s : Int) : List Value := [.int .u8 k, .int .i64 n, .int .i64 p, .int .i64 s]
/-- All rows are rows. -/
def Rows_ (rows : List (List Value)) : Prop := ∀ v ∈ rows, ∃ k n p s, v = orow k n p s
theorem Rows_.w (h : Rows_ rows) : ∀ v ∈ rows, v.length = 4 := fun v hv => by
  obtain ⟨k, n, p, s, rfl⟩ := h v hv; rfl
theorem Bk.row (h : Bk S ob_ rb rows) : ∃ cap, S.cell ob_ 0 = some (eL ⟨some (rb, 0), rows.length, cap⟩) ∧ Row S 4 ⟨some (rb, 0), rows.length, cap⟩ rows.flatten := by
  obtain ⟨cap, t, j, e1, e2, e3, e4⟩ := h.ex
  have hl := flt_len h.len
  refine ⟨cap, by rw [cell_of e1]; rfl, hl, e3, .inr ⟨rb, _, rfl, e2, rfl, ?_, ?_⟩⟩
  · simp only [List.length_append, hl, e4]; rw [← Nat.add_mul]; congr 1; omega
  · simp only; rw [← hl, List.take_left]
theorem bookTwin_spec (h : Bk S ob_ rb rows) (hr : Rows_ rows) (hl : rows.length ≤ 1000) {Q : Pt → Mem → Prop} (hQ : ∀ S' ob' s', S ob' = none → (∀ x ∈ ob s', S x = none ∧ x ≠ ob') → Keeps S S' [] → S' ob' = some (bw 137 [eL s']) → s'.n = rows.length → Row S' 4 s' rows.flatten → Q (some (ob', 0)) S') : owner_Book_Twin S (some (ob_, 0)) Q := by
  apply t_owner_Book_Twin
  unfold b_owner_Book_Twin
  simp only [jn]
  obtain ⟨cap, hrd, hrow0⟩ := h.row
  rw [if_neg (by simp), nn_i, gL_i hrd]
  refine ⟨rows.flatten, .inr ⟨rb, 0, rfl, hrow0.part rfl⟩, ?_, ?_⟩
  · rw [List.all_eq_true]
    intro x hx
    obtain ⟨v, hv, hx⟩ := List.mem_flatten.1 hx
    obtain ⟨k, n, p, s, rfl⟩ := hr v hv
    simp only [orow, List.mem_cons, List.not_mem_nil, or_false] at hx
    rcases hx with rfl | rfl | rfl | rfl <;> rfl
  refine ap_nil (flt_len h.len) rfl (by simp only; omega) fun s' S' hn hrow hk hf => ?_
  intro ob' hob'
  have ho := fresh_of hk hob'
  refine hQ _ ob' s' ho (fun x hx => ?_) (hk.new hob') set_same hn (hrow.kept (W := [ob']) (fun y _ hw => set_ne (by simpa using hw)) fun x hx hm => ?_)
  · obtain ⟨hp, k, hk2⟩ := row_blk hrow hx
    exact ⟨hf x 0 hp, fun e => by subst e; rw [hk2] at hob'; cases hob'⟩
  · rw [List.mem_singleton] at hm
    subst hm
    obtain ⟨_, k, hk2⟩ := row_blk hrow hx
    rw [hk2] at hob'; cases hob'
/-- How many rows are of a kind, and a VM's. -/
def cntR (kind n : Int) (rows : List (List Value)) : Nat := (rows.filter fun v => match v with
  | [.int .u8 k, .int .i64 m, _, _] => decide (k = kind) && (decide (kind < 2) || decide (m = n))
  | _ => false).length
theorem count_spec (h : Bk S ob_ rb rows) (hr : Rows_ rows) (hl : rows.length ≤ 1000) {kind n : Int} {Q : Int → Mem → Prop} (hQ : Q (cntR kind n rows) S) : owner_Book_Count S (some (ob_, 0)) kind n Q := by
  obtain ⟨cap0, hrd, hrow0⟩ := h.row
  obtain ⟨_, pA⟩ := flat_part h.len hrow0 (by decide)
  apply t_owner_Book_Count
  unfold b_owner_Book_Count
  simp only [jn]
  rw [if_neg (by simp), nn_i, gL_i hrd]
  refine lp_rule (fun (z : Int × Int) S' => ∃ i : Nat, z = (((cntR kind n (rows.take i) : Nat) : Int), (i : Int)) ∧ i ≤ rows.length ∧ S' = S) (fun z => (rows.length - z.2).toNat) ?_ ⟨0, by simp [cntR], by omega, rfl⟩
  rintro X z S' ⟨i, rfl, hi, rfl⟩ ih
  dsimp only at ih ⊢
  by_cases hlt : (i : Int) < (rows.length : Int)
  · rw [if_pos hlt, sl_i]
    refine ⟨by omega, hlt, ?_⟩
    obtain ⟨c, cap, e, hp⟩ := pA i (by omega)
    simp only [Sl.mk.injEq, Option.some.injEq, Prod.mk.injEq] at e
    obtain ⟨⟨rfl, _⟩, _, _⟩ := e
    rw [Int.toNat_natCast, gA_i hp]
    obtain ⟨k, m, p, s, hv⟩ := hr _ (List.getElem_mem (show i < rows.length by omega))
    have hc : cntR kind n (rows.take (i + 1)) = cntR kind n (rows.take i) + (if k = kind ∧ (kind < 2 ∨ m = n) then 1 else 0) := by
      unfold cntR
      rw [List.take_succ_eq_append_getElem (by omega), List.filter_append, List.length_append, hv]
      congr 1
      by_cases c1 : k = kind
      · by_cases c2 : kind < 2
        · simp [orow, c1, c2]
        · by_cases c3 : m = n
          · simp [orow, c1, c3]
          · simp [orow, c1, c2, c3]
      · simp [orow, c1]
    have hle : cntR kind n (rows.take i) ≤ i := by
      unfold cntR
      refine Nat.le_trans (List.length_filter_le _ _) ?_
      rw [List.length_take]; omega
    rw [hv]
    refine ⟨rfl, ?_⟩
    rw [gI_i (show nthL (orow k m p s) 0 = some (.int .u8 k) from rfl)]
    have nx : ∀ q : Int, q = ((cntR kind n (rows.take (i + 1)) : Nat) : Int) → X (q, IntKind.i64.wrap ((i : Int) + 1)) S' := by
      rintro q rfl
      rw [w64 (by omega) (by omega)]
      exact ih _ _ ⟨i + 1, by simp, by omega, rfl⟩ (by simp only; omega)
    by_cases c1 : k = kind
    · rw [if_pos c1]
      by_cases c2 : kind < 2
      · rw [if_pos c2, w64 (by omega) (by omega)]
        exact nx _ (by rw [hc, if_pos ⟨c1, .inl c2⟩]; simp)
      · rw [if_neg c2, gI_i (show nthL (orow k m p s) 1 = some (.int .i64 m) from rfl)]
        by_cases c3 : m = n
        · rw [if_pos c3, w64 (by omega) (by omega)]
          exact nx _ (by rw [hc, if_pos ⟨c1, .inr c3⟩]; simp)
        · rw [if_neg c3]
          exact nx _ (by rw [hc, if_neg (by rintro ⟨_, h | h⟩; exact c2 h; exact c3 h)]; simp)
    · rw [if_neg c1]
      exact nx _ (by rw [hc, if_neg (fun h => c1 h.1)]; simp)
  · rw [if_neg hlt]
    have : i = rows.length := by omega
    subst this
    rw [List.take_length]
    exact hQ
end
end Go.Proofs.Ytpilffakhkagjaa
