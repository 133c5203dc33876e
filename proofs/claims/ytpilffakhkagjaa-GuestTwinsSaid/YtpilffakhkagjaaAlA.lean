/- Alarms as a list in memory: container/heap's functions over alarm's row. -/
import Derived.Test.YtpilffakhkagjaaHpA
import Derived.Test.YtpilffakhkagjaaPfA
namespace Go.Proofs.Ytpilffakhkagjaa
open Go Go.Pt Go.Hp
structure Al where
  tm : Int
  vm : Int
  seat : Int
deriving DecidableEq, Inhabited
def ce (a : Al) : List Value := [.int .u64 a.tm, .int .i64 a.vm, .int .i64 a.seat]
def fl (l : List Al) : List Value := l.flatMap ce
def bf (a b : Al) : Bool := if a.tm ≠ b.tm then decide (a.tm < b.tm) else if a.vm ≠ b.vm then decide (a.vm < b.vm) else decide (a.seat < b.seat)
theorem bf_iff {a b : Al} : bf a b = true ↔ a.tm < b.tm ∨ (a.tm = b.tm ∧ (a.vm < b.vm ∨ (a.vm = b.vm ∧ a.seat < b.seat))) := by
  unfold bf
  split
  · simp; omega
  · split
    · simp; omega
    · simp; omega
theorem bf_no {a b : Al} : bf a b = false ↔ ¬ (a.tm < b.tm ∨ (a.tm = b.tm ∧ (a.vm < b.vm ∨ (a.vm = b.vm ∧ a.seat < b.seat)))) := by
  rw [← bf_iff]; simp
theorem bf_irr (a : Al) : bf a a = false := by rw [bf_no]; omega
theorem bf_ord : Ord bf := ⟨fun a b h => by rw [bf_iff] at h; rw [bf_no]; omega, fun a b c h1 h2 => by rw [bf_no] at *; omega⟩
theorem ce_length (a : Al) : (ce a).length = 3 := rfl
theorem ce_one (a : Al) : (ce a).all (·.oneCell') = true := rfl
theorem fl_length (l : List Al) : (fl l).length = l.length * 3 := by
  induction l with
  | nil => rfl
  | cons a l ih => simp only [fl, List.flatMap_cons, List.length_append, List.length_cons] at *; rw [ih, ce_length]; omega
theorem fl_append (l r : List Al) : fl (l ++ r) = fl l ++ fl r := by simp [fl]
theorem fl_split {l : List Al} {i : Nat} (h : i < l.length) : fl l = fl (l.take i) ++ (ce (gt l i) ++ fl (l.drop (i + 1))) := by
  have e : l = l.take i ++ (gt l i :: l.drop (i + 1)) := by
    rw [gt_eq h, List.getElem_cons_drop, List.take_append_drop]
  have e2 : fl l = fl (l.take i ++ (gt l i :: l.drop (i + 1))) := congrArg fl e
  rw [e2, fl_append]
  rfl
theorem fl_part {l : List Al} {j : List Value} {i : Nat} (h : i < l.length) : lpart (fl l ++ j) (i * 3) 3 = some (ce (gt l i)) := by
  have hln := fl_length l
  rw [lpart_i (by simp only [List.length_append]; omega), fl_split h]
  have ht : (fl (l.take i)).length = i * 3 := by rw [fl_length, List.length_take]; omega
  congr 1
  rw [List.append_assoc, List.drop_left' ht, List.append_assoc, List.take_left' (ce_length _)]
theorem fl_cell {l : List Al} {j : List Value} {i k : Nat} (h : i < l.length) (hk : k < 3) : nthL (fl l ++ j) (i * 3 + k) = nthL (ce (gt l i)) k := by
  have hp := fl_part (j := j) h
  rw [nthL_eq, nthL_eq, lpart_get hp k hk]
theorem fl_set {l : List Al} {j : List Value} {i : Nat} {a : Al} (h : i < l.length) : spl (fl l ++ j) (i * 3) (ce a) = fl (l.set i a) ++ j := by
  have hln := fl_length l
  rw [spl_eq _ _ _ (by simp only [List.length_append]; omega)]
  have ht : (fl (l.take i)).length = i * 3 := by rw [fl_length, List.length_take]; omega
  have e1 : fl (l.set i a) = fl (l.take i) ++ (ce a ++ fl (l.drop (i + 1))) := by
    rw [List.set_eq_take_append_cons_drop, if_pos h, fl_append]
    rfl
  have h1 : (fl l ++ j).take (i * 3) = fl (l.take i) := by
    rw [fl_split h, List.append_assoc, List.take_left' ht]
  have h2 : (fl l ++ j).drop (i * 3 + (ce a).length) = fl (l.drop (i + 1)) ++ j := by
    rw [fl_split h, ce_length, ← List.drop_drop, List.append_assoc, List.drop_left' ht, List.append_assoc, List.drop_left' (ce_length _)]
  rw [h1, h2, e1]
  simp
/-- The clock's slice: its cell at (b, o), its list in block c; the rest of what it may hold. -/
structure Ro (S : Mem) (b o c : Nat) (t : TypeId) (s : Sl) (n : Nat) : Prop where
  cell : S.cell b o = some (eL s)
  p : s.p = some (c, 0)
  n : s.n = n
  ne : b ≠ c
/-- The memory in which block c holds these alarms. -/
def wi (S : Mem) (c : Nat) (t : TypeId) (j : List Value) (l : List Al) : Mem := S.set c (bw t (fl l ++ j))
theorem wi_c {S : Mem} {c : Nat} {t : TypeId} {j : List Value} {l : List Al} : wi S c t j l c = some (bw t (fl l ++ j)) := set_same
section
variable {S : Mem} {b o c : Nat} {t : TypeId} {s : Sl} {j : List Value} {l : List Al} {n : Nat}
theorem wi_cell (h : b ≠ c) : (wi S c t j l).cell b o = S.cell b o := by
  unfold Mem.cell wi; rw [set_ne h]
theorem before_spec {S : Mem} {x y : Al} {Q : Bool → Mem → Prop} (hQ : Q (bf x y) S) : alarm_Alarm_before S (ce x) (ce y) Q := by
  apply t_alarm_Alarm_before
  unfold b_alarm_Alarm_before
  refine ⟨rfl, rfl, ?_⟩
  simp only [jn]
  rw [gI_i (show nthL (ce x) 0 = some (.int .u64 x.tm) from rfl), gI_i (show nthL (ce y) 0 = some (.int .u64 y.tm) from rfl)]
  unfold bf at hQ
  by_cases h1 : x.tm ≠ y.tm
  · rw [if_pos h1] at hQ ⊢
    rw [gI_i (show nthL (ce x) 0 = some (.int .u64 x.tm) from rfl), gI_i (show nthL (ce y) 0 = some (.int .u64 y.tm) from rfl)]
    exact hQ
  · rw [if_neg h1] at hQ ⊢
    rw [gI_i (show nthL (ce x) 1 = some (.int .i64 x.vm) from rfl), gI_i (show nthL (ce y) 1 = some (.int .i64 y.vm) from rfl)]
    by_cases h2 : x.vm ≠ y.vm
    · rw [if_pos h2] at hQ ⊢
      rw [gI_i (show nthL (ce x) 1 = some (.int .i64 x.vm) from rfl), gI_i (show nthL (ce y) 1 = some (.int .i64 y.vm) from rfl)]
      exact hQ
    · rw [if_neg h2] at hQ ⊢
      rw [gI_i (show nthL (ce x) 2 = some (.int .i64 x.seat) from rfl), gI_i (show nthL (ce y) 2 = some (.int .i64 y.seat) from rfl)]
      exact hQ
theorem wi_part {i : Nat} (h : i < l.length) : (wi S c t j l).part c (0 + i * 3) 3 = some (ce (gt l i)) := by
  rw [part_of wi_c, Nat.zero_add]; exact fl_part h
theorem wi_put {i : Nat} {a : Al} {K : Mem → Prop} (h : i < l.length) (hK : K (wi S c t j (l.set i a))) : pt (wi S c t j l) c (0 + i * 3) 3 (ce a) K := by
  have hln := fl_length l
  refine pt_i (t := t) (cs := fl l ++ j) wi_c (by simp only [List.length_append]; omega) ?_
  rw [Nat.zero_add, fl_set h]
  simpa [wi] using hK
theorem less_at {cap : Nat} {x y : Nat} (hx : x < l.length) (hy : y < l.length) (hn : n = l.length) {Q : Bool → Mem → Prop} (hQ : Q (bf (gt l x) (gt l y)) (wi S c t j l)) : alarm_row_Less (wi S c t j l) ⟨some (c, 0), n, cap⟩ x y Q := by
  apply t_alarm_row_Less
  unfold b_alarm_row_Less
  rw [sl_i]
  refine ⟨by omega, by omega, ?_⟩
  rw [Int.toNat_natCast, gA_i (wi_part hx)]
  refine ⟨by omega, by omega, ?_⟩
  rw [Int.toNat_natCast, gA_i (wi_part hy)]
  exact before_spec hQ
theorem swap_at {cap : Nat} {x y : Nat} (hx : x < l.length) (hy : y < l.length) (hn : n = l.length) {Q : Mem → Prop} (hQ : Q (wi S c t j (sw l x y))) : alarm_row_Swap (wi S c t j l) ⟨some (c, 0), n, cap⟩ x y Q := by
  apply t_alarm_row_Swap
  unfold b_alarm_row_Swap
  rw [sl_i]
  refine ⟨by omega, by omega, ?_⟩
  rw [Int.toNat_natCast, Int.toNat_natCast, gA_i (wi_part hy)]
  refine ⟨by omega, by omega, ?_⟩
  rw [gA_i (wi_part hx)]
  refine ⟨by omega, by omega, ce_one _, wi_put hx ?_⟩
  refine ⟨by omega, by omega, ce_one _, wi_put (by simpa using hy) ?_⟩
  exact hQ
/-- The interface value of a clock's row. -/
abbrev rw_ (b o : Nat) : Value := .iface 148 (.pointer (some ⟨b, o, none⟩))
theorem ci_less (hr : Ro S b o c t s l.length) {x y : Nat} (hx : x < l.length) (hy : y < l.length) {R : Value → Mem → Prop} (hR : R (.bool (bf (gt l x) (gt l y))) (wi S c t j l)) : ci Try.prog (wi S c t j l) (rw_ b o) "Less" [.int .i64 x, .int .i64 y] R := by
  obtain ⟨p, n, cap⟩ := s
  obtain ⟨h1, h2, h3, h4⟩ := hr
  simp only at h2 h3
  subst h2; subst h3
  exact ci_V (v := eL ⟨some (c, 0), l.length, cap⟩) (by rw [wi_cell h4]; exact h1) (Tr.mono (less_at hx hy rfl (Q := fun r S' => R (.bool r) S') hR) (by rintro v S' ⟨r, rfl, h⟩; exact h))
theorem ci_swap (hr : Ro S b o c t s l.length) {x y : Nat} (hx : x < l.length) (hy : y < l.length) {R : Value → Mem → Prop} (hR : R (.tuple #[]) (wi S c t j (sw l x y))) : ci Try.prog (wi S c t j l) (rw_ b o) "Swap" [.int .i64 x, .int .i64 y] R := by
  obtain ⟨p, n, cap⟩ := s
  obtain ⟨h1, h2, h3, h4⟩ := hr
  simp only at h2 h3
  subst h2; subst h3
  exact ci_V (v := eL ⟨some (c, 0), l.length, cap⟩) (by rw [wi_cell h4]; exact h1) (Tr.mono (swap_at hx hy rfl (Q := fun S' => R (.tuple #[]) S') hR) (by rintro v S' ⟨rfl, h⟩; exact h))
theorem ci_len (hr : S.cell b o = some (eL s)) {R : Value → Mem → Prop} (hR : R (.int .i64 s.n) S) : ci Try.prog S (rw_ b o) "Len" [] R :=
  ci_V hr (Tr.mono (t_alarm_row_Len (S := S) (r := s) (Q := fun r S' => R (.int .i64 r) S') hR) (by rintro v S' ⟨r, rfl, h⟩; exact h))
theorem Ro.len (hr : Ro S b o c t s n) {m : Nat} (h : m = n) : Ro S b o c t s m := h ▸ hr
theorem down_spec (hr : Ro S b o c t s l.length) {lo n : Nat} (hn : n ≤ l.length) (hlo : lo < l.length) (hl : l.length < 1000000) (h : HpF bf l n (lo + 1)) {Q : Bool → Mem → Prop}
    (hQ : ∀ r l', l'.Perm l → HpF bf l' n lo → (∀ k, n ≤ k → gt l' k = gt l k) → Q r (wi S c t j l')) : heap_down (wi S c t j l) (rw_ b o) lo n Q := by
  apply t_heap_down
  unfold b_heap_down
  simp only [jn]
  refine lp_rule (fun (z : Int) S' => ∃ (i : Nat) (l' : List Al), z = (i : Int) ∧ S' = wi S c t j l' ∧ l'.Perm l ∧ Dn bf l' n lo i ∧ i < l.length ∧ (∀ k, n ≤ k → gt l' k = gt l k)) (fun z => (l.length - z).toNat) ?_
    ⟨lo, l, rfl, rfl, List.Perm.refl _, Dn.start h, hlo, fun _ _ => rfl⟩
  rintro X z S' ⟨i, l', rfl, rfl, hp, hd, hi, hk⟩ ih
  have hlen := hp.length_eq
  have hr' : Ro S b o c t s l'.length := hr.len hlen
  rw [w64 (x := 2 * (i : Int)) (by omega) (by omega), w64 (x := 2 * (i : Int) + 1) (by omega) (by omega), w64 (x := 2 * (i : Int) + 1 + 1) (by omega) (by omega)]
  by_cases h1 : (n : Int) ≤ 2 * (i : Int) + 1
  · rw [if_pos h1]
    exact hQ _ l' hp (hd.leaf (by omega)) hk
  rw [if_neg h1, if_neg (by omega : ¬ 2 * (i : Int) + 1 < 0)]
  have e1 : 2 * (i : Int) + 1 = ((2 * i + 1 : Nat) : Int) := by omega
  have e2 : 2 * (i : Int) + 1 + 1 = ((2 * i + 2 : Nat) : Int) := by omega
  rw [e2, e1]
  have rest : ∀ jx : Nat, (jx = 2 * i + 1 ∨ jx = 2 * i + 2) → jx < n → (∀ k, k = 2 * i + 1 ∨ k = 2 * i + 2 → k < n → bf (gt l' k) (gt l' jx) = false) →
      ci Try.prog (wi S c t j l') (rw_ b o) "Less" [.int .i64 (jx : Int), .int .i64 (i : Int)] (fun rv Sx_4 => ∃ t_1 : Bool, rv = .bool t_1 ∧ 
              if t_1 = true then
                ci Try.prog Sx_4 (rw_ b o) "Swap" [.int .i64 (i : Int), .int .i64 (jx : Int)] fun rv Sx_5 => rv = .tuple #[] ∧ 
                X jx Sx_5
              else
              Q (decide ((lo : Int) < i)) Sx_4) := by
    intro jx hj hjn hm
    refine ci_less hr' (by omega) (by omega) ⟨_, rfl, ?_⟩
    by_cases hs : bf (gt l' jx) (gt l' i) = true
    · rw [if_pos hs]
      refine ci_swap hr' (by omega) (by omega) ⟨rfl, ?_⟩
      refine ih _ _ ⟨jx, _, rfl, rfl, (sw_perm (by omega) (by omega)).trans hp, hd.next bf_ord (by omega) hjn hj hm hs, by omega, fun k hkn => ?_⟩ (by omega)
      rw [gt_sw (by omega) (by omega), if_neg (by omega), if_neg (by omega)]
      exact hk k hkn
    · rw [if_neg hs]
      exact hQ _ l' hp (hd.stop bf_ord hm (by simpa using hs)) hk
  by_cases h2 : ((2 * i + 2 : Nat) : Int) < n
  · rw [if_pos h2]
    refine ci_less hr' (by omega) (by omega) ⟨_, rfl, ?_⟩
    by_cases hs : bf (gt l' (2 * i + 2)) (gt l' (2 * i + 1)) = true
    · rw [if_pos hs]
      refine rest _ (.inr rfl) (by omega) ?_
      rintro k (rfl | rfl) hkn
      · exact bf_ord.asym _ _ hs
      · exact bf_irr _
    · rw [if_neg hs]
      refine rest _ (.inl rfl) (by omega) ?_
      rintro k (rfl | rfl) hkn
      · exact bf_irr _
      · simpa using hs
  · rw [if_neg h2]
    refine rest _ (.inl rfl) (by omega) ?_
    rintro k (rfl | rfl) hkn
    · exact bf_irr _
    · omega
theorem up_spec (hr : Ro S b o c t s l.length) {x : Nat} (hx : x < l.length) (hl : l.length < 1000000) (h : Up bf l x) {Q : Mem → Prop}
    (hQ : ∀ l', l'.Perm l → Heap bf l' → Q (wi S c t j l')) : heap_up (wi S c t j l) (rw_ b o) x Q := by
  apply t_heap_up
  unfold b_heap_up
  simp only [jn]
  refine lp_rule (fun (z : Int) S' => ∃ (i : Nat) (l' : List Al), z = (i : Int) ∧ S' = wi S c t j l' ∧ l'.Perm l ∧ Up bf l' i ∧ i < l.length) (fun z => z.toNat) ?_ ⟨x, l, rfl, rfl, List.Perm.refl _, h, hx⟩
  rintro X z S' ⟨i, l', rfl, rfl, hp, hu, hi⟩ ih
  have hlen := hp.length_eq
  have hr' : Ro S b o c t s l'.length := hr.len hlen
  rw [w64 (x := (i : Int) - 1) (by omega) (by omega)]
  by_cases h0 : i = 0
  · subst h0
    rw [if_pos (by decide)]
    exact hQ l' hp hu.top
  have e : IntKind.i64.wrap (Int.tdiv ((i : Int) - 1) 2) = (((i - 1) / 2 : Nat) : Int) := by
    rw [td (by omega), w64 (by omega) (by omega)]; omega
  rw [e, if_neg (by omega)]
  refine ci_less hr' (by omega) (by omega) ⟨_, rfl, ?_⟩
  by_cases hs : bf (gt l' i) (gt l' ((i - 1) / 2)) = true
  · rw [if_pos hs]
    refine ci_swap hr' (by omega) (by omega) ⟨rfl, ?_⟩
    exact ih _ _ ⟨_, _, rfl, rfl, (sw_perm (by omega) (by omega)).trans hp, hu.next bf_ord (by omega) (by omega) hs, by omega⟩ (by omega)
  · rw [if_neg hs]
    exact hQ l' hp (hu.stop (by simpa using hs))
theorem init_spec (hr : Ro S b o c t s l.length) (hl : l.length < 1000000) {Q : Mem → Prop} (hQ : ∀ l', l'.Perm l → Heap bf l' → Q (wi S c t j l')) : heap_Init (wi S c t j l) (rw_ b o) Q := by
  apply t_heap_Init
  unfold b_heap_Init
  refine ci_len (s := s) (by rw [wi_cell hr.ne]; exact hr.cell) ⟨_, rfl, ?_⟩
  rw [hr.n, td (by omega), w64 (x := (l.length : Int) / 2) (by omega) (by omega), w64 (by omega) (by omega)]
  refine lp_rule (fun (z : Int) S' => ∃ (i : Nat) (l' : List Al), z = (i : Int) - 1 ∧ S' = wi S c t j l' ∧ l'.Perm l ∧ HpF bf l' l.length i ∧ i ≤ l.length / 2) (fun z => (z + 1).toNat) ?_ ⟨l.length / 2, l, by omega, rfl, List.Perm.refl _, HpF.leafs, by omega⟩
  rintro X z S' ⟨i, l', rfl, rfl, hp, hh, hi⟩ ih
  have hlen := hp.length_eq
  by_cases h0 : 0 ≤ (i : Int) - 1
  · rw [if_pos h0]
    have e : (i : Int) - 1 = ((i - 1 : Nat) : Int) := by omega
    rw [e]
    refine down_spec (hr.len hlen) (by omega) (by omega) (by omega) (by rw [show i - 1 + 1 = i by omega]; exact hh) fun r l2 hp2 hh2 _ => ?_
    rw [w64 (by omega) (by omega)]
    exact ih _ _ ⟨i - 1, l2, by omega, rfl, hp2.trans hp, hh2, by omega⟩ (by omega)
  · rw [if_neg h0]
    have : i = 0 := by omega
    subst this
    exact hQ l' hp (by unfold Heap; rw [hlen]; exact hh)
end
end Go.Proofs.Ytpilffakhkagjaa
