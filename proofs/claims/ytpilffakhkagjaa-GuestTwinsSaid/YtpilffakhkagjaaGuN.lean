/- guest.Same. -/
import Derived.Test.YtpilffakhkagjaaGuM
namespace Go.Proofs.Ytpilffakhkagjaa
open Go Go.Pt
section
variable {form now : Int} {vms : List (List Value)} {ow ck : Pt} {le tu : List Value}
theorem stc_le (hv : Vms vms) (hle : le.length = 96) : lpart (stc form now vms ow ck le tu) 75 96 = some le := by
  have hfl := flt_len hv.len
  have h6 := hv.six
  have hl : (vms.flatten ++ [eP ow]).length = 73 := by simp only [List.length_append, List.length_cons, List.length_nil]; omega
  have e : stc form now vms ow ck le tu = .int .i64 form :: .int .u64 now :: ((vms.flatten ++ [eP ow]) ++ (le ++ (eP ck :: tu))) := by simp [stc]
  rw [e, lpart_i (by simp only [List.length_cons, List.length_append] at *; omega)]
  rw [show (75 : Nat) = (73 + 1) + 1 by rfl, List.drop_succ_cons, List.drop_succ_cons, List.drop_left' hl, List.take_left' hle]
theorem stc_tu (hv : Vms vms) (hle : le.length = 96) (htu : tu.length = 18) : lpart (stc form now vms ow ck le tu) 172 18 = some tu := by
  have hfl := flt_len hv.len
  have h6 := hv.six
  have hl : (vms.flatten ++ (eP ow :: (le ++ [eP ck]))).length = 170 := by simp only [List.length_append, List.length_cons, List.length_nil]; omega
  have e : stc form now vms ow ck le tu = .int .i64 form :: .int .u64 now :: ((vms.flatten ++ (eP ow :: (le ++ [eP ck]))) ++ tu) := by simp [stc]
  rw [e, lpart_i (by simp only [List.length_cons, List.length_append] at *; omega)]
  rw [show (172 : Nat) = (170 + 1) + 1 by rfl, List.drop_succ_cons, List.drop_succ_cons, List.drop_left' hl, ← htu, List.take_length]
end
def ckT : List CK := [.i .i64, .i .i64, .i .i64, .i .i64, .i .i64, .i .i64, .i .i64, .i .i64, .i .i64, .i .i64, .i .i64, .i .i64, .i .i64, .i .i64, .i .i64, .i .i64, .i .i64, .i .i64]
/-- A state as it is read. -/
structure Vw (S : Mem) (b ob rb : Nat) (now : Int) (as_ : List Va) (xs : List Vs) (rows : List (List Value)) (ck : Pt) (le tu : List Value) : Prop where
  blk : S b = some (bw 68 (stc 1 now (vmsOf as_ xs) (some (ob, 0)) ck le tu))
  la : as_.length = 6
  lx : xs.length = 6
  is_ : ∀ i (h1 : i < as_.length) (h2 : i < xs.length), VmIs S as_[i] xs[i]
  ok : ∀ a ∈ as_, VaOk a
  bk : Bk S ob rb rows
  rows_ : Rows_ rows
  lrows : rows.length = 20
  le : fits ck63 le = true ∧ le.length = 96
  tu : fits ckT tu = true ∧ tu.length = 18
/-- Two states are one, but for the form, tables, and times. -/
def sameS (as_ as2 : List Va) (rows rows2 : List (List Value)) (le le2 tu tu2 : List Value) : Prop :=
  (∀ i (h1 : i < as_.length) (h2 : i < as2.length), sameA as_[i] as2[i]) ∧ le = le2 ∧ tu = tu2 ∧ ∀ i (h1 : i < rows.length) (h2 : i < rows2.length), alikeR rows[i] rows2[i]
theorem same_spec {S : Mem} {b ob rb b2 ob2 rb2 : Nat} {now now2 : Int} {as_ as2 : List Va} {xs xs2 : List Vs} {rows rows2 : List (List Value)} {ck ck2 : Pt} {le tu le2 tu2 : List Value} (h : Vw S b ob rb now as_ xs rows ck le tu) (k : Vw S b2 ob2 rb2 now2 as2 xs2 rows2 ck2 le2 tu2) {Q : Bool → Mem → Prop}
    (hT : sameS as_ as2 rows rows2 le le2 tu tu2 → Q true S) (hF : ¬ sameS as_ as2 rows rows2 le le2 tu tu2 → Q false S) : guest_Same S (some (b, 0)) (some (b2, 0)) Q := by
  have hv := vmsOf_ok h.la h.lx
  have kv := vmsOf_ok k.la k.lx
  have la := h.la
  have lx := h.lx
  have la2 := k.la
  have lx2 := k.lx
  apply t_guest_Same
  unfold b_guest_Same
  refine jn_cut (fun j => j S) ?_ fun j hj => by rw [if_neg (by simp), if_neg (by simp)]; exact hj
  refine jn_cut (fun j => (∀ i (h1 : i < as_.length) (h2 : i < as2.length), sameA as_[i] as2[i]) → j S) ?_ ?_
  · intro hall
    have f1 := h.le.1
    have f2 := k.le.1
    have f3 := h.tu.1
    have f4 := k.tu.1
    rw [nn_i, gA_i (n := le) (by rw [part_of h.blk]; exact stc_le hv h.le.2), nn_i, gA_i (n := le2) (by rw [part_of k.blk]; exact stc_le kv k.le.2)]
    refine ⟨f1, f2, ?_⟩
    by_cases c1 : le = le2
    case neg => rw [if_neg (fun hq => c1 ((eqL_iff f1 f2).1 hq))]; exact hF fun e => c1 e.2.1
    rw [if_pos ((eqL_iff f1 f2).2 c1), gA_i (n := tu) (by rw [part_of h.blk]; exact stc_tu hv h.le.2 h.tu.2), gA_i (n := tu2) (by rw [part_of k.blk]; exact stc_tu kv k.le.2 k.tu.2)]
    refine ⟨f3, f4, ?_⟩
    by_cases c2 : tu = tu2
    case neg => rw [if_neg (fun hq => c2 ((eqL_iff f3 f4).1 hq))]; exact hF fun e => c2 e.2.2.1
    rw [if_pos ((eqL_iff f3 f4).2 c2)]
    obtain ⟨cap, hrd, hrow⟩ := h.bk.row
    obtain ⟨cap2, hrd2, hrow2⟩ := k.bk.row
    have g1 : S.cell b (0 + 74) = some (eP (some (ob, 0))) := by rw [cell_of h.blk]; exact stc_ow hv
    have g2 : S.cell b2 (0 + 74) = some (eP (some (ob2, 0))) := by rw [cell_of k.blk]; exact stc_ow kv
    rw [gP_i g1, nn_i, gL_i hrd, gP_i g2, nn_i, gL_i hrd2]
    have tail : ∀ r : Bool, Q r S → (S.cell b2 (0 + 74) = some (.pointer (some ⟨ob2, 0, none⟩)) ∧ S.cell b (0 + 74) = some (.pointer (some ⟨ob, 0, none⟩)) ∧ S.part b2 (0 + 172) 18 = some tu2 ∧ S.part b (0 + 172) 18 = some tu ∧ S.part b2 (0 + 75) 96 = some le2 ∧ S.part b (0 + 75) 96 = some le ∧ Q r S) := fun r hq =>
      ⟨g2, g1, by rw [part_of k.blk]; exact stc_tu kv k.le.2 k.tu.2, by rw [part_of h.blk]; exact stc_tu hv h.le.2 h.tu.2, by rw [part_of k.blk]; exact stc_le kv k.le.2, by rw [part_of h.blk]; exact stc_le hv h.le.2, hq⟩
    refine equalRows_spec h.rows_ k.rows_ (by have := h.lrows; omega) hrow hrow2 (fun _ ha => tail _ (hT ⟨hall, c1, c2, ha⟩)) fun hn => tail _ (hF fun e => ?_)
    obtain ⟨i, h1, h2, h3⟩ := hn (by rw [h.lrows, k.lrows])
    exact h3 (e.2.2.2 i h1 h2)
  · intro Jx hJx
    refine lp_rule (fun (z : Int) S' => ∃ i : Nat, z = (i : Int) ∧ i ≤ 6 ∧ S' = S ∧ ∀ j (h1 : j < as_.length) (h2 : j < as2.length), j < i → sameA as_[j] as2[j]) (fun z => (6 - z).toNat) ?_ ⟨0, rfl, by omega, rfl, fun j _ _ hj => by omega⟩
    rintro X z S' ⟨i, rfl, hi, rfl, he⟩ ih
    by_cases hlt : (i : Int) < 6
    · rw [if_pos hlt, nn_i]
      have e1 : (vmsOf as_ xs)[i]'(by rw [hv.six]; omega) = vc (as_[i]'(by omega)) (xs[i]'(by omega)) := by simp [vmsOf]
      have e2 : (vmsOf as2 xs2)[i]'(by rw [kv.six]; omega) = vc (as2[i]'(by omega)) (xs2[i]'(by omega)) := by simp [vmsOf]
      refine ⟨by omega, hlt, ?_⟩
      rw [Int.toNat_natCast, gA_i (n := vc (as_[i]'(by omega)) (xs[i]'(by omega))) (by rw [part_of h.blk, show 0 + 2 + i * 12 = 2 + i * 12 by omega]; rw [← e1]; exact stc_vm hv (by rw [hv.six]; omega)), nn_i]
      refine ⟨by omega, hlt, ?_⟩
      rw [gA_i (n := vc (as2[i]'(by omega)) (xs2[i]'(by omega))) (by rw [part_of k.blk, show 0 + 2 + i * 12 = 2 + i * 12 by omega]; rw [← e2]; exact stc_vm kv (by rw [kv.six]; omega))]
      refine sameVM_spec (h.is_ i (by omega) (by omega)) (k.is_ i (by omega) (by omega)) (h.ok _ (List.getElem_mem _)) (k.ok _ (List.getElem_mem _)) (fun hs => ?_) fun hs => ?_
      · rw [if_pos rfl, w64 (by omega) (by omega)]
        refine ih _ _ ⟨i + 1, by omega, by omega, rfl, fun j h1 h2 hj => ?_⟩ (by omega)
        by_cases e : j = i
        · subst e; exact hs
        · exact he j h1 h2 (by omega)
      · rw [if_neg (by decide)]
        exact hF fun e => hs (e.1 i (by omega) (by omega))
    · rw [if_neg hlt]
      exact hJx fun j h1 h2 => he j h1 h2 (by omega)
end Go.Proofs.Ytpilffakhkagjaa
