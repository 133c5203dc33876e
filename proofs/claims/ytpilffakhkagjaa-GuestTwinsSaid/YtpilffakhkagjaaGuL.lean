/- A state, in full; State.Twin. -/
import Derived.Test.YtpilffakhkagjaaGuK
namespace Go.Proofs.Ytpilffakhkagjaa
open Go Go.Pt
section
variable {form now : Int} {vms : List (List Value)} {ow ck : Pt} {le tu : List Value}
theorem stc_vm (hv : Vms vms) {i : Nat} (hi : i < vms.length) : lpart (stc form now vms ow ck le tu) (2 + i * 12) 12 = some vms[i] := by
  have h6 := hv.six
  obtain ⟨e1, e2⟩ := flt_split hv.len hi
  have hfl := flt_len hv.len
  have hvi : vms[i].length = 12 := hv.len _ (List.getElem_mem _)
  simp only [stc]
  rw [lpart_i (by simp only [List.length_cons, List.length_append]; omega)]
  congr 1
  rw [show 2 + i * 12 = (i * 12 + 1) + 1 by omega, List.drop_succ_cons, List.drop_succ_cons, e1]
  simp only [List.append_assoc]
  rw [List.drop_left' e2, List.take_left' hvi]
theorem stc_set_ow (hv : Vms vms) (ow' : Pt) : spl (stc form now vms ow ck le tu) 74 [eP ow'] = stc form now vms ow' ck le tu := by
  have hfl := flt_len hv.len
  have h6 := hv.six
  have hl : vms.flatten.length = 72 := by omega
  simp only [stc]
  rw [spl_eq _ _ _ (by simp only [List.length_cons, List.length_append]; omega)]
  simp only [List.length_singleton]
  rw [show (74 : Nat) = (72 + 1) + 1 by rfl, List.take_succ_cons, List.take_succ_cons, List.drop_succ_cons, List.drop_succ_cons, List.take_left' hl, ← List.drop_drop, List.drop_left' hl]
  simp
theorem stc_set_ck (hv : Vms vms) (hle : le.length = 96) (ck' : Pt) : spl (stc form now vms ow ck le tu) 171 [eP ck'] = stc form now vms ow ck' le tu := by
  have hfl := flt_len hv.len
  have h6 := hv.six
  have hl : (vms.flatten ++ (eP ow :: le)).length = 169 := by rw [List.length_append, List.length_cons]; omega
  have e : ∀ c, stc form now vms ow c le tu = .int .i64 form :: .int .u64 now :: ((vms.flatten ++ (eP ow :: le)) ++ (eP c :: tu)) := fun c => by simp [stc]
  rw [e, e]
  rw [spl_eq _ _ _ (by simp only [List.length_cons, List.length_append] at *; omega)]
  simp only [List.length_singleton]
  rw [show (171 : Nat) = (169 + 1) + 1 by rfl, List.take_succ_cons, List.take_succ_cons, List.drop_succ_cons, List.drop_succ_cons, List.take_left' hl, ← List.drop_drop, List.drop_left' hl]
  simp
end
/-- The VMs' cells. -/
def vmsOf (as_ : List Va) (xs : List Vs) : List (List Value) := List.zipWith vc as_ xs
theorem vmsOf_ok {as_ : List Va} {xs : List Vs} (h1 : as_.length = 6) (h2 : xs.length = 6) : Vms (vmsOf as_ xs) := by
  refine ⟨by simp [vmsOf, h1, h2], fun v hv => ?_⟩
  obtain ⟨i, hi, rfl⟩ := List.getElem_of_mem hv
  simp only [vmsOf, List.getElem_zipWith]
  rfl
def blksOf (xs : List Vs) : List Nat := xs.flatMap Vs.blks
/-- A state of one's own, with what its VMs are. -/
structure Stb (S0 S : Mem) (b ob rb kb : Nat) (now : Int) (as_ : List Va) (xs : List Vs) (rows : List (List Value)) (le tu : List Value) (s : Sl) (l : List Al) : Prop where
  st : Stt S0 S b ob rb kb now (vmsOf as_ xs) rows le tu s l
  la : as_.length = 6
  lx : xs.length = 6
  is_ : ∀ i (h1 : i < as_.length) (h2 : i < xs.length), VmIs S as_[i] xs[i]
  ok : ∀ a ∈ as_, VaOk a
  rows_ : Rows_ rows
  lrows : rows.length = 20
  one : le.all (·.oneCell') = true ∧ tu.all (·.oneCell') = true
/-- .. whose VMs' blocks are all others. -/
structure Sta (S0 S : Mem) (b ob rb kb : Nat) (now : Int) (as_ : List Va) (xs : List Vs) (rows : List (List Value)) (le tu : List Value) (s : Sl) (l : List Al) : Prop extends Stb S0 S b ob rb kb now as_ xs rows le tu s l where
  nodup : (blksOf xs).Nodup
  apart : ∀ x ∈ blksOf xs, x ∉ mineS b ob rb kb s ∧ S0 x = none
theorem vc_one (a : Va) (x : Vs) : (vc a x).all (·.oneCell') = true := by
  have h : ∀ s : Sl, (eL s).oneCell' = true := fun s => rfl
  simp only [vc, vmL, List.all_cons, List.all_nil, h, Bool.and_true, Bool.true_and]
  rfl
theorem stc_one {now : Int} {as_ : List Va} {xs : List Vs} {ow ck : Pt} {le tu : List Value} (h1 : le.all (·.oneCell') = true) (h2 : tu.all (·.oneCell') = true) : (stc 1 now (vmsOf as_ xs) ow ck le tu).all (·.oneCell') = true := by
  have hp : ∀ p : Pt, (eP p).oneCell' = true := fun p => rfl
  have hv : ((vmsOf as_ xs).flatten).all (·.oneCell') = true := by
    rw [List.all_eq_true]
    intro x hx
    obtain ⟨v, hv, hx⟩ := List.mem_flatten.1 hx
    obtain ⟨i, hi, rfl⟩ := List.getElem_of_mem hv
    simp only [vmsOf, List.getElem_zipWith] at hx
    exact List.all_eq_true.1 (vc_one _ _) x hx
  simp only [stc, List.all_cons, List.all_append, hv, h1, h2, hp, Bool.and_true]
  rfl
end Go.Proofs.Ytpilffakhkagjaa
