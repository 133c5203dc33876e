/- A state's cells; the document's example of guests. -/
import Derived.Test.YtpilffakhkagjaaGuA
import Derived.Test.YtpilffakhkagjaaAlT
import Derived.Test.YtpilffakhkagjaaPfH
namespace Go.Proofs.Ytpilffakhkagjaa
open Go Go.Pt
section
variable {S : Mem}
theorem guest_awake {Q : Bool → Mem → Prop} (hQ : ∀ S', Keeps S S' [] → Q true S') : hermitcrablaw15_awake S Q := by
  apply t_hermitcrablaw15_awake
  unfold b_hermitcrablaw15_awake
  refine make_full (n := 1) (by decide) (by decide) (by decide) (by decide) fun ss b0 b1 b2 b3 S' hM => ?_
  refine ⟨rfl, ?_⟩
  rw [if_pos rfl, gB_i (show nthL (vmL true ss 4 0 ⟨none, 0, 0⟩ (pg b0) (pg b1) (pg b2) (pg b3) 0) 0 = some (.bool true) from rfl), if_pos rfl]
  have h26 : z72.length = 26 := by kernel_rfl
  have hz1 : zrep 1 z72 = z72 := by simp [zrep]
  have hrow := hM.row
  rw [hz1] at hrow
  have hn : ss.n = 1 := by
    have := hrow.len
    rw [h26] at this; omega
  have g1 : nthL (vmL true ss 4 0 ⟨none, 0, 0⟩ (pg b0) (pg b1) (pg b2) (pg b3) 0) 1 = some (eL ss) := rfl
  rw [gL_i g1, if_pos (by omega), gL_i g1]
  rcases hrow.lie with ⟨e1, e2⟩ | ⟨b, k, e1, e2, e3, e4, e5⟩
  · have := hrow.cap; omega
  · have hpt := hrow.part e1
    obtain ⟨p, n, c⟩ := ss
    simp only at e1 hn hpt
    subst e1; subst hn
    rw [sl_i]
    refine ⟨by decide, ?_⟩
    rw [gA_i (by simpa using hpt)]
    refine ⟨by kernel_rfl, ?_⟩
    rw [if_pos (by kernel_rfl), gI_i (n := 4) (show nthL (vmL true ⟨some (b, 0), 1, c⟩ 4 0 ⟨none, 0, 0⟩ (pg b0) (pg b1) (pg b2) (pg b3) 0) 4 = some (.int .i64 4) from rfl), if_pos rfl, gL_i (n := pg b3) (show nthL (vmL true ⟨some (b, 0), 1, c⟩ 4 0 ⟨none, 0, 0⟩ (pg b0) (pg b1) (pg b2) (pg b3) 0) 10 = some (eL (pg b3)) from rfl)]
    exact hQ S' hM.pages.keep
end
/-- A state's cells. -/
def stc (form now : Int) (vms : List (List Value)) (ow ck : Pt) (le tu : List Value) : List Value := .int .i64 form :: .int .u64 now :: (vms.flatten ++ (eP ow :: (le ++ (eP ck :: tu))))
/-- Six VMs of twelve cells. -/
structure Vms (vms : List (List Value)) : Prop where
  six : vms.length = 6
  len : ∀ v ∈ vms, v.length = 12
theorem flt_len {w : Nat} : ∀ {vms : List (List Value)}, (∀ v ∈ vms, v.length = w) → vms.flatten.length = vms.length * w
  | [], _ => by simp
  | v :: vms, h => by
    rw [List.flatten_cons, List.length_append, h v (by simp), flt_len (fun x hx => h x (by simp [hx])), List.length_cons, Nat.add_mul]; omega
theorem flt_split {w : Nat} {vms : List (List Value)} (h : ∀ v ∈ vms, v.length = w) {i : Nat} (hi : i < vms.length) : vms.flatten = (vms.take i).flatten ++ (vms[i] ++ (vms.drop (i + 1)).flatten) ∧ (vms.take i).flatten.length = i * w := by
  constructor
  · have e : vms = vms.take i ++ (vms[i] :: vms.drop (i + 1)) := by rw [List.getElem_cons_drop, List.take_append_drop]
    have e2 := congrArg List.flatten e
    rw [List.flatten_append, List.flatten_cons] at e2
    exact e2
  · rw [flt_len (fun x hx => h x (List.mem_of_mem_take hx)), List.length_take]
    congr 1; omega
section
variable {form now : Int} {vms : List (List Value)} {ow ck : Pt} {le tu : List Value}
theorem stc_length (hv : Vms vms) (hle : le.length = 96) (htu : tu.length = 18) : (stc form now vms ow ck le tu).length = 190 := by
  have := flt_len hv.len
  have h6 := hv.six
  simp only [stc, List.length_cons, List.length_append]
  omega
theorem stc_ow (hv : Vms vms) : nthL (stc form now vms ow ck le tu) 74 = some (eP ow) := by
  have h := flt_len hv.len
  have h6 := hv.six
  rw [nthL_eq]
  simp only [stc]
  rw [show (74 : Nat) = (vms.flatten.length + 0) + 1 + 1 by omega, List.getElem?_cons_succ, List.getElem?_cons_succ, List.getElem?_append_right (by omega)]
  simp
theorem stc_ck (hv : Vms vms) (hle : le.length = 96) : nthL (stc form now vms ow ck le tu) 171 = some (eP ck) := by
  have h := flt_len hv.len
  have h6 := hv.six
  rw [nthL_eq]
  simp only [stc]
  rw [show (171 : Nat) = (vms.flatten.length + 97) + 1 + 1 by omega, List.getElem?_cons_succ, List.getElem?_cons_succ, List.getElem?_append_right (by omega), show vms.flatten.length + 97 - vms.flatten.length = 96 + 1 by omega, List.getElem?_cons_succ, List.getElem?_append_right (by omega)]
  simp [hle]
theorem stc_vm_set (hv : Vms vms) {i : Nat} (hi : i < 6) {v : List Value} (hl : v.length = 12) : spl (stc form now vms ow ck le tu) (2 + i * 12) v = stc form now (vms.set i v) ow ck le tu := by
  have h6 := hv.six
  obtain ⟨e1, e2⟩ := flt_split hv.len (i := i) (by omega)
  have hfl := flt_len hv.len
  have hs : (vms.set i v).flatten = (vms.take i).flatten ++ (v ++ (vms.drop (i + 1)).flatten) := by
    rw [List.set_eq_take_append_cons_drop, if_pos (by omega), List.flatten_append, List.flatten_cons]
  simp only [stc]
  rw [spl_eq _ _ _ (by simp only [List.length_cons, List.length_append]; omega), hs, hl, e1]
  have hvi : (vms[i]'(by omega)).length = 12 := hv.len _ (List.getElem_mem _)
  rw [show 2 + i * 12 = (i * 12 + 1) + 1 by omega, List.take_succ_cons, List.take_succ_cons]
  rw [show i * 12 + 1 + 1 + 12 = (i * 12 + 12) + 1 + 1 by omega, List.drop_succ_cons, List.drop_succ_cons]
  simp only [List.append_assoc, List.cons_append]
  rw [List.take_left' e2, ← List.drop_drop, List.drop_left' e2, List.drop_left' hvi]
theorem Vms.set (hv : Vms vms) {i : Nat} {v : List Value} (hl : v.length = 12) : Vms (vms.set i v) :=
  ⟨by rw [List.length_set]; exact hv.six, fun x hx => by
    rcases List.mem_or_eq_of_mem_set hx with h | h
    · exact hv.len x h
    · rw [h]; exact hl⟩
end
end Go.Proofs.Ytpilffakhkagjaa
