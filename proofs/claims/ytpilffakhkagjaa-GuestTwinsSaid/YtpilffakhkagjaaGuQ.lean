/- The law's state, in full: begun. -/
import Derived.Test.YtpilffakhkagjaaGuP
namespace Go.Proofs.Ytpilffakhkagjaa
open Go Go.Pt
/-- A VM that is off. -/
def va0 : Va := ⟨false, 0, 0, 0, [], [], [], [], [], []⟩
def vs0 : Vs := ⟨⟨none, 0, 0⟩, ⟨none, 0, 0⟩, ⟨none, 0, 0⟩, ⟨none, 0, 0⟩, ⟨none, 0, 0⟩, ⟨none, 0, 0⟩⟩
theorem vc0 : vc va0 vs0 = vm0 := rfl
theorem va0_ok : VaOk va0 := ⟨by simp [va0], by simp [va0], ⟨by simp [va0], by simp [va0]⟩, ⟨by simp [va0], by simp [va0]⟩, ⟨by simp [va0], by simp [va0]⟩, ⟨by simp [va0], by simp [va0]⟩, ⟨by simp [va0], by simp [va0]⟩⟩
theorem vm0_is {S : Mem} : VmIs S va0 vs0 := ⟨Row.nil, Row.nil, Row.nil, Row.nil, Row.nil, Row.nil⟩
theorem z256_b : z256 = bL (List.replicate 256 0) := by kernel_rfl
/-- Is the draft's VM on? -/
def onb (d : List Value) (j : Nat) : Bool := match nthL d j with
  | some (.bool v) => v
  | _ => false
/-- What a draft's VM is. -/
structure Good (d : List Value) (nk j : Nat) (a : Va) : Prop where
  on : a.on = onb d j
  full : a.on = true → (∃ e r, a.seats = e :: r ∧ Seat0 e) ∧ a.keys.length = nk ∧ a.d1 = List.replicate 256 0 ∧ a.d3 = List.replicate 256 0
/-- A VM of a state is another one. -/
theorem vmsOf_set {as_ : List Va} {xs : List Vs} {i : Nat} (a : Va) (x : Vs) : (vmsOf as_ xs).set i (vc a x) = vmsOf (as_.set i a) (xs.set i x) := by
  apply List.ext_getElem?
  intro k
  simp only [vmsOf, List.getElem?_set, List.getElem?_zipWith, List.length_zipWith]
  by_cases hk : i = k
  · subst hk
    simp only [if_true]
    by_cases h1 : i < as_.length <;> by_cases h2 : i < xs.length <;> simp [h1, h2] <;> omega
  · simp [hk]
end Go.Proofs.Ytpilffakhkagjaa
