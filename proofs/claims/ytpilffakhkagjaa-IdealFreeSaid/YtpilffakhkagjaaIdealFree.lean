/- IdealFree: whatever the bytes, the call returns true, and the argument reads behind it as before. -/
import Derived.Test.YtpilffakhkagjaaIdT
import Derived.Test.YtpilffakhkagjaaRows
namespace Go.Proofs.Ytpilffakhkagjaa
open Go.ChangeShapes Go.WideShapes Go.ChangeAt Go.RowKit Go.Pt

theorem idealFree_own : ownKnob Try.prog.godebug = none := by kernel_rfl
theorem idealFree_laid : laidOutB Try.prog = true := by kernel_rfl
theorem idealFree_call {W : World} {l : Sl} (hl : BytesIn (memOf W) l) : Calls Try.prog 4 #[eL l] W fun e W' => e = .returned (.bool true) ∧ Below W.heap.size W W' :=
  calls_of_tr (args := [eL l]) (Tr.mono (law_spec hl) (by rintro v S' ⟨r, rfl, rfl, hk⟩; exact ⟨rfl, hk⟩))
set_option maxRecDepth 100000 in
theorem idealFree_lifted (os : Os) (started : os.Started) (H : Type) (enc : TypeId × Value → H) :
    ReturnsInHanded {} Try.checked os 4 .any (Rows.idealFreeSpec.pre6 enc Try.prog Try.f4 Rows.idealFreeRow.domain false) (Rows.idealFreeSpec.post enc Try.prog Try.f4 false true false false) := by
  refine returnsInHanded_of_change (C := Try.checked) idealFree_own started (by kernel_rfl) Try.func4
    (ChangeSpec.witness6 (enc := enc) (C := Try.checked) false ⟨#[], #[.slice none 0 0], []⟩ 8 (by kernel_rfl) (by kernel_rfl) (by kernel_rfl) (by kernel_rfl)) ?_
  intro W base args ds gs before hval0 hW _ _
  have hval : ∀ (j : Nat) t v, Try.f4.params[j]? = some t → args[j]? = some v → Value.okWide Try.prog W .any base t v := hval0
  have hW' := hW
  obtain ⟨p, q, hA0, hV, rfl, _, _⟩ := hW
  have hA : DataW.TrodAll enc Try.prog W 0 (fun _ => true) true Try.f4.params.toList args.toList ds p := hA0
  rw [Try.params4] at hA hval
  obtain ⟨v0, d0, rfl, rfl, h0⟩ := trodAll_one hA
  obtain ⟨rfl, rfl⟩ := trodVars_none hV
  obtain ⟨l, rfl, hl, _⟩ := open_bytes Try.underlying27 Try.underlying5 (by kernel_rfl) (hval 0 27 v0 rfl rfl) h0
  have hlt : ∀ x ∈ p, x.block < W.heap.size := fun x hx => by simpa using hW'.lt x (by simpa using hx)
  clear hA0 hval0
  simp only [List.append_nil] at hW'
  refine (idealFree_call hl).mono fun e W' ⟨he, hb⟩ => ?_
  subst he
  exact ⟨_, rfl, _, _, _, [], p, [], hW', trodAll_mk1 (shut_bool Try.underlying4 _), trodAll_mk1 (Below.trod idealFree_laid (by kernel_rfl) (of_decide_eq_true (by kernel_rfl)) h0 hb hlt), rfl, hb.frame _, fun h => by cases h⟩

theorem idealFree_holds : Rows.IdealFreeSaid :=
  OpenClaim.holds_of_wide 4 Try.f4 rfl rfl rfl rfl rfl rfl rfl ⟨rfl, rfl, rfl, rfl, rfl⟩ rfl rfl rfl rfl rfl (by kernel_rfl) Try.func4 (by kernel_rfl)
    (of_decide_eq_true (by kernel_rfl)) (by unfold Func.isWrapper; first | (rw [if_pos (by decide +kernel)]; kernel_rfl) | (rw [if_neg (by decide +kernel)]; exact ⟨rfl, rfl⟩))
    (fun os started H enc _ => idealFree_lifted os started H enc)
#print axioms idealFree_holds
end Go.Proofs.Ytpilffakhkagjaa
