/- AlarmPlays: whatever the acts, the call returns true, and the argument reads behind it as before. No condition. -/
import Derived.Test.YtpilffakhkagjaaAlY
import Derived.Test.YtpilffakhkagjaaRows
namespace Go.Proofs.Ytpilffakhkagjaa
open Go.ChangeShapes Go.WideShapes Go.ChangeAt Go.RowKit Go.Pt
theorem alarmPlays_own : ownKnob Try.prog.godebug = none := by kernel_rfl
theorem alarmPlays_laid : laidOutB Try.prog = true := by kernel_rfl
set_option maxRecDepth 100000 in
theorem alarmPlays_lifted (os : Os) (started : os.Started) (H : Type) (enc : TypeId × Value → H) :
    ReturnsInHanded {} Try.checked os 8 .any (Rows.alarmPlaysSpec.pre6 enc Try.prog Try.f8 Rows.alarmPlaysRow.domain false) (Rows.alarmPlaysSpec.post enc Try.prog Try.f8 false true false false) := by
  refine returnsInHanded_of_change (C := Try.checked) alarmPlays_own started (by kernel_rfl) Try.func8
    (ChangeSpec.witness6 (enc := enc) (C := Try.checked) false ⟨#[], #[.slice none 0 0], []⟩ 8 (by kernel_rfl) (by kernel_rfl) (by kernel_rfl) (by kernel_rfl)) ?_
  intro W base args ds gs before hval0 hW _ _
  have hval : ∀ (j : Nat) t v, Try.f8.params[j]? = some t → args[j]? = some v → Value.okWide Try.prog W .any base t v := hval0
  have hW' := hW
  obtain ⟨p, q, hA0, hV, rfl, _, _⟩ := hW
  have hA : DataW.TrodAll enc Try.prog W 0 (fun _ => true) true Try.f8.params.toList args.toList ds p := hA0
  rw [Try.params8] at hA hval
  obtain ⟨v0, d0, rfl, rfl, h0⟩ := trodAll_one hA
  obtain ⟨rfl, rfl⟩ := trodVars_none hV
  have hlt : ∀ x ∈ p, x.block < W.heap.size := fun x hx => by simpa using hW'.lt x (by simpa using hx)
  obtain ⟨a0, rfl, a0_in⟩ := open_acts (hval 0 97 v0 rfl rfl) h0
  have h0k := h0
  clear hA0 hval0
  simp only [List.append_nil] at hW'
  refine (calls_of_tr (u := .bool true) (args := [eL a0]) (Tr.mono (alarmPlays_law a0_in) (by rintro v S' ⟨r, rfl, rfl, hk⟩; exact ⟨rfl, hk⟩)) : Calls Try.prog 8 _ W _).mono fun e W' ⟨he, hb⟩ => ?_
  subst he
  exact ⟨_, rfl, _, _, _, [], _, [], hW', trodAll_mk1 (shut_bool Try.underlying4 _), trodAll_mk1 (Below.trod alarmPlays_laid (by kernel_rfl) (of_decide_eq_true (by kernel_rfl)) h0k hb fun x hx => hlt x (by simp [hx])), rfl, hb.frame _, fun h => by cases h⟩
theorem alarmPlays_holds : Rows.AlarmPlaysSaid :=
  OpenClaim.holds_of_wide 8 Try.f8 rfl rfl rfl rfl rfl rfl rfl ⟨rfl, rfl, rfl, rfl, rfl⟩ rfl rfl rfl rfl rfl (by kernel_rfl) Try.func8 (by kernel_rfl)
    (of_decide_eq_true (by kernel_rfl)) (by unfold Func.isWrapper; first | (rw [if_pos (by decide +kernel)]; kernel_rfl) | (rw [if_neg (by decide +kernel)]; exact ⟨rfl, rfl⟩))
    (fun os started H enc _ => alarmPlays_lifted os started H enc)
#print axioms alarmPlays_holds
end Go.Proofs.Ytpilffakhkagjaa
