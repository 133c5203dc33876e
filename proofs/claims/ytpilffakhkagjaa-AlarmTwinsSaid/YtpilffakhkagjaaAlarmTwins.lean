/- AlarmTwins: whatever the numbers, the call returns true, and the arguments read behind it as before. No condition. -/
import Derived.Test.YtpilffakhkagjaaAlV
import Derived.Test.YtpilffakhkagjaaRows
namespace Go.Proofs.Ytpilffakhkagjaa
open Go.ChangeShapes Go.WideShapes Go.ChangeAt Go.RowKit Go.Pt
theorem alarmTwins_own : ownKnob Try.prog.godebug = none := by kernel_rfl
theorem alarmTwins_laid : laidOutB Try.prog = true := by kernel_rfl
set_option maxRecDepth 100000 in
theorem alarmTwins_lifted (os : Os) (started : os.Started) (H : Type) (enc : TypeId × Value → H) :
    ReturnsInHanded {} Try.checked os 9 .any (Rows.alarmTwinsSpec.pre6 enc Try.prog Try.f9 Rows.alarmTwinsRow.domain false) (Rows.alarmTwinsSpec.post enc Try.prog Try.f9 false true false false) := by
  refine returnsInHanded_of_change (C := Try.checked) alarmTwins_own started (by kernel_rfl) Try.func9
    (ChangeSpec.witness6 (enc := enc) (C := Try.checked) false ⟨#[], #[.slice none 0 0, .int .u64 0], []⟩ 8 (by kernel_rfl) (by kernel_rfl) (by kernel_rfl) (by kernel_rfl)) ?_
  intro W base args ds gs before hval0 hW _ _
  have hval : ∀ (j : Nat) t v, Try.f9.params[j]? = some t → args[j]? = some v → Value.okWide Try.prog W .any base t v := hval0
  have hW' := hW
  obtain ⟨p, q, hA0, hV, rfl, _, _⟩ := hW
  have hA : DataW.TrodAll enc Try.prog W 0 (fun _ => true) true Try.f9.params.toList args.toList ds p := hA0
  rw [Try.params9] at hA hval
  obtain ⟨v0, v1, d0, d1, p0, p1, rfl, rfl, rfl, h0, h1⟩ := trodAll_two hA
  obtain ⟨rfl, rfl⟩ := trodVars_none hV
  have hlt : ∀ x ∈ p0 ++ p1, x.block < W.heap.size := fun x hx => by simpa using hW'.lt x (by simpa using hx)
  obtain ⟨a0, rfl, a0_in, a0_len⟩ := open_nums Try.underlying87 Try.underlying26 (by kernel_rfl) (hval 0 87 v0 rfl rfl) h0
  have h0k := h0
  have h1k := h1
  obtain ⟨a1, rfl, rfl, rfl, w1⟩ := open_int Try.underlying26 (hval 1 26 v1 rfl rfl) h1
  have b1 := bounds_u64 w1
  clear hA0 hval0
  simp only [List.append_nil] at hW'
  refine (calls_of_tr (u := .bool true) (args := [eL a0, .int .u64 a1]) (Tr.mono (alarmTwins_law a0_in b1.1 b1.2) (by rintro v S' ⟨r, rfl, rfl, hk⟩; exact ⟨rfl, hk⟩)) : Calls Try.prog 9 _ W _).mono fun e W' ⟨he, hb⟩ => ?_
  subst he
  exact ⟨_, rfl, _, _, _, [], _, [], hW', trodAll_mk1 (shut_bool Try.underlying4 _), trodAll_mk2 (Below.trod alarmTwins_laid (by kernel_rfl) (of_decide_eq_true (by kernel_rfl)) h0k hb fun x hx => hlt x (by simp [hx])) (shut_int Try.underlying26 w1), rfl, hb.frame _, fun h => by cases h⟩
theorem alarmTwins_holds : Rows.AlarmTwinsSaid :=
  OpenClaim.holds_of_wide 9 Try.f9 rfl rfl rfl rfl rfl rfl rfl ⟨rfl, rfl, rfl, rfl, rfl⟩ rfl rfl rfl rfl rfl (by kernel_rfl) Try.func9 (by kernel_rfl)
    (of_decide_eq_true (by kernel_rfl)) (by unfold Func.isWrapper; first | (rw [if_pos (by decide +kernel)]; kernel_rfl) | (rw [if_neg (by decide +kernel)]; exact ⟨rfl, rfl⟩))
    (fun os started H enc _ => alarmTwins_lifted os started H enc)
#print axioms alarmTwins_holds
end Go.Proofs.Ytpilffakhkagjaa
