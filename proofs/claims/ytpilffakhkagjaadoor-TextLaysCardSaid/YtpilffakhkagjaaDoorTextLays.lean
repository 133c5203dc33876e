/- TextLays: whatever the instructions and the blanks, the call returns true, and the arguments read behind it as before. The condition: the program's variables hold what its text lays (tied by the given card). -/
import Derived.Test.YtpilffakhkagjaaDoorTxM
import Derived.Test.YtpilffakhkagjaaDoorTie
import Derived.Test.YtpilffakhkagjaaDoorCards
import Derived.SevenTiedAt
namespace Go.Proofs.YtpilffakhkagjaaDoor
open Go.ChangeShapes Go.WideShapes Go.ChangeAt Go.RowKit Go.Pt Go.Tx
theorem textLays_own : ownKnob Tryd.prog.godebug = none := by kernel_rfl
theorem textLays_laid : laidOutB Tryd.prog = true := by kernel_rfl
set_option maxRecDepth 100000 in
theorem textLays_lifted (os : Os) (started : os.Started) (H : Type) (enc : TypeId × Value → H) :
    ReturnsInHanded {} Tryd.checked os 6 .any (fun w args => (Rows.textLaysSpec.pre enc Tryd.prog Tryd.f6 Rows.textLaysRow.domain false w args ∧ laidMetH Tryd.prog Rows.textLaysRow.laid w) ∧ sizedMet enc Tryd.prog Tryd.f6 (OpenSpec.ofChange Rows.textLaysSpec) false w args)
      (Rows.textLaysSpec.post enc Tryd.prog Tryd.f6 false true false false) := by
  refine handed_both (C := Tryd.checked) (X := fun w _ => laidMetH Tryd.prog Rows.textLaysRow.laid w) (fun _ _ _ hh h => h.of_heap hh) textLays_own started (by kernel_rfl) Tryd.func6
    (ChangeSpec.witness_shaped (enc := enc) (C := Tryd.checked) (os := os) (X := fun w _ => laidMetH Tryd.prog Rows.textLaysRow.laid w) false (World.laidAll Tryd.prog os Rows.textLaysRow.laid) #[.slice none 0 0, .slice none 0 0] 8 (World.laidAll_os _ _ _)
      (World.shaped_of_ZipB (by kernel_rfl) (by kernel_rfl)) (by kernel_rfl) (by kernel_rfl) (by kernel_rfl)
      (by rw [MakeChecks.laidMetH_plain _ _ _ (by kernel_rfl)]; exact laidMet_laidAll _ (by kernel_rfl) (by kernel_rfl))) ?_
  intro W base args ds gs before hval0 hW hL hsh
  have hval : ∀ (j : Nat) t v, Tryd.f6.params[j]? = some t → args[j]? = some v → Value.okWide Tryd.prog W .any base t v := hval0
  have hW' := hW
  obtain ⟨p, q, hA0, hV, rfl, _, _⟩ := hW
  have hA : DataW.TrodAll enc Tryd.prog W 0 (fun _ => true) true Tryd.f6.params.toList args.toList ds p := hA0
  rw [Tryd.params6] at hA hval
  obtain ⟨v0, v1, d0, d1, p0, p1, rfl, rfl, rfl, h0, h1⟩ := trodAll_two hA
  obtain ⟨rfl, rfl⟩ := trodVars_none hV
  have hlt : ∀ x ∈ p0 ++ p1, x.block < W.heap.size := fun x hx => by simpa using hW'.lt x (by simpa using hx)
  obtain ⟨l0, xs0, rfl, in0⟩ := open_ops (hval 0 42 v0 rfl rfl) h0
  have h0k := h0
  obtain ⟨l1, xs1, rfl, in1⟩ := open_by Tryd.underlying34 Tryd.underlying5 (by kernel_rfl) (hval 1 34 v1 rfl rfl) h1
  have h1k := h1
  have hg := gl_of_laid hL hsh
  clear hA0 hval0
  simp only [List.append_nil] at hW'
  refine (calls_of_tr (u := .bool true) (args := [eL l0, eL l1]) (Tr.mono (textLays_law hg in0 in1) (by rintro v S' ⟨r, rfl, rfl, hk⟩; exact ⟨rfl, hk⟩)) : Calls Tryd.prog 6 _ W _).mono fun e W' ⟨he, hb⟩ => ?_
  subst he
  exact ⟨_, rfl, _, _, _, [], _, [], hW', trodAll_mk1 (shut_bool Tryd.underlying4 _), trodAll_mk2 (Below.trod textLays_laid (by kernel_rfl) (of_decide_eq_true (by kernel_rfl)) h0k hb fun x hx => hlt x (by simp [hx])) (Below.trod textLays_laid (by kernel_rfl) (of_decide_eq_true (by kernel_rfl)) h1k hb fun x hx => hlt x (by simp [hx])), rfl, hb.frame _, fun h => by cases h⟩
theorem textLays_said : Rows.TextLaysSaid :=
  OpenClaim.holds_of_wide 6 Tryd.f6 rfl rfl rfl rfl rfl rfl rfl ⟨rfl, rfl, rfl, rfl, rfl⟩ rfl rfl rfl rfl rfl (by kernel_rfl) Tryd.func6 (by kernel_rfl)
    (of_decide_eq_true (by kernel_rfl)) (by unfold Func.isWrapper; first | (rw [if_pos (by decide +kernel)]; kernel_rfl) | (rw [if_neg (by decide +kernel)]; exact ⟨rfl, rfl⟩))
    (fun os started H enc _ => textLays_lifted os started H enc)
theorem textLays_holds : Rows.TextLaysCardSaid :=
  Claim7.holds_tied_plain_at .later [] [.data, .data, .data, .data, .sentinel, .sentinel, .data, .pinned] true (true, "93d09faf2816231ac1ad36b2b31219e4c1b2a88139068f656df0714664f4c972") true textLays_said (fun _ h => by cases h) (by kernel_rfl) (fun _ h => by cases h) textLays_row_tie rfl ⟨rfl, rfl⟩ (by kernel_rfl) rfl
    (fun f fn hf hfn => by
      obtain rfl : f = 6 := Option.some.inj ((show Tryd.prog.funcNamed "hermitcrab/hermitcrablaw03.TextLays" = some 6 by kernel_rfl).symm.trans hf) |>.symm
      obtain rfl : fn = Tryd.f6 := (Option.some.inj (Tryd.func6.symm.trans hfn)).symm
      exact ⟨by kernel_rfl, fun j t ht => by
        rw [Tryd.params6] at ht
        have hm : t ∈ [42, 34] := by simpa using Array.mem_of_getElem? ht
        have hall : ([42, 34].all fun u => !Tryd.prog.wantsStandIn u) = true := by kernel_rfl
        exact (show Tryd.prog.wantsStandIn t = false by simpa using List.all_eq_true.1 hall t hm)⟩)
    (by kernel_rfl)
#print axioms textLays_holds
end Go.Proofs.YtpilffakhkagjaaDoor
