/- TextLists: whatever the bytes, the call returns true, and the argument reads behind it as before. The condition: the program's variables hold what its text lays (tied by the given card). -/
import Derived.Test.YtpilffakhkagjaaDoorTxJ
import Derived.Test.YtpilffakhkagjaaDoorTie
import Derived.Test.YtpilffakhkagjaaDoorCards
import Derived.SevenTiedAt
namespace Go.Proofs.YtpilffakhkagjaaDoor
open Go.ChangeShapes Go.WideShapes Go.ChangeAt Go.RowKit Go.Pt Go.Tx
theorem textLists_own : ownKnob Tryd.prog.godebug = none := by kernel_rfl
theorem textLists_laid : laidOutB Tryd.prog = true := by kernel_rfl
set_option maxRecDepth 100000 in
theorem textLists_lifted (os : Os) (started : os.Started) (H : Type) (enc : TypeId × Value → H) :
    ReturnsInHanded {} Tryd.checked os 4 .any (fun w args => (Rows.textListsSpec.pre enc Tryd.prog Tryd.f4 Rows.textListsRow.domain false w args ∧ laidMetH Tryd.prog Rows.textListsRow.laid w) ∧ sizedMet enc Tryd.prog Tryd.f4 (OpenSpec.ofChange Rows.textListsSpec) false w args)
      (Rows.textListsSpec.post enc Tryd.prog Tryd.f4 false true false false) := by
  refine handed_both (C := Tryd.checked) (X := fun w _ => laidMetH Tryd.prog Rows.textListsRow.laid w) (fun _ _ _ hh h => h.of_heap hh) textLists_own started (by kernel_rfl) Tryd.func4
    (ChangeSpec.witness_shaped (enc := enc) (C := Tryd.checked) (os := os) (X := fun w _ => laidMetH Tryd.prog Rows.textListsRow.laid w) false (World.laidAll Tryd.prog os Rows.textListsRow.laid) #[.slice none 0 0] 8 (World.laidAll_os _ _ _)
      (World.shaped_of_ZipB (by kernel_rfl) (by kernel_rfl)) (by kernel_rfl) (by kernel_rfl) (by kernel_rfl)
      (by rw [MakeChecks.laidMetH_plain _ _ _ (by kernel_rfl)]; exact laidMet_laidAll _ (by kernel_rfl) (by kernel_rfl))) ?_
  intro W base args ds gs before hval0 hW hL hsh
  have hval : ∀ (j : Nat) t v, Tryd.f4.params[j]? = some t → args[j]? = some v → Value.okWide Tryd.prog W .any base t v := hval0
  have hW' := hW
  obtain ⟨p, q, hA0, hV, rfl, _, _⟩ := hW
  have hA : DataW.TrodAll enc Tryd.prog W 0 (fun _ => true) true Tryd.f4.params.toList args.toList ds p := hA0
  rw [Tryd.params4] at hA hval
  obtain ⟨v0, d0, rfl, rfl, h0⟩ := trodAll_one hA
  obtain ⟨rfl, rfl⟩ := trodVars_none hV
  have hlt : ∀ x ∈ p, x.block < W.heap.size := fun x hx => by simpa using hW'.lt x (by simpa using hx)
  obtain ⟨l0, xs0, rfl, in0⟩ := open_by Tryd.underlying34 Tryd.underlying5 (by kernel_rfl) (hval 0 34 v0 rfl rfl) h0
  have h0k := h0
  have hg := gl_of_laid hL hsh
  clear hA0 hval0
  simp only [List.append_nil] at hW'
  refine (calls_of_tr (u := .bool true) (args := [eL l0]) (Tr.mono (textLists_law hg in0) (by rintro v S' ⟨r, rfl, rfl, hk⟩; exact ⟨rfl, hk⟩)) : Calls Tryd.prog 4 _ W _).mono fun e W' ⟨he, hb⟩ => ?_
  subst he
  exact ⟨_, rfl, _, _, _, [], _, [], hW', trodAll_mk1 (shut_bool Tryd.underlying4 _), trodAll_mk1 (Below.trod textLists_laid (by kernel_rfl) (of_decide_eq_true (by kernel_rfl)) h0k hb fun x hx => hlt x (by simp [hx])), rfl, hb.frame _, fun h => by cases h⟩
theorem textLists_said : Rows.TextListsSaid :=
  OpenClaim.holds_of_wide 4 Tryd.f4 rfl rfl rfl rfl rfl rfl rfl ⟨rfl, rfl, rfl, rfl, rfl⟩ rfl rfl rfl rfl rfl (by kernel_rfl) Tryd.func4 (by kernel_rfl)
    (of_decide_eq_true (by kernel_rfl)) (by unfold Func.isWrapper; first | (rw [if_pos (by decide +kernel)]; kernel_rfl) | (rw [if_neg (by decide +kernel)]; exact ⟨rfl, rfl⟩))
    (fun os started H enc _ => textLists_lifted os started H enc)
theorem textLists_holds : Rows.TextListsCardSaid :=
  Claim7.holds_tied_plain_at .later [] [.data, .data, .data, .data, .sentinel, .sentinel, .data, .pinned] true (true, "93d09faf2816231ac1ad36b2b31219e4c1b2a88139068f656df0714664f4c972") true textLists_said (fun _ h => by cases h) (by kernel_rfl) (fun _ h => by cases h) textLists_row_tie rfl ⟨rfl, rfl⟩ (by kernel_rfl) rfl
    (fun f fn hf hfn => by
      obtain rfl : f = 4 := Option.some.inj ((show Tryd.prog.funcNamed "hermitcrab/hermitcrablaw03.TextLists" = some 4 by kernel_rfl).symm.trans hf) |>.symm
      obtain rfl : fn = Tryd.f4 := (Option.some.inj (Tryd.func4.symm.trans hfn)).symm
      exact ⟨by kernel_rfl, fun j t ht => by
        rw [Tryd.params4] at ht
        have hm : t ∈ [34] := by simpa using Array.mem_of_getElem? ht
        have hall : ([34].all fun u => !Tryd.prog.wantsStandIn u) = true := by kernel_rfl
        exact (show Tryd.prog.wantsStandIn t = false by simpa using List.all_eq_true.1 hall t hm)⟩)
    (by kernel_rfl)
#print axioms textLists_holds
end Go.Proofs.YtpilffakhkagjaaDoor
