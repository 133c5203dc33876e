/- CrossOthers: the other form, of any number: whatever the input, the call returns true, and the arguments read behind it as before. The condition: the program's variable holds what its text lays (tied by the given card). -/
import Derived.Test.YtabdpmnhjlmnlaaGreatDoorQXG
import Derived.Carry
import Derived.Test.YtabdpmnhjlmnlaaGreatDoorTie
import Derived.Test.YtabdpmnhjlmnlaaGreatDoorCards
import Derived.SevenTiedAt
namespace Go.Proofs.YtabdpmnhjlmnlaaGreatDoor
open Go.ChangeShapes Go.WideShapes Go.ChangeAt Go.RowKit Go.Pt
theorem crossOthers_own : ownKnob Tryz.prog.godebug = none := by kernel_rfl
theorem crossOthers_laid : laidOutB Tryz.prog = true := by kernel_rfl
set_option maxRecDepth 100000 in
theorem crossOthers_lifted (os : Os) (started : os.Started) (H : Type) (enc : TypeId × Value → H) :
    ReturnsInHanded {} Tryz.checked os 12 .any (fun w args => (Rows.crossOthersSpec.pre enc Tryz.prog Tryz.f12 Rows.crossOthersRow.domain false w args ∧ laidMetH Tryz.prog Rows.crossOthersRow.laid w) ∧ sizedMet enc Tryz.prog Tryz.f12 (OpenSpec.ofChange Rows.crossOthersSpec) false w args)
      (Rows.crossOthersSpec.post enc Tryz.prog Tryz.f12 false true false false) := by
  refine jq (C := Tryz.checked) (X := fun w _ => laidMetH Tryz.prog Rows.crossOthersRow.laid w) (fun _ _ _ hh h => h.of_heap hh) crossOthers_own started (by kernel_rfl) Tryz.func12
    (ChangeSpec.witness_shaped (enc := enc) (C := Tryz.checked) (os := os) (X := fun w _ => laidMetH Tryz.prog Rows.crossOthersRow.laid w) false (World.laidAll Tryz.prog os Rows.crossOthersRow.laid) #[.int .i64 0] 8 (World.laidAll_os _ _ _)
      (World.shaped_of_ZipB (by kernel_rfl) (by kernel_rfl)) (by kernel_rfl) (by kernel_rfl) (by kernel_rfl)
      (by rw [MakeChecks.laidMetH_plain _ _ _ (by kernel_rfl)]; exact laidMet_laidAll _ (by kernel_rfl) (by kernel_rfl))) ?_
  intro W base args ds gs before hval0 hW hL hsh
  have hval : ∀ (j : Nat) t v, Tryz.f12.params[j]? = some t → args[j]? = some v → Value.okWide Tryz.prog W .any base t v := hval0
  have hW' := hW
  obtain ⟨p, q, hA0, hV, rfl, _, _⟩ := hW
  have hA : DataW.TrodAll enc Tryz.prog W 0 (fun _ => true) true Tryz.f12.params.toList args.toList ds p := hA0
  rw [Tryz.params12] at hA hval
  obtain ⟨v0, d0, rfl, rfl, h0⟩ := trodAll_one hA
  obtain ⟨rfl, rfl⟩ := trodVars_none hV
  have hlt : ∀ x ∈ p, x.block < W.heap.size := fun x hx => by simpa using hW'.lt x (by simpa using hx)
  have h0k := h0
  obtain ⟨a0, rfl, rfl, rfl, w0⟩ := open_int Tryz.underlying3 (hval 0 3 v0 rfl rfl) h0
  have b0 := bounds_i64 w0
  have hg := gl_of_laid hL
  clear hA0 hval0
  simp only [List.append_nil] at hW'
  refine (jt (u := .bool true) (args := [.int .i64 a0]) (Tr.mono (qG (vu hg)) (by rintro v S' ⟨r, rfl, rfl, hk⟩; exact ⟨rfl, hk⟩)) : Calls Tryz.prog 12 _ W _).mono fun e W' ⟨he, hb⟩ => ?_
  subst he
  exact ⟨_, rfl, _, _, _, [], _, [], hW', trodAll_mk1 (shut_bool Tryz.underlying4 _), trodAll_mk1 (shut_int Tryz.underlying3 w0), rfl, hb.frame _, fun h => by cases h⟩
theorem crossOthers_j0 : (Rows.crossOthersRow.wf (OpenSpec.ofChange Rows.crossOthersSpec)) = true := by kernel_rfl
theorem crossOthers_j1 : (laidOutB Tryz.prog) = true := by kernel_rfl
theorem crossOthers_j2 : (mapsRowed Tryz.prog) = true := by kernel_rfl
theorem crossOthers_j3 : (Tryz.f12.params.all (Tryz.prog.readableRec ·)) = true := by kernel_rfl
theorem crossOthers_j4 : (namedTie Tryz.prog Rows.crossOthersRow.named Rows.crossOthersSpec.vars) = true := by kernel_rfl
theorem crossOthers_j5 : (Rows.crossOthersRow.stops == []) = true := by kernel_rfl
theorem crossOthers_j6 : (Tryz.prog.stops == []) = true := by kernel_rfl
theorem crossOthers_j7 : (Rows.crossOthersRow.knobs == []) = true := by kernel_rfl
theorem crossOthers_j8 : (Tryz.prog.stopKnobs == []) = true := by kernel_rfl
theorem crossOthers_j9 : (Rows.crossOthersRow.inPlace == Tryz.prog.inPlace 12) = true := by kernel_rfl
theorem crossOthers_j10 : (Rows.crossOthersRow.unfollowed == Tryz.prog.unfollowed 12) = true := by kernel_rfl
theorem crossOthers_j11 : (Rows.crossOthersRow.recurses == Tryz.prog.recurses 12) = true := by kernel_rfl
theorem crossOthers_j12 : (Rows.crossOthersRow.named == Tryz.prog.varsNamed 12) = true := by kernel_rfl
theorem crossOthers_j13 : (Rows.crossOthersRow.maps == (Tryz.f12.params.toList ++ Rows.crossOthersSpec.plain.varTypes Tryz.prog).any (Tryz.prog.mapsRec ·)) = true := by kernel_rfl
theorem crossOthers_j14 : (Rows.crossOthersRow.ifaces == (Tryz.f12.params.toList ++ Rows.crossOthersSpec.plain.varTypes Tryz.prog).any (Tryz.prog.ifacesRec ·)) = true := by kernel_rfl
theorem crossOthers_j15 : (Rows.crossOthersRow.mapsOut == Tryz.prog.mapsAmong Tryz.f12.resultTypes.toList) = true := by kernel_rfl
theorem crossOthers_j16 : (Rows.crossOthersRow.loops == (Tryz.f12.params.toList ++ Rows.crossOthersSpec.plain.varTypes Tryz.prog).any (Tryz.prog.loopsFrom ·)) = true := by kernel_rfl
theorem crossOthers_j17 : (Rows.crossOthersRow.wideKeys == (Tryz.f12.params.toList ++ Rows.crossOthersSpec.plain.varTypes Tryz.prog ++ Tryz.f12.resultTypes.toList).any (Tryz.prog.wideKeysFrom ·)) = true := by kernel_rfl
theorem crossOthers_j18 : (Rows.crossOthersSpec.vars.all (Tryz.prog.varReadable ·)) = true := by kernel_rfl
theorem crossOthers_j19 : (Tryz.f12.resultTypes.all (fun t => Tryz.prog.readableRec t && decide (t < Tryz.prog.types.size))) = true := by kernel_rfl
theorem crossOthers_j20 : (Rows.crossOthersRow.ifacesOut == Tryz.f12.resultTypes.toList.any (Tryz.prog.ifacesRec ·)) = true := by kernel_rfl
theorem crossOthers_j21 : (Rows.crossOthersRow.loopsOut == Tryz.f12.resultTypes.toList.any (Tryz.prog.loopsFrom ·)) = true := by kernel_rfl
theorem crossOthers_j22 : (Rows.crossOthersRow.plainKeys == Tryz.prog.plainKeys) = true := by kernel_rfl
theorem crossOthers_j23 : (Rows.crossOthersRow.shortTexts.isNone) = true := by kernel_rfl
theorem crossOthers_j24 : (Tryz.prog.stopsHeard) = true := by kernel_rfl
theorem crossOthers_j25 : (Tryz.prog.mayEnter) = true := by kernel_rfl
theorem crossOthers_j26 : (Rows.crossOthersRow.lifted == Tryz.prog.liftsFinal) = true := by kernel_rfl
theorem crossOthers_j27 : (Tryz.prog.make == some Rows.crossOthersRow.make) = true := by kernel_rfl
theorem crossOthers_j28 : (Rows.crossOthersRow.kinds == (if Rows.crossOthersRow.domain.isEmpty then [] else Tryz.f12.params.toList.map fun t => match Tryz.prog.underlying t with | some (.int k) => some k | _ => none)) = true := by kernel_rfl
theorem crossOthers_j29 : (Rows.crossOthersRow.pinned == Rows.crossOthersRow.pinnedBy) = true := by kernel_rfl
theorem crossOthers_j30 : (Rows.crossOthersRow.veiled == (Tryz.f12.params.toList ++ Rows.crossOthersSpec.plain.varTypes Tryz.prog ++ Tryz.f12.resultTypes.toList).any (Tryz.prog.veiledRec ·)) = true := by kernel_rfl
theorem crossOthers_j31 : (Rows.crossOthersRow.veiledFits Tryz.prog Tryz.f12.params.toList (Tryz.f12.params.toList ++ Rows.crossOthersSpec.plain.varTypes Tryz.prog ++ Tryz.f12.resultTypes.toList)) = true := by kernel_rfl
set_option maxRecDepth 100000 in
theorem crossOthers_joined : joinedFacts Tryz.prog 12 Tryz.f12 Rows.crossOthersSpec Rows.crossOthersRow = true := (qi (qi (qi (qi (qi (qi (qi (qi (qi (qi (qi (qi (qi (qi (qi (qi (qi (qi (qi (qi (qi (qi (qi (qi (qi (qi (qi (qi (qi (qi (qi crossOthers_j0 crossOthers_j1) crossOthers_j2) crossOthers_j3) crossOthers_j4) crossOthers_j5) crossOthers_j6) crossOthers_j7) crossOthers_j8) crossOthers_j9) crossOthers_j10) crossOthers_j11) crossOthers_j12) crossOthers_j13) crossOthers_j14) crossOthers_j15) crossOthers_j16) crossOthers_j17) crossOthers_j18) crossOthers_j19) crossOthers_j20) crossOthers_j21) crossOthers_j22) crossOthers_j23) crossOthers_j24) crossOthers_j25) crossOthers_j26) crossOthers_j27) crossOthers_j28) crossOthers_j29) crossOthers_j30) crossOthers_j31)
theorem crossOthers_named : Tryz.prog.funcNamed Rows.crossOthersRow.func = some 12 := by kernel_rfl
theorem crossOthers_inst : Tryz.f12.isInstance Tryz.prog Rows.crossOthersRow.origin Rows.crossOthersRow.targs := of_decide_eq_true (by kernel_rfl)
theorem crossOthers_wrap : Tryz.f12.isWrapper Tryz.prog Rows.crossOthersRow.wrapper Rows.crossOthersRow.mainSum := by unfold Func.isWrapper; first | (rw [if_pos (by decide +kernel)]; kernel_rfl) | (rw [if_neg (by decide +kernel)]; exact ⟨rfl, rfl⟩)
theorem crossOthers_said : Rows.CrossOthersSaid :=
  OpenClaim.holds_of_wide 12 Tryz.f12 rfl rfl rfl rfl rfl rfl rfl ⟨rfl, rfl, rfl, rfl, rfl⟩ rfl rfl rfl rfl rfl crossOthers_named Tryz.func12 crossOthers_joined crossOthers_inst crossOthers_wrap
    (fun os started H enc _ => crossOthers_lifted os started H enc)
theorem crossOthers_holds : Rows.CrossOthersCardSaid :=
  Claim7.holds_tied_plain_at .later [] [.data] true (true, "b446bb6fbd90a262edb26febaf697f3423a310bfa096398a4e9a6bc1fd76dc28") true crossOthers_said (fun _ h => by cases h) (by as_aux_lemma => kernel_rfl) (fun _ h => by cases h) crossOthers_row_tie rfl ⟨rfl, rfl⟩ (by as_aux_lemma => kernel_rfl) rfl
    (fun f fn hf hfn => by
      obtain rfl : f = 12 := Option.some.inj (crossOthers_named.symm.trans hf) |>.symm
      obtain rfl : fn = Tryz.f12 := (Option.some.inj (Tryz.func12.symm.trans hfn)).symm
      exact ⟨by as_aux_lemma => kernel_rfl, fun j t ht => by
        rw [Tryz.params12] at ht
        have hm : t ∈ [3] := by simpa using Array.mem_of_getElem? ht
        have hall : ([3].all fun u => !Tryz.prog.wantsStandIn u) = true := by kernel_rfl
        exact (show Tryz.prog.wantsStandIn t = false by simpa using List.all_eq_true.1 hall t hm)⟩)
    (by as_aux_lemma => kernel_rfl)
#print axioms crossOthers_holds
end Go.Proofs.YtabdpmnhjlmnlaaGreatDoor
