/- ProofArgs: nothing, or as many frames as there are not: whatever the input, the call returns true, and the arguments read behind it as before. The condition: the program's variable holds what its text lays (tied by the given card). -/
import Derived.Test.YtabdpmnhjlmnlaaGreatDoorQAJ
import Derived.Carry
import Derived.Test.YtabdpmnhjlmnlaaGreatDoorTie
import Derived.Test.YtabdpmnhjlmnlaaGreatDoorCards
import Derived.SevenTiedAt
namespace Go.Proofs.YtabdpmnhjlmnlaaGreatDoor
open Go.ChangeShapes Go.WideShapes Go.ChangeAt Go.RowKit Go.Pt
theorem proofArgs_own : ownKnob Tryz.prog.godebug = none := by kernel_rfl
theorem proofArgs_laid : laidOutB Tryz.prog = true := by kernel_rfl
set_option maxRecDepth 100000 in
theorem proofArgs_lifted (os : Os) (started : os.Started) (H : Type) (enc : TypeId × Value → H) :
    ReturnsInHanded {} Tryz.checked os 13 .any (fun w args => (Rows.proofArgsSpec.pre enc Tryz.prog Tryz.f13 Rows.proofArgsRow.domain false w args ∧ laidMetH Tryz.prog Rows.proofArgsRow.laid w) ∧ sizedMet enc Tryz.prog Tryz.f13 (OpenSpec.ofChange Rows.proofArgsSpec) false w args)
      (Rows.proofArgsSpec.post enc Tryz.prog Tryz.f13 false true false false) := by
  refine zaL (C := Tryz.checked) (X := fun w _ => laidMetH Tryz.prog Rows.proofArgsRow.laid w) (fun _ _ _ hh h => h.of_heap hh) proofArgs_own started (by kernel_rfl) Tryz.func13
    (ChangeSpec.witness_shaped (enc := enc) (C := Tryz.checked) (os := os) (X := fun w _ => laidMetH Tryz.prog Rows.proofArgsRow.laid w) false (World.laidAll Tryz.prog os Rows.proofArgsRow.laid) #[.int .u8 0, .int .u8 0] 8 (World.laidAll_os _ _ _)
      (World.shaped_of_ZipB (by kernel_rfl) (by kernel_rfl)) (by kernel_rfl) (by kernel_rfl) (by kernel_rfl)
      (by rw [MakeChecks.laidMetH_plain _ _ _ (by kernel_rfl)]; exact laidMet_laidAll _ (by kernel_rfl) (by kernel_rfl))) ?_
  intro W base args ds gs before hval0 hW hL hsh
  have hval : ∀ (j : Nat) t v, Tryz.f13.params[j]? = some t → args[j]? = some v → Value.okWide Tryz.prog W .any base t v := hval0
  have hW' := hW
  obtain ⟨p, q, hA0, hV, rfl, _, _⟩ := hW
  have hA : DataW.TrodAll enc Tryz.prog W 0 (fun _ => true) true Tryz.f13.params.toList args.toList ds p := hA0
  rw [Tryz.params13] at hA hval
  obtain ⟨v0, v1, d0, d1, p0, p1, rfl, rfl, rfl, h0, h1⟩ := trodAll_two hA
  obtain ⟨rfl, rfl⟩ := trodVars_none hV
  have hlt : ∀ x ∈ p0 ++ (p1), x.block < W.heap.size := fun x hx => by simpa using hW'.lt x (by simpa using hx)
  have h0k := h0
  obtain ⟨a0, rfl, rfl, rfl, w0⟩ := open_int Tryz.underlying5 (hval 0 5 v0 rfl rfl) h0
  have b0 := bounds_u8 w0
  have h1k := h1
  obtain ⟨a1, rfl, rfl, rfl, w1⟩ := open_int Tryz.underlying5 (hval 1 5 v1 rfl rfl) h1
  have b1 := bounds_u8 w1
  have hg := gl_of_laid hL
  clear hA0 hval0
  simp only [List.append_nil] at hW'
  refine (zaV (u := .bool true) (args := [.int .u8 a0, .int .u8 a1]) (Tr.mono (xI (fk hg b0 b1)) (by rintro v S' ⟨r, rfl, rfl, hk⟩; exact ⟨rfl, hk⟩)) : Calls Tryz.prog 13 _ W _).mono fun e W' ⟨he, hb⟩ => ?_
  subst he
  exact ⟨_, rfl, _, _, _, [], _, [], hW', trodAll_mk1 (shut_bool Tryz.underlying4 _), trodAll_mk2 (shut_int Tryz.underlying5 w0) (shut_int Tryz.underlying5 w1), rfl, hb.frame _, fun h => by cases h⟩
theorem proofArgs_j0 : (Rows.proofArgsRow.wf (OpenSpec.ofChange Rows.proofArgsSpec)) = true := by kernel_rfl
theorem proofArgs_j1 : (laidOutB Tryz.prog) = true := by kernel_rfl
theorem proofArgs_j2 : (mapsRowed Tryz.prog) = true := by kernel_rfl
theorem proofArgs_j3 : (Tryz.f13.params.all (Tryz.prog.readableRec ·)) = true := by kernel_rfl
theorem proofArgs_j4 : (namedTie Tryz.prog Rows.proofArgsRow.named Rows.proofArgsSpec.vars) = true := by kernel_rfl
theorem proofArgs_j5 : (Rows.proofArgsRow.stops == []) = true := by kernel_rfl
theorem proofArgs_j6 : (Tryz.prog.stops == []) = true := by kernel_rfl
theorem proofArgs_j7 : (Rows.proofArgsRow.knobs == []) = true := by kernel_rfl
theorem proofArgs_j8 : (Tryz.prog.stopKnobs == []) = true := by kernel_rfl
theorem proofArgs_j9 : (Rows.proofArgsRow.inPlace == Tryz.prog.inPlace 13) = true := by kernel_rfl
theorem proofArgs_j10 : (Rows.proofArgsRow.unfollowed == Tryz.prog.unfollowed 13) = true := by kernel_rfl
theorem proofArgs_j11 : (Rows.proofArgsRow.recurses == Tryz.prog.recurses 13) = true := by kernel_rfl
theorem proofArgs_j12 : (Rows.proofArgsRow.named == Tryz.prog.varsNamed 13) = true := by kernel_rfl
theorem proofArgs_j13 : (Rows.proofArgsRow.maps == (Tryz.f13.params.toList ++ Rows.proofArgsSpec.plain.varTypes Tryz.prog).any (Tryz.prog.mapsRec ·)) = true := by kernel_rfl
theorem proofArgs_j14 : (Rows.proofArgsRow.ifaces == (Tryz.f13.params.toList ++ Rows.proofArgsSpec.plain.varTypes Tryz.prog).any (Tryz.prog.ifacesRec ·)) = true := by kernel_rfl
theorem proofArgs_j15 : (Rows.proofArgsRow.mapsOut == Tryz.prog.mapsAmong Tryz.f13.resultTypes.toList) = true := by kernel_rfl
theorem proofArgs_j16 : (Rows.proofArgsRow.loops == (Tryz.f13.params.toList ++ Rows.proofArgsSpec.plain.varTypes Tryz.prog).any (Tryz.prog.loopsFrom ·)) = true := by kernel_rfl
theorem proofArgs_j17 : (Rows.proofArgsRow.wideKeys == (Tryz.f13.params.toList ++ Rows.proofArgsSpec.plain.varTypes Tryz.prog ++ Tryz.f13.resultTypes.toList).any (Tryz.prog.wideKeysFrom ·)) = true := by kernel_rfl
theorem proofArgs_j18 : (Rows.proofArgsSpec.vars.all (Tryz.prog.varReadable ·)) = true := by kernel_rfl
theorem proofArgs_j19 : (Tryz.f13.resultTypes.all (fun t => Tryz.prog.readableRec t && decide (t < Tryz.prog.types.size))) = true := by kernel_rfl
theorem proofArgs_j20 : (Rows.proofArgsRow.ifacesOut == Tryz.f13.resultTypes.toList.any (Tryz.prog.ifacesRec ·)) = true := by kernel_rfl
theorem proofArgs_j21 : (Rows.proofArgsRow.loopsOut == Tryz.f13.resultTypes.toList.any (Tryz.prog.loopsFrom ·)) = true := by kernel_rfl
theorem proofArgs_j22 : (Rows.proofArgsRow.plainKeys == Tryz.prog.plainKeys) = true := by kernel_rfl
theorem proofArgs_j23 : (Rows.proofArgsRow.shortTexts.isNone) = true := by kernel_rfl
theorem proofArgs_j24 : (Tryz.prog.stopsHeard) = true := by kernel_rfl
theorem proofArgs_j25 : (Tryz.prog.mayEnter) = true := by kernel_rfl
theorem proofArgs_j26 : (Rows.proofArgsRow.lifted == Tryz.prog.liftsFinal) = true := by kernel_rfl
theorem proofArgs_j27 : (Tryz.prog.make == some Rows.proofArgsRow.make) = true := by kernel_rfl
theorem proofArgs_j28 : (Rows.proofArgsRow.kinds == (if Rows.proofArgsRow.domain.isEmpty then [] else Tryz.f13.params.toList.map fun t => match Tryz.prog.underlying t with | some (.int k) => some k | _ => none)) = true := by kernel_rfl
theorem proofArgs_j29 : (Rows.proofArgsRow.pinned == Rows.proofArgsRow.pinnedBy) = true := by kernel_rfl
theorem proofArgs_j30 : (Rows.proofArgsRow.veiled == (Tryz.f13.params.toList ++ Rows.proofArgsSpec.plain.varTypes Tryz.prog ++ Tryz.f13.resultTypes.toList).any (Tryz.prog.veiledRec ·)) = true := by kernel_rfl
theorem proofArgs_j31 : (Rows.proofArgsRow.veiledFits Tryz.prog Tryz.f13.params.toList (Tryz.f13.params.toList ++ Rows.proofArgsSpec.plain.varTypes Tryz.prog ++ Tryz.f13.resultTypes.toList)) = true := by kernel_rfl
set_option maxRecDepth 100000 in
theorem proofArgs_joined : joinedFacts Tryz.prog 13 Tryz.f13 Rows.proofArgsSpec Rows.proofArgsRow = true := (yA (yA (yA (yA (yA (yA (yA (yA (yA (yA (yA (yA (yA (yA (yA (yA (yA (yA (yA (yA (yA (yA (yA (yA (yA (yA (yA (yA (yA (yA (yA proofArgs_j0 proofArgs_j1) proofArgs_j2) proofArgs_j3) proofArgs_j4) proofArgs_j5) proofArgs_j6) proofArgs_j7) proofArgs_j8) proofArgs_j9) proofArgs_j10) proofArgs_j11) proofArgs_j12) proofArgs_j13) proofArgs_j14) proofArgs_j15) proofArgs_j16) proofArgs_j17) proofArgs_j18) proofArgs_j19) proofArgs_j20) proofArgs_j21) proofArgs_j22) proofArgs_j23) proofArgs_j24) proofArgs_j25) proofArgs_j26) proofArgs_j27) proofArgs_j28) proofArgs_j29) proofArgs_j30) proofArgs_j31)
theorem proofArgs_named : Tryz.prog.funcNamed Rows.proofArgsRow.func = some 13 := by kernel_rfl
theorem proofArgs_inst : Tryz.f13.isInstance Tryz.prog Rows.proofArgsRow.origin Rows.proofArgsRow.targs := of_decide_eq_true (by kernel_rfl)
theorem proofArgs_wrap : Tryz.f13.isWrapper Tryz.prog Rows.proofArgsRow.wrapper Rows.proofArgsRow.mainSum := by unfold Func.isWrapper; first | (rw [if_pos (by decide +kernel)]; kernel_rfl) | (rw [if_neg (by decide +kernel)]; exact ⟨rfl, rfl⟩)
theorem proofArgs_said : Rows.ProofArgsSaid :=
  OpenClaim.holds_of_wide 13 Tryz.f13 rfl rfl rfl rfl rfl rfl rfl ⟨rfl, rfl, rfl, rfl, rfl⟩ rfl rfl rfl rfl rfl proofArgs_named Tryz.func13 proofArgs_joined proofArgs_inst proofArgs_wrap
    (fun os started H enc _ => proofArgs_lifted os started H enc)
theorem proofArgs_holds : Rows.ProofArgsCardSaid :=
  Claim7.holds_tied_plain_at .later [] [.data] true (true, "b446bb6fbd90a262edb26febaf697f3423a310bfa096398a4e9a6bc1fd76dc28") true proofArgs_said (fun _ h => by cases h) (by as_aux_lemma => kernel_rfl) (fun _ h => by cases h) proofArgs_row_tie rfl ⟨rfl, rfl⟩ (by as_aux_lemma => kernel_rfl) rfl
    (fun f fn hf hfn => by
      obtain rfl : f = 13 := Option.some.inj (proofArgs_named.symm.trans hf) |>.symm
      obtain rfl : fn = Tryz.f13 := (Option.some.inj (Tryz.func13.symm.trans hfn)).symm
      exact ⟨by as_aux_lemma => kernel_rfl, fun j t ht => by
        rw [Tryz.params13] at ht
        have hm : t ∈ [5, 5] := by simpa using Array.mem_of_getElem? ht
        have hall : ([5, 5].all fun u => !Tryz.prog.wantsStandIn u) = true := by kernel_rfl
        exact (show Tryz.prog.wantsStandIn t = false by simpa using List.all_eq_true.1 hall t hm)⟩)
    (by as_aux_lemma => kernel_rfl)
#print axioms proofArgs_holds
end Go.Proofs.YtabdpmnhjlmnlaaGreatDoor
