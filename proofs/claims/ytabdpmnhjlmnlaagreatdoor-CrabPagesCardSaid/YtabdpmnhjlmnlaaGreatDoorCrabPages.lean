/- CrabPages: a guest has as many pages as its quota says: whatever the input, the call returns true, and the arguments read behind it as before. The condition: the program's variable holds what its text lays (tied by the given card). -/
import Derived.Test.YtabdpmnhjlmnlaaGreatDoorQPP
import Derived.Carry
import Derived.Test.YtabdpmnhjlmnlaaGreatDoorTie
import Derived.Test.YtabdpmnhjlmnlaaGreatDoorCards
import Derived.SevenTiedAt
namespace Go.Proofs.YtabdpmnhjlmnlaaGreatDoor
open Go.ChangeShapes Go.WideShapes Go.ChangeAt Go.RowKit Go.Pt
theorem crabPages_own : ownKnob Tryz.prog.godebug = none := by kernel_rfl
theorem crabPages_laid : laidOutB Tryz.prog = true := by kernel_rfl
set_option maxRecDepth 100000 in
theorem crabPages_lifted (os : Os) (started : os.Started) (H : Type) (enc : TypeId × Value → H) :
    ReturnsInHanded {} Tryz.checked os 10 .any (fun w args => (Rows.crabPagesSpec.pre enc Tryz.prog Tryz.f10 Rows.crabPagesRow.domain false w args ∧ laidMetH Tryz.prog Rows.crabPagesRow.laid w) ∧ sizedMet enc Tryz.prog Tryz.f10 (OpenSpec.ofChange Rows.crabPagesSpec) false w args)
      (Rows.crabPagesSpec.post enc Tryz.prog Tryz.f10 false true false false) := by
  refine handed_both (C := Tryz.checked) (X := fun w _ => laidMetH Tryz.prog Rows.crabPagesRow.laid w) (fun _ _ _ hh h => h.of_heap hh) crabPages_own started (by kernel_rfl) Tryz.func10
    (ChangeSpec.witness_shaped (enc := enc) (C := Tryz.checked) (os := os) (X := fun w _ => laidMetH Tryz.prog Rows.crabPagesRow.laid w) false (World.laidAll Tryz.prog os Rows.crabPagesRow.laid) #[.int .u8 0, .int .u8 0] 8 (World.laidAll_os _ _ _)
      (World.shaped_of_ZipB (by kernel_rfl) (by kernel_rfl)) (by kernel_rfl) (by kernel_rfl) (by kernel_rfl)
      (by rw [MakeChecks.laidMetH_plain _ _ _ (by kernel_rfl)]; exact laidMet_laidAll _ (by kernel_rfl) (by kernel_rfl))) ?_
  intro W base args ds gs before hval0 hW hL hsh
  have hval : ∀ (j : Nat) t v, Tryz.f10.params[j]? = some t → args[j]? = some v → Value.okWide Tryz.prog W .any base t v := hval0
  have hW' := hW
  obtain ⟨p, q, hA0, hV, rfl, _, _⟩ := hW
  have hA : DataW.TrodAll enc Tryz.prog W 0 (fun _ => true) true Tryz.f10.params.toList args.toList ds p := hA0
  rw [Tryz.params10] at hA hval
  obtain ⟨v0, v1, d0, d1, p0, p1, rfl, rfl, rfl, h0, h1⟩ := trodAll_two hA
  obtain ⟨rfl, rfl⟩ := trodVars_none hV
  have hlt : ∀ x ∈ p0 ++ (p1), x.block < W.heap.size := fun x hx => by simpa using hW'.lt x (by simpa using hx)
  have h0k := h0
  obtain ⟨a0, rfl, rfl, rfl, w0⟩ := open_int Tryz.underlying5 (hval 0 5 v0 rfl rfl) h0
  have b0 := bounds_u8 w0
  have h1k := h1
  obtain ⟨a1, rfl, rfl, rfl, w1⟩ := open_int Tryz.underlying5 (hval 1 5 v1 rfl rfl) h1
  have b1 := bounds_u8 w1
  have hg := gl_of_laid hL
  clear hA0 hval0
  simp only [List.append_nil] at hW'
  refine (calls_of_tr (u := .bool true) (args := [.int .u8 a0, .int .u8 a1]) (Tr.mono (t_hermitcrablaw16_CrabPages (crabPages_law hg b0 b1)) (by rintro v S' ⟨r, rfl, rfl, hk⟩; exact ⟨rfl, hk⟩)) : Calls Tryz.prog 10 _ W _).mono fun e W' ⟨he, hb⟩ => ?_
  subst he
  exact ⟨_, rfl, _, _, _, [], _, [], hW', trodAll_mk1 (shut_bool Tryz.underlying4 _), trodAll_mk2 (shut_int Tryz.underlying5 w0) (shut_int Tryz.underlying5 w1), rfl, hb.frame _, fun h => by cases h⟩
theorem crabPages_j0 : (Rows.crabPagesRow.wf (OpenSpec.ofChange Rows.crabPagesSpec)) = true := by kernel_rfl
theorem crabPages_j1 : (laidOutB Tryz.prog) = true := by kernel_rfl
theorem crabPages_j2 : (mapsRowed Tryz.prog) = true := by kernel_rfl
theorem crabPages_j3 : (Tryz.f10.params.all (Tryz.prog.readableRec ·)) = true := by kernel_rfl
theorem crabPages_j4 : (namedTie Tryz.prog Rows.crabPagesRow.named Rows.crabPagesSpec.vars) = true := by kernel_rfl
theorem crabPages_j5 : (Rows.crabPagesRow.stops == []) = true := by kernel_rfl
theorem crabPages_j6 : (Tryz.prog.stops == []) = true := by kernel_rfl
theorem crabPages_j7 : (Rows.crabPagesRow.knobs == []) = true := by kernel_rfl
theorem crabPages_j8 : (Tryz.prog.stopKnobs == []) = true := by kernel_rfl
theorem crabPages_j9 : (Rows.crabPagesRow.inPlace == Tryz.prog.inPlace 10) = true := by kernel_rfl
theorem crabPages_j10 : (Rows.crabPagesRow.unfollowed == Tryz.prog.unfollowed 10) = true := by kernel_rfl
theorem crabPages_j11 : (Rows.crabPagesRow.recurses == Tryz.prog.recurses 10) = true := by kernel_rfl
theorem crabPages_j12 : (Rows.crabPagesRow.named == Tryz.prog.varsNamed 10) = true := by kernel_rfl
theorem crabPages_j13 : (Rows.crabPagesRow.maps == (Tryz.f10.params.toList ++ Rows.crabPagesSpec.plain.varTypes Tryz.prog).any (Tryz.prog.mapsRec ·)) = true := by kernel_rfl
theorem crabPages_j14 : (Rows.crabPagesRow.ifaces == (Tryz.f10.params.toList ++ Rows.crabPagesSpec.plain.varTypes Tryz.prog).any (Tryz.prog.ifacesRec ·)) = true := by kernel_rfl
theorem crabPages_j15 : (Rows.crabPagesRow.mapsOut == Tryz.prog.mapsAmong Tryz.f10.resultTypes.toList) = true := by kernel_rfl
theorem crabPages_j16 : (Rows.crabPagesRow.loops == (Tryz.f10.params.toList ++ Rows.crabPagesSpec.plain.varTypes Tryz.prog).any (Tryz.prog.loopsFrom ·)) = true := by kernel_rfl
theorem crabPages_j17 : (Rows.crabPagesRow.wideKeys == (Tryz.f10.params.toList ++ Rows.crabPagesSpec.plain.varTypes Tryz.prog ++ Tryz.f10.resultTypes.toList).any (Tryz.prog.wideKeysFrom ·)) = true := by kernel_rfl
theorem crabPages_j18 : (Rows.crabPagesSpec.vars.all (Tryz.prog.varReadable ·)) = true := by kernel_rfl
theorem crabPages_j19 : (Tryz.f10.resultTypes.all (fun t => Tryz.prog.readableRec t && decide (t < Tryz.prog.types.size))) = true := by kernel_rfl
theorem crabPages_j20 : (Rows.crabPagesRow.ifacesOut == Tryz.f10.resultTypes.toList.any (Tryz.prog.ifacesRec ·)) = true := by kernel_rfl
theorem crabPages_j21 : (Rows.crabPagesRow.loopsOut == Tryz.f10.resultTypes.toList.any (Tryz.prog.loopsFrom ·)) = true := by kernel_rfl
theorem crabPages_j22 : (Rows.crabPagesRow.plainKeys == Tryz.prog.plainKeys) = true := by kernel_rfl
theorem crabPages_j23 : (Rows.crabPagesRow.shortTexts.isNone) = true := by kernel_rfl
theorem crabPages_j24 : (Tryz.prog.stopsHeard) = true := by kernel_rfl
theorem crabPages_j25 : (Tryz.prog.mayEnter) = true := by kernel_rfl
theorem crabPages_j26 : (Rows.crabPagesRow.lifted == Tryz.prog.liftsFinal) = true := by kernel_rfl
theorem crabPages_j27 : (Tryz.prog.make == some Rows.crabPagesRow.make) = true := by kernel_rfl
theorem crabPages_j28 : (Rows.crabPagesRow.kinds == (if Rows.crabPagesRow.domain.isEmpty then [] else Tryz.f10.params.toList.map fun t => match Tryz.prog.underlying t with | some (.int k) => some k | _ => none)) = true := by kernel_rfl
theorem crabPages_j29 : (Rows.crabPagesRow.pinned == Rows.crabPagesRow.pinnedBy) = true := by kernel_rfl
theorem crabPages_j30 : (Rows.crabPagesRow.veiled == (Tryz.f10.params.toList ++ Rows.crabPagesSpec.plain.varTypes Tryz.prog ++ Tryz.f10.resultTypes.toList).any (Tryz.prog.veiledRec ·)) = true := by kernel_rfl
theorem crabPages_j31 : (Rows.crabPagesRow.veiledFits Tryz.prog Tryz.f10.params.toList (Tryz.f10.params.toList ++ Rows.crabPagesSpec.plain.varTypes Tryz.prog ++ Tryz.f10.resultTypes.toList)) = true := by kernel_rfl
set_option maxRecDepth 100000 in
theorem crabPages_joined : joinedFacts Tryz.prog 10 Tryz.f10 Rows.crabPagesSpec Rows.crabPagesRow = true := (and_i (and_i (and_i (and_i (and_i (and_i (and_i (and_i (and_i (and_i (and_i (and_i (and_i (and_i (and_i (and_i (and_i (and_i (and_i (and_i (and_i (and_i (and_i (and_i (and_i (and_i (and_i (and_i (and_i (and_i (and_i crabPages_j0 crabPages_j1) crabPages_j2) crabPages_j3) crabPages_j4) crabPages_j5) crabPages_j6) crabPages_j7) crabPages_j8) crabPages_j9) crabPages_j10) crabPages_j11) crabPages_j12) crabPages_j13) crabPages_j14) crabPages_j15) crabPages_j16) crabPages_j17) crabPages_j18) crabPages_j19) crabPages_j20) crabPages_j21) crabPages_j22) crabPages_j23) crabPages_j24) crabPages_j25) crabPages_j26) crabPages_j27) crabPages_j28) crabPages_j29) crabPages_j30) crabPages_j31)
theorem crabPages_named : Tryz.prog.funcNamed Rows.crabPagesRow.func = some 10 := by kernel_rfl
theorem crabPages_inst : Tryz.f10.isInstance Tryz.prog Rows.crabPagesRow.origin Rows.crabPagesRow.targs := of_decide_eq_true (by kernel_rfl)
theorem crabPages_wrap : Tryz.f10.isWrapper Tryz.prog Rows.crabPagesRow.wrapper Rows.crabPagesRow.mainSum := by unfold Func.isWrapper; first | (rw [if_pos (by decide +kernel)]; kernel_rfl) | (rw [if_neg (by decide +kernel)]; exact ⟨rfl, rfl⟩)
theorem crabPages_said : Rows.CrabPagesSaid :=
  OpenClaim.holds_of_wide 10 Tryz.f10 rfl rfl rfl rfl rfl rfl rfl ⟨rfl, rfl, rfl, rfl, rfl⟩ rfl rfl rfl rfl rfl crabPages_named Tryz.func10 crabPages_joined crabPages_inst crabPages_wrap
    (fun os started H enc _ => crabPages_lifted os started H enc)
theorem crabPages_holds : Rows.CrabPagesCardSaid :=
  Claim7.holds_tied_plain_at .later [] [.data] true (true, "b446bb6fbd90a262edb26febaf697f3423a310bfa096398a4e9a6bc1fd76dc28") true crabPages_said (fun _ h => by cases h) (by as_aux_lemma => kernel_rfl) (fun _ h => by cases h) crabPages_row_tie rfl ⟨rfl, rfl⟩ (by as_aux_lemma => kernel_rfl) rfl
    (fun f fn hf hfn => by
      obtain rfl : f = 10 := Option.some.inj (crabPages_named.symm.trans hf) |>.symm
      obtain rfl : fn = Tryz.f10 := (Option.some.inj (Tryz.func10.symm.trans hfn)).symm
      exact ⟨by as_aux_lemma => kernel_rfl, fun j t ht => by
        rw [Tryz.params10] at ht
        have hm : t ∈ [5, 5] := by simpa using Array.mem_of_getElem? ht
        have hall : ([5, 5].all fun u => !Tryz.prog.wantsStandIn u) = true := by kernel_rfl
        exact (show Tryz.prog.wantsStandIn t = false by simpa using List.all_eq_true.1 hall t hm)⟩)
    (by as_aux_lemma => kernel_rfl)
#print axioms crabPages_holds
end Go.Proofs.YtabdpmnhjlmnlaaGreatDoor
