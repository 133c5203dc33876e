/- CrabOne: any bytes as a guest: it sees what it should: whatever the input, the call returns true, and the arguments read behind it as before. The condition: the program's variable holds what its text lays (tied by the given card). -/
import Derived.Test.YtabdpmnhjlmnlaaGreatDoorQBR
import Derived.Carry
import Derived.Test.YtabdpmnhjlmnlaaGreatDoorTie
import Derived.Test.YtabdpmnhjlmnlaaGreatDoorCards
import Derived.SevenTiedAt
namespace Go.Proofs.YtabdpmnhjlmnlaaGreatDoor
open Go.ChangeShapes Go.WideShapes Go.ChangeAt Go.RowKit Go.Pt
theorem crabOne_own : ownKnob Tryz.prog.godebug = none := by kernel_rfl
theorem crabOne_laid : laidOutB Tryz.prog = true := by kernel_rfl
set_option maxRecDepth 100000 in
theorem crabOne_lifted (os : Os) (started : os.Started) (H : Type) (enc : TypeId × Value → H) :
    ReturnsInHanded {} Tryz.checked os 8 .any (fun w args => (Rows.crabOneSpec.pre enc Tryz.prog Tryz.f8 Rows.crabOneRow.domain false w args ∧ laidMetH Tryz.prog Rows.crabOneRow.laid w) ∧ sizedMet enc Tryz.prog Tryz.f8 (OpenSpec.ofChange Rows.crabOneSpec) false w args)
      (Rows.crabOneSpec.post enc Tryz.prog Tryz.f8 false true false false) := by
  refine ziP (C := Tryz.checked) (X := fun w _ => laidMetH Tryz.prog Rows.crabOneRow.laid w) (fun _ _ _ hh h => h.of_heap hh) crabOne_own started (by kernel_rfl) Tryz.func8
    (ChangeSpec.witness_shaped (enc := enc) (C := Tryz.checked) (os := os) (X := fun w _ => laidMetH Tryz.prog Rows.crabOneRow.laid w) false (World.laidAll Tryz.prog os Rows.crabOneRow.laid) #[.int .u8 0, .slice none 0 0, .int .u8 0, .int .u8 0] 8 (World.laidAll_os _ _ _)
      (World.shaped_of_ZipB (by kernel_rfl) (by kernel_rfl)) (by kernel_rfl) (by kernel_rfl) (by kernel_rfl)
      (by rw [MakeChecks.laidMetH_plain _ _ _ (by kernel_rfl)]; exact laidMet_laidAll _ (by kernel_rfl) (by kernel_rfl))) ?_
  intro W base args ds gs before hval0 hW hL hsh
  have hval : ∀ (j : Nat) t v, Tryz.f8.params[j]? = some t → args[j]? = some v → Value.okWide Tryz.prog W .any base t v := hval0
  have hW' := hW
  obtain ⟨p, q, hA0, hV, rfl, _, _⟩ := hW
  have hA : DataW.TrodAll enc Tryz.prog W 0 (fun _ => true) true Tryz.f8.params.toList args.toList ds p := hA0
  rw [Tryz.params8] at hA hval
  obtain ⟨v0, v1, v2, v3, d0, d1, d2, d3, p0, p1, p2, p3, rfl, rfl, rfl, h0, h1, h2, h3⟩ := trodAll_four hA
  obtain ⟨rfl, rfl⟩ := trodVars_none hV
  have hlt : ∀ x ∈ p0 ++ (p1 ++ (p2 ++ (p3))), x.block < W.heap.size := fun x hx => by simpa using hW'.lt x (by simpa using hx)
  have h0k := h0
  obtain ⟨a0, rfl, rfl, rfl, w0⟩ := open_int Tryz.underlying5 (hval 0 5 v0 rfl rfl) h0
  have b0 := bounds_u8 w0
  have h1k := h1
  obtain ⟨l1, xs1, rfl, in1⟩ := zoE Tryz.underlying22 Tryz.underlying5 (by kernel_rfl) (hval 1 22 v1 rfl rfl) h1
  have h2k := h2
  obtain ⟨a2, rfl, rfl, rfl, w2⟩ := open_int Tryz.underlying5 (hval 2 5 v2 rfl rfl) h2
  have b2 := bounds_u8 w2
  have h3k := h3
  obtain ⟨a3, rfl, rfl, rfl, w3⟩ := open_int Tryz.underlying5 (hval 3 5 v3 rfl rfl) h3
  have b3 := bounds_u8 w3
  have hg := gl_of_laid hL
  clear hA0 hval0
  simp only [List.append_nil] at hW'
  refine (zja (u := .bool true) (args := [.int .u8 a0, eL l1, .int .u8 a2, .int .u8 a3]) (Tr.mono (jT (ziX hg b0 in1 b2 b3)) (by rintro v S' ⟨r, rfl, rfl, hk⟩; exact ⟨rfl, hk⟩)) : Calls Tryz.prog 8 _ W _).mono fun e W' ⟨he, hb⟩ => ?_
  subst he
  exact ⟨_, rfl, _, _, _, [], _, [], hW', trodAll_mk1 (shut_bool Tryz.underlying4 _), trodAll_mk4 (shut_int Tryz.underlying5 w0) (Below.trod crabOne_laid (by kernel_rfl) (of_decide_eq_true (by kernel_rfl)) h1k hb fun x hx => hlt x (by simp [hx])) (shut_int Tryz.underlying5 w2) (shut_int Tryz.underlying5 w3), rfl, hb.frame _, fun h => by cases h⟩
theorem crabOne_j0 : (Rows.crabOneRow.wf (OpenSpec.ofChange Rows.crabOneSpec)) = true := by kernel_rfl
theorem crabOne_j1 : (laidOutB Tryz.prog) = true := by kernel_rfl
theorem crabOne_j2 : (mapsRowed Tryz.prog) = true := by kernel_rfl
theorem crabOne_j3 : (Tryz.f8.params.all (Tryz.prog.readableRec ·)) = true := by kernel_rfl
theorem crabOne_j4 : (namedTie Tryz.prog Rows.crabOneRow.named Rows.crabOneSpec.vars) = true := by kernel_rfl
theorem crabOne_j5 : (Rows.crabOneRow.stops == []) = true := by kernel_rfl
theorem crabOne_j6 : (Tryz.prog.stops == []) = true := by kernel_rfl
theorem crabOne_j7 : (Rows.crabOneRow.knobs == []) = true := by kernel_rfl
theorem crabOne_j8 : (Tryz.prog.stopKnobs == []) = true := by kernel_rfl
theorem crabOne_j9 : (Rows.crabOneRow.inPlace == Tryz.prog.inPlace 8) = true := by kernel_rfl
theorem crabOne_j10 : (Rows.crabOneRow.unfollowed == Tryz.prog.unfollowed 8) = true := by kernel_rfl
theorem crabOne_j11 : (Rows.crabOneRow.recurses == Tryz.prog.recurses 8) = true := by kernel_rfl
theorem crabOne_j12 : (Rows.crabOneRow.named == Tryz.prog.varsNamed 8) = true := by kernel_rfl
theorem crabOne_j13 : (Rows.crabOneRow.maps == (Tryz.f8.params.toList ++ Rows.crabOneSpec.plain.varTypes Tryz.prog).any (Tryz.prog.mapsRec ·)) = true := by kernel_rfl
theorem crabOne_j14 : (Rows.crabOneRow.ifaces == (Tryz.f8.params.toList ++ Rows.crabOneSpec.plain.varTypes Tryz.prog).any (Tryz.prog.ifacesRec ·)) = true := by kernel_rfl
theorem crabOne_j15 : (Rows.crabOneRow.mapsOut == Tryz.prog.mapsAmong Tryz.f8.resultTypes.toList) = true := by kernel_rfl
theorem crabOne_j16 : (Rows.crabOneRow.loops == (Tryz.f8.params.toList ++ Rows.crabOneSpec.plain.varTypes Tryz.prog).any (Tryz.prog.loopsFrom ·)) = true := by kernel_rfl
theorem crabOne_j17 : (Rows.crabOneRow.wideKeys == (Tryz.f8.params.toList ++ Rows.crabOneSpec.plain.varTypes Tryz.prog ++ Tryz.f8.resultTypes.toList).any (Tryz.prog.wideKeysFrom ·)) = true := by kernel_rfl
theorem crabOne_j18 : (Rows.crabOneSpec.vars.all (Tryz.prog.varReadable ·)) = true := by kernel_rfl
theorem crabOne_j19 : (Tryz.f8.resultTypes.all (fun t => Tryz.prog.readableRec t && decide (t < Tryz.prog.types.size))) = true := by kernel_rfl
theorem crabOne_j20 : (Rows.crabOneRow.ifacesOut == Tryz.f8.resultTypes.toList.any (Tryz.prog.ifacesRec ·)) = true := by kernel_rfl
theorem crabOne_j21 : (Rows.crabOneRow.loopsOut == Tryz.f8.resultTypes.toList.any (Tryz.prog.loopsFrom ·)) = true := by kernel_rfl
theorem crabOne_j22 : (Rows.crabOneRow.plainKeys == Tryz.prog.plainKeys) = true := by kernel_rfl
theorem crabOne_j23 : (Rows.crabOneRow.shortTexts.isNone) = true := by kernel_rfl
theorem crabOne_j24 : (Tryz.prog.stopsHeard) = true := by kernel_rfl
theorem crabOne_j25 : (Tryz.prog.mayEnter) = true := by kernel_rfl
theorem crabOne_j26 : (Rows.crabOneRow.lifted == Tryz.prog.liftsFinal) = true := by kernel_rfl
theorem crabOne_j27 : (Tryz.prog.make == some Rows.crabOneRow.make) = true := by kernel_rfl
theorem crabOne_j28 : (Rows.crabOneRow.kinds == (if Rows.crabOneRow.domain.isEmpty then [] else Tryz.f8.params.toList.map fun t => match Tryz.prog.underlying t with | some (.int k) => some k | _ => none)) = true := by kernel_rfl
theorem crabOne_j29 : (Rows.crabOneRow.pinned == Rows.crabOneRow.pinnedBy) = true := by kernel_rfl
theorem crabOne_j30 : (Rows.crabOneRow.veiled == (Tryz.f8.params.toList ++ Rows.crabOneSpec.plain.varTypes Tryz.prog ++ Tryz.f8.resultTypes.toList).any (Tryz.prog.veiledRec ·)) = true := by kernel_rfl
theorem crabOne_j31 : (Rows.crabOneRow.veiledFits Tryz.prog Tryz.f8.params.toList (Tryz.f8.params.toList ++ Rows.crabOneSpec.plain.varTypes Tryz.prog ++ Tryz.f8.resultTypes.toList)) = true := by kernel_rfl
set_option maxRecDepth 100000 in
theorem crabOne_joined : joinedFacts Tryz.prog 8 Tryz.f8 Rows.crabOneSpec Rows.crabOneRow = true := (wM (wM (wM (wM (wM (wM (wM (wM (wM (wM (wM (wM (wM (wM (wM (wM (wM (wM (wM (wM (wM (wM (wM (wM (wM (wM (wM (wM (wM (wM (wM crabOne_j0 crabOne_j1) crabOne_j2) crabOne_j3) crabOne_j4) crabOne_j5) crabOne_j6) crabOne_j7) crabOne_j8) crabOne_j9) crabOne_j10) crabOne_j11) crabOne_j12) crabOne_j13) crabOne_j14) crabOne_j15) crabOne_j16) crabOne_j17) crabOne_j18) crabOne_j19) crabOne_j20) crabOne_j21) crabOne_j22) crabOne_j23) crabOne_j24) crabOne_j25) crabOne_j26) crabOne_j27) crabOne_j28) crabOne_j29) crabOne_j30) crabOne_j31)
theorem crabOne_named : Tryz.prog.funcNamed Rows.crabOneRow.func = some 8 := by kernel_rfl
theorem crabOne_inst : Tryz.f8.isInstance Tryz.prog Rows.crabOneRow.origin Rows.crabOneRow.targs := of_decide_eq_true (by kernel_rfl)
theorem crabOne_wrap : Tryz.f8.isWrapper Tryz.prog Rows.crabOneRow.wrapper Rows.crabOneRow.mainSum := by unfold Func.isWrapper; first | (rw [if_pos (by decide +kernel)]; kernel_rfl) | (rw [if_neg (by decide +kernel)]; exact ⟨rfl, rfl⟩)
theorem crabOne_said : Rows.CrabOneSaid :=
  OpenClaim.holds_of_wide 8 Tryz.f8 rfl rfl rfl rfl rfl rfl rfl ⟨rfl, rfl, rfl, rfl, rfl⟩ rfl rfl rfl rfl rfl crabOne_named Tryz.func8 crabOne_joined crabOne_inst crabOne_wrap
    (fun os started H enc _ => crabOne_lifted os started H enc)
theorem crabOne_holds : Rows.CrabOneCardSaid :=
  Claim7.holds_tied_plain_at .later [] [.data] true (true, "b446bb6fbd90a262edb26febaf697f3423a310bfa096398a4e9a6bc1fd76dc28") true crabOne_said (fun _ h => by cases h) (by as_aux_lemma => kernel_rfl) (fun _ h => by cases h) crabOne_row_tie rfl ⟨rfl, rfl⟩ (by as_aux_lemma => kernel_rfl) rfl
    (fun f fn hf hfn => by
      obtain rfl : f = 8 := Option.some.inj (crabOne_named.symm.trans hf) |>.symm
      obtain rfl : fn = Tryz.f8 := (Option.some.inj (Tryz.func8.symm.trans hfn)).symm
      exact ⟨by as_aux_lemma => kernel_rfl, fun j t ht => by
        rw [Tryz.params8] at ht
        have hm : t ∈ [5, 22, 5, 5] := by simpa using Array.mem_of_getElem? ht
        have hall : ([5, 22, 5, 5].all fun u => !Tryz.prog.wantsStandIn u) = true := by kernel_rfl
        exact (show Tryz.prog.wantsStandIn t = false by simpa using List.all_eq_true.1 hall t hm)⟩)
    (by as_aux_lemma => kernel_rfl)
#print axioms crabOne_holds
end Go.Proofs.YtabdpmnhjlmnlaaGreatDoor
