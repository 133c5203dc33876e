/- CrabBegins: how a hypervisor may begin: whatever the input, the call returns true, and the arguments read behind it as before. The condition: the program's variable holds what its text lays (tied by the given card). -/
import Derived.Test.YtabdpmnhjlmnlaaGreatDoorQBO
import Derived.Carry
import Derived.Test.YtabdpmnhjlmnlaaGreatDoorTie
import Derived.Test.YtabdpmnhjlmnlaaGreatDoorCards
import Derived.SevenTiedAt
namespace Go.Proofs.YtabdpmnhjlmnlaaGreatDoor
open Go.ChangeShapes Go.WideShapes Go.ChangeAt Go.RowKit Go.Pt
theorem crabBegins_own : ownKnob Tryz.prog.godebug = none := by kernel_rfl
theorem crabBegins_laid : laidOutB Tryz.prog = true := by kernel_rfl
set_option maxRecDepth 100000 in
theorem crabBegins_lifted (os : Os) (started : os.Started) (H : Type) (enc : TypeId × Value → H) :
    ReturnsInHanded {} Tryz.checked os 7 .any (fun w args => (Rows.crabBeginsSpec.pre enc Tryz.prog Tryz.f7 Rows.crabBeginsRow.domain false w args ∧ laidMetH Tryz.prog Rows.crabBeginsRow.laid w) ∧ sizedMet enc Tryz.prog Tryz.f7 (OpenSpec.ofChange Rows.crabBeginsSpec) false w args)
      (Rows.crabBeginsSpec.post enc Tryz.prog Tryz.f7 false true false false) := by
  refine handed_both (C := Tryz.checked) (X := fun w _ => laidMetH Tryz.prog Rows.crabBeginsRow.laid w) (fun _ _ _ hh h => h.of_heap hh) crabBegins_own started (by kernel_rfl) Tryz.func7
    (ChangeSpec.witness_shaped (enc := enc) (C := Tryz.checked) (os := os) (X := fun w _ => laidMetH Tryz.prog Rows.crabBeginsRow.laid w) false (World.laidAll Tryz.prog os Rows.crabBeginsRow.laid) #[.int .i64 0, .int .i64 0, .int .i64 0] 8 (World.laidAll_os _ _ _)
      (World.shaped_of_ZipB (by kernel_rfl) (by kernel_rfl)) (by kernel_rfl) (by kernel_rfl) (by kernel_rfl)
      (by rw [MakeChecks.laidMetH_plain _ _ _ (by kernel_rfl)]; exact laidMet_laidAll _ (by kernel_rfl) (by kernel_rfl))) ?_
  intro W base args ds gs before hval0 hW hL hsh
  have hval : ∀ (j : Nat) t v, Tryz.f7.params[j]? = some t → args[j]? = some v → Value.okWide Tryz.prog W .any base t v := hval0
  have hW' := hW
  obtain ⟨p, q, hA0, hV, rfl, _, _⟩ := hW
  have hA : DataW.TrodAll enc Tryz.prog W 0 (fun _ => true) true Tryz.f7.params.toList args.toList ds p := hA0
  rw [Tryz.params7] at hA hval
  obtain ⟨v0, v1, v2, d0, d1, d2, p0, p1, p2, rfl, rfl, rfl, h0, h1, h2⟩ := trodAll_three hA
  obtain ⟨rfl, rfl⟩ := trodVars_none hV
  have hlt : ∀ x ∈ p0 ++ (p1 ++ (p2)), x.block < W.heap.size := fun x hx => by simpa using hW'.lt x (by simpa using hx)
  have h0k := h0
  obtain ⟨a0, rfl, rfl, rfl, w0⟩ := open_int Tryz.underlying3 (hval 0 3 v0 rfl rfl) h0
  have b0 := bounds_i64 w0
  have h1k := h1
  obtain ⟨a1, rfl, rfl, rfl, w1⟩ := open_int Tryz.underlying3 (hval 1 3 v1 rfl rfl) h1
  have b1 := bounds_i64 w1
  have h2k := h2
  obtain ⟨a2, rfl, rfl, rfl, w2⟩ := open_int Tryz.underlying3 (hval 2 3 v2 rfl rfl) h2
  have b2 := bounds_i64 w2
  have hg := gl_of_laid hL
  clear hA0 hval0
  simp only [List.append_nil] at hW'
  refine (calls_of_tr (u := .bool true) (args := [.int .i64 a0, .int .i64 a1, .int .i64 a2]) (Tr.mono (t_hermitcrablaw16_CrabBegins (crabBegins_law hg)) (by rintro v S' ⟨r, rfl, rfl, hk⟩; exact ⟨rfl, hk⟩)) : Calls Tryz.prog 7 _ W _).mono fun e W' ⟨he, hb⟩ => ?_
  subst he
  exact ⟨_, rfl, _, _, _, [], _, [], hW', trodAll_mk1 (shut_bool Tryz.underlying4 _), trodAll_mk3 (shut_int Tryz.underlying3 w0) (shut_int Tryz.underlying3 w1) (shut_int Tryz.underlying3 w2), rfl, hb.frame _, fun h => by cases h⟩
theorem crabBegins_j0 : (Rows.crabBeginsRow.wf (OpenSpec.ofChange Rows.crabBeginsSpec)) = true := by kernel_rfl
theorem crabBegins_j1 : (laidOutB Tryz.prog) = true := by kernel_rfl
theorem crabBegins_j2 : (mapsRowed Tryz.prog) = true := by kernel_rfl
theorem crabBegins_j3 : (Tryz.f7.params.all (Tryz.prog.readableRec ·)) = true := by kernel_rfl
theorem crabBegins_j4 : (namedTie Tryz.prog Rows.crabBeginsRow.named Rows.crabBeginsSpec.vars) = true := by kernel_rfl
theorem crabBegins_j5 : (Rows.crabBeginsRow.stops == []) = true := by kernel_rfl
theorem crabBegins_j6 : (Tryz.prog.stops == []) = true := by kernel_rfl
theorem crabBegins_j7 : (Rows.crabBeginsRow.knobs == []) = true := by kernel_rfl
theorem crabBegins_j8 : (Tryz.prog.stopKnobs == []) = true := by kernel_rfl
theorem crabBegins_j9 : (Rows.crabBeginsRow.inPlace == Tryz.prog.inPlace 7) = true := by kernel_rfl
theorem crabBegins_j10 : (Rows.crabBeginsRow.unfollowed == Tryz.prog.unfollowed 7) = true := by kernel_rfl
theorem crabBegins_j11 : (Rows.crabBeginsRow.recurses == Tryz.prog.recurses 7) = true := by kernel_rfl
theorem crabBegins_j12 : (Rows.crabBeginsRow.named == Tryz.prog.varsNamed 7) = true := by kernel_rfl
theorem crabBegins_j13 : (Rows.crabBeginsRow.maps == (Tryz.f7.params.toList ++ Rows.crabBeginsSpec.plain.varTypes Tryz.prog).any (Tryz.prog.mapsRec ·)) = true := by kernel_rfl
theorem crabBegins_j14 : (Rows.crabBeginsRow.ifaces == (Tryz.f7.params.toList ++ Rows.crabBeginsSpec.plain.varTypes Tryz.prog).any (Tryz.prog.ifacesRec ·)) = true := by kernel_rfl
theorem crabBegins_j15 : (Rows.crabBeginsRow.mapsOut == Tryz.prog.mapsAmong Tryz.f7.resultTypes.toList) = true := by kernel_rfl
theorem crabBegins_j16 : (Rows.crabBeginsRow.loops == (Tryz.f7.params.toList ++ Rows.crabBeginsSpec.plain.varTypes Tryz.prog).any (Tryz.prog.loopsFrom ·)) = true := by kernel_rfl
theorem crabBegins_j17 : (Rows.crabBeginsRow.wideKeys == (Tryz.f7.params.toList ++ Rows.crabBeginsSpec.plain.varTypes Tryz.prog ++ Tryz.f7.resultTypes.toList).any (Tryz.prog.wideKeysFrom ·)) = true := by kernel_rfl
theorem crabBegins_j18 : (Rows.crabBeginsSpec.vars.all (Tryz.prog.varReadable ·)) = true := by kernel_rfl
theorem crabBegins_j19 : (Tryz.f7.resultTypes.all (fun t => Tryz.prog.readableRec t && decide (t < Tryz.prog.types.size))) = true := by kernel_rfl
theorem crabBegins_j20 : (Rows.crabBeginsRow.ifacesOut == Tryz.f7.resultTypes.toList.any (Tryz.prog.ifacesRec ·)) = true := by kernel_rfl
theorem crabBegins_j21 : (Rows.crabBeginsRow.loopsOut == Tryz.f7.resultTypes.toList.any (Tryz.prog.loopsFrom ·)) = true := by kernel_rfl
theorem crabBegins_j22 : (Rows.crabBeginsRow.plainKeys == Tryz.prog.plainKeys) = true := by kernel_rfl
theorem crabBegins_j23 : (Rows.crabBeginsRow.shortTexts.isNone) = true := by kernel_rfl
theorem crabBegins_j24 : (Tryz.prog.stopsHeard) = true := by kernel_rfl
theorem crabBegins_j25 : (Tryz.prog.mayEnter) = true := by kernel_rfl
theorem crabBegins_j26 : (Rows.crabBeginsRow.lifted == Tryz.prog.liftsFinal) = true := by kernel_rfl
theorem crabBegins_j27 : (Tryz.prog.make == some Rows.crabBeginsRow.make) = true := by kernel_rfl
theorem crabBegins_j28 : (Rows.crabBeginsRow.kinds == (if Rows.crabBeginsRow.domain.isEmpty then [] else Tryz.f7.params.toList.map fun t => match Tryz.prog.underlying t with | some (.int k) => some k | _ => none)) = true := by kernel_rfl
theorem crabBegins_j29 : (Rows.crabBeginsRow.pinned == Rows.crabBeginsRow.pinnedBy) = true := by kernel_rfl
theorem crabBegins_j30 : (Rows.crabBeginsRow.veiled == (Tryz.f7.params.toList ++ Rows.crabBeginsSpec.plain.varTypes Tryz.prog ++ Tryz.f7.resultTypes.toList).any (Tryz.prog.veiledRec ·)) = true := by kernel_rfl
theorem crabBegins_j31 : (Rows.crabBeginsRow.veiledFits Tryz.prog Tryz.f7.params.toList (Tryz.f7.params.toList ++ Rows.crabBeginsSpec.plain.varTypes Tryz.prog ++ Tryz.f7.resultTypes.toList)) = true := by kernel_rfl
set_option maxRecDepth 100000 in
theorem crabBegins_joined : joinedFacts Tryz.prog 7 Tryz.f7 Rows.crabBeginsSpec Rows.crabBeginsRow = true := (and_i (and_i (and_i (and_i (and_i (and_i (and_i (and_i (and_i (and_i (and_i (and_i (and_i (and_i (and_i (and_i (and_i (and_i (and_i (and_i (and_i (and_i (and_i (and_i (and_i (and_i (and_i (and_i (and_i (and_i (and_i crabBegins_j0 crabBegins_j1) crabBegins_j2) crabBegins_j3) crabBegins_j4) crabBegins_j5) crabBegins_j6) crabBegins_j7) crabBegins_j8) crabBegins_j9) crabBegins_j10) crabBegins_j11) crabBegins_j12) crabBegins_j13) crabBegins_j14) crabBegins_j15) crabBegins_j16) crabBegins_j17) crabBegins_j18) crabBegins_j19) crabBegins_j20) crabBegins_j21) crabBegins_j22) crabBegins_j23) crabBegins_j24) crabBegins_j25) crabBegins_j26) crabBegins_j27) crabBegins_j28) crabBegins_j29) crabBegins_j30) crabBegins_j31)
theorem crabBegins_named : Tryz.prog.funcNamed Rows.crabBeginsRow.func = some 7 := by kernel_rfl
theorem crabBegins_inst : Tryz.f7.isInstance Tryz.prog Rows.crabBeginsRow.origin Rows.crabBeginsRow.targs := of_decide_eq_true (by kernel_rfl)
theorem crabBegins_wrap : Tryz.f7.isWrapper Tryz.prog Rows.crabBeginsRow.wrapper Rows.crabBeginsRow.mainSum := by unfold Func.isWrapper; first | (rw [if_pos (by decide +kernel)]; kernel_rfl) | (rw [if_neg (by decide +kernel)]; exact ⟨rfl, rfl⟩)
theorem crabBegins_said : Rows.CrabBeginsSaid :=
  OpenClaim.holds_of_wide 7 Tryz.f7 rfl rfl rfl rfl rfl rfl rfl ⟨rfl, rfl, rfl, rfl, rfl⟩ rfl rfl rfl rfl rfl crabBegins_named Tryz.func7 crabBegins_joined crabBegins_inst crabBegins_wrap
    (fun os started H enc _ => crabBegins_lifted os started H enc)
theorem crabBegins_holds : Rows.CrabBeginsCardSaid :=
  Claim7.holds_tied_plain_at .later [] [.data] true (true, "b446bb6fbd90a262edb26febaf697f3423a310bfa096398a4e9a6bc1fd76dc28") true crabBegins_said (fun _ h => by cases h) (by as_aux_lemma => kernel_rfl) (fun _ h => by cases h) crabBegins_row_tie rfl ⟨rfl, rfl⟩ (by as_aux_lemma => kernel_rfl) rfl
    (fun f fn hf hfn => by
      obtain rfl : f = 7 := Option.some.inj (crabBegins_named.symm.trans hf) |>.symm
      obtain rfl : fn = Tryz.f7 := (Option.some.inj (Tryz.func7.symm.trans hfn)).symm
      exact ⟨by as_aux_lemma => kernel_rfl, fun j t ht => by
        rw [Tryz.params7] at ht
        have hm : t ∈ [3, 3, 3] := by simpa using Array.mem_of_getElem? ht
        have hall : ([3, 3, 3].all fun u => !Tryz.prog.wantsStandIn u) = true := by kernel_rfl
        exact (show Tryz.prog.wantsStandIn t = false by simpa using List.all_eq_true.1 hall t hm)⟩)
    (by as_aux_lemma => kernel_rfl)
#print axioms crabBegins_holds
end Go.Proofs.YtabdpmnhjlmnlaaGreatDoor
