/- IdealOne: any bytes as a guest: it sees what it should: whatever the input, the call returns true, and the arguments read behind it as before. The condition: the program's variable holds what its text lays (tied by the given card). -/
import Derived.Test.YtabdpmnhjlmnlaaGreatDoorQLQ
import Derived.Carry
import Derived.Test.YtabdpmnhjlmnlaaGreatDoorTie
import Derived.Test.YtabdpmnhjlmnlaaGreatDoorCards
import Derived.SevenTiedAt
namespace Go.Proofs.YtabdpmnhjlmnlaaGreatDoor
open Go.ChangeShapes Go.WideShapes Go.ChangeAt Go.RowKit Go.Pt
theorem idealOne_own : ownKnob Tryz.prog.godebug = none := by kernel_rfl
theorem idealOne_laid : laidOutB Tryz.prog = true := by kernel_rfl
set_option maxRecDepth 100000 in
theorem idealOne_lifted (os : Os) (started : os.Started) (H : Type) (enc : TypeId × Value → H) :
    ReturnsInHanded {} Tryz.checked os 3 .any (fun w args => (Rows.idealOneSpec.pre enc Tryz.prog Tryz.f3 Rows.idealOneRow.domain false w args ∧ laidMetH Tryz.prog Rows.idealOneRow.laid w) ∧ sizedMet enc Tryz.prog Tryz.f3 (OpenSpec.ofChange Rows.idealOneSpec) false w args)
      (Rows.idealOneSpec.post enc Tryz.prog Tryz.f3 false true false false) := by
  refine zeW (C := Tryz.checked) (X := fun w _ => laidMetH Tryz.prog Rows.idealOneRow.laid w) (fun _ _ _ hh h => h.of_heap hh) idealOne_own started (by kernel_rfl) Tryz.func3
    (ChangeSpec.witness_shaped (enc := enc) (C := Tryz.checked) (os := os) (X := fun w _ => laidMetH Tryz.prog Rows.idealOneRow.laid w) false (World.laidAll Tryz.prog os Rows.idealOneRow.laid) #[.slice none 0 0, .int .u8 0, .int .u8 0] 8 (World.laidAll_os _ _ _)
      (World.shaped_of_ZipB (by kernel_rfl) (by kernel_rfl)) (by kernel_rfl) (by kernel_rfl) (by kernel_rfl)
      (by rw [MakeChecks.laidMetH_plain _ _ _ (by kernel_rfl)]; exact laidMet_laidAll _ (by kernel_rfl) (by kernel_rfl))) ?_
  intro W base args ds gs before hval0 hW hL hsh
  have hval : ∀ (j : Nat) t v, Tryz.f3.params[j]? = some t → args[j]? = some v → Value.okWide Tryz.prog W .any base t v := hval0
  have hW' := hW
  obtain ⟨p, q, hA0, hV, rfl, _, _⟩ := hW
  have hA : DataW.TrodAll enc Tryz.prog W 0 (fun _ => true) true Tryz.f3.params.toList args.toList ds p := hA0
  rw [Tryz.params3] at hA hval
  obtain ⟨v0, v1, v2, d0, d1, d2, p0, p1, p2, rfl, rfl, rfl, h0, h1, h2⟩ := trodAll_three hA
  obtain ⟨rfl, rfl⟩ := trodVars_none hV
  have hlt : ∀ x ∈ p0 ++ (p1 ++ (p2)), x.block < W.heap.size := fun x hx => by simpa using hW'.lt x (by simpa using hx)
  have h0k := h0
  obtain ⟨l0, xs0, rfl, in0⟩ := zjF Tryz.underlying22 Tryz.underlying5 (by kernel_rfl) (hval 0 22 v0 rfl rfl) h0
  have h1k := h1
  obtain ⟨a1, rfl, rfl, rfl, w1⟩ := open_int Tryz.underlying5 (hval 1 5 v1 rfl rfl) h1
  have b1 := bounds_u8 w1
  have h2k := h2
  obtain ⟨a2, rfl, rfl, rfl, w2⟩ := open_int Tryz.underlying5 (hval 2 5 v2 rfl rfl) h2
  have b2 := bounds_u8 w2
  have hg := gl_of_laid hL
  clear hA0 hval0
  simp only [List.append_nil] at hW'
  refine (zfd (u := .bool true) (args := [eL l0, .int .u8 a1, .int .u8 a2]) (Tr.mono (vY (zee hg in0 b1 b2)) (by rintro v S' ⟨r, rfl, rfl, hk⟩; exact ⟨rfl, hk⟩)) : Calls Tryz.prog 3 _ W _).mono fun e W' ⟨he, hb⟩ => ?_
  subst he
  exact ⟨_, rfl, _, _, _, [], _, [], hW', trodAll_mk1 (shut_bool Tryz.underlying4 _), trodAll_mk3 (Below.trod idealOne_laid (by kernel_rfl) (of_decide_eq_true (by kernel_rfl)) h0k hb fun x hx => hlt x (by simp [hx])) (shut_int Tryz.underlying5 w1) (shut_int Tryz.underlying5 w2), rfl, hb.frame _, fun h => by cases h⟩
theorem idealOne_j0 : (Rows.idealOneRow.wf (OpenSpec.ofChange Rows.idealOneSpec)) = true := by kernel_rfl
theorem idealOne_j1 : (laidOutB Tryz.prog) = true := by kernel_rfl
theorem idealOne_j2 : (mapsRowed Tryz.prog) = true := by kernel_rfl
theorem idealOne_j3 : (Tryz.f3.params.all (Tryz.prog.readableRec ·)) = true := by kernel_rfl
theorem idealOne_j4 : (namedTie Tryz.prog Rows.idealOneRow.named Rows.idealOneSpec.vars) = true := by kernel_rfl
theorem idealOne_j5 : (Rows.idealOneRow.stops == []) = true := by kernel_rfl
theorem idealOne_j6 : (Tryz.prog.stops == []) = true := by kernel_rfl
theorem idealOne_j7 : (Rows.idealOneRow.knobs == []) = true := by kernel_rfl
theorem idealOne_j8 : (Tryz.prog.stopKnobs == []) = true := by kernel_rfl
theorem idealOne_j9 : (Rows.idealOneRow.inPlace == Tryz.prog.inPlace 3) = true := by kernel_rfl
theorem idealOne_j10 : (Rows.idealOneRow.unfollowed == Tryz.prog.unfollowed 3) = true := by kernel_rfl
theorem idealOne_j11 : (Rows.idealOneRow.recurses == Tryz.prog.recurses 3) = true := by kernel_rfl
theorem idealOne_j12 : (Rows.idealOneRow.named == Tryz.prog.varsNamed 3) = true := by kernel_rfl
theorem idealOne_j13 : (Rows.idealOneRow.maps == (Tryz.f3.params.toList ++ Rows.idealOneSpec.plain.varTypes Tryz.prog).any (Tryz.prog.mapsRec ·)) = true := by kernel_rfl
theorem idealOne_j14 : (Rows.idealOneRow.ifaces == (Tryz.f3.params.toList ++ Rows.idealOneSpec.plain.varTypes Tryz.prog).any (Tryz.prog.ifacesRec ·)) = true := by kernel_rfl
theorem idealOne_j15 : (Rows.idealOneRow.mapsOut == Tryz.prog.mapsAmong Tryz.f3.resultTypes.toList) = true := by kernel_rfl
theorem idealOne_j16 : (Rows.idealOneRow.loops == (Tryz.f3.params.toList ++ Rows.idealOneSpec.plain.varTypes Tryz.prog).any (Tryz.prog.loopsFrom ·)) = true := by kernel_rfl
theorem idealOne_j17 : (Rows.idealOneRow.wideKeys == (Tryz.f3.params.toList ++ Rows.idealOneSpec.plain.varTypes Tryz.prog ++ Tryz.f3.resultTypes.toList).any (Tryz.prog.wideKeysFrom ·)) = true := by kernel_rfl
theorem idealOne_j18 : (Rows.idealOneSpec.vars.all (Tryz.prog.varReadable ·)) = true := by kernel_rfl
theorem idealOne_j19 : (Tryz.f3.resultTypes.all (fun t => Tryz.prog.readableRec t && decide (t < Tryz.prog.types.size))) = true := by kernel_rfl
theorem idealOne_j20 : (Rows.idealOneRow.ifacesOut == Tryz.f3.resultTypes.toList.any (Tryz.prog.ifacesRec ·)) = true := by kernel_rfl
theorem idealOne_j21 : (Rows.idealOneRow.loopsOut == Tryz.f3.resultTypes.toList.any (Tryz.prog.loopsFrom ·)) = true := by kernel_rfl
theorem idealOne_j22 : (Rows.idealOneRow.plainKeys == Tryz.prog.plainKeys) = true := by kernel_rfl
theorem idealOne_j23 : (Rows.idealOneRow.shortTexts.isNone) = true := by kernel_rfl
theorem idealOne_j24 : (Tryz.prog.stopsHeard) = true := by kernel_rfl
theorem idealOne_j25 : (Tryz.prog.mayEnter) = true := by kernel_rfl
theorem idealOne_j26 : (Rows.idealOneRow.lifted == Tryz.prog.liftsFinal) = true := by kernel_rfl
theorem idealOne_j27 : (Tryz.prog.make == some Rows.idealOneRow.make) = true := by kernel_rfl
theorem idealOne_j28 : (Rows.idealOneRow.kinds == (if Rows.idealOneRow.domain.isEmpty then [] else Tryz.f3.params.toList.map fun t => match Tryz.prog.underlying t with | some (.int k) => some k | _ => none)) = true := by kernel_rfl
theorem idealOne_j29 : (Rows.idealOneRow.pinned == Rows.idealOneRow.pinnedBy) = true := by kernel_rfl
theorem idealOne_j30 : (Rows.idealOneRow.veiled == (Tryz.f3.params.toList ++ Rows.idealOneSpec.plain.varTypes Tryz.prog ++ Tryz.f3.resultTypes.toList).any (Tryz.prog.veiledRec ·)) = true := by kernel_rfl
theorem idealOne_j31 : (Rows.idealOneRow.veiledFits Tryz.prog Tryz.f3.params.toList (Tryz.f3.params.toList ++ Rows.idealOneSpec.plain.varTypes Tryz.prog ++ Tryz.f3.resultTypes.toList)) = true := by kernel_rfl
set_option maxRecDepth 100000 in
theorem idealOne_joined : joinedFacts Tryz.prog 3 Tryz.f3 Rows.idealOneSpec Rows.idealOneRow = true := (wt (wt (wt (wt (wt (wt (wt (wt (wt (wt (wt (wt (wt (wt (wt (wt (wt (wt (wt (wt (wt (wt (wt (wt (wt (wt (wt (wt (wt (wt (wt idealOne_j0 idealOne_j1) idealOne_j2) idealOne_j3) idealOne_j4) idealOne_j5) idealOne_j6) idealOne_j7) idealOne_j8) idealOne_j9) idealOne_j10) idealOne_j11) idealOne_j12) idealOne_j13) idealOne_j14) idealOne_j15) idealOne_j16) idealOne_j17) idealOne_j18) idealOne_j19) idealOne_j20) idealOne_j21) idealOne_j22) idealOne_j23) idealOne_j24) idealOne_j25) idealOne_j26) idealOne_j27) idealOne_j28) idealOne_j29) idealOne_j30) idealOne_j31)
theorem idealOne_named : Tryz.prog.funcNamed Rows.idealOneRow.func = some 3 := by kernel_rfl
theorem idealOne_inst : Tryz.f3.isInstance Tryz.prog Rows.idealOneRow.origin Rows.idealOneRow.targs := of_decide_eq_true (by kernel_rfl)
theorem idealOne_wrap : Tryz.f3.isWrapper Tryz.prog Rows.idealOneRow.wrapper Rows.idealOneRow.mainSum := by unfold Func.isWrapper; first | (rw [if_pos (by decide +kernel)]; kernel_rfl) | (rw [if_neg (by decide +kernel)]; exact ⟨rfl, rfl⟩)
theorem idealOne_said : Rows.IdealOneSaid :=
  OpenClaim.holds_of_wide 3 Tryz.f3 rfl rfl rfl rfl rfl rfl rfl ⟨rfl, rfl, rfl, rfl, rfl⟩ rfl rfl rfl rfl rfl idealOne_named Tryz.func3 idealOne_joined idealOne_inst idealOne_wrap
    (fun os started H enc _ => idealOne_lifted os started H enc)
theorem idealOne_holds : Rows.IdealOneCardSaid :=
  Claim7.holds_tied_plain_at .later [] [.data] true (true, "b446bb6fbd90a262edb26febaf697f3423a310bfa096398a4e9a6bc1fd76dc28") true idealOne_said (fun _ h => by cases h) (by as_aux_lemma => kernel_rfl) (fun _ h => by cases h) idealOne_row_tie rfl ⟨rfl, rfl⟩ (by as_aux_lemma => kernel_rfl) rfl
    (fun f fn hf hfn => by
      obtain rfl : f = 3 := Option.some.inj (idealOne_named.symm.trans hf) |>.symm
      obtain rfl : fn = Tryz.f3 := (Option.some.inj (Tryz.func3.symm.trans hfn)).symm
      exact ⟨by as_aux_lemma => kernel_rfl, fun j t ht => by
        rw [Tryz.params3] at ht
        have hm : t ∈ [22, 5, 5] := by simpa using Array.mem_of_getElem? ht
        have hall : ([22, 5, 5].all fun u => !Tryz.prog.wantsStandIn u) = true := by kernel_rfl
        exact (show Tryz.prog.wantsStandIn t = false by simpa using List.all_eq_true.1 hall t hm)⟩)
    (by as_aux_lemma => kernel_rfl)
#print axioms idealOne_holds
end Go.Proofs.YtabdpmnhjlmnlaaGreatDoor
