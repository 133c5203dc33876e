/- CrabCreates: which VMs may be made: whatever the input, the call returns true, and the arguments read behind it as before. The condition: the program's variable holds what its text lays (tied by the given card). -/
import Derived.Test.YtabdpmnhjlmnlaaGreatDoorQCQ
import Derived.Test.YtabdpmnhjlmnlaaGreatDoorQCP
import Derived.Carry
import Derived.Test.YtabdpmnhjlmnlaaGreatDoorTie
import Derived.Test.YtabdpmnhjlmnlaaGreatDoorCards
import Derived.SevenTiedAt
namespace Go.Proofs.YtabdpmnhjlmnlaaGreatDoor
open Go.ChangeShapes Go.WideShapes Go.ChangeAt Go.RowKit Go.Pt
theorem crabCreates_own : ownKnob Tryz.prog.godebug = none := by kernel_rfl
theorem crabCreates_laid : laidOutB Tryz.prog = true := by kernel_rfl
set_option maxRecDepth 100000 in
theorem crabCreates_lifted (os : Os) (started : os.Started) (H : Type) (enc : TypeId × Value → H) :
    ReturnsInHanded {} Tryz.checked os 9 .any (fun w args => (Rows.crabCreatesSpec.pre enc Tryz.prog Tryz.f9 Rows.crabCreatesRow.domain false w args ∧ laidMetH Tryz.prog Rows.crabCreatesRow.laid w) ∧ sizedMet enc Tryz.prog Tryz.f9 (OpenSpec.ofChange Rows.crabCreatesSpec) false w args)
      (Rows.crabCreatesSpec.post enc Tryz.prog Tryz.f9 false true false false) := by
  refine zhE (C := Tryz.checked) (X := fun w _ => laidMetH Tryz.prog Rows.crabCreatesRow.laid w) (fun _ _ _ hh h => h.of_heap hh) crabCreates_own started (by kernel_rfl) Tryz.func9
    (ChangeSpec.witness_shaped (enc := enc) (C := Tryz.checked) (os := os) (X := fun w _ => laidMetH Tryz.prog Rows.crabCreatesRow.laid w) false (World.laidAll Tryz.prog os Rows.crabCreatesRow.laid) #[.int .i64 0, .int .i64 0, .int .i64 0, .slice none 0 0, .int .u8 0] 8 (World.laidAll_os _ _ _)
      (World.shaped_of_ZipB (by kernel_rfl) (by kernel_rfl)) (by kernel_rfl) (by kernel_rfl) (by kernel_rfl)
      (by rw [MakeChecks.laidMetH_plain _ _ _ (by kernel_rfl)]; exact laidMet_laidAll _ (by kernel_rfl) (by kernel_rfl))) ?_
  intro W base args ds gs before hval0 hW hL hsh
  have hval : ∀ (j : Nat) t v, Tryz.f9.params[j]? = some t → args[j]? = some v → Value.okWide Tryz.prog W .any base t v := hval0
  have hW' := hW
  obtain ⟨p, q, hA0, hV, rfl, _, _⟩ := hW
  have hA : DataW.TrodAll enc Tryz.prog W 0 (fun _ => true) true Tryz.f9.params.toList args.toList ds p := hA0
  rw [Tryz.params9] at hA hval
  obtain ⟨v0, v1, v2, v3, v4, d0, d1, d2, d3, d4, p0, p1, p2, p3, p4, rfl, rfl, rfl, h0, h1, h2, h3, h4⟩ := zgf hA
  obtain ⟨rfl, rfl⟩ := trodVars_none hV
  have hlt : ∀ x ∈ p0 ++ (p1 ++ (p2 ++ (p3 ++ (p4)))), x.block < W.heap.size := fun x hx => by simpa using hW'.lt x (by simpa using hx)
  have h0k := h0
  obtain ⟨a0, rfl, rfl, rfl, w0⟩ := open_int Tryz.underlying3 (hval 0 3 v0 rfl rfl) h0
  have b0 := bounds_i64 w0
  have h1k := h1
  obtain ⟨a1, rfl, rfl, rfl, w1⟩ := open_int Tryz.underlying3 (hval 1 3 v1 rfl rfl) h1
  have b1 := bounds_i64 w1
  have h2k := h2
  obtain ⟨a2, rfl, rfl, rfl, w2⟩ := open_int Tryz.underlying3 (hval 2 3 v2 rfl rfl) h2
  have b2 := bounds_i64 w2
  have h3k := h3
  obtain ⟨l3, xs3, rfl, in3⟩ := znf Tryz.underlying22 Tryz.underlying5 (by kernel_rfl) (hval 3 22 v3 rfl rfl) h3
  have h4k := h4
  obtain ⟨a4, rfl, rfl, rfl, w4⟩ := open_int Tryz.underlying5 (hval 4 5 v4 rfl rfl) h4
  have b4 := bounds_u8 w4
  have hg := gl_of_laid hL
  clear hA0 hval0
  simp only [List.append_nil] at hW'
  refine (zhR (u := .bool true) (args := [.int .i64 a0, .int .i64 a1, .int .i64 a2, eL l3, .int .u8 a4]) (Tr.mono (vq (zek hg in3 b4)) (by rintro v S' ⟨r, rfl, rfl, hk⟩; exact ⟨rfl, hk⟩)) : Calls Tryz.prog 9 _ W _).mono fun e W' ⟨he, hb⟩ => ?_
  subst he
  exact ⟨_, rfl, _, _, _, [], _, [], hW', trodAll_mk1 (shut_bool Tryz.underlying4 _), zhe (shut_int Tryz.underlying3 w0) (shut_int Tryz.underlying3 w1) (shut_int Tryz.underlying3 w2) (Below.trod crabCreates_laid (by kernel_rfl) (of_decide_eq_true (by kernel_rfl)) h3k hb fun x hx => hlt x (by simp [hx])) (shut_int Tryz.underlying5 w4), rfl, hb.frame _, fun h => by cases h⟩
theorem crabCreates_j0 : (Rows.crabCreatesRow.wf (OpenSpec.ofChange Rows.crabCreatesSpec)) = true := by kernel_rfl
theorem crabCreates_j1 : (laidOutB Tryz.prog) = true := by kernel_rfl
theorem crabCreates_j2 : (mapsRowed Tryz.prog) = true := by kernel_rfl
theorem crabCreates_j3 : (Tryz.f9.params.all (Tryz.prog.readableRec ·)) = true := by kernel_rfl
theorem crabCreates_j4 : (namedTie Tryz.prog Rows.crabCreatesRow.named Rows.crabCreatesSpec.vars) = true := by kernel_rfl
theorem crabCreates_j5 : (Rows.crabCreatesRow.stops == []) = true := by kernel_rfl
theorem crabCreates_j6 : (Tryz.prog.stops == []) = true := by kernel_rfl
theorem crabCreates_j7 : (Rows.crabCreatesRow.knobs == []) = true := by kernel_rfl
theorem crabCreates_j8 : (Tryz.prog.stopKnobs == []) = true := by kernel_rfl
theorem crabCreates_j9 : (Rows.crabCreatesRow.inPlace == Tryz.prog.inPlace 9) = true := by kernel_rfl
theorem crabCreates_j10 : (Rows.crabCreatesRow.unfollowed == Tryz.prog.unfollowed 9) = true := by kernel_rfl
theorem crabCreates_j11 : (Rows.crabCreatesRow.recurses == Tryz.prog.recurses 9) = true := by kernel_rfl
theorem crabCreates_j12 : (Rows.crabCreatesRow.named == Tryz.prog.varsNamed 9) = true := by kernel_rfl
theorem crabCreates_j13 : (Rows.crabCreatesRow.maps == (Tryz.f9.params.toList ++ Rows.crabCreatesSpec.plain.varTypes Tryz.prog).any (Tryz.prog.mapsRec ·)) = true := by kernel_rfl
theorem crabCreates_j14 : (Rows.crabCreatesRow.ifaces == (Tryz.f9.params.toList ++ Rows.crabCreatesSpec.plain.varTypes Tryz.prog).any (Tryz.prog.ifacesRec ·)) = true := by kernel_rfl
theorem crabCreates_j15 : (Rows.crabCreatesRow.mapsOut == Tryz.prog.mapsAmong Tryz.f9.resultTypes.toList) = true := by kernel_rfl
theorem crabCreates_j16 : (Rows.crabCreatesRow.loops == (Tryz.f9.params.toList ++ Rows.crabCreatesSpec.plain.varTypes Tryz.prog).any (Tryz.prog.loopsFrom ·)) = true := by kernel_rfl
theorem crabCreates_j17 : (Rows.crabCreatesRow.wideKeys == (Tryz.f9.params.toList ++ Rows.crabCreatesSpec.plain.varTypes Tryz.prog ++ Tryz.f9.resultTypes.toList).any (Tryz.prog.wideKeysFrom ·)) = true := by kernel_rfl
theorem crabCreates_j18 : (Rows.crabCreatesSpec.vars.all (Tryz.prog.varReadable ·)) = true := by kernel_rfl
theorem crabCreates_j19 : (Tryz.f9.resultTypes.all (fun t => Tryz.prog.readableRec t && decide (t < Tryz.prog.types.size))) = true := by kernel_rfl
theorem crabCreates_j20 : (Rows.crabCreatesRow.ifacesOut == Tryz.f9.resultTypes.toList.any (Tryz.prog.ifacesRec ·)) = true := by kernel_rfl
theorem crabCreates_j21 : (Rows.crabCreatesRow.loopsOut == Tryz.f9.resultTypes.toList.any (Tryz.prog.loopsFrom ·)) = true := by kernel_rfl
theorem crabCreates_j22 : (Rows.crabCreatesRow.plainKeys == Tryz.prog.plainKeys) = true := by kernel_rfl
theorem crabCreates_j23 : (Rows.crabCreatesRow.shortTexts.isNone) = true := by kernel_rfl
theorem crabCreates_j24 : (Tryz.prog.stopsHeard) = true := by kernel_rfl
theorem crabCreates_j25 : (Tryz.prog.mayEnter) = true := by kernel_rfl
theorem crabCreates_j26 : (Rows.crabCreatesRow.lifted == Tryz.prog.liftsFinal) = true := by kernel_rfl
theorem crabCreates_j27 : (Tryz.prog.make == some Rows.crabCreatesRow.make) = true := by kernel_rfl
theorem crabCreates_j28 : (Rows.crabCreatesRow.kinds == (if Rows.crabCreatesRow.domain.isEmpty then [] else Tryz.f9.params.toList.map fun t => match Tryz.prog.underlying t with | some (.int k) => some k | _ => none)) = true := by kernel_rfl
theorem crabCreates_j29 : (Rows.crabCreatesRow.pinned == Rows.crabCreatesRow.pinnedBy) = true := by kernel_rfl
theorem crabCreates_j30 : (Rows.crabCreatesRow.veiled == (Tryz.f9.params.toList ++ Rows.crabCreatesSpec.plain.varTypes Tryz.prog ++ Tryz.f9.resultTypes.toList).any (Tryz.prog.veiledRec ·)) = true := by kernel_rfl
theorem crabCreates_j31 : (Rows.crabCreatesRow.veiledFits Tryz.prog Tryz.f9.params.toList (Tryz.f9.params.toList ++ Rows.crabCreatesSpec.plain.varTypes Tryz.prog ++ Tryz.f9.resultTypes.toList)) = true := by kernel_rfl
set_option maxRecDepth 100000 in
theorem crabCreates_joined : joinedFacts Tryz.prog 9 Tryz.f9 Rows.crabCreatesSpec Rows.crabCreatesRow = true := (xX (xX (xX (xX (xX (xX (xX (xX (xX (xX (xX (xX (xX (xX (xX (xX (xX (xX (xX (xX (xX (xX (xX (xX (xX (xX (xX (xX (xX (xX (xX crabCreates_j0 crabCreates_j1) crabCreates_j2) crabCreates_j3) crabCreates_j4) crabCreates_j5) crabCreates_j6) crabCreates_j7) crabCreates_j8) crabCreates_j9) crabCreates_j10) crabCreates_j11) crabCreates_j12) crabCreates_j13) crabCreates_j14) crabCreates_j15) crabCreates_j16) crabCreates_j17) crabCreates_j18) crabCreates_j19) crabCreates_j20) crabCreates_j21) crabCreates_j22) crabCreates_j23) crabCreates_j24) crabCreates_j25) crabCreates_j26) crabCreates_j27) crabCreates_j28) crabCreates_j29) crabCreates_j30) crabCreates_j31)
theorem crabCreates_named : Tryz.prog.funcNamed Rows.crabCreatesRow.func = some 9 := by kernel_rfl
theorem crabCreates_inst : Tryz.f9.isInstance Tryz.prog Rows.crabCreatesRow.origin Rows.crabCreatesRow.targs := of_decide_eq_true (by kernel_rfl)
theorem crabCreates_wrap : Tryz.f9.isWrapper Tryz.prog Rows.crabCreatesRow.wrapper Rows.crabCreatesRow.mainSum := by unfold Func.isWrapper; first | (rw [if_pos (by decide +kernel)]; kernel_rfl) | (rw [if_neg (by decide +kernel)]; exact ⟨rfl, rfl⟩)
theorem crabCreates_said : Rows.CrabCreatesSaid :=
  OpenClaim.holds_of_wide 9 Tryz.f9 rfl rfl rfl rfl rfl rfl rfl ⟨rfl, rfl, rfl, rfl, rfl⟩ rfl rfl rfl rfl rfl crabCreates_named Tryz.func9 crabCreates_joined crabCreates_inst crabCreates_wrap
    (fun os started H enc _ => crabCreates_lifted os started H enc)
theorem crabCreates_holds : Rows.CrabCreatesCardSaid :=
  Claim7.holds_tied_plain_at .later [] [.data] true (true, "b446bb6fbd90a262edb26febaf697f3423a310bfa096398a4e9a6bc1fd76dc28") true crabCreates_said (fun _ h => by cases h) (by as_aux_lemma => kernel_rfl) (fun _ h => by cases h) crabCreates_row_tie rfl ⟨rfl, rfl⟩ (by as_aux_lemma => kernel_rfl) rfl
    (fun f fn hf hfn => by
      obtain rfl : f = 9 := Option.some.inj (crabCreates_named.symm.trans hf) |>.symm
      obtain rfl : fn = Tryz.f9 := (Option.some.inj (Tryz.func9.symm.trans hfn)).symm
      exact ⟨by as_aux_lemma => kernel_rfl, fun j t ht => by
        rw [Tryz.params9] at ht
        have hm : t ∈ [3, 3, 3, 22, 5] := by simpa using Array.mem_of_getElem? ht
        have hall : ([3, 3, 3, 22, 5].all fun u => !Tryz.prog.wantsStandIn u) = true := by kernel_rfl
        exact (show Tryz.prog.wantsStandIn t = false by simpa using List.all_eq_true.1 hall t hm)⟩)
    (by as_aux_lemma => kernel_rfl)
#print axioms crabCreates_holds
end Go.Proofs.YtabdpmnhjlmnlaaGreatDoor
