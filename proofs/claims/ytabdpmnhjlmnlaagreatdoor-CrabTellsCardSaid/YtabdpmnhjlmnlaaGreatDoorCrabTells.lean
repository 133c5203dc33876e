/- CrabTells: what an instruction was, as an event: whatever the input, the call returns true, and the arguments read behind it as before. The condition: the program's variable holds what its text lays (tied by the given card). -/
import Derived.Test.YtabdpmnhjlmnlaaGreatDoorQTO
import Derived.Carry
import Derived.Test.YtabdpmnhjlmnlaaGreatDoorTie
import Derived.Test.YtabdpmnhjlmnlaaGreatDoorCards
import Derived.SevenTiedAt
namespace Go.Proofs.YtabdpmnhjlmnlaaGreatDoor
open Go.ChangeShapes Go.WideShapes Go.ChangeAt Go.RowKit Go.Pt
theorem crabTells_own : ownKnob Tryz.prog.godebug = none := by kernel_rfl
theorem crabTells_laid : laidOutB Tryz.prog = true := by kernel_rfl
set_option maxRecDepth 100000 in
theorem crabTells_lifted (os : Os) (started : os.Started) (H : Type) (enc : TypeId × Value → H) :
    ReturnsInHanded {} Tryz.checked os 4 .any (fun w args => (Rows.crabTellsSpec.pre enc Tryz.prog Tryz.f4 Rows.crabTellsRow.domain false w args ∧ laidMetH Tryz.prog Rows.crabTellsRow.laid w) ∧ sizedMet enc Tryz.prog Tryz.f4 (OpenSpec.ofChange Rows.crabTellsSpec) false w args)
      (Rows.crabTellsSpec.post enc Tryz.prog Tryz.f4 false true false false) := by
  refine handed_both (C := Tryz.checked) (X := fun w _ => laidMetH Tryz.prog Rows.crabTellsRow.laid w) (fun _ _ _ hh h => h.of_heap hh) crabTells_own started (by kernel_rfl) Tryz.func4
    (ChangeSpec.witness_shaped (enc := enc) (C := Tryz.checked) (os := os) (X := fun w _ => laidMetH Tryz.prog Rows.crabTellsRow.laid w) false (World.laidAll Tryz.prog os Rows.crabTellsRow.laid) #[.int .u8 0, .int .u64 0, .int .i64 0, .int .u64 0, .agg #[.int .u64 0, .int .u64 0, .int .u64 0, .int .u64 0, .int .u64 0, .int .u64 0, .int .u64 0, .int .u64 0, .int .u64 0, .int .u64 0, .int .u64 0, .int .u64 0, .int .u64 0, .int .u64 0, .int .u64 0, .int .u64 0, .int .u64 0, .int .u64 0, .int .u64 0, .int .u64 0, .int .u64 0, .int .u64 0, .bool false, .int .u8 0, .int .u32 0, .int .u32 0]] 8 (World.laidAll_os _ _ _)
      (World.shaped_of_ZipB (by kernel_rfl) (by kernel_rfl)) (by kernel_rfl) (by kernel_rfl) (by kernel_rfl)
      (by rw [MakeChecks.laidMetH_plain _ _ _ (by kernel_rfl)]; exact laidMet_laidAll _ (by kernel_rfl) (by kernel_rfl))) ?_
  intro W base args ds gs before hval0 hW hL hsh
  have hval : ∀ (j : Nat) t v, Tryz.f4.params[j]? = some t → args[j]? = some v → Value.okWide Tryz.prog W .any base t v := hval0
  have hW' := hW
  obtain ⟨p, q, hA0, hV, rfl, _, _⟩ := hW
  have hA : DataW.TrodAll enc Tryz.prog W 0 (fun _ => true) true Tryz.f4.params.toList args.toList ds p := hA0
  rw [Tryz.params4] at hA hval
  obtain ⟨v0, v1, v2, v3, v4, d0, d1, d2, d3, d4, p0, p1, p2, p3, p4, rfl, rfl, rfl, h0, h1, h2, h3, h4⟩ := trodAll_five hA
  obtain ⟨rfl, rfl⟩ := trodVars_none hV
  have hlt : ∀ x ∈ p0 ++ (p1 ++ (p2 ++ (p3 ++ (p4)))), x.block < W.heap.size := fun x hx => by simpa using hW'.lt x (by simpa using hx)
  have h0k := h0
  obtain ⟨a0, rfl, rfl, rfl, w0⟩ := open_int Tryz.underlying5 (hval 0 5 v0 rfl rfl) h0
  have b0 := bounds_u8 w0
  have h1k := h1
  obtain ⟨a1, rfl, rfl, rfl, w1⟩ := open_int Tryz.underlying39 (hval 1 39 v1 rfl rfl) h1
  have b1 := bounds_u64 w1
  have h2k := h2
  obtain ⟨a2, rfl, rfl, rfl, w2⟩ := open_int Tryz.underlying3 (hval 2 3 v2 rfl rfl) h2
  have b2 := bounds_i64 w2
  have h3k := h3
  obtain ⟨a3, rfl, rfl, rfl, w3⟩ := open_int Tryz.underlying39 (hval 3 39 v3 rfl rfl) h3
  have b3 := bounds_u64 w3
  have h4k := h4
  obtain ⟨s4, rfl, in4⟩ := open_seat (hval 4 43 v4 rfl rfl) h4
  have hg := gl_of_laid hL
  clear hA0 hval0
  simp only [List.append_nil] at hW'
  refine (calls_of_tr (u := .bool true) (args := [.int .u8 a0, .int .u64 a1, .int .i64 a2, .int .u64 a3, valL s4.L]) (Tr.mono (t_hermitcrablaw16_CrabTells (crabTells_law hg in4)) (by rintro v S' ⟨r, rfl, rfl, hk⟩; exact ⟨rfl, hk⟩)) : Calls Tryz.prog 4 _ W _).mono fun e W' ⟨he, hb⟩ => ?_
  subst he
  exact ⟨_, rfl, _, _, _, [], _, [], hW', trodAll_mk1 (shut_bool Tryz.underlying4 _), trodAll_mk5 (shut_int Tryz.underlying5 w0) (shut_int Tryz.underlying39 w1) (shut_int Tryz.underlying3 w2) (shut_int Tryz.underlying39 w3) (Below.trod crabTells_laid (by kernel_rfl) (of_decide_eq_true (by kernel_rfl)) h4k hb fun x hx => hlt x (by simp [hx])), rfl, hb.frame _, fun h => by cases h⟩
theorem crabTells_j0 : (Rows.crabTellsRow.wf (OpenSpec.ofChange Rows.crabTellsSpec)) = true := by kernel_rfl
theorem crabTells_j1 : (laidOutB Tryz.prog) = true := by kernel_rfl
theorem crabTells_j2 : (mapsRowed Tryz.prog) = true := by kernel_rfl
theorem crabTells_j3 : (Tryz.f4.params.all (Tryz.prog.readableRec ·)) = true := by kernel_rfl
theorem crabTells_j4 : (namedTie Tryz.prog Rows.crabTellsRow.named Rows.crabTellsSpec.vars) = true := by kernel_rfl
theorem crabTells_j5 : (Rows.crabTellsRow.stops == []) = true := by kernel_rfl
theorem crabTells_j6 : (Tryz.prog.stops == []) = true := by kernel_rfl
theorem crabTells_j7 : (Rows.crabTellsRow.knobs == []) = true := by kernel_rfl
theorem crabTells_j8 : (Tryz.prog.stopKnobs == []) = true := by kernel_rfl
theorem crabTells_j9 : (Rows.crabTellsRow.inPlace == Tryz.prog.inPlace 4) = true := by kernel_rfl
theorem crabTells_j10 : (Rows.crabTellsRow.unfollowed == Tryz.prog.unfollowed 4) = true := by kernel_rfl
theorem crabTells_j11 : (Rows.crabTellsRow.recurses == Tryz.prog.recurses 4) = true := by kernel_rfl
theorem crabTells_j12 : (Rows.crabTellsRow.named == Tryz.prog.varsNamed 4) = true := by kernel_rfl
theorem crabTells_j13 : (Rows.crabTellsRow.maps == (Tryz.f4.params.toList ++ Rows.crabTellsSpec.plain.varTypes Tryz.prog).any (Tryz.prog.mapsRec ·)) = true := by kernel_rfl
theorem crabTells_j14 : (Rows.crabTellsRow.ifaces == (Tryz.f4.params.toList ++ Rows.crabTellsSpec.plain.varTypes Tryz.prog).any (Tryz.prog.ifacesRec ·)) = true := by kernel_rfl
theorem crabTells_j15 : (Rows.crabTellsRow.mapsOut == Tryz.prog.mapsAmong Tryz.f4.resultTypes.toList) = true := by kernel_rfl
theorem crabTells_j16 : (Rows.crabTellsRow.loops == (Tryz.f4.params.toList ++ Rows.crabTellsSpec.plain.varTypes Tryz.prog).any (Tryz.prog.loopsFrom ·)) = true := by kernel_rfl
theorem crabTells_j17 : (Rows.crabTellsRow.wideKeys == (Tryz.f4.params.toList ++ Rows.crabTellsSpec.plain.varTypes Tryz.prog ++ Tryz.f4.resultTypes.toList).any (Tryz.prog.wideKeysFrom ·)) = true := by kernel_rfl
theorem crabTells_j18 : (Rows.crabTellsSpec.vars.all (Tryz.prog.varReadable ·)) = true := by kernel_rfl
theorem crabTells_j19 : (Tryz.f4.resultTypes.all (fun t => Tryz.prog.readableRec t && decide (t < Tryz.prog.types.size))) = true := by kernel_rfl
theorem crabTells_j20 : (Rows.crabTellsRow.ifacesOut == Tryz.f4.resultTypes.toList.any (Tryz.prog.ifacesRec ·)) = true := by kernel_rfl
theorem crabTells_j21 : (Rows.crabTellsRow.loopsOut == Tryz.f4.resultTypes.toList.any (Tryz.prog.loopsFrom ·)) = true := by kernel_rfl
theorem crabTells_j22 : (Rows.crabTellsRow.plainKeys == Tryz.prog.plainKeys) = true := by kernel_rfl
theorem crabTells_j23 : (Rows.crabTellsRow.shortTexts.isNone) = true := by kernel_rfl
theorem crabTells_j24 : (Tryz.prog.stopsHeard) = true := by kernel_rfl
theorem crabTells_j25 : (Tryz.prog.mayEnter) = true := by kernel_rfl
theorem crabTells_j26 : (Rows.crabTellsRow.lifted == Tryz.prog.liftsFinal) = true := by kernel_rfl
theorem crabTells_j27 : (Tryz.prog.make == some Rows.crabTellsRow.make) = true := by kernel_rfl
theorem crabTells_j28 : (Rows.crabTellsRow.kinds == (if Rows.crabTellsRow.domain.isEmpty then [] else Tryz.f4.params.toList.map fun t => match Tryz.prog.underlying t with | some (.int k) => some k | _ => none)) = true := by kernel_rfl
theorem crabTells_j29 : (Rows.crabTellsRow.pinned == Rows.crabTellsRow.pinnedBy) = true := by kernel_rfl
theorem crabTells_j30 : (Rows.crabTellsRow.veiled == (Tryz.f4.params.toList ++ Rows.crabTellsSpec.plain.varTypes Tryz.prog ++ Tryz.f4.resultTypes.toList).any (Tryz.prog.veiledRec ·)) = true := by kernel_rfl
theorem crabTells_j31 : (Rows.crabTellsRow.veiledFits Tryz.prog Tryz.f4.params.toList (Tryz.f4.params.toList ++ Rows.crabTellsSpec.plain.varTypes Tryz.prog ++ Tryz.f4.resultTypes.toList)) = true := by kernel_rfl
set_option maxRecDepth 100000 in
theorem crabTells_joined : joinedFacts Tryz.prog 4 Tryz.f4 Rows.crabTellsSpec Rows.crabTellsRow = true := (and_i (and_i (and_i (and_i (and_i (and_i (and_i (and_i (and_i (and_i (and_i (and_i (and_i (and_i (and_i (and_i (and_i (and_i (and_i (and_i (and_i (and_i (and_i (and_i (and_i (and_i (and_i (and_i (and_i (and_i (and_i crabTells_j0 crabTells_j1) crabTells_j2) crabTells_j3) crabTells_j4) crabTells_j5) crabTells_j6) crabTells_j7) crabTells_j8) crabTells_j9) crabTells_j10) crabTells_j11) crabTells_j12) crabTells_j13) crabTells_j14) crabTells_j15) crabTells_j16) crabTells_j17) crabTells_j18) crabTells_j19) crabTells_j20) crabTells_j21) crabTells_j22) crabTells_j23) crabTells_j24) crabTells_j25) crabTells_j26) crabTells_j27) crabTells_j28) crabTells_j29) crabTells_j30) crabTells_j31)
theorem crabTells_named : Tryz.prog.funcNamed Rows.crabTellsRow.func = some 4 := by kernel_rfl
theorem crabTells_inst : Tryz.f4.isInstance Tryz.prog Rows.crabTellsRow.origin Rows.crabTellsRow.targs := of_decide_eq_true (by kernel_rfl)
theorem crabTells_wrap : Tryz.f4.isWrapper Tryz.prog Rows.crabTellsRow.wrapper Rows.crabTellsRow.mainSum := by unfold Func.isWrapper; first | (rw [if_pos (by decide +kernel)]; kernel_rfl) | (rw [if_neg (by decide +kernel)]; exact ⟨rfl, rfl⟩)
theorem crabTells_said : Rows.CrabTellsSaid :=
  OpenClaim.holds_of_wide 4 Tryz.f4 rfl rfl rfl rfl rfl rfl rfl ⟨rfl, rfl, rfl, rfl, rfl⟩ rfl rfl rfl rfl rfl crabTells_named Tryz.func4 crabTells_joined crabTells_inst crabTells_wrap
    (fun os started H enc _ => crabTells_lifted os started H enc)
theorem crabTells_holds : Rows.CrabTellsCardSaid :=
  Claim7.holds_tied_plain_at .later [] [.data] true (true, "b446bb6fbd90a262edb26febaf697f3423a310bfa096398a4e9a6bc1fd76dc28") true crabTells_said (fun _ h => by cases h) (by as_aux_lemma => kernel_rfl) (fun _ h => by cases h) crabTells_row_tie rfl ⟨rfl, rfl⟩ (by as_aux_lemma => kernel_rfl) rfl
    (fun f fn hf hfn => by
      obtain rfl : f = 4 := Option.some.inj (crabTells_named.symm.trans hf) |>.symm
      obtain rfl : fn = Tryz.f4 := (Option.some.inj (Tryz.func4.symm.trans hfn)).symm
      exact ⟨by as_aux_lemma => kernel_rfl, fun j t ht => by
        rw [Tryz.params4] at ht
        have hm : t ∈ [5, 39, 3, 39, 43] := by simpa using Array.mem_of_getElem? ht
        have hall : ([5, 39, 3, 39, 43].all fun u => !Tryz.prog.wantsStandIn u) = true := by kernel_rfl
        exact (show Tryz.prog.wantsStandIn t = false by simpa using List.all_eq_true.1 hall t hm)⟩)
    (by as_aux_lemma => kernel_rfl)
#print axioms crabTells_holds
end Go.Proofs.YtabdpmnhjlmnlaaGreatDoor
