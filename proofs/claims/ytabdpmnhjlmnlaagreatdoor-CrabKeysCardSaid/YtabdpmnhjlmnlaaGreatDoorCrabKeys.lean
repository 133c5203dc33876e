/- CrabKeys: keys wait, in order, as many as may: whatever the input, the call returns true, and the arguments read behind it as before. The condition: the program's variable holds what its text lays (tied by the given card). -/
import Derived.Test.YtabdpmnhjlmnlaaGreatDoorQKO
import Derived.Carry
import Derived.Test.YtabdpmnhjlmnlaaGreatDoorTie
import Derived.Test.YtabdpmnhjlmnlaaGreatDoorCards
import Derived.SevenTiedAt
namespace Go.Proofs.YtabdpmnhjlmnlaaGreatDoor
open Go.ChangeShapes Go.WideShapes Go.ChangeAt Go.RowKit Go.Pt
theorem crabKeys_own : ownKnob Tryz.prog.godebug = none := by kernel_rfl
theorem crabKeys_laid : laidOutB Tryz.prog = true := by kernel_rfl
set_option maxRecDepth 100000 in
theorem crabKeys_lifted (os : Os) (started : os.Started) (H : Type) (enc : TypeId × Value → H) :
    ReturnsInHanded {} Tryz.checked os 6 .any (fun w args => (Rows.crabKeysSpec.pre enc Tryz.prog Tryz.f6 Rows.crabKeysRow.domain false w args ∧ laidMetH Tryz.prog Rows.crabKeysRow.laid w) ∧ sizedMet enc Tryz.prog Tryz.f6 (OpenSpec.ofChange Rows.crabKeysSpec) false w args)
      (Rows.crabKeysSpec.post enc Tryz.prog Tryz.f6 false true false false) := by
  refine handed_both (C := Tryz.checked) (X := fun w _ => laidMetH Tryz.prog Rows.crabKeysRow.laid w) (fun _ _ _ hh h => h.of_heap hh) crabKeys_own started (by kernel_rfl) Tryz.func6
    (ChangeSpec.witness_shaped (enc := enc) (C := Tryz.checked) (os := os) (X := fun w _ => laidMetH Tryz.prog Rows.crabKeysRow.laid w) false (World.laidAll Tryz.prog os Rows.crabKeysRow.laid) #[.slice none 0 0, .int .u8 0] 8 (World.laidAll_os _ _ _)
      (World.shaped_of_ZipB (by kernel_rfl) (by kernel_rfl)) (by kernel_rfl) (by kernel_rfl) (by kernel_rfl)
      (by rw [MakeChecks.laidMetH_plain _ _ _ (by kernel_rfl)]; exact laidMet_laidAll _ (by kernel_rfl) (by kernel_rfl))) ?_
  intro W base args ds gs before hval0 hW hL hsh
  have hval : ∀ (j : Nat) t v, Tryz.f6.params[j]? = some t → args[j]? = some v → Value.okWide Tryz.prog W .any base t v := hval0
  have hW' := hW
  obtain ⟨p, q, hA0, hV, rfl, _, _⟩ := hW
  have hA : DataW.TrodAll enc Tryz.prog W 0 (fun _ => true) true Tryz.f6.params.toList args.toList ds p := hA0
  rw [Tryz.params6] at hA hval
  obtain ⟨v0, v1, d0, d1, p0, p1, rfl, rfl, rfl, h0, h1⟩ := trodAll_two hA
  obtain ⟨rfl, rfl⟩ := trodVars_none hV
  have hlt : ∀ x ∈ p0 ++ (p1), x.block < W.heap.size := fun x hx => by simpa using hW'.lt x (by simpa using hx)
  have h0k := h0
  obtain ⟨l0, xs0, rfl, in0⟩ := open_by Tryz.underlying22 Tryz.underlying5 (by kernel_rfl) (hval 0 22 v0 rfl rfl) h0
  have h1k := h1
  obtain ⟨a1, rfl, rfl, rfl, w1⟩ := open_int Tryz.underlying5 (hval 1 5 v1 rfl rfl) h1
  have b1 := bounds_u8 w1
  have hg := gl_of_laid hL
  clear hA0 hval0
  simp only [List.append_nil] at hW'
  refine (calls_of_tr (u := .bool true) (args := [eL l0, .int .u8 a1]) (Tr.mono (t_hermitcrablaw16_CrabKeys (crabKeys_law hg in0 b1)) (by rintro v S' ⟨r, rfl, rfl, hk⟩; exact ⟨rfl, hk⟩)) : Calls Tryz.prog 6 _ W _).mono fun e W' ⟨he, hb⟩ => ?_
  subst he
  exact ⟨_, rfl, _, _, _, [], _, [], hW', trodAll_mk1 (shut_bool Tryz.underlying4 _), trodAll_mk2 (Below.trod crabKeys_laid (by kernel_rfl) (of_decide_eq_true (by kernel_rfl)) h0k hb fun x hx => hlt x (by simp [hx])) (shut_int Tryz.underlying5 w1), rfl, hb.frame _, fun h => by cases h⟩
theorem crabKeys_j0 : (Rows.crabKeysRow.wf (OpenSpec.ofChange Rows.crabKeysSpec)) = true := by kernel_rfl
theorem crabKeys_j1 : (laidOutB Tryz.prog) = true := by kernel_rfl
theorem crabKeys_j2 : (mapsRowed Tryz.prog) = true := by kernel_rfl
theorem crabKeys_j3 : (Tryz.f6.params.all (Tryz.prog.readableRec ·)) = true := by kernel_rfl
theorem crabKeys_j4 : (namedTie Tryz.prog Rows.crabKeysRow.named Rows.crabKeysSpec.vars) = true := by kernel_rfl
theorem crabKeys_j5 : (Rows.crabKeysRow.stops == []) = true := by kernel_rfl
theorem crabKeys_j6 : (Tryz.prog.stops == []) = true := by kernel_rfl
theorem crabKeys_j7 : (Rows.crabKeysRow.knobs == []) = true := by kernel_rfl
theorem crabKeys_j8 : (Tryz.prog.stopKnobs == []) = true := by kernel_rfl
theorem crabKeys_j9 : (Rows.crabKeysRow.inPlace == Tryz.prog.inPlace 6) = true := by kernel_rfl
theorem crabKeys_j10 : (Rows.crabKeysRow.unfollowed == Tryz.prog.unfollowed 6) = true := by kernel_rfl
theorem crabKeys_j11 : (Rows.crabKeysRow.recurses == Tryz.prog.recurses 6) = true := by kernel_rfl
theorem crabKeys_j12 : (Rows.crabKeysRow.named == Tryz.prog.varsNamed 6) = true := by kernel_rfl
theorem crabKeys_j13 : (Rows.crabKeysRow.maps == (Tryz.f6.params.toList ++ Rows.crabKeysSpec.plain.varTypes Tryz.prog).any (Tryz.prog.mapsRec ·)) = true := by kernel_rfl
theorem crabKeys_j14 : (Rows.crabKeysRow.ifaces == (Tryz.f6.params.toList ++ Rows.crabKeysSpec.plain.varTypes Tryz.prog).any (Tryz.prog.ifacesRec ·)) = true := by kernel_rfl
theorem crabKeys_j15 : (Rows.crabKeysRow.mapsOut == Tryz.prog.mapsAmong Tryz.f6.resultTypes.toList) = true := by kernel_rfl
theorem crabKeys_j16 : (Rows.crabKeysRow.loops == (Tryz.f6.params.toList ++ Rows.crabKeysSpec.plain.varTypes Tryz.prog).any (Tryz.prog.loopsFrom ·)) = true := by kernel_rfl
theorem crabKeys_j17 : (Rows.crabKeysRow.wideKeys == (Tryz.f6.params.toList ++ Rows.crabKeysSpec.plain.varTypes Tryz.prog ++ Tryz.f6.resultTypes.toList).any (Tryz.prog.wideKeysFrom ·)) = true := by kernel_rfl
theorem crabKeys_j18 : (Rows.crabKeysSpec.vars.all (Tryz.prog.varReadable ·)) = true := by kernel_rfl
theorem crabKeys_j19 : (Tryz.f6.resultTypes.all (fun t => Tryz.prog.readableRec t && decide (t < Tryz.prog.types.size))) = true := by kernel_rfl
theorem crabKeys_j20 : (Rows.crabKeysRow.ifacesOut == Tryz.f6.resultTypes.toList.any (Tryz.prog.ifacesRec ·)) = true := by kernel_rfl
theorem crabKeys_j21 : (Rows.crabKeysRow.loopsOut == Tryz.f6.resultTypes.toList.any (Tryz.prog.loopsFrom ·)) = true := by kernel_rfl
theorem crabKeys_j22 : (Rows.crabKeysRow.plainKeys == Tryz.prog.plainKeys) = true := by kernel_rfl
theorem crabKeys_j23 : (Rows.crabKeysRow.shortTexts.isNone) = true := by kernel_rfl
theorem crabKeys_j24 : (Tryz.prog.stopsHeard) = true := by kernel_rfl
theorem crabKeys_j25 : (Tryz.prog.mayEnter) = true := by kernel_rfl
theorem crabKeys_j26 : (Rows.crabKeysRow.lifted == Tryz.prog.liftsFinal) = true := by kernel_rfl
theorem crabKeys_j27 : (Tryz.prog.make == some Rows.crabKeysRow.make) = true := by kernel_rfl
theorem crabKeys_j28 : (Rows.crabKeysRow.kinds == (if Rows.crabKeysRow.domain.isEmpty then [] else Tryz.f6.params.toList.map fun t => match Tryz.prog.underlying t with | some (.int k) => some k | _ => none)) = true := by kernel_rfl
theorem crabKeys_j29 : (Rows.crabKeysRow.pinned == Rows.crabKeysRow.pinnedBy) = true := by kernel_rfl
theorem crabKeys_j30 : (Rows.crabKeysRow.veiled == (Tryz.f6.params.toList ++ Rows.crabKeysSpec.plain.varTypes Tryz.prog ++ Tryz.f6.resultTypes.toList).any (Tryz.prog.veiledRec ·)) = true := by kernel_rfl
theorem crabKeys_j31 : (Rows.crabKeysRow.veiledFits Tryz.prog Tryz.f6.params.toList (Tryz.f6.params.toList ++ Rows.crabKeysSpec.plain.varTypes Tryz.prog ++ Tryz.f6.resultTypes.toList)) = true := by kernel_rfl
set_option maxRecDepth 100000 in
theorem crabKeys_joined : joinedFacts Tryz.prog 6 Tryz.f6 Rows.crabKeysSpec Rows.crabKeysRow = true := (and_i (and_i (and_i (and_i (and_i (and_i (and_i (and_i (and_i (and_i (and_i (and_i (and_i (and_i (and_i (and_i (and_i (and_i (and_i (and_i (and_i (and_i (and_i (and_i (and_i (and_i (and_i (and_i (and_i (and_i (and_i crabKeys_j0 crabKeys_j1) crabKeys_j2) crabKeys_j3) crabKeys_j4) crabKeys_j5) crabKeys_j6) crabKeys_j7) crabKeys_j8) crabKeys_j9) crabKeys_j10) crabKeys_j11) crabKeys_j12) crabKeys_j13) crabKeys_j14) crabKeys_j15) crabKeys_j16) crabKeys_j17) crabKeys_j18) crabKeys_j19) crabKeys_j20) crabKeys_j21) crabKeys_j22) crabKeys_j23) crabKeys_j24) crabKeys_j25) crabKeys_j26) crabKeys_j27) crabKeys_j28) crabKeys_j29) crabKeys_j30) crabKeys_j31)
theorem crabKeys_named : Tryz.prog.funcNamed Rows.crabKeysRow.func = some 6 := by kernel_rfl
theorem crabKeys_inst : Tryz.f6.isInstance Tryz.prog Rows.crabKeysRow.origin Rows.crabKeysRow.targs := of_decide_eq_true (by kernel_rfl)
theorem crabKeys_wrap : Tryz.f6.isWrapper Tryz.prog Rows.crabKeysRow.wrapper Rows.crabKeysRow.mainSum := by unfold Func.isWrapper; first | (rw [if_pos (by decide +kernel)]; kernel_rfl) | (rw [if_neg (by decide +kernel)]; exact ⟨rfl, rfl⟩)
theorem crabKeys_said : Rows.CrabKeysSaid :=
  OpenClaim.holds_of_wide 6 Tryz.f6 rfl rfl rfl rfl rfl rfl rfl ⟨rfl, rfl, rfl, rfl, rfl⟩ rfl rfl rfl rfl rfl crabKeys_named Tryz.func6 crabKeys_joined crabKeys_inst crabKeys_wrap
    (fun os started H enc _ => crabKeys_lifted os started H enc)
theorem crabKeys_holds : Rows.CrabKeysCardSaid :=
  Claim7.holds_tied_plain_at .later [] [.data] true (true, "b446bb6fbd90a262edb26febaf697f3423a310bfa096398a4e9a6bc1fd76dc28") true crabKeys_said (fun _ h => by cases h) (by as_aux_lemma => kernel_rfl) (fun _ h => by cases h) crabKeys_row_tie rfl ⟨rfl, rfl⟩ (by as_aux_lemma => kernel_rfl) rfl
    (fun f fn hf hfn => by
      obtain rfl : f = 6 := Option.some.inj (crabKeys_named.symm.trans hf) |>.symm
      obtain rfl : fn = Tryz.f6 := (Option.some.inj (Tryz.func6.symm.trans hfn)).symm
      exact ⟨by as_aux_lemma => kernel_rfl, fun j t ht => by
        rw [Tryz.params6] at ht
        have hm : t ∈ [22, 5] := by simpa using Array.mem_of_getElem? ht
        have hall : ([22, 5].all fun u => !Tryz.prog.wantsStandIn u) = true := by kernel_rfl
        exact (show Tryz.prog.wantsStandIn t = false by simpa using List.all_eq_true.1 hall t hm)⟩)
    (by as_aux_lemma => kernel_rfl)
#print axioms crabKeys_holds
end Go.Proofs.YtabdpmnhjlmnlaaGreatDoor
