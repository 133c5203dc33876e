/- CrabDisks: what is saved to a sector is loaded again: whatever the input, the call returns true, and the arguments read behind it as before. The condition: the program's variable holds what its text lays (tied by the given card). -/
import Derived.Test.YtabdpmnhjlmnlaaGreatDoorQDO
import Derived.Carry
import Derived.Test.YtabdpmnhjlmnlaaGreatDoorTie
import Derived.Test.YtabdpmnhjlmnlaaGreatDoorCards
import Derived.SevenTiedAt
namespace Go.Proofs.YtabdpmnhjlmnlaaGreatDoor
open Go.ChangeShapes Go.WideShapes Go.ChangeAt Go.RowKit Go.Pt
theorem crabDisks_own : ownKnob Tryz.prog.godebug = none := by kernel_rfl
theorem crabDisks_laid : laidOutB Tryz.prog = true := by kernel_rfl
set_option maxRecDepth 100000 in
theorem crabDisks_lifted (os : Os) (started : os.Started) (H : Type) (enc : TypeId × Value → H) :
    ReturnsInHanded {} Tryz.checked os 5 .any (fun w args => (Rows.crabDisksSpec.pre enc Tryz.prog Tryz.f5 Rows.crabDisksRow.domain false w args ∧ laidMetH Tryz.prog Rows.crabDisksRow.laid w) ∧ sizedMet enc Tryz.prog Tryz.f5 (OpenSpec.ofChange Rows.crabDisksSpec) false w args)
      (Rows.crabDisksSpec.post enc Tryz.prog Tryz.f5 false true false false) := by
  refine handed_both (C := Tryz.checked) (X := fun w _ => laidMetH Tryz.prog Rows.crabDisksRow.laid w) (fun _ _ _ hh h => h.of_heap hh) crabDisks_own started (by kernel_rfl) Tryz.func5
    (ChangeSpec.witness_shaped (enc := enc) (C := Tryz.checked) (os := os) (X := fun w _ => laidMetH Tryz.prog Rows.crabDisksRow.laid w) false (World.laidAll Tryz.prog os Rows.crabDisksRow.laid) #[.int .u8 0, .int .u8 0] 8 (World.laidAll_os _ _ _)
      (World.shaped_of_ZipB (by kernel_rfl) (by kernel_rfl)) (by kernel_rfl) (by kernel_rfl) (by kernel_rfl)
      (by rw [MakeChecks.laidMetH_plain _ _ _ (by kernel_rfl)]; exact laidMet_laidAll _ (by kernel_rfl) (by kernel_rfl))) ?_
  intro W base args ds gs before hval0 hW hL hsh
  have hval : ∀ (j : Nat) t v, Tryz.f5.params[j]? = some t → args[j]? = some v → Value.okWide Tryz.prog W .any base t v := hval0
  have hW' := hW
  obtain ⟨p, q, hA0, hV, rfl, _, _⟩ := hW
  have hA : DataW.TrodAll enc Tryz.prog W 0 (fun _ => true) true Tryz.f5.params.toList args.toList ds p := hA0
  rw [Tryz.params5] at hA hval
  obtain ⟨v0, v1, d0, d1, p0, p1, rfl, rfl, rfl, h0, h1⟩ := trodAll_two hA
  obtain ⟨rfl, rfl⟩ := trodVars_none hV
  have hlt : ∀ x ∈ p0 ++ (p1), x.block < W.heap.size := fun x hx => by simpa using hW'.lt x (by simpa using hx)
  have h0k := h0
  obtain ⟨a0, rfl, rfl, rfl, w0⟩ := open_int Tryz.underlying5 (hval 0 5 v0 rfl rfl) h0
  have b0 := bounds_u8 w0
  have h1k := h1
  obtain ⟨a1, rfl, rfl, rfl, w1⟩ := open_int Tryz.underlying5 (hval 1 5 v1 rfl rfl) h1
  have b1 := bounds_u8 w1
  have hg := gl_of_laid hL
  clear hA0 hval0
  simp only [List.append_nil] at hW'
  refine (calls_of_tr (u := .bool true) (args := [.int .u8 a0, .int .u8 a1]) (Tr.mono (t_hermitcrablaw16_CrabDisks (crabDisks_law hg b0 b1)) (by rintro v S' ⟨r, rfl, rfl, hk⟩; exact ⟨rfl, hk⟩)) : Calls Tryz.prog 5 _ W _).mono fun e W' ⟨he, hb⟩ => ?_
  subst he
  exact ⟨_, rfl, _, _, _, [], _, [], hW', trodAll_mk1 (shut_bool Tryz.underlying4 _), trodAll_mk2 (shut_int Tryz.underlying5 w0) (shut_int Tryz.underlying5 w1), rfl, hb.frame _, fun h => by cases h⟩
theorem crabDisks_j0 : (Rows.crabDisksRow.wf (OpenSpec.ofChange Rows.crabDisksSpec)) = true := by kernel_rfl
theorem crabDisks_j1 : (laidOutB Tryz.prog) = true := by kernel_rfl
theorem crabDisks_j2 : (mapsRowed Tryz.prog) = true := by kernel_rfl
theorem crabDisks_j3 : (Tryz.f5.params.all (Tryz.prog.readableRec ·)) = true := by kernel_rfl
theorem crabDisks_j4 : (namedTie Tryz.prog Rows.crabDisksRow.named Rows.crabDisksSpec.vars) = true := by kernel_rfl
theorem crabDisks_j5 : (Rows.crabDisksRow.stops == []) = true := by kernel_rfl
theorem crabDisks_j6 : (Tryz.prog.stops == []) = true := by kernel_rfl
theorem crabDisks_j7 : (Rows.crabDisksRow.knobs == []) = true := by kernel_rfl
theorem crabDisks_j8 : (Tryz.prog.stopKnobs == []) = true := by kernel_rfl
theorem crabDisks_j9 : (Rows.crabDisksRow.inPlace == Tryz.prog.inPlace 5) = true := by kernel_rfl
theorem crabDisks_j10 : (Rows.crabDisksRow.unfollowed == Tryz.prog.unfollowed 5) = true := by kernel_rfl
theorem crabDisks_j11 : (Rows.crabDisksRow.recurses == Tryz.prog.recurses 5) = true := by kernel_rfl
theorem crabDisks_j12 : (Rows.crabDisksRow.named == Tryz.prog.varsNamed 5) = true := by kernel_rfl
theorem crabDisks_j13 : (Rows.crabDisksRow.maps == (Tryz.f5.params.toList ++ Rows.crabDisksSpec.plain.varTypes Tryz.prog).any (Tryz.prog.mapsRec ·)) = true := by kernel_rfl
theorem crabDisks_j14 : (Rows.crabDisksRow.ifaces == (Tryz.f5.params.toList ++ Rows.crabDisksSpec.plain.varTypes Tryz.prog).any (Tryz.prog.ifacesRec ·)) = true := by kernel_rfl
theorem crabDisks_j15 : (Rows.crabDisksRow.mapsOut == Tryz.prog.mapsAmong Tryz.f5.resultTypes.toList) = true := by kernel_rfl
theorem crabDisks_j16 : (Rows.crabDisksRow.loops == (Tryz.f5.params.toList ++ Rows.crabDisksSpec.plain.varTypes Tryz.prog).any (Tryz.prog.loopsFrom ·)) = true := by kernel_rfl
theorem crabDisks_j17 : (Rows.crabDisksRow.wideKeys == (Tryz.f5.params.toList ++ Rows.crabDisksSpec.plain.varTypes Tryz.prog ++ Tryz.f5.resultTypes.toList).any (Tryz.prog.wideKeysFrom ·)) = true := by kernel_rfl
theorem crabDisks_j18 : (Rows.crabDisksSpec.vars.all (Tryz.prog.varReadable ·)) = true := by kernel_rfl
theorem crabDisks_j19 : (Tryz.f5.resultTypes.all (fun t => Tryz.prog.readableRec t && decide (t < Tryz.prog.types.size))) = true := by kernel_rfl
theorem crabDisks_j20 : (Rows.crabDisksRow.ifacesOut == Tryz.f5.resultTypes.toList.any (Tryz.prog.ifacesRec ·)) = true := by kernel_rfl
theorem crabDisks_j21 : (Rows.crabDisksRow.loopsOut == Tryz.f5.resultTypes.toList.any (Tryz.prog.loopsFrom ·)) = true := by kernel_rfl
theorem crabDisks_j22 : (Rows.crabDisksRow.plainKeys == Tryz.prog.plainKeys) = true := by kernel_rfl
theorem crabDisks_j23 : (Rows.crabDisksRow.shortTexts.isNone) = true := by kernel_rfl
theorem crabDisks_j24 : (Tryz.prog.stopsHeard) = true := by kernel_rfl
theorem crabDisks_j25 : (Tryz.prog.mayEnter) = true := by kernel_rfl
theorem crabDisks_j26 : (Rows.crabDisksRow.lifted == Tryz.prog.liftsFinal) = true := by kernel_rfl
theorem crabDisks_j27 : (Tryz.prog.make == some Rows.crabDisksRow.make) = true := by kernel_rfl
theorem crabDisks_j28 : (Rows.crabDisksRow.kinds == (if Rows.crabDisksRow.domain.isEmpty then [] else Tryz.f5.params.toList.map fun t => match Tryz.prog.underlying t with | some (.int k) => some k | _ => none)) = true := by kernel_rfl
theorem crabDisks_j29 : (Rows.crabDisksRow.pinned == Rows.crabDisksRow.pinnedBy) = true := by kernel_rfl
theorem crabDisks_j30 : (Rows.crabDisksRow.veiled == (Tryz.f5.params.toList ++ Rows.crabDisksSpec.plain.varTypes Tryz.prog ++ Tryz.f5.resultTypes.toList).any (Tryz.prog.veiledRec ·)) = true := by kernel_rfl
theorem crabDisks_j31 : (Rows.crabDisksRow.veiledFits Tryz.prog Tryz.f5.params.toList (Tryz.f5.params.toList ++ Rows.crabDisksSpec.plain.varTypes Tryz.prog ++ Tryz.f5.resultTypes.toList)) = true := by kernel_rfl
set_option maxRecDepth 100000 in
theorem crabDisks_joined : joinedFacts Tryz.prog 5 Tryz.f5 Rows.crabDisksSpec Rows.crabDisksRow = true := (and_i (and_i (and_i (and_i (and_i (and_i (and_i (and_i (and_i (and_i (and_i (and_i (and_i (and_i (and_i (and_i (and_i (and_i (and_i (and_i (and_i (and_i (and_i (and_i (and_i (and_i (and_i (and_i (and_i (and_i (and_i crabDisks_j0 crabDisks_j1) crabDisks_j2) crabDisks_j3) crabDisks_j4) crabDisks_j5) crabDisks_j6) crabDisks_j7) crabDisks_j8) crabDisks_j9) crabDisks_j10) crabDisks_j11) crabDisks_j12) crabDisks_j13) crabDisks_j14) crabDisks_j15) crabDisks_j16) crabDisks_j17) crabDisks_j18) crabDisks_j19) crabDisks_j20) crabDisks_j21) crabDisks_j22) crabDisks_j23) crabDisks_j24) crabDisks_j25) crabDisks_j26) crabDisks_j27) crabDisks_j28) crabDisks_j29) crabDisks_j30) crabDisks_j31)
theorem crabDisks_named : Tryz.prog.funcNamed Rows.crabDisksRow.func = some 5 := by kernel_rfl
theorem crabDisks_inst : Tryz.f5.isInstance Tryz.prog Rows.crabDisksRow.origin Rows.crabDisksRow.targs := of_decide_eq_true (by kernel_rfl)
theorem crabDisks_wrap : Tryz.f5.isWrapper Tryz.prog Rows.crabDisksRow.wrapper Rows.crabDisksRow.mainSum := by unfold Func.isWrapper; first | (rw [if_pos (by decide +kernel)]; kernel_rfl) | (rw [if_neg (by decide +kernel)]; exact ⟨rfl, rfl⟩)
theorem crabDisks_said : Rows.CrabDisksSaid :=
  OpenClaim.holds_of_wide 5 Tryz.f5 rfl rfl rfl rfl rfl rfl rfl ⟨rfl, rfl, rfl, rfl, rfl⟩ rfl rfl rfl rfl rfl crabDisks_named Tryz.func5 crabDisks_joined crabDisks_inst crabDisks_wrap
    (fun os started H enc _ => crabDisks_lifted os started H enc)
theorem crabDisks_holds : Rows.CrabDisksCardSaid :=
  Claim7.holds_tied_plain_at .later [] [.data] true (true, "b446bb6fbd90a262edb26febaf697f3423a310bfa096398a4e9a6bc1fd76dc28") true crabDisks_said (fun _ h => by cases h) (by as_aux_lemma => kernel_rfl) (fun _ h => by cases h) crabDisks_row_tie rfl ⟨rfl, rfl⟩ (by as_aux_lemma => kernel_rfl) rfl
    (fun f fn hf hfn => by
      obtain rfl : f = 5 := Option.some.inj (crabDisks_named.symm.trans hf) |>.symm
      obtain rfl : fn = Tryz.f5 := (Option.some.inj (Tryz.func5.symm.trans hfn)).symm
      exact ⟨by as_aux_lemma => kernel_rfl, fun j t ht => by
        rw [Tryz.params5] at ht
        have hm : t ∈ [5, 5] := by simpa using Array.mem_of_getElem? ht
        have hall : ([5, 5].all fun u => !Tryz.prog.wantsStandIn u) = true := by kernel_rfl
        exact (show Tryz.prog.wantsStandIn t = false by simpa using List.all_eq_true.1 hall t hm)⟩)
    (by as_aux_lemma => kernel_rfl)
#print axioms crabDisks_holds
end Go.Proofs.YtabdpmnhjlmnlaaGreatDoor
