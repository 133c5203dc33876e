/- ProofSwaps: two pages that are changed for one another are found: whatever the input, the call returns true, and the arguments read behind it as before. The condition: the program's variable holds what its text lays (tied by the given card). -/
import Derived.Test.YtabdpmnhjlmnlaaGreatDoorQWJ
import Derived.Carry
import Derived.Test.YtabdpmnhjlmnlaaGreatDoorTie
import Derived.Test.YtabdpmnhjlmnlaaGreatDoorCards
import Derived.SevenTiedAt
namespace Go.Proofs.YtabdpmnhjlmnlaaGreatDoor
open Go.ChangeShapes Go.WideShapes Go.ChangeAt Go.RowKit Go.Pt
theorem proofSwaps_own : ownKnob Tryz.prog.godebug = none := by kernel_rfl
theorem proofSwaps_laid : laidOutB Tryz.prog = true := by kernel_rfl
set_option maxRecDepth 100000 in
theorem proofSwaps_lifted (os : Os) (started : os.Started) (H : Type) (enc : TypeId × Value → H) :
    ReturnsInHanded {} Tryz.checked os 14 .any (fun w args => (Rows.proofSwapsSpec.pre enc Tryz.prog Tryz.f14 Rows.proofSwapsRow.domain false w args ∧ laidMetH Tryz.prog Rows.proofSwapsRow.laid w) ∧ sizedMet enc Tryz.prog Tryz.f14 (OpenSpec.ofChange Rows.proofSwapsSpec) false w args)
      (Rows.proofSwapsSpec.post enc Tryz.prog Tryz.f14 false true false false) := by
  refine zaV (C := Tryz.checked) (X := fun w _ => laidMetH Tryz.prog Rows.proofSwapsRow.laid w) (fun _ _ _ hh h => h.of_heap hh) proofSwaps_own started (by kernel_rfl) Tryz.func14
    (ChangeSpec.witness_shaped (enc := enc) (C := Tryz.checked) (os := os) (X := fun w _ => laidMetH Tryz.prog Rows.proofSwapsRow.laid w) false (World.laidAll Tryz.prog os Rows.proofSwapsRow.laid) #[.int .u8 0, .int .u8 0, .int .u8 0] 8 (World.laidAll_os _ _ _)
      (World.shaped_of_ZipB (by kernel_rfl) (by kernel_rfl)) (by kernel_rfl) (by kernel_rfl) (by kernel_rfl)
      (by rw [MakeChecks.laidMetH_plain _ _ _ (by kernel_rfl)]; exact laidMet_laidAll _ (by kernel_rfl) (by kernel_rfl))) ?_
  intro W base args ds gs before hval0 hW hL hsh
  have hval : ∀ (j : Nat) t v, Tryz.f14.params[j]? = some t → args[j]? = some v → Value.okWide Tryz.prog W .any base t v := hval0
  have hW' := hW
  obtain ⟨p, q, hA0, hV, rfl, _, _⟩ := hW
  have hA : DataW.TrodAll enc Tryz.prog W 0 (fun _ => true) true Tryz.f14.params.toList args.toList ds p := hA0
  rw [Tryz.params14] at hA hval
  obtain ⟨v0, v1, v2, d0, d1, d2, p0, p1, p2, rfl, rfl, rfl, h0, h1, h2⟩ := trodAll_three hA
  obtain ⟨rfl, rfl⟩ := trodVars_none hV
  have hlt : ∀ x ∈ p0 ++ (p1 ++ (p2)), x.block < W.heap.size := fun x hx => by simpa using hW'.lt x (by simpa using hx)
  have h0k := h0
  obtain ⟨a0, rfl, rfl, rfl, w0⟩ := open_int Tryz.underlying5 (hval 0 5 v0 rfl rfl) h0
  have b0 := bounds_u8 w0
  have h1k := h1
  obtain ⟨a1, rfl, rfl, rfl, w1⟩ := open_int Tryz.underlying5 (hval 1 5 v1 rfl rfl) h1
  have b1 := bounds_u8 w1
  have h2k := h2
  obtain ⟨a2, rfl, rfl, rfl, w2⟩ := open_int Tryz.underlying5 (hval 2 5 v2 rfl rfl) h2
  have b2 := bounds_u8 w2
  have hg := gl_of_laid hL
  clear hA0 hval0
  simp only [List.append_nil] at hW'
  refine (zbd (u := .bool true) (args := [.int .u8 a0, .int .u8 a1, .int .u8 a2]) (Tr.mono (xD (gy hg b0 b1 b2)) (by rintro v S' ⟨r, rfl, rfl, hk⟩; exact ⟨rfl, hk⟩)) : Calls Tryz.prog 14 _ W _).mono fun e W' ⟨he, hb⟩ => ?_
  subst he
  exact ⟨_, rfl, _, _, _, [], _, [], hW', trodAll_mk1 (shut_bool Tryz.underlying4 _), trodAll_mk3 (shut_int Tryz.underlying5 w0) (shut_int Tryz.underlying5 w1) (shut_int Tryz.underlying5 w2), rfl, hb.frame _, fun h => by cases h⟩
theorem proofSwaps_j0 : (Rows.proofSwapsRow.wf (OpenSpec.ofChange Rows.proofSwapsSpec)) = true := by kernel_rfl
theorem proofSwaps_j1 : (laidOutB Tryz.prog) = true := by kernel_rfl
theorem proofSwaps_j2 : (mapsRowed Tryz.prog) = true := by kernel_rfl
theorem proofSwaps_j3 : (Tryz.f14.params.all (Tryz.prog.readableRec ·)) = true := by kernel_rfl
theorem proofSwaps_j4 : (namedTie Tryz.prog Rows.proofSwapsRow.named Rows.proofSwapsSpec.vars) = true := by kernel_rfl
theorem proofSwaps_j5 : (Rows.proofSwapsRow.stops == []) = true := by kernel_rfl
theorem proofSwaps_j6 : (Tryz.prog.stops == []) = true := by kernel_rfl
theorem proofSwaps_j7 : (Rows.proofSwapsRow.knobs == []) = true := by kernel_rfl
theorem proofSwaps_j8 : (Tryz.prog.stopKnobs == []) = true := by kernel_rfl
theorem proofSwaps_j9 : (Rows.proofSwapsRow.inPlace == Tryz.prog.inPlace 14) = true := by kernel_rfl
theorem proofSwaps_j10 : (Rows.proofSwapsRow.unfollowed == Tryz.prog.unfollowed 14) = true := by kernel_rfl
theorem proofSwaps_j11 : (Rows.proofSwapsRow.recurses == Tryz.prog.recurses 14) = true := by kernel_rfl
theorem proofSwaps_j12 : (Rows.proofSwapsRow.named == Tryz.prog.varsNamed 14) = true := by kernel_rfl
theorem proofSwaps_j13 : (Rows.proofSwapsRow.maps == (Tryz.f14.params.toList ++ Rows.proofSwapsSpec.plain.varTypes Tryz.prog).any (Tryz.prog.mapsRec ·)) = true := by kernel_rfl
theorem proofSwaps_j14 : (Rows.proofSwapsRow.ifaces == (Tryz.f14.params.toList ++ Rows.proofSwapsSpec.plain.varTypes Tryz.prog).any (Tryz.prog.ifacesRec ·)) = true := by kernel_rfl
theorem proofSwaps_j15 : (Rows.proofSwapsRow.mapsOut == Tryz.prog.mapsAmong Tryz.f14.resultTypes.toList) = true := by kernel_rfl
theorem proofSwaps_j16 : (Rows.proofSwapsRow.loops == (Tryz.f14.params.toList ++ Rows.proofSwapsSpec.plain.varTypes Tryz.prog).any (Tryz.prog.loopsFrom ·)) = true := by kernel_rfl
theorem proofSwaps_j17 : (Rows.proofSwapsRow.wideKeys == (Tryz.f14.params.toList ++ Rows.proofSwapsSpec.plain.varTypes Tryz.prog ++ Tryz.f14.resultTypes.toList).any (Tryz.prog.wideKeysFrom ·)) = true := by kernel_rfl
theorem proofSwaps_j18 : (Rows.proofSwapsSpec.vars.all (Tryz.prog.varReadable ·)) = true := by kernel_rfl
theorem proofSwaps_j19 : (Tryz.f14.resultTypes.all (fun t => Tryz.prog.readableRec t && decide (t < Tryz.prog.types.size))) = true := by kernel_rfl
theorem proofSwaps_j20 : (Rows.proofSwapsRow.ifacesOut == Tryz.f14.resultTypes.toList.any (Tryz.prog.ifacesRec ·)) = true := by kernel_rfl
theorem proofSwaps_j21 : (Rows.proofSwapsRow.loopsOut == Tryz.f14.resultTypes.toList.any (Tryz.prog.loopsFrom ·)) = true := by kernel_rfl
theorem proofSwaps_j22 : (Rows.proofSwapsRow.plainKeys == Tryz.prog.plainKeys) = true := by kernel_rfl
theorem proofSwaps_j23 : (Rows.proofSwapsRow.shortTexts.isNone) = true := by kernel_rfl
theorem proofSwaps_j24 : (Tryz.prog.stopsHeard) = true := by kernel_rfl
theorem proofSwaps_j25 : (Tryz.prog.mayEnter) = true := by kernel_rfl
theorem proofSwaps_j26 : (Rows.proofSwapsRow.lifted == Tryz.prog.liftsFinal) = true := by kernel_rfl
theorem proofSwaps_j27 : (Tryz.prog.make == some Rows.proofSwapsRow.make) = true := by kernel_rfl
theorem proofSwaps_j28 : (Rows.proofSwapsRow.kinds == (if Rows.proofSwapsRow.domain.isEmpty then [] else Tryz.f14.params.toList.map fun t => match Tryz.prog.underlying t with | some (.int k) => some k | _ => none)) = true := by kernel_rfl
theorem proofSwaps_j29 : (Rows.proofSwapsRow.pinned == Rows.proofSwapsRow.pinnedBy) = true := by kernel_rfl
theorem proofSwaps_j30 : (Rows.proofSwapsRow.veiled == (Tryz.f14.params.toList ++ Rows.proofSwapsSpec.plain.varTypes Tryz.prog ++ Tryz.f14.resultTypes.toList).any (Tryz.prog.veiledRec ·)) = true := by kernel_rfl
theorem proofSwaps_j31 : (Rows.proofSwapsRow.veiledFits Tryz.prog Tryz.f14.params.toList (Tryz.f14.params.toList ++ Rows.proofSwapsSpec.plain.varTypes Tryz.prog ++ Tryz.f14.resultTypes.toList)) = true := by kernel_rfl
set_option maxRecDepth 100000 in
theorem proofSwaps_joined : joinedFacts Tryz.prog 14 Tryz.f14 Rows.proofSwapsSpec Rows.proofSwapsRow = true := (yC (yC (yC (yC (yC (yC (yC (yC (yC (yC (yC (yC (yC (yC (yC (yC (yC (yC (yC (yC (yC (yC (yC (yC (yC (yC (yC (yC (yC (yC (yC proofSwaps_j0 proofSwaps_j1) proofSwaps_j2) proofSwaps_j3) proofSwaps_j4) proofSwaps_j5) proofSwaps_j6) proofSwaps_j7) proofSwaps_j8) proofSwaps_j9) proofSwaps_j10) proofSwaps_j11) proofSwaps_j12) proofSwaps_j13) proofSwaps_j14) proofSwaps_j15) proofSwaps_j16) proofSwaps_j17) proofSwaps_j18) proofSwaps_j19) proofSwaps_j20) proofSwaps_j21) proofSwaps_j22) proofSwaps_j23) proofSwaps_j24) proofSwaps_j25) proofSwaps_j26) proofSwaps_j27) proofSwaps_j28) proofSwaps_j29) proofSwaps_j30) proofSwaps_j31)
theorem proofSwaps_named : Tryz.prog.funcNamed Rows.proofSwapsRow.func = some 14 := by kernel_rfl
theorem proofSwaps_inst : Tryz.f14.isInstance Tryz.prog Rows.proofSwapsRow.origin Rows.proofSwapsRow.targs := of_decide_eq_true (by kernel_rfl)
theorem proofSwaps_wrap : Tryz.f14.isWrapper Tryz.prog Rows.proofSwapsRow.wrapper Rows.proofSwapsRow.mainSum := by unfold Func.isWrapper; first | (rw [if_pos (by decide +kernel)]; kernel_rfl) | (rw [if_neg (by decide +kernel)]; exact ⟨rfl, rfl⟩)
theorem proofSwaps_said : Rows.ProofSwapsSaid :=
  OpenClaim.holds_of_wide 14 Tryz.f14 rfl rfl rfl rfl rfl rfl rfl ⟨rfl, rfl, rfl, rfl, rfl⟩ rfl rfl rfl rfl rfl proofSwaps_named Tryz.func14 proofSwaps_joined proofSwaps_inst proofSwaps_wrap
    (fun os started H enc _ => proofSwaps_lifted os started H enc)
theorem proofSwaps_holds : Rows.ProofSwapsCardSaid :=
  Claim7.holds_tied_plain_at .later [] [.data] true (true, "b446bb6fbd90a262edb26febaf697f3423a310bfa096398a4e9a6bc1fd76dc28") true proofSwaps_said (fun _ h => by cases h) (by as_aux_lemma => kernel_rfl) (fun _ h => by cases h) proofSwaps_row_tie rfl ⟨rfl, rfl⟩ (by as_aux_lemma => kernel_rfl) rfl
    (fun f fn hf hfn => by
      obtain rfl : f = 14 := Option.some.inj (proofSwaps_named.symm.trans hf) |>.symm
      obtain rfl : fn = Tryz.f14 := (Option.some.inj (Tryz.func14.symm.trans hfn)).symm
      exact ⟨by as_aux_lemma => kernel_rfl, fun j t ht => by
        rw [Tryz.params14] at ht
        have hm : t ∈ [5, 5, 5] := by simpa using Array.mem_of_getElem? ht
        have hall : ([5, 5, 5].all fun u => !Tryz.prog.wantsStandIn u) = true := by kernel_rfl
        exact (show Tryz.prog.wantsStandIn t = false by simpa using List.all_eq_true.1 hall t hm)⟩)
    (by as_aux_lemma => kernel_rfl)
#print axioms proofSwaps_holds
end Go.Proofs.YtabdpmnhjlmnlaaGreatDoor
