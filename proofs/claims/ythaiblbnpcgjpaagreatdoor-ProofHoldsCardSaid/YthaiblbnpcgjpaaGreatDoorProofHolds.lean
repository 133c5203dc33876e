/- ProofHolds: whatever is done, a hypervisor holds together: whatever the input, the call returns true, and the arguments read behind it as before. The condition: the program's variable holds what its text lays (tied by the given card). -/
import Derived.Test.YthaiblbnpcgjpaaGreatDoorQAP
import Derived.Test.YthaiblbnpcgjpaaGreatDoorQAQ
import Derived.Carry
import Derived.Test.YthaiblbnpcgjpaaGreatDoorTie
import Derived.Test.YthaiblbnpcgjpaaGreatDoorCards
import Derived.SevenTiedAt
namespace Go.Proofs.YthaiblbnpcgjpaaGreatDoor
open Go.ChangeShapes Go.WideShapes Go.ChangeAt Go.RowKit Go.Pt
theorem proofHolds_own : ownKnob Tryz.prog.godebug = none := by kernel_rfl
theorem proofHolds_laid : laidOutB Tryz.prog = true := by kernel_rfl
set_option maxRecDepth 100000 in
theorem proofHolds_lifted (os : Os) (started : os.Started) (H : Type) (enc : TypeId × Value → H) :
    ReturnsInHanded {} Tryz.checked os 5 .any (fun w args => (Rows.proofHoldsSpec.pre enc Tryz.prog Tryz.f5 Rows.proofHoldsRow.domain false w args ∧ laidMetH Tryz.prog Rows.proofHoldsRow.laid w) ∧ sizedMet enc Tryz.prog Tryz.f5 (OpenSpec.ofChange Rows.proofHoldsSpec) false w args)
      (Rows.proofHoldsSpec.post enc Tryz.prog Tryz.f5 false true false false) := by
  refine ziO (C := Tryz.checked) (X := fun w _ => laidMetH Tryz.prog Rows.proofHoldsRow.laid w) (fun _ _ _ hh h => h.of_heap hh) proofHolds_own started (by kernel_rfl) Tryz.func5
    (ChangeSpec.witness_shaped (enc := enc) (C := Tryz.checked) (os := os) (X := fun w _ => laidMetH Tryz.prog Rows.proofHoldsRow.laid w) false (World.laidAll Tryz.prog os Rows.proofHoldsRow.laid) #[.int .u8 0, .slice none 0 0, .slice none 0 0] 8 (World.laidAll_os _ _ _)
      (World.shaped_of_ZipB (by kernel_rfl) (by kernel_rfl)) (by kernel_rfl) (by kernel_rfl) (by kernel_rfl)
      (by rw [MakeChecks.laidMetH_plain _ _ _ (by kernel_rfl)]; exact laidMet_laidAll _ (by kernel_rfl) (by kernel_rfl))) ?_
  intro W base args ds gs before hval0 hW hL hsh
  have hval : ∀ (j : Nat) t v, Tryz.f5.params[j]? = some t → args[j]? = some v → Value.okWide Tryz.prog W .any base t v := hval0
  have hW' := hW
  obtain ⟨p, q, hA0, hV, rfl, _, _⟩ := hW
  have hA : DataW.TrodAll enc Tryz.prog W 0 (fun _ => true) true Tryz.f5.params.toList args.toList ds p := hA0
  rw [Tryz.params5] at hA hval
  obtain ⟨v0, v1, v2, d0, d1, d2, p0, p1, p2, rfl, rfl, rfl, h0, h1, h2⟩ := trodAll_three hA
  obtain ⟨rfl, rfl⟩ := trodVars_none hV
  have hlt : ∀ x ∈ p0 ++ (p1 ++ (p2)), x.block < W.heap.size := fun x hx => by simpa using hW'.lt x (by simpa using hx)
  have h0k := h0
  obtain ⟨a0, rfl, rfl, rfl, w0⟩ := open_int Tryz.underlying5 (hval 0 5 v0 rfl rfl) h0
  have b0 := bounds_u8 w0
  have h1k := h1
  obtain ⟨l1, xs1, rfl, in1⟩ := zlI Tryz.underlying22 Tryz.underlying5 (by kernel_rfl) (hval 1 22 v1 rfl rfl) h1
  have h2k := h2
  obtain ⟨l2, xs2, rfl, in2⟩ := zlI Tryz.underlying22 Tryz.underlying5 (by kernel_rfl) (hval 2 22 v2 rfl rfl) h2
  have hg := gl_of_laid hL
  clear hA0 hval0
  simp only [List.append_nil] at hW'
  refine (zjd (u := .bool true) (args := [.int .u8 a0, eL l1, eL l2]) (Tr.mono (ky (zfB hg b0 (byz in1) (byz in2))) (by rintro v S' ⟨r, rfl, rfl, hk⟩; exact ⟨rfl, hk⟩)) : Calls Tryz.prog 5 _ W _).mono fun e W' ⟨he, hb⟩ => ?_
  subst he
  exact ⟨_, rfl, _, _, _, [], _, [], hW', trodAll_mk1 (shut_bool Tryz.underlying4 _), trodAll_mk3 (shut_int Tryz.underlying5 w0) (Below.trod proofHolds_laid (by kernel_rfl) (of_decide_eq_true (by kernel_rfl)) h1k hb fun x hx => hlt x (by simp [hx])) (Below.trod proofHolds_laid (by kernel_rfl) (of_decide_eq_true (by kernel_rfl)) h2k hb fun x hx => hlt x (by simp [hx])), rfl, hb.frame _, fun h => by cases h⟩
theorem proofHolds_j0 : (Rows.proofHoldsRow.wf (OpenSpec.ofChange Rows.proofHoldsSpec)) = true := by kernel_rfl
theorem proofHolds_j1 : (laidOutB Tryz.prog) = true := by kernel_rfl
theorem proofHolds_j2 : (mapsRowed Tryz.prog) = true := by kernel_rfl
theorem proofHolds_j3 : (Tryz.f5.params.all (Tryz.prog.readableRec ·)) = true := by kernel_rfl
theorem proofHolds_j4 : (namedTie Tryz.prog Rows.proofHoldsRow.named Rows.proofHoldsSpec.vars) = true := by kernel_rfl
theorem proofHolds_j5 : (Rows.proofHoldsRow.stops == []) = true := by kernel_rfl
theorem proofHolds_j6 : (Tryz.prog.stops == []) = true := by kernel_rfl
theorem proofHolds_j7 : (Rows.proofHoldsRow.knobs == []) = true := by kernel_rfl
theorem proofHolds_j8 : (Tryz.prog.stopKnobs == []) = true := by kernel_rfl
theorem proofHolds_j9 : (Rows.proofHoldsRow.inPlace == Tryz.prog.inPlace 5) = true := by kernel_rfl
theorem proofHolds_j10 : (Rows.proofHoldsRow.unfollowed == Tryz.prog.unfollowed 5) = true := by kernel_rfl
theorem proofHolds_j11 : (Rows.proofHoldsRow.recurses == Tryz.prog.recurses 5) = true := by kernel_rfl
theorem proofHolds_j12 : (Rows.proofHoldsRow.named == Tryz.prog.varsNamed 5) = true := by kernel_rfl
theorem proofHolds_j13 : (Rows.proofHoldsRow.maps == (Tryz.f5.params.toList ++ Rows.proofHoldsSpec.plain.varTypes Tryz.prog).any (Tryz.prog.mapsRec ·)) = true := by kernel_rfl
theorem proofHolds_j14 : (Rows.proofHoldsRow.ifaces == (Tryz.f5.params.toList ++ Rows.proofHoldsSpec.plain.varTypes Tryz.prog).any (Tryz.prog.ifacesRec ·)) = true := by kernel_rfl
theorem proofHolds_j15 : (Rows.proofHoldsRow.mapsOut == Tryz.prog.mapsAmong Tryz.f5.resultTypes.toList) = true := by kernel_rfl
theorem proofHolds_j16 : (Rows.proofHoldsRow.loops == (Tryz.f5.params.toList ++ Rows.proofHoldsSpec.plain.varTypes Tryz.prog).any (Tryz.prog.loopsFrom ·)) = true := by kernel_rfl
theorem proofHolds_j17 : (Rows.proofHoldsRow.wideKeys == (Tryz.f5.params.toList ++ Rows.proofHoldsSpec.plain.varTypes Tryz.prog ++ Tryz.f5.resultTypes.toList).any (Tryz.prog.wideKeysFrom ·)) = true := by kernel_rfl
theorem proofHolds_j18 : (Rows.proofHoldsSpec.vars.all (Tryz.prog.varReadable ·)) = true := by kernel_rfl
theorem proofHolds_j19 : (Tryz.f5.resultTypes.all (fun t => Tryz.prog.readableRec t && decide (t < Tryz.prog.types.size))) = true := by kernel_rfl
theorem proofHolds_j20 : (Rows.proofHoldsRow.ifacesOut == Tryz.f5.resultTypes.toList.any (Tryz.prog.ifacesRec ·)) = true := by kernel_rfl
theorem proofHolds_j21 : (Rows.proofHoldsRow.loopsOut == Tryz.f5.resultTypes.toList.any (Tryz.prog.loopsFrom ·)) = true := by kernel_rfl
theorem proofHolds_j22 : (Rows.proofHoldsRow.plainKeys == Tryz.prog.plainKeys) = true := by kernel_rfl
theorem proofHolds_j23 : (Rows.proofHoldsRow.shortTexts.isNone) = true := by kernel_rfl
theorem proofHolds_j24 : (Tryz.prog.stopsHeard) = true := by kernel_rfl
theorem proofHolds_j25 : (Tryz.prog.mayEnter) = true := by kernel_rfl
theorem proofHolds_j26 : (Rows.proofHoldsRow.lifted == Tryz.prog.liftsFinal) = true := by kernel_rfl
theorem proofHolds_j27 : (Tryz.prog.make == some Rows.proofHoldsRow.make) = true := by kernel_rfl
theorem proofHolds_j28 : (Rows.proofHoldsRow.kinds == (if Rows.proofHoldsRow.domain.isEmpty then [] else Tryz.f5.params.toList.map fun t => match Tryz.prog.underlying t with | some (.int k) => some k | _ => none)) = true := by kernel_rfl
theorem proofHolds_j29 : (Rows.proofHoldsRow.pinned == Rows.proofHoldsRow.pinnedBy) = true := by kernel_rfl
theorem proofHolds_j30 : (Rows.proofHoldsRow.veiled == (Tryz.f5.params.toList ++ Rows.proofHoldsSpec.plain.varTypes Tryz.prog ++ Tryz.f5.resultTypes.toList).any (Tryz.prog.veiledRec ·)) = true := by kernel_rfl
theorem proofHolds_j31 : (Rows.proofHoldsRow.veiledFits Tryz.prog Tryz.f5.params.toList (Tryz.f5.params.toList ++ Rows.proofHoldsSpec.plain.varTypes Tryz.prog ++ Tryz.f5.resultTypes.toList)) = true := by kernel_rfl
set_option maxRecDepth 100000 in
theorem proofHolds_joined : joinedFacts Tryz.prog 5 Tryz.f5 Rows.proofHoldsSpec Rows.proofHoldsRow = true := (xT (xT (xT (xT (xT (xT (xT (xT (xT (xT (xT (xT (xT (xT (xT (xT (xT (xT (xT (xT (xT (xT (xT (xT (xT (xT (xT (xT (xT (xT (xT proofHolds_j0 proofHolds_j1) proofHolds_j2) proofHolds_j3) proofHolds_j4) proofHolds_j5) proofHolds_j6) proofHolds_j7) proofHolds_j8) proofHolds_j9) proofHolds_j10) proofHolds_j11) proofHolds_j12) proofHolds_j13) proofHolds_j14) proofHolds_j15) proofHolds_j16) proofHolds_j17) proofHolds_j18) proofHolds_j19) proofHolds_j20) proofHolds_j21) proofHolds_j22) proofHolds_j23) proofHolds_j24) proofHolds_j25) proofHolds_j26) proofHolds_j27) proofHolds_j28) proofHolds_j29) proofHolds_j30) proofHolds_j31)
theorem proofHolds_named : Tryz.prog.funcNamed Rows.proofHoldsRow.func = some 5 := by kernel_rfl
theorem proofHolds_inst : Tryz.f5.isInstance Tryz.prog Rows.proofHoldsRow.origin Rows.proofHoldsRow.targs := of_decide_eq_true (by kernel_rfl)
theorem proofHolds_wrap : Tryz.f5.isWrapper Tryz.prog Rows.proofHoldsRow.wrapper Rows.proofHoldsRow.mainSum := by unfold Func.isWrapper; first | (rw [if_pos (by decide +kernel)]; kernel_rfl) | (rw [if_neg (by decide +kernel)]; exact ⟨rfl, rfl⟩)
theorem proofHolds_said : Rows.ProofHoldsSaid :=
  OpenClaim.holds_of_wide 5 Tryz.f5 rfl rfl rfl rfl rfl rfl rfl ⟨rfl, rfl, rfl, rfl, rfl⟩ rfl rfl rfl rfl rfl proofHolds_named Tryz.func5 proofHolds_joined proofHolds_inst proofHolds_wrap
    (fun os started H enc _ => proofHolds_lifted os started H enc)
theorem proofHolds_holds : Rows.ProofHoldsCardSaid :=
  Claim7.holds_tied_plain_at .later [] [.data] true (true, "6bef1eee8ef7bff53f575dab6a6ba677a2c848adc982d71f26b24390dc2d5fe9") true proofHolds_said (fun _ h => by cases h) (by as_aux_lemma => kernel_rfl) (fun _ h => by cases h) proofHolds_row_tie rfl ⟨rfl, rfl⟩ (by as_aux_lemma => kernel_rfl) rfl
    (fun f fn hf hfn => by
      obtain rfl : f = 5 := Option.some.inj (proofHolds_named.symm.trans hf) |>.symm
      obtain rfl : fn = Tryz.f5 := (Option.some.inj (Tryz.func5.symm.trans hfn)).symm
      exact ⟨by as_aux_lemma => kernel_rfl, fun j t ht => by
        rw [Tryz.params5] at ht
        have hm : t ∈ [5, 22, 22] := by simpa using Array.mem_of_getElem? ht
        have hall : ([5, 22, 22].all fun u => !Tryz.prog.wantsStandIn u) = true := by kernel_rfl
        exact (show Tryz.prog.wantsStandIn t = false by simpa using List.all_eq_true.1 hall t hm)⟩)
    (by as_aux_lemma => kernel_rfl)
#print axioms proofHolds_holds
end Go.Proofs.YthaiblbnpcgjpaaGreatDoor
