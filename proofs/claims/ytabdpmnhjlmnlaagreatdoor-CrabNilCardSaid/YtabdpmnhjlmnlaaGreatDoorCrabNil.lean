/- CrabNil: a nil hypervisor has nothing; small numbers: whatever the input, the call returns true, and the arguments read behind it as before. The condition: the program's variable holds what its text lays (tied by the given card). -/
import Derived.Test.YtabdpmnhjlmnlaaGreatDoorQNO
import Derived.Carry
import Derived.Test.YtabdpmnhjlmnlaaGreatDoorTie
import Derived.Test.YtabdpmnhjlmnlaaGreatDoorCards
import Derived.SevenTiedAt
namespace Go.Proofs.YtabdpmnhjlmnlaaGreatDoor
open Go.ChangeShapes Go.WideShapes Go.ChangeAt Go.RowKit Go.Pt
theorem crabNil_own : ownKnob Tryz.prog.godebug = none := by kernel_rfl
theorem crabNil_laid : laidOutB Tryz.prog = true := by kernel_rfl
set_option maxRecDepth 100000 in
theorem crabNil_lifted (os : Os) (started : os.Started) (H : Type) (enc : TypeId × Value → H) :
    ReturnsInHanded {} Tryz.checked os 11 .any (fun w args => (Rows.crabNilSpec.pre enc Tryz.prog Tryz.f11 Rows.crabNilRow.domain false w args ∧ laidMetH Tryz.prog Rows.crabNilRow.laid w) ∧ sizedMet enc Tryz.prog Tryz.f11 (OpenSpec.ofChange Rows.crabNilSpec) false w args)
      (Rows.crabNilSpec.post enc Tryz.prog Tryz.f11 false true false false) := by
  refine handed_both (C := Tryz.checked) (X := fun w _ => laidMetH Tryz.prog Rows.crabNilRow.laid w) (fun _ _ _ hh h => h.of_heap hh) crabNil_own started (by kernel_rfl) Tryz.func11
    (ChangeSpec.witness_shaped (enc := enc) (C := Tryz.checked) (os := os) (X := fun w _ => laidMetH Tryz.prog Rows.crabNilRow.laid w) false (World.laidAll Tryz.prog os Rows.crabNilRow.laid) #[.int .i64 0, .int .i64 0, .int .u64 0, .slice none 0 0] 8 (World.laidAll_os _ _ _)
      (World.shaped_of_ZipB (by kernel_rfl) (by kernel_rfl)) (by kernel_rfl) (by kernel_rfl) (by kernel_rfl)
      (by rw [MakeChecks.laidMetH_plain _ _ _ (by kernel_rfl)]; exact laidMet_laidAll _ (by kernel_rfl) (by kernel_rfl))) ?_
  intro W base args ds gs before hval0 hW hL hsh
  have hval : ∀ (j : Nat) t v, Tryz.f11.params[j]? = some t → args[j]? = some v → Value.okWide Tryz.prog W .any base t v := hval0
  have hW' := hW
  obtain ⟨p, q, hA0, hV, rfl, _, _⟩ := hW
  have hA : DataW.TrodAll enc Tryz.prog W 0 (fun _ => true) true Tryz.f11.params.toList args.toList ds p := hA0
  rw [Tryz.params11] at hA hval
  obtain ⟨v0, v1, v2, v3, d0, d1, d2, d3, p0, p1, p2, p3, rfl, rfl, rfl, h0, h1, h2, h3⟩ := trodAll_four hA
  obtain ⟨rfl, rfl⟩ := trodVars_none hV
  have hlt : ∀ x ∈ p0 ++ (p1 ++ (p2 ++ (p3))), x.block < W.heap.size := fun x hx => by simpa using hW'.lt x (by simpa using hx)
  have h0k := h0
  obtain ⟨a0, rfl, rfl, rfl, w0⟩ := open_int Tryz.underlying3 (hval 0 3 v0 rfl rfl) h0
  have b0 := bounds_i64 w0
  have h1k := h1
  obtain ⟨a1, rfl, rfl, rfl, w1⟩ := open_int Tryz.underlying3 (hval 1 3 v1 rfl rfl) h1
  have b1 := bounds_i64 w1
  have h2k := h2
  obtain ⟨a2, rfl, rfl, rfl, w2⟩ := open_int Tryz.underlying39 (hval 2 39 v2 rfl rfl) h2
  have b2 := bounds_u64 w2
  have h3k := h3
  obtain ⟨l3, xs3, rfl, in3⟩ := open_by Tryz.underlying22 Tryz.underlying5 (by kernel_rfl) (hval 3 22 v3 rfl rfl) h3
  have hg := gl_of_laid hL
  clear hA0 hval0
  simp only [List.append_nil] at hW'
  refine (calls_of_tr (u := .bool true) (args := [.int .i64 a0, .int .i64 a1, .int .u64 a2, eL l3]) (Tr.mono (t_hermitcrablaw16_CrabNil (crabNil_law hg b2)) (by rintro v S' ⟨r, rfl, rfl, hk⟩; exact ⟨rfl, hk⟩)) : Calls Tryz.prog 11 _ W _).mono fun e W' ⟨he, hb⟩ => ?_
  subst he
  exact ⟨_, rfl, _, _, _, [], _, [], hW', trodAll_mk1 (shut_bool Tryz.underlying4 _), trodAll_mk4 (shut_int Tryz.underlying3 w0) (shut_int Tryz.underlying3 w1) (shut_int Tryz.underlying39 w2) (Below.trod crabNil_laid (by kernel_rfl) (of_decide_eq_true (by kernel_rfl)) h3k hb fun x hx => hlt x (by simp [hx])), rfl, hb.frame _, fun h => by cases h⟩
theorem crabNil_j0 : (Rows.crabNilRow.wf (OpenSpec.ofChange Rows.crabNilSpec)) = true := by kernel_rfl
theorem crabNil_j1 : (laidOutB Tryz.prog) = true := by kernel_rfl
theorem crabNil_j2 : (mapsRowed Tryz.prog) = true := by kernel_rfl
theorem crabNil_j3 : (Tryz.f11.params.all (Tryz.prog.readableRec ·)) = true := by kernel_rfl
theorem crabNil_j4 : (namedTie Tryz.prog Rows.crabNilRow.named Rows.crabNilSpec.vars) = true := by kernel_rfl
theorem crabNil_j5 : (Rows.crabNilRow.stops == []) = true := by kernel_rfl
theorem crabNil_j6 : (Tryz.prog.stops == []) = true := by kernel_rfl
theorem crabNil_j7 : (Rows.crabNilRow.knobs == []) = true := by kernel_rfl
theorem crabNil_j8 : (Tryz.prog.stopKnobs == []) = true := by kernel_rfl
theorem crabNil_j9 : (Rows.crabNilRow.inPlace == Tryz.prog.inPlace 11) = true := by kernel_rfl
theorem crabNil_j10 : (Rows.crabNilRow.unfollowed == Tryz.prog.unfollowed 11) = true := by kernel_rfl
theorem crabNil_j11 : (Rows.crabNilRow.recurses == Tryz.prog.recurses 11) = true := by kernel_rfl
theorem crabNil_j12 : (Rows.crabNilRow.named == Tryz.prog.varsNamed 11) = true := by kernel_rfl
theorem crabNil_j13 : (Rows.crabNilRow.maps == (Tryz.f11.params.toList ++ Rows.crabNilSpec.plain.varTypes Tryz.prog).any (Tryz.prog.mapsRec ·)) = true := by kernel_rfl
theorem crabNil_j14 : (Rows.crabNilRow.ifaces == (Tryz.f11.params.toList ++ Rows.crabNilSpec.plain.varTypes Tryz.prog).any (Tryz.prog.ifacesRec ·)) = true := by kernel_rfl
theorem crabNil_j15 : (Rows.crabNilRow.mapsOut == Tryz.prog.mapsAmong Tryz.f11.resultTypes.toList) = true := by kernel_rfl
theorem crabNil_j16 : (Rows.crabNilRow.loops == (Tryz.f11.params.toList ++ Rows.crabNilSpec.plain.varTypes Tryz.prog).any (Tryz.prog.loopsFrom ·)) = true := by kernel_rfl
theorem crabNil_j17 : (Rows.crabNilRow.wideKeys == (Tryz.f11.params.toList ++ Rows.crabNilSpec.plain.varTypes Tryz.prog ++ Tryz.f11.resultTypes.toList).any (Tryz.prog.wideKeysFrom ·)) = true := by kernel_rfl
theorem crabNil_j18 : (Rows.crabNilSpec.vars.all (Tryz.prog.varReadable ·)) = true := by kernel_rfl
theorem crabNil_j19 : (Tryz.f11.resultTypes.all (fun t => Tryz.prog.readableRec t && decide (t < Tryz.prog.types.size))) = true := by kernel_rfl
theorem crabNil_j20 : (Rows.crabNilRow.ifacesOut == Tryz.f11.resultTypes.toList.any (Tryz.prog.ifacesRec ·)) = true := by kernel_rfl
theorem crabNil_j21 : (Rows.crabNilRow.loopsOut == Tryz.f11.resultTypes.toList.any (Tryz.prog.loopsFrom ·)) = true := by kernel_rfl
theorem crabNil_j22 : (Rows.crabNilRow.plainKeys == Tryz.prog.plainKeys) = true := by kernel_rfl
theorem crabNil_j23 : (Rows.crabNilRow.shortTexts.isNone) = true := by kernel_rfl
theorem crabNil_j24 : (Tryz.prog.stopsHeard) = true := by kernel_rfl
theorem crabNil_j25 : (Tryz.prog.mayEnter) = true := by kernel_rfl
theorem crabNil_j26 : (Rows.crabNilRow.lifted == Tryz.prog.liftsFinal) = true := by kernel_rfl
theorem crabNil_j27 : (Tryz.prog.make == some Rows.crabNilRow.make) = true := by kernel_rfl
theorem crabNil_j28 : (Rows.crabNilRow.kinds == (if Rows.crabNilRow.domain.isEmpty then [] else Tryz.f11.params.toList.map fun t => match Tryz.prog.underlying t with | some (.int k) => some k | _ => none)) = true := by kernel_rfl
theorem crabNil_j29 : (Rows.crabNilRow.pinned == Rows.crabNilRow.pinnedBy) = true := by kernel_rfl
theorem crabNil_j30 : (Rows.crabNilRow.veiled == (Tryz.f11.params.toList ++ Rows.crabNilSpec.plain.varTypes Tryz.prog ++ Tryz.f11.resultTypes.toList).any (Tryz.prog.veiledRec ·)) = true := by kernel_rfl
theorem crabNil_j31 : (Rows.crabNilRow.veiledFits Tryz.prog Tryz.f11.params.toList (Tryz.f11.params.toList ++ Rows.crabNilSpec.plain.varTypes Tryz.prog ++ Tryz.f11.resultTypes.toList)) = true := by kernel_rfl
set_option maxRecDepth 100000 in
theorem crabNil_joined : joinedFacts Tryz.prog 11 Tryz.f11 Rows.crabNilSpec Rows.crabNilRow = true := (and_i (and_i (and_i (and_i (and_i (and_i (and_i (and_i (and_i (and_i (and_i (and_i (and_i (and_i (and_i (and_i (and_i (and_i (and_i (and_i (and_i (and_i (and_i (and_i (and_i (and_i (and_i (and_i (and_i (and_i (and_i crabNil_j0 crabNil_j1) crabNil_j2) crabNil_j3) crabNil_j4) crabNil_j5) crabNil_j6) crabNil_j7) crabNil_j8) crabNil_j9) crabNil_j10) crabNil_j11) crabNil_j12) crabNil_j13) crabNil_j14) crabNil_j15) crabNil_j16) crabNil_j17) crabNil_j18) crabNil_j19) crabNil_j20) crabNil_j21) crabNil_j22) crabNil_j23) crabNil_j24) crabNil_j25) crabNil_j26) crabNil_j27) crabNil_j28) crabNil_j29) crabNil_j30) crabNil_j31)
theorem crabNil_named : Tryz.prog.funcNamed Rows.crabNilRow.func = some 11 := by kernel_rfl
theorem crabNil_inst : Tryz.f11.isInstance Tryz.prog Rows.crabNilRow.origin Rows.crabNilRow.targs := of_decide_eq_true (by kernel_rfl)
theorem crabNil_wrap : Tryz.f11.isWrapper Tryz.prog Rows.crabNilRow.wrapper Rows.crabNilRow.mainSum := by unfold Func.isWrapper; first | (rw [if_pos (by decide +kernel)]; kernel_rfl) | (rw [if_neg (by decide +kernel)]; exact ⟨rfl, rfl⟩)
theorem crabNil_said : Rows.CrabNilSaid :=
  OpenClaim.holds_of_wide 11 Tryz.f11 rfl rfl rfl rfl rfl rfl rfl ⟨rfl, rfl, rfl, rfl, rfl⟩ rfl rfl rfl rfl rfl crabNil_named Tryz.func11 crabNil_joined crabNil_inst crabNil_wrap
    (fun os started H enc _ => crabNil_lifted os started H enc)
theorem crabNil_holds : Rows.CrabNilCardSaid :=
  Claim7.holds_tied_plain_at .later [] [.data] true (true, "b446bb6fbd90a262edb26febaf697f3423a310bfa096398a4e9a6bc1fd76dc28") true crabNil_said (fun _ h => by cases h) (by as_aux_lemma => kernel_rfl) (fun _ h => by cases h) crabNil_row_tie rfl ⟨rfl, rfl⟩ (by as_aux_lemma => kernel_rfl) rfl
    (fun f fn hf hfn => by
      obtain rfl : f = 11 := Option.some.inj (crabNil_named.symm.trans hf) |>.symm
      obtain rfl : fn = Tryz.f11 := (Option.some.inj (Tryz.func11.symm.trans hfn)).symm
      exact ⟨by as_aux_lemma => kernel_rfl, fun j t ht => by
        rw [Tryz.params11] at ht
        have hm : t ∈ [3, 3, 39, 22] := by simpa using Array.mem_of_getElem? ht
        have hall : ([3, 3, 39, 22].all fun u => !Tryz.prog.wantsStandIn u) = true := by kernel_rfl
        exact (show Tryz.prog.wantsStandIn t = false by simpa using List.all_eq_true.1 hall t hm)⟩)
    (by as_aux_lemma => kernel_rfl)
#print axioms crabNil_holds
end Go.Proofs.YtabdpmnhjlmnlaaGreatDoor
