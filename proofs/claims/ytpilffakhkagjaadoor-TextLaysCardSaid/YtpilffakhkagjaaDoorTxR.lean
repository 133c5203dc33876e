/- The door's rows: the wrap; what the laid variables give; arguments that are instructions. -/
import Derived.Test.YtpilffakhkagjaaDoorTxG
import Derived.Test.YtpilffakhkagjaaDoorRows
import Derived.ProofKit
import Derived.OpenShut
import Derived.LaidMore
import Derived.Lay
import Derived.Lib.LaidU8
import Derived.Deep.Slices
import Derived.Stop.Joined
namespace Go.Pt
open Go Go.RowKit Go.ChangeShapes Go.WideShapes Go.ChangeAt Go.Lib
/-- The kit's wrap for a law, with both: what is laid, and the world's shape. -/
theorem handed_both {H : Type} {enc : TypeId × Value → H} {a : Assume} {C : Checked} {os : Os} {f : FuncId} {fn : Func} {s : ChangeSpec} {conds : List PathCond} {apart fresh handsOn again : Bool} {X : World → Array Value → Prop}
    (hX : ∀ (w w' : World) (args : Array Value), w.heap = w'.heap → X w args → X w' args) (own : ownKnob C.prog.godebug = none) (started : os.Started) (noInit : C.prog.inits.idxOf? f = none) (hfn : C.prog.funcs[f]? = some fn)
    (witness : ∃ (w : World) (tape : Tape) (i : Input), w.os = os ∧ (w.forCall tape i).Shaped C.prog ∧ i.vars = [] ∧ Input.okWide C.prog (w.forCall tape i) .any w.heap.size f i ∧
      ((s.pre enc C.prog fn conds apart (w.forCall tape i).memory i.args ∧ X (w.forCall tape i).memory i.args) ∧ sizedMet enc C.prog fn (OpenSpec.ofChange s) apart (w.forCall tape i).memory i.args) ∧ a.holds C.prog (lone (Frame.enter C.prog f i.args .normal) [] (w.forCall tape i)))
    (law : ∀ (W : World) (base : Nat) (args : Array Value) (ds gs : List (DataW H)) (before : List MemPlace), (∀ (j : Nat) t v, fn.params[j]? = some t → args[j]? = some v → Value.okWide C.prog W .any base t v) →
      DataW.Whole enc C.prog fn.params.toList s.vars apart W args.toList ds gs before → X W args → W.ShapedOpen C.prog →
      Calls C.prog f args W fun e W' => ∃ v, e = .returned v ∧ s.post enc C.prog fn apart fresh handsOn again W args v W') :
    ReturnsInHanded a C os f .any (fun w args => (s.pre enc C.prog fn conds apart w args ∧ X w args) ∧ sizedMet enc C.prog fn (OpenSpec.ofChange s) apart w args) (s.post enc C.prog fn apart fresh handsOn again) :=
  returnsInHanded_of_calls own started noInit witness fun w tape i _ hsh _ hok hpre _ => by
    obtain ⟨_, _, _, g, hg, _, _, _, _, hval⟩ := hok
    obtain rfl : g = fn := Option.some.inj (hg.symm.trans hfn)
    obtain ⟨⟨⟨ds, gs, before, hw, _⟩, hx⟩, _⟩ := hpre
    refine (law (w.forCall tape i) w.heap.size i.args ds gs before hval (DataW.Whole.of_heap (w' := w.forCall tape i) (by rfl) hw) (hX _ _ _ (by rfl) hx) hsh).mono fun e W' h => ?_
    obtain ⟨v, rfl, hp⟩ := h
    exact ChangeSpec.post_blind hp
end Go.Pt
namespace Go.Proofs.YtpilffakhkagjaaDoor
open Go Go.Pt Go.RowKit Go.Lib Go.Tx Go.ChangeShapes Go.WideShapes
set_option maxRecDepth 10000
theorem cell_row {W : World} {P : Program} {n : String} {g : Nat} {cs : Array Value} (hg : P.globalNamed n = some g) (h : W.var? P n = some cs) : ∃ t fr, memOf W g = some ⟨t, cs.toList, fr⟩ := by
  unfold World.var? at h
  rw [hg] at h
  simp only [Option.bind_some] at h
  split at h
  · rename_i c t fr hh
    cases h
    exact ⟨t, fr, by unfold memOf; rw [hh]⟩
  · cases h
theorem gl_of_laid {W : World} (h : laidMetH Tryd.prog Rows.textShowsRow.laid W) (hsh : W.ShapedOpen Tryd.prog) : Gl (memOf W) := by
  rw [MakeChecks.laidMetH_plain _ _ _ (by kernel_rfl)] at h
  have hn : VarReads Tryd.prog W "hermitcrab/text.names" Rows.laid_hermitcrab_text_names := laidMet.reads h (by simp [Rows.textShowsRow])
  have hp : VarReads Tryd.prog W "internal/strconv.uint64pow10" Rows.laid_internal_strconv_uint64pow10 := laidMet.reads h (by simp [Rows.textShowsRow])
  refine ⟨?_, ?_, ?_⟩
  · obtain ⟨g, t, cs, fuel, p, hg, ht, hv, hd⟩ := hn
    obtain rfl := Option.some.inj ((show Tryd.prog.globalNamed "hermitcrab/text.names" = some 0 by kernel_rfl).symm.trans hg)
    obtain rfl := Option.some.inj ((show (Tryd.prog.globals[0]?).map (·.type) = some 49 by kernel_rfl).symm.trans ht)
    obtain ⟨t', fr, hm⟩ := cell_row hg hv
    have hcs : cs.toList = namesL := by
      obtain ⟨xs, m, _, ex, hlen, hxl, hel⟩ := DataW.trod_array Tryd.underlying49 hd
      have c9 : Tryd.prog.cellsOf 9 = 1 := by kernel_rfl
      have c49 : Tryd.prog.cellsOf 49 = 23 := by kernel_rfl
      have e3 : (xs.map (·.1)) = nms.map fun l => (DataW.lit (.string l) : DataW Unit) := (DataW.agg.inj (Prod.mk.inj ex).1).symm
      rw [c49] at hlen
      apply List.ext_getElem?
      intro i
      by_cases hi : i < 23
      · have hE := hel i hi
        rw [c9, Nat.mul_one, List.getElem?_eq_getElem (by omega)] at hE
        obtain ⟨s, e1, e2, _⟩ := DataW.trod_string Tryd.underlying9 hE
        have e4 : (xs.map (·.1))[i]? = (nms.map fun l => (DataW.lit (.string l) : DataW Unit))[i]? := by rw [e3]
        have hnl : i < nms.length := by simp [nms]; omega
        rw [List.getElem?_map, List.getElem?_map, List.getElem?_eq_getElem (by omega : i < xs.length), List.getElem?_eq_getElem hnl, e2] at e4
        simp only [Option.map_some, Option.some.injEq, DataW.lit.injEq, Lit.string.injEq] at e4
        have h0 : cs.toList[i]? = some (.string s) := by
          have := congrArg (fun x => x[0]?) e1
          simpa [List.getElem?_take, List.getElem?_drop] using this
        rw [h0]
        simp only [namesL, List.getElem?_map, List.getElem?_eq_getElem hnl, Option.map_some]
        rw [← e4, bt_of]
      · rw [List.getElem?_eq_none (by omega), List.getElem?_eq_none (by simp [namesL, nms]; omega)]
    rw [hcs] at hm
    exact ⟨t', fr, hm⟩
  · obtain ⟨g, t, cs, fuel, p, hg, ht, hv, hd⟩ := hp
    obtain rfl := Option.some.inj ((show Tryd.prog.globalNamed "internal/strconv.uint64pow10" = some 3 by kernel_rfl).symm.trans hg)
    obtain rfl := Option.some.inj ((show (Tryd.prog.globals[3]?).map (·.type) = some 110 by kernel_rfl).symm.trans ht)
    obtain ⟨t', fr, hm⟩ := cell_row hg hv
    have e : (Rows.laid_internal_strconv_uint64pow10 : DataW Unit) = tabData .u64 pow10Tab := by kernel_rfl
    rw [e] at hd
    have hcs := cells_of_tab Tryd.underlying110 Tryd.underlying60 (by kernel_rfl) (by kernel_rfl) hd
    rw [hcs] at hm
    exact ⟨t', fr, hm⟩
  · obtain ⟨m, hm⟩ := Tryd.laysSplitM.s1_3 W hsh
    have hc : (memOf W).cell 4 0 = some (.int .i64 m) := memOf_cell hm
    obtain ⟨k, hk, hk2⟩ := cell_e hc
    obtain ⟨t, cs, fr⟩ := k
    cases cs with
    | nil => simp [nthL] at hk2
    | cons x cs =>
      simp only [nthL, Option.some.injEq] at hk2
      subst hk2
      exact ⟨m, t, fr, cs, hk⟩
set_option maxRecDepth 100000 in
theorem open_op {H : Type} {enc : TypeId × Value → H} {W : World} {base bs : Nat} {spare : Nat → Bool} {held : Bool} {r : Reach} {v : Value} {d : DataW H} {ps : List MemPlace}
    (hval : Value.okWide Tryd.prog W r bs 24 v) (h : DataW.Trod enc Tryd.prog W base spare held 24 v d ps) : ∃ k a b c n : Int, v = valL (opL k a b c n) ∧ Bd k a b c n := by
  unfold Value.okWide at hval
  rw [Tryd.underlying24] at hval
  obtain ⟨cs, rfl, _⟩ := hval
  obtain ⟨fuel, hf⟩ := h
  simp only [Value.cells] at hf
  obtain ⟨xs, n, _, _, hlen, hxs, hfld⟩ := DataW.trod_struct Tryd.underlying24 hf
  have h5 : Tryd.prog.cellsOf 24 = 5 := by kernel_rfl
  rw [h5] at hlen
  have g := fun (j : Nat) (hj : j < 5) => List.getElem?_eq_getElem (l := xs) (i := j) (by rw [hxs]; exact hj)
  have c5 : Tryd.prog.cellsOf 5 = 1 := by kernel_rfl
  have c22 : Tryd.prog.cellsOf 22 = 1 := by kernel_rfl
  have f0 : DataW.trod enc Tryd.prog W base spare held n 5 ((cs.toList.drop 0).take (Tryd.prog.cellsOf 5)) = some _ := (hfld 0 _ rfl).trans (g 0 (by decide))
  have f1 : DataW.trod enc Tryd.prog W base spare held n 5 ((cs.toList.drop 1).take (Tryd.prog.cellsOf 5)) = some _ := (hfld 1 _ rfl).trans (g 1 (by decide))
  have f2 : DataW.trod enc Tryd.prog W base spare held n 5 ((cs.toList.drop 2).take (Tryd.prog.cellsOf 5)) = some _ := (hfld 2 _ rfl).trans (g 2 (by decide))
  have f3 : DataW.trod enc Tryd.prog W base spare held n 5 ((cs.toList.drop 3).take (Tryd.prog.cellsOf 5)) = some _ := (hfld 3 _ rfl).trans (g 3 (by decide))
  have f4 : DataW.trod enc Tryd.prog W base spare held n 22 ((cs.toList.drop 4).take (Tryd.prog.cellsOf 22)) = some _ := (hfld 4 _ rfl).trans (g 4 (by decide))
  rw [c5] at f0 f1 f2 f3
  rw [c22] at f4
  obtain ⟨z0, e0, _, w0⟩ := DataW.trod_int Tryd.underlying5 f0
  obtain ⟨z1, e1, _, w1⟩ := DataW.trod_int Tryd.underlying5 f1
  obtain ⟨z2, e2, _, w2⟩ := DataW.trod_int Tryd.underlying5 f2
  obtain ⟨z3, e3, _, w3⟩ := DataW.trod_int Tryd.underlying5 f3
  obtain ⟨z4, e4, _, w4⟩ := DataW.trod_int Tryd.underlying22 f4
  refine ⟨z0, z1, z2, z3, z4, ?_, ⟨bounds_u8 w0, bounds_u8 w1, bounds_u8 w2, bounds_u8 w3, bounds_i16 w4⟩⟩
  have hcs : cs.toList = opL z0 z1 z2 z3 z4 := by
    obtain ⟨l⟩ := cs
    simp only at hlen e0 e1 e2 e3 e4
    match l, hlen with
    | [q0, q1, q2, q3, q4], _ =>
      simp only [List.drop_zero, List.drop_succ_cons, List.take_succ_cons, List.take_zero, List.cons.injEq, and_true] at e0 e1 e2 e3 e4
      simp only [opL, e0, e1, e2, e3, e4]
  unfold valL
  rw [← hcs]
end Go.Proofs.YtpilffakhkagjaaDoor
