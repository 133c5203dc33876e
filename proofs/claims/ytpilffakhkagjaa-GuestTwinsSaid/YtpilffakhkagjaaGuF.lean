/- A draft, opened. -/
import Derived.Test.YtpilffakhkagjaaGuE
import Derived.Test.YtpilffakhkagjaaPtM
import Derived.ChangeArms
namespace Go.Proofs.Ytpilffakhkagjaa
open Go Go.Pt Go.RowKit Go.ChangeShapes
theorem rowAt_off {p : Program} {fits : TypeId → Bool} {d : Nat} {e : TypeId} {count off n : Nat} (h : rowAt p fits d e count off n = true) : off ≤ count * p.cellsOf e := by
  cases d with
  | zero => simp [rowAt] at h
  | succ d =>
    unfold rowAt at h
    by_cases hs : p.cellsOf e = 0
    · simp [hs] at h
    · simp only [hs, if_false, Bool.or_eq_true, Bool.and_eq_true, beq_iff_eq, decide_eq_true_eq] at h
      have hdm := Nat.div_add_mod off (p.cellsOf e)
      rcases h with ⟨⟨h1, h2⟩, _⟩ | ⟨h1, _⟩
      · have h3 : off / p.cellsOf e * p.cellsOf e ≤ count * p.cellsOf e := Nat.mul_le_mul_right _ (by omega)
        rw [Nat.mul_comm] at h3; omega
      · have h3 : (off / p.cellsOf e + 1) * p.cellsOf e ≤ count * p.cellsOf e := Nat.mul_le_mul_right _ h1
        have h4 := Nat.mod_lt off (Nat.pos_of_ne_zero hs)
        rw [Nat.add_mul, Nat.one_mul, Nat.mul_comm] at h3; omega
theorem has_zero {P : Program} {w : World} {r : Reach} {base b o n : Nat} {e : TypeId} {k : IntKind} (he : P.underlying e = some (.int k)) (h : World.has P w r base ⟨b, o, none⟩ e n) : (memOf w).part b o 0 = some [] := by
  obtain ⟨_, _, row, cells, hsh, hl⟩ := h
  have hd : ∃ d, P.depth = d + 1 := by
    cases hp : P.depth with
    | zero => rw [hp] at hl; simp [liesAt] at hl
    | succ d => exact ⟨d, rfl⟩
  obtain ⟨d, hd⟩ := hd
  have hr : rowAt P (sameLayout P P.depth · e) P.depth row (cells / P.cellsOf row) o n = true := by
    have hl2 := hl
    rw [hd] at hl2
    unfold liesAt at hl2
    rw [he] at hl2
    simpa [hd] using hl2
  have ho := rowAt_off hr
  have ho2 : o ≤ cells := Nat.le_trans ho (Nat.div_mul_le_self _ _)
  unfold World.shape? at hsh
  split at hsh
  · rename_i c elem fr hh
    simp only [Option.some.injEq, Prod.mk.injEq] at hsh
    obtain ⟨_, rfl⟩ := hsh
    simp only [Mem.part, memOf]
    simp only at hh
    rw [hh]
    simp only
    rw [lpart_i (by simpa using ho2)]
    simp
  · cases hsh
theorem arr_cell {l : List Value} {off m i : Nat} {v : Value} (hi : i < m) (h : ((((l.drop off).take m).drop (i * 1)).take 1) = [v]) : nthL l (off + i) = some v := by
  have := congrArg (fun x => x[0]?) h
  simp only [List.getElem?_take, List.getElem?_drop] at this
  rw [nthL_eq]
  simpa [hi] using this
theorem fld_cell {l : List Value} {off : Nat} {v : Value} (h : (l.drop off).take 1 = [v]) : nthL l off = some v := by
  have := congrArg (fun x => x[0]?) h
  rw [nthL_eq]
  simpa [List.getElem?_take] using this
/-- Bytes are read whole. -/
theorem bytes_sp {S : Mem} {l : Sl} (h : BytesIn S l) : ∃ xs : List Int, xs.length = l.n ∧ (∀ x ∈ xs, 0 ≤ x ∧ x ≤ 255) ∧ ((l.n = 0 ∧ xs = []) ∨ ∃ b o, l.p = some (b, o) ∧ S.part b o l.n = some (xs.map (.int .u8))) := by
  by_cases h0 : l.n = 0
  · exact ⟨[], by simp [h0], by simp, .inl ⟨h0, rfl⟩⟩
  · obtain ⟨b, o, _, hp, _⟩ := h 0 (by omega)
    have h' : ∀ i : Nat, ∃ z : Int, i < l.n → S.cell b (o + i) = some (.int .u8 z) ∧ 0 ≤ z ∧ z ≤ 255 := by
      intro i
      by_cases hi : i < l.n
      · obtain ⟨b', o', z, h1, h2⟩ := h i hi
        rw [hp] at h1; cases h1
        exact ⟨z, fun _ => h2⟩
      · exact ⟨0, fun h => absurd h hi⟩
    obtain ⟨z, hz⟩ : ∃ z : Nat → Int, ∀ i, i < l.n → S.cell b (o + i) = some (.int .u8 (z i)) ∧ 0 ≤ z i ∧ z i ≤ 255 := ⟨fun i => (h' i).choose, fun i hi => (h' i).choose_spec hi⟩
    refine ⟨(List.range l.n).map z, by simp, ?_, .inr ⟨b, o, hp, ?_⟩⟩
    · intro x hx
      simp only [List.mem_map, List.mem_range] at hx
      obtain ⟨i, hi, rfl⟩ := hx
      exact (hz i hi).2
    · obtain ⟨q, hq, _⟩ := cell_e (hz 0 (by omega)).1
      have hlast := (hz (l.n - 1) (by omega)).1
      rw [cell_of hq] at hlast
      have hlt := nthL_lt hlast
      rw [part_of hq, lpart_i (by omega)]
      congr 1
      apply List.ext_getElem?
      intro k
      rw [List.getElem?_take]
      by_cases hk : k < l.n
      · have := (hz k hk).1
        rw [cell_of hq, nthL_eq] at this
        rw [if_pos hk, List.getElem?_drop, this]
        simp [hk]
      · rw [if_neg hk]
        simp only [List.getElem?_map]
        rw [List.getElem?_eq_none (by simp; omega)]; rfl
theorem take_one {l : List Value} {i : Nat} {q : Value} (h : l[i]? = some q) : (l.drop i).take 1 = [q] := by
  obtain ⟨hi, rfl⟩ := List.getElem?_eq_some_iff.1 h
  rw [List.drop_eq_getElem_cons hi]; rfl
def draftTypes : List TypeId := List.replicate 6 4 ++ List.replicate 6 5 ++ [27] ++ List.replicate 6 29 ++ [26] ++ List.replicate 6 26 ++ [26] ++ List.replicate 18 5
theorem draft_types : Try.prog.cellTypes Try.prog.depth 52 = some draftTypes := by kernel_rfl
set_option maxRecDepth 100000 in
theorem open_draft {H : Type} {enc : TypeId × Value → H} {W : World} {base bs : Nat} {spare : Nat → Bool} {held : Bool} {r : Reach} {v : Value} {d : DataW H} {ps : List MemPlace}
    (hval : Value.okWide Try.prog W r bs 52 v) (h : DataW.Trod enc Try.prog W base spare held 52 v d ps) : ∃ l : List Value, v = valL l ∧ Draft (memOf W) l := by
  unfold Value.okWide at hval
  rw [Try.underlying52] at hval
  obtain ⟨cs, rfl, _, ts, hts, _, hcell⟩ := hval
  rw [draft_types] at hts
  cases hts
  obtain ⟨fuel, hf⟩ := h
  simp only [Value.cells] at hf
  refine ⟨cs.toList, by simp [valL], ?_⟩
  obtain ⟨xs, n, _, _, hlen, hxs, hfld⟩ := DataW.trod_struct Try.underlying52 hf
  have h45 : Try.prog.cellsOf 52 = 45 := by kernel_rfl
  rw [h45] at hlen
  have g := fun (j : Nat) (hj : j < 8) => List.getElem?_eq_getElem (l := xs) (i := j) (by rw [hxs]; exact hj)
  have c4 : Try.prog.cellsOf 4 = 1 := by kernel_rfl
  have c5 : Try.prog.cellsOf 5 = 1 := by kernel_rfl
  have c26 : Try.prog.cellsOf 26 = 1 := by kernel_rfl
  have c27 : Try.prog.cellsOf 27 = 1 := by kernel_rfl
  have c29 : Try.prog.cellsOf 29 = 1 := by kernel_rfl
  have c46 : Try.prog.cellsOf 46 = 6 := by kernel_rfl
  have c47 : Try.prog.cellsOf 47 = 6 := by kernel_rfl
  have c48 : Try.prog.cellsOf 48 = 6 := by kernel_rfl
  have c49 : Try.prog.cellsOf 49 = 6 := by kernel_rfl
  have c50 : Try.prog.cellsOf 50 = 18 := by kernel_rfl
  have f0 : DataW.trod enc Try.prog W base spare held n 46 ((cs.toList.drop 0).take (Try.prog.cellsOf 46)) = some _ := (hfld 0 _ rfl).trans (g 0 (by decide))
  have f1 : DataW.trod enc Try.prog W base spare held n 47 ((cs.toList.drop 6).take (Try.prog.cellsOf 47)) = some _ := (hfld 1 _ rfl).trans (g 1 (by decide))
  have f2 : DataW.trod enc Try.prog W base spare held n 27 ((cs.toList.drop 12).take (Try.prog.cellsOf 27)) = some _ := (hfld 2 _ rfl).trans (g 2 (by decide))
  have f3 : DataW.trod enc Try.prog W base spare held n 48 ((cs.toList.drop 13).take (Try.prog.cellsOf 48)) = some _ := (hfld 3 _ rfl).trans (g 3 (by decide))
  have f4 : DataW.trod enc Try.prog W base spare held n 26 ((cs.toList.drop 19).take (Try.prog.cellsOf 26)) = some _ := (hfld 4 _ rfl).trans (g 4 (by decide))
  have f5 : DataW.trod enc Try.prog W base spare held n 49 ((cs.toList.drop 20).take (Try.prog.cellsOf 49)) = some _ := (hfld 5 _ rfl).trans (g 5 (by decide))
  have f6 : DataW.trod enc Try.prog W base spare held n 26 ((cs.toList.drop 26).take (Try.prog.cellsOf 26)) = some _ := (hfld 6 _ rfl).trans (g 6 (by decide))
  have f7 : DataW.trod enc Try.prog W base spare held n 50 ((cs.toList.drop 27).take (Try.prog.cellsOf 50)) = some _ := (hfld 7 _ rfl).trans (g 7 (by decide))
  rw [c46] at f0
  rw [c47] at f1
  rw [c27] at f2
  rw [c48] at f3
  rw [c26] at f4 f6
  rw [c49] at f5
  rw [c50] at f7
  have arr : ∀ {t e : TypeId} {m off : Nat} {k : IntKind} {y}, Try.prog.underlying t = some (.array m e) → Try.prog.underlying e = some (.int k) → Try.prog.cellsOf e = 1 → DataW.trod enc Try.prog W base spare held n t ((cs.toList.drop off).take m) = some y → ∀ i, i < m → ∃ z, nthL cs.toList (off + i) = some (.int k z) ∧ (Lit.int k z).wf = true := by
    intro t e m off k y ht he hc hy i hi
    obtain ⟨ys, m', _, _, _, hyl, hel⟩ := DataW.trod_array ht hy
    have h1 := hel i hi
    rw [List.getElem?_eq_getElem (by omega), hc] at h1
    obtain ⟨z, e1, _, w1⟩ := DataW.trod_int he h1
    exact ⟨z, arr_cell hi e1, w1⟩
  refine ⟨hlen, fun i hi => ?_, fun i hi => ?_, ?_, fun i hi => ?_, ?_, fun i hi => ?_, ?_, fun k hk => ?_⟩
  · obtain ⟨ys, m', _, _, _, hyl, hel⟩ := DataW.trod_array Try.underlying46 f0
    have h1 := hel i hi
    rw [List.getElem?_eq_getElem (by omega), c4] at h1
    obtain ⟨z, e1, _⟩ := DataW.trod_bool Try.underlying4 h1
    have := arr_cell hi e1
    rw [Nat.zero_add] at this
    exact ⟨z, this⟩
  · obtain ⟨z, h1, h2⟩ := arr Try.underlying47 Try.underlying5 c5 f1 i hi
    exact ⟨z, h1, bounds_u8 h2⟩
  · have hc12 : ∃ q, cs[12]? = some q ∧ Cell.okWide Try.prog W r bs 27 q := by
      have hsz : 12 < cs.size := by simp at hlen; omega
      obtain ⟨u, hu, hok⟩ := hcell 12 cs[12] (Array.getElem?_eq_getElem hsz)
      have : u = 27 := by
        have : (draftTypes[12 % draftTypes.length]? : Option TypeId) = some 27 := by decide
        rw [this] at hu; cases hu; rfl
      subst this
      exact ⟨_, Array.getElem?_eq_getElem hsz, hok⟩
    obtain ⟨q, hq, hok⟩ := hc12
    have tr : ∃ y : DataW H × List MemPlace, DataW.Trod enc Try.prog W base spare held 27 q y.1 y.2 := by
      have h1 : (cs.toList.drop 12).take 1 = [q] := take_one (by simpa using hq)
      rw [h1] at f2
      have hqc : q.cells.toList = [q] := by
        rcases open_ints Try.underlying27 Try.underlying5 c5 f2 with ⟨h0, _⟩ | ⟨a, len, cap, zs, h0, _⟩
        · simp only [List.cons.injEq, and_true] at h0; rw [h0]; rfl
        · simp only [List.cons.injEq, and_true] at h0; rw [h0]; rfl
      exact ⟨_, n, by rw [hqc]; exact f2⟩
    obtain ⟨y, hy⟩ := tr
    have hval : Value.okWide Try.prog W r bs 27 q := by
      unfold Value.okWide
      rw [Try.underlying27]
      exact hok
    obtain ⟨ks, rfl, hin, _⟩ := open_bytes Try.underlying27 Try.underlying5 c5 hval hy
    have hnth : nthL cs.toList 12 = some (eL ks) := by
      rw [nthL_eq]; simp [hq]
    refine ⟨ks, ?_⟩
    by_cases h0 : ks.n = 0
    · refine ⟨[], hnth, ⟨by simp [h0], by simp, ?_⟩⟩
      cases hp : ks.p with
      | none => exact .inl ⟨rfl, h0, rfl⟩
      | some bo =>
        obtain ⟨b, o⟩ := bo
        refine .inr ⟨b, o, rfl, ?_⟩
        rw [h0]
        simp only [eL, hp, adr, Cell.okWide, Try.underlying27, Cell.ok] at hok
        exact has_zero Try.underlying5 hok.2.2
    · obtain ⟨xs, h1, h2, h3⟩ := bytes_sp hin
      exact ⟨xs, hnth, ⟨h1, h2, h3.elim (fun h => absurd h.1 h0) .inr⟩⟩
  · obtain ⟨z, h1, h2⟩ := arr Try.underlying48 Try.underlying29 c29 f3 i hi
    exact ⟨z, h1, bounds_u32 h2⟩
  · obtain ⟨z, h1, _, _⟩ := DataW.trod_int Try.underlying26 f4
    exact ⟨z, fld_cell h1⟩
  · obtain ⟨z, h1, _⟩ := arr Try.underlying49 Try.underlying26 c26 f5 i hi
    exact ⟨z, h1⟩
  · obtain ⟨z, h1, _, h2⟩ := DataW.trod_int Try.underlying26 f6
    exact ⟨z, fld_cell h1, bounds_u64 h2⟩
  · obtain ⟨z, h1, h2⟩ := arr Try.underlying50 Try.underlying5 c5 f7 k hk
    exact ⟨z, h1, bounds_u8 h2⟩
end Go.Proofs.Ytpilffakhkagjaa
