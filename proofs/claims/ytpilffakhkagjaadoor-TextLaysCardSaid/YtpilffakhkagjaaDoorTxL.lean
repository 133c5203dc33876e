/- Lay: a text of lines is laid as words; the walk of TextFaults. -/
import Derived.Test.YtpilffakhkagjaaDoorTxK
import Derived.Test.YtpilffakhkagjaaDoorTxJ
namespace Go.Proofs.YtpilffakhkagjaaDoor
open Go Go.Pt Go.RowKit Go.Lib Go.Tx Go.ChangeShapes Go.Deep
theorem part_keep {S S' : Mem} {b o n : Nat} {vs : List Value} (h : S.part b o n = some vs) (hk : Keeps S S' []) : S'.part b o n = some vs := by
  obtain ⟨q, hq, hp⟩ := part_e h
  rw [part_of (hk.get hq (by simp))]; exact hp
theorem list_of {α : Type} {P : Nat → α → Prop} : ∀ {n : Nat}, (∀ i, i < n → ∃ a, P i a) → ∃ l : List α, l.length = n ∧ ∀ i (hi : i < l.length), P i l[i]
  | 0, _ => ⟨[], rfl, fun i hi => absurd hi (by simp)⟩
  | n + 1, h => by
    obtain ⟨l, hl, hp⟩ := list_of (n := n) fun i hi => h i (by omega)
    obtain ⟨a, ha⟩ := h n (by omega)
    refine ⟨l ++ [a], by simp [hl], fun i hi => ?_⟩
    by_cases hin : i < l.length
    · rw [List.getElem_append_left hin]; exact hp i hin
    · have : i = n := by simp [hl] at hi hin; omega
      subst this
      subst hl
      simp only [List.getElem_concat_length]
      exact ha
/-- These are a slice's instructions. -/
structure OpsIn (S : Mem) (l : Sl) (ops : List Op5) : Prop where
  len : ops.length = l.n
  bd : ∀ o ∈ ops, o.Bd
  lie : ∀ i (h : i < ops.length), ∃ b x, l.p = some (b, x) ∧ S.part b (x + i * 5) 5 = some ops[i].L
theorem OpsIn.keep {S S' : Mem} {l : Sl} {ops : List Op5} (h : OpsIn S l ops) (hk : Keeps S S' []) : OpsIn S' l ops :=
  ⟨h.len, h.bd, fun i hi => by
    obtain ⟨b, x, h1, h2⟩ := h.lie i hi
    exact ⟨b, x, h1, part_keep h2 hk⟩⟩
theorem part_of_cells {S : Mem} {b x n : Nat} {vs : List Value} (hn : 0 < n) (hl : vs.length = n) (h : ∀ k, k < n → S.cell b (x + k) = vs[k]?) : S.part b x n = some vs := by
  have h0 := h 0 hn
  rw [List.getElem?_eq_getElem (by omega)] at h0
  obtain ⟨q, hq, _⟩ := cell_e h0
  have hlast := h (n - 1) (by omega)
  rw [List.getElem?_eq_getElem (by omega), cell_of hq] at hlast
  have hlt := nthL_lt hlast
  rw [part_of hq, lpart_i (by omega)]
  congr 1
  apply List.ext_getElem?
  intro k
  rw [List.getElem?_take]
  by_cases hk : k < n
  · have := h k hk
    rw [cell_of hq, nthL_eq] at this
    rw [if_pos hk, List.getElem?_drop, this]
  · rw [if_neg hk, List.getElem?_eq_none (by omega)]
theorem one_int {l : List Value} {k : IntKind} {m : Int} {i : Nat} (h : (l.drop i).take 1 = [.int k m]) : l[i]? = some (.int k m) := by
  have := congrArg (fun x => x[0]?) h
  simpa [List.getElem?_take] using this
set_option maxRecDepth 100000 in
theorem open_ops {H : Type} {enc : TypeId × Value → H} {W : World} {base bs : Nat} {spare : Nat → Bool} {held : Bool} {r : Reach} {v : Value} {d : DataW H} {ps : List MemPlace}
    (hval : Value.okWide Tryd.prog W r bs 42 v) (h : DataW.Trod enc Tryd.prog W base spare held 42 v d ps) : ∃ (l : Sl) (ops : List Op5), v = eL l ∧ OpsIn (memOf W) l ops := by
  obtain ⟨fuel, hf⟩ := h
  have hc : Tryd.prog.cellsOf 24 = 5 := by kernel_rfl
  rcases open_slice Tryd.underlying42 hf with ⟨h0, _⟩ | ⟨a, len, cap, m, n, D, Pl, h0, _, hle, hm, hmm, _, hx⟩
  · refine ⟨⟨none, 0, 0⟩, [], ?_, ⟨rfl, by simp, fun i hi => by simp at hi⟩⟩
    have ht := Tryd.underlying42
    cases v <;> simp_all [Value.cells, eL, adr, Value.okWide, Cell.okWide, Cell.ok]
  · have ht := Tryd.underlying42
    have hv : v = .slice (some a) len cap := by
      cases v <;> simp_all [Value.cells, Value.okWide, Cell.okWide, Cell.ok]
    subst hv
    have hval' : a.spot = none := by
      simp only [Value.okWide, ht, Cell.okWide, Cell.ok] at hval
      exact hval.2.2.2.1
    obtain ⟨b, o, sp⟩ := a
    simp only at hval'
    subst hval'
    have key : ∀ i, i < len → ∃ q : Op5, q.Bd ∧ (memOf W).part b (o + i * 5) 5 = some q.L := fun i hi => by
      have him : i < m := by rw [hmm]; split <;> omega
      obtain ⟨cs, h1, h2⟩ := hx i him
      rw [hc] at h1
      obtain ⟨_, hlen, hcell⟩ := World.cells?_some h1
      obtain ⟨xs, n', _, _, _, hxs, hfld⟩ := DataW.trod_struct Tryd.underlying24 h2
      have g := fun (j : Nat) (hj : j < 5) => List.getElem?_eq_getElem (l := xs) (i := j) (by rw [hxs]; exact hj)
      have c5 : Tryd.prog.cellsOf 5 = 1 := by kernel_rfl
      have c22 : Tryd.prog.cellsOf 22 = 1 := by kernel_rfl
      have f0 : DataW.trod enc Tryd.prog W base spare held n' 5 ((cs.drop 0).take (Tryd.prog.cellsOf 5)) = some _ := (hfld 0 _ rfl).trans (g 0 (by decide))
      have f1 : DataW.trod enc Tryd.prog W base spare held n' 5 ((cs.drop 1).take (Tryd.prog.cellsOf 5)) = some _ := (hfld 1 _ rfl).trans (g 1 (by decide))
      have f2 : DataW.trod enc Tryd.prog W base spare held n' 5 ((cs.drop 2).take (Tryd.prog.cellsOf 5)) = some _ := (hfld 2 _ rfl).trans (g 2 (by decide))
      have f3 : DataW.trod enc Tryd.prog W base spare held n' 5 ((cs.drop 3).take (Tryd.prog.cellsOf 5)) = some _ := (hfld 3 _ rfl).trans (g 3 (by decide))
      have f4 : DataW.trod enc Tryd.prog W base spare held n' 22 ((cs.drop 4).take (Tryd.prog.cellsOf 22)) = some _ := (hfld 4 _ rfl).trans (g 4 (by decide))
      rw [c5] at f0 f1 f2 f3
      rw [c22] at f4
      obtain ⟨z0, e0, _, w0⟩ := DataW.trod_int Tryd.underlying5 f0
      obtain ⟨z1, e1, _, w1⟩ := DataW.trod_int Tryd.underlying5 f1
      obtain ⟨z2, e2, _, w2⟩ := DataW.trod_int Tryd.underlying5 f2
      obtain ⟨z3, e3, _, w3⟩ := DataW.trod_int Tryd.underlying5 f3
      obtain ⟨z4, e4, _, w4⟩ := DataW.trod_int Tryd.underlying22 f4
      refine ⟨⟨z0, z1, z2, z3, z4⟩, ⟨bounds_u8 w0, bounds_u8 w1, bounds_u8 w2, bounds_u8 w3, bounds_i16 w4⟩, part_of_cells (by decide) rfl fun q hq => ?_⟩
      have hq' := hcell q hq
      have ea : ((⟨b, o, none⟩ : Addr).add (i * 5)).add q = ⟨b, o + i * 5 + q, none⟩ := by
        unfold Addr.add
        by_cases e1 : i * 5 = 0
        · by_cases e2 : q = 0
          · simp [e1, e2]
          · simp [e1, e2]
        · by_cases e2 : q = 0
          · simp [e1, e2]
          · simp [e1, e2]
      rw [ea] at hq'
      have hcs : cs[q]? = [Value.int .u8 z0, .int .u8 z1, .int .u8 z2, .int .u8 z3, .int .i16 z4][q]? := by
        have : q = 0 ∨ q = 1 ∨ q = 2 ∨ q = 3 ∨ q = 4 := by omega
        rcases this with rfl | rfl | rfl | rfl | rfl
        · exact one_int e0
        · exact one_int e1
        · exact one_int e2
        · exact one_int e3
        · exact one_int e4
      have hq5 : q < [Value.int .u8 z0, .int .u8 z1, .int .u8 z2, .int .u8 z3, .int .i16 z4].length := hq
      rw [hcs, List.getElem?_eq_getElem hq5] at hq'
      show _ = [Value.int .u8 z0, .int .u8 z1, .int .u8 z2, .int .u8 z3, .int .i16 z4][q]?
      rw [List.getElem?_eq_getElem hq5]
      exact memOf_cell hq'
    obtain ⟨ops, hl, hp⟩ := list_of key
    refine ⟨⟨some (b, o), len, cap⟩, ops, rfl, ⟨hl, fun q hq => ?_, fun i hi => ⟨b, o, rfl, (hp i hi).2⟩⟩⟩
    obtain ⟨i, hi, rfl⟩ := List.mem_iff_getElem.1 hq
    exact (hp i hi).1
/-- A word's bytes. -/
def wb (w : Int) : List Int := [IntKind.u8.wrap w, IntKind.u8.wrap (ishr .u32 w 8), IntKind.u8.wrap (ishr .u32 w 16), IntKind.u8.wrap (ishr .u32 w 24)]
def wbL (ops : List Op5) : List Int := ops.flatMap fun o => wb o.wrd
def bL (xs : List Int) : List Value := xs.map (.int .u8)
theorem u8_mod (x : Int) : IntKind.u8.wrap x = x % 256 := by simp [IntKind.wrap, IntKind.bits, IntKind.signed]
theorem wb_word {w : Int} (h0 : 0 ≤ w) (h1 : w < 4294967296) : word4 (IntKind.u8.wrap w) (IntKind.u8.wrap (ishr .u32 w 8)) (IntKind.u8.wrap (ishr .u32 w 16)) (IntKind.u8.wrap (ishr .u32 w 24)) = w := by
  obtain ⟨m, rfl⟩ : ∃ m : Nat, w = m := ⟨w.toNat, by omega⟩
  have e8 := ishr32_nat (a := m) (s := 8) (by decide)
  have e16 := ishr32_nat (a := m) (s := 16) (by decide)
  have e24 := ishr32_nat (a := m) (s := 24) (by decide)
  rw [show ((8 : Nat) : Int) = 8 from rfl] at e8
  rw [show ((16 : Nat) : Int) = 16 from rfl] at e16
  rw [show ((24 : Nat) : Int) = 24 from rfl] at e24
  rw [e8, e16, e24, u8_mod, u8_mod, u8_mod, u8_mod]
  unfold word4
  omega
theorem wb_bd (w : Int) : ∀ x ∈ wb w, 0 ≤ x ∧ x ≤ 255 := by
  intro x hx
  simp only [wb, List.mem_cons, List.not_mem_nil, or_false, u8_mod] at hx
  rcases hx with rfl | rfl | rfl | rfl <;> omega
theorem wbL_bd (ops : List Op5) : ∀ x ∈ wbL ops, 0 ≤ x ∧ x ≤ 255 := by
  intro x hx
  obtain ⟨o, _, h⟩ := List.mem_flatMap.1 hx
  exact wb_bd _ x h
theorem wbL_len : ∀ ops : List Op5, (wbL ops).length = 4 * ops.length
  | [] => rfl
  | o :: ops => by
    have := wbL_len ops
    simp only [wbL, List.flatMap_cons, List.length_append, List.length_cons] at this ⊢
    rw [this]
    show 4 + _ = _
    omega
theorem wbL_at : ∀ (ops : List Op5) (i : Nat) (h : i < ops.length), ∀ k, k < 4 → (wbL ops).getD (4 * i + k) 0 = (wb ops[i].wrd).getD k 0
  | [], i, h, _, _ => absurd h (by simp)
  | o :: ops, 0, h, k, hk => by
    show (wb o.wrd ++ wbL ops).getD (4 * 0 + k) 0 = _
    rw [List.getD_eq_getElem?_getD, List.getElem?_append_left (by show _ < 4; omega), Nat.mul_zero, Nat.zero_add, List.getD_eq_getElem?_getD]
    rfl
  | o :: ops, i + 1, h, k, hk => by
    show (wb o.wrd ++ wbL ops).getD (4 * (i + 1) + k) 0 = _
    have := wbL_at ops i (by simpa using h) k hk
    rw [List.getD_eq_getElem?_getD, List.getElem?_append_right (by show 4 ≤ _; omega), ← List.getD_eq_getElem?_getD]
    show (wbL ops).getD (4 * (i + 1) + k - 4) 0 = _
    rw [show 4 * (i + 1) + k - 4 = 4 * i + k by omega, this]
    rfl
theorem wAt_wbL {ops : List Op5} {i : Nat} (h : i < ops.length) (hb : ops[i].Bd) (hr : ops[i].Rt) : wAt (wbL ops) i = ops[i].wrd := by
  have hw := wrd_bd hb hr
  have e0 := wbL_at ops i h 0 (by decide)
  have e1 := wbL_at ops i h 1 (by decide)
  have e2 := wbL_at ops i h 2 (by decide)
  have e3 := wbL_at ops i h 3 (by decide)
  unfold wAt
  rw [← Nat.add_zero (4 * i)] at *
  rw [e0, Nat.add_zero (4 * i), e1, e2, e3]
  exact wb_word hw.1 (by have := hw.2; show wrd _ _ _ _ _ < _; omega)
theorem wbL_take {ops : List Op5} {i : Nat} (h : i < ops.length) : wbL (ops.take (i + 1)) = wbL (ops.take i) ++ wb ops[i].wrd := by
  rw [List.take_succ_eq_append_getElem h]
  unfold wbL
  rw [List.flatMap_append]
  simp only [List.flatMap_cons, List.flatMap_nil, List.append_nil]
section
variable {S : Mem}
set_option maxHeartbeats 1000000 in
theorem lay_spec {L : List Bs} {ops : List Op5} (hL : L ≠ []) (h59 : ∀ q ∈ L, (59 : UInt8) ∉ q) (hlen : L.length ≤ 20) (hsz : ∀ q ∈ L, q.length ≤ 60) (hj : ops.length ≤ L.length)
    (hop : ∀ i (h : i < ops.length) (h2 : i < L.length), ops[i].Bd ∧ ops[i].Rt ∧ trimB L[i] 32 = ops[i].txt) (hg : Gl S) {Q : Sl → Int → Int → Mem → Prop}
    (hend : ops.length = L.length → ∀ s' S', Keeps S S' [] → (∀ x o, s'.p = some (x, o) → S x = none) → s'.n = 4 * ops.length → Row S' 1 s' (bL (wbL ops)) → Q s' 0 0 S')
    (hbad : ∀ h : ops.length < L.length, trimB L[ops.length] 32 = [119, 104, 97, 116] ∧ ∀ S', Keeps S S' [] → Q ⟨none, 0, 0⟩ ops.length 4 S') : text_Lay S (bt (jn59 L)) Q := by
  apply t_text_Lay
  unfold b_text_Lay
  obtain ⟨m, t4, fr4, cs4, hmx⟩ := hg.mx
  have hm : S.cell 4 0 = some (.int .i64 m) := by rw [cell_of hmx]; rfl
  refine jn_cut (fun J => ops.length = L.length → ∀ s' S', Keeps S S' [] → (∀ x o, s'.p = some (x, o) → S x = none) → s'.n = 4 * ops.length → Row S' 1 s' (bL (wbL ops)) → J s' S') hend fun Jx hJx => ?_
  have hspl : countB (bt (jn59 L)) ⟨#[59]⟩ + 1 = L.length ∧ splitB ⟨#[59]⟩ 0 (countB (bt (jn59 L)) ⟨#[59]⟩) (bt (jn59 L)) = L.map bt := by
    cases L with
    | nil => exact absurd rfl hL
    | cons p ps =>
      obtain ⟨h1, h2⟩ := splitB_join 59 p ps (h59 p (by simp)) fun q hq => h59 q (by simp [hq])
      exact ⟨by show countB (bt (joinC 59 p ps)) _ + 1 = _; rw [h1]; rfl, h2⟩
  have hszz := jn59_len (m := 60) L hsz
  refine split_spec hm (by rw [bt_size]; omega) (by decide) fun sb hsb => ?_
  rw [hspl.2, hspl.1]
  obtain ⟨S1, hS1⟩ : ∃ S1, S1 = S.set sb (bw 9 ((L.map bt).map Value.string)) := ⟨_, rfl⟩
  rw [← hS1]
  have hk1 : Keeps S S1 [] := by rw [hS1]; exact Keeps.refl.new hsb
  have hcell : ∀ i (hi : i < L.length) S', Keeps S1 S' [] → S'.cell sb i = some (.string (bt L[i])) := fun i hi S' hk => by
    have h1 : S1 sb = some (bw 9 ((L.map bt).map Value.string)) := by rw [hS1]; exact set_same
    rw [cell_of (hk.get h1 (by simp)), nthL_eq]
    simp only [bw, List.getElem?_map, List.getElem?_eq_getElem hi, Option.map_some]
  refine lp_rule (fun (z : Sl × Int) S' => ∃ i : Nat, z.2 = i ∧ i ≤ ops.length ∧ z.1.n = 4 * i ∧ Keeps S S' [] ∧ Keeps S1 S' [] ∧ (∀ x o, z.1.p = some (x, o) → S x = none ∧ S1 x = none) ∧ Row S' 1 z.1 (bL (wbL (ops.take i)))) (fun z => L.length - z.2.toNat) ?_
    ⟨0, rfl, by omega, rfl, hk1, Keeps.refl, (fun x o h => by cases h), by simpa [wbL, bL] using Row.nil⟩
  rintro X ⟨out, z⟩ S' ⟨i, hz, hi, hn, hk, hk1', hf, hrow⟩ ih
  dsimp only at hz hn hf hrow ih ⊢
  subst hz
  by_cases hlt : i < L.length
  rotate_left
  · rw [if_neg (by omega)]
    have e : i = ops.length := by omega
    subst e
    rw [List.take_length] at hrow
    exact hJx (by omega) out S' hk (fun x o h => (hf x o h).1) hn hrow
  rw [if_pos (by omega), sl_i]
  refine ⟨by omega, by omega, ?_⟩
  rw [show 0 + (i : Int).toNat * 1 = i by omega, gS_i (hcell i hlt S' hk1')]
  refine trim_spec (by decide) (by rw [bt_size]; have := hsz L[i] (List.getElem_mem hlt); omega) ?_
  rw [bt_data]
  have hg' := hg.keep hk (by simp) (by simp) (by simp)
  by_cases hij : i < ops.length
  · obtain ⟨hb, hr, ht⟩ := hop i hij hlt
    rw [ht]
    refine read_spec hg' hb hr fun S2 hk2 => ?_
    refine ⟨rfl, ?_⟩
    refine jn_cut (fun J => J S2) ?_ fun J hJ => ?_
    rotate_left
    · rw [if_neg (by decide)]; exact hJ
    refine encode_spec hb (fun _ => ?_) fun h => absurd hr h
    have hrow2 : Row S2 1 out (bL (wbL (ops.take i))) := hrow.keep fun c hc => by
      rcases hrow.lie with ⟨h1, _⟩ | ⟨b2, kk, h1, h2, _⟩
      · rw [h1] at hc; cases hc
      · rw [h1] at hc; cases hc
        exact (hk2.get h2 (by simp)).trans h2.symm
    refine ap_row (vs := bL (wb ops[i].wrd)) hrow2 rfl (by decide) rfl (by omega) fun s2 S3 c kb e1 e2 e3 e4 e5 => ?_
    have hc : S c = none ∧ S1 c = none := by
      rcases e3 with e3 | e3
      · exact hf c 0 e3
      · have n1 : S1 c = none := by
          cases hs : S1 c with
          | none => rfl
          | some kk => have := (hk1'.trans hk2).get hs (by simp); rw [e3] at this; cases this
        refine ⟨?_, n1⟩
        cases hs : S c with
        | none => rfl
        | some kk => have := hk1.get hs (by simp); rw [n1] at this; cases this
    rw [w64 (by omega) (by omega)]
    refine ih _ S3 ⟨i + 1, by simp, by omega, by rw [e1, hn]; omega, ?_, ?_, fun x o' h => ?_, ?_⟩ (by dsimp only; omega)
    · rw [e4]; exact (hk.trans hk2).fresh hc.1
    · rw [e4]; exact (hk1'.trans hk2).fresh hc.2
    · rw [e2] at h; cases h; exact hc
    · rw [wbL_take hij]
      have : bL (wbL (ops.take i) ++ wb ops[i].wrd) = bL (wbL (ops.take i)) ++ bL (wb ops[i].wrd) := by simp [bL]
      rw [this]; exact e5
  · have e : i = ops.length := by omega
    subst e
    obtain ⟨h1, h2⟩ := hbad hlt
    rw [h1]
    refine read_what hg' fun S2 hk2 => ?_
    refine ⟨rfl, ?_⟩
    refine jn_cut (fun J => True) trivial fun J _ => ?_
    rw [if_pos (by decide)]
    exact h2 S2 (hk.trans hk2)
/-- The lines of TextFaults. -/
def ftT (ops : List Op5) (k i : Nat) : Bs := if i = k then [119, 104, 97, 116] else match ops[i]? with | some o => o.near.txt | none => []
def ftP (ops : List Op5) (k i : Nat) : Bs := if i = 0 then ftT ops k i else 32 :: ftT ops k i
def ftL (ops : List Op5) (k m : Nat) : List Bs := (List.range m).map (ftP ops k)
theorem ftT_at {ops : List Op5} {k i : Nat} (h : i < ops.length) (hk : i ≠ k) : ftT ops k i = ops[i].near.txt := by
  unfold ftT; rw [if_neg hk, List.getElem?_eq_getElem h]
theorem near_txt_ends {o : Op5} (h : o.Bd) : o.near.txt ≠ [] ∧ o.near.txt.head? ≠ some 32 ∧ o.near.txt.getLast? ≠ some 32 :=
  txt_ends (Op5.near_bd h).kk.1 (Op5.near_rt h).kk
theorem ftP_all {ops : List Op5} (hb : ∀ o ∈ ops, o.Bd) {k i : Nat} (h : i < ops.length) : (59 : UInt8) ∉ ftP ops k i ∧ (ftP ops k i).length ≤ 60 ∧ trimB (ftP ops k i) 32 = ftT ops k i := by
  have key : (59 : UInt8) ∉ ftT ops k i ∧ (ftT ops k i).length ≤ 40 ∧ ftT ops k i ≠ [] ∧ (ftT ops k i).head? ≠ some 32 ∧ (ftT ops k i).getLast? ≠ some 32 := by
    by_cases hik : i = k
    · unfold ftT; rw [if_pos hik]; decide
    · rw [ftT_at h hik]
      have hbi := hb ops[i] (List.getElem_mem h)
      exact ⟨txt_no59 _ _ _ _ _, txt_len (Op5.near_bd hbi), near_txt_ends hbi⟩
  obtain ⟨h1, h2, h3, h4, h5⟩ := key
  unfold ftP
  split
  · refine ⟨h1, by omega, ?_⟩
    have := trim_pads 32 0 0 (ftT ops k i) h3 h4 h5
    simpa using this
  · refine ⟨fun h => ?_, by simp only [List.length_cons]; omega, ?_⟩
    · rcases List.mem_cons.1 h with h | h
      · exact absurd h (by decide)
      · exact h1 h
    · have := trim_pads 32 1 0 (ftT ops k i) h3 h4 h5
      simpa using this
theorem ftL_len (ops : List Op5) (k m : Nat) : (ftL ops k m).length = m := by simp [ftL]
theorem ftL_succ (ops : List Op5) (k m : Nat) : ftL ops k (m + 1) = ftL ops k m ++ [ftP ops k m] := by simp [ftL, List.range_succ]
theorem ftL_mem {ops : List Op5} (hb : ∀ o ∈ ops, o.Bd) {k m : Nat} (h : m ≤ ops.length) : ∀ q ∈ ftL ops k m, (59 : UInt8) ∉ q ∧ q.length ≤ 60 := by
  intro q hq
  obtain ⟨i, hi, rfl⟩ := List.mem_map.1 hq
  have := ftP_all hb (k := k) (i := i) (by have := List.mem_range.1 hi; omega)
  exact ⟨this.1, this.2.1⟩
theorem ftL_bytes {ops : List Op5} (hb : ∀ o ∈ ops, o.Bd) {k m : Nat} (h : m ≤ ops.length) : (jn59 (ftL ops k m)).length ≤ 61 * m := by
  have := jn59_len (m := 60) (ftL ops k m) fun q hq => (ftL_mem hb h q hq).2
  rw [ftL_len] at this
  exact this
theorem gops (o : Op5) : nthL o.L 0 = some (.int .u8 o.k) ∧ nthL o.L 1 = some (.int .u8 o.a) ∧ nthL o.L 2 = some (.int .u8 o.b) ∧ nthL o.L 3 = some (.int .u8 o.c) ∧ nthL o.L 4 = some (.int .i16 o.n) := ⟨rfl, rfl, rfl, rfl, rfl⟩
theorem nearO_spec {o : Op5} (hb : o.Bd) {Q : List Value → Mem → Prop} (hQ : ∀ S', Keeps S S' [] → Q o.near.L S') : hermitcrablaw03_near S o.L Q := near_spec hb hQ
set_option maxHeartbeats 1000000 in
theorem textFaults_law {l : Sl} {ops : List Op5} {a : Int} (hg : Gl S) (hp : OpsIn S l ops) (ha : 0 ≤ a ∧ a ≤ 255) : hermitcrablaw03_TextFaults S l a (fun r S' => r = true ∧ Keeps S S' []) := by
  apply t_hermitcrablaw03_TextFaults
  unfold b_hermitcrablaw03_TextFaults
  have hlen := hp.len
  refine jn_cut (fun j => ∀ S', Keeps S S' [] → 0 < ops.length → ops.length ≤ 20 → j S') ?_ fun j hj => ?_
  rotate_left
  · refine awake_spec hg fun S1 hk1 => ?_
    rw [if_pos rfl]
    by_cases h0 : (l.n : Int) = 0
    · rw [if_pos h0]
      exact awake_spec (hg.keep hk1 (by simp) (by simp) (by simp)) fun S2 hk2 => ⟨rfl, hk1.trans hk2⟩
    rw [if_neg h0]
    by_cases h : 20 < (l.n : Int)
    · rw [if_pos h]
      exact awake_spec (hg.keep hk1 (by simp) (by simp) (by simp)) fun S2 hk2 => ⟨rfl, hk1.trans hk2⟩
    · rw [if_neg h]; exact hj S1 hk1 (by omega) (by omega)
  intro S1 hk1 hpos h20
  refine ⟨by omega, ?_⟩
  obtain ⟨k, hk⟩ : ∃ k : Nat, Int.tmod (IntKind.i64.wrap a) (l.n : Int) = k := by
    rw [w64 (by omega) (by omega), tm ha.1]
    exact ⟨(a % (l.n : Int)).toNat, by have := Int.emod_nonneg a (show (l.n : Int) ≠ 0 by omega); omega⟩
  have hkl : k < ops.length := by
    have h1 := Int.emod_lt_of_pos a (show 0 < (l.n : Int) by omega)
    rw [w64 (by omega) (by omega), tm ha.1] at hk
    omega
  rw [hk]
  refine jn_cut (fun j => ∀ S', Keeps S S' [] → j (bt (jn59 (ftL ops k ops.length))) S') ?_ fun Jx hJx => ?_
  · intro S2 hk2
    have hg2 := hg.keep hk2 (by simp) (by simp) (by simp)
    have hl : (ftL ops k ops.length).length = ops.length := ftL_len _ _ _
    have hat : ∀ i (h : i < (ftL ops k ops.length).length), (ftL ops k ops.length)[i] = ftP ops k i := fun i h => by simp [ftL]
    refine lay_spec (ops := (ops.take k).map Op5.near) (fun h => by rw [h] at hl; simp at hl; omega) (fun q hq => (ftL_mem hp.bd (Nat.le_refl _) q hq).1) (by omega) (fun q hq => (ftL_mem hp.bd (Nat.le_refl _) q hq).2) (by simp; omega) ?_ hg2 ?_ ?_
    · intro i h h2
      have hik : i < k := by simp at h; omega
      have hil : i < ops.length := by omega
      have hbi := hp.bd ops[i] (List.getElem_mem hil)
      rw [hat i h2, (ftP_all hp.bd hil).2.2, ftT_at hil (by omega)]
      simp only [List.getElem_map, List.getElem_take]
      exact ⟨Op5.near_bd hbi, Op5.near_rt hbi, trivial⟩
    · intro h; simp at h; omega
    · intro h
      have e : ((ops.take k).map Op5.near).length = k := by simp; omega
      refine ⟨?_, fun S3 hk3 => ?_⟩
      · rw [hat _ h, (ftP_all hp.bd (by omega)).2.2]
        unfold ftT
        rw [if_pos e]
      · rw [if_pos rfl, if_pos (by rw [e])]
        exact ⟨rfl, hk2.trans hk3⟩
  refine lp_rule (fun (z : ByteArray × Int) S' => ∃ i : Nat, z = (bt (jn59 (ftL ops k i)), (i : Int)) ∧ i ≤ ops.length ∧ Keeps S S' []) (fun z => ops.length - z.2.toNat) ?_ ⟨0, rfl, by omega, hk1⟩
  rintro X z S' ⟨i, rfl, hi, hkS⟩ ih
  dsimp only at ih ⊢
  refine jn_cut (fun j => i < ops.length → j S') ?_ fun j hj => ?_
  rotate_left
  · by_cases h : (i : Int) < (l.n : Int)
    · rw [if_pos h]; exact hj (by omega)
    · rw [if_neg h]
      have e : i = ops.length := by omega
      subst e
      exact hJx S' hkS
  intro hil
  have hbi := hp.bd ops[i] (List.getElem_mem hil)
  have hby := ftL_bytes hp.bd (k := k) (m := i) hi
  have hby' := ftL_bytes hp.bd (k := k) (m := i + 1) (by omega)
  -- the line's end
  refine jn_cut (fun j => ∀ S2, Keeps S S2 [] → j (bt (jn59 (ftL ops k (i + 1)))) S2) ?_ fun J1 hJ1 => ?_
  · intro S2 hk2
    rw [w64 (by omega) (by omega)]
    exact ih _ S2 ⟨i + 1, by simp, by omega, hk2⟩ (by dsimp only; omega)
  have hsucc : jn59 (ftL ops k (i + 1)) = (if i = 0 then [] else jn59 (ftL ops k i) ++ [59, 32]) ++ ftT ops k i := by
    rw [ftL_succ, jn59_snoc]
    have hl := ftL_len ops k i
    by_cases h0 : i = 0
    · subst h0
      simp [ftL, ftP]
    · rw [if_neg (fun h => by rw [h] at hl; simp at hl; omega), if_neg h0]
      unfold ftP; rw [if_neg h0]; simp
  -- what stands ahead
  refine jn_cut (fun j => j (bt (if i = 0 then [] else jn59 (ftL ops k i) ++ [59, 32])) S') ?_ fun J2 hJ2 => ?_
  rotate_left
  · by_cases h0 : i = 0
    · subst h0
      rw [if_neg (by simp)]
      rw [if_pos rfl] at hJ2
      exact hJ2
    · rw [if_pos (by omega)]
      rw [if_neg h0] at hJ2
      refine ⟨by rw [bt_size]; show _ + 2 ≤ _; omega, ?_⟩
      rw [show (ByteArray.mk #[59, 32]) = bt [59, 32] from rfl, bt_append]
      exact hJ2
  generalize hpre : (if i = 0 then [] else jn59 (ftL ops k i) ++ [59, 32]) = pre at *
  have hprel : pre.length ≤ 61 * (i + 1) := by
    rw [hsucc, List.length_append] at hby'
    omega
  obtain ⟨b, x, hlp, hpart⟩ := (hp.keep hkS).lie i hil
  obtain ⟨lp, ln, lc⟩ := l
  simp only at hlp hlen hk
  subst hlp
  rw [sl_i]
  refine ⟨by omega, by omega, ?_⟩
  rw [show x + (i : Int).toNat * 5 = x + i * 5 by omega, gA_i hpart]
  refine nearO_spec hbi fun S2 hk2 => ?_
  refine ⟨rfl, ?_⟩
  have ktot := hkS.trans hk2
  by_cases hik : i = k
  · rw [if_pos (by omega)]
    have et : ftT ops k i = [119, 104, 97, 116] := by unfold ftT; rw [if_pos hik]
    rw [et] at hsucc
    refine ⟨by rw [bt_size]; show _ + 4 ≤ _; omega, ?_⟩
    rw [show (ByteArray.mk #[119, 104, 97, 116]) = bt [119, 104, 97, 116] from rfl, bt_append, ← hsucc]
    exact hJ1 S2 ktot
  · rw [if_neg (by omega)]
    rw [ftT_at hil hik] at hsucc
    obtain ⟨g0, g1, g2, g3, g4⟩ := gops ops[i].near
    rw [gI_i g0, gI_i g1, gI_i g2, gI_i g3, gI_i g4]
    have hnb := Op5.near_bd hbi
    have hnr := Op5.near_rt hbi
    have hnl := txt_len hnb
    refine refText_spec hnb hnr.kk fun S3 hk3 => ?_
    refine ⟨by rw [bt_size, bt_size]; omega, ?_⟩
    rw [bt_append]
    have := hJ1 S3 (ktot.trans hk3)
    rw [hsucc] at this
    exact this
end
end Go.Proofs.YtpilffakhkagjaaDoor
