/- The engine, part E: rows of elements made, built, appended to, resliced; strings. No program in sight. -/
import Derived.Test.YtpilffakhkagjaaDoorPtD
namespace Go.Pt
open Go Go.RowKit
theorem adr_some (b o : Nat) : adr (some (b, o)) = some ⟨b, o, none⟩ := rfl
section
variable {P : Program} {l : Fr} {c : Cond}
theorem isNone_p (p : Pt) : (adr p).isNone = decide (p = none) := isNone_adr p
theorem run_sl_nil {t e : TypeId} (he : P.underlying t = some (.slice e)) (p : Option Addr) (n k n2 k2 : Nat) (w : World) : (Op.equal t (.slice p n k) (.slice none n2 k2)).run P w = .ok p.isNone w := by
  have h : Op.equal t (.slice p n k) (.slice none n2 k2) = Op.equalIn (9999 + 1) t (.slice p n k) (.slice none n2 k2) := rfl
  rw [h, Op.equalIn]
  cases p <;> simp [run_underlying he]
theorem y_lnil {t t2 : TypeId} {e size : Nat} {x y : Operand} {p : Pt} {n k n2 k2 : Nat} [h : SliceT P t e size] (hx : ev l x = some (.slice (adr p) n k)) (hy : ev l y = some (.slice none n2 k2)) : Yc P l c (.binOp .eql t x y t2) (.bool (decide (p = none))) := by
  unfold Yc; intro a w ha _ d ty ps af g
  have hr := run_sl_nil h.run (adr p) n k n2 k2 w
  rw [isNone_adr] at hr
  simp [execOp, ha.eval hx, ha.eval hy, eqGuard, binOp, hr]
theorem y_lnn {t t2 : TypeId} {e size : Nat} {x y : Operand} {p : Pt} {n k n2 k2 : Nat} [h : SliceT P t e size] (hx : ev l x = some (.slice (adr p) n k)) (hy : ev l y = some (.slice none n2 k2)) : Yc P l c (.binOp .neq t x y t2) (.bool (decide (p ≠ none))) := by
  unfold Yc; intro a w ha _ d ty ps af g
  have hr := run_sl_nil h.run (adr p) n k n2 k2 w
  rw [isNone_adr] at hr
  simp [execOp, ha.eval hx, ha.eval hy, eqGuard, binOp, hr]
theorem y_cap {t e size : Nat} {x : Operand} {p : Option Addr} {len cap : Nat} [h : SliceT P t e size] (hx : ev l x = some (.slice p len cap)) :
    Yc P l c (.call { callee := .builtin .cap, args := #[x], argTypes := #[t] }) (.int .i64 cap) := by
  unfold Yc; intro a w ha _ d ty ps af g
  simp [execOp, ha.eval hx, resolve, invoke, builtin, Builtin.cap_, run_underlying h.run, goInt]
theorem y_max {t t2 : TypeId} {x y : Operand} {k : IntKind} {m n : Int} (hx : ev l x = some (.int k m)) (hy : ev l y = some (.int k n)) : Yc P l c (.call { callee := .builtin .max, args := #[x, y], argTypes := #[t, t2] }) (.int k (if m < n then n else m)) := by
  unfold Yc; intro a w ha _ d ty ps af g
  simp [execOp, ha.eval hx, ha.eval hy, resolve, invoke, builtin, Builtin.max_, Builtin.max2]
theorem y_min {t t2 : TypeId} {x y : Operand} {k : IntKind} {m n : Int} (hx : ev l x = some (.int k m)) (hy : ev l y = some (.int k n)) : Yc P l c (.call { callee := .builtin .min, args := #[x, y], argTypes := #[t, t2] }) (.int k (if n < m then n else m)) := by
  unfold Yc; intro a w ha _ d ty ps af g
  simp [execOp, ha.eval hx, ha.eval hy, resolve, invoke, builtin, Builtin.min_, Builtin.min2]
def evB (l : Fr) : Option Operand → Int → Option Int
  | none, d => some d
  | some x, _ => match ev l x with
    | some (.int _ n) => some n
    | _ => none
theorem evB_run {lo : Option Operand} {dflt z : Int} {a : Act} (ha : Ag l a) (h : evB l lo dflt = some z) : (lo = none ∧ z = dflt) ∨ (∃ x k, lo = some x ∧ a.eval x = .int k z) := by
  cases lo with
  | none => simp [evB] at h; exact .inl ⟨rfl, h.symm⟩
  | some x =>
    simp only [evB] at h
    split at h
    · rename_i k n hx; cases h; exact .inr ⟨x, k, rfl, ha.eval hx⟩
    · cases h
/-- A slice of a slice. -/
def slc (size : Nat) (s : Sl) (a b : Int) : Sl := ⟨if s.c = a.toNat then s.p else s.p.map fun q => (q.1, q.2 + a.toNat * size), (b - a).toNat, s.c - a.toNat⟩
theorem run_bound {w : World} {kk : IntKind} {z : Int} {y : Nat} {code : BoundsCode} (h0 : 0 ≤ z) (h1 : z ≤ y) : (Instr.sliceBound (.int kk z) y code).run P w = .ok z.toNat w := by
  simp [Instr.sliceBound, asIntOf, h0, h1]
theorem run_bounds {w : World} {ac : Act} {lo hi : Option Operand} {n k : Nat} {a b : Int} (ha : Ag l ac) (hlo : evB l lo 0 = some a) (hhi : evB l hi n = some b) (h0 : 0 ≤ a) (h1 : a ≤ b) (h2 : b ≤ k) :
    (Instr.sliceBounds true n k (lo.map ac.eval) (hi.map ac.eval) none).run P w = .ok (a.toNat, b.toNat, k) w := by
  have hb0 : 0 ≤ b := by omega
  have hab : a ≤ (b.toNat : Int) := by omega
  rcases evB_run ha hlo with ⟨rfl, rfl⟩ | ⟨xl, kl, rfl, hl⟩ <;> rcases evB_run ha hhi with ⟨rfl, rfl⟩ | ⟨xh, kh, rfl, hh⟩
  · simp [Instr.sliceBounds]
  · simp [Instr.sliceBounds, hh, run_bound hb0 h2]
  · simp only [Int.toNat_natCast] at hab
    simp [Instr.sliceBounds, hl, run_bound h0 hab]
  · simp [Instr.sliceBounds, hl, hh, run_bound hb0 h2, run_bound h0 hab]
theorem y_slc {t e size : Nat} {x : Operand} {lo hi : Option Operand} {p : Pt} {n k : Nat} {a b : Int} [h : SliceT P t e size] (hx : ev l x = some (.slice (adr p) n k)) (hlo : evB l lo 0 = some a) (hhi : evB l hi n = some b)
    (h0 : 0 ≤ a) (h1 : a ≤ b) (h2 : b ≤ k) : Yc P l c (.slice t x lo hi none) (eL (slc size ⟨p, n, k⟩ a b)) := by
  unfold Yc; intro ac w ha _ d ty ps af g
  have e1 : (b - a).toNat = b.toNat - a.toNat := by omega
  have hadr : adr (if k = a.toNat then p else p.map fun q => (q.1, q.2 + a.toNat * size)) = if k = a.toNat then adr p else (adr p).map (·.add (a.toNat * size)) := by
    split
    · rfl
    · cases p with
      | none => rfl
      | some q => obtain ⟨u, v⟩ := q; simp [adr, Addr.add_lit]
  have hb := run_bounds (P := P) (w := w) ha hlo hhi h0 h1 h2
  simp only [execOp, ha.eval hx, Instr.sliceAt, Instr.slice, Sem.run_bind, run_underlying h.run, Result.andThen_ok, hb, h.size, Sem.run_pure, slc, eL, hadr, e1, Option.map_none]
theorem y_slcA {t n e size b o : Nat} {x : Operand} [h : ArrayT P t n e size] (hx : ev l x = some (.pointer (some ⟨b, o, none⟩))) : Yc P l c (.slice t x none none none) (.slice (some ⟨b, o, none⟩) n n) := by
  unfold Yc; intro ac w ha _ d ty ps af g
  simp [execOp, ha.eval hx, Instr.sliceAt, Instr.sliceBounds, run_underlying h.run, h.size, Instr.sureAddr, Addr.add]
end

/-! ### What is appended, copied -/
theorem fc_S {P : Program} {w0 : World} {S0 S : Mem} {V : Hp} {b o m size c2 : Nat} {vs : List Value} (h : S.part b o (m * size) = some vs) : ∀ w, St w0 S0 S V w → (Builtin.firstCells size m (.slice (some ⟨b, o, none⟩) m c2)).run P w = .ok vs.toArray w := fun w hS => by
  have := run_cells (P := P) (hc_SP h w hS) (part_len h)
  simpa [Builtin.firstCells] using this
theorem fc_V {P : Program} {w0 : World} {S0 S : Mem} {V : Hp} {b o m size c2 : Nat} {vs : List Value} (n : Nat) {ty : TypeId} {cs : List Value} (hn : nthL V n = some ⟨b, ty, cs⟩) (h : lpart cs o (m * size) = some vs) (hty : Nat.beq ty itT = false := by rfl) : ∀ w, St w0 S0 S V w → (Builtin.firstCells size m (.slice (some ⟨b, o, none⟩) m c2)).run P w = .ok vs.toArray w := fun w hS => by
  have := run_cells (P := P) (hc_VP n hn h hty w hS) (lpart_e h).2.2
  simpa [Builtin.firstCells] using this
theorem fc_nil {P : Program} {w0 : World} {S0 S : Mem} {V : Hp} {size m c2 : Nat} : ∀ w, St w0 S0 S V w → (Builtin.firstCells size m (.slice none m c2)).run P w = .ok (List.toArray []) w := fun w _ => by simp [Builtin.firstCells]
/-- What a slice holds. -/
def sp (S : Mem) (s : Sl) (size : Nat) (K : List Value → Prop) : Prop := ∃ vs, ((s.p = none ∧ s.n = 0 ∧ vs = []) ∨ ∃ b o, s.p = some (b, o) ∧ S.part b o (s.n * size) = some vs) ∧ vs.all (·.oneCell') = true ∧ K vs
theorem fc_sp {P : Program} {w0 : World} {S0 S : Mem} {V : Hp} {s : Sl} {size : Nat} {vs : List Value} (h : (s.p = none ∧ s.n = 0 ∧ vs = []) ∨ ∃ b o, s.p = some (b, o) ∧ S.part b o (s.n * size) = some vs) :
    (∀ w, St w0 S0 S V w → (Builtin.firstCells size s.n (eL s)).run P w = .ok vs.toArray w) ∧ vs.length = s.n * size := by
  obtain ⟨p, n, c⟩ := s
  rcases h with ⟨h1, h2, rfl⟩ | ⟨b, o, h1, h2⟩
  · simp only at h1 h2; subst h1; subst h2
    exact ⟨fc_nil, by simp⟩
  · simp only at h1 h2; subst h1
    exact ⟨fc_S h2, part_len h2⟩
/-- An append of so many elements, these cells. -/
def ap (S : Mem) (e : TypeId) (size bytes : Nat) (z : List Value) (s : Sl) (m : Nat) (vs : List Value) (K : Sl → Mem → Prop) : Prop :=
  (2 * (s.n + m) + 1024) * bytes ≤ 281474976710656 ∧
  (s.n + m ≤ s.c → (s.p = none ∧ vs = [] ∧ K ⟨none, s.n + m, s.c⟩ S) ∨ ∃ b o, s.p = some (b, o) ∧ S.room b (o + s.n * size) (m * size) ∧ K ⟨s.p, s.n + m, s.c⟩ (S.put b (o + s.n * size) vs)) ∧
  (s.c < s.n + m → ∃ old, ((s.p = none ∧ s.n = 0 ∧ old = []) ∨ ∃ b o, s.p = some (b, o) ∧ S.part b o (s.n * size) = some old) ∧
    ∀ b' c', S b' = none → s.n + m ≤ c' → c' < 9223372036854775808 → K ⟨some (b', 0), s.n + m, c'⟩ (S.set b' (bw e (old ++ vs ++ zrep (c' - (s.n + m)) z))))
theorem growBy_le (need : Nat) : ∀ (r c : Nat), c ≤ 2 * need + 1024 → Builtin.growBy need r c ≤ 2 * need + 1024
  | 0, c, h => h
  | r + 1, c, h => by
    unfold Builtin.growBy
    split
    · exact h
    · exact growBy_le need r _ (by omega)
theorem nextslicecap_le {need c : Nat} (h : c < need) : Builtin.nextslicecap need c ≤ 2 * need + 1024 := by
  unfold Builtin.nextslicecap
  split
  · omega
  · split
    · omega
    · exact growBy_le _ _ _ (by omega)
theorem zeroCells_zrep (z : List Value) (n : Nat) (h : 0 < z.length) : Builtin.zeroCells z.toArray n = (zrep n z).toArray := by
  have := madeCells_zrep z n h
  simpa [Builtin.zeroCells, madeCells] using this
section
variable {P : Program} {w0 : World} {S0 : Mem} {opl : List Oper} {Q : Exit → Act → World → Prop} {rest : List Oper} {l : Fr} {S : Mem} {V : Hp}
variable {d : Option Tmp} {op : Op} {ty : TypeId} {ps : String} {af : Array Edge} {g : Option (Nat × Bool)}
theorem s_mk {t e size bytes : Nat} {z : List Value} {x y : Operand} {kl kc : IntKind} {n c : Int} [h : ElemT P t e z size bytes] (hw : wantL opl l g = some true) (hx : ev l x = some (.int kl n)) (hy : ev l y = some (.int kc c))
    (h0 : 0 ≤ n) (hnc : n ≤ c) (hb : (bytes : Int) * c ≤ 281474976710656) (h63 : c ≤ 9223372036854775807)
    (k : ∀ b, WL P w0 S0 opl Q rest (putn l d (.slice (some ⟨b, 0, none⟩) n.toNat c.toNat)) S (V ++ [⟨b, e, zrep c.toNat z⟩])) (hty : Nat.beq e itT = false := by rfl) : WL P w0 S0 opl Q (⟨d, .makeSlice t x y, ty, ps, af, g⟩ :: rest) l S V := by
  unfold WL at k ⊢
  intro a w ha hS
  refine wpList_step fun K hK => ?_
  rw [if_pos (wanted_of (o := ⟨d, .makeSlice t x y, ty, ps, af, g⟩) hw ha)]
  unfold Oper.wp
  obtain ⟨i, v, h1, h2, h3, h4, h5⟩ := h.info
  have hr := run_make (P := P) w t e i v h.sl h1 h2 kl kc n c h0 hnc (by rw [h5]; exact hb) h63
  rw [h3, h4, ← h.len, madeCells_zrep z _ (by rw [h.len]; exact h.pos)] at hr
  have : (execOp a.eval ⟨d, .makeSlice t x y, ty, ps, af, g⟩).run P w = .ok (.value (.slice (some ⟨w.heap.size, 0, none⟩) n.toNat c.toNat)) (w.alloc (.cells (zrep c.toNat z).toArray e)) := by
    simp [execOp, ha.eval hx, ha.eval hy, hr]
  rw [this]
  exact hK _ _ (k w.heap.size _ _ (ha.put d _) (hS.alloc _ e hty))
theorem s_bs {t e size bytes n : Nat} {z cs : List Value} {qs : List (Nat × Operand)} {vs : List (Nat × Value)} [h : ElemT P t e z size bytes] (hw : wantL opl l g = some true) (hx : evp l qs = some vs)
    (hn : n * size ≤ 16777216) (hf : fillS (fun i => some (i * size, size)) (zrep n z) vs = some cs)
    (k : ∀ b, WL P w0 S0 opl Q rest (putn l d (.slice (some ⟨b, 0, none⟩) n n)) S (V ++ [⟨b, e, cs⟩])) (hty : Nat.beq e itT = false := by rfl) : WL P w0 S0 opl Q (⟨d, .buildSlice t n qs.toArray, ty, ps, af, g⟩ :: rest) l S V := by
  unfold WL at k ⊢
  intro a w ha hS
  refine wpList_step fun K hK => ?_
  rw [if_pos (wanted_of (o := ⟨d, .buildSlice t n qs.toArray, ty, ps, af, g⟩) hw ha)]
  unfold Oper.wp
  obtain ⟨i, v, h1, h2, h3, h4, h5⟩ := h.info
  have he := ha.evalp hx
  have hm : (qs.toArray.map fun x => (x.1, a.eval x.2)) = vs.toArray := by rw [← he]; simp
  have hfill := fill_of_fillS _ _ _ _ hf
  have hz : madeCells z.toArray (n * size) = (zrep n z).toArray := by rw [← h.len]; exact madeCells_zrep z n (by rw [h.len]; exact h.pos)
  have hs : ∀ w, (sizeOf e).run P w = .ok size w := fun w => by simp [sizeOf, typeInfo, h1, h4]
  have hzv : ∀ w, (zeroValue e).run P w = .ok v w := fun w => by simp [zeroValue, typeInfo, h1, h2]
  have : (execOp a.eval ⟨d, .buildSlice t n qs.toArray, ty, ps, af, g⟩).run P w = .ok (.value (.slice (some ⟨w.heap.size, 0, none⟩) n n)) (w.alloc (.cells cs.toArray e)) := by
    simp only [execOp, hm, Instr.buildSlice, Sem.run_bind, run_underlying h.sl, Result.andThen_ok, hs]
    rw [if_neg (by simp; omega)]
    by_cases h0 : n * size = 0
    · have e0 : (Array.range (n * size)).map (fun x => (#[] : Array Value)[x % (#[] : Array Value).size]!) = (zrep n z).toArray := by rw [← hz, h0]; simp [madeCells]
      rw [if_pos h0]
      simp only [Sem.run_bind, Sem.run_pure, Result.andThen_ok, e0, hfill]
      rfl
    · rw [if_neg h0]
      have e1 : (Array.range (n * size)).map (fun x => (z.toArray)[x % (z.toArray).size]!) = (zrep n z).toArray := hz
      simp only [Sem.run_bind, hzv, Result.andThen_ok, h3, Sem.run_pure, e1, hfill]
      rfl
  rw [this]
  exact hK _ _ (k w.heap.size _ _ (ha.put d _) (hS.alloc _ e hty))
theorem s_app {t e size bytes : Nat} {z : List Value} {x y : Operand} {sx : Sl} {ay : Option Addr} {m c2 : Nat} {vs : List Value} {K : Sl → Mem → Prop} [h : ElemT P t e z size bytes] (hw : wantL opl l g = some true)
    (hx : ev l x = some (eL sx)) (hy : ev l y = some (.slice ay m c2)) (hv : ∀ w, St w0 S0 S V w → (Builtin.firstCells size m (.slice ay m c2)).run P w = .ok vs.toArray w) (hl : vs.length = m * size) (h1 : vs.all (·.oneCell') = true) (hb : bytes ≠ 0)
    (H : ap S e size bytes z sx m vs K) (k : ∀ r S', K r S' → WL P w0 S0 opl Q rest (putn l d (eL r)) S' V) (hty : Nat.beq e itT = false := by rfl) :
    WL P w0 S0 opl Q (⟨d, .call { callee := .builtin .append, args := #[x, y], argTypes := #[t, t] }, ty, ps, af, g⟩ :: rest) l S V := by
  unfold WL at k ⊢
  intro a w ha hS
  refine wpList_step fun KK hKK => ?_
  rw [if_pos (wanted_of (o := ⟨d, .call { callee := .builtin .append, args := #[x, y], argTypes := #[t, t] }, ty, ps, af, g⟩) hw ha)]
  unfold Oper.wp
  obtain ⟨i, v0, i1, i2, i3, i4, i5⟩ := h.info
  have hs : ∀ w, (sizeOf e).run P w = .ok size w := fun w => by simp [sizeOf, typeInfo, i1, i4]
  have hti : ∀ w, (typeInfo e).run P w = .ok i w := fun w => by simp [typeInfo, i1]
  have hzv : ∀ w, (zeroValue e).run P w = .ok v0 w := fun w => by simp [zeroValue, typeInfo, i1, i2]
  obtain ⟨lim, hin, hgr⟩ := H
  obtain ⟨p, n, cc⟩ := sx
  simp only at lim hin hgr
  have hv := hv w hS
  by_cases hcap : n + m ≤ cc
  · rcases hin hcap with ⟨hp, hvs, hK⟩ | ⟨b, o, hp, hpart, hK⟩
    · subst hp; subst hvs
      have : (execOp a.eval ⟨d, .call { callee := .builtin .append, args := #[x, y], argTypes := #[t, t] }, ty, ps, af, g⟩).run P w = .ok (.value (eL ⟨none, n + m, cc⟩)) w := by
        simp [execOp, resolve, invoke, builtin, ha.eval hx, ha.eval hy, eL, adr, Builtin.append_, run_underlying h.sl, hs, Builtin.lenOf, hcap, hv]
      rw [this]
      exact hKK _ _ (k _ _ hK _ _ (ha.put d _) hS)
    · subst hp
      obtain ⟨kb, hkb, hfr, hlp⟩ := hpart
      have hm := hS.mem b kb hkb
      rw [hfr] at hm
      have hst := run_storeCells_at (P := P) b (o + n * size) kb.ty vs 0 kb.cs.toArray w hm (by simp; omega) (fun v hv => List.all_eq_true.1 h1 v hv)
      simp only [Nat.add_zero] at hst
      rw [← spl_eq kb.cs (o + n * size) vs (by omega)] at hst
      have : (execOp a.eval ⟨d, .call { callee := .builtin .append, args := #[x, y], argTypes := #[t, t] }, ty, ps, af, g⟩).run P w = .ok (.value (eL ⟨some (b, o), n + m, cc⟩)) (w.setRow b (spl kb.cs (o + n * size) vs).toArray) := by
        simp [execOp, resolve, invoke, builtin, ha.eval hx, ha.eval hy, eL, adr, Builtin.append_, run_underlying h.sl, hs, Builtin.lenOf, hcap, hv, Addr.add_lit, hst]
      rw [this]
      exact hKK _ _ (k _ _ hK _ _ (ha.put d _) (hS.putS hkb _))
  · obtain ⟨old, hold, hK⟩ := hgr (by omega)
    have hlim : ¬ 281474976710656 < Builtin.nextslicecap (n + m) cc * i.bytes := by
      have h1 := nextslicecap_le (need := n + m) (c := cc) (by omega)
      have h2 := Nat.mul_le_mul_right i.bytes h1
      rw [i5] at h2 ⊢
      omega
    have hi0 : ¬ i.bytes = 0 := by rw [i5]; exact hb
    have hof : (Builtin.firstCells size n (.slice (adr p) n cc)).run P w.drew = .ok old.toArray w.drew := by
      have := (fc_sp (P := P) (w0 := w0) (S0 := S0) (S := S) (V := V) (s := ⟨p, n, cc⟩) (size := size) (vs := old) hold).1 _ hS.drew
      exact this
    have hv' : (Builtin.firstCells size m (.slice ay m c2)).run P w.drew = .ok vs.toArray w.drew := by
      have := ‹∀ w, St w0 S0 S V w → (Builtin.firstCells size m (.slice ay m c2)).run P w = .ok vs.toArray w› _ hS.drew
      exact this
    let nc := Question.cut (.appendCap (n + m) cc e) (w.tape w.drawn (.appendCap (n + m) cc e))
    have hnc : n + m ≤ nc ∧ nc < 9223372036854775808 := by
      have : n + m < 9223372036854775808 := by
        have : 1 ≤ bytes := by omega
        have := Nat.mul_le_mul_left (2 * (n + m) + 1024) this
        omega
      have h2 : w.tape w.drawn (.appendCap (n + m) cc e) % (2 ^ 63 - (n + m)) < 2 ^ 63 - (n + m) := Nat.mod_lt _ (by omega)
      simp only [nc, Question.cut]
      omega
    have : (execOp a.eval ⟨d, .call { callee := .builtin .append, args := #[x, y], argTypes := #[t, t] }, ty, ps, af, g⟩).run P w = .ok (.value (eL ⟨some (w.heap.size, 0), n + m, nc⟩)) (w.drew.alloc (.cells (old ++ vs ++ zrep (nc - (n + m)) z).toArray e)) := by
      have hz := zeroCells_zrep z (nc - (n + m)) (by rw [h.len]; exact h.pos)
      simp only [nc] at hz
      simp [execOp, resolve, invoke, builtin, ha.eval hx, ha.eval hy, eL, Builtin.append_, run_underlying h.sl, hs, hti, hzv, Builtin.lenOf, hcap, hi0, hlim, hof, hv', choose, Sem.run, Question.forced, newRow, newObj, i3, hz, nc, adr_some]
    rw [this]
    refine hKK _ _ (k _ _ (hK w.heap.size nc hS.fresh hnc.1 hnc.2) _ _ (ha.put d _) ?_)
    have := (hS.drew.alloc (old ++ vs ++ zrep (nc - (n + m)) z) e hty).publish (n := V.length) (e := ⟨w.heap.size, e, old ++ vs ++ zrep (nc - (n + m)) z⟩) (by rw [nthL_eq]; simp) hty
    have hd : dropE (V ++ [⟨w.heap.size, e, old ++ vs ++ zrep (nc - (n + m)) z⟩]) V.length = V := by
      have : ∀ (V : Hp) (x : Ent), dropE (V ++ [x]) V.length = V := by
        intro V x
        induction V with
        | nil => rfl
        | cons y V ih => simp [dropE, ih]
      exact this _ _
    have this2 : St w0 S0 (S.set w.heap.size (bw e (old ++ vs ++ zrep (nc - (n + m)) z))) (dropE (V ++ [⟨w.heap.size, e, old ++ vs ++ zrep (nc - (n + m)) z⟩]) V.length) (w.drew.alloc (.cells (old ++ vs ++ zrep (nc - (n + m)) z).toArray e)) := this
    rw [hd] at this2
    exact this2
end
end Go.Pt
