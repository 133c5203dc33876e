/- The engine, part H: bytes as strings, copies, clearing. No program in sight. -/
import Derived.Test.YtpilffakhkagjaaDoorPtG
namespace Go.Pt
open Go Go.RowKit
class BytesT (P : Program) (t : TypeId) : Prop where
  run : ∃ e, P.underlying t = some (.slice e) ∧ P.underlying e = some (.int .u8)
class StrT (P : Program) (t : TypeId) : Prop where
  run : P.underlying t = some .string
/-- The string of a slice's bytes. -/
def bs (S : Mem) (s : Sl) (K : ByteArray → Prop) : Prop := ∃ xs : List Int, ((s.p = none ∧ xs = []) ∨ ∃ b o, s.p = some (b, o) ∧ xs.length = s.n ∧ S.part b o s.n = some (xs.map (.int .u8))) ∧ lt (strOfNums xs) K
def bcond (s : Sl) (xs : List Int) : Cond := match s.p with
  | none => .tt
  | some (b, o) => .cells b o (xs.map (.int .u8))
section
variable {P : Program} {w0 : World} {S0 S : Mem} {V : Hp} {l : Fr}
theorem hc_bs {s : Sl} {xs : List Int} (h : (s.p = none ∧ xs = []) ∨ ∃ b o, s.p = some (b, o) ∧ xs.length = s.n ∧ S.part b o s.n = some (xs.map (.int .u8))) : HC w0 S0 S V (bcond s xs) := by
  obtain ⟨p, n, c⟩ := s
  rcases h with ⟨h1, h2⟩ | ⟨b, o, h1, h2, h3⟩ <;> simp only at h1 <;> subst h1 <;> simp only [bcond]
  · exact hc_tt
  · exact hc_SP h3
theorem y_bs {src dst : TypeId} {x : Operand} {s : Sl} {xs : List Int} [h1 : BytesT P src] [h2 : StrT P dst] (hx : ev l x = some (eL s)) (h : (s.p = none ∧ xs = []) ∨ ∃ b o, s.p = some (b, o) ∧ xs.length = s.n ∧ S.part b o s.n = some (xs.map (.int .u8))) :
    Yc P l (bcond s xs) (.convert src dst x) (.string (strOfNums xs)) := by
  unfold Yc
  intro a w ha hC d ty ps af g
  obtain ⟨e, hs, he⟩ := h1.run
  obtain ⟨p, n, c⟩ := s
  rcases h with ⟨h3, h4⟩ | ⟨b, o, h3, h4, h5⟩
  · simp only at h3; subst h3; subst h4
    have := run_convert_bytes_nil (P := P) w src e hs he n c dst h2.run
    simp only [execOp, ha.eval hx, eL, adr, Sem.run_bind, this]
    rfl
  · simp only at h3 h4; subst h3
    simp only [bcond] at hC
    have := run_convert_bytes_arg (P := P) w src e hs he b o n c xs h4 (fun i hi => by
      have := hC i (.int .u8 (xs.getD i 0)) (by simp [List.getElem?_eq_getElem (show i < xs.length by omega)])
      exact this) dst h2.run
    simp only [execOp, ha.eval hx, eL, adr, Sem.run_bind, this]
    rfl
end
/-- copy of one slice onto another. -/
def cpy (S : Mem) (size : Nat) (d s : Sl) (K : Int → Mem → Prop) : Prop :=
  sp S ⟨s.p, min s.n d.n, 0⟩ size fun vs => (d.p = none ∧ vs = [] ∧ K ((min s.n d.n : Nat) : Int) S) ∨ ∃ b o, d.p = some (b, o) ∧ S.room b o (min s.n d.n * size) ∧ K ((min s.n d.n : Nat) : Int) (S.put b o vs)
/-- A slice's elements are noughts. -/
def clr (S : Mem) (size : Nat) (z : List Value) (s : Sl) (K : Mem → Prop) : Prop :=
  (s.p = none ∨ s.n = 0) ∧ K S ∨ ∃ b o, s.p = some (b, o) ∧ S.room b o (s.n * size) ∧ K (S.put b o (zrep s.n z))
section
variable {P : Program} {w0 : World} {S0 : Mem} {opl : List Oper} {Q : Exit → Act → World → Prop} {rest : List Oper} {l : Fr} {S : Mem} {V : Hp}
variable {d : Option Tmp} {op : Op} {ty : TypeId} {ps : String} {af : Array Edge} {g : Option (Nat × Bool)}
theorem s_cpy {t e size bytes : Nat} {z : List Value} {x y : Operand} {sd ss : Sl} {K : Int → Mem → Prop} [h : ElemT P t e z size bytes] (hw : wantL opl l g = some true)
    (hx : ev l x = some (eL sd)) (hy : ev l y = some (eL ss)) (H : cpy S size sd ss K) (k : ∀ r S', K r S' → WL P w0 S0 opl Q rest (putn l d (.int .i64 r)) S' V) :
    WL P w0 S0 opl Q (⟨d, .call { callee := .builtin .copy, args := #[x, y], argTypes := #[t, t] }, ty, ps, af, g⟩ :: rest) l S V := by
  unfold WL at k ⊢
  intro a w ha hS
  refine wpList_step fun KK hKK => ?_
  rw [if_pos (wanted_of (o := ⟨d, .call { callee := .builtin .copy, args := #[x, y], argTypes := #[t, t] }, ty, ps, af, g⟩) hw ha)]
  unfold Oper.wp
  obtain ⟨i, v0, i1, i2, i3, i4, i5⟩ := h.info
  have hs : ∀ w, (sizeOf e).run P w = .ok size w := fun w => by simp [sizeOf, typeInfo, i1, i4]
  obtain ⟨vs, hvs, h1, hK⟩ := H
  obtain ⟨pd, nd, cd⟩ := sd
  obtain ⟨p2, n2, c2⟩ := ss
  simp only at hvs hK
  have hfc := (fc_sp (P := P) (w0 := w0) (S0 := S0) (S := S) (V := V) (s := ⟨p2, min n2 nd, 0⟩) (size := size) hvs).1 w hS
  have hfc2 : (Builtin.firstCells size (min n2 nd) (.slice (adr p2) n2 c2)).run P w = .ok vs.toArray w := by
    cases hp : p2 with
    | none => rw [hp] at hfc; simpa [Builtin.firstCells, eL, adr] using hfc
    | some q => rw [hp] at hfc; obtain ⟨u, v⟩ := q; simpa [Builtin.firstCells, eL, adr] using hfc
  rcases hK with ⟨hp, hv, hK⟩ | ⟨b, o, hp, hpart, hK⟩
  · subst hp; subst hv
    have : (execOp a.eval ⟨d, .call { callee := .builtin .copy, args := #[x, y], argTypes := #[t, t] }, ty, ps, af, g⟩).run P w = .ok (.value (.int .i64 ((min n2 nd : Nat) : Int))) w := by
      have hm : Nat.min n2 nd = min n2 nd := rfl
      simp only [eL] at hx hy
      simp [execOp, resolve, invoke, builtin, ha.eval hx, ha.eval hy, adr_none, Builtin.copy_, run_underlying h.sl, hs, Builtin.lenOf, hm, hfc2, goInt]
    rw [this]
    exact hKK _ _ (k _ _ hK _ _ (ha.put d _) hS)
  · subst hp
    obtain ⟨kb, hkb, hfr, hlp⟩ := hpart
    have hm := hS.mem b kb hkb
    rw [hfr] at hm
    have hlen : vs.length = min n2 nd * size := (fc_sp (P := P) (w0 := w0) (S0 := S0) (S := S) (V := V) (s := ⟨p2, min n2 nd, 0⟩) (size := size) hvs).2
    have hst := run_storeCells_at (P := P) b o kb.ty vs 0 kb.cs.toArray w hm (by simp; omega) (fun v hv => List.all_eq_true.1 h1 v hv)
    simp only [Nat.add_zero] at hst
    rw [← spl_eq kb.cs o vs (by omega)] at hst
    have : (execOp a.eval ⟨d, .call { callee := .builtin .copy, args := #[x, y], argTypes := #[t, t] }, ty, ps, af, g⟩).run P w = .ok (.value (.int .i64 ((min n2 nd : Nat) : Int))) (w.setRow b (spl kb.cs o vs).toArray) := by
      have hm : Nat.min n2 nd = min n2 nd := rfl
      simp only [eL] at hx hy
      simp [execOp, resolve, invoke, builtin, ha.eval hx, ha.eval hy, adr_some, Builtin.copy_, run_underlying h.sl, hs, Builtin.lenOf, hm, hfc2, goInt, hst]
    rw [this]
    exact hKK _ _ (k _ _ hK _ _ (ha.put d _) (hS.putS hkb _))
where adr_none : adr none = none := rfl
theorem s_clr {t e size bytes : Nat} {z : List Value} {x : Operand} {s : Sl} {K : Mem → Prop} [h : ElemT P t e z size bytes] (hw : wantL opl l g = some true)
    (hx : ev l x = some (eL s)) (hz : z.all (·.oneCell') = true) (H : clr S size z s K) (k : ∀ S', K S' → WL P w0 S0 opl Q rest (putn l d (.tuple #[])) S' V) :
    WL P w0 S0 opl Q (⟨d, .call { callee := .builtin .clear, args := #[x], argTypes := #[t] }, ty, ps, af, g⟩ :: rest) l S V := by
  unfold WL at k ⊢
  intro a w ha hS
  refine wpList_step fun KK hKK => ?_
  rw [if_pos (wanted_of (o := ⟨d, .call { callee := .builtin .clear, args := #[x], argTypes := #[t] }, ty, ps, af, g⟩) hw ha)]
  unfold Oper.wp
  obtain ⟨i, v0, i1, i2, i3, i4, i5⟩ := h.info
  have hzv : ∀ w, (zeroValue e).run P w = .ok v0 w := fun w => by simp [zeroValue, typeInfo, i1, i2]
  obtain ⟨p, n, c⟩ := s
  simp only [eL] at hx
  have triv : p = none ∨ n = 0 → (execOp a.eval ⟨d, .call { callee := .builtin .clear, args := #[x], argTypes := #[t] }, ty, ps, af, g⟩).run P w = .ok (.value (.tuple #[])) w := by
    intro hn
    rcases hn with hn | hn
    · subst hn
      simp [execOp, resolve, invoke, builtin, ha.eval hx, adr, Builtin.clear_, run_underlying h.sl]
    · subst hn
      cases p with
      | none => simp [execOp, resolve, invoke, builtin, ha.eval hx, adr, Builtin.clear_, run_underlying h.sl]
      | some q => obtain ⟨u, v⟩ := q; simp [execOp, resolve, invoke, builtin, ha.eval hx, adr, Builtin.clear_, run_underlying h.sl]
  rcases H with ⟨hn, hK⟩ | ⟨b, o, hp, hpart, hK⟩
  · rw [triv hn]
    exact hKK _ _ (k _ hK _ _ (ha.put d _) hS)
  · simp only at hp hpart hK
    subst hp
    obtain ⟨kb, hkb, hfr, hlp⟩ := hpart
    have hm := hS.mem b kb hkb
    rw [hfr] at hm
    by_cases hn : n = 0
    · rw [triv (.inr hn)]
      subst hn
      have : S.put b o (zrep 0 z) = S := by
        funext q
        unfold Mem.put
        by_cases hq : q = b
        · subst hq
          rw [if_pos rfl, hkb]
          simp only [Option.map_some, zrep]
          rw [spl_eq _ _ _ (by omega)]
          simp
        · rw [if_neg hq]
      rw [this] at hK
      exact hKK _ _ (k _ hK _ _ (ha.put d _) hS)
    · have hall : (zrep n z).all (·.oneCell') = true := by
        have : ∀ n, (zrep n z).all (·.oneCell') = true := fun n => by
          induction n with
          | zero => rfl
          | succ n ih => simp only [zrep, List.all_append, hz, ih, Bool.and_self]
        exact this n
      have hlen : (zrep n z).length = n * size := by rw [zrep_length, h.len]
      have hst := run_storeCells_at (P := P) b o kb.ty (zrep n z) 0 kb.cs.toArray w hm (by simp; omega) (fun v hv => List.all_eq_true.1 hall v hv)
      simp only [Nat.add_zero] at hst
      rw [← spl_eq kb.cs o (zrep n z) (by omega)] at hst
      have hzc := zeroCells_zrep z n (by rw [h.len]; exact h.pos)
      obtain ⟨m, rfl⟩ : ∃ m, n = m + 1 := ⟨n - 1, by omega⟩
      have : (execOp a.eval ⟨d, .call { callee := .builtin .clear, args := #[x], argTypes := #[t] }, ty, ps, af, g⟩).run P w = .ok (.value (.tuple #[])) (w.setRow b (spl kb.cs o (zrep (m + 1) z)).toArray) := by
        simp [execOp, resolve, invoke, builtin, ha.eval hx, adr, Builtin.clear_, run_underlying h.sl, hzv, i3, hzc, hst]
      rw [this]
      exact hKK _ _ (k _ hK _ _ (ha.put d _) (hS.putS hkb _))
end
section
variable {P : Program} {l : Fr} {c : Cond}
theorem y_ixS {t : TypeId} {x i : Operand} {s : ByteArray} {k : IntKind} {z : Int} {b : UInt8} [h : StrT P t] (hx : ev l x = some (.string s)) (hi : ev l i = some (.int k z)) (h0 : 0 ≤ z) (hb : s.data.toList[z.toNat]? = some b) :
    Yc P l c (.index t x i) (.int .u8 b.toNat) := by
  unfold Yc; intro a w ha _ d ty ps af g
  have hb' : s[z.toNat]? = some b := by
    have : s[z.toNat]? = s.data[z.toNat]? := rfl
    rw [this]; simpa using hb
  simp [execOp, ha.eval hx, ha.eval hi, Instr.index, asIntOf, run_underlying h.run, h0, hb']
theorem y_lenS {t : TypeId} {x : Operand} {s : ByteArray} [h : StrT P t] (hx : ev l x = some (.string s)) : Yc P l c (.call { callee := .builtin .len, args := #[x], argTypes := #[t] }) (.int .i64 s.size) := by
  unfold Yc; intro a w ha _ d ty ps af g
  simp [execOp, ha.eval hx, resolve, invoke, builtin, Builtin.len_, run_underlying h.run, goInt]
theorem y_addS {t t2 : TypeId} {x y : Operand} {a b : ByteArray} (hx : ev l x = some (.string a)) (hy : ev l y = some (.string b)) (hs : a.size + b.size ≤ 9223372036854775807) : Yc P l c (.binOp .add t x y t2) (.string (a ++ b)) := by
  unfold Yc; intro ac w ha _ d ty ps af g
  have : ¬ (IntKind.i64.max < ((a.size + b.size : Nat) : Int)) := by
    have : IntKind.i64.max = 9223372036854775807 := rfl
    omega
  have h2 : (a.size : Int) + b.size ≤ IntKind.i64.max := by omega
  simp [execOp, ha.eval hx, ha.eval hy, eqGuard, binOp, Op.stringOp, h2]
  omega
theorem y_slcS {t : TypeId} {x : Operand} {lo hi : Option Operand} {s : ByteArray} {a b : Int} [h : StrT P t] (hx : ev l x = some (.string s)) (hlo : evB l lo 0 = some a) (hhi : evB l hi s.size = some b)
    (h0 : 0 ≤ a) (h1 : a ≤ b) (h2 : b ≤ s.size) : Yc P l c (.slice t x lo hi none) (.string (s.extract a.toNat b.toNat)) := by
  unfold Yc; intro ac w ha _ d ty ps af g
  have hb0 : 0 ≤ b := by omega
  have hab : a ≤ (b.toNat : Int) := by omega
  rcases evB_run ha hlo with ⟨rfl, rfl⟩ | ⟨xl, kl, rfl, hl⟩ <;> rcases evB_run ha hhi with ⟨rfl, rfl⟩ | ⟨xh, kh, rfl, hh⟩
  · simp [execOp, ha.eval hx, Instr.sliceAt, Instr.slice, run_underlying h.run, Instr.sliceBounds]
  · simp [execOp, ha.eval hx, Instr.sliceAt, Instr.slice, run_underlying h.run, Instr.sliceBounds, hh, run_bound hb0 h2]
  · simp only [Int.toNat_natCast] at hab
    simp [execOp, ha.eval hx, Instr.sliceAt, Instr.slice, run_underlying h.run, Instr.sliceBounds, hl, run_bound h0 hab]
  · simp [execOp, ha.eval hx, Instr.sliceAt, Instr.slice, run_underlying h.run, Instr.sliceBounds, hl, hh, run_bound hb0 h2, run_bound h0 hab]
end
/-! strings ranged over; a slice of one's own as a string -/
section
variable {P : Program} {w0 w : World} {S0 S : Mem} {V : Hp}
theorem St.allocI (h : St w0 S0 S V w) (cs : List Value) : St w0 S0 S (V ++ [⟨w.heap.size, itT, cs⟩]) (w.alloc (.stringIter (itS cs) (itP cs))) := by
  refine ⟨h.os, h.tape, h.output, by have := h.size; simp; omega, fun k hk hn => ?_, fun b k hb => ?_, fun e he => ?_, ?_, h.own, h.keep⟩
  · rw [heap_alloc_old w _ (show k < w.heap.size by have := h.size; omega)]; exact h.frame k hk hn
  · rw [heap_alloc_old w _ (h.lt hb)]; exact h.mem b k hb
  · rcases List.mem_append.1 he with he | he
    · rw [heap_alloc_old w _ (h.ltV he)]; exact h.loc e he
    · obtain rfl : e = _ := by simpa using he
      exact ⟨by rw [Ent.obj_it]; exact heap_alloc_new w _, h.fresh, h.size⟩
  · refine List.pairwise_append.2 ⟨h.nodup, by simp, fun x hx y hy => ?_⟩
    obtain rfl : y = _ := by simpa using hy
    have := h.ltV hx
    simp; omega
theorem heap_set_ne (w : World) (g : Nat) (o : Obj) (k : Nat) (h : k ≠ g) : ({ w with heap := w.heap.setIfInBounds g o } : World).heap[k]? = w.heap[k]? := by
  simp only [Array.getElem?_setIfInBounds]; rw [if_neg (by omega)]
theorem St.setI (h : St w0 S0 S V w) {n b : Nat} {cs : List Value} (hn : nthL V n = some ⟨b, itT, cs⟩) (cs' : List Value) : St w0 S0 S (setE V n cs') { w with heap := w.heap.setIfInBounds b (.stringIter (itS cs') (itP cs')) } := by
  have he := mem_of_nthL hn
  obtain ⟨h1, h2, h3⟩ := h.loc _ he
  have hlt := h.ltV he
  refine ⟨h.os, h.tape, h.output, by simpa using h.size, fun k hk hnot => ?_, fun b' k hb => ?_, fun x hx => ?_, ?_, h.own, h.keep⟩
  · rw [heap_set_ne _ _ _ _ (by simp only at h3; omega)]; exact h.frame k hk hnot
  · rw [heap_set_ne _ _ _ _ (fun hbe => by rw [hbe] at hb; simp only at h2; rw [h2] at hb; cases hb)]; exact h.mem b' k hb
  · rcases setE_mem hn x hx with rfl | ⟨m, hm, hx'⟩
    · refine ⟨?_, h2, h3⟩
      rw [Ent.obj_it]
      simp only at hlt
      simp [hlt]
    · rw [heap_set_ne _ _ _ _ (ne_of_places h.nodup hn hx' hm)]; exact h.loc x (mem_of_nthL hx')
  · rw [nodup_keys, setE_keys, ← nodup_keys]; exact h.nodup
end
section
variable {P : Program} {w0 : World} {S0 : Mem} {opl : List Oper} {Q : Exit → Act → World → Prop} {rest : List Oper} {l : Fr} {S : Mem} {V : Hp}
variable {d : Option Tmp} {op : Op} {ty : TypeId} {ps : String} {af : Array Edge} {g : Option (Nat × Bool)}
theorem s_range {t : TypeId} {x : Operand} {s : ByteArray} [h : StrT P t] (hw : wantL opl l g = some true) (hx : ev l x = some (.string s))
    (k : ∀ b, WL P w0 S0 opl Q rest (putn l d (.pointer (some ⟨b, 0, none⟩))) S (V ++ [⟨b, itT, [.string s, .int .i64 0]⟩])) : WL P w0 S0 opl Q (⟨d, .range t x, ty, ps, af, g⟩ :: rest) l S V :=
  fun a w ha hS => wpList_step fun K hK => by
    rw [if_pos (wanted_of (o := ⟨d, .range t x, ty, ps, af, g⟩) hw ha)]
    unfold Oper.wp
    have : (execOp a.eval ⟨d, .range t x, ty, ps, af, g⟩).run P w = .ok (.value (.pointer (some ⟨w.heap.size, 0, none⟩))) (w.alloc (.stringIter s 0)) := by
      simp [execOp, ha.eval hx, Instr.range, run_underlying h.run, newObj, Sem.run]
    rw [this]
    exact hK _ _ (k w.heap.size _ _ (ha.put d _) (hS.allocI [.string s, .int .i64 0]))
theorem it_read {it : List Value} {s : ByteArray} {p : Int} (h0 : nthL it 0 = some (.string s)) (h1 : nthL it 1 = some (.int .i64 p)) : itS it = s ∧ itP it = p.toNat := by
  match it, h0, h1 with
  | .string _ :: .int _ _ :: _, h0, h1 => simp only [nthL, Option.some.injEq, Value.string.injEq, Value.int.injEq] at h0 h1; exact ⟨h0, by simp [itP, h1.2]⟩
theorem s_nextE {x : Operand} {b : Nat} {it : List Value} {s : ByteArray} {p : Int} (n : Nat) (hw : wantL opl l g = some true) (hx : ev l x = some (.pointer (some ⟨b, 0, none⟩))) (hn : nthL V n = some ⟨b, itT, it⟩)
    (h0 : nthL it 0 = some (.string s)) (h1 : nthL it 1 = some (.int .i64 p)) (hlt : ¬ p.toNat < s.size)
    (k : WL P w0 S0 opl Q rest (putn l d (.tuple #[.bool false])) S V) : WL P w0 S0 opl Q (⟨d, .next x true, ty, ps, af, g⟩ :: rest) l S V :=
  fun a w ha hS => wpList_step fun K hK => by
    rw [if_pos (wanted_of (o := ⟨d, .next x true, ty, ps, af, g⟩) hw ha)]
    unfold Oper.wp
    obtain ⟨e1, e2⟩ := it_read h0 h1
    have hl := (hS.loc _ (mem_of_nthL hn)).1
    rw [Ent.obj_it, e1, e2] at hl
    simp only at hl
    have : (execOp a.eval ⟨d, .next x true, ty, ps, af, g⟩).run P w = .ok (.value (.tuple #[.bool false])) w := by
      simp [execOp, ha.eval hx, Instr.next, getObj, Sem.run, hl, hlt]
    rw [this]
    exact hK _ _ (k _ _ (ha.put d _) hS)
theorem s_nextT {x : Operand} {b : Nat} {it : List Value} {s : ByteArray} {p : Int} (n : Nat) (hw : wantL opl l g = some true) (hx : ev l x = some (.pointer (some ⟨b, 0, none⟩))) (hn : nthL V n = some ⟨b, itT, it⟩)
    (h0 : nthL it 0 = some (.string s)) (h1 : nthL it 1 = some (.int .i64 p)) (hlt : p.toNat < s.size)
    (k : WL P w0 S0 opl Q rest (putn l d (.tuple #[.bool true, .int .i64 (p.toNat : Int), .int .i32 ((Utf8.decode s p.toNat).1 : Int)])) S (setE V n [.string s, .int .i64 ((p.toNat + (Utf8.decode s p.toNat).2 : Nat) : Int)])) : WL P w0 S0 opl Q (⟨d, .next x true, ty, ps, af, g⟩ :: rest) l S V :=
  fun a w ha hS => wpList_step fun K hK => by
    rw [if_pos (wanted_of (o := ⟨d, .next x true, ty, ps, af, g⟩) hw ha)]
    unfold Oper.wp
    obtain ⟨e1, e2⟩ := it_read h0 h1
    have hl := (hS.loc _ (mem_of_nthL hn)).1
    rw [Ent.obj_it, e1, e2] at hl
    simp only at hl
    have : (execOp a.eval ⟨d, .next x true, ty, ps, af, g⟩).run P w = .ok (.value (.tuple #[.bool true, .int .i64 (p.toNat : Int), .int .i32 ((Utf8.decode s p.toNat).1 : Int)])) { w with heap := w.heap.setIfInBounds b (.stringIter s (p.toNat + (Utf8.decode s p.toNat).2)) } := by
      simp [execOp, ha.eval hx, Instr.next, getObj, setObj, Sem.run, hl, hlt, goInt]
    rw [this]
    have hI := hS.setI hn [.string s, .int .i64 ((p.toNat + (Utf8.decode s p.toNat).2 : Nat) : Int)]
    simp only [itS, itP, Int.toNat_natCast] at hI
    exact hK _ _ (k _ _ (ha.put d _) hI)
theorem y_bsV {src dst : TypeId} {x : Operand} {b o n c : Nat} {xs : List Int} [h1 : BytesT P src] [h2 : StrT P dst] (hx : ev l x = some (.slice (some ⟨b, o, none⟩) n c)) (hl : xs.length = n) :
    Yc P l (.cells b o (xs.map (.int .u8))) (.convert src dst x) (.string (strOfNums xs)) := by
  intro a w ha hC d ty ps af g
  obtain ⟨e, hs, he⟩ := h1.run
  have := run_convert_bytes_arg (P := P) w src e hs he b o n c xs hl (fun i hi => by
    have := hC i (.int .u8 (xs.getD i 0)) (by simp [List.getElem?_eq_getElem (show i < xs.length by omega)])
    exact this) dst h2.run
  simp only [execOp, ha.eval hx, Sem.run_bind, this]
  rfl
end
/-! an interface value against nil -/
class IfaceT (P : Program) (t : TypeId) : Prop where
  run : ∃ ms, P.underlying t = some (.interface ms)
/-- Is an interface value nil? -/
def ni (v : Value) (K : Bool → Prop) : Prop := ∃ b, ((v = .nilIface ∧ b = true) ∨ ((∃ t u, v = .iface t u) ∧ b = false)) ∧ K b
theorem run_inil {P : Program} {t : TypeId} [h : IfaceT P t] {v : Value} {b : Bool} (hv : (v = .nilIface ∧ b = true) ∨ ((∃ t u, v = .iface t u) ∧ b = false)) (w : World) : (Op.equal t v .nilIface).run P w = .ok b w := by
  obtain ⟨ms, hu⟩ := h.run
  have e : Op.equal t v .nilIface = Op.equalIn (9999 + 1) t v .nilIface := rfl
  rw [e, Op.equalIn]
  rcases hv with ⟨rfl, rfl⟩ | ⟨⟨tt, u, rfl⟩, rfl⟩ <;> simp [run_underlying hu]
section
variable {P : Program} {l : Fr} {c : Cond}
theorem y_inilE {t t2 : TypeId} {x : Operand} {v : Value} {b : Bool} [h : IfaceT P t] (hx : ev l x = some v) (hv : (v = .nilIface ∧ b = true) ∨ ((∃ t u, v = .iface t u) ∧ b = false)) : Yc P l c (.binOp .eql t x (.const .nilIface) t2) (.bool b) := fun a w ha _ d ty ps af g => by
  have hr := run_inil (P := P) (t := t) hv w
  have e2 : a.eval (.const .nilIface) = .nilIface := rfl
  rcases hv with ⟨rfl, rfl⟩ | ⟨⟨tt, u, rfl⟩, rfl⟩ <;> simp [execOp, ha.eval hx, e2, eqGuard, binOp, hr]
theorem y_inilN {t t2 : TypeId} {x : Operand} {v : Value} {b : Bool} [h : IfaceT P t] (hx : ev l x = some v) (hv : (v = .nilIface ∧ b = true) ∨ ((∃ t u, v = .iface t u) ∧ b = false)) : Yc P l c (.binOp .neq t x (.const .nilIface) t2) (.bool (!b)) := fun a w ha _ d ty ps af g => by
  have hr := run_inil (P := P) (t := t) hv w
  have e2 : a.eval (.const .nilIface) = .nilIface := rfl
  rcases hv with ⟨rfl, rfl⟩ | ⟨⟨tt, u, rfl⟩, rfl⟩ <;> simp [execOp, ha.eval hx, e2, eqGuard, binOp, hr]
end
end Go.Pt
