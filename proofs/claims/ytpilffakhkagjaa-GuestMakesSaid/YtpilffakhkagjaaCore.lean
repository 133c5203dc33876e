/- The engine: frames as lists with holes, memory as a list of known blocks; what a goal 'Code.wp' comes to over these. No program in sight. -/
import Derived.WalkKit
import Derived.Deep.RegionHeld
import Derived.Deep.AppendLies
import Derived.KernelRfl
namespace Go.Hc
open Go Go.RowKit

/-! ### Lists read and written by place -/
def nthL {α : Type} : List α → Nat → Option α
  | [], _ => none
  | v :: _, 0 => some v
  | _ :: l, n + 1 => nthL l n
def setL {α : Type} : List α → Nat → α → List α
  | [], _, _ => []
  | _ :: l, 0, v => v :: l
  | x :: l, n + 1, v => x :: setL l n v
theorem nthL_eq {α : Type} : ∀ (l : List α) (n : Nat), nthL l n = l[n]?
  | [], _ => by simp [nthL]
  | _ :: _, 0 => by simp [nthL]
  | _ :: l, n + 1 => by simp [nthL, nthL_eq l n]
theorem setL_eq {α : Type} : ∀ (l : List α) (n : Nat) (v : α), setL l n v = l.set n v
  | [], _, _ => rfl
  | _ :: _, 0, _ => rfl
  | x :: l, n + 1, v => by simp [setL, setL_eq l n v]
theorem mem_of_nthL {α : Type} {l : List α} {n : Nat} {v : α} (h : nthL l n = some v) : v ∈ l := by
  rw [nthL_eq] at h; exact List.mem_of_getElem? h

/-! ### Frames -/
/-- What is known of a frame: how many slots; slots and their values, the newest first. -/
structure Fr where
  n : Nat
  kv : List (Nat × Value)
def look : List (Nat × Value) → Nat → Option Value
  | [], _ => none
  | (d, v) :: r, i => match Nat.beq d i with
    | true => some v
    | false => look r i
def nth (l : Fr) (i : Nat) : Option Value := match Nat.blt i l.n with
  | true => look l.kv i
  | false => none
def setn (l : Fr) (d : Nat) (v : Value) : Fr := ⟨l.n, (d, v) :: l.kv⟩
def putn (l : Fr) : Option Tmp → Value → Fr
  | some d, v => setn l d v
  | none, _ => l
theorem look_cons (d : Nat) (v : Value) (r : List (Nat × Value)) (i : Nat) : look ((d, v) :: r) i = if d = i then some v else look r i := by
  simp only [look]
  by_cases h : d = i
  · subst h; simp
  · have : Nat.beq d i = false := by rw [Bool.eq_false_iff]; intro hb; exact h (Nat.eq_of_beq_eq_true hb)
    simp [this, h]
theorem nth_eq (l : Fr) (i : Nat) : nth l i = if i < l.n then look l.kv i else none := by
  unfold nth
  by_cases h : i < l.n
  · have : Nat.blt i l.n = true := by simpa [Nat.blt_eq] using h
    simp [this, h]
  · have : Nat.blt i l.n = false := by rw [Bool.eq_false_iff]; intro hb; exact h (by simpa [Nat.blt_eq] using hb)
    simp [this, h]

structure Ag (l : Fr) (a : Act) : Prop where
  defers : a.defers = []
  size : a.tmps.size = l.n
  slots : ∀ i v, nth l i = some v → a.tmps[i]? = some v

def ev (l : Fr) : Operand → Option Value
  | .tmp t => nth l t
  | .const v => some v
  | .global g => some (.pointer (some ⟨g, 0, none⟩))
  | .func f => some (.func (.func f) #[] #[])
theorem Ag.eval {l : Fr} {a : Act} {x : Operand} {v : Value} (h : Ag l a) (hx : ev l x = some v) : a.eval x = v := by
  cases x with
  | tmp t => simp only [ev] at hx; simp [Act.eval, h.slots t v hx]
  | const u => simpa [ev, Act.eval] using hx
  | global g => simpa [ev, Act.eval] using hx
  | func f => simpa [ev, Act.eval] using hx
def evs (l : Fr) : List Operand → Option (List Value)
  | [] => some []
  | x :: xs => match ev l x, evs l xs with
    | some v, some vs => some (v :: vs)
    | _, _ => none
theorem Ag.evals {l : Fr} {a : Act} (h : Ag l a) : ∀ {xs : List Operand} {vs : List Value}, evs l xs = some vs → xs.map a.eval = vs
  | [], vs, hx => by simp [evs] at hx; simp [← hx]
  | x :: xs, vs, hx => by
    simp only [evs] at hx
    split at hx
    · rename_i v us h1 h2
      cases hx
      simp [h.eval h1, h.evals h2]
    · cases hx
theorem Ag.put {l : Fr} {a : Act} (h : Ag l a) (d : Option Tmp) (v : Value) : Ag (putn l d v) (a.put d v) := by
  cases d with
  | none => exact h
  | some d =>
    refine ⟨h.defers, by simp [Act.put, putn, setn, h.size], fun i u hu => ?_⟩
    rw [nth_eq] at hu
    simp only [putn, setn, look_cons] at hu
    simp only [Act.put, Array.getElem?_setIfInBounds]
    split at hu
    · rename_i hlt
      split at hu
      · rename_i hd
        subst hd
        cases hu
        simp [h.size, hlt]
      · rename_i hd
        rw [if_neg hd]
        exact h.slots i u (by rw [nth_eq, if_pos hlt]; exact hu)
    · cases hu

/-! ### Memory: known blocks -/
structure Ent where
  b : Nat
  wr : Bool
  t : TypeId
  cs : List Value
abbrev Hp := List Ent

structure St (w0 : World) (L0 L : Hp) (w : World) : Prop where
  os : w.os = w0.os
  tape : w.tape = w0.tape
  output : w.output = w0.output
  size : w0.heap.size ≤ w.heap.size
  frame : ∀ k, k < w0.heap.size → (∀ e ∈ L0, e.wr = true → e.b ≠ k) → w.heap[k]? = w0.heap[k]?
  facts : ∀ e ∈ L, w.heap[e.b]? = some (.cells e.cs.toArray e.t (0, 0))
  nodup : L.Pairwise (fun x y => x.b ≠ y.b)
  own : ∀ e ∈ L, e.wr = true → w0.heap.size ≤ e.b ∨ ∃ e0 ∈ L0, e0.wr = true ∧ e0.b = e.b

section
variable {w0 w : World} {L0 L : Hp}
theorem St.lt (h : St w0 L0 L w) {e : Ent} (he : e ∈ L) : e.b < w.heap.size := (Array.getElem?_eq_some_iff.1 (h.facts e he)).1
theorem St.drew (h : St w0 L0 L w) : St w0 L0 L w.drew := ⟨h.os, h.tape, h.output, h.size, h.frame, h.facts, h.nodup, h.own⟩
theorem St.drawn (h : St w0 L0 L w) : St w0 L0 L { w with drawn := w.drawn + 1 } := h.drew
theorem St.cell (h : St w0 L0 L w) {e : Ent} (he : e ∈ L) (o : Nat) : w.cell? ⟨e.b, o, none⟩ = e.cs[o]? := by
  rw [cell_of_row w e.b o e.cs.toArray e.t (0, 0) (h.facts e he)]; simp
theorem St.free (h : St w0 L0 L w) {e : Ent} (he : e ∈ L) (o : Nat) : w.frozen? ⟨e.b, o, none⟩ = false :=
  frozen_of_row w e.b o _ e.t (h.facts e he)

theorem St.sub (h : St w0 L0 L w) {L' : Hp} (hs : L'.Sublist L) : St w0 L0 L' w :=
  ⟨h.os, h.tape, h.output, h.size, h.frame, fun e he => h.facts e (hs.subset he), h.nodup.sublist hs, fun e he => h.own e (hs.subset he)⟩
theorem St.perm (h : St w0 L0 L w) {L' : Hp} (hs : L.Perm L') : St w0 L0 L' w :=
  ⟨h.os, h.tape, h.output, h.size, h.frame, fun e he => h.facts e (hs.mem_iff.2 he), (hs.pairwise_iff (fun h => Ne.symm h)).1 h.nodup, fun e he => h.own e (hs.mem_iff.2 he)⟩

theorem St.alloc (h : St w0 L0 L w) (cs : List Value) (t : TypeId) : St w0 L0 (L ++ [⟨w.heap.size, true, t, cs⟩]) (w.alloc (.cells cs.toArray t)) := by
  refine ⟨h.os, h.tape, h.output, by have := h.size; simp; omega, fun k hk hn => ?_, fun e he => ?_, ?_, fun e he hw => ?_⟩
  · rw [heap_alloc_old w _ (show k < w.heap.size by have := h.size; omega)]; exact h.frame k hk hn
  · rcases List.mem_append.1 he with he | he
    · rw [heap_alloc_old w _ (h.lt he)]; exact h.facts e he
    · obtain rfl : e = _ := by simpa using he
      exact heap_alloc_new w _
  · refine List.pairwise_append.2 ⟨h.nodup, by simp, fun x hx y hy => ?_⟩
    obtain rfl : y = _ := by simpa using hy
    have := h.lt hx
    simp; omega
  · rcases List.mem_append.1 he with he | he
    · exact h.own e he hw
    · obtain rfl : e = _ := by simpa using he
      exact .inl h.size
end

/-- An entry of the list, by place, with other cells. -/
def setE : Hp → Nat → List Value → Hp
  | [], _, _ => []
  | e :: L, 0, cs => ⟨e.b, e.wr, e.t, cs⟩ :: L
  | e :: L, n + 1, cs => e :: setE L n cs
theorem setE_mem {L : Hp} {n : Nat} {e : Ent} {cs : List Value} (h : nthL L n = some e) : ∀ x ∈ setE L n cs, (x = ⟨e.b, e.wr, e.t, cs⟩) ∨ (∃ m, m ≠ n ∧ nthL L m = some x) := by
  induction L generalizing n with
  | nil => intro x hx; cases n <;> simp [setE] at hx
  | cons y L ih =>
    intro x hx
    cases n with
    | zero =>
      simp only [nthL, Option.some.injEq] at h; subst h
      rcases List.mem_cons.1 hx with rfl | hx
      · exact .inl rfl
      · obtain ⟨m, hm⟩ := List.getElem?_of_mem hx
        exact .inr ⟨m + 1, by omega, by simpa [nthL, nthL_eq] using hm⟩
    | succ n =>
      rcases List.mem_cons.1 hx with rfl | hx
      · exact .inr ⟨0, by omega, rfl⟩
      · rcases ih h x hx with h1 | ⟨m, hm, h2⟩
        · exact .inl h1
        · exact .inr ⟨m + 1, by omega, h2⟩
theorem setE_keys : ∀ (L : Hp) (n : Nat) (cs : List Value), (setE L n cs).map (·.b) = L.map (·.b)
  | [], n, cs => by cases n <;> rfl
  | e :: L, 0, cs => rfl
  | e :: L, n + 1, cs => by simp [setE, setE_keys L n cs]
theorem nodup_keys {L : Hp} : L.Pairwise (fun x y => x.b ≠ y.b) ↔ (L.map (·.b)).Nodup := by
  rw [List.Nodup, List.pairwise_map]
theorem ne_of_places {L : Hp} (h : L.Pairwise (fun x y => x.b ≠ y.b)) {n m : Nat} {x y : Ent} (hx : nthL L n = some x) (hy : nthL L m = some y) (hnm : m ≠ n) : y.b ≠ x.b := by
  rw [nthL_eq] at hx hy
  obtain ⟨hn, rfl⟩ := List.getElem?_eq_some_iff.1 hx
  obtain ⟨hm, rfl⟩ := List.getElem?_eq_some_iff.1 hy
  have hp := List.pairwise_iff_getElem.1 h
  rcases Nat.lt_or_gt_of_ne hnm with hlt | hlt
  · exact hp m n hm hn hlt
  · exact (hp n m hn hm hlt).symm

theorem heap_setRow (w : World) (g : Nat) (cs : Array Value) (k : Nat) (h : k ≠ g) : (w.setRow g cs).heap[k]? = w.heap[k]? := by
  simp only [World.setRow, Array.getElem?_modify]; rw [if_neg (by omega)]
theorem St.setRow {w0 w : World} {L0 L : Hp} (h : St w0 L0 L w) {n : Nat} {e : Ent} (hn : nthL L n = some e) (hw : e.wr = true) (cs : List Value) :
    St w0 L0 (setE L n cs) (w.setRow e.b cs.toArray) := by
  have he := mem_of_nthL hn
  refine ⟨h.os, h.tape, h.output, by simpa using h.size, fun k hk hnot => ?_, fun x hx => ?_, ?_, fun x hx hxw => ?_⟩
  · have : k ≠ e.b := by
      rcases h.own e he hw with h1 | ⟨e0, h1, h2, h3⟩
      · omega
      · exact fun hk' => hnot e0 h1 h2 (by omega)
    rw [heap_setRow _ _ _ _ this]; exact h.frame k hk hnot
  · rcases setE_mem hn x hx with rfl | ⟨m, hm, hx'⟩
    · exact setRow_heap w e.b _ _ e.t _ (h.facts e he)
    · rw [heap_setRow _ _ _ _ (ne_of_places h.nodup hn hx' hm)]; exact h.facts x (mem_of_nthL hx')
  · rw [nodup_keys, setE_keys, ← nodup_keys]; exact h.nodup
  · rcases setE_mem hn x hx with rfl | ⟨m, hm, hx'⟩
    · exact h.own e he hw
    · exact h.own x (mem_of_nthL hx') hxw


/-! ### Types -/
class ScalarT (P : Program) (t : TypeId) : Prop where
  run : ∀ w, (isAgg t).run P w = .ok false w
class AggT (P : Program) (t : TypeId) (n : outParam Nat) : Prop where
  run : ∀ w, (isAgg t).run P w = .ok true w
class SizeT (P : Program) (t : TypeId) (n : outParam Nat) : Prop where
  run : ∀ w, (sizeOf t).run P w = .ok n w
class ZeroT (P : Program) (t : TypeId) (z : outParam (List Value)) : Prop where
  run : ∀ w, ∃ v : Value, v.cells = z.toArray ∧ (zeroValue t).run P w = .ok v w
class FieldT (P : Program) (s : TypeId) (i : Nat) (off : outParam Nat) (ft : outParam TypeId) : Prop where
  run : ∃ fs : Array Field, P.underlying s = some (.struct fs) ∧ ∃ f, fs[i]? = some f ∧ f.offset = off ∧ f.type = ft
  size : ∃ k, k ≠ 0 ∧ ∀ w, (sizeOf ft).run P w = .ok k w
class ArrayT (P : Program) (t : TypeId) (n : outParam Nat) (e : outParam TypeId) (size : outParam Nat) : Prop where
  run : P.underlying t = some (.array n e)
  size : ∀ w, (sizeOf e).run P w = .ok size w
class SliceT (P : Program) (t : TypeId) (e : outParam TypeId) (size : outParam Nat) : Prop where
  run : P.underlying t = some (.slice e)
  size : ∀ w, (sizeOf e).run P w = .ok size w
class CallT (P : Program) (f : FuncId) : Prop where
  run : ∀ args w, (callFunc f args).run P w = .ok (.enter f args) w

def valL : List Value → Value := fun cs => .agg cs.toArray

/-! ### What an operation yields -/
def Yv (P : Program) (w0 : World) (L0 : Hp) (l : Fr) (L : Hp) (op : Op) (v : Value) : Prop :=
  ∀ a w, Ag l a → St w0 L0 L w → ∀ d ty ps af g, (execOp a.eval ⟨d, op, ty, ps, af, g⟩).run P w = .ok (.value v) w

section yields
variable {P : Program} {w0 : World} {L0 : Hp} {l : Fr} {L : Hp}
theorem y_move {x : Operand} {v : Value} (hx : ev l x = some v) : Yv P w0 L0 l L (.move x) v := fun a w ha _ d ty ps af g => by
  simp [execOp, ha.eval hx]
theorem y_assign {x : Operand} {v : Value} (hx : ev l x = some v) : Yv P w0 L0 l L (.assign x) v := fun a w ha _ d ty ps af g => by
  simp [execOp, ha.eval hx]
theorem y_pick {c x y : Operand} {b : Bool} {v : Value} (hc : ev l c = some (.bool b)) (hx : ev l (if b then x else y) = some v) : Yv P w0 L0 l L (.pick c x y) v := fun a w ha _ d ty ps af g => by
  have h := ha.eval hx
  cases b <;> simp_all [execOp, ha.eval hc, asBool]
theorem y_extract {x : Operand} {i : Nat} {vs : List Value} {v : Value} (hx : ev l x = some (.tuple vs.toArray)) (hv : nthL vs i = some v) : Yv P w0 L0 l L (.extract x i) v := fun a w ha _ d ty ps af g => by
  rw [nthL_eq] at hv
  simp [execOp, ha.eval hx, Instr.extract, hv]
theorem y_fieldAddr {s : TypeId} {x : Operand} {i off ft b o : Nat} [h : FieldT P s i off ft] (hx : ev l x = some (.pointer (some ⟨b, o, none⟩))) :
    Yv P w0 L0 l L (.fieldAddr s x i) (.pointer (some ⟨b, o + off, none⟩)) := fun a w ha _ d ty ps af g => by
  obtain ⟨fs, hfs, f, hf, rfl, rfl⟩ := h.run
  obtain ⟨k, hk, hsz⟩ := h.size
  simp [execOp, ha.eval hx, Instr.fieldAt, run_underlying hfs, hf, Instr.sureAddr, fieldPlace, hsz, hk, Addr.add_lit]
theorem y_load {t : TypeId} {x : Operand} {b o : Nat} {v : Value} [ht : ScalarT P t] (hx : ev l x = some (.pointer (some ⟨b, o, none⟩)))
    (n : Nat) {wr : Bool} {et : TypeId} {cs : List Value} (hn : nthL L n = some ⟨b, wr, et, cs⟩) (hv : nthL cs o = some v) : Yv P w0 L0 l L (.load t x) v := fun a w ha hS d ty ps af g => by
  have hc := hS.cell (mem_of_nthL hn) o
  rw [nthL_eq] at hv
  simp only [hv] at hc
  simp [execOp, ha.eval hx, Instr.loadAt, Instr.sureAddr, loadVar, ht.run, hc]
theorem y_loadAgg {t : TypeId} {x : Operand} {b o k : Nat} [ht : AggT P t k] [hk : SizeT P t k] (hx : ev l x = some (.pointer (some ⟨b, o, none⟩)))
    (n : Nat) {wr : Bool} {et : TypeId} {cs : List Value} (hn : nthL L n = some ⟨b, wr, et, cs⟩) (hv : o + k ≤ cs.length) : Yv P w0 L0 l L (.load t x) (valL ((cs.drop o).take k)) := fun a w ha hS d ty ps af g => by
  have hlen : ((cs.drop o).take k).length = k := by simp; omega
  have hl : (loadCells ⟨b, o, none⟩ k).run P w = .ok ((cs.drop o).take k).toArray w := by
    have := run_loadCells_list (P := P) w ⟨b, o, none⟩ ((cs.drop o).take k) (fun j v hj => by
      rw [Addr.add_lit, hS.cell (mem_of_nthL hn)]
      simp only [List.getElem?_take] at hj
      split at hj
      · simpa using hj
      · cases hj)
    rwa [hlen] at this
  simp [execOp, ha.eval hx, Instr.loadAt, Instr.sureAddr, loadVar, ht.run, hk.run, hl, valL]

/-- Bounds of the kinds, for 'omega'. -/
def inK (k : IntKind) (x : Int) : Prop := match k with
  | .i8 => -128 ≤ x ∧ x ≤ 127 | .i16 => -32768 ≤ x ∧ x ≤ 32767 | .i32 => -2147483648 ≤ x ∧ x ≤ 2147483647 | .i64 => -9223372036854775808 ≤ x ∧ x ≤ 9223372036854775807
  | .u8 => 0 ≤ x ∧ x ≤ 255 | .u16 => 0 ≤ x ∧ x ≤ 65535 | .u32 => 0 ≤ x ∧ x ≤ 4294967295 | .u64 => 0 ≤ x ∧ x ≤ 18446744073709551615
theorem wrap_in {k : IntKind} {x : Int} (h : inK k x) : k.wrap x = x := by
  cases k <;> simp only [inK] at h <;> simp [IntKind.wrap, IntKind.bits, IntKind.signed] <;> omega

section ints
variable {t t2 : TypeId} {x y : Operand} {k : IntKind} {m n : Int}
theorem y_add (hx : ev l x = some (.int k m)) (hy : ev l y = some (.int k n)) : Yv P w0 L0 l L (.binOp .add t x y t2) (.int k (k.wrap (m + n))) := fun a w ha _ d ty ps af g => by
  simp [execOp, ha.eval hx, ha.eval hy, eqGuard, binOp, Op.intArith]
theorem y_sub (hx : ev l x = some (.int k m)) (hy : ev l y = some (.int k n)) : Yv P w0 L0 l L (.binOp .sub t x y t2) (.int k (k.wrap (m - n))) := fun a w ha _ d ty ps af g => by
  simp [execOp, ha.eval hx, ha.eval hy, eqGuard, binOp, Op.intArith]
theorem y_mul (hx : ev l x = some (.int k m)) (hy : ev l y = some (.int k n)) : Yv P w0 L0 l L (.binOp .mul t x y t2) (.int k (k.wrap (m * n))) := fun a w ha _ d ty ps af g => by
  simp [execOp, ha.eval hx, ha.eval hy, eqGuard, binOp, Op.intArith]
theorem y_addB (hx : ev l x = some (.int k m)) (hy : ev l y = some (.int k n)) (h : inK k (m + n)) : Yv P w0 L0 l L (.binOp .add t x y t2) (.int k (m + n)) := by
  have := y_add (P := P) (w0 := w0) (L0 := L0) (L := L) (t := t) (t2 := t2) hx hy; rwa [wrap_in h] at this
theorem y_subB (hx : ev l x = some (.int k m)) (hy : ev l y = some (.int k n)) (h : inK k (m - n)) : Yv P w0 L0 l L (.binOp .sub t x y t2) (.int k (m - n)) := by
  have := y_sub (P := P) (w0 := w0) (L0 := L0) (L := L) (t := t) (t2 := t2) hx hy; rwa [wrap_in h] at this
theorem y_mulB (hx : ev l x = some (.int k m)) (hy : ev l y = some (.int k n)) (h : inK k (m * n)) : Yv P w0 L0 l L (.binOp .mul t x y t2) (.int k (m * n)) := by
  have := y_mul (P := P) (w0 := w0) (L0 := L0) (L := L) (t := t) (t2 := t2) hx hy; rwa [wrap_in h] at this
theorem y_lss (hx : ev l x = some (.int k m)) (hy : ev l y = some (.int k n)) : Yv P w0 L0 l L (.binOp .lss t x y t2) (.bool (decide (m < n))) := fun a w ha _ d ty ps af g => by
  simp [execOp, ha.eval hx, ha.eval hy, eqGuard, binOp, Op.intCmp]
theorem y_leq (hx : ev l x = some (.int k m)) (hy : ev l y = some (.int k n)) : Yv P w0 L0 l L (.binOp .leq t x y t2) (.bool (decide (m ≤ n))) := fun a w ha _ d ty ps af g => by
  simp [execOp, ha.eval hx, ha.eval hy, eqGuard, binOp, Op.intCmp]
theorem y_gtr (hx : ev l x = some (.int k m)) (hy : ev l y = some (.int k n)) : Yv P w0 L0 l L (.binOp .gtr t x y t2) (.bool (decide (n < m))) := fun a w ha _ d ty ps af g => by
  simp [execOp, ha.eval hx, ha.eval hy, eqGuard, binOp, Op.intCmp]
theorem y_geq (hx : ev l x = some (.int k m)) (hy : ev l y = some (.int k n)) : Yv P w0 L0 l L (.binOp .geq t x y t2) (.bool (decide (n ≤ m))) := fun a w ha _ d ty ps af g => by
  simp [execOp, ha.eval hx, ha.eval hy, eqGuard, binOp, Op.intCmp]
theorem y_eql (hx : ev l x = some (.int k m)) (hy : ev l y = some (.int k n)) : Yv P w0 L0 l L (.binOp .eql t x y t2) (.bool (decide (m = n))) := fun a w ha _ d ty ps af g => by
  simp only [execOp, ha.eval hx, ha.eval hy, eqGuard, binOp, Op.intCmp]; simp; by_cases h : m = n <;> simp [h]
theorem y_neq (hx : ev l x = some (.int k m)) (hy : ev l y = some (.int k n)) : Yv P w0 L0 l L (.binOp .neq t x y t2) (.bool (decide (¬ m = n))) := fun a w ha _ d ty ps af g => by
  simp only [execOp, ha.eval hx, ha.eval hy, eqGuard, binOp, Op.intCmp]; simp [bne]; by_cases h : m = n <;> simp [h]
theorem y_not {b : Bool} (hx : ev l x = some (.bool b)) : Yv P w0 L0 l L (.unOp .not t x) (.bool !b) := fun a w ha _ d ty ps af g => by
  simp [execOp, ha.eval hx, Op.unary]
end ints

theorem y_nilCheck {x : Operand} {p : Addr} (hx : ev l x = some (.pointer (some p))) : Yv P w0 L0 l L (.nilCheck x) (.pointer (some p)) := fun a w ha _ d ty ps af g => by
  simp [execOp, ha.eval hx]
theorem y_indexArr {t : TypeId} {x i : Operand} {n e size b o : Nat} {k : IntKind} {z : Int} [h : ArrayT P t n e size] (hx : ev l x = some (.pointer (some ⟨b, o, none⟩)))
    (hi : ev l i = some (.int k z)) (h0 : 0 ≤ z) (h1 : z < n) : Yv P w0 L0 l L (.indexAddr t x i) (.pointer (some ⟨b, o + z.toNat * size, none⟩)) := fun a w ha _ d ty ps af g => by
  simp [execOp, ha.eval hx, ha.eval hi, Instr.indexAt, asIntOf, run_underlying h.run, Instr.sureAddr, h0, h1, h.size, Addr.add_lit]
theorem y_indexSl {t : TypeId} {x i : Operand} {e size b o len cap : Nat} {k : IntKind} {z : Int} [h : SliceT P t e size] (hx : ev l x = some (.slice (some ⟨b, o, none⟩) len cap))
    (hi : ev l i = some (.int k z)) (h0 : 0 ≤ z) (h1 : z < len) : Yv P w0 L0 l L (.indexAddr t x i) (.pointer (some ⟨b, o + z.toNat * size, none⟩)) := fun a w ha _ d ty ps af g => by
  simp [execOp, ha.eval hx, ha.eval hi, Instr.indexAt, asIntOf, run_underlying h.run, h0, h1, h.size, Addr.add_lit]
theorem y_lenSl {t e size : Nat} {x : Operand} {p : Option Addr} {len cap : Nat} [h : SliceT P t e size] (hx : ev l x = some (.slice p len cap)) :
    Yv P w0 L0 l L (.call { callee := .builtin .len, args := #[x], argTypes := #[t] }) (.int .i64 len) := fun a w ha _ d ty ps af g => by
  simp [execOp, ha.eval hx, resolve, invoke, builtin, Builtin.len_, run_underlying h.run, goInt]

/-! structs and arrays as values -/
def spl : List Value → Nat → List Value → List Value
  | cs, 0, vs => vs ++ cs.drop vs.length
  | [], _ + 1, _ => []
  | c :: cs, n + 1, vs => c :: spl cs n vs
theorem spl_eq : ∀ (cs : List Value) (o : Nat) (vs : List Value), o ≤ cs.length → spl cs o vs = cs.take o ++ vs ++ cs.drop (o + vs.length)
  | cs, 0, vs, _ => by simp [spl]
  | [], _ + 1, _, h => by simp at h
  | c :: cs, n + 1, vs, h => by simp [spl, spl_eq cs n vs (by simpa using h), Nat.add_right_comm]
def cellsL : Value → List Value
  | .agg cs => cs.toList
  | v => [v]
theorem cellsL_eq (v : Value) : v.cells = (cellsL v).toArray := by cases v <;> simp [Value.cells, cellsL]

/-- The cells of a struct's or array's literal: parts laid over noughts. -/
def fillS : (Nat → Option (Nat × Nat)) → List Value → List (Nat × Value) → Option (List Value)
  | _, cs, [] => some cs
  | pl, cs, (i, v) :: rest => match pl i with
    | none => none
    | some (off, size) => if ((cellsL v).length == size && Nat.ble (off + size) cs.length) = true then fillS pl (spl cs off (cellsL v)) rest else none
theorem foldl_spl (off : Nat) : ∀ (vs : List Value) (j : Nat) (cs : List Value), off + j + vs.length ≤ cs.length →
    ((vs.zipIdx j).foldl (fun (acc : Array Value) (x : Value × Nat) => acc.setIfInBounds (off + x.2) x.1) cs.toArray).toList = spl cs (off + j) vs
  | [], j, cs, h => by
    simp only [List.zipIdx_nil, List.foldl_nil]
    rw [spl_eq cs (off + j) [] (by simpa using h)]
    simp
  | v :: vs, j, cs, h => by
    simp only [List.zipIdx_cons, List.foldl_cons, List.setIfInBounds_toArray]
    have hl : off + (j + 1) + vs.length ≤ (cs.set (off + j) v).length := by simp at h ⊢; omega
    rw [foldl_spl off vs (j + 1) _ hl, spl_eq _ _ _ (by simp at h ⊢; omega), spl_eq _ _ _ (by simp at h; omega)]
    apply List.ext_getElem?
    intro k
    simp only [List.length_cons] at h
    simp only [List.getElem?_append, List.length_append, List.length_take, List.length_set, List.getElem?_take, List.getElem?_set, List.getElem?_drop, List.length_cons]
    rcases Nat.lt_trichotomy k (off + j) with hk | hk | hk
    · simp [show k < min (off + (j + 1)) cs.length + vs.length by omega, show k < min (off + (j + 1)) cs.length by omega, show k < off + (j + 1) by omega, show ¬ off + j = k by omega,
        show k < min (off + j) cs.length + (vs.length + 1) by omega, show k < min (off + j) cs.length by omega, hk]
    · subst hk
      simp [show off + j < min (off + (j + 1)) cs.length + vs.length by omega, show off + j < min (off + (j + 1)) cs.length by omega, show off + j < off + (j + 1) by omega, show off + j < cs.length by omega,
        show off + j < min (off + j) cs.length + (vs.length + 1) by omega, show ¬ off + j < min (off + j) cs.length by omega, show off + j - min (off + j) cs.length = 0 by omega]
    · by_cases h2 : k < off + j + 1 + vs.length
      · have e : k - min (off + j) cs.length = (k - min (off + (j + 1)) cs.length) + 1 := by omega
        simp [show k < min (off + (j + 1)) cs.length + vs.length by omega, show ¬ k < min (off + (j + 1)) cs.length by omega,
          show k < min (off + j) cs.length + (vs.length + 1) by omega, show ¬ k < min (off + j) cs.length by omega, e]
      · simp [show ¬ k < min (off + (j + 1)) cs.length + vs.length by omega, show ¬ k < min (off + j) cs.length + (vs.length + 1) by omega,
          show ¬ off + j = off + (j + 1) + vs.length + (k - (min (off + (j + 1)) cs.length + vs.length)) by omega]
        congr 1; omega
theorem fill_of_fillS (pl : Nat → Option (Nat × Nat)) : ∀ (ps : List (Nat × Value)) (cs out : List Value), fillS pl cs ps = some out → Instr.fill pl cs.toArray ps = some out.toArray
  | [], cs, out, h => by simp [fillS] at h; simp [Instr.fill, h]
  | (i, v) :: rest, cs, out, h => by
    simp only [fillS] at h
    cases hp : pl i with
    | none => simp [hp] at h
    | some q =>
      obtain ⟨off, size⟩ := q
      simp only [hp] at h
      split at h
      · rename_i hc
        simp only [Bool.and_eq_true, beq_iff_eq, Nat.ble_eq] at hc
        have ih := fill_of_fillS pl rest _ out h
        have hf := foldl_spl off (cellsL v) 0 cs (by omega)
        simp only [Nat.add_zero] at hf
        have hsz : v.cells.size = size := by rw [cellsL_eq]; simp [hc.1]
        simp only [Instr.fill, hp, hsz, List.size_toArray]
        rw [if_neg (by simp; omega)]
        rw [← ih]
        congr 1
        apply Array.toList_inj.1
        rw [← hf, cellsL_eq]
        simp [Array.zipIdx_toArray]
      · cases h

class StructT (P : Program) (t : TypeId) (pl : outParam (Nat → Option (Nat × Nat))) (z : outParam (List Value)) : Prop where
  run : ∀ w (parts : Array (Nat × Value)) (cs : Array Value), Instr.fill pl z.toArray parts.toList = some cs → (Instr.build t parts).run P w = .ok (.agg cs) w
theorem structT_mk {P : Program} {t : TypeId} {z : List Value} {fs : Array Field} {pl : Array (Nat × Nat)} [hz : ZeroT P t z] (hu : P.underlying t = some (.struct fs))
    (hp : ∀ w, (fs.mapM fun f => do pure (f.offset, ← sizeOf f.type) : Sem (Array (Nat × Nat))).run P w = .ok pl w) : StructT P t (fun i => pl[i]?) z where
  run w parts cs h := by
    obtain ⟨v, hv, hz⟩ := hz.run w
    have hp' := hp w
    simp only [Instr.build, Sem.run_bind, hz, Result.andThen_ok, run_underlying hu, hv] at hp' ⊢
    rw [hp']
    simp only [Result.andThen_ok, h, Sem.run_pure]
theorem arrayT_mk {P : Program} {t : TypeId} {z : List Value} {n e size : Nat} [hz : ZeroT P t z] (hu : P.underlying t = some (.array n e)) (hs : ∀ w, (sizeOf e).run P w = .ok size w) : StructT P t (fun i => some (i * size, size)) z where
  run w parts cs h := by
    obtain ⟨v, hv, hz⟩ := hz.run w
    simp only [Instr.build, Sem.run_bind, hz, Result.andThen_ok, run_underlying hu, hv, Sem.run_pure, hs, h]
def evp (l : Fr) : List (Nat × Operand) → Option (List (Nat × Value))
  | [] => some []
  | (i, x) :: xs => match ev l x, evp l xs with
    | some v, some vs => some ((i, v) :: vs)
    | _, _ => none
theorem Ag.evalp {l : Fr} {a : Act} (h : Ag l a) : ∀ {xs : List (Nat × Operand)} {vs : List (Nat × Value)}, evp l xs = some vs → xs.map (fun (i, x) => (i, a.eval x)) = vs
  | [], vs, hx => by simp [evp] at hx; simp [← hx]
  | (i, x) :: xs, vs, hx => by
    simp only [evp] at hx
    split at hx
    · rename_i v us h1 h2
      cases hx
      simp [h.eval h1, h.evalp h2]
    · cases hx
theorem y_build {t : TypeId} {ps : List (Nat × Operand)} {pl : Nat → Option (Nat × Nat)} {z cs : List Value} {vs : List (Nat × Value)} [h : StructT P t pl z] (hx : evp l ps = some vs) (hf : fillS pl z vs = some cs) :
    Yv P w0 L0 l L (.build t ps.toArray) (valL cs) := fun a w ha _ d ty p af g => by
  have he := ha.evalp hx
  have := fill_of_fillS _ _ _ _ hf
  have hm : (ps.toArray.map fun x => (x.1, a.eval x.2)) = vs.toArray := by rw [← he]; simp
  simp only [execOp, hm, Sem.run_bind, h.run w vs.toArray _ (by simpa using this)]
  rfl
theorem y_field {t : TypeId} {x : Operand} {i off ft : Nat} {cs : List Value} {v : Value} [h : FieldT P t i off ft] [hs : ScalarT P ft] (hx : ev l x = some (.agg cs.toArray)) (hv : nthL cs off = some v) :
    Yv P w0 L0 l L (.field t x i) v := fun a w ha _ d ty p af g => by
  obtain ⟨fs, hfs, f, hf, rfl, rfl⟩ := h.run
  rw [nthL_eq] at hv
  simp [execOp, ha.eval hx, Instr.field, run_underlying hfs, hf, asAgg, part, hs.run, hv]
end yields

/-! ### Lists of operations -/
def wantL (opl : List Oper) (l : Fr) : Option (Nat × Bool) → Option Bool
  | none => some true
  | some (j, b) => match nthL opl j with
    | none => none
    | some o => match o.dst with
      | none => none
      | some d => match nth l d with
        | some (.bool b') => some (b' == b)
        | some (.tuple _) => some false
        | _ => none
theorem wanted_of {opl : List Oper} {l : Fr} {o : Oper} {b : Bool} {a : Act} (h : wantL opl l o.guard = some b) (ha : Ag l a) : Region.wanted o (yielded opl.toArray a.tmps) = b := by
  unfold Region.wanted
  cases hg : o.guard with
  | none => rw [hg] at h; simpa [wantL] using h
  | some q =>
    obtain ⟨j, want⟩ := q
    rw [hg] at h
    simp only [wantL, nthL_eq] at h
    simp only [yielded]
    cases hj : opl[j]? with
    | none => simp [hj] at h
    | some oj =>
      simp only [hj] at h
      cases hd : oj.dst with
      | none => simp [hd] at h
      | some d =>
        simp only [hd] at h
        cases hn : nth l d with
        | none => simp [hn] at h
        | some v =>
          have := ha.slots d v hn
          simp only [hn] at h
          cases v <;> simp_all

def WL (P : Program) (w0 : World) (L0 : Hp) (opl : List Oper) (Q : Exit → Act → World → Prop) (rest : List Oper) (l : Fr) (L : Hp) : Prop :=
  ∀ a w, Ag l a → St w0 L0 L w → wpList P opl.toArray Q rest a w
def WC (P : Program) (w0 : World) (L0 : Hp) (c : Code) (Q : Exit → Act → World → Prop) (l : Fr) (L : Hp) : Prop :=
  ∀ a w, Ag l a → St w0 L0 L w → c.wp P Q a w
def WQ (w0 : World) (L0 : Hp) (Q : Exit → Act → World → Prop) (e : Exit) (l : Fr) (L : Hp) : Prop :=
  ∀ a w, Ag l a → St w0 L0 L w → Q e a w

section rules
variable {P : Program} {w0 : World} {L0 : Hp} {opl : List Oper} {Q : Exit → Act → World → Prop} {rest : List Oper} {l : Fr} {L : Hp}
variable {d : Option Tmp} {op : Op} {ty : TypeId} {ps : String} {af : Array Edge} {g : Option (Nat × Bool)}

theorem r_v {v : Value} (hw : wantL opl l g = some true) (hy : Yv P w0 L0 l L op v) (k : WL P w0 L0 opl Q rest (putn l d v) L) : WL P w0 L0 opl Q (⟨d, op, ty, ps, af, g⟩ :: rest) l L :=
  fun a w ha hS => wpList_step fun K hK => by
    rw [if_pos (wanted_of (o := ⟨d, op, ty, ps, af, g⟩) hw ha)]
    unfold Oper.wp
    rw [hy a w ha hS]
    exact hK _ _ (k _ _ (ha.put d v) hS)
theorem r_skip (hw : wantL opl l g = some false) (k : WL P w0 L0 opl Q rest (putn l d undef) L) : WL P w0 L0 opl Q (⟨d, op, ty, ps, af, g⟩ :: rest) l L :=
  fun a w ha hS => wpList_step fun K hK => by
    rw [if_neg (by rw [wanted_of (o := ⟨d, op, ty, ps, af, g⟩) hw ha]; simp)]
    exact hK _ _ (k _ _ (ha.put d undef) hS)
theorem r_split {p : Prop} [Decidable p] (hw : wantL opl l g = some true) (hy : Yv P w0 L0 l L op (.bool (decide p)))
    (kt : p → WL P w0 L0 opl Q rest (putn l d (.bool true)) L) (kf : ¬ p → WL P w0 L0 opl Q rest (putn l d (.bool false)) L) : WL P w0 L0 opl Q (⟨d, op, ty, ps, af, g⟩ :: rest) l L := by
  by_cases h : p
  · exact r_v hw (by simpa [h] using hy) (kt h)
  · exact r_v hw (by simpa [h] using hy) (kf h)
theorem r_true {p : Prop} [Decidable p] (hp : p) (hw : wantL opl l g = some true) (hy : Yv P w0 L0 l L op (.bool (decide p)))
    (k : WL P w0 L0 opl Q rest (putn l d (.bool true)) L) : WL P w0 L0 opl Q (⟨d, op, ty, ps, af, g⟩ :: rest) l L := r_v hw (by simpa [hp] using hy) k
theorem r_false {p : Prop} [Decidable p] (hp : ¬ p) (hw : wantL opl l g = some true) (hy : Yv P w0 L0 l L op (.bool (decide p)))
    (k : WL P w0 L0 opl Q rest (putn l d (.bool false)) L) : WL P w0 L0 opl Q (⟨d, op, ty, ps, af, g⟩ :: rest) l L := r_v hw (by simpa [hp] using hy) k
theorem r_nil (k : WQ w0 L0 Q .normal l L) : WL P w0 L0 opl Q [] l L := fun a w ha hS => k a w ha hS
theorem r_alloc {t : TypeId} {z : List Value} [h : ZeroT P t z] (hw : wantL opl l g = some true)
    (k : ∀ b, w0.heap.size ≤ b → WL P w0 L0 opl Q rest (putn l d (.pointer (some ⟨b, 0, none⟩))) (L ++ [⟨b, true, t, z⟩])) : WL P w0 L0 opl Q (⟨d, .alloc t, ty, ps, af, g⟩ :: rest) l L :=
  fun a w ha hS => wpList_step fun K hK => by
    rw [if_pos (wanted_of (o := ⟨d, .alloc t, ty, ps, af, g⟩) hw ha)]
    unfold Oper.wp
    obtain ⟨v, hv, hz⟩ := h.run w
    have : (execOp a.eval ⟨d, .alloc t, ty, ps, af, g⟩).run P w = .ok (.value (.pointer (some ⟨w.heap.size, 0, none⟩))) (w.alloc (.cells z.toArray t)) := by
      simp [execOp, Instr.alloc, hz, newVar, newRow, newObj, hv, Sem.run]
    rw [this]
    exact hK _ _ (k w.heap.size hS.size _ _ (ha.put d _) (hS.alloc z t))
theorem r_store {t : TypeId} {x y : Operand} {b o n sz : Nat} {et : TypeId} {cs vs : List Value} {v : Value} [hk : SizeT P t sz] (hx : ev l x = some (.pointer (some ⟨b, o, none⟩)))
    (hy : ev l y = some v) (hv : cellsL v = vs) (hn : nthL L n = some ⟨b, true, et, cs⟩) (hsz : vs.length = sz) (hfit : o + sz ≤ cs.length) (h1 : vs.all (·.oneCell') = true) (hw : wantL opl l g = some true)
    (k : WL P w0 L0 opl Q rest (putn l d undef) (setE L n (spl cs o vs))) : WL P w0 L0 opl Q (⟨d, .store t x y, ty, ps, af, g⟩ :: rest) l L :=
  fun a w ha hS => wpList_step fun K hK => by
    rw [if_pos (wanted_of (o := ⟨d, .store t x y, ty, ps, af, g⟩) hw ha)]
    unfold Oper.wp
    have hst := run_storeCells_at (P := P) b o et vs 0 cs.toArray w (hS.facts _ (mem_of_nthL hn)) (by simp; omega) (fun v hv => List.all_eq_true.1 h1 v hv)
    simp only [Nat.add_zero] at hst
    rw [← spl_eq cs o vs (by omega)] at hst
    have : (execOp a.eval ⟨d, .store t x y, ty, ps, af, g⟩).run P w = .ok .skip (w.setRow b (spl cs o vs).toArray) := by
      simp [execOp, ha.eval hx, ha.eval hy, Instr.storeAt, Instr.sureAddr, storeVar, hk.run, cellsL_eq, hv, hsz, hst]
    rw [this]
    exact hK _ _ (k _ _ (ha.put d _) (hS.setRow hn rfl _))

/-! ### Code -/
theorem c_seq {x y : Code} (h : WC P w0 L0 x (Exit.then (y.wp P Q) Q) l L) : WC P w0 L0 (.seq x y) Q l L := fun a w ha hS => wp_seq (h a w ha hS)
theorem c_skip (h : WQ w0 L0 Q .normal l L) : WC P w0 L0 .skip Q l L := fun a w ha hS => wp_skip (h a w ha hS)
theorem c_exit {i : Nat} (h : WQ w0 L0 Q (.exit i) l L) : WC P w0 L0 (.exit i) Q l L := fun a w ha hS => wp_exit (h a w ha hS)
theorem c_ret (h : WQ w0 L0 Q .ret l L) : WC P w0 L0 .ret Q l L := fun a w ha hS => wp_ret (h a w ha hS)
theorem c_block {i : Nat} {c : Code} (h : WC P w0 L0 c (Exit.inBlock i Q) l L) : WC P w0 L0 (.block i c) Q l L := fun a w ha hS => wp_block (h a w ha hS)
theorem c_region {i : Nat} {opl : List Oper} (h : WL P w0 L0 opl Q opl l L) : WC P w0 L0 (.region i opl.toArray false) Q l L := fun a w ha hS => wp_region_lit (h a w ha hS)
theorem c_true {c : Operand} {x y : Code} (hc : ev l c = some (.bool true)) (h : WC P w0 L0 x Q l L) : WC P w0 L0 (.cond c x y) Q l L := fun a w ha hS => wp_cond_true (ha.eval hc) (h a w ha hS)
theorem c_false {c : Operand} {x y : Code} (hc : ev l c = some (.bool false)) (h : WC P w0 L0 y Q l L) : WC P w0 L0 (.cond c x y) Q l L := fun a w ha hS => wp_cond_false (ha.eval hc) (h a w ha hS)
theorem c_split {c : Operand} {x y : Code} {b : Bool} (hc : ev l c = some (.bool b)) (ht : b = true → WC P w0 L0 x Q l L) (hf : b = false → WC P w0 L0 y Q l L) : WC P w0 L0 (.cond c x y) Q l L :=
  fun a w ha hS => wp_cond_split (ha.eval hc) (fun h => ht h a w ha hS) (fun h => hf h a w ha hS)
theorem q_then {y : Code} (h : WC P w0 L0 y Q l L) : WQ w0 L0 (Exit.then (y.wp P Q) Q) .normal l L := fun a w ha hS => h a w ha hS
theorem q_then_ret {K : Act → World → Prop} (h : WQ w0 L0 Q .ret l L) : WQ w0 L0 (Exit.then K Q) .ret l L := fun a w ha hS => h a w ha hS
theorem q_then_exit {K : Act → World → Prop} {i : Nat} (h : WQ w0 L0 Q (.exit i) l L) : WQ w0 L0 (Exit.then K Q) (.exit i) l L := fun a w ha hS => h a w ha hS
theorem q_blk {i : Nat} (h : WQ w0 L0 Q .normal l L) : WQ w0 L0 (Exit.inBlock i Q) .normal l L := fun a w ha hS => h a w ha hS
theorem q_blk_ret {i : Nat} (h : WQ w0 L0 Q .ret l L) : WQ w0 L0 (Exit.inBlock i Q) .ret l L := fun a w ha hS => h a w ha hS
theorem q_blk_out {i : Nat} (h : WQ w0 L0 Q .normal l L) : WQ w0 L0 (Exit.inBlock i Q) (.exit i) l L := fun a w ha hS => by simp only [Exit.inBlock, if_true]; exact h a w ha hS
theorem q_blk_on {i j : Nat} (hij : (j == i) = false) (h : WQ w0 L0 Q (.exit j) l L) : WQ w0 L0 (Exit.inBlock i Q) (.exit j) l L := fun a w ha hS => by
  simp only [Exit.inBlock]; rw [if_neg (by simpa using hij)]; exact h a w ha hS

/-! ### Forgetting -/
def leF (l : Fr) : List (Nat × Value) → Prop
  | [] => True
  | (d, v) :: r => nth l d = some v ∧ leF l r
theorem leF_nth {l : Fr} : ∀ {m : List (Nat × Value)}, leF l m → ∀ i v, look m i = some v → nth l i = some v
  | [], _, i, v, hv => by simp [look] at hv
  | (d, u) :: r, h, i, v, hv => by
    rw [look_cons] at hv
    split at hv
    · rename_i hd; subst hd; cases hv; exact h.1
    · exact leF_nth h.2 i v hv
theorem Ag.forget {l m : Fr} {a : Act} (h : Ag l a) (hl : m.n = l.n) (hf : leF l m.kv) : Ag m a := ⟨h.defers, by rw [h.size, hl], fun i v hv => by
  rw [nth_eq] at hv
  split at hv
  · exact h.slots i v (leF_nth hf i v hv)
  · cases hv⟩
/-- The entries at the places 'idx', and those that are left. -/
def dropE : Hp → Nat → Hp
  | [], _ => []
  | _ :: L, 0 => L
  | e :: L, n + 1 => e :: dropE L n
theorem dropE_perm {L : Hp} {n : Nat} {e : Ent} (h : nthL L n = some e) : L.Perm (e :: dropE L n) := by
  induction L generalizing n with
  | nil => simp [nthL] at h
  | cons x L ih =>
    cases n with
    | zero => simp only [nthL, Option.some.injEq] at h; subst h; exact List.Perm.refl _
    | succ n => exact ((ih h).cons x).trans (List.Perm.swap _ _ _)
/-- 'idx': places, each counted in what is left behind those ahead of it. -/
def selE : List Nat → Hp → Option (Hp × Hp)
  | [], L => some ([], L)
  | i :: is, L => match nthL L i with
    | none => none
    | some e => match selE is (dropE L i) with
      | none => none
      | some (A, B) => some (e :: A, B)
theorem selE_perm : ∀ {idx : List Nat} {L A B : Hp}, selE idx L = some (A, B) → L.Perm (A ++ B)
  | [], L, A, B, h => by simp only [selE, Option.some.injEq, Prod.mk.injEq] at h; obtain ⟨rfl, rfl⟩ := h; exact List.Perm.refl _
  | i :: is, L, A, B, h => by
    simp only [selE] at h
    cases hn : nthL L i with
    | none => simp [hn] at h
    | some e =>
      simp only [hn] at h
      cases hs : selE is (dropE L i) with
      | none => simp [hs] at h
      | some q =>
        obtain ⟨A', B'⟩ := q
        simp only [hs, Option.some.injEq, Prod.mk.injEq] at h
        obtain ⟨rfl, rfl⟩ := h
        exact (dropE_perm hn).trans ((selE_perm hs).cons e)
theorem St.sel {w : World} (h : St w0 L0 L w) {idx : List Nat} {A B : Hp} (hs : selE idx L = some (A, B)) : St w0 L0 A w :=
  (h.perm (selE_perm hs)).sub (List.sublist_append_left A B)
theorem q_weak {e : Exit} {m : Fr} {idx : List Nat} {A B : Hp} (hl : m.n = l.n) (hf : leF l m.kv) (hs : selE idx L = some (A, B)) (h : WQ w0 L0 Q e m A) : WQ w0 L0 Q e l L :=
  fun a w ha hS => h a w (ha.forget hl hf) (hS.sel hs)
theorem c_weak {c : Code} {m : Fr} {idx : List Nat} {A B : Hp} (hl : m.n = l.n) (hf : leF l m.kv) (hs : selE idx L = some (A, B)) (h : WC P w0 L0 c Q m A) : WC P w0 L0 c Q l L :=
  fun a w ha hS => h a w (ha.forget hl hf) (hS.sel hs)

/-! ### A loop; a place where ways meet -/
def Meets {α : Type} (w0 : World) (L0 : Hp) (lf : α → Fr) (Lf : α → Hp) (C : α → Prop) (a : Act) (w : World) : Prop := ∃ y, C y ∧ Ag (lf y) a ∧ St w0 L0 (Lf y) w
theorem q_meet {α : Type} {lf : α → Fr} {Lf : α → Hp} {C : α → Prop} (y : α) {idx : List Nat} {A B : Hp} (hC : C y) (hl : (lf y).n = l.n) (hf : leF l (lf y).kv) (hs : selE idx L = some (A, B)) (hA : A = Lf y) :
    WQ w0 L0 (Exit.then (Meets w0 L0 lf Lf C) Q) .normal l L := fun _ _ ha hS => ⟨y, hC, ha.forget hl hf, hA ▸ hS.sel hs⟩
theorem c_cut {α : Type} (lf : α → Fr) (Lf : α → Hp) (C : α → Prop) {x y : Code} (h1 : WC P w0 L0 x (Exit.then (Meets w0 L0 lf Lf C) Q) l L) (h2 : ∀ z, C z → WC P w0 L0 y Q (lf z) (Lf z)) : WC P w0 L0 (.seq x y) Q l L :=
  fun a w ha hS => wp_seq (Code.wp_mono (fun e _ _ h => by
    cases e with
    | normal => obtain ⟨z, hC, hA, hSt⟩ := h; exact h2 z hC _ _ hA hSt
    | _ => exact h) (h1 a w ha hS))
theorem c_post {α : Type} (lf : α → Fr) (Lf : α → Hp) (C : α → Prop) {c : Code} (h1 : WC P w0 L0 c (Exit.then (Meets w0 L0 lf Lf C) Q) l L) (h2 : ∀ z, C z → WQ w0 L0 Q .normal (lf z) (Lf z)) : WC P w0 L0 c Q l L :=
  fun a w ha hS => Code.wp_mono (fun e _ _ h => by
    cases e with
    | normal => obtain ⟨z, hC, hA, hSt⟩ := h; exact h2 z hC _ _ hA hSt
    | _ => exact h) (h1 a w ha hS)
theorem exists_least {p : Nat → Prop} (h : ∃ n, p n) : ∃ n, p n ∧ ∀ m, p m → n ≤ m := by
  obtain ⟨n, hn⟩ := h
  induction n using Nat.strongRecOn with
  | _ n ih =>
    by_cases hx : ∃ m, m < n ∧ p m
    · obtain ⟨m, hm, hp⟩ := hx; exact ih m hm hp
    · exact ⟨n, hn, fun m hm => Nat.le_of_not_lt fun hlt => hx ⟨m, hlt, hm⟩⟩
open Classical in
noncomputable def least {α : Type} (w0 : World) (L0 : Hp) (lf : α → Fr) (Lf : α → Hp) (C : α → Prop) (m : α → Nat) (a : Act) (w : World) : Nat :=
  if h : ∃ n, ∃ y, C y ∧ Ag (lf y) a ∧ St w0 L0 (Lf y) w ∧ m y = n then Classical.choose (exists_least h) else 0
theorem c_loop {α : Type} (lf : α → Fr) (Lf : α → Hp) (C : α → Prop) (m : α → Nat) (x0 : α) {idx : List Nat} {A B : Hp} {c : Code} (hC : C x0) (hl : (lf x0).n = l.n) (hf : leF l (lf x0).kv) (hs : selE idx L = some (A, B)) (hA : A = Lf x0)
    (round : ∀ x, C x → WC P w0 L0 c (Exit.then (Meets w0 L0 lf Lf fun y => C y ∧ m y < m x) Q) (lf x) (Lf x)) : WC P w0 L0 (.loop c) Q l L := by
  intro a w ha hS
  refine wp_loop (Meets w0 L0 lf Lf C) (least w0 L0 lf Lf C m) ⟨x0, hC, ha.forget hl hf, hA ▸ hS.sel hs⟩ ?_
  intro a w hI
  have hex : ∃ n y, C y ∧ Ag (lf y) a ∧ St w0 L0 (Lf y) w ∧ m y = n := by obtain ⟨y, h1, h2, h3⟩ := hI; exact ⟨_, y, h1, h2, h3, rfl⟩
  obtain ⟨y, h1, h2, h3, h4⟩ := (Classical.choose_spec (exists_least hex)).1
  have hμ : least w0 L0 lf Lf C m a w = m y := by unfold least; rw [dif_pos hex, h4]
  refine Code.wp_mono (fun e a' w' h => ?_) (round y h1 a w h2 h3)
  cases e with
  | normal =>
    obtain ⟨z, ⟨hz, hlt⟩, hza, hzS⟩ := h
    refine ⟨⟨z, hz, hza, hzS⟩, ?_⟩
    have hex' : ∃ n y, C y ∧ Ag (lf y) a' ∧ St w0 L0 (Lf y) w' ∧ m y = n := ⟨_, z, hz, hza, hzS, rfl⟩
    have : least w0 L0 lf Lf C m a' w' ≤ m z := by unfold least; rw [dif_pos hex']; exact (Classical.choose_spec (exists_least hex')).2 _ ⟨z, hz, hza, hzS, rfl⟩
    rw [hμ]; exact Nat.lt_of_le_of_lt this hlt
  | _ => exact h

/-! ### Functions -/
def FR (w0 : World) (Lin : Hp) (R : Value → Hp → Prop) (e : Ending) (w' : World) : Prop :=
  ∃ v Lout, e = .returned v ∧ R v Lout ∧ (∀ x ∈ Lout, x.wr = true) ∧ St w0 Lin Lout w'
/-- What a function does: called with these arguments, where memory holds 'Lin', it returns a 'v' and leaves 'Lout' (what of 'Lin' may be written, as it is then, and new blocks), where 'R v Lout'; all else is as it was. -/
def Does (P : Program) (f : FuncId) (args : List Value) (Lin : Hp) (R : Value → Hp → Prop) : Prop :=
  ∀ w, St w Lin Lin w → Calls P f args.toArray w (FR w Lin R)
theorem Does.mono {f : FuncId} {args : List Value} {Lin : Hp} {R R' : Value → Hp → Prop} (h : Does P f args Lin R) (hr : ∀ v Lo, R v Lo → R' v Lo) : Does P f args Lin R' :=
  fun w hS => (h w hS).mono fun _ _ ⟨v, Lo, h1, h2, h3⟩ => ⟨v, Lo, h1, hr _ _ h2, h3⟩
def argsF : Nat → List Value → List (Nat × Value)
  | _, [] => []
  | i, v :: vs => (i, v) :: argsF (i + 1) vs
theorem look_argsF : ∀ (vs : List Value) (i j : Nat) (u : Value), look (argsF i vs) j = some u → i ≤ j ∧ vs[j - i]? = some u
  | [], i, j, u, h => by simp [argsF, look] at h
  | v :: vs, i, j, u, h => by
    rw [argsF, look_cons] at h
    split at h
    · rename_i hij; subst hij; cases h; simp
    · obtain ⟨h1, h2⟩ := look_argsF vs (i + 1) j u h
      refine ⟨by omega, ?_⟩
      rw [show j - i = (j - (i + 1)) + 1 by omega]
      simpa using h2
def mkFr (vs : List Value) (n : Nat) : Fr := ⟨n, argsF 0 vs⟩
theorem Does.intro {f : FuncId} {args : List Value} {Lin : Hp} {R : Value → Hp → Prop} {fn : Func} {c : Code} {n : Nat} (hf : P.funcs[f]? = some fn) (hb : fn.body = some c) (hn : fn.ntmps = n) (hle : Nat.ble args.length n = true)
    (h : ∀ w0, WC P w0 Lin c (bodyPost P fn (FR w0 Lin R)) (mkFr args n) Lin) : Does P f args Lin R := fun w hS => by
  refine calls_of_wp hf hb (h w _ w ⟨rfl, ?_, ?_⟩ hS)
  · have := Nat.le_of_ble_eq_true hle
    simp [mkFr, hn]; omega
  · intro i v hv
    rw [nth_eq] at hv
    split at hv
    · obtain ⟨_, h2⟩ := look_argsF args 0 i v hv
      have h2 : args[i]? = some v := by simpa using h2
      have hlt : i < args.length := (List.getElem?_eq_some_iff.1 h2).1
      rw [Array.getElem?_append_left (by simpa using hlt)]
      simpa using h2
    · cases hv
def rvF (a : Act) : ResultVar → Sem Value
  | .tmp t => pure (a.tmps.getD t undef)
  | .cell p t => do loadVar t (← asAddr (a.tmps.getD p undef))
theorem mapM_rv {a : Act} {w : World} {r : ResultVar} {v : Value} {rs : List ResultVar} {vs : List Value} (h1 : (rvF a r).run P w = .ok v w) (h2 : (rs.mapM (rvF a)).run P w = .ok vs w) : ((r :: rs).mapM (rvF a)).run P w = .ok (v :: vs) w := by
  rw [List.mapM_cons, Sem.run_bind, h1, Result.andThen_ok, Sem.run_bind, h2, Result.andThen_ok, Sem.run_pure]
def RV (P : Program) (w0 : World) (L0 : Hp) (l : Fr) (L : Hp) (rs : List ResultVar) (vs : List Value) : Prop :=
  ∀ a w, Ag l a → St w0 L0 L w → (rs.mapM (rvF a)).run P w = .ok vs w
theorem rv_nil : RV P w0 L0 l L [] [] := fun a w _ _ => by simp
theorem rv_tmp {i : Nat} {v : Value} {rs : List ResultVar} {vs : List Value} (h : nth l i = some v) (hr : RV P w0 L0 l L rs vs) : RV P w0 L0 l L (.tmp i :: rs) (v :: vs) := fun a w ha hS => by
  have h1 := ha.slots i v h
  exact mapM_rv (by simp [rvF, h1]) (hr a w ha hS)
theorem rv_cell {i t b o : Nat} {v : Value} {rs : List ResultVar} {vs : List Value} [ht : ScalarT P t] (h : nth l i = some (.pointer (some ⟨b, o, none⟩)))
    (n : Nat) {wr : Bool} {et : TypeId} {cs : List Value} (hn : nthL L n = some ⟨b, wr, et, cs⟩) (hv : nthL cs o = some v) (hr : RV P w0 L0 l L rs vs) : RV P w0 L0 l L (.cell i t :: rs) (v :: vs) := fun a w ha hS => by
  have h1 := ha.slots i _ h
  have hc := hS.cell (mem_of_nthL hn) o
  rw [nthL_eq] at hv
  simp only [hv] at hc
  exact mapM_rv (by simp [rvF, h1, asAddr, loadVar, ht.run, hc]) (hr a w ha hS)
theorem run_loadCells_St {w : World} (hS : St w0 L0 L w) {n b o k : Nat} {wr : Bool} {et : TypeId} {cs : List Value} (hn : nthL L n = some ⟨b, wr, et, cs⟩) (hv : o + k ≤ cs.length) :
    (loadCells ⟨b, o, none⟩ k).run P w = .ok ((cs.drop o).take k).toArray w := by
  have hlen : ((cs.drop o).take k).length = k := by simp; omega
  have := run_loadCells_list (P := P) w ⟨b, o, none⟩ ((cs.drop o).take k) (fun j v hj => by
    rw [Addr.add_lit, hS.cell (mem_of_nthL hn)]
    simp only [List.getElem?_take] at hj
    split at hj
    · simpa using hj
    · cases hj)
  rwa [hlen] at this
theorem rv_cellAgg {i t b o k : Nat} {rs : List ResultVar} {vs : List Value} [ht : AggT P t k] [hk : SizeT P t k] (h : nth l i = some (.pointer (some ⟨b, o, none⟩)))
    (n : Nat) {wr : Bool} {et : TypeId} {cs cs' : List Value} (hn : nthL L n = some ⟨b, wr, et, cs⟩) (hv : Nat.ble (o + k) cs.length = true) (hc : (cs.drop o).take k = cs') (hr : RV P w0 L0 l L rs vs) : RV P w0 L0 l L (.cell i t :: rs) (valL cs' :: vs) := fun a w ha hS => by
  subst hc
  have hv := Nat.le_of_ble_eq_true hv
  have h1 := ha.slots i _ h
  have hl := run_loadCells_St (P := P) hS hn hv
  exact mapM_rv (by simp [rvF, h1, asAddr, loadVar, ht.run, hk.run, hl, valL]) (hr a w ha hS)
def retVal : List Value → Value
  | [v] => v
  | vs => .tuple vs.toArray
theorem results_eq (fn : Func) (a : Act) : results fn a.tmps = (do let vs ← fn.results.mapM (rvF a); pure (if h : vs.size = 1 then vs[0] else .tuple vs)) := by
  unfold results
  congr 1
theorem results_of {fn : Func} {rs : List ResultVar} {vs : List Value} {a : Act} {w : World} (hr : fn.results = rs.toArray) (hv : RV P w0 L0 l L rs vs) (ha : Ag l a) (hS : St w0 L0 L w) : (results fn a.tmps).run P w = .ok (retVal vs) w := by
  have h := hv a w ha hS
  rw [results_eq fn a, hr, List.mapM_toArray]
  simp only [Sem.run_bind, map_eq_pure_bind, h, Result.andThen_ok, Sem.run_pure]
  match vs with
  | [] => rfl
  | [v] => rfl
  | v :: u :: vs => simp [retVal]
theorem q_ret {fn : Func} {rs : List ResultVar} {vs : List Value} {R : Value → Hp → Prop} {idx : List Nat} {A B : Hp} (hr : fn.results = rs.toArray) (hv : RV P w0 L0 l L rs vs) (hs : selE idx L = some (A, B)) (hwr : A.all (·.wr) = true)
    (hR : R (retVal vs) A) : WQ w0 L0 (bodyPost P fn (FR w0 L0 R)) .ret l L :=
  fun _ _ ha hS => ⟨ha.defers, _, results_of hr hv ha hS, _, A, rfl, hR, fun x hx => List.all_eq_true.1 hwr x hx, hS.sel hs⟩
theorem q_end {fn : Func} {rs : List ResultVar} {vs : List Value} {R : Value → Hp → Prop} {idx : List Nat} {A B : Hp} (hr : fn.results = rs.toArray) (hv : RV P w0 L0 l L rs vs) (hs : selE idx L = some (A, B)) (hwr : A.all (·.wr) = true)
    (hR : R (retVal vs) A) : WQ w0 L0 (bodyPost P fn (FR w0 L0 R)) .normal l L :=
  fun _ _ ha hS => ⟨ha.defers, _, results_of hr hv ha hS, _, A, rfl, hR, fun x hx => List.all_eq_true.1 hwr x hx, hS.sel hs⟩

theorem St.start (w : World) : St w [] [] w := ⟨rfl, rfl, rfl, Nat.le_refl _, fun _ _ _ => rfl, (fun _ h => by cases h), List.Pairwise.nil, (fun _ h => by cases h)⟩
theorem St.below {w w' : World} {L : Hp} (h : St w [] L w') : Below w.heap.size w w' := ⟨h.os, h.tape, h.output, h.size, fun k hk => h.frame k hk (fun _ he => by cases he)⟩
theorem Does.calls {f : FuncId} {args : List Value} {v : Value} (h : Does P f args [] (fun u Lo => u = v ∧ Lo = [])) (w : World) : Calls P f args.toArray w fun e w' => e = .returned v ∧ Below w.heap.size w w' :=
  (h w (St.start w)).mono fun _ _ ⟨_, _, h1, h2, _, h3⟩ => ⟨by rw [h1, h2.1], h3.below⟩
/-! ### Calls -/
def reflag : List Bool → Hp → Hp
  | b :: bs, e :: L => ⟨e.b, b, e.t, e.cs⟩ :: reflag bs L
  | _, _ => []
def okf : List Bool → Hp → Bool
  | [], [] => true
  | b :: bs, e :: L => (!b || e.wr) && okf bs L
  | _, _ => false
def keepE : List Bool → Hp → Hp
  | b :: bs, e :: L => if b then keepE bs L else e :: keepE bs L
  | _, _ => []
theorem reflag_mem : ∀ {fl : List Bool} {A : Hp} {x : Ent}, okf fl A = true → x ∈ reflag fl A → ∃ e ∈ A, x.b = e.b ∧ x.t = e.t ∧ x.cs = e.cs ∧ (x.wr = true → e.wr = true)
  | [], [], x, _, hx => by simp [reflag] at hx
  | [], _ :: _, x, _, hx => by simp [reflag] at hx
  | b :: bs, [], x, h, hx => by simp [okf] at h
  | b :: bs, e :: L, x, h, hx => by
    simp only [okf, Bool.and_eq_true, Bool.or_eq_true, Bool.not_eq_true'] at h
    simp only [reflag, List.mem_cons] at hx
    rcases hx with rfl | hx
    · exact ⟨e, by simp, rfl, rfl, rfl, fun hb => by rcases h.1 with h1 | h1 <;> simp_all⟩
    · obtain ⟨e', he', h'⟩ := reflag_mem h.2 hx
      exact ⟨e', by simp [he'], h'⟩
theorem reflag_keys : ∀ {fl : List Bool} {A : Hp}, okf fl A = true → (reflag fl A).map (·.b) = A.map (·.b)
  | [], [], _ => rfl
  | [], _ :: _, h => by simp [okf] at h
  | b :: bs, [], h => by simp [okf] at h
  | b :: bs, e :: L, h => by
    simp only [okf, Bool.and_eq_true] at h
    simp [reflag, reflag_keys h.2]
theorem keepE_sub : ∀ {fl : List Bool} {A : Hp}, (keepE fl A).Sublist A
  | [], A => by simp [keepE]
  | _ :: _, [] => by simp [keepE]
  | b :: bs, e :: L => by
    simp only [keepE]
    split
    · exact (keepE_sub (fl := bs)).cons e
    · exact (keepE_sub (fl := bs)).cons_cons e
theorem keepE_ne : ∀ {fl : List Bool} {A : Hp}, okf fl A = true → A.Pairwise (fun x y => x.b ≠ y.b) → ∀ e ∈ keepE fl A, ∀ x ∈ reflag fl A, x.wr = true → x.b ≠ e.b
  | [], A, _, _, e, he, _, _, _ => by simp [keepE] at he
  | _ :: _, [], _, _, e, he, _, _, _ => by simp [keepE] at he
  | b :: bs, y :: L, h, hp, e, he, x, hx, hw => by
    simp only [okf, Bool.and_eq_true] at h
    have hp' := List.pairwise_cons.1 hp
    simp only [reflag, List.mem_cons] at hx
    simp only [keepE] at he
    split at he
    · rename_i hb
      rcases hx with rfl | hx
      · exact fun hq => hp'.1 e (keepE_sub.subset he) hq
      · exact keepE_ne h.2 hp'.2 e he x hx hw
    · rename_i hb
      rcases List.mem_cons.1 he with rfl | he
      · rcases hx with rfl | hx
        · simp at hw; exact absurd hw hb
        · obtain ⟨e', he', hb', _⟩ := reflag_mem h.2 hx
          rw [hb']; exact (hp'.1 e' he').symm
      · rcases hx with rfl | hx
        · simp at hw; exact absurd hw hb
        · exact keepE_ne h.2 hp'.2 e he x hx hw
theorem St.called {w w' : World} {fl : List Bool} {idx : List Nat} {A B Lout : Hp} (hS : St w0 L0 L w) (hs : selE idx L = some (A, B)) (hfl : okf fl A = true)
    (hS' : St w (reflag fl A) Lout w') (hwr : ∀ x ∈ Lout, x.wr = true) : St w0 L0 (B ++ keepE fl A ++ Lout) w' := by
  have hp := selE_perm hs
  have hP := hS.perm hp
  have hpw := List.pairwise_append.1 hP.nodup
  have hA : ∀ x ∈ reflag fl A, x.wr = true → w0.heap.size ≤ x.b ∨ ∃ e0 ∈ L0, e0.wr = true ∧ e0.b = x.b := fun x hx hw => by
    obtain ⟨e, he, h1, _, _, h4⟩ := reflag_mem hfl hx
    rw [h1]; exact hP.own e (List.mem_append_left _ he) (h4 hw)
  have hold : ∀ k, k < w.heap.size → (∀ x ∈ reflag fl A, x.wr = true → x.b ≠ k) → w'.heap[k]? = w.heap[k]? := hS'.frame
  have hBne : ∀ e ∈ B, ∀ x ∈ reflag fl A, x.wr = true → x.b ≠ e.b := fun e he x hx _ => by
    obtain ⟨e', he', h1, _⟩ := reflag_mem hfl hx
    rw [h1]; exact hpw.2.2 e' he' e he
  have hKne := keepE_ne (fl := fl) (A := A) hfl hpw.1
  have hBK : ∀ e ∈ B ++ keepE fl A, e ∈ A ++ B ∧ ∀ x ∈ reflag fl A, x.wr = true → x.b ≠ e.b := fun e he => by
    rcases List.mem_append.1 he with he | he
    · exact ⟨List.mem_append_right _ he, hBne e he⟩
    · exact ⟨List.mem_append_left _ (keepE_sub.subset he), hKne e he⟩
  refine ⟨hS'.os.trans hS.os, hS'.tape.trans hS.tape, hS'.output.trans hS.output, Nat.le_trans hS.size hS'.size, fun k hk hn => ?_, fun e he => ?_, ?_, fun e he hw => ?_⟩
  · rw [hold k (Nat.lt_of_lt_of_le hk hS.size) (fun x hx hw hxk => ?_)]
    · exact hS.frame k hk hn
    · rcases hA x hx hw with h | ⟨e0, h1, h2, h3⟩
      · omega
      · exact hn e0 h1 h2 (by omega)
  · rcases List.mem_append.1 he with he | he
    · obtain ⟨h1, h2⟩ := hBK e he
      rw [hold _ (hP.lt h1) h2]; exact hP.facts e h1
    · exact hS'.facts e he
  · refine List.pairwise_append.2 ⟨?_, hS'.nodup, fun x hx y hy => ?_⟩
    · exact List.pairwise_append.2 ⟨hpw.2.1, hpw.1.sublist keepE_sub, fun x hx y hy => (hpw.2.2 y (keepE_sub.subset hy) x hx).symm⟩
    · obtain ⟨h1, h2⟩ := hBK x hx
      have hlt := hP.lt h1
      rcases hS'.own y hy (hwr y hy) with h | ⟨e0, h3, h4, h5⟩
      · omega
      · rw [← h5]; exact (h2 e0 h3 h4).symm
  · rcases List.mem_append.1 he with he | he
    · exact hP.own e (hBK e he).1 hw
    · rcases hS'.own e he hw with h | ⟨e0, h3, h4, h5⟩
      · exact .inl (Nat.le_trans hS.size h)
      · rw [← h5]; exact hA e0 h3 h4
theorem St.handed {w : World} {fl : List Bool} {idx : List Nat} {A B : Hp} (hS : St w0 L0 L w) (hs : selE idx L = some (A, B)) (hfl : okf fl A = true) : St w (reflag fl A) (reflag fl A) w := by
  have hA := hS.sel hs
  refine ⟨rfl, rfl, rfl, Nat.le_refl _, fun _ _ _ => rfl, fun e he => ?_, ?_, fun e he hw => .inr ⟨e, he, hw, rfl⟩⟩
  · obtain ⟨e', he', h1, h2, h3, _⟩ := reflag_mem hfl he
    rw [h1, h2, h3]; exact hA.facts e' he'
  · rw [nodup_keys, reflag_keys hfl, ← nodup_keys]; exact hA.nodup
theorem r_call {f : FuncId} {xs : List Operand} {ats : Array TypeId} {args : List Value} {Lin A B : Hp} {R : Value → Hp → Prop} [hcall : CallT P f] (hc : Does P f args Lin R) (idx : List Nat) (fl : List Bool)
    (hw : wantL opl l g = some true) (hx : evs l xs = some args) (hs : selE idx L = some (A, B)) (hA : Lin = reflag fl A) (hfl : okf fl A = true)
    (k : ∀ v Lout, R v Lout → WL P w0 L0 opl Q rest (putn l d v) (B ++ keepE fl A ++ Lout)) :
    WL P w0 L0 opl Q (⟨d, .call { callee := .value (.func f), args := xs.toArray, argTypes := ats }, ty, ps, af, g⟩ :: rest) l L :=
  fun a w ha hS => wpList_step fun K hK => by
    rw [if_pos (wanted_of (o := ⟨d, .call { callee := .value (.func f), args := xs.toArray, argTypes := ats }, ty, ps, af, g⟩) hw ha)]
    unfold Oper.wp
    have he := ha.evals hx
    have : (execOp a.eval ⟨d, .call { callee := .value (.func f), args := xs.toArray, argTypes := ats }, ty, ps, af, g⟩).run P w = .ok (.enter f args.toArray) w := by
      have e1 : xs.toArray.map a.eval = args.toArray := by rw [← he]; simp
      simp [execOp, resolve, Act.eval, Deferred.ofValue, invoke, e1, hcall.run]
    rw [this, Oper.upon_enter]
    subst hA
    refine (hc w (hS.handed hs hfl)).mono ?_
    rintro e w' ⟨v, Lout, rfl, hR, hwr, hS'⟩
    exact hK _ _ (k v Lout hR _ _ (ha.put d v) (hS.called hs hfl hS' hwr))

/-! ### Rounds one by one -/
def WR (P : Program) (w0 : World) (L0 : Hp) (c : Code) (Q : Exit → Act → World → Prop) (n : Nat) (l : Fr) (L : Hp) : Prop :=
  ∀ a w, Ag l a → St w0 L0 L w → Code.rounds P c Q n a w
theorem c_rounds (n : Nat) {c : Code} (h : WR P w0 L0 c Q n l L) : WC P w0 L0 (.loop c) Q l L := fun a w ha hS => wp_loop_rounds n (h a w ha hS)
theorem wr_succ {n : Nat} {c : Code} (h : WC P w0 L0 c (Exit.then (Code.rounds P c Q n) Q) l L) : WR P w0 L0 c Q (n + 1) l L := fun a w ha hS => h a w ha hS
theorem q_round {n : Nat} {c : Code} (h : WR P w0 L0 c Q n l L) : WQ w0 L0 (Exit.then (Code.rounds P c Q n) Q) .normal l L := fun a w ha hS => h a w ha hS

/-! ### Rows of elements: made, built, appended to -/
class ElemT (P : Program) (t : TypeId) (e : outParam TypeId) (z : outParam (List Value)) (size bytes : outParam Nat) : Prop where
  sl : P.underlying t = some (.slice e)
  info : ∃ i v, P.info? e = some i ∧ i.zero = some v ∧ v.cells = z.toArray ∧ i.size = size ∧ i.bytes = bytes
  len : z.length = size
  pos : 0 < size
def zrep : Nat → List Value → List Value
  | 0, _ => []
  | n + 1, z => z ++ zrep n z
theorem zrep_get (z : List Value) : ∀ (n i : Nat), i < n * z.length → (zrep n z)[i]? = z[i % z.length]?
  | 0, i, h => by simp at h
  | n + 1, i, h => by
    simp only [zrep]
    by_cases hi : i < z.length
    · rw [List.getElem?_append_left hi, Nat.mod_eq_of_lt hi]
    · rw [List.getElem?_append_right (by omega), zrep_get z n (i - z.length) (by rw [Nat.add_mul] at h; omega)]
      congr 1
      exact (Nat.mod_eq_sub_mod (by omega)).symm
theorem zrep_length (z : List Value) : ∀ n, (zrep n z).length = n * z.length
  | 0 => by simp [zrep]
  | n + 1 => by simp [zrep, zrep_length z n, Nat.add_mul]; omega
theorem madeCells_zrep (z : List Value) (n : Nat) (h : 0 < z.length) : madeCells z.toArray (n * z.length) = (zrep n z).toArray := by
  apply Array.ext_getElem?
  intro i
  by_cases hi : i < n * z.length
  · have hm : i % z.length < z.length := Nat.mod_lt _ h
    simp only [madeCells, Array.getElem?_map, List.getElem?_toArray, zrep_get z n i hi]
    rw [Array.getElem?_eq_getElem (by simpa using hi)]
    simp [hm]
  · rw [Array.getElem?_eq_none (by simp [size_madeCells]; omega), Array.getElem?_eq_none (by simp [zrep_length]; omega)]
theorem r_make {t e size bytes : Nat} {z : List Value} {x y : Operand} {kl kc : IntKind} {n c : Int} [h : ElemT P t e z size bytes] (hw : wantL opl l g = some true) (hx : ev l x = some (.int kl n)) (hy : ev l y = some (.int kc c))
    (h0 : 0 ≤ n) (hnc : n ≤ c) (hb : (bytes : Int) * c ≤ 281474976710656) (h63 : c ≤ 9223372036854775807)
    (k : ∀ b, w0.heap.size ≤ b → WL P w0 L0 opl Q rest (putn l d (.slice (some ⟨b, 0, none⟩) n.toNat c.toNat)) (L ++ [⟨b, true, e, zrep c.toNat z⟩])) : WL P w0 L0 opl Q (⟨d, .makeSlice t x y, ty, ps, af, g⟩ :: rest) l L :=
  fun a w ha hS => wpList_step fun K hK => by
    rw [if_pos (wanted_of (o := ⟨d, .makeSlice t x y, ty, ps, af, g⟩) hw ha)]
    unfold Oper.wp
    obtain ⟨i, v, h1, h2, h3, h4, h5⟩ := h.info
    have hr := run_make (P := P) w t e i v h.sl h1 h2 kl kc n c h0 hnc (by rw [h5]; exact hb) h63
    rw [h3, h4, ← h.len, madeCells_zrep z _ (by rw [h.len]; exact h.pos)] at hr
    have : (execOp a.eval ⟨d, .makeSlice t x y, ty, ps, af, g⟩).run P w = .ok (.value (.slice (some ⟨w.heap.size, 0, none⟩) n.toNat c.toNat)) (w.alloc (.cells (zrep c.toNat z).toArray e)) := by
      simp [execOp, ha.eval hx, ha.eval hy, hr]
    rw [this]
    exact hK _ _ (k w.heap.size hS.size _ _ (ha.put d _) (hS.alloc _ e))
theorem r_buildSlice {t e size bytes n : Nat} {z cs : List Value} {qs : List (Nat × Operand)} {vs : List (Nat × Value)} [h : ElemT P t e z size bytes] (hw : wantL opl l g = some true) (hx : evp l qs = some vs)
    (hn : n * size ≤ 16777216) (hf : fillS (fun i => some (i * size, size)) (zrep n z) vs = some cs)
    (k : ∀ b, w0.heap.size ≤ b → WL P w0 L0 opl Q rest (putn l d (.slice (some ⟨b, 0, none⟩) n n)) (L ++ [⟨b, true, e, cs⟩])) : WL P w0 L0 opl Q (⟨d, .buildSlice t n qs.toArray, ty, ps, af, g⟩ :: rest) l L :=
  fun a w ha hS => wpList_step fun K hK => by
    rw [if_pos (wanted_of (o := ⟨d, .buildSlice t n qs.toArray, ty, ps, af, g⟩) hw ha)]
    unfold Oper.wp
    obtain ⟨i, v, h1, h2, h3, h4, h5⟩ := h.info
    have he := ha.evalp hx
    have hm : (qs.toArray.map fun x => (x.1, a.eval x.2)) = vs.toArray := by rw [← he]; simp
    have hfill := fill_of_fillS _ _ _ _ hf
    have hz : madeCells z.toArray (n * size) = (zrep n z).toArray := by rw [← h.len]; exact madeCells_zrep z n (by rw [h.len]; exact h.pos)
    have hs : ∀ w, (sizeOf e).run P w = .ok size w := fun w => by simp [sizeOf, typeInfo, h1, h4]
    have hzv : ∀ w, (zeroValue e).run P w = .ok v w := fun w => by simp [zeroValue, typeInfo, h1, h2]
    have : (execOp a.eval ⟨d, .buildSlice t n qs.toArray, ty, ps, af, g⟩).run P w = .ok (.value (.slice (some ⟨w.heap.size, 0, none⟩) n n)) (w.alloc (.cells cs.toArray e)) := by
      simp only [execOp, hm, Instr.buildSlice, Sem.run_bind, run_underlying h.sl, Result.andThen_ok, hs]
      rw [if_neg (by simp; omega)]
      by_cases h0 : n * size = 0
      · have e0 : (Array.range (n * size)).map (fun x => (#[] : Array Value)[x % (#[] : Array Value).size]!) = (zrep n z).toArray := by rw [← hz, h0]; simp [madeCells]
        rw [if_pos h0]
        simp only [Sem.run_bind, Sem.run_pure, Result.andThen_ok, e0, hfill]
        rfl
      · rw [if_neg h0]
        have e1 : (Array.range (n * size)).map (fun x => (z.toArray)[x % (z.toArray).size]!) = (zrep n z).toArray := hz
        simp only [Sem.run_bind, hzv, Result.andThen_ok, h3, Sem.run_pure, e1, hfill]
        rfl
    rw [this]
    exact hK _ _ (k w.heap.size hS.size _ _ (ha.put d _) (hS.alloc _ e))
theorem dropE_sub : ∀ (L : Hp) (n : Nat), (dropE L n).Sublist L
  | [], n => by cases n <;> exact List.Sublist.refl _
  | e :: L, 0 => List.sublist_cons_self e L
  | e :: L, n + 1 => (dropE_sub L n).cons_cons e
/-- Behind an append to a row of one's own. -/
theorem St.appended {w w' : World} {n : Nat} {b : Nat} {et : TypeId} {cs cs' : List Value} {b' : Nat} (hS : St w0 L0 L w) (hn : nthL L n = some ⟨b, true, et, cs⟩) (hg : w.grownBy w' (some b))
    (hb' : b' = b ∨ b' = w.heap.size) (hf : w'.heap[b']? = some (.cells cs'.toArray et (0, 0))) : St w0 L0 (dropE L n ++ [⟨b', true, et, cs'⟩]) w' := by
  have hp := hS.perm (dropE_perm hn)
  have hpw := List.pairwise_cons.1 hp.nodup
  have hown := hS.own _ (mem_of_nthL hn) rfl
  have hsub := dropE_sub L n
  have hlt : ∀ e ∈ dropE L n, e.b < w.heap.size := fun e he => hS.lt (hsub.subset he)
  have hne : ∀ e ∈ dropE L n, e.b ≠ b := fun e he => (hpw.1 e he).symm
  refine ⟨hg.os.trans hS.os, hg.tape.trans hS.tape, hg.output.trans hS.output, Nat.le_trans hS.size hg.size, fun k hk hnot => ?_, fun e he => ?_, ?_, fun e he hw => ?_⟩
  · rw [hg.block k (Nat.lt_of_lt_of_le hk hS.size) (fun h => ?_)]
    · exact hS.frame k hk hnot
    · cases h
      rcases hown with h | ⟨e0, h1, h2, h3⟩
      · simp at h; omega
      · exact hnot e0 h1 h2 h3
  · rcases List.mem_append.1 he with he | he
    · rw [hg.block _ (hlt e he) (fun h => hne e he (by cases h; rfl))]; exact hS.facts e (hsub.subset he)
    · obtain rfl : e = _ := by simpa using he
      exact hf
  · refine List.pairwise_append.2 ⟨hpw.2, by simp, fun x hx y hy => ?_⟩
    obtain rfl : y = _ := by simpa using hy
    rcases hb' with rfl | rfl
    · exact hne x hx
    · have := hlt x hx; simp; omega
  · rcases List.mem_append.1 he with he | he
    · exact hS.own e (hsub.subset he) hw
    · obtain rfl : e = _ := by simpa using he
      rcases hb' with rfl | rfl
      · exact hown
      · exact .inl hS.size
theorem St.appendedNil {w w' : World} {et : TypeId} {cs' : List Value} (hS : St w0 L0 L w) (hg : w.grownBy w' none)
    (hf : w'.heap[w.heap.size]? = some (.cells cs'.toArray et (0, 0))) : St w0 L0 (L ++ [⟨w.heap.size, true, et, cs'⟩]) w' := by
  refine ⟨hg.os.trans hS.os, hg.tape.trans hS.tape, hg.output.trans hS.output, Nat.le_trans hS.size hg.size, fun k hk hnot => ?_, fun e he => ?_, ?_, fun e he hw => ?_⟩
  · rw [hg.block k (Nat.lt_of_lt_of_le hk hS.size) (fun h => by cases h)]; exact hS.frame k hk hnot
  · rcases List.mem_append.1 he with he | he
    · rw [hg.block _ (hS.lt he) (fun h => by cases h)]; exact hS.facts e he
    · obtain rfl : e = _ := by simpa using he
      exact hf
  · refine List.pairwise_append.2 ⟨hS.nodup, by simp, fun x hx y hy => ?_⟩
    obtain rfl : y = _ := by simpa using hy
    have := hS.lt hx; simp; omega
  · rcases List.mem_append.1 he with he | he
    · exact hS.own e he hw
    · obtain rfl : e = _ := by simpa using he
      exact .inl hS.size
/-- What an append asks and gives, in one law: 'v' is a row of one's own (an entry that may be written) or nil. -/
theorem run_append_St {w : World} {t e size bytes ty : Nat} {z : List Value} [h : ElemT P t e z size bytes] (hS : St w0 L0 L w)
    {n m c2 o2 b2 : Nat} {v : Value} {xs : List Value} (hown : w.ownsRow 0 e size v n xs)
    (j : Nat) {wr2 : Bool} {et2 : TypeId} {cs2 : List Value} (hj : nthL L j = some ⟨b2, wr2, et2, cs2⟩) (hfit : o2 + m * size ≤ cs2.length) (h1 : ((cs2.drop o2).take (m * size)).all (·.oneCell') = true)
    (hm : 0 < m) (h47 : (n + m) * bytes ≤ 140737488355328) (h63 : n + m ≤ maxLen) :
    ∃ (b' cap' : Nat) (w' : World) (cs' : List Value), (Builtin.append_ #[t, t] ty #[v, .slice (some ⟨b2, o2, none⟩) m c2]).run P w = .ok (.slice (some ⟨b', 0, none⟩) (n + m) cap') w' ∧ w.grownBy w' v.ownBlock ∧ (v.ownBlock = some b' ∨ b' = w.heap.size) ∧
      w'.heap[b']? = some (.cells cs'.toArray e (0, 0)) ∧ n + m ≤ cap' ∧ cap' ≤ maxLen ∧ cs'.length = cap' * size ∧ cs'.take ((n + m) * size) = xs ++ (cs2.drop o2).take (m * size) := by
  obtain ⟨i, v0, i1, i2, i3, i4, i5⟩ := h.info
  have hlen : ((cs2.drop o2).take (m * size)).length = m * size := by simp; omega
  obtain ⟨g, cap, w', hr, hown', hg, hat, _⟩ := run_append_lies (P := P) w t ty 0 e i v0 size bytes h.sl i1 i2 i4 i5 (by rw [i3]; simpa using h.len) h.pos v n xs hown ⟨b2, o2, none⟩ m c2
    ((cs2.drop o2).take (m * size)) hlen (fun q u hq => by
      rw [Addr.add_lit, hS.cell (mem_of_nthL hj)]
      simp only [List.getElem?_take] at hq
      split at hq
      · simpa using hq
      · cases hq) (fun u hu => List.all_eq_true.1 h1 u hu) hm h63 h47 (Nat.zero_le _) w.heap.size rfl
  rcases hown'.2 with ⟨h0, _⟩ | ⟨g', cap', cur, hv, _, hheap, hcap, hmax, hsz, htake⟩
  · cases h0
  · cases hv
    exact ⟨g, cap, w', cur.toList, hr, hg, hat, by simpa using hheap, hcap, hmax, by simpa using hsz, htake⟩
theorem r_append {t e size bytes : Nat} {z : List Value} {x y : Operand} {b n cap m c2 o2 b2 : Nat} [h : ElemT P t e z size bytes] (i : Nat) {cs : List Value} (j : Nat) {wr2 : Bool} {et2 : TypeId} {cs2 : List Value} (hw : wantL opl l g = some true)
    (hx : ev l x = some (.slice (some ⟨b, 0, none⟩) n cap)) (hy : ev l y = some (.slice (some ⟨b2, o2, none⟩) m c2)) (hi : nthL L i = some ⟨b, true, e, cs⟩) (hj : nthL L j = some ⟨b2, wr2, et2, cs2⟩)
    (hcap : n ≤ cap) (hmax : cap ≤ maxLen) (hcs : cs.length = cap * size) (hfit : o2 + m * size ≤ cs2.length) (h1 : ((cs2.drop o2).take (m * size)).all (·.oneCell') = true)
    (hm : 0 < m) (h47 : (n + m) * bytes ≤ 140737488355328) (h63 : n + m ≤ maxLen)
    (k : ∀ (b' cap' : Nat) (cs' : List Value), n + m ≤ cap' → cap' ≤ maxLen → cs'.length = cap' * size → cs'.take ((n + m) * size) = cs.take (n * size) ++ (cs2.drop o2).take (m * size) →
      WL P w0 L0 opl Q rest (putn l d (.slice (some ⟨b', 0, none⟩) (n + m) cap')) (dropE L i ++ [⟨b', true, e, cs'⟩])) :
    WL P w0 L0 opl Q (⟨d, .call { callee := .builtin .append, args := #[x, y], argTypes := #[t, t] }, ty, ps, af, g⟩ :: rest) l L :=
  fun a w ha hS => wpList_step fun K hK => by
    rw [if_pos (wanted_of (o := ⟨d, .call { callee := .builtin .append, args := #[x, y], argTypes := #[t, t] }, ty, ps, af, g⟩) hw ha)]
    unfold Oper.wp
    have hown : w.ownsRow 0 e size (.slice (some ⟨b, 0, none⟩) n cap) n (cs.take (n * size)) :=
      ⟨by rw [List.length_take, hcs]; exact Nat.min_eq_left (Nat.mul_le_mul_right _ hcap), .inr ⟨b, cap, cs.toArray, rfl, Nat.zero_le _, hS.facts _ (mem_of_nthL hi), hcap, hmax, by simpa using hcs, by simp⟩⟩
    obtain ⟨b', cap', w', cs', hr, hg, hat, hf, q1, q2, q3, q4⟩ := run_append_St (P := P) (t := t) (ty := ty) hS hown j hj hfit h1 hm h47 h63 (c2 := c2)
    have : (execOp a.eval ⟨d, .call { callee := .builtin .append, args := #[x, y], argTypes := #[t, t] }, ty, ps, af, g⟩).run P w = .ok (.value (.slice (some ⟨b', 0, none⟩) (n + m) cap')) w' := by
      simp [execOp, resolve, invoke, builtin, ha.eval hx, ha.eval hy, hr]
    rw [this]
    refine hK _ _ (k b' cap' cs' q1 q2 q3 q4 _ _ (ha.put d _) (hS.appended hi hg ?_ hf))
    rcases hat with hat | hat
    · left; simpa [Value.ownBlock] using hat.symm
    · right; exact hat
theorem r_appendNil {t e size bytes : Nat} {z : List Value} {x y : Operand} {m c2 o2 b2 : Nat} [h : ElemT P t e z size bytes] (j : Nat) {wr2 : Bool} {et2 : TypeId} {cs2 : List Value} (hw : wantL opl l g = some true)
    (hx : ev l x = some (.slice none 0 0)) (hy : ev l y = some (.slice (some ⟨b2, o2, none⟩) m c2)) (hj : nthL L j = some ⟨b2, wr2, et2, cs2⟩)
    (hfit : o2 + m * size ≤ cs2.length) (h1 : ((cs2.drop o2).take (m * size)).all (·.oneCell') = true)
    (hm : 0 < m) (h47 : m * bytes ≤ 140737488355328) (h63 : m ≤ maxLen)
    (k : ∀ (b' cap' : Nat) (cs' : List Value), m ≤ cap' → cap' ≤ maxLen → cs'.length = cap' * size → cs'.take (m * size) = (cs2.drop o2).take (m * size) → w0.heap.size ≤ b' →
      WL P w0 L0 opl Q rest (putn l d (.slice (some ⟨b', 0, none⟩) m cap')) (L ++ [⟨b', true, e, cs'⟩])) :
    WL P w0 L0 opl Q (⟨d, .call { callee := .builtin .append, args := #[x, y], argTypes := #[t, t] }, ty, ps, af, g⟩ :: rest) l L :=
  fun a w ha hS => wpList_step fun K hK => by
    rw [if_pos (wanted_of (o := ⟨d, .call { callee := .builtin .append, args := #[x, y], argTypes := #[t, t] }, ty, ps, af, g⟩) hw ha)]
    unfold Oper.wp
    obtain ⟨b', cap', w', cs', hr, hg, hat, hf, q1, q2, q3, q4⟩ := run_append_St (P := P) (t := t) (ty := ty) hS (World.ownsRow_nil w 0 e size) j hj hfit h1 hm (by simpa using h47) (by simpa using h63) (c2 := c2)
    simp only [Nat.zero_add, List.nil_append] at hr q1 q4
    have : (execOp a.eval ⟨d, .call { callee := .builtin .append, args := #[x, y], argTypes := #[t, t] }, ty, ps, af, g⟩).run P w = .ok (.value (.slice (some ⟨b', 0, none⟩) m cap')) w' := by
      simp [execOp, resolve, invoke, builtin, ha.eval hx, ha.eval hy, hr]
    rw [this]
    have hb : b' = w.heap.size := (hat.resolve_left (by simp [Value.ownBlock]))
    subst hb
    exact hK _ _ (k _ cap' cs' q1 q2 q3 q4 hS.size _ _ (ha.put d _) (hS.appendedNil hg hf))
end rules
section byop
variable {P : Program} {w0 : World} {L0 : Hp} {opl : List Oper} {Q : Exit → Act → World → Prop} {rest : List Oper} {l : Fr} {L : Hp}
variable {d : Option Tmp} {ty : TypeId} {ps : String} {af : Array Edge} {g : Option (Nat × Bool)}
theorem o_move {x : Operand} {v : Value} (hw : wantL opl l g = some true) (hx : ev l x = some v) (k : WL P w0 L0 opl Q rest (putn l d v) L) : WL P w0 L0 opl Q (⟨d, .move x, ty, ps, af, g⟩ :: rest) l L := r_v hw (y_move hx) k
theorem o_assign {x : Operand} {v : Value} (hw : wantL opl l g = some true) (hx : ev l x = some v) (k : WL P w0 L0 opl Q rest (putn l d v) L) : WL P w0 L0 opl Q (⟨d, .assign x, ty, ps, af, g⟩ :: rest) l L := r_v hw (y_assign hx) k
theorem o_pick {c x y : Operand} {b : Bool} {v : Value} (hw : wantL opl l g = some true) (hc : ev l c = some (.bool b)) (hx : ev l (if b then x else y) = some v) (k : WL P w0 L0 opl Q rest (putn l d v) L) : WL P w0 L0 opl Q (⟨d, .pick c x y, ty, ps, af, g⟩ :: rest) l L := r_v hw (y_pick hc hx) k
theorem o_extract {x : Operand} {i : Nat} {vs : List Value} {v : Value} (hw : wantL opl l g = some true) (hx : ev l x = some (.tuple vs.toArray)) (hv : nthL vs i = some v) (k : WL P w0 L0 opl Q rest (putn l d v) L) : WL P w0 L0 opl Q (⟨d, .extract x i, ty, ps, af, g⟩ :: rest) l L := r_v hw (y_extract hx hv) k
theorem o_fieldAddr {s : TypeId} {x : Operand} {i off ft b o : Nat} [h : FieldT P s i off ft] (hw : wantL opl l g = some true) (hx : ev l x = some (.pointer (some ⟨b, o, none⟩))) {oo : Nat} (ho : o + off = oo) (k : WL P w0 L0 opl Q rest (putn l d (.pointer (some ⟨b, oo, none⟩))) L) : WL P w0 L0 opl Q (⟨d, .fieldAddr s x i, ty, ps, af, g⟩ :: rest) l L := r_v hw (ho ▸ y_fieldAddr hx) k
theorem o_field {t : TypeId} {x : Operand} {i off ft : Nat} {cs : List Value} {v : Value} [h : FieldT P t i off ft] [hs : ScalarT P ft] (hw : wantL opl l g = some true) (hx : ev l x = some (.agg cs.toArray)) (hv : nthL cs off = some v) (k : WL P w0 L0 opl Q rest (putn l d v) L) : WL P w0 L0 opl Q (⟨d, .field t x i, ty, ps, af, g⟩ :: rest) l L := r_v hw (y_field hx hv) k
theorem o_load {t : TypeId} {x : Operand} {b o n : Nat} {v : Value} {wr : Bool} {et : TypeId} {cs : List Value} (ht : ScalarT P t) (hw : wantL opl l g = some true) (hx : ev l x = some (.pointer (some ⟨b, o, none⟩)))
    (hn : nthL L n = some ⟨b, wr, et, cs⟩) (hv : nthL cs o = some v) (k : WL P w0 L0 opl Q rest (putn l d v) L) : WL P w0 L0 opl Q (⟨d, .load t x, ty, ps, af, g⟩ :: rest) l L := r_v hw (y_load hx n hn hv) k
theorem o_loadAgg {t : TypeId} {x : Operand} {b o k n : Nat} {wr : Bool} {et : TypeId} {cs : List Value} (ht : AggT P t k) (hk : SizeT P t k) (hw : wantL opl l g = some true) (hx : ev l x = some (.pointer (some ⟨b, o, none⟩)))
    (hn : nthL L n = some ⟨b, wr, et, cs⟩) (hv : Nat.ble (o + k) cs.length = true) {cs' : List Value} (hc : (cs.drop o).take k = cs') (kk : WL P w0 L0 opl Q rest (putn l d (valL cs')) L) : WL P w0 L0 opl Q (⟨d, .load t x, ty, ps, af, g⟩ :: rest) l L := r_v hw (y_loadAgg hx n hn (Nat.le_of_ble_eq_true hv)) (hc ▸ kk)
theorem o_store {t : TypeId} {x y : Operand} {b o n sz : Nat} {et : TypeId} {cs : List Value} {v : Value} [hk : SizeT P t sz] (hw : wantL opl l g = some true) (hx : ev l x = some (.pointer (some ⟨b, o, none⟩)))
    (hy : ev l y = some v) (hn : nthL L n = some ⟨b, true, et, cs⟩) (hsz : (cellsL v).length = sz) (hfit : Nat.ble (o + sz) cs.length = true) (h1 : (cellsL v).all (·.oneCell') = true)
    {L' : Hp} (hL : setE L n (spl cs o (cellsL v)) = L') (k : WL P w0 L0 opl Q rest (putn l d undef) L') : WL P w0 L0 opl Q (⟨d, .store t x y, ty, ps, af, g⟩ :: rest) l L := r_store hx hy rfl hn hsz (Nat.le_of_ble_eq_true hfit) h1 hw (hL ▸ k)
theorem o_build0 {t : TypeId} {qs : List (Nat × Operand)} {pl : Nat → Option (Nat × Nat)} {z cs : List Value} {vs : List (Nat × Value)} [h : StructT P t pl z] (hw : wantL opl l g = some true) (hx : evp l qs = some vs) (hf : fillS pl z vs = some cs)
    (k : WL P w0 L0 opl Q rest (putn l d (valL cs)) L) : WL P w0 L0 opl Q (⟨d, .build t qs.toArray, ty, ps, af, g⟩ :: rest) l L := r_v hw (y_build hx hf) k
theorem o_build {t : TypeId} {qs : List (Nat × Operand)} {pl : Nat → Option (Nat × Nat)} {z cs cs' : List Value} {vs : List (Nat × Value)} [h : StructT P t pl z] (hw : wantL opl l g = some true) (hx : evp l qs = some vs) (hf : fillS pl z vs = some cs) (hc : cs = cs')
    (k : WL P w0 L0 opl Q rest (putn l d (valL cs')) L) : WL P w0 L0 opl Q (⟨d, .build t qs.toArray, ty, ps, af, g⟩ :: rest) l L := o_build0 hw hx hf (hc ▸ k)
theorem o_not {t : TypeId} {x : Operand} {b : Bool} (hw : wantL opl l g = some true) (hx : ev l x = some (.bool b)) (k : WL P w0 L0 opl Q rest (putn l d (.bool !b)) L) : WL P w0 L0 opl Q (⟨d, .unOp .not t x, ty, ps, af, g⟩ :: rest) l L := r_v hw (y_not hx) k
theorem o_nilCheck {x : Operand} {p : Addr} (hw : wantL opl l g = some true) (hx : ev l x = some (.pointer (some p))) (k : WL P w0 L0 opl Q rest (putn l d (.pointer (some p))) L) : WL P w0 L0 opl Q (⟨d, .nilCheck x, ty, ps, af, g⟩ :: rest) l L := r_v hw (y_nilCheck hx) k
theorem o_indexArr {t : TypeId} {x i : Operand} {n e size b o : Nat} {kk : IntKind} {z : Int} [h : ArrayT P t n e size] (hw : wantL opl l g = some true) (hx : ev l x = some (.pointer (some ⟨b, o, none⟩)))
    (hi : ev l i = some (.int kk z)) (h0 : 0 ≤ z) (h1 : z < n) {oo : Nat} (ho : o + z.toNat * size = oo) (k : WL P w0 L0 opl Q rest (putn l d (.pointer (some ⟨b, oo, none⟩))) L) : WL P w0 L0 opl Q (⟨d, .indexAddr t x i, ty, ps, af, g⟩ :: rest) l L := r_v hw (ho ▸ y_indexArr hx hi h0 h1) k
theorem o_indexSl {t : TypeId} {x i : Operand} {e size b o len cap : Nat} {kk : IntKind} {z : Int} [h : SliceT P t e size] (hw : wantL opl l g = some true) (hx : ev l x = some (.slice (some ⟨b, o, none⟩) len cap))
    (hi : ev l i = some (.int kk z)) (h0 : 0 ≤ z) (h1 : z < len) {oo : Nat} (ho : o + z.toNat * size = oo) (k : WL P w0 L0 opl Q rest (putn l d (.pointer (some ⟨b, oo, none⟩))) L) : WL P w0 L0 opl Q (⟨d, .indexAddr t x i, ty, ps, af, g⟩ :: rest) l L := r_v hw (ho ▸ y_indexSl hx hi h0 h1) k
theorem o_lenSl {t e size : Nat} {x : Operand} {p : Option Addr} {len cap : Nat} [h : SliceT P t e size] (hw : wantL opl l g = some true) (hx : ev l x = some (.slice p len cap)) (k : WL P w0 L0 opl Q rest (putn l d (.int .i64 len)) L) :
    WL P w0 L0 opl Q (⟨d, .call { callee := .builtin .len, args := #[x], argTypes := #[t] }, ty, ps, af, g⟩ :: rest) l L := r_v hw (y_lenSl hx) k
theorem o_alloc {t : TypeId} {z : List Value} [h : ZeroT P t z] (hw : wantL opl l g = some true) {L' : Nat → Hp} (hL : ∀ b, L ++ [⟨b, true, t, z⟩] = L' b)
    (k : ∀ b, w0.heap.size ≤ b → WL P w0 L0 opl Q rest (putn l d (.pointer (some ⟨b, 0, none⟩))) (L' b)) : WL P w0 L0 opl Q (⟨d, .alloc t, ty, ps, af, g⟩ :: rest) l L := r_alloc hw fun b hb => hL b ▸ k b hb
theorem o_make {t e size bytes n' c' : Nat} {z : List Value} {x y : Operand} {kl kc : IntKind} {n c : Int} [h : ElemT P t e z size bytes] (hw : wantL opl l g = some true) (hx : ev l x = some (.int kl n)) (hy : ev l y = some (.int kc c))
    (h0 : 0 ≤ n) (hnc : n ≤ c) (hb : (bytes : Int) * c ≤ 281474976710656) (h63 : c ≤ 9223372036854775807) (hn' : n.toNat = n') (hc' : c.toNat = c') {L' : Nat → Hp} (hL : ∀ b, L ++ [⟨b, true, e, zrep c' z⟩] = L' b)
    (k : ∀ b, w0.heap.size ≤ b → WL P w0 L0 opl Q rest (putn l d (.slice (some ⟨b, 0, none⟩) n' c')) (L' b)) : WL P w0 L0 opl Q (⟨d, .makeSlice t x y, ty, ps, af, g⟩ :: rest) l L := by
  subst hn'; subst hc'; exact r_make hw hx hy h0 hnc hb h63 fun b hb => hL b ▸ k b hb
theorem o_buildSlice {t e size bytes n : Nat} {z cs : List Value} {qs : List (Nat × Operand)} {vs : List (Nat × Value)} [h : ElemT P t e z size bytes] (hw : wantL opl l g = some true) (hx : evp l qs = some vs)
    (hn : Nat.ble (n * size) 16777216 = true) (hf : fillS (fun i => some (i * size, size)) (zrep n z) vs = some cs) {L' : Nat → Hp} (hL : ∀ b, L ++ [⟨b, true, e, cs⟩] = L' b)
    (k : ∀ b, w0.heap.size ≤ b → WL P w0 L0 opl Q rest (putn l d (.slice (some ⟨b, 0, none⟩) n n)) (L' b)) : WL P w0 L0 opl Q (⟨d, .buildSlice t n qs.toArray, ty, ps, af, g⟩ :: rest) l L := r_buildSlice hw hx (Nat.le_of_ble_eq_true hn) hf fun b hb => hL b ▸ k b hb
section ints
variable {t t2 : TypeId} {x y : Operand} {kk : IntKind} {m n : Int}
theorem o_add (hw : wantL opl l g = some true) (hx : ev l x = some (.int kk m)) (hy : ev l y = some (.int kk n)) {r : Int} (hr : m + n = r) (h : inK kk r) (k : WL P w0 L0 opl Q rest (putn l d (.int kk r)) L) : WL P w0 L0 opl Q (⟨d, .binOp .add t x y t2, ty, ps, af, g⟩ :: rest) l L := r_v hw (hr ▸ y_addB hx hy (hr ▸ h)) k
theorem o_sub (hw : wantL opl l g = some true) (hx : ev l x = some (.int kk m)) (hy : ev l y = some (.int kk n)) {r : Int} (hr : m - n = r) (h : inK kk r) (k : WL P w0 L0 opl Q rest (putn l d (.int kk r)) L) : WL P w0 L0 opl Q (⟨d, .binOp .sub t x y t2, ty, ps, af, g⟩ :: rest) l L := r_v hw (hr ▸ y_subB hx hy (hr ▸ h)) k
theorem o_mul (hw : wantL opl l g = some true) (hx : ev l x = some (.int kk m)) (hy : ev l y = some (.int kk n)) {r : Int} (hr : m * n = r) (h : inK kk r) (k : WL P w0 L0 opl Q rest (putn l d (.int kk r)) L) : WL P w0 L0 opl Q (⟨d, .binOp .mul t x y t2, ty, ps, af, g⟩ :: rest) l L := r_v hw (hr ▸ y_mulB hx hy (hr ▸ h)) k
theorem o_addW (hw : wantL opl l g = some true) (hx : ev l x = some (.int kk m)) (hy : ev l y = some (.int kk n)) (k : WL P w0 L0 opl Q rest (putn l d (.int kk (kk.wrap (m + n)))) L) : WL P w0 L0 opl Q (⟨d, .binOp .add t x y t2, ty, ps, af, g⟩ :: rest) l L := r_v hw (y_add hx hy) k
theorem o_subW (hw : wantL opl l g = some true) (hx : ev l x = some (.int kk m)) (hy : ev l y = some (.int kk n)) (k : WL P w0 L0 opl Q rest (putn l d (.int kk (kk.wrap (m - n)))) L) : WL P w0 L0 opl Q (⟨d, .binOp .sub t x y t2, ty, ps, af, g⟩ :: rest) l L := r_v hw (y_sub hx hy) k
theorem o_mulW (hw : wantL opl l g = some true) (hx : ev l x = some (.int kk m)) (hy : ev l y = some (.int kk n)) (k : WL P w0 L0 opl Q rest (putn l d (.int kk (kk.wrap (m * n)))) L) : WL P w0 L0 opl Q (⟨d, .binOp .mul t x y t2, ty, ps, af, g⟩ :: rest) l L := r_v hw (y_mul hx hy) k
theorem o_lss_t (hw : wantL opl l g = some true) (hx : ev l x = some (.int kk m)) (hy : ev l y = some (.int kk n)) (hp : m < n) (k : WL P w0 L0 opl Q rest (putn l d (.bool true)) L) : WL P w0 L0 opl Q (⟨d, .binOp .lss t x y t2, ty, ps, af, g⟩ :: rest) l L := r_true hp hw (y_lss hx hy) k
theorem o_lss_f (hw : wantL opl l g = some true) (hx : ev l x = some (.int kk m)) (hy : ev l y = some (.int kk n)) (hp : ¬ (m < n)) (k : WL P w0 L0 opl Q rest (putn l d (.bool false)) L) : WL P w0 L0 opl Q (⟨d, .binOp .lss t x y t2, ty, ps, af, g⟩ :: rest) l L := r_false hp hw (y_lss hx hy) k
theorem o_lss_s (hw : wantL opl l g = some true) (hx : ev l x = some (.int kk m)) (hy : ev l y = some (.int kk n)) (kt : m < n → WL P w0 L0 opl Q rest (putn l d (.bool true)) L) (kf : ¬ (m < n) → WL P w0 L0 opl Q rest (putn l d (.bool false)) L) : WL P w0 L0 opl Q (⟨d, .binOp .lss t x y t2, ty, ps, af, g⟩ :: rest) l L := r_split hw (y_lss hx hy) kt kf
theorem o_leq_t (hw : wantL opl l g = some true) (hx : ev l x = some (.int kk m)) (hy : ev l y = some (.int kk n)) (hp : m ≤ n) (k : WL P w0 L0 opl Q rest (putn l d (.bool true)) L) : WL P w0 L0 opl Q (⟨d, .binOp .leq t x y t2, ty, ps, af, g⟩ :: rest) l L := r_true hp hw (y_leq hx hy) k
theorem o_leq_f (hw : wantL opl l g = some true) (hx : ev l x = some (.int kk m)) (hy : ev l y = some (.int kk n)) (hp : ¬ (m ≤ n)) (k : WL P w0 L0 opl Q rest (putn l d (.bool false)) L) : WL P w0 L0 opl Q (⟨d, .binOp .leq t x y t2, ty, ps, af, g⟩ :: rest) l L := r_false hp hw (y_leq hx hy) k
theorem o_leq_s (hw : wantL opl l g = some true) (hx : ev l x = some (.int kk m)) (hy : ev l y = some (.int kk n)) (kt : m ≤ n → WL P w0 L0 opl Q rest (putn l d (.bool true)) L) (kf : ¬ (m ≤ n) → WL P w0 L0 opl Q rest (putn l d (.bool false)) L) : WL P w0 L0 opl Q (⟨d, .binOp .leq t x y t2, ty, ps, af, g⟩ :: rest) l L := r_split hw (y_leq hx hy) kt kf
theorem o_gtr_t (hw : wantL opl l g = some true) (hx : ev l x = some (.int kk m)) (hy : ev l y = some (.int kk n)) (hp : n < m) (k : WL P w0 L0 opl Q rest (putn l d (.bool true)) L) : WL P w0 L0 opl Q (⟨d, .binOp .gtr t x y t2, ty, ps, af, g⟩ :: rest) l L := r_true hp hw (y_gtr hx hy) k
theorem o_gtr_f (hw : wantL opl l g = some true) (hx : ev l x = some (.int kk m)) (hy : ev l y = some (.int kk n)) (hp : ¬ (n < m)) (k : WL P w0 L0 opl Q rest (putn l d (.bool false)) L) : WL P w0 L0 opl Q (⟨d, .binOp .gtr t x y t2, ty, ps, af, g⟩ :: rest) l L := r_false hp hw (y_gtr hx hy) k
theorem o_gtr_s (hw : wantL opl l g = some true) (hx : ev l x = some (.int kk m)) (hy : ev l y = some (.int kk n)) (kt : n < m → WL P w0 L0 opl Q rest (putn l d (.bool true)) L) (kf : ¬ (n < m) → WL P w0 L0 opl Q rest (putn l d (.bool false)) L) : WL P w0 L0 opl Q (⟨d, .binOp .gtr t x y t2, ty, ps, af, g⟩ :: rest) l L := r_split hw (y_gtr hx hy) kt kf
theorem o_geq_t (hw : wantL opl l g = some true) (hx : ev l x = some (.int kk m)) (hy : ev l y = some (.int kk n)) (hp : n ≤ m) (k : WL P w0 L0 opl Q rest (putn l d (.bool true)) L) : WL P w0 L0 opl Q (⟨d, .binOp .geq t x y t2, ty, ps, af, g⟩ :: rest) l L := r_true hp hw (y_geq hx hy) k
theorem o_geq_f (hw : wantL opl l g = some true) (hx : ev l x = some (.int kk m)) (hy : ev l y = some (.int kk n)) (hp : ¬ (n ≤ m)) (k : WL P w0 L0 opl Q rest (putn l d (.bool false)) L) : WL P w0 L0 opl Q (⟨d, .binOp .geq t x y t2, ty, ps, af, g⟩ :: rest) l L := r_false hp hw (y_geq hx hy) k
theorem o_geq_s (hw : wantL opl l g = some true) (hx : ev l x = some (.int kk m)) (hy : ev l y = some (.int kk n)) (kt : n ≤ m → WL P w0 L0 opl Q rest (putn l d (.bool true)) L) (kf : ¬ (n ≤ m) → WL P w0 L0 opl Q rest (putn l d (.bool false)) L) : WL P w0 L0 opl Q (⟨d, .binOp .geq t x y t2, ty, ps, af, g⟩ :: rest) l L := r_split hw (y_geq hx hy) kt kf
theorem o_eql_t (hw : wantL opl l g = some true) (hx : ev l x = some (.int kk m)) (hy : ev l y = some (.int kk n)) (hp : m = n) (k : WL P w0 L0 opl Q rest (putn l d (.bool true)) L) : WL P w0 L0 opl Q (⟨d, .binOp .eql t x y t2, ty, ps, af, g⟩ :: rest) l L := r_true hp hw (y_eql hx hy) k
theorem o_eql_f (hw : wantL opl l g = some true) (hx : ev l x = some (.int kk m)) (hy : ev l y = some (.int kk n)) (hp : ¬ (m = n)) (k : WL P w0 L0 opl Q rest (putn l d (.bool false)) L) : WL P w0 L0 opl Q (⟨d, .binOp .eql t x y t2, ty, ps, af, g⟩ :: rest) l L := r_false hp hw (y_eql hx hy) k
theorem o_eql_s (hw : wantL opl l g = some true) (hx : ev l x = some (.int kk m)) (hy : ev l y = some (.int kk n)) (kt : m = n → WL P w0 L0 opl Q rest (putn l d (.bool true)) L) (kf : ¬ (m = n) → WL P w0 L0 opl Q rest (putn l d (.bool false)) L) : WL P w0 L0 opl Q (⟨d, .binOp .eql t x y t2, ty, ps, af, g⟩ :: rest) l L := r_split hw (y_eql hx hy) kt kf
theorem o_neq_t (hw : wantL opl l g = some true) (hx : ev l x = some (.int kk m)) (hy : ev l y = some (.int kk n)) (hp : ¬ m = n) (k : WL P w0 L0 opl Q rest (putn l d (.bool true)) L) : WL P w0 L0 opl Q (⟨d, .binOp .neq t x y t2, ty, ps, af, g⟩ :: rest) l L := r_true hp hw (y_neq hx hy) k
theorem o_neq_f (hw : wantL opl l g = some true) (hx : ev l x = some (.int kk m)) (hy : ev l y = some (.int kk n)) (hp : ¬ (¬ m = n)) (k : WL P w0 L0 opl Q rest (putn l d (.bool false)) L) : WL P w0 L0 opl Q (⟨d, .binOp .neq t x y t2, ty, ps, af, g⟩ :: rest) l L := r_false hp hw (y_neq hx hy) k
theorem o_neq_s (hw : wantL opl l g = some true) (hx : ev l x = some (.int kk m)) (hy : ev l y = some (.int kk n)) (kt : ¬ m = n → WL P w0 L0 opl Q rest (putn l d (.bool true)) L) (kf : ¬ (¬ m = n) → WL P w0 L0 opl Q rest (putn l d (.bool false)) L) : WL P w0 L0 opl Q (⟨d, .binOp .neq t x y t2, ty, ps, af, g⟩ :: rest) l L := r_split hw (y_neq hx hy) kt kf
end ints
end byop
theorem n_WL {P : Program} {w0 : World} {L0 : Hp} {opl : List Oper} {Q : Exit → Act → World → Prop} {rest : List Oper} {l : Fr} {L L' : Hp} (h : L = L') (k : WL P w0 L0 opl Q rest l L') : WL P w0 L0 opl Q rest l L := h ▸ k
theorem n_WC {P : Program} {w0 : World} {L0 : Hp} {c : Code} {Q : Exit → Act → World → Prop} {l : Fr} {L L' : Hp} (h : L = L') (k : WC P w0 L0 c Q l L') : WC P w0 L0 c Q l L := h ▸ k
/-! ### A statement that leaves its order open -/
def NP (Q : Exit → Act → World → Prop) : Prop := ∀ c a w, ¬ Q (.panic c) a w
theorem np_body {P : Program} {fn : Func} {w0 : World} {L0 : Hp} {R : Value → Hp → Prop} : NP (bodyPost P fn (FR w0 L0 R)) := fun _ _ _ h => by
  obtain ⟨_, v, Lo, h1, _⟩ := h
  cases h1
theorem np_then {K : Act → World → Prop} {Q : Exit → Act → World → Prop} (h : NP Q) : NP (Exit.then K Q) := fun c a w hq => h c a w hq
theorem np_blk {i : Nat} {Q : Exit → Act → World → Prop} (h : NP Q) : NP (Exit.inBlock i Q) := fun c a w hq => h c a w hq
def WA (P : Program) (w0 : World) (L0 : Hp) (opl : List Oper) (Q : Exit → Act → World → Prop) (Ls : Hp) (fuel : Nat) (listed : Array Bool) (l : Fr) (L : Hp) : Prop :=
  ∀ a w, Ag l a → St w0 L0 L w → wpAnyH P .any opl.toArray Q (fun w => St w0 L0 Ls w) fuel listed a w
def AW (P : Program) (w0 : World) (L0 : Hp) (opl : List Oper) (Q : Exit → Act → World → Prop) (Ls : Hp) (fuel : Nat) (listed : Array Bool) (a : Act) (w : World) : Prop :=
  St w0 L0 Ls w ∧ wpAnyH P .any opl.toArray Q (fun w => St w0 L0 Ls w) fuel listed a w
section anyorder
variable {P : Program} {w0 : World} {L0 : Hp} {opl : List Oper} {Q : Exit → Act → World → Prop} {l : Fr} {L Ls : Hp} {fuel : Nat} {listed : Array Bool}
variable {d : Option Tmp} {op : Op} {ty : TypeId} {ps : String} {af : Array Edge} {g : Option (Nat × Bool)}
/-- 'n': how many blocks, from the first on, the statement does not write. -/
theorem c_drawn (n : Nat) {id : Nat} (hm : P.follows .mixedOrders = true) (h : WA P w0 L0 opl Q (L.take n) opl.length (Array.replicate opl.length false) l L) : WC P w0 L0 (.region id opl.toArray true) Q l L :=
  fun a _ ha hS => wp_region_held hm (h a _ ha hS.drawn)
theorem a_take (i : Nat) {v : Value} (hi : nthL opl i = some ⟨d, op, ty, ps, af, g⟩) (hs : Region.noSelect opl.toArray = true) (hf : Region.free .any opl.toArray listed i = true) (hr : (Region.ready .any opl.toArray listed).contains i = true)
    (hQ : NP Q) (hL : ∃ X, Ls ++ X = L) (hw : wantL opl l g = some true) (hy : Yv P w0 L0 l Ls op v) (k : WA P w0 L0 opl Q Ls fuel (listed.setIfInBounds i true) (putn l d v) L) : WA P w0 L0 opl Q Ls (fuel + 1) listed l L :=
  fun a _ ha hS => wpAnyH_take (by rw [nthL_eq] at hi; simpa using hi) hs hf hr (fun c _ w h => (hQ c _ w h).elim)
    (.inl ⟨wanted_of (o := ⟨d, op, ty, ps, af, g⟩) hw ha, fun w hw => hy a w ha hw d ty ps af g⟩) (by obtain ⟨X, rfl⟩ := hL; exact hS.sub (List.sublist_append_left _ _)) (k _ _ (ha.put d v) hS)
theorem a_skip (i : Nat) (hi : nthL opl i = some ⟨d, op, ty, ps, af, g⟩) (hs : Region.noSelect opl.toArray = true) (hf : Region.free .any opl.toArray listed i = true) (hr : (Region.ready .any opl.toArray listed).contains i = true)
    (hQ : NP Q) (hL : ∃ X, Ls ++ X = L) (hw : wantL opl l g = some false) (k : WA P w0 L0 opl Q Ls fuel (listed.setIfInBounds i true) (putn l d undef) L) : WA P w0 L0 opl Q Ls (fuel + 1) listed l L :=
  fun _ _ ha hS => wpAnyH_take (v := undef) (by rw [nthL_eq] at hi; simpa using hi) hs hf hr (fun c _ w h => (hQ c _ w h).elim)
    (.inr ⟨wanted_of (o := ⟨d, op, ty, ps, af, g⟩) hw ha, rfl⟩) (by obtain ⟨X, rfl⟩ := hL; exact hS.sub (List.sublist_append_left _ _)) (k _ _ (ha.put d undef) hS)
theorem wpOp_of_list {i : Nat} {o : Oper} {K : Act → World → Prop} {a : Act} {w : World} (hi : nthL opl i = some o) (h : wpList P opl.toArray (Exit.then K Q) [o] a w) : wpOp P opl.toArray Q i K a w := by
  have hi' : opl.toArray[i]? = some o := by rw [nthL_eq] at hi; simpa using hi
  unfold wpOp
  simp only [hi']
  unfold wpList at h
  split at h
  · rename_i hw
    rw [if_pos hw]
    rcases h with h | ⟨h1, h2⟩
    · left
      revert h
      unfold Oper.wp Oper.upon
      split <;> intro h <;> exact h
    · right; exact ⟨h1, h2⟩
  · rename_i hw
    rw [if_neg hw]; exact h
theorem a_step (i : Nat) {o : Oper} (hr : Region.ready .any opl.toArray listed = [i]) (hi : nthL opl i = some o) (h : WL P w0 L0 opl (Exit.then (AW P w0 L0 opl Q Ls fuel (listed.setIfInBounds i true)) Q) [o] l L) : WA P w0 L0 opl Q Ls (fuel + 1) listed l L :=
  fun a w ha hS => wpAnyH_all hr (by simp) fun j hj => by
    obtain rfl : j = i := by simpa using hj
    exact wpOp_of_list hi (h a w ha hS)
theorem a_step2 (i i2 : Nat) {o o2 : Oper} (hr : Region.ready .any opl.toArray listed = [i, i2]) (hi : nthL opl i = some o) (hi2 : nthL opl i2 = some o2)
    (h : WL P w0 L0 opl (Exit.then (AW P w0 L0 opl Q Ls fuel (listed.setIfInBounds i true)) Q) [o] l L) (h2 : WL P w0 L0 opl (Exit.then (AW P w0 L0 opl Q Ls fuel (listed.setIfInBounds i2 true)) Q) [o2] l L) : WA P w0 L0 opl Q Ls (fuel + 1) listed l L :=
  fun a w ha hS => wpAnyH_all hr (by simp) fun j hj => by
    have : j = i ∨ j = i2 := by simpa using hj
    rcases this with rfl | rfl
    · exact wpOp_of_list hi (h a w ha hS)
    · exact wpOp_of_list hi2 (h2 a w ha hS)
theorem q_any (hL : ∃ X, Ls ++ X = L) (k : WA P w0 L0 opl Q Ls fuel listed l L) : WQ w0 L0 (Exit.then (AW P w0 L0 opl Q Ls fuel listed) Q) .normal l L :=
  fun a w ha hS => ⟨by obtain ⟨X, rfl⟩ := hL; exact hS.sub (List.sublist_append_left _ _), k a w ha hS⟩
theorem a_done (hr : Region.ready .any opl.toArray listed = []) (k : WQ w0 L0 Q .normal l L) : WA P w0 L0 opl Q Ls fuel listed l L :=
  fun a w ha hS => wpAnyH_done hr (k a w ha hS) fuel
end anyorder

attribute [irreducible] WL WC WQ WR Yv Does RV WA AW NP
end Go.Hc
