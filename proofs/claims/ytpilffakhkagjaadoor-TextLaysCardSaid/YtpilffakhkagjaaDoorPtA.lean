/- The engine, part A: frames as lists with holes; the facts of types that the walk asks for. No program in sight. -/
import Derived.WalkKit
import Derived.Deep.RegionHeld
import Derived.Deep.AppendLies
import Derived.KernelRfl
namespace Go.Pt
open Go Go.RowKit

/-! ### Lists read and written by place -/
def nthL {α : Type} : List α → Nat → Option α
  | [], _ => none
  | v :: _, 0 => some v
  | _ :: l, n + 1 => nthL l n
def setL {α : Type} : List α → Nat → α → List α
  | [], _, _ => []
  | _ :: l, 0, v => v :: l
  | x :: l, n + 1, v => x :: setL l n v
theorem nthL_eq {α : Type} : ∀ (l : List α) (n : Nat), nthL l n = l[n]?
  | [], _ => by simp [nthL]
  | _ :: _, 0 => by simp [nthL]
  | _ :: l, n + 1 => by simp [nthL, nthL_eq l n]
theorem setL_eq {α : Type} : ∀ (l : List α) (n : Nat) (v : α), setL l n v = l.set n v
  | [], _, _ => rfl
  | _ :: _, 0, _ => rfl
  | x :: l, n + 1, v => by simp [setL, setL_eq l n v]
theorem mem_of_nthL {α : Type} {l : List α} {n : Nat} {v : α} (h : nthL l n = some v) : v ∈ l := by
  rw [nthL_eq] at h; exact List.mem_of_getElem? h

/-! ### Frames -/
/-- What is known of a frame: how many slots; slots and their values, the newest first. -/
structure Fr where
  n : Nat
  kv : List (Nat × Value)
def look : List (Nat × Value) → Nat → Option Value
  | [], _ => none
  | (d, v) :: r, i => match Nat.beq d i with
    | true => some v
    | false => look r i
def nth (l : Fr) (i : Nat) : Option Value := match Nat.blt i l.n with
  | true => look l.kv i
  | false => none
def setn (l : Fr) (d : Nat) (v : Value) : Fr := ⟨l.n, (d, v) :: l.kv⟩
def putn (l : Fr) : Option Tmp → Value → Fr
  | some d, v => setn l d v
  | none, _ => l
theorem look_cons (d : Nat) (v : Value) (r : List (Nat × Value)) (i : Nat) : look ((d, v) :: r) i = if d = i then some v else look r i := by
  simp only [look]
  by_cases h : d = i
  · subst h; simp
  · have : Nat.beq d i = false := by rw [Bool.eq_false_iff]; intro hb; exact h (Nat.eq_of_beq_eq_true hb)
    simp [this, h]
theorem nth_eq (l : Fr) (i : Nat) : nth l i = if i < l.n then look l.kv i else none := by
  unfold nth
  by_cases h : i < l.n
  · have : Nat.blt i l.n = true := by simpa [Nat.blt_eq] using h
    simp [this, h]
  · have : Nat.blt i l.n = false := by rw [Bool.eq_false_iff]; intro hb; exact h (by simpa [Nat.blt_eq] using hb)
    simp [this, h]

structure Ag (l : Fr) (a : Act) : Prop where
  defers : a.defers = []
  size : a.tmps.size = l.n
  slots : ∀ i v, nth l i = some v → a.tmps[i]? = some v

def ev (l : Fr) : Operand → Option Value
  | .tmp t => nth l t
  | .const v => some v
  | .global g => some (.pointer (some ⟨g, 0, none⟩))
  | .func f => some (.func (.func f) #[] #[])
theorem Ag.eval {l : Fr} {a : Act} {x : Operand} {v : Value} (h : Ag l a) (hx : ev l x = some v) : a.eval x = v := by
  cases x with
  | tmp t => simp only [ev] at hx; simp [Act.eval, h.slots t v hx]
  | const u => simpa [ev, Act.eval] using hx
  | global g => simpa [ev, Act.eval] using hx
  | func f => simpa [ev, Act.eval] using hx
def evs (l : Fr) : List Operand → Option (List Value)
  | [] => some []
  | x :: xs => match ev l x, evs l xs with
    | some v, some vs => some (v :: vs)
    | _, _ => none
theorem Ag.evals {l : Fr} {a : Act} (h : Ag l a) : ∀ {xs : List Operand} {vs : List Value}, evs l xs = some vs → xs.map a.eval = vs
  | [], vs, hx => by simp [evs] at hx; simp [← hx]
  | x :: xs, vs, hx => by
    simp only [evs] at hx
    split at hx
    · rename_i v us h1 h2
      cases hx
      simp [h.eval h1, h.evals h2]
    · cases hx
theorem Ag.put {l : Fr} {a : Act} (h : Ag l a) (d : Option Tmp) (v : Value) : Ag (putn l d v) (a.put d v) := by
  cases d with
  | none => exact h
  | some d =>
    refine ⟨h.defers, by simp [Act.put, putn, setn, h.size], fun i u hu => ?_⟩
    rw [nth_eq] at hu
    simp only [putn, setn, look_cons] at hu
    simp only [Act.put, Array.getElem?_setIfInBounds]
    split at hu
    · rename_i hlt
      split at hu
      · rename_i hd
        subst hd
        cases hu
        simp [h.size, hlt]
      · rename_i hd
        rw [if_neg hd]
        exact h.slots i u (by rw [nth_eq, if_pos hlt]; exact hu)
    · cases hu


/-! ### Types -/
class ScalarT (P : Program) (t : TypeId) : Prop where
  run : ∀ w, (isAgg t).run P w = .ok false w
class AggT (P : Program) (t : TypeId) (n : outParam Nat) : Prop where
  run : ∀ w, (isAgg t).run P w = .ok true w
class SizeT (P : Program) (t : TypeId) (n : outParam Nat) : Prop where
  run : ∀ w, (sizeOf t).run P w = .ok n w
class ZeroT (P : Program) (t : TypeId) (z : outParam (List Value)) : Prop where
  run : ∀ w, ∃ v : Value, v.cells = z.toArray ∧ (zeroValue t).run P w = .ok v w
class FieldT (P : Program) (s : TypeId) (i : Nat) (off : outParam Nat) (ft : outParam TypeId) : Prop where
  run : ∃ fs : Array Field, P.underlying s = some (.struct fs) ∧ ∃ f, fs[i]? = some f ∧ f.offset = off ∧ f.type = ft
  size : ∃ k, k ≠ 0 ∧ ∀ w, (sizeOf ft).run P w = .ok k w
class ArrayT (P : Program) (t : TypeId) (n : outParam Nat) (e : outParam TypeId) (size : outParam Nat) : Prop where
  run : P.underlying t = some (.array n e)
  size : ∀ w, (sizeOf e).run P w = .ok size w
class SliceT (P : Program) (t : TypeId) (e : outParam TypeId) (size : outParam Nat) : Prop where
  run : P.underlying t = some (.slice e)
  size : ∀ w, (sizeOf e).run P w = .ok size w
class CallT (P : Program) (f : FuncId) : Prop where
  run : ∀ args w, (callFunc f args).run P w = .ok (.enter f args) w

def valL : List Value → Value := fun cs => .agg cs.toArray


/-- Bounds of the kinds, for 'omega'. -/
def inK (k : IntKind) (x : Int) : Prop := match k with
  | .i8 => -128 ≤ x ∧ x ≤ 127 | .i16 => -32768 ≤ x ∧ x ≤ 32767 | .i32 => -2147483648 ≤ x ∧ x ≤ 2147483647 | .i64 => -9223372036854775808 ≤ x ∧ x ≤ 9223372036854775807
  | .u8 => 0 ≤ x ∧ x ≤ 255 | .u16 => 0 ≤ x ∧ x ≤ 65535 | .u32 => 0 ≤ x ∧ x ≤ 4294967295 | .u64 => 0 ≤ x ∧ x ≤ 18446744073709551615
theorem wrap_in {k : IntKind} {x : Int} (h : inK k x) : k.wrap x = x := by
  cases k <;> simp only [inK] at h <;> simp [IntKind.wrap, IntKind.bits, IntKind.signed] <;> omega


/-! structs and arrays as values -/
def spl : List Value → Nat → List Value → List Value
  | cs, 0, vs => vs ++ cs.drop vs.length
  | [], _ + 1, _ => []
  | c :: cs, n + 1, vs => c :: spl cs n vs
theorem spl_eq : ∀ (cs : List Value) (o : Nat) (vs : List Value), o ≤ cs.length → spl cs o vs = cs.take o ++ vs ++ cs.drop (o + vs.length)
  | cs, 0, vs, _ => by simp [spl]
  | [], _ + 1, _, h => by simp at h
  | c :: cs, n + 1, vs, h => by simp [spl, spl_eq cs n vs (by simpa using h), Nat.add_right_comm]
def cellsL : Value → List Value
  | .agg cs => cs.toList
  | v => [v]
theorem cellsL_eq (v : Value) : v.cells = (cellsL v).toArray := by cases v <;> simp [Value.cells, cellsL]

/-- The cells of a struct's or array's literal: parts laid over noughts. -/
def fillS : (Nat → Option (Nat × Nat)) → List Value → List (Nat × Value) → Option (List Value)
  | _, cs, [] => some cs
  | pl, cs, (i, v) :: rest => match pl i with
    | none => none
    | some (off, size) => if ((cellsL v).length == size && Nat.ble (off + size) cs.length) = true then fillS pl (spl cs off (cellsL v)) rest else none
theorem foldl_spl (off : Nat) : ∀ (vs : List Value) (j : Nat) (cs : List Value), off + j + vs.length ≤ cs.length →
    ((vs.zipIdx j).foldl (fun (acc : Array Value) (x : Value × Nat) => acc.setIfInBounds (off + x.2) x.1) cs.toArray).toList = spl cs (off + j) vs
  | [], j, cs, h => by
    simp only [List.zipIdx_nil, List.foldl_nil]
    rw [spl_eq cs (off + j) [] (by simpa using h)]
    simp
  | v :: vs, j, cs, h => by
    simp only [List.zipIdx_cons, List.foldl_cons, List.setIfInBounds_toArray]
    have hl : off + (j + 1) + vs.length ≤ (cs.set (off + j) v).length := by simp at h ⊢; omega
    rw [foldl_spl off vs (j + 1) _ hl, spl_eq _ _ _ (by simp at h ⊢; omega), spl_eq _ _ _ (by simp at h; omega)]
    apply List.ext_getElem?
    intro k
    simp only [List.length_cons] at h
    simp only [List.getElem?_append, List.length_append, List.length_take, List.length_set, List.getElem?_take, List.getElem?_set, List.getElem?_drop, List.length_cons]
    rcases Nat.lt_trichotomy k (off + j) with hk | hk | hk
    · simp [show k < min (off + (j + 1)) cs.length + vs.length by omega, show k < min (off + (j + 1)) cs.length by omega, show k < off + (j + 1) by omega, show ¬ off + j = k by omega,
        show k < min (off + j) cs.length + (vs.length + 1) by omega, show k < min (off + j) cs.length by omega, hk]
    · subst hk
      simp [show off + j < min (off + (j + 1)) cs.length + vs.length by omega, show off + j < min (off + (j + 1)) cs.length by omega, show off + j < off + (j + 1) by omega, show off + j < cs.length by omega,
        show off + j < min (off + j) cs.length + (vs.length + 1) by omega, show ¬ off + j < min (off + j) cs.length by omega, show off + j - min (off + j) cs.length = 0 by omega]
    · by_cases h2 : k < off + j + 1 + vs.length
      · have e : k - min (off + j) cs.length = (k - min (off + (j + 1)) cs.length) + 1 := by omega
        simp [show k < min (off + (j + 1)) cs.length + vs.length by omega, show ¬ k < min (off + (j + 1)) cs.length by omega,
          show k < min (off + j) cs.length + (vs.length + 1) by omega, show ¬ k < min (off + j) cs.length by omega, e]
      · simp [show ¬ k < min (off + (j + 1)) cs.length + vs.length by omega, show ¬ k < min (off + j) cs.length + (vs.length + 1) by omega,
          show ¬ off + j = off + (j + 1) + vs.length + (k - (min (off + (j + 1)) cs.length + vs.length)) by omega]
        congr 1; omega
theorem fill_of_fillS (pl : Nat → Option (Nat × Nat)) : ∀ (ps : List (Nat × Value)) (cs out : List Value), fillS pl cs ps = some out → Instr.fill pl cs.toArray ps = some out.toArray
  | [], cs, out, h => by simp [fillS] at h; simp [Instr.fill, h]
  | (i, v) :: rest, cs, out, h => by
    simp only [fillS] at h
    cases hp : pl i with
    | none => simp [hp] at h
    | some q =>
      obtain ⟨off, size⟩ := q
      simp only [hp] at h
      split at h
      · rename_i hc
        simp only [Bool.and_eq_true, beq_iff_eq, Nat.ble_eq] at hc
        have ih := fill_of_fillS pl rest _ out h
        have hf := foldl_spl off (cellsL v) 0 cs (by omega)
        simp only [Nat.add_zero] at hf
        have hsz : v.cells.size = size := by rw [cellsL_eq]; simp [hc.1]
        simp only [Instr.fill, hp, hsz, List.size_toArray]
        rw [if_neg (by simp; omega)]
        rw [← ih]
        congr 1
        apply Array.toList_inj.1
        rw [← hf, cellsL_eq]
        simp [Array.zipIdx_toArray]
      · cases h


class StructT (P : Program) (t : TypeId) (pl : outParam (Nat → Option (Nat × Nat))) (z : outParam (List Value)) : Prop where
  run : ∀ w (parts : Array (Nat × Value)) (cs : Array Value), Instr.fill pl z.toArray parts.toList = some cs → (Instr.build t parts).run P w = .ok (.agg cs) w
theorem structT_mk {P : Program} {t : TypeId} {z : List Value} {fs : Array Field} {pl : Array (Nat × Nat)} [hz : ZeroT P t z] (hu : P.underlying t = some (.struct fs))
    (hp : ∀ w, (fs.mapM fun f => do pure (f.offset, ← sizeOf f.type) : Sem (Array (Nat × Nat))).run P w = .ok pl w) : StructT P t (fun i => pl[i]?) z where
  run w parts cs h := by
    obtain ⟨v, hv, hz⟩ := hz.run w
    have hp' := hp w
    simp only [Instr.build, Sem.run_bind, hz, Result.andThen_ok, run_underlying hu, hv] at hp' ⊢
    rw [hp']
    simp only [Result.andThen_ok, h, Sem.run_pure]
theorem arrayT_mk {P : Program} {t : TypeId} {z : List Value} {n e size : Nat} [hz : ZeroT P t z] (hu : P.underlying t = some (.array n e)) (hs : ∀ w, (sizeOf e).run P w = .ok size w) : StructT P t (fun i => some (i * size, size)) z where
  run w parts cs h := by
    obtain ⟨v, hv, hz⟩ := hz.run w
    simp only [Instr.build, Sem.run_bind, hz, Result.andThen_ok, run_underlying hu, hv, Sem.run_pure, hs, h]
def evp (l : Fr) : List (Nat × Operand) → Option (List (Nat × Value))
  | [] => some []
  | (i, x) :: xs => match ev l x, evp l xs with
    | some v, some vs => some ((i, v) :: vs)
    | _, _ => none
theorem Ag.evalp {l : Fr} {a : Act} (h : Ag l a) : ∀ {xs : List (Nat × Operand)} {vs : List (Nat × Value)}, evp l xs = some vs → xs.map (fun (i, x) => (i, a.eval x)) = vs
  | [], vs, hx => by simp [evp] at hx; simp [← hx]
  | (i, x) :: xs, vs, hx => by
    simp only [evp] at hx
    split at hx
    · rename_i v us h1 h2
      cases hx
      simp [h.eval h1, h.evalp h2]
    · cases hx

def wantL (opl : List Oper) (l : Fr) : Option (Nat × Bool) → Option Bool
  | none => some true
  | some (j, b) => match nthL opl j with
    | none => none
    | some o => match o.dst with
      | none => none
      | some d => match nth l d with
        | some (.bool b') => some (b' == b)
        | some (.tuple _) => some false
        | _ => none
theorem wanted_of {opl : List Oper} {l : Fr} {o : Oper} {b : Bool} {a : Act} (h : wantL opl l o.guard = some b) (ha : Ag l a) : Region.wanted o (yielded opl.toArray a.tmps) = b := by
  unfold Region.wanted
  cases hg : o.guard with
  | none => rw [hg] at h; simpa [wantL] using h
  | some q =>
    obtain ⟨j, want⟩ := q
    rw [hg] at h
    simp only [wantL, nthL_eq] at h
    simp only [yielded]
    cases hj : opl[j]? with
    | none => simp [hj] at h
    | some oj =>
      simp only [hj] at h
      cases hd : oj.dst with
      | none => simp [hd] at h
      | some d =>
        simp only [hd] at h
        cases hn : nth l d with
        | none => simp [hn] at h
        | some v =>
          have := ha.slots d v hn
          simp only [hn] at h
          cases v <;> simp_all


def leF (l : Fr) : List (Nat × Value) → Prop
  | [] => True
  | (d, v) :: r => nth l d = some v ∧ leF l r
theorem leF_nth {l : Fr} : ∀ {m : List (Nat × Value)}, leF l m → ∀ i v, look m i = some v → nth l i = some v
  | [], _, i, v, hv => by simp [look] at hv
  | (d, u) :: r, h, i, v, hv => by
    rw [look_cons] at hv
    split at hv
    · rename_i hd; subst hd; cases hv; exact h.1
    · exact leF_nth h.2 i v hv
theorem Ag.forget {l m : Fr} {a : Act} (h : Ag l a) (hl : m.n = l.n) (hf : leF l m.kv) : Ag m a := ⟨h.defers, by rw [h.size, hl], fun i v hv => by
  rw [nth_eq] at hv
  split at hv
  · exact h.slots i v (leF_nth hf i v hv)
  · cases hv⟩

def argsF : Nat → List Value → List (Nat × Value)
  | _, [] => []
  | i, v :: vs => (i, v) :: argsF (i + 1) vs
theorem look_argsF : ∀ (vs : List Value) (i j : Nat) (u : Value), look (argsF i vs) j = some u → i ≤ j ∧ vs[j - i]? = some u
  | [], i, j, u, h => by simp [argsF, look] at h
  | v :: vs, i, j, u, h => by
    rw [argsF, look_cons] at h
    split at h
    · rename_i hij; subst hij; cases h; simp
    · obtain ⟨h1, h2⟩ := look_argsF vs (i + 1) j u h
      refine ⟨by omega, ?_⟩
      rw [show j - i = (j - (i + 1)) + 1 by omega]
      simpa using h2
def mkFr (vs : List Value) (n : Nat) : Fr := ⟨n, argsF 0 vs⟩

section
variable {P : Program}
def rvF (a : Act) : ResultVar → Sem Value
  | .tmp t => pure (a.tmps.getD t undef)
  | .cell p t => do loadVar t (← asAddr (a.tmps.getD p undef))
theorem mapM_rv {a : Act} {w : World} {r : ResultVar} {v : Value} {rs : List ResultVar} {vs : List Value} (h1 : (rvF a r).run P w = .ok v w) (h2 : (rs.mapM (rvF a)).run P w = .ok vs w) : ((r :: rs).mapM (rvF a)).run P w = .ok (v :: vs) w := by
  rw [List.mapM_cons, Sem.run_bind, h1, Result.andThen_ok, Sem.run_bind, h2, Result.andThen_ok, Sem.run_pure]
end
def retVal : List Value → Value
  | [v] => v
  | vs => .tuple vs.toArray
theorem results_eq (fn : Func) (a : Act) : results fn a.tmps = (do let vs ← fn.results.mapM (rvF a); pure (if h : vs.size = 1 then vs[0] else .tuple vs)) := by
  unfold results
  congr 1

class ElemT (P : Program) (t : TypeId) (e : outParam TypeId) (z : outParam (List Value)) (size bytes : outParam Nat) : Prop where
  sl : P.underlying t = some (.slice e)
  info : ∃ i v, P.info? e = some i ∧ i.zero = some v ∧ v.cells = z.toArray ∧ i.size = size ∧ i.bytes = bytes
  len : z.length = size
  pos : 0 < size
def zrep : Nat → List Value → List Value
  | 0, _ => []
  | n + 1, z => z ++ zrep n z
theorem zrep_get (z : List Value) : ∀ (n i : Nat), i < n * z.length → (zrep n z)[i]? = z[i % z.length]?
  | 0, i, h => by simp at h
  | n + 1, i, h => by
    simp only [zrep]
    by_cases hi : i < z.length
    · rw [List.getElem?_append_left hi, Nat.mod_eq_of_lt hi]
    · rw [List.getElem?_append_right (by omega), zrep_get z n (i - z.length) (by rw [Nat.add_mul] at h; omega)]
      congr 1
      exact (Nat.mod_eq_sub_mod (by omega)).symm
theorem zrep_length (z : List Value) : ∀ n, (zrep n z).length = n * z.length
  | 0 => by simp [zrep]
  | n + 1 => by simp [zrep, zrep_length z n, Nat.add_mul]; omega
theorem madeCells_zrep (z : List Value) (n : Nat) (h : 0 < z.length) : madeCells z.toArray (n * z.length) = (zrep n z).toArray := by
  apply Array.ext_getElem?
  intro i
  by_cases hi : i < n * z.length
  · have hm : i % z.length < z.length := Nat.mod_lt _ h
    simp only [madeCells, Array.getElem?_map, List.getElem?_toArray, zrep_get z n i hi]
    rw [Array.getElem?_eq_getElem (by simpa using hi)]
    simp [hm]
  · rw [Array.getElem?_eq_none (by simp [size_madeCells]; omega), Array.getElem?_eq_none (by simp [zrep_length]; omega)]

section
variable {P : Program}
class NotIface (P : Program) (t : TypeId) : Prop where
  run : ∃ u, P.underlying t = some u ∧ (match u with | .interface _ => false | _ => true) = true
class PtrT (P : Program) (t : TypeId) : Prop where
  run : ∃ e, P.underlying t = some (.pointer e)
theorem run_ptr_nil {t e : TypeId} (he : P.underlying t = some (.pointer e)) (p : Option Addr) (w : World) : (Op.equal t (.pointer p) (.pointer none)).run P w = .ok p.isNone w := by
  have h : Op.equal t (.pointer p) (.pointer none) = Op.equalIn (9999 + 1) t (.pointer p) (.pointer none) := rfl
  rw [h, Op.equalIn]
  cases p <;> simp [run_underlying he]
/-- A method with a pointer for its receiver, called through an interface value that holds the pointer. -/
class MethP (P : Program) (t : TypeId) (name : String) (f : outParam FuncId) : Prop where
  run : ∀ a w, (method (P.types.size + Made.depth) t (.pointer (some a)) name).run P w = .ok (f, .pointer (some a)) w
/-- A method with a value for its receiver, called through an interface value that holds a pointer to it. -/
class MethV (P : Program) (t : TypeId) (name : String) (f : outParam FuncId) : Prop where
  run : ∀ a w v, w.cell? a = some v → (method (P.types.size + Made.depth) t (.pointer (some a)) name).run P w = .ok (f, v) w
theorem run_wrapChk {P : Program} (xt : TypeId) (a : Addr) (name : String) (w : World) : (Builtin.ssaWrapNilChk_ #[xt] xt #[.pointer (some a), strVal "", strVal name]).run P w = .ok (.pointer (some a)) w := rfl
theorem methV_mk {t f elem : Nat} {name : String} {info : TypeInfo} (hn : (P.types.size + Made.depth == (P.types.size + Made.depth - 1) + 1) = true) (hi : ∀ w, (typeInfo t).run P w = .ok info w) (hm : ((info.methods.find? (·.name == name)).any fun m => m.path == #[] && m.func == some (f, false)) = true)
    (hu : P.underlying t = some (.pointer elem)) [hs : ScalarT P elem] : MethV P t name f where
  run a w v hc := by
    have hn := eq_of_beq hn
    cases hq : info.methods.find? (·.name == name) with
    | none => rw [hq] at hm; simp at hm
    | some m =>
      rw [hq] at hm
      simp only [Option.any_some, Bool.and_eq_true, beq_iff_eq] at hm
      obtain ⟨hp, hf⟩ := hm
      rw [hn, method]
      simp [hi, hq, hp, hf, follow, receiverAt, run_underlying hu, Place.get, run_wrapChk, asAddr, loadVar, hs.run, hc]
end
end Go.Pt
