/- The engine, part G: structs and arrays compared; bytes as strings; copies. No program in sight. -/
import Derived.Test.YtpilffakhkagjaaDoorPtF
import Derived.ChangeKeysEq
namespace Go.Pt
open Go Go.RowKit
inductive CK where
  | i (k : IntKind)
  | b
  | s
def fit1 : CK → Value → Bool
  | .i k, .int k' _ => decide (k = k')
  | .b, .bool _ => true
  | .s, .string _ => true
  | _, _ => false
def fits : List CK → List Value → Bool
  | [], [] => true
  | k :: ks, v :: vs => fit1 k v && fits ks vs
  | _, _ => false
def eq1 : Value → Value → Bool
  | .int _ m, .int _ n => m == n
  | .bool a, .bool b => a == b
  | .string a, .string b => a.toList == b.toList
  | _, _ => false
def eqL : List Value → List Value → Bool
  | [], [] => true
  | x :: xs, y :: ys => eq1 x y && eqL xs ys
  | _, _ => false
theorem fits_len : ∀ {ks : List CK} {vs : List Value}, fits ks vs = true → vs.length = ks.length
  | [], [], _ => rfl
  | [], _ :: _, h => by simp [fits] at h
  | _ :: _, [], h => by simp [fits] at h
  | k :: ks, v :: vs, h => by simp only [fits, Bool.and_eq_true] at h; simp [fits_len h.2]
theorem fits_append : ∀ {ks ks' : List CK} {vs : List Value}, fits (ks ++ ks') vs = true → fits ks (vs.take ks.length) = true ∧ fits ks' (vs.drop ks.length) = true
  | [], ks', vs, h => by simpa [fits] using h
  | k :: ks, ks', [], h => by simp [fits] at h
  | k :: ks, ks', v :: vs, h => by
    simp only [List.cons_append, fits, Bool.and_eq_true] at h
    have := fits_append h.2
    simp [fits, h.1, this]
theorem eqL_split : ∀ (n : Nat) (xs ys : List Value), xs.length = ys.length → eqL xs ys = (eqL (xs.take n) (ys.take n) && eqL (xs.drop n) (ys.drop n))
  | 0, xs, ys, _ => by simp [eqL]
  | n + 1, [], [], _ => by simp [eqL]
  | n + 1, [], _ :: _, h => by simp at h
  | n + 1, _ :: _, [], h => by simp at h
  | n + 1, x :: xs, y :: ys, h => by
    simp only [eqL, List.take_succ_cons, List.drop_succ_cons]
    rw [eqL_split n xs ys (by simpa using h), Bool.and_assoc]
theorem eq1_iff {k : CK} {x y : Value} (hx : fit1 k x = true) (hy : fit1 k y = true) : eq1 x y = true ↔ x = y := by
  cases k <;> cases x <;> simp only [fit1, Bool.false_eq_true] at hx <;> cases y <;> simp only [fit1, Bool.false_eq_true] at hy
  · simp only [decide_eq_true_eq] at hx hy; subst hx; subst hy; simp [eq1]
  · simp [eq1]
  · simp only [eq1, beq_iff_eq, Value.string.injEq]
    constructor
    · intro h
      rw [ByteArray.toList_eq, ByteArray.toList_eq] at h
      rename_i a b
      cases a; cases b
      simp only [ByteArray.mk.injEq] at h ⊢
      exact Array.toList_inj.1 h
    · rintro rfl; rfl
theorem eqL_iff : ∀ {ks : List CK} {xs ys : List Value}, fits ks xs = true → fits ks ys = true → (eqL xs ys = true ↔ xs = ys)
  | [], [], [], _, _ => by simp [eqL]
  | [], _ :: _, _, h, _ => by simp [fits] at h
  | [], [], _ :: _, _, h => by simp [fits] at h
  | _ :: _, [], _, h, _ => by simp [fits] at h
  | _ :: _, _ :: _, [], _, h => by simp [fits] at h
  | k :: ks, x :: xs, y :: ys, hx, hy => by
    simp only [fits, Bool.and_eq_true] at hx hy
    simp only [eqL, Bool.and_eq_true, eq1_iff hx.1 hy.1, eqL_iff hx.2 hy.2, List.cons.injEq]
def fieldsK (P : Program) (f : TypeId → Option (List CK)) : List Field → Nat → Option (List CK)
  | [], _ => some []
  | g :: gs, o => match f g.type with
    | none => none
    | some ks => if g.name != "_" && Nat.beq g.offset o && ((P.info? g.type).map (·.size) == some ks.length) then (fieldsK P f gs (o + ks.length)).map (ks ++ ·) else none
def kindsOf (P : Program) : Nat → TypeId → Option (List CK)
  | 0, _ => none
  | d + 1, t => match P.underlying t with
    | some .bool => some [.b]
    | some (.int k) => some [.i k]
    | some .string => some [.s]
    | some (.array n e) => match kindsOf P d e with
      | some ks => if (P.info? e).map (·.size) == some ks.length then some (List.replicate n ks).flatten else none
      | none => none
    | some (.struct fs) => if P.stoodInHeld t then none else fieldsK P (kindsOf P d) fs.toList 0
    | _ => none
def aggT (P : Program) (t : TypeId) : Bool := match P.underlying t with
  | some (.array _ _) => true
  | some (.struct _) => true
  | _ => false
def vOf (a : Bool) (xs : List Value) : Value := match a with
  | true => .agg xs.toArray
  | false => xs.headD undef
section
variable {P : Program}
theorem kinds_scalar {d : Nat} {t : TypeId} {ks : List CK} (h : kindsOf P d t = some ks) (ha : aggT P t = false) : ks.length = 1 := by
  cases d with
  | zero => simp [kindsOf] at h
  | succ d =>
    simp only [kindsOf] at h
    simp only [aggT] at ha
    split at h <;> simp_all <;> (cases h; rfl)
theorem run_isAgg' {t : TypeId} (hu : ∃ u, P.underlying t = some u) (w : World) : (isAgg t).run P w = .ok (aggT P t) w := by
  obtain ⟨u, hu⟩ := hu
  cases u <;> simp [isAgg, run_underlying hu, aggT, hu]
theorem kinds_und {d : Nat} {t : TypeId} {ks : List CK} (h : kindsOf P d t = some ks) : ∃ u, P.underlying t = some u := by
  cases d with
  | zero => simp [kindsOf] at h
  | succ d =>
    simp only [kindsOf] at h
    cases hu : P.underlying t with
    | none => rw [hu] at h; simp at h
    | some u => exact ⟨u, rfl⟩
theorem run_part' {d : Nat} {t : TypeId} {ks : List CK} (h : kindsOf P d t = some ks) (hs : (P.info? t).map (·.size) = some ks.length) {cs : List Value} {o : Nat} (hf : fits ks ((cs.drop o).take ks.length) = true) (w : World) :
    (part t cs.toArray o).run P w = .ok (vOf (aggT P t) ((cs.drop o).take ks.length)) w := by
  have hagg := run_isAgg' (kinds_und h)
  cases ha : aggT P t with
  | true =>
    obtain ⟨i, hi, hsz⟩ := Option.map_eq_some_iff.1 hs
    have hsize : (sizeOf t).run P w = .ok ks.length w := by simp [sizeOf, typeInfo, hi, hsz]
    simp [part, hagg, ha, hsize, vOf, List.extract_eq_take_drop]
  | false =>
    have h1 := kinds_scalar h ha
    have hl := fits_len hf
    rw [h1] at hl ⊢
    have : cs[o]? = ((cs.drop o).take 1)[0]? := by simp
    cases hc : (cs.drop o).take 1 with
    | nil => rw [hc] at hl; simp at hl
    | cons v r =>
      rw [hc] at this
      simp at this
      simp [part, hagg, ha, vOf, this]
theorem eq_fields {d dd : Nat} (ih : ∀ t ks, kindsOf P d t = some ks → ∀ w xs ys, fits ks xs = true → fits ks ys = true → (Op.equalIn dd t (vOf (aggT P t) xs) (vOf (aggT P t) ys)).run P w = .ok (eqL xs ys) w) (cs ds : List Value) (hl : cs.length = ds.length) :
    ∀ (gs : List Field) (o : Nat) (ks : List CK), fieldsK P (kindsOf P d) gs o = some ks → fits ks (cs.drop o) = true → fits ks (ds.drop o) = true → ∀ w, (Op.eqFields dd cs.toArray ds.toArray gs).run P w = .ok (eqL (cs.drop o) (ds.drop o)) w
  | [], o, ks, h, h1, h2, w => by
    simp [fieldsK] at h; subst h
    have e1 := fits_len h1; have e2 := fits_len h2
    rw [List.length_eq_zero_iff.1 e1, List.length_eq_zero_iff.1 e2]
    simp [Op.eqFields, eqL]
  | g :: gs, o, ks, h, h1, h2, w => by
    simp only [fieldsK] at h
    split at h
    · cases h
    · rename_i k1 hk
      split at h
      · rename_i hc
        simp only [Bool.and_eq_true, bne_iff_ne, ne_eq, beq_iff_eq] at hc
        obtain ⟨⟨hn, ho⟩, hsz⟩ := hc
        have ho := Nat.eq_of_beq_eq_true ho
        obtain ⟨k2, hk2, rfl⟩ := Option.map_eq_some_iff.1 h
        obtain ⟨a1, a2⟩ := fits_append h1
        obtain ⟨b1, b2⟩ := fits_append h2
        rw [List.drop_drop] at a2 b2
        have r1 := eq_fields ih cs ds hl gs _ k2 hk2 a2 b2 w
        simp only [Op.eqFields, hn, ne_eq, not_false_eq_true, if_true, Sem.run_bind, ho, run_part' hk hsz a1, run_part' hk hsz b1, Result.andThen_ok, ih _ _ hk w _ _ a1 b1]
        rw [eqL_split k1.length (cs.drop o) (ds.drop o) (by simp [hl]), List.drop_drop, List.drop_drop]
        cases hb : eqL ((cs.drop o).take k1.length) ((ds.drop o).take k1.length) with
        | true => simpa using r1
        | false => simp
      · cases h
theorem eq_items {d dd : Nat} {e : TypeId} {k1 : List CK} (ih : ∀ w xs ys, fits k1 xs = true → fits k1 ys = true → (Op.equalIn dd e (vOf (aggT P e) xs) (vOf (aggT P e) ys)).run P w = .ok (eqL xs ys) w) (hk : kindsOf P d e = some k1) (hsz : (P.info? e).map (·.size) = some k1.length)
    (cs ds : List Value) (hl : cs.length = ds.length) : ∀ (n i : Nat), fits (List.replicate n k1).flatten (cs.drop (i * k1.length)) = true → fits (List.replicate n k1).flatten (ds.drop (i * k1.length)) = true → ∀ w,
      (Op.eqItems dd e k1.length cs.toArray ds.toArray (List.range' i n)).run P w = .ok (eqL (cs.drop (i * k1.length)) (ds.drop (i * k1.length))) w
  | 0, i, h1, h2, w => by
    have e1 := fits_len h1; have e2 := fits_len h2
    simp only [List.replicate_zero, List.flatten_nil, List.length_nil] at e1 e2
    rw [List.length_eq_zero_iff.1 e1, List.length_eq_zero_iff.1 e2]
    simp [Op.eqItems, eqL]
  | n + 1, i, h1, h2, w => by
    simp only [List.replicate_succ, List.flatten_cons] at h1 h2
    obtain ⟨a1, a2⟩ := fits_append h1
    obtain ⟨b1, b2⟩ := fits_append h2
    rw [List.drop_drop, show i * k1.length + k1.length = (i + 1) * k1.length by rw [Nat.add_mul]; omega] at a2 b2
    have r1 := eq_items ih hk hsz cs ds hl n (i + 1) a2 b2 w
    simp only [List.range'_succ, Op.eqItems, Sem.run_bind, run_part' hk hsz a1, run_part' hk hsz b1, Result.andThen_ok, ih w _ _ a1 b1]
    rw [eqL_split k1.length (cs.drop (i * k1.length)) (ds.drop (i * k1.length)) (by simp [hl]), List.drop_drop, List.drop_drop, show i * k1.length + k1.length = (i + 1) * k1.length by rw [Nat.add_mul]; omega]
    cases hb : eqL ((cs.drop (i * k1.length)).take k1.length) ((ds.drop (i * k1.length)).take k1.length) with
    | true => simpa using r1
    | false => simp
theorem eq_main : ∀ (d : Nat) (t : TypeId) (ks : List CK), kindsOf P d t = some ks → ∀ dd w xs ys, fits ks xs = true → fits ks ys = true → (Op.equalIn (dd + d) t (vOf (aggT P t) xs) (vOf (aggT P t) ys)).run P w = .ok (eqL xs ys) w
  | 0, t, ks, h => by simp [kindsOf] at h
  | d + 1, t, ks, h => by
    intro dd w xs ys fx fy
    have hl : xs.length = ys.length := by rw [fits_len fx, fits_len fy]
    simp only [kindsOf] at h
    cases hu : P.underlying t with
    | none => rw [hu] at h; simp at h
    | some u =>
      rw [hu] at h
      have scal : ∀ k : CK, ks = [k] → ∃ x y, xs = [x] ∧ ys = [y] ∧ fit1 k x = true ∧ fit1 k y = true := by
        rintro k rfl
        match xs, ys, fx, fy with
        | [x], [y], fx, fy => simp only [fits, Bool.and_true] at fx fy; exact ⟨x, y, rfl, rfl, fx, fy⟩
        | [], _, fx, _ => simp [fits] at fx
        | [_], [], _, fy => simp [fits] at fy
        | _ :: _ :: _, _, fx, _ => simp [fits] at fx
        | [_], _ :: _ :: _, _, fy => simp [fits] at fy
      cases u <;> simp only [reduceCtorEq, Option.some.injEq] at h
      case bool =>
        obtain ⟨x, y, rfl, rfl, h1, h2⟩ := scal _ h.symm
        cases x <;> simp only [fit1, Bool.false_eq_true] at h1
        cases y <;> simp only [fit1, Bool.false_eq_true] at h2
        simp [aggT, hu, vOf, Op.equalIn, run_underlying hu, eqL, eq1]
      case int =>
        obtain ⟨x, y, rfl, rfl, h1, h2⟩ := scal _ h.symm
        cases x <;> simp only [fit1, Bool.false_eq_true] at h1
        cases y <;> simp only [fit1, Bool.false_eq_true] at h2
        simp only [decide_eq_true_eq] at h1 h2
        subst h1; subst h2
        simp [aggT, hu, vOf, Op.equalIn, run_underlying hu, eqL, eq1]
      case string =>
        obtain ⟨x, y, rfl, rfl, h1, h2⟩ := scal _ h.symm
        cases x <;> simp only [fit1, Bool.false_eq_true] at h1
        cases y <;> simp only [fit1, Bool.false_eq_true] at h2
        simp [aggT, hu, vOf, Op.equalIn, run_underlying hu, eqL, eq1, beq_toListBytes]
      case array n e =>
        split at h
        · rename_i k1 hk
          split at h
          · rename_i hsz
            simp only [beq_iff_eq] at hsz
            obtain ⟨i, hi, hi2⟩ := Option.map_eq_some_iff.1 hsz
            cases h
            have hc : P.cellsOf e = k1.length := by simp [Program.cellsOf, hi, hi2]
            have := eq_items (dd := dd + d) (eq_main d e k1 hk dd) hk hsz xs ys hl n 0 (by simpa using fx) (by simpa using fy) w
            simp only [Nat.zero_mul, List.drop_zero] at this
            simp only [aggT, hu, vOf]
            rw [show dd + (d + 1) = (dd + d) + 1 from rfl, run_equalIn_array w (dd + d) xs.toArray ys.toArray hu hi, hc, List.range_eq_range']
            exact this
          · cases h
        · cases h
      case struct fs =>
        split at h
        · cases h
        · rename_i hst
          have hfs : P.fieldsOf t = fs := by simp [Program.fieldsOf, hu]
          have := eq_fields (dd := dd + d) (fun t ks hk w xs ys => eq_main d t ks hk dd w xs ys) xs ys hl fs.toList 0 ks h (by simpa using fx) (by simpa using fy) w
          simp only [List.drop_zero] at this
          simp only [aggT, hu, vOf]
          rw [show dd + (d + 1) = (dd + d) + 1 from rfl, run_equalIn_struct w (dd + d) t xs.toArray ys.toArray (by rw [hfs]; exact hu) (by simpa using hst), hfs]
          exact this
class EqT (P : Program) (t : TypeId) (ks : outParam (List CK)) : Prop where
  kinds : kindsOf P 8 t = some ks
  agg : aggT P t = true
  guard : P.eqGuardType P.depth t = false
variable {l : Fr} {c : Cond}
theorem y_eqA {t t2 : TypeId} {x y : Operand} {ks : List CK} {xs ys : List Value} [h : EqT P t ks] (hx : ev l x = some (valL xs)) (hy : ev l y = some (valL ys)) (fx : fits ks xs = true) (fy : fits ks ys = true) : Yc P l c (.binOp .eql t x y t2) (.bool (eqL xs ys)) := by
  unfold Yc; intro a w ha _ d ty ps af g
  have hm := eq_main 8 t ks h.kinds 9992 w xs ys fx fy
  rw [h.agg] at hm
  simp only [vOf] at hm
  simp [execOp, ha.eval hx, ha.eval hy, valL, run_eqGuard_agg w .eql t x y xs.toArray ys.toArray h.guard, run_eql_struct, hm]
theorem y_neA {t t2 : TypeId} {x y : Operand} {ks : List CK} {xs ys : List Value} [h : EqT P t ks] (hx : ev l x = some (valL xs)) (hy : ev l y = some (valL ys)) (fx : fits ks xs = true) (fy : fits ks ys = true) : Yc P l c (.binOp .neq t x y t2) (.bool (!eqL xs ys)) := by
  unfold Yc; intro a w ha _ d ty ps af g
  have hm := eq_main 8 t ks h.kinds 9992 w xs ys fx fy
  rw [h.agg] at hm
  simp only [vOf] at hm
  simp [execOp, ha.eval hx, ha.eval hy, valL, run_eqGuard_agg w .neq t x y xs.toArray ys.toArray h.guard, run_neq_struct, hm]
class BoolT (P : Program) (t : TypeId) : Prop where
  run : P.underlying t = some .bool
theorem y_eqB {t t2 : TypeId} {x y : Operand} {a b : Bool} [h : BoolT P t] (hx : ev l x = some (.bool a)) (hy : ev l y = some (.bool b)) : Yc P l c (.binOp .eql t x y t2) (.bool (decide (a = b))) := by
  unfold Yc; intro ac w ha _ d ty ps af g
  have := run_equal_bool (P := P) w t a b h.run
  simp only [execOp, ha.eval hx, ha.eval hy, eqGuard, binOp]
  simp [this]; cases a <;> cases b <;> rfl
theorem y_neB {t t2 : TypeId} {x y : Operand} {a b : Bool} [h : BoolT P t] (hx : ev l x = some (.bool a)) (hy : ev l y = some (.bool b)) : Yc P l c (.binOp .neq t x y t2) (.bool (decide (a ≠ b))) := by
  unfold Yc; intro ac w ha _ d ty ps af g
  have := run_equal_bool (P := P) w t a b h.run
  simp only [execOp, ha.eval hx, ha.eval hy, eqGuard, binOp]
  simp [this]; cases a <;> cases b <;> rfl
theorem seq_iff (a b : ByteArray) : (a.toList == b.toList) = decide (a = b) := by
  rw [ByteArray.toList_eq, ByteArray.toList_eq]
  cases a with | mk a => cases b with | mk b =>
  by_cases h : a = b
  · subst h; simp
  · have : ¬ a.toList = b.toList := fun h2 => h (Array.toList_inj.1 h2)
    simp [h, this]
theorem y_eqS {t t2 : TypeId} {x y : Operand} {a b : ByteArray} (hx : ev l x = some (.string a)) (hy : ev l y = some (.string b)) : Yc P l c (.binOp .eql t x y t2) (.bool (decide (a = b))) := by
  unfold Yc; intro ac w ha _ d ty ps af g
  rw [← seq_iff]
  simp [execOp, ha.eval hx, ha.eval hy, eqGuard, binOp, Op.stringOp]
theorem y_neS {t t2 : TypeId} {x y : Operand} {a b : ByteArray} (hx : ev l x = some (.string a)) (hy : ev l y = some (.string b)) : Yc P l c (.binOp .neq t x y t2) (.bool (decide (a ≠ b))) := by
  unfold Yc; intro ac w ha _ d ty ps af g
  have h : decide (a ≠ b) = !(decide (a = b)) := by by_cases h : a = b <;> simp [h]
  rw [h, ← seq_iff]
  simp [execOp, ha.eval hx, ha.eval hy, eqGuard, binOp, Op.stringOp, bne]
end
end Go.Pt
