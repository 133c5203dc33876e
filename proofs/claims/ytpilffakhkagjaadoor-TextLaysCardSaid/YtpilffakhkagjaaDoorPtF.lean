/- The engine, part F: more words of the printed texts. No program in sight. -/
import Derived.Test.YtpilffakhkagjaaDoorPtE
namespace Go.Pt
open Go Go.RowKit
def lt {α : Type} (a : α) (K : α → Prop) : Prop := K a
theorem lt_e {α : Type} {a : α} {K : α → Prop} (h : lt a K) : ∃ x, a = x ∧ K x := ⟨a, rfl, h⟩
theorem eqv {P : Program} {l : Fr} {c : Cond} {op : Op} {v v' : Value} (h : Yc P l c op v) (e : v = v') : Yc P l c op v' := e ▸ h
theorem fill_nil {pl : Nat → Option (Nat × Nat)} {cs : List Value} : fillS pl cs [] = some cs := rfl
theorem fill_cons {pl : Nat → Option (Nat × Nat)} {cs out : List Value} {i off size : Nat} {v : Value} {rest : List (Nat × Value)} (hp : pl i = some (off, size)) (hl : (cellsL v).length = size) (hb : off + size ≤ cs.length)
    (h : fillS pl (spl cs off (cellsL v)) rest = some out) : fillS pl cs ((i, v) :: rest) = some out := by
  simp only [fillS, hp]
  rw [if_pos]
  · exact h
  · simp only [Bool.and_eq_true, beq_iff_eq]; exact ⟨hl, Nat.ble_eq_true_of_le hb⟩
theorem fill_one {z a : List Value} {size : Nat} (hz : z.length = size) (h : a.length = size) : fillS (fun i => some (i * size, size)) (zrep 1 z) [(0, valL a)] = some a := by
  have e : spl (zrep 1 z) (0 * size) (cellsL (valL a)) = a := by
    have : cellsL (valL a) = a := by simp [cellsL, valL]
    rw [this, Nat.zero_mul, spl_all (by simp [zrep]; omega)]
  have := fill_cons (pl := fun i => some (i * size, size)) (cs := zrep 1 z) (out := a) (i := 0) (off := 0 * size) (size := size) (v := valL a) (rest := []) rfl (by simp [cellsL, valL, h]) (by simp [zrep]; omega) (by rw [e]; rfl)
  exact this
theorem spl_at {cs vs : List Value} {o n m : Nat} (h : cs.length = n) (hv : vs.length = m) (h2 : o + m ≤ n) : (spl cs o vs).length = n := spl_ln h (by omega)
section
variable {P : Program} {w0 : World} {S0 : Mem} {Q : Exit → Act → World → Prop} {l : Fr} {S : Mem} {V : Hp}
theorem c_regionA {i : Nat} {l1 l2 : List Oper} (h : WL P w0 S0 (l1 ++ l2) Q (l1 ++ l2) l S V) : WC P w0 S0 (.region i (l1.toArray.append l2.toArray) false) Q l S V := by
  have e : l1.toArray.append l2.toArray = (l1 ++ l2).toArray := by
    have : l1.toArray.append l2.toArray = l1.toArray ++ l2.toArray := rfl
    rw [this]; simp
  rw [e]; exact c_region h
theorem c_drawnA {i : Nat} {l1 l2 : List Oper} (hm : P.follows .mixedOrders = true) (h : WA P w0 S0 (l1 ++ l2) Q (l1 ++ l2).length [] (Array.replicate (l1 ++ l2).length false) l S V) : WC P w0 S0 (.region i (l1.toArray.append l2.toArray) true) Q l S V := by
  have e : l1.toArray.append l2.toArray = (l1 ++ l2).toArray := by
    have : l1.toArray.append l2.toArray = l1.toArray ++ l2.toArray := rfl
    rw [this]; simp
  rw [e]; exact c_drawn hm h
end
end Go.Pt
