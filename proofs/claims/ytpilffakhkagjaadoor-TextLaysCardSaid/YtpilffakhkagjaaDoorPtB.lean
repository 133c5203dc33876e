/- The engine, part B: memory as a partial map, blocks of one's own beside it; what an operation yields; rules for lists of operations and for code. No program in sight. -/
import Derived.Test.YtpilffakhkagjaaDoorPtA
namespace Go.Pt
open Go Go.RowKit

/-! ### Memory -/
structure Blk where
  ty : TypeId
  cs : List Value
  fr : Nat × Nat
/-- A block that may be written. -/
abbrev bw (t : TypeId) (cs : List Value) : Blk := ⟨t, cs, (0, 0)⟩
abbrev Mem := Nat → Option Blk
structure Ent where
  b : Nat
  ty : TypeId
  cs : List Value
abbrev Hp := List Ent
/-- No program has so many types: a block that bears this number is an iterator over a string: the string, and how far it has come. -/
def itT : TypeId := 4294967291
def itS : List Value → ByteArray
  | .string s :: _ => s
  | _ => ⟨#[]⟩
def itP : List Value → Nat
  | _ :: .int _ p :: _ => p.toNat
  | _ => 0
def Ent.obj (e : Ent) : Obj := match Nat.beq e.ty itT with
  | true => .stringIter (itS e.cs) (itP e.cs)
  | false => .cells e.cs.toArray e.ty (0, 0)
theorem Ent.obj_cells {e : Ent} (h : Nat.beq e.ty itT = false) : e.obj = .cells e.cs.toArray e.ty (0, 0) := by unfold Ent.obj; rw [h]
theorem Ent.obj_it (b : Nat) (cs : List Value) : (Ent.mk b itT cs).obj = .stringIter (itS cs) (itP cs) := by unfold Ent.obj; rw [show Nat.beq (Ent.mk b itT cs).ty itT = true from Nat.beq_refl _]
def Mem.cell (S : Mem) (b o : Nat) : Option Value := match S b with
  | some k => nthL k.cs o
  | none => none
def lpart (l : List Value) (o n : Nat) : Option (List Value) := match Nat.ble (o + n) l.length with
  | true => some ((l.drop o).take n)
  | false => none
def Mem.part (S : Mem) (b o n : Nat) : Option (List Value) := match S b with
  | some k => lpart k.cs o n
  | none => none
def Mem.set (S : Mem) (b : Nat) (k : Blk) : Mem := fun x => if x = b then some k else S x
def Mem.put (S : Mem) (b o : Nat) (vs : List Value) : Mem := fun x => if x = b then (S b).map fun k => ⟨k.ty, spl k.cs o vs, k.fr⟩ else S x
/-- There is room for so many cells to be written. -/
def Mem.room (S : Mem) (b o n : Nat) : Prop := ∃ k, S b = some k ∧ k.fr = (0, 0) ∧ o + n ≤ k.cs.length
theorem lpart_e {l vs : List Value} {o n : Nat} (h : lpart l o n = some vs) : o + n ≤ l.length ∧ (l.drop o).take n = vs ∧ vs.length = n := by
  unfold lpart at h
  split at h
  · rename_i hb
    have := Nat.le_of_ble_eq_true hb
    cases h
    exact ⟨this, rfl, by simp; omega⟩
  · cases h
theorem lpart_i {l : List Value} {o n : Nat} (h : o + n ≤ l.length) : lpart l o n = some ((l.drop o).take n) := by
  unfold lpart
  rw [Nat.ble_eq_true_of_le h]
theorem lpart_get {l vs : List Value} {o n : Nat} (h : lpart l o n = some vs) (j : Nat) (hj : j < n) : vs[j]? = l[o + j]? := by
  obtain ⟨_, h2, _⟩ := lpart_e h
  rw [← h2, List.getElem?_take, if_pos hj, List.getElem?_drop]
theorem part_e {S : Mem} {b o n : Nat} {vs : List Value} (h : S.part b o n = some vs) : ∃ k, S b = some k ∧ lpart k.cs o n = some vs := by
  unfold Mem.part at h
  split at h
  · rename_i k hk; exact ⟨k, hk, h⟩
  · cases h
theorem part_len {S : Mem} {b o n : Nat} {vs : List Value} (h : S.part b o n = some vs) : vs.length = n := by
  obtain ⟨k, _, h2⟩ := part_e h; exact (lpart_e h2).2.2
theorem cell_e {S : Mem} {b o : Nat} {v : Value} (h : S.cell b o = some v) : ∃ k, S b = some k ∧ nthL k.cs o = some v := by
  unfold Mem.cell at h
  split at h
  · rename_i k hk; exact ⟨k, hk, h⟩
  · cases h
theorem nthL_lt {α : Type} {l : List α} {o : Nat} {v : α} (h : nthL l o = some v) : o < l.length := by
  rw [nthL_eq] at h; exact (List.getElem?_eq_some_iff.1 h).1
theorem spl_length {cs vs : List Value} {o : Nat} (h : o + vs.length ≤ cs.length) : (spl cs o vs).length = cs.length := by
  rw [spl_eq _ _ _ (by omega)]; simp; omega
theorem spl_ln {cs vs : List Value} {o n : Nat} (h : cs.length = n) (h2 : o + vs.length ≤ n) : (spl cs o vs).length = n := by rw [spl_length (by omega), h]
theorem spl_get {cs vs : List Value} {o : Nat} (h : o + vs.length ≤ cs.length) (j : Nat) : (spl cs o vs)[j]? = if o ≤ j ∧ j < o + vs.length then vs[j - o]? else cs[j]? := by
  rw [spl_eq _ _ _ (by omega)]
  simp only [List.getElem?_append, List.length_append, List.length_take, List.getElem?_take, List.getElem?_drop]
  rw [Nat.min_eq_left (by omega)]
  by_cases h1 : j < o
  · rw [if_pos (by omega), if_pos h1, if_pos h1, if_neg (by omega)]
  · by_cases h2 : j < o + vs.length
    · rw [if_pos h2, if_neg h1, if_pos ⟨by omega, h2⟩]
    · rw [if_neg h2, if_neg (by omega)]
      congr 1; omega

structure St (w0 : World) (S0 S : Mem) (V : Hp) (w : World) : Prop where
  os : w.os = w0.os
  tape : w.tape = w0.tape
  output : w.output = w0.output
  size : w0.heap.size ≤ w.heap.size
  frame : ∀ k, k < w0.heap.size → S0 k = none → w.heap[k]? = w0.heap[k]?
  mem : ∀ b k, S b = some k → w.heap[b]? = some (.cells k.cs.toArray k.ty k.fr)
  loc : ∀ e ∈ V, w.heap[e.b]? = some e.obj ∧ S e.b = none ∧ w0.heap.size ≤ e.b
  nodup : V.Pairwise (fun x y => x.b ≠ y.b)
  own : ∀ b, S0 b = none → S b ≠ none → w0.heap.size ≤ b
  keep : ∀ b, S0 b ≠ none → S b ≠ none

def setE : Hp → Nat → List Value → Hp
  | [], _, _ => []
  | e :: L, 0, cs => ⟨e.b, e.ty, cs⟩ :: L
  | e :: L, n + 1, cs => e :: setE L n cs
def dropE : Hp → Nat → Hp
  | [], _ => []
  | _ :: L, 0 => L
  | e :: L, n + 1 => e :: dropE L n
theorem setE_mem {L : Hp} {n : Nat} {e : Ent} {cs : List Value} (h : nthL L n = some e) : ∀ x ∈ setE L n cs, (x = ⟨e.b, e.ty, cs⟩) ∨ (∃ m, m ≠ n ∧ nthL L m = some x) := by
  induction L generalizing n with
  | nil => intro x hx; cases n <;> simp [setE] at hx
  | cons y L ih =>
    intro x hx
    cases n with
    | zero =>
      simp only [nthL, Option.some.injEq] at h; subst h
      rcases List.mem_cons.1 hx with rfl | hx
      · exact .inl rfl
      · obtain ⟨m, hm⟩ := List.getElem?_of_mem hx
        exact .inr ⟨m + 1, by omega, by simpa [nthL, nthL_eq] using hm⟩
    | succ n =>
      rcases List.mem_cons.1 hx with rfl | hx
      · exact .inr ⟨0, by omega, rfl⟩
      · rcases ih h x hx with h1 | ⟨m, hm, h2⟩
        · exact .inl h1
        · exact .inr ⟨m + 1, by omega, h2⟩
theorem setE_keys : ∀ (L : Hp) (n : Nat) (cs : List Value), (setE L n cs).map (·.b) = L.map (·.b)
  | [], n, cs => by cases n <;> rfl
  | e :: L, 0, cs => rfl
  | e :: L, n + 1, cs => by simp [setE, setE_keys L n cs]
theorem nodup_keys {L : Hp} : L.Pairwise (fun x y => x.b ≠ y.b) ↔ (L.map (·.b)).Nodup := by
  rw [List.Nodup, List.pairwise_map]
theorem ne_of_places {L : Hp} (h : L.Pairwise (fun x y => x.b ≠ y.b)) {n m : Nat} {x y : Ent} (hx : nthL L n = some x) (hy : nthL L m = some y) (hnm : m ≠ n) : y.b ≠ x.b := by
  rw [nthL_eq] at hx hy
  obtain ⟨hn, rfl⟩ := List.getElem?_eq_some_iff.1 hx
  obtain ⟨hm, rfl⟩ := List.getElem?_eq_some_iff.1 hy
  have hp := List.pairwise_iff_getElem.1 h
  rcases Nat.lt_or_gt_of_ne hnm with hlt | hlt
  · exact hp m n hm hn hlt
  · exact (hp n m hn hm hlt).symm
theorem heap_setRow (w : World) (g : Nat) (cs : Array Value) (k : Nat) (h : k ≠ g) : (w.setRow g cs).heap[k]? = w.heap[k]? := by
  simp only [World.setRow, Array.getElem?_modify]; rw [if_neg (by omega)]
theorem dropE_sub : ∀ (L : Hp) (n : Nat), (dropE L n).Sublist L
  | [], n => by cases n <;> exact List.Sublist.refl _
  | e :: L, 0 => List.sublist_cons_self e L
  | e :: L, n + 1 => (dropE_sub L n).cons_cons e
theorem dropE_perm {L : Hp} {n : Nat} {e : Ent} (h : nthL L n = some e) : L.Perm (e :: dropE L n) := by
  induction L generalizing n with
  | nil => simp [nthL] at h
  | cons x L ih =>
    cases n with
    | zero => simp only [nthL, Option.some.injEq] at h; subst h; exact List.Perm.refl _
    | succ n => exact ((ih h).cons x).trans (List.Perm.swap _ _ _)
def selE : List Nat → Hp → Option (Hp × Hp)
  | [], L => some ([], L)
  | i :: is, L => match nthL L i with
    | none => none
    | some e => match selE is (dropE L i) with
      | none => none
      | some (A, B) => some (e :: A, B)
theorem selE_perm : ∀ {idx : List Nat} {L A B : Hp}, selE idx L = some (A, B) → L.Perm (A ++ B)
  | [], L, A, B, h => by simp only [selE, Option.some.injEq, Prod.mk.injEq] at h; obtain ⟨rfl, rfl⟩ := h; exact List.Perm.refl _
  | i :: is, L, A, B, h => by
    simp only [selE] at h
    cases hn : nthL L i with
    | none => simp [hn] at h
    | some e =>
      simp only [hn] at h
      cases hs : selE is (dropE L i) with
      | none => simp [hs] at h
      | some q =>
        obtain ⟨A', B'⟩ := q
        simp only [hs, Option.some.injEq, Prod.mk.injEq] at h
        obtain ⟨rfl, rfl⟩ := h
        exact (dropE_perm hn).trans ((selE_perm hs).cons e)

section
variable {w0 w : World} {S0 S : Mem} {V : Hp}
theorem St.lt (h : St w0 S0 S V w) {b : Nat} {k : Blk} (hb : S b = some k) : b < w.heap.size := (Array.getElem?_eq_some_iff.1 (h.mem b k hb)).1
theorem St.ltV (h : St w0 S0 S V w) {e : Ent} (he : e ∈ V) : e.b < w.heap.size := (Array.getElem?_eq_some_iff.1 (h.loc e he).1).1
theorem St.fresh (h : St w0 S0 S V w) : S w.heap.size = none := by
  cases hs : S w.heap.size with
  | none => rfl
  | some k => have := h.lt hs; omega
theorem St.drew (h : St w0 S0 S V w) : St w0 S0 S V w.drew := ⟨h.os, h.tape, h.output, h.size, h.frame, h.mem, h.loc, h.nodup, h.own, h.keep⟩
theorem St.drawn (h : St w0 S0 S V w) : St w0 S0 S V { w with drawn := w.drawn + 1 } := h.drew
theorem St.cellS (h : St w0 S0 S V w) {b o : Nat} {v : Value} (hc : S.cell b o = some v) : w.cell? ⟨b, o, none⟩ = some v := by
  obtain ⟨k, hk, hv⟩ := cell_e hc
  rw [cell_of_row w b o k.cs.toArray k.ty k.fr (h.mem b k hk)]
  rw [nthL_eq] at hv; simpa using hv
theorem St.cellV (h : St w0 S0 S V w) {e : Ent} (he : e ∈ V) (hty : Nat.beq e.ty itT = false) {o : Nat} {v : Value} (hv : nthL e.cs o = some v) : w.cell? ⟨e.b, o, none⟩ = some v := by
  rw [cell_of_row w e.b o e.cs.toArray e.ty (0, 0) (by rw [(h.loc e he).1, Ent.obj_cells hty])]
  rw [nthL_eq] at hv; simpa using hv
theorem St.selV (h : St w0 S0 S V w) {idx : List Nat} {A B : Hp} (hs : selE idx V = some (A, B)) : St w0 S0 S A w := by
  have hp := selE_perm hs
  refine ⟨h.os, h.tape, h.output, h.size, h.frame, h.mem, fun e he => h.loc e (hp.mem_iff.2 (List.mem_append_left _ he)), ?_, h.own, h.keep⟩
  exact ((hp.pairwise_iff (fun h => Ne.symm h)).1 h.nodup).sublist (List.sublist_append_left A B)
theorem St.alloc (h : St w0 S0 S V w) (cs : List Value) (t : TypeId) (hty : Nat.beq t itT = false) : St w0 S0 S (V ++ [⟨w.heap.size, t, cs⟩]) (w.alloc (.cells cs.toArray t)) := by
  refine ⟨h.os, h.tape, h.output, by have := h.size; simp; omega, fun k hk hn => ?_, fun b k hb => ?_, fun e he => ?_, ?_, h.own, h.keep⟩
  · rw [heap_alloc_old w _ (show k < w.heap.size by have := h.size; omega)]; exact h.frame k hk hn
  · rw [heap_alloc_old w _ (h.lt hb)]; exact h.mem b k hb
  · rcases List.mem_append.1 he with he | he
    · rw [heap_alloc_old w _ (h.ltV he)]; exact h.loc e he
    · obtain rfl : e = _ := by simpa using he
      exact ⟨by rw [Ent.obj_cells hty]; exact heap_alloc_new w _, h.fresh, h.size⟩
  · refine List.pairwise_append.2 ⟨h.nodup, by simp, fun x hx y hy => ?_⟩
    obtain rfl : y = _ := by simpa using hy
    have := h.ltV hx
    simp; omega
theorem St.setV (h : St w0 S0 S V w) {n : Nat} {e : Ent} (hn : nthL V n = some e) (cs : List Value) (hty : Nat.beq e.ty itT = false) : St w0 S0 S (setE V n cs) (w.setRow e.b cs.toArray) := by
  have he := mem_of_nthL hn
  obtain ⟨h1, h2, h3⟩ := h.loc e he
  refine ⟨h.os, h.tape, h.output, by simpa using h.size, fun k hk hnot => ?_, fun b k hb => ?_, fun x hx => ?_, ?_, h.own, h.keep⟩
  · rw [heap_setRow _ _ _ _ (by omega)]; exact h.frame k hk hnot
  · rw [heap_setRow _ _ _ _ (fun hbe => by rw [hbe] at hb; rw [h2] at hb; cases hb)]; exact h.mem b k hb
  · rcases setE_mem hn x hx with rfl | ⟨m, hm, hx'⟩
    · refine ⟨?_, h2, h3⟩
      rw [Ent.obj_cells (e := ⟨e.b, e.ty, cs⟩) hty]
      rw [Ent.obj_cells hty] at h1
      exact setRow_heap w e.b _ _ e.ty _ h1
    · rw [heap_setRow _ _ _ _ (ne_of_places h.nodup hn hx' hm)]; exact h.loc x (mem_of_nthL hx')
  · rw [nodup_keys, setE_keys, ← nodup_keys]; exact h.nodup
theorem St.putS (h : St w0 S0 S V w) {b o : Nat} {k : Blk} (hb : S b = some k) (vs : List Value) : St w0 S0 (S.put b o vs) V (w.setRow b (spl k.cs o vs).toArray) := by
  have hput : ∀ x, S.put b o vs x = none ↔ S x = none := fun x => by
    unfold Mem.put
    by_cases hx : x = b
    · subst hx; simp [hb]
    · simp [hx]
  refine ⟨h.os, h.tape, h.output, by simpa using h.size, fun j hj hn => ?_, fun x kx hx => ?_, fun e he => ?_, h.nodup, fun x hx h1 => h.own x hx (fun hq => h1 ((hput x).2 hq)), fun x hx hq => h.keep x hx ((hput x).1 hq)⟩
  · rw [heap_setRow _ _ _ _ (fun hjb => ?_)]
    · exact h.frame j hj hn
    · subst hjb
      have := h.own j hn (by rw [hb]; simp)
      omega
  · unfold Mem.put at hx
    by_cases hxb : x = b
    · subst hxb
      rw [if_pos rfl, hb] at hx
      simp only [Option.map_some, Option.some.injEq] at hx
      subst hx
      exact setRow_heap w x _ _ k.ty _ (h.mem x k hb)
    · rw [if_neg hxb] at hx
      rw [heap_setRow _ _ _ _ hxb]; exact h.mem x kx hx
  · obtain ⟨h1, h2, h3⟩ := h.loc e he
    have hne : e.b ≠ b := fun hq => by rw [hq] at h2; rw [h2] at hb; cases hb
    rw [heap_setRow _ _ _ _ hne]
    exact ⟨h1, (hput e.b).2 h2, h3⟩
/-- A block of one's own is handed over to memory. -/
theorem St.publish (h : St w0 S0 S V w) {n : Nat} {e : Ent} (hn : nthL V n = some e) (hty : Nat.beq e.ty itT = false) : St w0 S0 (S.set e.b (bw e.ty e.cs)) (dropE V n) w := by
  have he := mem_of_nthL hn
  obtain ⟨h1, h2, h3⟩ := h.loc e he
  have hp := dropE_perm hn
  have hpw := List.pairwise_cons.1 ((hp.pairwise_iff (fun h => Ne.symm h)).1 h.nodup)
  refine ⟨h.os, h.tape, h.output, h.size, h.frame, fun b k hb => ?_, fun x hx => ?_, hpw.2, fun b hb h4 => ?_, fun b hb => ?_⟩
  · unfold Mem.set at hb
    by_cases hbe : b = e.b
    · rw [if_pos hbe] at hb; cases hb; rw [hbe, h1, Ent.obj_cells hty]
    · rw [if_neg hbe] at hb; exact h.mem b k hb
  · obtain ⟨g1, g2, g3⟩ := h.loc x ((dropE_sub V n).subset hx)
    refine ⟨g1, ?_, g3⟩
    unfold Mem.set
    rw [if_neg (fun hq => hpw.1 x hx hq.symm)]; exact g2
  · unfold Mem.set at h4
    by_cases hbe : b = e.b
    · rw [hbe]; exact h3
    · rw [if_neg hbe] at h4; exact h.own b hb h4
  · unfold Mem.set
    by_cases hbe : b = e.b
    · rw [if_pos hbe]; simp
    · rw [if_neg hbe]; exact h.keep b hb
/-- Behind a call. -/
theorem St.called {w' : World} {S' : Mem} (h : St w0 S0 S V w) (h' : St w S S' [] w') : St w0 S0 S' V w' := by
  refine ⟨h'.os.trans h.os, h'.tape.trans h.tape, h'.output.trans h.output, Nat.le_trans h.size h'.size, fun k hk hn => ?_, h'.mem, fun e he => ?_, h.nodup, fun b hb h4 => ?_, fun b hb => h'.keep b (h.keep b hb)⟩
  · have hS : S k = none := by
      cases hs : S k with
      | none => rfl
      | some x => have := h.own k hn (by rw [hs]; simp); omega
    rw [h'.frame k (Nat.lt_of_lt_of_le hk h.size) hS]; exact h.frame k hk hn
  · obtain ⟨h1, h2, h3⟩ := h.loc e he
    have hlt := h.ltV he
    refine ⟨by rw [h'.frame e.b hlt h2]; exact h1, ?_, h3⟩
    cases hs : S' e.b with
    | none => rfl
    | some x => have := h'.own e.b h2 (by rw [hs]; simp); omega
  · cases hs : S b with
    | none => exact Nat.le_trans h.size (h'.own b hs h4)
    | some x => exact h.own b hb (by rw [hs]; simp)
theorem St.self (h : St w0 S0 S V w) : St w S S [] w :=
  ⟨rfl, rfl, rfl, Nat.le_refl _, fun _ _ _ => rfl, h.mem, (fun e he => by cases he), List.Pairwise.nil, fun b h1 h2 => (h2 h1).elim, fun _ h => h⟩
end

/-! ### What an operation yields -/
inductive Cond where
  | tt
  | cell (b o : Nat) (v : Value)
  | cells (b o : Nat) (vs : List Value)
def Cond.ok : Cond → World → Prop
  | .tt, _ => True
  | .cell b o v, w => w.cell? ⟨b, o, none⟩ = some v
  | .cells b o vs, w => ∀ j v, vs[j]? = some v → w.cell? ⟨b, o + j, none⟩ = some v
def Yc (P : Program) (l : Fr) (c : Cond) (op : Op) (v : Value) : Prop :=
  ∀ a w, Ag l a → c.ok w → ∀ d ty ps af g, (execOp a.eval ⟨d, op, ty, ps, af, g⟩).run P w = .ok (.value v) w
def HC (w0 : World) (S0 S : Mem) (V : Hp) (c : Cond) : Prop := ∀ w, St w0 S0 S V w → c.ok w
section
variable {w0 : World} {S0 S : Mem} {V : Hp}
theorem hc_tt : HC w0 S0 S V .tt := fun _ _ => True.intro
theorem hc_S {b o : Nat} {v : Value} (h : S.cell b o = some v) : HC w0 S0 S V (.cell b o v) := fun _ hS => hS.cellS h
theorem hc_V {b o : Nat} {v : Value} (n : Nat) {ty : TypeId} {cs : List Value} (hn : nthL V n = some ⟨b, ty, cs⟩) (hv : nthL cs o = some v) (hty : Nat.beq ty itT = false := by rfl) : HC w0 S0 S V (.cell b o v) := fun _ hS => hS.cellV (mem_of_nthL hn) hty hv
theorem hc_SP {b o n : Nat} {vs : List Value} (h : S.part b o n = some vs) : HC w0 S0 S V (.cells b o vs) := fun w hS j v hj => by
  obtain ⟨k, hk, hp⟩ := part_e h
  have hjn : j < n := by have := (List.getElem?_eq_some_iff.1 hj).1; have := (lpart_e hp).2.2; omega
  rw [lpart_get hp j hjn] at hj
  refine hS.cellS ?_
  unfold Mem.cell; rw [hk]; simp only [nthL_eq]; exact hj
theorem hc_VP {b o k : Nat} {vs : List Value} (n : Nat) {ty : TypeId} {cs : List Value} (hn : nthL V n = some ⟨b, ty, cs⟩) (hv : lpart cs o k = some vs) (hty : Nat.beq ty itT = false := by rfl) : HC w0 S0 S V (.cells b o vs) := fun w hS j v hj => by
  have hjn : j < k := by have := (List.getElem?_eq_some_iff.1 hj).1; have := (lpart_e hv).2.2; omega
  rw [lpart_get hv j hjn] at hj
  exact hS.cellV (mem_of_nthL hn) hty (by rw [nthL_eq]; exact hj)
end

abbrev Pt := Option (Nat × Nat)
def adr : Pt → Option Addr
  | none => none
  | some (b, o) => some ⟨b, o, none⟩
def eP (p : Pt) : Value := .pointer (adr p)
structure Sl where
  p : Pt
  n : Nat
  c : Nat
def eL (s : Sl) : Value := .slice (adr s.p) s.n s.c

section yields
variable {P : Program} {l : Fr} {c : Cond}
theorem y_move {x : Operand} {v : Value} (hx : ev l x = some v) : Yc P l c (.move x) v := fun a w ha _ d ty ps af g => by
  simp [execOp, ha.eval hx]
theorem y_assign {x : Operand} {v : Value} (hx : ev l x = some v) : Yc P l c (.assign x) v := fun a w ha _ d ty ps af g => by
  simp [execOp, ha.eval hx]
theorem y_moveB {x : Operand} {e b : Bool} (hx : ev l x = some (.bool e)) (he : e = b) : Yc P l c (.move x) (.bool b) := by subst he; exact y_move hx
theorem y_pick {q x y : Operand} {b : Bool} {v : Value} (hc : ev l q = some (.bool b)) (hx : ev l (if b then x else y) = some v) : Yc P l c (.pick q x y) v := fun a w ha _ d ty ps af g => by
  have h := ha.eval hx
  cases b <;> simp_all [execOp, ha.eval hc, asBool]
theorem y_extract {x : Operand} {i : Nat} {vs : List Value} {v : Value} (hx : ev l x = some (.tuple vs.toArray)) (hv : nthL vs i = some v) : Yc P l c (.extract x i) v := fun a w ha _ d ty ps af g => by
  rw [nthL_eq] at hv
  simp [execOp, ha.eval hx, Instr.extract, hv]
theorem y_fa {s : TypeId} {x : Operand} {i off ft b o : Nat} [h : FieldT P s i off ft] (hx : ev l x = some (.pointer (some ⟨b, o, none⟩))) {oo : Nat} (ho : o + off = oo) :
    Yc P l c (.fieldAddr s x i) (.pointer (some ⟨b, oo, none⟩)) := fun a w ha _ d ty ps af g => by
  obtain ⟨fs, hfs, f, hf, rfl, rfl⟩ := h.run
  obtain ⟨k, hk, hsz⟩ := h.size
  subst ho
  simp [execOp, ha.eval hx, Instr.fieldAt, run_underlying hfs, hf, Instr.sureAddr, fieldPlace, hsz, hk, Addr.add_lit]
theorem y_ld {t : TypeId} {x : Operand} {b o : Nat} {v : Value} [ht : ScalarT P t] (hx : ev l x = some (.pointer (some ⟨b, o, none⟩))) : Yc P l (.cell b o v) (.load t x) v := fun a w ha hc d ty ps af g => by
  have hc : w.cell? ⟨b, o, none⟩ = some v := hc
  simp [execOp, ha.eval hx, Instr.loadAt, Instr.sureAddr, loadVar, ht.run, hc]
theorem run_cells {w : World} {b o k : Nat} {vs : List Value} (hc : (Cond.cells b o vs).ok w) (hl : vs.length = k) : (loadCells ⟨b, o, none⟩ k).run P w = .ok vs.toArray w := by
  subst hl
  refine run_loadCells_list (P := P) w ⟨b, o, none⟩ vs (fun j v hj => ?_)
  rw [Addr.add_lit]; exact hc j v hj
theorem y_ldA {t : TypeId} {x : Operand} {b o k : Nat} {vs : List Value} [ht : AggT P t k] [hk : SizeT P t k] (hx : ev l x = some (.pointer (some ⟨b, o, none⟩))) (hl : vs.length = k) : Yc P l (.cells b o vs) (.load t x) (valL vs) := fun a w ha hc d ty ps af g => by
  have := run_cells (P := P) hc hl
  simp [execOp, ha.eval hx, Instr.loadAt, Instr.sureAddr, loadVar, ht.run, hk.run, this, valL]

section ints
variable {t t2 : TypeId} {x y : Operand} {k : IntKind} {m n : Int}
theorem y_add (hx : ev l x = some (.int k m)) (hy : ev l y = some (.int k n)) : Yc P l c (.binOp .add t x y t2) (.int k (k.wrap (m + n))) := fun a w ha _ d ty ps af g => by
  simp [execOp, ha.eval hx, ha.eval hy, eqGuard, binOp, Op.intArith]
theorem y_sub (hx : ev l x = some (.int k m)) (hy : ev l y = some (.int k n)) : Yc P l c (.binOp .sub t x y t2) (.int k (k.wrap (m - n))) := fun a w ha _ d ty ps af g => by
  simp [execOp, ha.eval hx, ha.eval hy, eqGuard, binOp, Op.intArith]
theorem y_mul (hx : ev l x = some (.int k m)) (hy : ev l y = some (.int k n)) : Yc P l c (.binOp .mul t x y t2) (.int k (k.wrap (m * n))) := fun a w ha _ d ty ps af g => by
  simp [execOp, ha.eval hx, ha.eval hy, eqGuard, binOp, Op.intArith]
theorem y_quo (hx : ev l x = some (.int k m)) (hy : ev l y = some (.int k n)) (h : n ≠ 0) : Yc P l c (.binOp .quo t x y t2) (.int k (k.wrap (m.tdiv n))) := fun a w ha _ d ty ps af g => by
  simp [execOp, ha.eval hx, ha.eval hy, eqGuard, binOp, Op.intDiv, h]
theorem y_rem (hx : ev l x = some (.int k m)) (hy : ev l y = some (.int k n)) (h : n ≠ 0) : Yc P l c (.binOp .rem t x y t2) (.int k (m.tmod n)) := fun a w ha _ d ty ps af g => by
  simp [execOp, ha.eval hx, ha.eval hy, eqGuard, binOp, Op.intDiv, h]
def iand (k : IntKind) (x y : Int) : Int := k.wrap (BitVec.ofInt k.bits x &&& BitVec.ofInt k.bits y).toNat
def ior (k : IntKind) (x y : Int) : Int := k.wrap (BitVec.ofInt k.bits x ||| BitVec.ofInt k.bits y).toNat
def ixor (k : IntKind) (x y : Int) : Int := k.wrap (BitVec.ofInt k.bits x ^^^ BitVec.ofInt k.bits y).toNat
def iandn (k : IntKind) (x y : Int) : Int := k.wrap (BitVec.ofInt k.bits x &&& ~~~ BitVec.ofInt k.bits y).toNat
def ishl (k : IntKind) (x y : Int) : Int := k.wrap (x * 2 ^ min y.toNat k.bits)
def ishr (k : IntKind) (x y : Int) : Int := x.fdiv (2 ^ min y.toNat k.bits)
theorem y_and (hx : ev l x = some (.int k m)) (hy : ev l y = some (.int k n)) : Yc P l c (.binOp .and t x y t2) (.int k (iand k m n)) := fun a w ha _ d ty ps af g => by
  simp [execOp, ha.eval hx, ha.eval hy, eqGuard, binOp, Op.intBits, iand]
theorem y_or (hx : ev l x = some (.int k m)) (hy : ev l y = some (.int k n)) : Yc P l c (.binOp .or t x y t2) (.int k (ior k m n)) := fun a w ha _ d ty ps af g => by
  simp [execOp, ha.eval hx, ha.eval hy, eqGuard, binOp, Op.intBits, ior]
theorem y_xor (hx : ev l x = some (.int k m)) (hy : ev l y = some (.int k n)) : Yc P l c (.binOp .xor t x y t2) (.int k (ixor k m n)) := fun a w ha _ d ty ps af g => by
  simp [execOp, ha.eval hx, ha.eval hy, eqGuard, binOp, Op.intBits, ixor]
theorem y_andn (hx : ev l x = some (.int k m)) (hy : ev l y = some (.int k n)) : Yc P l c (.binOp .andNot t x y t2) (.int k (iandn k m n)) := fun a w ha _ d ty ps af g => by
  simp [execOp, ha.eval hx, ha.eval hy, eqGuard, binOp, Op.intBits, iandn]
theorem y_shl {k2 : IntKind} (hx : ev l x = some (.int k m)) (hy : ev l y = some (.int k2 n)) (h : 0 ≤ n) : Yc P l c (.binOp .shl t x y t2) (.int k (ishl k m n)) := fun a w ha _ d ty ps af g => by
  have h' : ¬ n < 0 := by omega
  simp [execOp, ha.eval hx, ha.eval hy, eqGuard, binOp, Op.shift, ishl, h']
theorem y_shr {k2 : IntKind} (hx : ev l x = some (.int k m)) (hy : ev l y = some (.int k2 n)) (h : 0 ≤ n) : Yc P l c (.binOp .shr t x y t2) (.int k (ishr k m n)) := fun a w ha _ d ty ps af g => by
  have h' : ¬ n < 0 := by omega
  simp [execOp, ha.eval hx, ha.eval hy, eqGuard, binOp, Op.shift, ishr, h']
theorem y_lss (hx : ev l x = some (.int k m)) (hy : ev l y = some (.int k n)) : Yc P l c (.binOp .lss t x y t2) (.bool (decide (m < n))) := fun a w ha _ d ty ps af g => by
  simp [execOp, ha.eval hx, ha.eval hy, eqGuard, binOp, Op.intCmp]
theorem y_leq (hx : ev l x = some (.int k m)) (hy : ev l y = some (.int k n)) : Yc P l c (.binOp .leq t x y t2) (.bool (decide (m ≤ n))) := fun a w ha _ d ty ps af g => by
  simp [execOp, ha.eval hx, ha.eval hy, eqGuard, binOp, Op.intCmp]
theorem y_gtr (hx : ev l x = some (.int k m)) (hy : ev l y = some (.int k n)) : Yc P l c (.binOp .gtr t x y t2) (.bool (decide (n < m))) := fun a w ha _ d ty ps af g => by
  simp [execOp, ha.eval hx, ha.eval hy, eqGuard, binOp, Op.intCmp]
theorem y_geq (hx : ev l x = some (.int k m)) (hy : ev l y = some (.int k n)) : Yc P l c (.binOp .geq t x y t2) (.bool (decide (n ≤ m))) := fun a w ha _ d ty ps af g => by
  simp [execOp, ha.eval hx, ha.eval hy, eqGuard, binOp, Op.intCmp]
theorem y_eql (hx : ev l x = some (.int k m)) (hy : ev l y = some (.int k n)) : Yc P l c (.binOp .eql t x y t2) (.bool (decide (m = n))) := fun a w ha _ d ty ps af g => by
  simp only [execOp, ha.eval hx, ha.eval hy, eqGuard, binOp, Op.intCmp]; simp; by_cases h : m = n <;> simp [h]
theorem y_neq (hx : ev l x = some (.int k m)) (hy : ev l y = some (.int k n)) : Yc P l c (.binOp .neq t x y t2) (.bool (decide (m ≠ n))) := fun a w ha _ d ty ps af g => by
  simp only [execOp, ha.eval hx, ha.eval hy, eqGuard, binOp, Op.intCmp]; simp [bne]; by_cases h : m = n <;> simp [h]
theorem y_neg (hx : ev l x = some (.int k m)) : Yc P l c (.unOp .neg t x) (.int k (k.wrap (0 - m))) := fun a w ha _ d ty ps af g => by
  simp [execOp, ha.eval hx, Op.unary, Op.intArith]
def ineg (k : IntKind) (x : Int) : Int := ixor k (if k.signed then -1 else k.max) x
theorem y_cpl (hx : ev l x = some (.int k m)) : Yc P l c (.unOp .xor t x) (.int k (ineg k m)) := fun a w ha _ d ty ps af g => by
  simp [execOp, ha.eval hx, Op.unary, Op.intBits, ineg, ixor]
theorem y_not {b : Bool} (hx : ev l x = some (.bool b)) : Yc P l c (.unOp .not t x) (.bool !b) := fun a w ha _ d ty ps af g => by
  simp [execOp, ha.eval hx, Op.unary]
class IntT (P : Program) (t : TypeId) (k : outParam IntKind) : Prop where
  run : P.underlying t = some (.int k)
theorem y_conv {k2 : IntKind} [h : IntT P t2 k2] (ht : ∃ u, P.underlying t = some u) (hx : ev l x = some (.int k m)) : Yc P l c (.convert t t2 x) (.int k2 (k2.wrap m)) := fun a w ha _ d ty ps af g => by
  obtain ⟨u, hu⟩ := ht
  simp [execOp, ha.eval hx, convert, run_underlying hu, run_underlying h.run, Conv.intToInt]
end ints
/-- A test whose outcome is known. -/
theorem yT {op : Op} {p : Prop} [Decidable p] (h : Yc P l c op (.bool (decide p))) (hp : p) : Yc P l c op (.bool true) := by rwa [decide_eq_true hp] at h
theorem yF {op : Op} {p : Prop} [Decidable p] (h : Yc P l c op (.bool (decide p))) (hp : ¬ p) : Yc P l c op (.bool false) := by rwa [decide_eq_false hp] at h
theorem yB {op : Op} {e b : Bool} (h : Yc P l c op (.bool e)) (hp : e = b) : Yc P l c op (.bool b) := hp ▸ h
theorem y_nc {x : Operand} {p : Addr} (hx : ev l x = some (.pointer (some p))) : Yc P l c (.nilCheck x) (.pointer (some p)) := fun a w ha _ d ty ps af g => by
  simp [execOp, ha.eval hx]
theorem y_ixA {t : TypeId} {x i : Operand} {n e size b o : Nat} {k : IntKind} {z : Int} [h : ArrayT P t n e size] (hx : ev l x = some (.pointer (some ⟨b, o, none⟩)))
    (hi : ev l i = some (.int k z)) (h0 : 0 ≤ z) (h1 : z < n) {oo : Nat} (ho : o + z.toNat * size = oo) : Yc P l c (.indexAddr t x i) (.pointer (some ⟨b, oo, none⟩)) := fun a w ha _ d ty ps af g => by
  subst ho
  simp [execOp, ha.eval hx, ha.eval hi, Instr.indexAt, asIntOf, run_underlying h.run, Instr.sureAddr, h0, h1, h.size, Addr.add_lit]
theorem y_ixL {t : TypeId} {x i : Operand} {e size b o len cap : Nat} {k : IntKind} {z : Int} [h : SliceT P t e size] (hx : ev l x = some (.slice (some ⟨b, o, none⟩) len cap))
    (hi : ev l i = some (.int k z)) (h0 : 0 ≤ z) (h1 : z < len) {oo : Nat} (ho : o + z.toNat * size = oo) : Yc P l c (.indexAddr t x i) (.pointer (some ⟨b, oo, none⟩)) := fun a w ha _ d ty ps af g => by
  subst ho
  simp [execOp, ha.eval hx, ha.eval hi, Instr.indexAt, asIntOf, run_underlying h.run, h0, h1, h.size, Addr.add_lit]
theorem y_len {t e size : Nat} {x : Operand} {p : Option Addr} {len cap : Nat} [h : SliceT P t e size] (hx : ev l x = some (.slice p len cap)) :
    Yc P l c (.call { callee := .builtin .len, args := #[x], argTypes := #[t] }) (.int .i64 len) := fun a w ha _ d ty ps af g => by
  simp [execOp, ha.eval hx, resolve, invoke, builtin, Builtin.len_, run_underlying h.run, goInt]
theorem y_build {t : TypeId} {ps : List (Nat × Operand)} {pl : Nat → Option (Nat × Nat)} {z cs : List Value} {vs : List (Nat × Value)} [h : StructT P t pl z] (hx : evp l ps = some vs) (hf : fillS pl z vs = some cs) :
    Yc P l c (.build t ps.toArray) (valL cs) := fun a w ha _ d ty p af g => by
  have he := ha.evalp hx
  have := fill_of_fillS _ _ _ _ hf
  have hm : (ps.toArray.map fun x => (x.1, a.eval x.2)) = vs.toArray := by rw [← he]; simp
  simp only [execOp, hm, Sem.run_bind, h.run w vs.toArray _ (by simpa using this)]
  rfl
theorem y_field {t : TypeId} {x : Operand} {i off ft : Nat} {cs : List Value} {v : Value} [h : FieldT P t i off ft] [hs : ScalarT P ft] (hx : ev l x = some (.agg cs.toArray)) (hv : nthL cs off = some v) :
    Yc P l c (.field t x i) v := fun a w ha _ d ty p af g => by
  obtain ⟨fs, hfs, f, hf, rfl, rfl⟩ := h.run
  rw [nthL_eq] at hv
  simp [execOp, ha.eval hx, Instr.field, run_underlying hfs, hf, asAgg, part, hs.run, hv]
theorem y_fieldA {t : TypeId} {x : Operand} {i off ft k : Nat} {cs vs : List Value} [h : FieldT P t i off ft] [hs : AggT P ft k] [hk : SizeT P ft k] (hx : ev l x = some (.agg cs.toArray)) (hv : lpart cs off k = some vs) :
    Yc P l c (.field t x i) (valL vs) := fun a w ha _ d ty p af g => by
  obtain ⟨fs, hfs, f, hf, rfl, rfl⟩ := h.run
  obtain ⟨h1, h2, _⟩ := lpart_e hv
  simp [execOp, ha.eval hx, Instr.field, run_underlying hfs, hf, asAgg, part, hs.run, hk.run, valL, List.extract_eq_take_drop, h2]
theorem y_idxA {t : TypeId} {x i : Operand} {n e size sz : Nat} {k : IntKind} {z : Int} {cs vs : List Value} [h : ArrayT P t n e size] [ha : AggT P e sz] (hx : ev l x = some (.agg cs.toArray))
    (hi : ev l i = some (.int k z)) (h0 : 0 ≤ z) (h1 : z < n) (hv : lpart cs (z.toNat * size) size = some vs) : Yc P l c (.index t x i) (valL vs) := fun a w hag _ d ty ps af g => by
  obtain ⟨_, h2, _⟩ := lpart_e hv
  simp [execOp, hag.eval hx, hag.eval hi, valL, Instr.index, asIntOf, run_underlying h.run, h0, h1, h.size, part, ha.run, List.extract_eq_take_drop, h2]
theorem y_idx {t : TypeId} {x i : Operand} {n e size : Nat} {k : IntKind} {z : Int} {cs : List Value} {v : Value} [h : ArrayT P t n e size] [hs : ScalarT P e] (hx : ev l x = some (.agg cs.toArray))
    (hi : ev l i = some (.int k z)) (h0 : 0 ≤ z) (h1 : z < n) (hv : nthL cs (z.toNat * size) = some v) : Yc P l c (.index t x i) v := fun a w hag _ d ty ps af g => by
  rw [nthL_eq] at hv
  simp [execOp, hag.eval hx, hag.eval hi, Instr.index, asIntOf, run_underlying h.run, h0, h1, h.size, part, hs.run, hv]
theorem y_iface {t : TypeId} {x : Operand} {v : Value} [h : NotIface P t] (hx : ev l x = some v) : Yc P l c (.makeInterface t x) (.iface t v) := fun a w ha _ d ty ps af g => by
  obtain ⟨u, hu, hn⟩ := h.run
  cases u <;> simp_all [execOp, ha.eval hx, Instr.makeInterface, run_underlying hu]
theorem y_mkf {f : FuncId} {xs : List Operand} {vs : List Value} (hx : evs l xs = some vs) : Yc P l c (.makeFunc (.func f) #[] xs.toArray) (.func (.func f) #[] vs.toArray) := fun a w ha _ d ty ps af g => by
  have he := ha.evals hx
  simp [execOp, Instr.makeFunc, ← he]
theorem y_assert {t t2 : TypeId} {x : Operand} {v : Value} [h : NotIface P t] (hx : ev l x = some (.iface t v)) : Yc P l c (.typeAssert x t2 t false) v := fun a w ha _ d ty ps af g => by
  obtain ⟨u, hu, hn⟩ := h.run
  cases u <;> simp_all [execOp, ha.eval hx, Instr.typeAssert, run_underlying hu]
theorem isNone_adr (p : Pt) : (adr p).isNone = decide (p = none) := by cases p <;> rfl
theorem y_pnil {t t2 : TypeId} {x y : Operand} {p : Pt} [h : PtrT P t] (hx : ev l x = some (.pointer (adr p))) (hy : ev l y = some (.pointer none)) : Yc P l c (.binOp .eql t x y t2) (.bool (decide (p = none))) := fun a w ha _ d ty ps af g => by
  obtain ⟨e, he⟩ := h.run
  have hr := run_ptr_nil he (adr p) w
  rw [isNone_adr] at hr
  simp [execOp, ha.eval hx, ha.eval hy, eqGuard, binOp, hr]
theorem y_pnn {t t2 : TypeId} {x y : Operand} {p : Pt} [h : PtrT P t] (hx : ev l x = some (.pointer (adr p))) (hy : ev l y = some (.pointer none)) : Yc P l c (.binOp .neq t x y t2) (.bool (decide (p ≠ none))) := fun a w ha _ d ty ps af g => by
  obtain ⟨e, he⟩ := h.run
  have hr := run_ptr_nil he (adr p) w
  rw [isNone_adr] at hr
  simp [execOp, ha.eval hx, ha.eval hy, eqGuard, binOp, hr]
end yields

/-! ### Lists of operations, code -/
def WL (P : Program) (w0 : World) (S0 : Mem) (opl : List Oper) (Q : Exit → Act → World → Prop) (rest : List Oper) (l : Fr) (S : Mem) (V : Hp) : Prop :=
  ∀ a w, Ag l a → St w0 S0 S V w → wpList P opl.toArray Q rest a w
def WC (P : Program) (w0 : World) (S0 : Mem) (c : Code) (Q : Exit → Act → World → Prop) (l : Fr) (S : Mem) (V : Hp) : Prop :=
  ∀ a w, Ag l a → St w0 S0 S V w → c.wp P Q a w
def WQ (w0 : World) (S0 : Mem) (Q : Exit → Act → World → Prop) (e : Exit) (l : Fr) (S : Mem) (V : Hp) : Prop :=
  ∀ a w, Ag l a → St w0 S0 S V w → Q e a w

section rules
variable {P : Program} {w0 : World} {S0 : Mem} {opl : List Oper} {Q : Exit → Act → World → Prop} {rest : List Oper} {l : Fr} {S : Mem} {V : Hp}
variable {d : Option Tmp} {op : Op} {ty : TypeId} {ps : String} {af : Array Edge} {g : Option (Nat × Bool)}
theorem s_v {c : Cond} {v : Value} (hw : wantL opl l g = some true) (hy : Yc P l c op v) (hc : HC w0 S0 S V c) (k : WL P w0 S0 opl Q rest (putn l d v) S V) : WL P w0 S0 opl Q (⟨d, op, ty, ps, af, g⟩ :: rest) l S V :=
  fun a w ha hS => wpList_step fun K hK => by
    rw [if_pos (wanted_of (o := ⟨d, op, ty, ps, af, g⟩) hw ha)]
    unfold Oper.wp
    rw [hy a w ha (hc w hS)]
    exact hK _ _ (k _ _ (ha.put d v) hS)
theorem s_p {v : Value} (hw : wantL opl l g = some true) (hy : Yc P l .tt op v) (k : WL P w0 S0 opl Q rest (putn l d v) S V) : WL P w0 S0 opl Q (⟨d, op, ty, ps, af, g⟩ :: rest) l S V := s_v hw hy hc_tt k
theorem s_skip (hw : wantL opl l g = some false) (k : WL P w0 S0 opl Q rest (putn l d undef) S V) : WL P w0 S0 opl Q (⟨d, op, ty, ps, af, g⟩ :: rest) l S V :=
  fun a w ha hS => wpList_step fun K hK => by
    rw [if_neg (by rw [wanted_of (o := ⟨d, op, ty, ps, af, g⟩) hw ha]; simp)]
    exact hK _ _ (k _ _ (ha.put d undef) hS)
theorem s_nil (k : WQ w0 S0 Q .normal l S V) : WL P w0 S0 opl Q [] l S V := fun a w ha hS => k a w ha hS
theorem s_alloc {t : TypeId} {z : List Value} [h : ZeroT P t z] (hw : wantL opl l g = some true)
    (k : ∀ b, WL P w0 S0 opl Q rest (putn l d (.pointer (some ⟨b, 0, none⟩))) S (V ++ [⟨b, t, z⟩])) (hty : Nat.beq t itT = false := by rfl) : WL P w0 S0 opl Q (⟨d, .alloc t, ty, ps, af, g⟩ :: rest) l S V :=
  fun a w ha hS => wpList_step fun K hK => by
    rw [if_pos (wanted_of (o := ⟨d, .alloc t, ty, ps, af, g⟩) hw ha)]
    unfold Oper.wp
    obtain ⟨v, hv, hz⟩ := h.run w
    have : (execOp a.eval ⟨d, .alloc t, ty, ps, af, g⟩).run P w = .ok (.value (.pointer (some ⟨w.heap.size, 0, none⟩))) (w.alloc (.cells z.toArray t)) := by
      simp [execOp, Instr.alloc, hz, newVar, newRow, newObj, hv, Sem.run]
    rw [this]
    exact hK _ _ (k w.heap.size _ _ (ha.put d _) (hS.alloc z t hty))
theorem s_box {t : TypeId} {x : Operand} {v : Value} {cs : List Value} (hw : wantL opl l g = some true) (hx : ev l x = some v) (hv : cellsL v = cs)
    (k : ∀ b, WL P w0 S0 opl Q rest (putn l d (.pointer (some ⟨b, 0, none⟩))) S (V ++ [⟨b, t, cs⟩])) (hty : Nat.beq t itT = false := by rfl) : WL P w0 S0 opl Q (⟨d, .box t x, ty, ps, af, g⟩ :: rest) l S V :=
  fun a w ha hS => wpList_step fun K hK => by
    subst hv
    rw [if_pos (wanted_of (o := ⟨d, .box t x, ty, ps, af, g⟩) hw ha)]
    unfold Oper.wp
    have : (execOp a.eval ⟨d, .box t x, ty, ps, af, g⟩).run P w = .ok (.value (.pointer (some ⟨w.heap.size, 0, none⟩))) (w.alloc (.cells (cellsL v).toArray t)) := by
      simp [execOp, Instr.box, ha.eval hx, newVar, newRow, newObj, cellsL_eq, Sem.run]
    rw [this]
    exact hK _ _ (k w.heap.size _ _ (ha.put d _) (hS.alloc _ t hty))
theorem run_store {w : World} {t : TypeId} {b o sz : Nat} {et : TypeId} {cs vs : List Value} {v : Value} [hk : SizeT P t sz] (hh : w.heap[b]? = some (.cells cs.toArray et (0, 0))) (hv : cellsL v = vs) (hsz : vs.length = sz) (hfit : o + sz ≤ cs.length)
    (h1 : vs.all (·.oneCell') = true) : (Instr.storeAt t (.pointer (some ⟨b, o, none⟩)) v).run P w = .ok () (w.setRow b (spl cs o vs).toArray) := by
  have hst := run_storeCells_at (P := P) b o et vs 0 cs.toArray w hh (by simp; omega) (fun v hv => List.all_eq_true.1 h1 v hv)
  simp only [Nat.add_zero] at hst
  rw [← spl_eq cs o vs (by omega)] at hst
  simp [Instr.storeAt, Instr.sureAddr, storeVar, hk.run, cellsL_eq, hv, hsz, hst]
/-- A store into a block of one's own. -/
theorem s_stV {t : TypeId} {x y : Operand} {b o sz : Nat} (n : Nat) {et : TypeId} {cs vs : List Value} {v : Value} [hk : SizeT P t sz] (hw : wantL opl l g = some true) (hx : ev l x = some (.pointer (some ⟨b, o, none⟩)))
    (hy : ev l y = some v) (hv : cellsL v = vs) (hn : nthL V n = some ⟨b, et, cs⟩) (hsz : vs.length = sz) (hfit : o + sz ≤ cs.length) (h1 : vs.all (·.oneCell') = true)
    (k : WL P w0 S0 opl Q rest (putn l d undef) S (setE V n (spl cs o vs))) (hty : Nat.beq et itT = false := by rfl) : WL P w0 S0 opl Q (⟨d, .store t x y, ty, ps, af, g⟩ :: rest) l S V :=
  fun a w ha hS => wpList_step fun K hK => by
    rw [if_pos (wanted_of (o := ⟨d, .store t x y, ty, ps, af, g⟩) hw ha)]
    unfold Oper.wp
    have hst := run_store (P := P) (t := t) (by rw [(hS.loc _ (mem_of_nthL hn)).1, Ent.obj_cells hty]) hv hsz hfit h1
    have : (execOp a.eval ⟨d, .store t x y, ty, ps, af, g⟩).run P w = .ok .skip (w.setRow b (spl cs o vs).toArray) := by
      simp [execOp, ha.eval hx, ha.eval hy, hst]
    rw [this]
    exact hK _ _ (k _ _ (ha.put d _) (hS.setV hn _ hty))
theorem s_stS {t : TypeId} {x y : Operand} {b o sz : Nat} {vs : List Value} {v : Value} [hk : SizeT P t sz] (hw : wantL opl l g = some true) (hx : ev l x = some (.pointer (some ⟨b, o, none⟩)))
    (hy : ev l y = some v) (hv : cellsL v = vs) (hsz : vs.length = sz) (hp : S.room b o sz) (h1 : vs.all (·.oneCell') = true)
    (k : WL P w0 S0 opl Q rest (putn l d undef) (S.put b o vs) V) : WL P w0 S0 opl Q (⟨d, .store t x y, ty, ps, af, g⟩ :: rest) l S V :=
  fun a w ha hS => wpList_step fun K hK => by
    rw [if_pos (wanted_of (o := ⟨d, .store t x y, ty, ps, af, g⟩) hw ha)]
    unfold Oper.wp
    obtain ⟨kb, hkb, hfr, hl⟩ := hp
    have hm := hS.mem b kb hkb
    rw [hfr] at hm
    have hst := run_store (P := P) (t := t) hm hv hsz hl h1
    have : (execOp a.eval ⟨d, .store t x y, ty, ps, af, g⟩).run P w = .ok .skip (w.setRow b (spl kb.cs o vs).toArray) := by
      simp [execOp, ha.eval hx, ha.eval hy, hst]
    rw [this]
    exact hK _ _ (k _ _ (ha.put d _) (hS.putS hkb _))
/-- A block of one's own is handed over to memory. -/
theorem s_pub (n : Nat) {b : Nat} {t : TypeId} {cs : List Value} (hn : nthL V n = some ⟨b, t, cs⟩) (k : S b = none → WL P w0 S0 opl Q rest l (S.set b (bw t cs)) (dropE V n)) (hty : Nat.beq t itT = false := by rfl) : WL P w0 S0 opl Q rest l S V :=
  fun a w ha hS => k (hS.loc _ (mem_of_nthL hn)).2.1 a w ha (hS.publish hn hty)
theorem c_pub {c : Code} (n : Nat) {b : Nat} {t : TypeId} {cs : List Value} (hn : nthL V n = some ⟨b, t, cs⟩) (k : S b = none → WC P w0 S0 c Q l (S.set b (bw t cs)) (dropE V n)) (hty : Nat.beq t itT = false := by rfl) : WC P w0 S0 c Q l S V :=
  fun a w ha hS => k (hS.loc _ (mem_of_nthL hn)).2.1 a w ha (hS.publish hn hty)

/-! code -/
theorem c_seq {x y : Code} (h : WC P w0 S0 x (Exit.then (y.wp P Q) Q) l S V) : WC P w0 S0 (.seq x y) Q l S V := fun a w ha hS => wp_seq (h a w ha hS)
theorem c_skip (h : WQ w0 S0 Q .normal l S V) : WC P w0 S0 .skip Q l S V := fun a w ha hS => wp_skip (h a w ha hS)
theorem c_exit {i : Nat} (h : WQ w0 S0 Q (.exit i) l S V) : WC P w0 S0 (.exit i) Q l S V := fun a w ha hS => wp_exit (h a w ha hS)
theorem c_ret (h : WQ w0 S0 Q .ret l S V) : WC P w0 S0 .ret Q l S V := fun a w ha hS => wp_ret (h a w ha hS)
theorem c_block {i : Nat} {c : Code} (h : WC P w0 S0 c (Exit.inBlock i Q) l S V) : WC P w0 S0 (.block i c) Q l S V := fun a w ha hS => wp_block (h a w ha hS)
theorem c_region {i : Nat} {opl : List Oper} (h : WL P w0 S0 opl Q opl l S V) : WC P w0 S0 (.region i opl.toArray false) Q l S V := fun a w ha hS => wp_region_lit (h a w ha hS)
theorem c_t {c : Operand} {x y : Code} {e : Bool} (hc : ev l c = some (.bool e)) (he : e = true) (h : WC P w0 S0 x Q l S V) : WC P w0 S0 (.cond c x y) Q l S V := fun a w ha hS => wp_cond_true (he ▸ ha.eval hc) (h a w ha hS)
theorem c_f {c : Operand} {x y : Code} {e : Bool} (hc : ev l c = some (.bool e)) (he : e = false) (h : WC P w0 S0 y Q l S V) : WC P w0 S0 (.cond c x y) Q l S V := fun a w ha hS => wp_cond_false (he ▸ ha.eval hc) (h a w ha hS)
theorem q_then {y : Code} (h : WC P w0 S0 y Q l S V) : WQ w0 S0 (Exit.then (y.wp P Q) Q) .normal l S V := fun a w ha hS => h a w ha hS
theorem q_then_ret {K : Act → World → Prop} (h : WQ w0 S0 Q .ret l S V) : WQ w0 S0 (Exit.then K Q) .ret l S V := fun a w ha hS => h a w ha hS
theorem q_then_exit {K : Act → World → Prop} {i : Nat} (h : WQ w0 S0 Q (.exit i) l S V) : WQ w0 S0 (Exit.then K Q) (.exit i) l S V := fun a w ha hS => h a w ha hS
theorem q_blk {i : Nat} (h : WQ w0 S0 Q .normal l S V) : WQ w0 S0 (Exit.inBlock i Q) .normal l S V := fun a w ha hS => h a w ha hS
theorem q_blk_ret {i : Nat} (h : WQ w0 S0 Q .ret l S V) : WQ w0 S0 (Exit.inBlock i Q) .ret l S V := fun a w ha hS => h a w ha hS
theorem q_blk_out {i : Nat} (h : WQ w0 S0 Q .normal l S V) : WQ w0 S0 (Exit.inBlock i Q) (.exit i) l S V := fun a w ha hS => by simp only [Exit.inBlock, if_true]; exact h a w ha hS
theorem q_blk_on {i j : Nat} (hij : (j == i) = false) (h : WQ w0 S0 Q (.exit j) l S V) : WQ w0 S0 (Exit.inBlock i Q) (.exit j) l S V := fun a w ha hS => by
  simp only [Exit.inBlock]; rw [if_neg (by simpa using hij)]; exact h a w ha hS
theorem c_weak {c : Code} {m : Fr} {idx : List Nat} {A B : Hp} (hl : m.n = l.n) (hf : leF l m.kv) (hs : selE idx V = some (A, B)) (h : WC P w0 S0 c Q m S A) : WC P w0 S0 c Q l S V :=
  fun a w ha hS => h a w (ha.forget hl hf) (hS.selV hs)
theorem wq_weak {e : Exit} {m : Fr} {idx : List Nat} {A B : Hp} (hl : m.n = l.n) (hf : leF l m.kv) (hs : selE idx V = some (A, B)) (h : WQ w0 S0 Q e m S A) : WQ w0 S0 Q e l S V :=
  fun a w ha hS => h a w (ha.forget hl hf) (hS.selV hs)
/-- A place where ways meet: behind 'x', where 'J z S' is known, the frame is 'lf z', the blocks of one's own are 'Vf z'. -/
theorem c_join {α : Type} (J : α → Mem → Prop) (lf : α → Fr) (Vf : α → Hp) {x y : Code} (h2 : ∀ z S, J z S → WC P w0 S0 y Q (lf z) S (Vf z))
    (h1 : (∀ (z : α) (l : Fr) (S : Mem) (V B : Hp) (idx : List Nat), J z S → (lf z).n = l.n → leF l (lf z).kv → selE idx V = some (Vf z, B) → WQ w0 S0 (Exit.then (y.wp P Q) Q) .normal l S V) →
      WC P w0 S0 x (Exit.then (y.wp P Q) Q) l S V) : WC P w0 S0 (.seq x y) Q l S V :=
  c_seq (h1 fun z _ _ _ _ _ hJ hl hf hs => q_then (c_weak hl hf hs (h2 z _ hJ)))
/-! loops -/
def lp {α : Type} (F : (α → Mem → Prop) → α → Mem → Prop) (z : α) (S : Mem) : Prop := ∀ X : α → Mem → Prop, (∀ y S, F X y S → X y S) → X z S
theorem lp_rule {α : Type} {F : (α → Mem → Prop) → α → Mem → Prop} (I : α → Mem → Prop) (m : α → Nat) (h : ∀ X y S, I y S → (∀ y' S', I y' S' → m y' < m y → X y' S') → F X y S) {z : α} {S : Mem} (h0 : I z S) : lp F z S := by
  intro X hX
  have key : ∀ n y S, m y = n → I y S → X y S := by
    intro n
    induction n using Nat.strongRecOn with
    | _ n ih => intro y S hn hI; exact hX y S (h X y S hI fun y' S' hI' hlt => ih (m y') (hn ▸ hlt) y' S' rfl hI')
  exact key _ z S rfl h0
theorem wp_loop_unfold {c : Code} {X : Act → World → Prop} (hX : ∀ a w, X a w → ∀ (b : Frame) (k : List Item) (cs : List Frame), ∃ e a' w', Q e a' w' ∧ Arrives P (lone (b.at a (.code c :: .inLoop c :: k)) cs w) b k cs e a' w') {a : Act} {w : World}
    (h : c.wp P (Exit.then X Q) a w) : ∀ (b : Frame) (k : List Item) (cs : List Frame), ∃ e a' w', Q e a' w' ∧ Arrives P (lone (b.at a (.code c :: .inLoop c :: k)) cs w) b k cs e a' w' := by
  intro b k cs
  obtain ⟨e, a₁, w₁, hq, harr⟩ := h b (.inLoop c :: k) cs
  cases e with
  | normal =>
    obtain ⟨e₂, a₂, w₂, hq₂, harr₂⟩ := hX a₁ w₁ hq b k cs
    exact ⟨e₂, a₂, w₂, hq₂, .of_steps (Steps.trans harr (.one step_inLoop)) harr₂⟩
  | exit id => exact ⟨_, a₁, w₁, hq, .pass (x := .inLoop c) rfl (fun _ _ => .inl (by simp)) harr⟩
  | goto l => exact ⟨_, a₁, w₁, hq, .pass (x := .inLoop c) rfl (fun _ _ => .inl (by simp)) harr⟩
  | ret => exact ⟨_, a₁, w₁, hq, .pass (x := .inLoop c) rfl (fun _ _ => .inl (by simp)) harr⟩
  | panic ch => exact ⟨_, a₁, w₁, hq, .pass (x := .inLoop c) rfl (fun _ _ => .inl (by simp)) harr⟩
  | outgrown => exact ⟨_, a₁, w₁, hq, .pass (x := .inLoop c) rfl (fun _ _ => .inl (by simp)) harr⟩
/-- The way back to a loop's head. -/
def Back (P : Program) (c : Code) (Q : Exit → Act → World → Prop) (a : Act) (w : World) : Prop :=
  ∀ (b : Frame) (k : List Item) (cs : List Frame), ∃ e a' w', Q e a' w' ∧ Arrives P (lone (b.at a (.code c :: .inLoop c :: k)) cs w) b k cs e a' w'
theorem c_loop {α : Type} {F : (α → Mem → Prop) → α → Mem → Prop} (lf : α → Fr) (Vf : α → Hp) {c : Code} (z : α) {idx : List Nat} {B : Hp} (H : lp F z S) (hl : (lf z).n = l.n) (hf : leF l (lf z).kv) (hs : selE idx V = some (Vf z, B))
    (round : ∀ (X : α → Mem → Prop), (∀ (z : α) (l : Fr) (S : Mem) (V B : Hp) (idx : List Nat), X z S → (lf z).n = l.n → leF l (lf z).kv → selE idx V = some (Vf z, B) → WQ w0 S0 (Exit.then (Back P c Q) Q) .normal l S V) →
      ∀ z S, F X z S → WC P w0 S0 c (Exit.then (Back P c Q) Q) (lf z) S (Vf z)) : WC P w0 S0 (.loop c) Q l S V := by
  have key := H (fun z S => ∀ a w, Ag (lf z) a → St w0 S0 S (Vf z) w → Back P c Q a w) (fun y S hF a w ha hS => by
    refine wp_loop_unfold (X := Back P c Q) (fun _ _ h => h) (round _ ?_ y S hF a w ha hS)
    intro z l S V B idx hX hl hf hs a w ha hS
    exact hX a w (ha.forget hl hf) (hS.selV hs))
  intro a w ha hS b k cs
  obtain ⟨e, a', w', hq, harr⟩ := key a w (ha.forget hl hf) (hS.selV hs) b k cs
  exact ⟨e, a', w', hq, .of_steps (.one step_loop) harr⟩

/-! ### Functions -/
/-- What a call comes to: the weakest condition on memory under which the function returns a 'v' and leaves a memory 'S'' with 'Q v S''. -/
def Tr (P : Program) (f : FuncId) (S : Mem) (args : List Value) (Q : Value → Mem → Prop) : Prop :=
  ∀ w, St w S S [] w → Calls P f args.toArray w (fun e w' => ∃ v S', e = .returned v ∧ Q v S' ∧ St w S S' [] w')
theorem Tr.mono {f : FuncId} {args : List Value} {Q Q' : Value → Mem → Prop} (h : Tr P f S args Q) (hq : ∀ v S', Q v S' → Q' v S') : Tr P f S args Q' :=
  fun w hS => (h w hS).mono fun _ _ ⟨v, S', h1, h2, h3⟩ => ⟨v, S', h1, hq _ _ h2, h3⟩
def FR (w0 : World) (S0 : Mem) (Q : Value → Mem → Prop) (e : Ending) (w' : World) : Prop := ∃ v S', e = .returned v ∧ Q v S' ∧ St w0 S0 S' [] w'
theorem Tr.intro {f : FuncId} {args : List Value} {R : Value → Mem → Prop} {fn : Func} {c : Code} {n : Nat} (hf : P.funcs[f]? = some fn) (hb : fn.body = some c) (hn : fn.ntmps = n) (hle : Nat.ble args.length n = true)
    (h : ∀ w0, WC P w0 S c (bodyPost P fn (FR w0 S R)) (mkFr args n) S []) : Tr P f S args R := fun w hS => by
  refine calls_of_wp hf hb (h w _ w ⟨rfl, ?_, ?_⟩ hS)
  · have := Nat.le_of_ble_eq_true hle
    simp [mkFr, hn]; omega
  · intro i v hv
    rw [nth_eq] at hv
    split at hv
    · obtain ⟨_, h2⟩ := look_argsF args 0 i v hv
      have h2 : args[i]? = some v := by simpa using h2
      have hlt : i < args.length := (List.getElem?_eq_some_iff.1 h2).1
      rw [Array.getElem?_append_left (by simpa using hlt)]
      simpa using h2
    · cases hv
def RV (P : Program) (w0 : World) (S0 : Mem) (l : Fr) (S : Mem) (V : Hp) (rs : List ResultVar) (vs : List Value) : Prop :=
  ∀ a w, Ag l a → St w0 S0 S V w → (rs.mapM (rvF a)).run P w = .ok vs w
theorem rv_nil : RV P w0 S0 l S V [] [] := fun a w _ _ => by simp
theorem rv_tmp {i : Nat} {v : Value} {rs : List ResultVar} {vs : List Value} (h : nth l i = some v) (hr : RV P w0 S0 l S V rs vs) : RV P w0 S0 l S V (.tmp i :: rs) (v :: vs) := fun a w ha hS => by
  have h1 := ha.slots i v h
  exact mapM_rv (by simp [rvF, h1]) (hr a w ha hS)
theorem rv_cell {i t b o : Nat} {v : Value} {rs : List ResultVar} {vs : List Value} [ht : ScalarT P t] (h : nth l i = some (.pointer (some ⟨b, o, none⟩)))
    (hc : HC w0 S0 S V (.cell b o v)) (hr : RV P w0 S0 l S V rs vs) : RV P w0 S0 l S V (.cell i t :: rs) (v :: vs) := fun a w ha hS => by
  have h1 := ha.slots i _ h
  have hc : w.cell? ⟨b, o, none⟩ = some v := hc w hS
  exact mapM_rv (by simp [rvF, h1, asAddr, loadVar, ht.run, hc]) (hr a w ha hS)
theorem rv_cellA {i t b o k : Nat} {rs : List ResultVar} {vs us : List Value} [ht : AggT P t k] [hk : SizeT P t k] (h : nth l i = some (.pointer (some ⟨b, o, none⟩)))
    (hc : HC w0 S0 S V (.cells b o us)) (hl : us.length = k) (hr : RV P w0 S0 l S V rs vs) : RV P w0 S0 l S V (.cell i t :: rs) (valL us :: vs) := fun a w ha hS => by
  have h1 := ha.slots i _ h
  have hl := run_cells (P := P) (hc w hS) hl
  exact mapM_rv (by simp [rvF, h1, asAddr, loadVar, ht.run, hk.run, hl, valL]) (hr a w ha hS)
theorem results_of {fn : Func} {rs : List ResultVar} {vs : List Value} {a : Act} {w : World} (hr : fn.results = rs.toArray) (hv : RV P w0 S0 l S V rs vs) (ha : Ag l a) (hS : St w0 S0 S V w) : (results fn a.tmps).run P w = .ok (retVal vs) w := by
  have h := hv a w ha hS
  rw [results_eq fn a, hr, List.mapM_toArray]
  simp only [Sem.run_bind, map_eq_pure_bind, h, Result.andThen_ok, Sem.run_pure]
  match vs with
  | [] => rfl
  | [v] => rfl
  | v :: u :: vs => simp [retVal]
theorem q_ret {fn : Func} {rs : List ResultVar} {vs : List Value} {R : Value → Mem → Prop} (hr : fn.results = rs.toArray) (hv : RV P w0 S0 l S V rs vs)
    (hR : R (retVal vs) S) : WQ w0 S0 (bodyPost P fn (FR w0 S0 R)) .ret l S V :=
  fun _ _ ha hS => ⟨ha.defers, _, results_of hr hv ha hS, _, _, rfl, hR, hS.selV (idx := []) (A := []) (B := V) rfl⟩
theorem q_end {fn : Func} {rs : List ResultVar} {vs : List Value} {R : Value → Mem → Prop} (hr : fn.results = rs.toArray) (hv : RV P w0 S0 l S V rs vs)
    (hR : R (retVal vs) S) : WQ w0 S0 (bodyPost P fn (FR w0 S0 R)) .normal l S V :=
  fun _ _ ha hS => ⟨ha.defers, _, results_of hr hv ha hS, _, _, rfl, hR, hS.selV (idx := []) (A := []) (B := V) rfl⟩
/-! calls -/
/-- The operation calls the function 'f' with these arguments. -/
def En (P : Program) (w0 : World) (S0 : Mem) (l : Fr) (S : Mem) (V : Hp) (op : Op) (f : FuncId) (args : List Value) : Prop :=
  ∀ a w, Ag l a → St w0 S0 S V w → ∀ d ty ps af g, (execOp a.eval ⟨d, op, ty, ps, af, g⟩).run P w = .ok (.enter f args.toArray) w
theorem e_call {f : FuncId} {xs : List Operand} {ats : Array TypeId} {args : List Value} [hcall : CallT P f] (hx : evs l xs = some args) : En P w0 S0 l S V (.call { callee := .value (.func f), args := xs.toArray, argTypes := ats }) f args := fun a w ha _ d ty ps af g => by
  have he := ha.evals hx
  have e1 : xs.toArray.map a.eval = args.toArray := by rw [← he]; simp
  simp [execOp, resolve, Act.eval, Deferred.ofValue, invoke, e1, hcall.run]
/-- A function value is called: it is a known function, with what it holds. -/
def cv (P : Program) (S : Mem) (fv : Value) (args : List Value) (Q : Value → Mem → Prop) : Prop :=
  ∃ f caps, fv = .func (.func f) #[] (List.toArray caps) ∧ CallT P f ∧ Tr P f S (args ++ caps) Q
/-- A method of an interface value is called. -/
def ci (P : Program) (S : Mem) (rv : Value) (name : String) (args : List Value) (Q : Value → Mem → Prop) : Prop :=
  ∃ f as, (∀ w, St w S S [] w → (callMethod rv name args.toArray).run P w = .ok (.enter f (List.toArray as)) w) ∧ Tr P f S as Q
theorem s_en {f : FuncId} {args : List Value} {R : Value → Mem → Prop} (he : En P w0 S0 l S V op f args) (hc : Tr P f S args R) (hw : wantL opl l g = some true)
    (k : ∀ v S', R v S' → WL P w0 S0 opl Q rest (putn l d v) S' V) : WL P w0 S0 opl Q (⟨d, op, ty, ps, af, g⟩ :: rest) l S V :=
  fun a w ha hS => wpList_step fun K hK => by
    rw [if_pos (wanted_of (o := ⟨d, op, ty, ps, af, g⟩) hw ha)]
    unfold Oper.wp
    rw [he a w ha hS, Oper.upon_enter]
    refine (hc w hS.self).mono ?_
    rintro e w' ⟨v, S', rfl, hR, hS'⟩
    exact hK _ _ (k v S' hR _ _ (ha.put d v) (hS.called hS'))
theorem s_call {f : FuncId} {xs : List Operand} {ats : Array TypeId} {args : List Value} {R : Value → Mem → Prop} [hcall : CallT P f] (hw : wantL opl l g = some true) (hx : evs l xs = some args) (hc : Tr P f S args R)
    (k : ∀ v S', R v S' → WL P w0 S0 opl Q rest (putn l d v) S' V) : WL P w0 S0 opl Q (⟨d, .call { callee := .value (.func f), args := xs.toArray, argTypes := ats }, ty, ps, af, g⟩ :: rest) l S V := s_en (e_call hx) hc hw k
theorem s_cv {xs : List Operand} {cc : Operand} {ats : Array TypeId} {args : List Value} {fv : Value} {R : Value → Mem → Prop} (hw : wantL opl l g = some true) (hf : ev l cc = some fv) (hx : evs l xs = some args) (hc : cv P S fv args R)
    (k : ∀ v S', R v S' → WL P w0 S0 opl Q rest (putn l d v) S' V) : WL P w0 S0 opl Q (⟨d, .call { callee := .value cc, args := xs.toArray, argTypes := ats }, ty, ps, af, g⟩ :: rest) l S V := by
  obtain ⟨f, caps, rfl, hcall, hT⟩ := hc
  refine s_en (f := f) (args := args ++ caps) (fun a w ha _ d ty ps af g => ?_) hT hw k
  have he := ha.evals hx
  have e1 : xs.toArray.map a.eval = args.toArray := by rw [← he]; simp
  simp [execOp, resolve, ha.eval hf, Deferred.ofValue, invoke, e1, hcall.run]
theorem s_ci {xs : List Operand} {r : Operand} {name : String} {ats : Array TypeId} {args : List Value} {rv : Value} {R : Value → Mem → Prop} (hw : wantL opl l g = some true) (hr : ev l r = some rv) (hx : evs l xs = some args) (hc : ci P S rv name args R)
    (k : ∀ v S', R v S' → WL P w0 S0 opl Q rest (putn l d v) S' V) : WL P w0 S0 opl Q (⟨d, .call { callee := .invoke r name, args := xs.toArray, argTypes := ats }, ty, ps, af, g⟩ :: rest) l S V := by
  obtain ⟨f, as, hm, hT⟩ := hc
  refine s_en (f := f) (args := as) (fun a w ha hS d ty ps af g => ?_) hT hw k
  have he := ha.evals hx
  have e1 : xs.toArray.map a.eval = args.toArray := by rw [← he]; simp
  have := hm w hS.self
  simp [execOp, resolve, ha.eval hr, invoke, e1, this]
theorem ci_P {t f : Nat} {name : String} {args : List Value} {p : Addr} {R : Value → Mem → Prop} [hm : MethP P t name f] [hcall : CallT P f] (h : Tr P f S (.pointer (some p) :: args) R) : ci P S (.iface t (.pointer (some p))) name args R :=
  ⟨f, _, fun w _ => by simp [callMethod, hm.run, hcall.run], h⟩
theorem ci_V {t f b o : Nat} {name : String} {args : List Value} {v : Value} {R : Value → Mem → Prop} [hm : MethV P t name f] [hcall : CallT P f] (hv : S.cell b o = some v) (h : Tr P f S (v :: args) R) : ci P S (.iface t (.pointer (some ⟨b, o, none⟩))) name args R :=
  ⟨f, _, fun w hS => by simp [callMethod, hm.run _ _ v (hS.cellS hv), hcall.run], h⟩
end rules
end Go.Pt
