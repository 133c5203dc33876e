/- A VM in the abstract; copies. -/
import Derived.Test.YtpilffakhkagjaaGuF
import Derived.Test.YtpilffakhkagjaaPfK
namespace Go.Pt
open Go
/-- The block that a slice is of. -/
def ob (s : Sl) : List Nat := match s.p with
  | none => []
  | some (c, _) => [c]
theorem row_blk {S : Mem} {size : Nat} {s : Sl} {l : List Value} (h : Row S size s l) {x : Nat} (hx : x ∈ ob s) : s.p = some (x, 0) ∧ ∃ k, S x = some k := by
  rcases h.lie with ⟨e, _⟩ | ⟨b, k, e1, e2, _⟩
  · simp [ob, e] at hx
  · simp only [ob, e1, List.mem_singleton] at hx
    subst hx; exact ⟨e1, k, e2⟩
theorem Row.kept {S S' : Mem} {W : List Nat} {size : Nat} {s : Sl} {l : List Value} (h : Row S size s l) (hk : Keeps S S' W) (hw : ∀ x ∈ ob s, x ∉ W) : Row S' size s l := by
  refine h.keep fun c hc => ?_
  have hx : c ∈ ob s := by simp [ob, hc]
  obtain ⟨_, k, hk2⟩ := row_blk h hx
  exact hk c (by simp [hk2]) (hw c hx)
end Go.Pt
namespace Go.Proofs.Ytpilffakhkagjaa
open Go Go.Pt
/-- What a clone leaves. -/
structure Copied (S S' : Mem) (size : Nat) (s' : Sl) (l : List Value) : Prop where
  row : Row S' size s' l
  keep : Keeps S S' []
  fresh : ∀ x ∈ ob s', S x = none
theorem clone_gen {S : Mem} {e size bytes : Nat} {z l : List Value} {s : Sl} (h : Row S size s l) (hone : l.all (·.oneCell') = true) (hz : z.length = size) (lim : (2 * (0 + s.n) + 1024) * bytes ≤ 281474976710656) {Q : Sl → Mem → Prop} (hQ : ∀ s' S', s'.n = s.n → Copied S S' size s' l → Q s' S') :
    (if s.p = none then Q (⟨none, 0, 0⟩) S else al S e ([]) fun b Sx => sp Sx s size fun vs => ap Sx e size bytes z (⟨some (b, 0), 0, 0⟩) s.n vs fun t Sx_1 => Q t Sx_1) := by
  cases hp : s.p with
  | none =>
    rw [if_pos rfl]
    rcases h.lie with ⟨e1, e2⟩ | ⟨b, k, e1, _⟩
    · have hn : s.n = 0 := by have := h.cap; omega
      have hl : l = [] := List.length_eq_zero_iff.1 (by rw [h.len, hn, Nat.zero_mul])
      subst hl
      exact hQ _ _ hn.symm ⟨Row.nil, Keeps.refl, by simp [ob]⟩
    · rw [hp] at e1; cases e1
  | some bo =>
    obtain ⟨c, o⟩ := bo
    rw [if_neg (by simp)]
    intro b hb
    have ho : o = 0 := by
      rcases h.lie with ⟨e1, _⟩ | ⟨c', k, e1, _⟩
      · rw [hp] at e1; cases e1
      · rw [hp] at e1; cases e1; rfl
    subst ho
    have hk : Keeps S (S.set b (bw e [])) [] := Keeps.refl.new hb
    have h1 := h.kept hk (by simp)
    refine ⟨l, .inr ⟨c, 0, hp, h1.part hp⟩, hone, ?_⟩
    have hb1 : Row (S.set b (bw e [])) size ⟨some (b, 0), 0, 0⟩ [] := ⟨by simp, by simp, .inr ⟨b, _, rfl, set_same, rfl, by simp, by simp⟩⟩
    by_cases h0 : s.n = 0
    · have hl : l = [] := List.length_eq_zero_iff.1 (by rw [h.len, h0, Nat.zero_mul])
      subst hl
      rw [h0]
      refine ⟨by rw [h0] at lim; exact lim, fun _ => .inr ⟨b, 0, rfl, ⟨_, set_same, rfl, by simp⟩, ?_⟩, fun hlt => by simp at hlt⟩
      refine hQ _ _ (by simp [h0]) ⟨⟨by simp, by simp, .inr ⟨b, _, rfl, by rw [put_of set_same]; exact set_same, rfl, by simp [spl], by simp [spl]⟩⟩, ?_, ?_⟩
      · rw [put_of set_same]; exact (Keeps.refl.new hb).fresh hb
      · intro x hx; simp only [ob, List.mem_singleton] at hx; subst hx; exact hb
    · refine ap_row hb1 (by rw [h.len]) (by omega) hz lim fun s1 S1 c1 k hn hp1 hor hS1 hrow => ?_
      have hc1 : S c1 = none := by
        rcases hor with e2 | e2
        · simp only [Option.some.injEq, Prod.mk.injEq] at e2; rw [← e2.1]; exact hb
        · exact fresh_of hk e2
      refine hQ _ _ (by simpa using hn) ⟨by simpa using hrow, ?_, ?_⟩
      · rw [hS1]; exact hk.fresh hc1
      · intro x hx; simp only [ob, hp1, List.mem_singleton] at hx; subst hx; exact hc1
/-- Bytes as cells. -/
def bL (xs : List Int) : List Value := xs.map (.int .u8)
theorem bL_one (xs : List Int) : (bL xs).all (·.oneCell') = true := by
  rw [List.all_eq_true]
  intro v hv
  obtain ⟨x, _, rfl⟩ := List.mem_map.1 hv
  rfl
def ckS : List CK := [.i .u64, .i .u64, .i .u64, .i .u64, .i .u64, .i .u64, .i .u64, .i .u64, .i .u64, .i .u64, .i .u64, .i .u64, .i .u64, .i .u64, .i .u64, .i .u64, .i .u64, .i .u64, .i .u64, .i .u64, .i .u64, .i .u64, .b, .i .u8, .i .u32, .i .u32]
theorem fits_one : ∀ {ks : List CK} {vs : List Value}, fits ks vs = true → vs.all (·.oneCell') = true
  | [], [], _ => rfl
  | [], _ :: _, h => by simp [fits] at h
  | _ :: _, [], h => by simp [fits] at h
  | k :: ks, v :: vs, h => by
    simp only [fits, Bool.and_eq_true] at h
    simp only [List.all_cons, Bool.and_eq_true]
    refine ⟨?_, fits_one h.2⟩
    have h1 := h.1
    cases k <;> cases v <;> simp only [fit1, Bool.false_eq_true] at h1 <;> rfl
/-- A VM in the abstract. -/
structure Va where
  on : Bool
  quota : Int
  late : Int
  bells : Int
  seats : List (List Value)
  keys : List Int
  d0 : List Int
  d1 : List Int
  d2 : List Int
  d3 : List Int
/-- A VM's slices. -/
structure Vs where
  ss : Sl
  ks : Sl
  e0 : Sl
  e1 : Sl
  e2 : Sl
  e3 : Sl
def Vs.blks (x : Vs) : List Nat := ob x.ss ++ (ob x.ks ++ (ob x.e0 ++ (ob x.e1 ++ (ob x.e2 ++ ob x.e3))))
def vc (a : Va) (x : Vs) : List Value := vmL a.on x.ss a.quota a.late x.ks x.e0 x.e1 x.e2 x.e3 a.bells
structure VmIs (S : Mem) (a : Va) (x : Vs) : Prop where
  ss : Row S 26 x.ss a.seats.flatten
  ks : Row S 1 x.ks (bL a.keys)
  e0 : Row S 1 x.e0 (bL a.d0)
  e1 : Row S 1 x.e1 (bL a.d1)
  e2 : Row S 1 x.e2 (bL a.d2)
  e3 : Row S 1 x.e3 (bL a.d3)
theorem VmIs.keep {S S' : Mem} {W : List Nat} {a : Va} {x : Vs} (h : VmIs S a x) (hk : Keeps S S' W) (hw : ∀ b ∈ x.blks, b ∉ W) : VmIs S' a x :=
  ⟨h.ss.kept hk fun b hb => hw b (by simp [Vs.blks, hb]), h.ks.kept hk fun b hb => hw b (by simp [Vs.blks, hb]), h.e0.kept hk fun b hb => hw b (by simp [Vs.blks, hb]), h.e1.kept hk fun b hb => hw b (by simp [Vs.blks, hb]), h.e2.kept hk fun b hb => hw b (by simp [Vs.blks, hb]), h.e3.kept hk fun b hb => hw b (by simp [Vs.blks, hb])⟩
theorem VmIs.held {S : Mem} {a : Va} {x : Vs} (h : VmIs S a x) {b : Nat} (hb : b ∈ x.blks) : S b ≠ none := by
  simp only [Vs.blks, List.mem_append] at hb
  have key : ∀ {size : Nat} {s : Sl} {l : List Value}, Row S size s l → b ∈ ob s → S b ≠ none := fun hr hx => by
    obtain ⟨_, k, hk⟩ := row_blk hr hx; rw [hk]; simp
  rcases hb with hb | hb | hb | hb | hb | hb
  · exact key h.ss hb
  · exact key h.ks hb
  · exact key h.e0 hb
  · exact key h.e1 hb
  · exact key h.e2 hb
  · exact key h.e3 hb
/-- Bytes, and not too many. -/
structure Byt (xs : List Int) : Prop where
  bd : ∀ x ∈ xs, 0 ≤ x ∧ x ≤ 255
  len : xs.length ≤ 100000
/-- A VM's seats are seats, its bytes are bytes. -/
structure VaOk (a : Va) : Prop where
  seats : ∀ v ∈ a.seats, fits ckS v = true
  small : a.seats.length ≤ 1000
  keys : Byt a.keys
  d0 : Byt a.d0
  d1 : Byt a.d1
  d2 : Byt a.d2
  d3 : Byt a.d3
theorem VaOk.w {a : Va} (h : VaOk a) : ∀ v ∈ a.seats, v.length = 26 := fun v hv => by
  have := fits_len (h.seats v hv)
  simpa [ckS] using this
theorem VaOk.one {a : Va} (h : VaOk a) : a.seats.flatten.all (·.oneCell') = true := by
  rw [List.all_eq_true]
  intro x hx
  obtain ⟨v, hv, hx⟩ := List.mem_flatten.1 hx
  exact List.all_eq_true.1 (fits_one (h.seats v hv)) x hx
end Go.Proofs.Ytpilffakhkagjaa
