/- The engine, part U: laws of memory for those who prove with the printed texts. No program in sight. -/
import Derived.Test.YtpilffakhkagjaaDoorPtH
namespace Go.Pt
open Go Go.RowKit
theorem cell_of {S : Mem} {b o : Nat} {k : Blk} (h : S b = some k) : S.cell b o = nthL k.cs o := by simp [Mem.cell, h]
theorem part_of {S : Mem} {b o n : Nat} {k : Blk} (h : S b = some k) : S.part b o n = lpart k.cs o n := by simp [Mem.part, h]
theorem put_of {S : Mem} {b o : Nat} {vs : List Value} {k : Blk} (h : S b = some k) : S.put b o vs = S.set b ⟨k.ty, spl k.cs o vs, k.fr⟩ := by
  funext x; simp only [Mem.put, Mem.set, h, Option.map_some]
@[simp] theorem set_same {S : Mem} {b : Nat} {k : Blk} : (S.set b k) b = some k := by simp [Mem.set]
theorem set_ne {S : Mem} {b c : Nat} {k : Blk} (h : c ≠ b) : (S.set b k) c = S c := by simp [Mem.set, h]
@[simp] theorem set_set {S : Mem} {b : Nat} {k k' : Blk} : (S.set b k).set b k' = S.set b k' := by
  funext x; simp only [Mem.set]; split <;> rfl
theorem set_self {S : Mem} {b : Nat} {k : Blk} (h : S b = some k) : S.set b k = S := by
  funext x; simp only [Mem.set]; split
  · rename_i hx; rw [hx, h]
  · rfl
theorem ne_of_none {S : Mem} {b c : Nat} {k : Blk} (h : S b = none) (h2 : S c = some k) : c ≠ b := fun e => by rw [e, h] at h2; cases h2
theorem pt_i {S : Mem} {b o n t : Nat} {vs cs : List Value} {K : Mem → Prop} (h : S b = some (bw t cs)) (hf : o + n ≤ cs.length) (hK : K (S.set b (bw t (spl cs o vs)))) : pt S b o n vs K :=
  ⟨⟨_, h, rfl, hf⟩, by rw [put_of h]; exact hK⟩
/-- What 'S' held outside these blocks 'S'' holds too. -/
def Keeps (S S' : Mem) (W : List Nat) : Prop := ∀ x, S x ≠ none → x ∉ W → S' x = S x
theorem Keeps.refl {S : Mem} {W : List Nat} : Keeps S S W := fun _ _ _ => rfl
theorem Keeps.trans {S S' S'' : Mem} {W : List Nat} (h : Keeps S S' W) (h' : Keeps S' S'' W) : Keeps S S'' W := fun x hx hw => by
  have e := h x hx hw
  rw [h' x (by rw [e]; exact hx) hw, e]
theorem Keeps.wider {S S' : Mem} {W W' : List Nat} (h : Keeps S S' W) (hw : ∀ x ∈ W, x ∈ W') : Keeps S S' W' := fun x hx h2 => h x hx fun h3 => h2 (hw x h3)
theorem Keeps.set {S S' : Mem} {W : List Nat} (h : Keeps S S' W) {b : Nat} {k : Blk} (hb : b ∈ W) : Keeps S (S'.set b k) W := fun x hx hw => by
  rw [set_ne (fun e => hw (by rw [e]; exact hb))]; exact h x hx hw
theorem Keeps.new {S S' : Mem} {W : List Nat} (h : Keeps S S' W) {b : Nat} {k : Blk} (hb : S' b = none) : Keeps S (S'.set b k) W := fun x hx hw => by
  have e := h x hx hw
  rw [set_ne (fun hxb => by rw [← hxb, e] at hb; exact hx hb)]; exact e
theorem Keeps.get {S S' : Mem} {W : List Nat} (h : Keeps S S' W) {b : Nat} {k : Blk} (hb : S b = some k) (hw : b ∉ W) : S' b = some k := by
  rw [h b (by rw [hb]; simp) hw, hb]
theorem w64 {x : Int} (h1 : -9223372036854775808 ≤ x) (h2 : x ≤ 9223372036854775807) : IntKind.i64.wrap x = x := wrap_in (k := .i64) ⟨h1, h2⟩
theorem wu64 {x : Int} (h1 : 0 ≤ x) (h2 : x ≤ 18446744073709551615) : IntKind.u64.wrap x = x := wrap_in (k := .u64) ⟨h1, h2⟩
theorem wu32 {x : Int} (h1 : 0 ≤ x) (h2 : x ≤ 4294967295) : IntKind.u32.wrap x = x := wrap_in (k := .u32) ⟨h1, h2⟩
theorem wu8 {x : Int} (h1 : 0 ≤ x) (h2 : x ≤ 255) : IntKind.u8.wrap x = x := wrap_in (k := .u8) ⟨h1, h2⟩
theorem td {a b : Int} (h : 0 ≤ a) : Int.tdiv a b = a / b := Int.tdiv_eq_ediv_of_nonneg h
theorem tm {a b : Int} (h : 0 ≤ a) : Int.tmod a b = a % b := Int.tmod_eq_emod_of_nonneg h
/-- A loop by an invariant of what is left. -/
theorem lp_ind {α : Type} {F : (α → Mem → Prop) → α → Mem → Prop} (I : Nat → α → Mem → Prop) (h : ∀ X n y S, I n y S → (∀ m y' S', m < n → I m y' S' → X y' S') → F X y S) {n : Nat} {z : α} {S : Mem} (h0 : I n z S) : lp F z S := by
  intro X hX
  have key : ∀ n y S, I n y S → X y S := by
    intro n
    induction n using Nat.strongRecOn with
    | _ n ih => intro y S hI; exact hX y S (h X n y S hI fun m y' S' hm hI' => ih m hm y' S' hI')
  exact key n z S h0
theorem Keeps.fresh {S S' : Mem} {W : List Nat} (h : Keeps S S' W) {b : Nat} {k : Blk} (hb : S b = none) : Keeps S (S'.set b k) W := fun x hx hw => by
  rw [set_ne (fun e => by rw [e] at hx; exact hx hb)]; exact h x hx hw
theorem spl_drop {cs vs : List Value} {o : Nat} (h : o + vs.length ≤ cs.length) : (spl cs o vs).take (o + vs.length) = cs.take o ++ vs := by
  rw [spl_eq _ _ _ (by omega), List.take_left']
  simp; omega
/-- A slice that begins at a block's beginning, whose block is as long as its capacity; what its elements are. -/
structure Row (S : Mem) (size : Nat) (s : Sl) (l : List Value) : Prop where
  len : l.length = s.n * size
  cap : s.n ≤ s.c
  lie : (s.p = none ∧ s.c = 0) ∨ ∃ b k, s.p = some (b, 0) ∧ S b = some k ∧ k.fr = (0, 0) ∧ k.cs.length = s.c * size ∧ k.cs.take (s.n * size) = l
theorem Row.nil {S : Mem} {size : Nat} : Row S size ⟨none, 0, 0⟩ [] := ⟨by simp, by simp, .inl ⟨rfl, rfl⟩⟩
theorem Row.part {S : Mem} {size : Nat} {s : Sl} {l : List Value} (h : Row S size s l) {b : Nat} (hp : s.p = some (b, 0)) : S.part b 0 (s.n * size) = some l := by
  rcases h.lie with ⟨h1, _⟩ | ⟨b', k, h1, h2, hfr, h3, h4⟩
  · rw [h1] at hp; cases hp
  · rw [h1] at hp; cases hp
    rw [part_of h2, lpart_i (by rw [h3, Nat.zero_add]; exact Nat.mul_le_mul_right _ h.cap)]
    simpa using h4
theorem Row.keep {S S' : Mem} {size : Nat} {s : Sl} {l : List Value} (h : Row S size s l) (hk : ∀ b, s.p = some (b, 0) → S' b = S b) : Row S' size s l := by
  refine ⟨h.len, h.cap, ?_⟩
  rcases h.lie with h1 | ⟨b, k, h1, h2, h3⟩
  · exact .inl h1
  · exact .inr ⟨b, k, h1, by rw [hk b h1]; exact h2, h3⟩
theorem ap_row {S : Mem} {e size bytes m : Nat} {z l vs : List Value} {s : Sl} {K : Sl → Mem → Prop} (h : Row S size s l) (hv : vs.length = m * size) (hm : 0 < m) (hz : z.length = size) (lim : (2 * (s.n + m) + 1024) * bytes ≤ 281474976710656)
    (hK : ∀ (s' : Sl) (S' : Mem) (b : Nat) (k : Blk), s'.n = s.n + m → s'.p = some (b, 0) → (s.p = some (b, 0) ∨ S b = none) → S' = S.set b k → Row S' size s' (l ++ vs) → K s' S') : ap S e size bytes z s m vs K := by
  refine ⟨lim, fun hc => ?_, fun hc => ?_⟩
  · rcases h.lie with ⟨h1, h2⟩ | ⟨b, k, h1, h2, hfr, h3, h4⟩
    · omega
    · have hfit : 0 + s.n * size + m * size ≤ k.cs.length := by
        rw [h3, Nat.zero_add, ← Nat.add_mul]; exact Nat.mul_le_mul_right _ hc
      refine .inr ⟨b, 0, h1, ⟨k, h2, hfr, hfit⟩, ?_⟩
      refine hK _ _ b ⟨k.ty, spl k.cs (0 + s.n * size) vs, k.fr⟩ rfl h1 (.inl h1) (put_of h2) ⟨by simp [h.len, hv, Nat.add_mul], hc, .inr ⟨b, ⟨k.ty, spl k.cs (0 + s.n * size) vs, k.fr⟩, h1, by rw [put_of h2, set_same], hfr, ?_, ?_⟩⟩
      · simp only; rw [spl_length (by rw [hv]; exact hfit)]; exact h3
      · simp only
        rw [Nat.zero_add, Nat.add_mul, ← hv, spl_drop (by rw [hv]; omega), h4]
  · refine ⟨l, ?_, fun b c hb h1 h2 => ?_⟩
    · rcases h.lie with ⟨h1, h2⟩ | ⟨b, k, h1, h2, hfr, h3, h4⟩
      · have h0 : s.n = 0 := by have := h.cap; omega
        exact .inl ⟨h1, h0, List.length_eq_zero_iff.1 (by rw [h.len, h0, Nat.zero_mul])⟩
      · exact .inr ⟨b, 0, h1, h.part h1⟩
    · refine hK _ _ b _ rfl rfl (.inr hb) rfl ⟨by simp [h.len, hv, Nat.add_mul], h1, .inr ⟨b, _, rfl, set_same, rfl, ?_, ?_⟩⟩
      · simp only [List.length_append, h.len, hv, zrep_length, hz]
        rw [← Nat.add_mul, ← Nat.add_mul]; congr 1; omega
      · simp only
        rw [List.take_left' (by simp [h.len, hv, Nat.add_mul])]
end Go.Pt
