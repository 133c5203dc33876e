/- owner.Book; a state that is made. -/
import Derived.Test.YtpilffakhkagjaaGuB
namespace Go.Proofs.Ytpilffakhkagjaa
open Go Go.Pt
theorem flt_set {w : Nat} {rows : List (List Value)} (h : ∀ v ∈ rows, v.length = w) {i : Nat} (hi : i < rows.length) {v : List Value} (hl : v.length = w) : spl rows.flatten (i * w) v = (rows.set i v).flatten := by
  obtain ⟨e1, e2⟩ := flt_split h hi
  have hs : (rows.set i v).flatten = (rows.take i).flatten ++ (v ++ (rows.drop (i + 1)).flatten) := by
    rw [List.set_eq_take_append_cons_drop, if_pos hi, List.flatten_append, List.flatten_cons]
  have hvi : rows[i].length = w := h _ (List.getElem_mem _)
  rw [hs, e1, spl_eq _ _ _ (by rw [List.length_append, e2]; omega), hl, List.take_left' e2, ← List.drop_drop, List.drop_left' e2, List.drop_left' hvi, List.append_assoc]
theorem flt_cell {w : Nat} {rows : List (List Value)} (h : ∀ v ∈ rows, v.length = w) {i k : Nat} (hi : i < rows.length) (hk : k < w) : nthL rows.flatten (i * w + k) = nthL rows[i] k := by
  obtain ⟨e1, e2⟩ := flt_split h hi
  have hvi : rows[i].length = w := h _ (List.getElem_mem _)
  rw [nthL_eq, nthL_eq, e1, List.getElem?_append_right (by omega), e2, show i * w + k - i * w = k by omega, List.getElem?_append_left (by omega)]
def row0 : List Value := [.int .u8 0, .int .i64 0, .int .i64 0, .int .i64 0]
theorem spl_app : ∀ {A j v : List Value} {o : Nat}, o + v.length ≤ A.length → spl (A ++ j) o v = spl A o v ++ j := by
  intro A j v o h
  rw [spl_eq _ _ _ (by rw [List.length_append]; omega), spl_eq _ _ _ (by omega), List.take_append_of_le_length (by omega), List.drop_append_of_le_length (by omega), List.append_assoc, List.append_assoc, List.append_assoc]
theorem nthL_app {A j : List Value} {k : Nat} (h : k < A.length) : nthL (A ++ j) k = nthL A k := by
  rw [nthL_eq, nthL_eq, List.getElem?_append_left h]
/-- A book of owners. -/
structure Bk (S : Mem) (ob rb : Nat) (rows : List (List Value)) : Prop where
  ex : ∃ cap t j, S ob = some (bw 137 [eL ⟨some (rb, 0), rows.length, cap⟩]) ∧ S rb = some (bw t (rows.flatten ++ j)) ∧ rows.length ≤ cap ∧ j.length = (cap - rows.length) * 4
  len : ∀ v ∈ rows, v.length = 4
  ne : ob ≠ rb
section
variable {S : Mem} {ob rb : Nat} {rows : List (List Value)}
theorem Bk.keep {S' : Mem} {W : List Nat} (h : Bk S ob rb rows) (hk : Keeps S S' W) (h1 : ob ∉ W) (h2 : rb ∉ W) : Bk S' ob rb rows := by
  obtain ⟨cap, t, j, e1, e2, e3⟩ := h.ex
  exact ⟨⟨cap, t, j, hk.get e1 h1, hk.get e2 h2, e3⟩, h.len, h.ne⟩
theorem Bk.book (h : Bk S ob rb rows) : S ob ≠ none := by
  obtain ⟨cap, t, j, e1, _⟩ := h.ex; rw [e1]; simp
theorem Bk.cells (h : Bk S ob rb rows) : S rb ≠ none := by
  obtain ⟨cap, t, j, _, e2, _⟩ := h.ex; rw [e2]; simp
/-- A row is written. -/
theorem Bk.put (h : Bk S ob rb rows) {i : Nat} (hi : i < rows.length) {v : List Value} (hl : v.length = 4) {K : Mem → Prop} (hK : ∀ S', Keeps S S' [rb] → Bk S' ob rb (rows.set i v) → K S') : pt S rb (i * 4) 4 v K := by
  obtain ⟨cap, t, j, e1, e2, e3, e4⟩ := h.ex
  have hfl := flt_len h.len
  refine pt_i e2 (by rw [List.length_append]; omega) ?_
  rw [spl_app (by omega), flt_set h.len hi hl]
  refine hK _ (fun x _ hw => set_ne (by simpa using hw)) ⟨⟨cap, t, j, ?_, set_same, by rw [List.length_set]; exact e3, by rw [List.length_set]; exact e4⟩, ?_, h.ne⟩
  · rw [set_ne h.ne, List.length_set]; exact e1
  · intro x hx
    rcases List.mem_or_eq_of_mem_set hx with h2 | h2
    · exact h.len x h2
    · rw [h2]; exact hl
theorem Bk.kind (h : Bk S ob rb rows) {i : Nat} (hi : i < rows.length) (hf : rows[i] = row0) : S.cell rb (i * 4) = some (.int .u8 0) := by
  obtain ⟨cap, t, j, e1, e2, e3, e4⟩ := h.ex
  have hfl := flt_len h.len
  have := flt_cell h.len (k := 0) hi (by decide)
  rw [hf] at this
  rw [cell_of e2, nthL_app (by omega)]; exact this
theorem donate_spec (h : Bk S ob rb rows) {i : Nat} (hi : i < rows.length) (hf : rows[i] = row0) {n page : Int} (hn : 0 ≤ n ∧ n < 6) (hp : 0 ≤ page ∧ page < 32) {Q : Int → Mem → Prop}
    (hQ : ∀ S', Keeps S S' [rb] → Bk S' ob rb (rows.set i [.int .u8 3, .int .i64 n, .int .i64 page, .int .i64 0]) → Q 0 S') : owner_Book_Donate S (some (ob, 0)) i n page Q := by
  obtain ⟨cap, t, j, e1, e2, e3, e4⟩ := h.ex
  apply t_owner_Book_Donate
  unfold b_owner_Book_Donate
  apply t_owner_Book_row
  unfold b_owner_Book_row
  simp only [jn]
  have hrd : S.cell ob 0 = some (eL ⟨some (rb, 0), rows.length, cap⟩) := by rw [cell_of e1]; rfl
  rw [if_neg (by simp), if_neg (by omega), nn_i, gL_i hrd, if_neg (by simp only; omega), nn_i, gL_i hrd, sl_i]
  refine ⟨by omega, by omega, ?_⟩
  rw [if_neg (by decide)]
  apply t_owner_vm
  unfold b_owner_vm
  rw [if_pos hn.1, if_pos hn.2, if_pos hp.1, decide_eq_true hp.2]
  dsimp only
  rw [if_pos rfl, nn_i, Int.toNat_natCast, Nat.zero_add, gI_i (h.kind hi hf), if_neg (by decide), nn_i]
  exact h.put hi rfl hQ
end
/-- A nil slice is appended to. -/
theorem ap_nil {S : Mem} {e size bytes m : Nat} {z vs : List Value} {K : Sl → Mem → Prop} (hv : vs.length = m * size) (hz : z.length = size) (lim : (2 * (0 + m) + 1024) * bytes ≤ 281474976710656)
    (hK : ∀ (s' : Sl) (S' : Mem), s'.n = m → Row S' size s' vs → Keeps S S' [] → (∀ x o, s'.p = some (x, o) → S x = none) → K s' S') : ap S e size bytes z ⟨none, 0, 0⟩ m vs K := by
  by_cases h0 : m = 0
  · subst h0
    have : vs = [] := List.length_eq_zero_iff.1 (by simpa using hv)
    subst this
    exact ⟨lim, fun _ => .inl ⟨rfl, rfl, hK _ _ rfl Row.nil Keeps.refl fun x o h => by cases h⟩, fun h => by simp at h⟩
  · refine ap_row Row.nil hv (by omega) hz lim fun s' S' b k hn hp hor hS hrow => ?_
    have hb : S b = none := by
      rcases hor with e | e
      · cases e
      · exact e
    refine hK s' S' (by simpa using hn) (by simpa using hrow) (by rw [hS]; exact Keeps.refl.fresh hb) fun x o h => ?_
    rw [hp] at h; cases h; exact hb
/-- A state that the caller made. -/
structure Stt (S0 S : Mem) (b ob rb kb : Nat) (now : Int) (vms rows : List (List Value)) (le tu : List Value) (s : Sl) (l : List Al) : Prop where
  blk : S b = some (bw 68 (stc 1 now vms (some (ob, 0)) (some (kb, 0)) le tu))
  vms : Vms vms
  le : le.length = 96
  tu : tu.length = 18
  bk : Bk S ob rb rows
  ck : Ck S kb 0 91 [eL s] s l
  ne : b ≠ ob ∧ b ≠ rb ∧ b ≠ kb ∧ ob ≠ kb ∧ rb ≠ kb
  apart : ∀ x ∈ own s, x ≠ b ∧ x ≠ ob ∧ x ≠ rb
  fresh : S0 b = none ∧ S0 ob = none ∧ S0 rb = none ∧ S0 kb = none
  freshS : ∀ x ∈ own s, S0 x = none
  keep : Keeps S0 S []
section
variable {S0 S : Mem} {b ob rb kb : Nat} {now : Int} {vms rows : List (List Value)} {le tu : List Value} {s : Sl} {l : List Al}
/-- The blocks of a state's own that an operation on it may write. -/
def mineS (b ob rb kb : Nat) (s : Sl) : List Nat := b :: ob :: rb :: kb :: own s
theorem Stt.keeps {S' : Mem} {W : List Nat} (h : Stt S0 S b ob rb kb now vms rows le tu s l) (hk : Keeps S S' W) (hw : ∀ x ∈ mineS b ob rb kb s, x ∉ W) (hW : ∀ x ∈ W, S0 x = none) : Stt S0 S' b ob rb kb now vms rows le tu s l := by
  have m1 := hw b (by simp [mineS])
  have m2 := hw ob (by simp [mineS])
  have m3 := hw rb (by simp [mineS])
  have m4 := hw kb (by simp [mineS])
  refine ⟨hk.get h.blk m1, h.vms, h.le, h.tu, h.bk.keep hk m2 m3, h.ck.keep hk m4 (fun x hx => hw x (by simp [mineS, hx])), h.ne, h.apart, h.fresh, h.freshS, fun x hx hw2 => ?_⟩
  have e := h.keep x hx hw2
  rw [hk x (by rw [e]; exact hx) (fun hm => hx (hW x hm)), e]
theorem Stt.held {x : Nat} (h : Stt S0 S b ob rb kb now vms rows le tu s l) (hx : x ∈ mineS b ob rb kb s) : S x ≠ none := by
  simp only [mineS, List.mem_cons] at hx
  rcases hx with rfl | rfl | rfl | rfl | hx
  · rw [h.blk]; simp
  · exact h.bk.book
  · exact h.bk.cells
  · rw [h.ck.blk]; simp
  · obtain ⟨k, hk⟩ := own_row h.ck.row hx; rw [hk]; simp
/-- A VM that is off. -/
def vm0 : List Value := vmL false ⟨none, 0, 0⟩ 0 0 ⟨none, 0, 0⟩ ⟨none, 0, 0⟩ ⟨none, 0, 0⟩ ⟨none, 0, 0⟩ ⟨none, 0, 0⟩ 0
theorem z68_stc : spl (spl (spl z68 0 [.int .i64 1]) 74 [eP (some (ob, 0))]) 171 [.pointer (some ⟨kb, 0, none⟩)] = stc 1 0 (List.replicate 6 vm0) (some (ob, 0)) (some (kb, 0)) ((z68.drop 75).take 96) (z68.drop 172) := by kernel_rfl
theorem guestNew_full {Q : Pt → Mem → Prop} (hQ : ∀ S' b ob rb kb, Stt S S' b ob rb kb 0 (List.replicate 6 vm0) (List.replicate 20 row0) ((z68.drop 75).take 96) (z68.drop 172) ⟨none, 0, 0⟩ [] → Q (some (b, 0)) S') : guest_New S 1 20 Q := by
  apply t_guest_New
  unfold b_guest_New
  apply t_owner_New
  unfold b_owner_New
  have h1 : ¬ ((20 : Int) < 0) := by decide
  have h2 : ¬ ((512 : Int) < 20) := by decide
  simp only [if_neg h1, if_neg h2]
  refine ⟨by decide, by decide, by decide, by decide, ?_⟩
  intro rb hrb ob hob kb hkb b hb
  have n1 : ob ≠ rb := fun e => by subst e; simp at hob
  have n2 : kb ≠ ob := fun e => by subst e; simp at hkb
  have n3 : kb ≠ rb := fun e => by subst e; rw [set_ne n1.symm] at hkb; simp at hkb
  have n4 : b ≠ kb := fun e => by subst e; simp at hb
  have n5 : b ≠ ob := fun e => by subst e; rw [set_ne n2.symm] at hb; simp at hb
  have n6 : b ≠ rb := fun e => by subst e; rw [set_ne n3.symm, set_ne n1.symm] at hb; simp at hb
  rw [set_ne n1] at hob
  rw [set_ne n2, set_ne n3] at hkb
  rw [set_ne n4, set_ne n5, set_ne n6] at hb
  refine hQ _ b ob rb kb ?_
  refine ⟨by rw [set_same]; exact congrArg (fun c => some (bw 68 c)) z68_stc, ⟨by simp, fun v hv => by rw [(List.mem_replicate.1 hv).2]; rfl⟩, by kernel_rfl, by kernel_rfl, ⟨⟨20, 135, [], ?_, ?_, by simp, by simp⟩, fun v hv => by rw [(List.mem_replicate.1 hv).2]; rfl, n1⟩, ?_,
    ⟨n5, n6, n4, n2.symm, n3.symm⟩, fun x hx => by simp [own] at hx, ⟨hb, hob, hrb, hkb⟩, fun x hx => by simp [own] at hx, ?_⟩
  · rw [set_ne n5.symm, set_ne n2.symm, set_same]; rfl
  · rw [set_ne n6.symm, set_ne n3.symm, set_ne n1.symm, set_same]
    have : zrep (Int.toNat 20) [.int .u8 0, .int .i64 0, .int .i64 0, .int .i64 0] = (List.replicate 20 row0).flatten := by kernel_rfl
    rw [this, List.append_nil]
  · exact Ck.start (by rw [set_ne n4.symm]; exact set_same) rfl
  · intro x hx _
    rw [set_ne (fun e => by subst e; exact hx hb), set_ne (fun e => by subst e; exact hx hkb), set_ne (fun e => by subst e; exact hx hob), set_ne (fun e => by subst e; exact hx hrb)]
theorem guestNew_spec {Q : Pt → Mem → Prop} (hQ : ∀ S' b ob rb kb le tu, Stt S S' b ob rb kb 0 (List.replicate 6 vm0) (List.replicate 20 row0) le tu ⟨none, 0, 0⟩ [] → Q (some (b, 0)) S') : guest_New S 1 20 Q :=
  guestNew_full fun S' b ob rb kb h => hQ S' b ob rb kb _ _ h
end
end Go.Proofs.Ytpilffakhkagjaa
