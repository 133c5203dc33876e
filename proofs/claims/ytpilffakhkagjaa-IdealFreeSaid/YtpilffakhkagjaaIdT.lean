/- IdealFree's loop: what is free and what the VMs have is a hundred at each turn. -/
import Derived.Test.YtpilffakhkagjaaPtL
import Derived.Test.YtpilffakhkagjaaIdS
namespace Go.Proofs.Ytpilffakhkagjaa
open Go Go.Pt
theorem sum_set : ∀ (hs : List Int) (j : Nat) (v : Int), j < hs.length → (hs.set j v).sum = hs.sum - hs.getD j 0 + v
  | [], j, v, h => by simp at h
  | x :: hs, 0, v, h => by simp; omega
  | x :: hs, j + 1, v, h => by
    have := sum_set hs j v (by simpa using h)
    simp only [List.set_cons_succ, List.sum_cons, List.getD_cons_succ, this]; omega
theorem keeps_through {S0 S S' : Mem} {b : Nat} (h : Keeps S0 S []) (h' : Keeps S S' [b]) (hb : S0 b = none) : Keeps S0 S' [] := fun x hx hw => by
  have e := h x hx hw
  have hne : x ≠ b := fun q => hx (by rw [q]; exact hb)
  rw [h' x (by rw [e]; exact hx) (by simpa using hne), e]
theorem awake_spec {S : Mem} {Q : Bool → Mem → Prop} (hQ : ∀ S', Keeps S S' [] → Q true S') : hermitcrablaw23_awake S Q := by
  apply t_hermitcrablaw23_awake
  unfold b_hermitcrablaw23_awake
  refine new_spec fun b S1 hb hk1 h1 => ?_
  have hoff : ∀ j, j < 6 → (List.replicate 6 z117).getD j [] = z117 := fun j hj => by rw [List.getD_eq_getElem?_getD, List.getElem?_replicate, if_pos hj]; rfl
  refine create_spec h1 (fun j hj => .inr (hoff j hj)) (by decide) (by decide) (quota := 4) (pages := 4) (by decide) (by decide) (by decide) (by decide) ?_ ?_
  · rintro e S2 he hk2 (h | h)
    · exact (h 0 (by decide) (hoff 0 (by decide))).elim
    · exact absurd h (by decide)
  · intro j v ks S2 hj hv hon ho hf hk2 h2
    rw [if_pos rfl]
    refine free_spec h2 ?_
    have : decide ((9 : Int) - (5 + 4) = 0) = true := by decide
    rw [this]
    exact hQ S2 (keeps_through hk1 hk2 hb)
structure Inv (S0 S : Mem) (b : Nat) (f : Int) (vs : List (List Value)) (hs : List Int) : Prop where
  at_ : At S b f vs
  fresh : S0 b = none
  keep : Keeps S0 S []
  len : hs.length = 6
  vm : ∀ j, j < 6 → (∃ ks, OnVm (vs.getD j []) ks ∧ hs.getD j 0 = 5 + owns ks) ∨ (vs.getD j [] = z117 ∧ hs.getD j 0 = 0)
  sum : f + hs.sum = 100
  pos : 0 ≤ f
theorem sum_nonneg : ∀ (hs : List Int), (∀ j, 0 ≤ hs.getD j 0) → 0 ≤ hs.sum
  | [], _ => by simp
  | x :: hs, h => by
    have h0 := h 0
    have := sum_nonneg hs fun j => h (j + 1)
    simp at h0 ⊢; omega
theorem sum_has {hs : List Int} (h : ∀ j, 0 ≤ hs.getD j 0) (j : Nat) : hs.getD j 0 ≤ hs.sum := by
  induction hs generalizing j with
  | nil => simp
  | cons x hs ih =>
    cases j with
    | zero =>
      have := sum_nonneg hs fun j => h (j + 1)
      simp; omega
    | succ j =>
      have h0 := h 0
      have := ih (fun j => h (j + 1)) j
      simp at h0 ⊢
      simp at this
      omega
theorem Inv.has {S0 S : Mem} {b : Nat} {f : Int} {vs : List (List Value)} {hs : List Int} (h : Inv S0 S b f vs hs) (j : Nat) : 0 ≤ hs.getD j 0 := by
  by_cases hj : j < 6
  · rcases h.vm j hj with ⟨ks, ⟨hd, h1, h2, _⟩, h3⟩ | ⟨h1, h2⟩
    · have := (owns_bd ks h2).1; omega
    · omega
  · rw [List.getD_eq_getElem?_getD, List.getElem?_eq_none (by rw [h.len]; omega)]; simp
theorem Inv.le {S0 S : Mem} {b : Nat} {f : Int} {vs : List (List Value)} {hs : List Int} (h : Inv S0 S b f vs hs) : f ≤ 100 := by
  have := sum_nonneg hs h.has
  have := h.sum
  omega
theorem getD_set {α : Type} {l : List α} {i j : Nat} {v d : α} (hj : j < l.length) : (l.set j v).getD i d = if i = j then v else l.getD i d := by
  simp only [List.getD_eq_getElem?_getD, List.getElem?_set]
  by_cases h : i = j
  · subst h; simp [hj]
  · rw [if_neg (Ne.symm h), if_neg h]
def enI (hs : List Int) : List Value := hs.map (.int .i64)
theorem enI_get {hs : List Int} {j n : Nat} (hn : 0 + n * 1 = j) (hj : j < hs.length) : nthL (enI hs) (0 + n * 1) = some (.int .i64 (hs.getD j 0)) := by
  subst hn
  rw [nthL_eq, enI, List.getElem?_map, List.getD_eq_getElem?_getD, List.getElem?_eq_getElem hj]; rfl
theorem enI_set {hs : List Int} {j n : Nat} (hn : 0 + n * 1 = j) (hj : j < hs.length) (v : Int) : spl (enI hs) (0 + n * 1) [.int .i64 v] = enI (hs.set j v) := by
  subst hn
  apply List.ext_getElem?
  intro i
  rw [spl_get (by simp [enI] at hj ⊢; omega)]
  simp only [enI, List.getElem?_map, List.getElem?_set, List.length_cons, List.length_nil]
  by_cases h : 0 + n * 1 = i
  · subst h; simp at hj ⊢; simp [hj]
  · rw [if_neg (by omega), if_neg h]
set_option maxHeartbeats 1000000 in
theorem law_spec {S0 : Mem} {l : Sl} (hl : BytesIn S0 l) : hermitcrablaw23_IdealFree S0 l (fun r S' => r = true ∧ Keeps S0 S' []) := by
  apply t_hermitcrablaw23_IdealFree
  unfold b_hermitcrablaw23_IdealFree
  simp only [jn]
  refine awake_spec fun S1 hk1 => ?_
  rw [if_pos rfl]
  by_cases h30 : 30 < (l.n : Int)
  · rw [if_pos h30]
    exact awake_spec fun S2 hk2 => ⟨rfl, hk1.trans hk2⟩
  rw [if_neg h30]
  refine new_spec fun b S2 hb hk2 h2 => ?_
  have hb0 : S0 b = none := by
    cases hs : S0 b with
    | none => rfl
    | some k => have := hk1.get hs (by simp); rw [hb] at this; cases this
  refine lp_rule (fun (z : Int × Int × List Value) S' => ∃ (i : Nat) (vs : List (List Value)) (hs : List Int), z.2.1 = (i : Int) ∧ i ≤ l.n ∧ z.2.2 = enI hs ∧ Inv S0 S' b z.1 vs hs) (fun z => (l.n - z.2.1).toNat) ?_
    ⟨0, _, [0, 0, 0, 0, 0, 0], rfl, by omega, rfl, h2, hb0, hk1.trans hk2, rfl, fun j hj => .inr ⟨by rw [List.getD_eq_getElem?_getD, List.getElem?_replicate, if_pos hj]; rfl, by match j, hj with
      | 0, _ => rfl
      | 1, _ => rfl
      | 2, _ => rfl
      | 3, _ => rfl
      | 4, _ => rfl
      | 5, _ => rfl⟩, by decide, by decide⟩
  rintro X ⟨free, i0, has⟩ S3 ⟨i, vs, hs, e1, hi, e2, hI⟩ ih
  dsimp only at e1 e2 hI ih ⊢
  subst e1; subst e2
  have hlen : (enI hs).length = 6 := by simp [enI, hI.len]
  refine ⟨hlen, ?_⟩
  by_cases hlt : i < l.n
  · rw [if_pos (by omega)]
    obtain ⟨bl, ol, z, hp, hc, hz0, hz1⟩ := hl.keep hI.keep i hlt
    refine ⟨bl, ol, l.n, l.c, by cases l; simp only at hp; subst hp; rfl, by omega, by omega, ?_⟩
    have hc' : S3.cell bl (ol + (i : Int).toNat * 1) = some (.int .u8 z) := by rw [(by omega : ol + (i : Int).toNat * 1 = ol + i)]; exact hc
    rw [gI_i hc']
    refine ⟨by omega, by omega, ?_⟩
    rw [gI_i hc']
    have q1 : Int.tmod z 4 = z % 4 := tm hz0
    have q2 : Int.tdiv z 4 = z / 4 := td hz0
    have q3 : IntKind.u8.wrap (z / 4) = z / 4 := wu8 (by omega) (by omega)
    have q4 : Int.tmod (z / 4) 8 = z / 4 % 8 := tm (by omega)
    have q5 : Int.tmod (z / 4) 6 = z / 4 % 6 := tm (by omega)
    have q6 : IntKind.i64.wrap (z / 4 % 8) = z / 4 % 8 := w64 (by omega) (by omega)
    have q7 : IntKind.i64.wrap (z / 4 % 6) = z / 4 % 6 := w64 (by omega) (by omega)
    have q8 : IntKind.i64.wrap (1 + z / 4 % 8) = 1 + z / 4 % 8 := w64 (by omega) (by omega)
    have q9 : IntKind.i64.wrap (5 + (1 + z / 4 % 8)) = 5 + (1 + z / 4 % 8) := w64 (by omega) (by omega)
    have hle := hI.le
    have hpos := hI.pos
    have q10 : IntKind.i64.wrap (free - (5 + (1 + z / 4 % 8))) = free - (5 + (1 + z / 4 % 8)) := w64 (by omega) (by omega)
    have q11 : IntKind.i64.wrap ((i : Int) + 1) = ((i + 1 : Nat) : Int) := by rw [w64 (by omega) (by omega)]; omega
    simp only [q1, q2, q3, q4, q5, q6, q7, q8, q9, q10, q11]
    -- what stands behind each turn
    have fin : ∀ (f' : Int) (vs' : List (List Value)) (hs' : List Int) (S' : Mem), Inv S0 S' b f' vs' hs' →
        (enI hs').length = 6 ∧ ideal_Ideal_Free S' (some (b, 0)) fun t_2 Sx_7 =>
          if t_2 ≠ f' then (false = true ∧ Keeps S0 Sx_7 [])
          else if f' < 0 then (false = true ∧ Keeps S0 Sx_7 [])
          else (enI hs').length = 6 ∧ X (f', ((i + 1 : Nat) : Int), enI hs') Sx_7 := by
      intro f' vs' hs' S' hI'
      refine ⟨by simp [enI, hI'.len], free_spec hI'.at_ ?_⟩
      rw [if_neg (by simp), if_neg (by have := hI'.pos; omega)]
      refine ⟨by simp [enI, hI'.len], ih _ _ ⟨i + 1, vs', hs', rfl, by omega, rfl, hI'⟩ ?_⟩
      simp only; omega
    by_cases hmake : 0 < z % 4
    · rw [if_pos hmake]
      refine create_spec hI.at_ (fun j hj => (hI.vm j hj).imp (fun ⟨ks, h, _⟩ => ⟨ks, h⟩) (fun h => h.1)) hpos (by omega) (by decide) (by decide) (by omega) (by omega) ?_ ?_
      · intro e S4 he hk4 _
        rw [if_neg he]
        exact fin free vs hs S4 ⟨hI.at_.keep hk4, hI.fresh, hI.keep.trans hk4, hI.len, hI.vm, hI.sum, hI.pos⟩
      · intro j v ks S4 hj hoff hon ho hroom hk4 h4
        rw [if_pos rfl]
        have hj6 : j < hs.length := by rw [hI.len]; exact hj
        refine ⟨by omega, by omega, ?_⟩
        rw [enI_set (j := j) (by omega) hj6]
        have h0 : hs.getD j 0 = 0 := by
          rcases hI.vm j hj with ⟨ks', h, _⟩ | h
          · rw [hoff] at h; have := h.on; cases this
          · exact h.2
        refine fin _ _ _ S4 ⟨h4, hI.fresh, keeps_through hI.keep hk4 hI.fresh, by simp [hI.len], fun k hk => ?_, ?_, by omega⟩
        · rw [getD_set hj6]
          by_cases e : k = j
          · subst e
            rw [if_pos rfl, getD_set_same (by rw [hI.at_.2.len]; exact hk)]
            exact .inl ⟨ks, hon, by omega⟩
          · rw [if_neg e, getD_set_ne e]; exact hI.vm k hk
        · rw [sum_set _ _ _ hj6, h0]; have := hI.sum; omega
    · rw [if_neg hmake]
      refine ⟨by omega, by omega, ?_⟩
      rw [gI_i hc']
      simp only [q2, q3, q5, q7]
      obtain ⟨j, hj⟩ : ∃ j : Nat, z / 4 % 6 = (j : Int) := ⟨(z / 4 % 6).toNat, by omega⟩
      have hj6 : j < 6 := by omega
      have hjl : j < hs.length := by rw [hI.len]; exact hj6
      rw [hj]
      rcases hI.vm j hj6 with ⟨ks, hon, hh⟩ | ⟨hoff, h0⟩
      · obtain ⟨hd, g1, g2, g3, g4, g5⟩ := hon
        have hon : OnVm (vs.getD j []) ks := ⟨hd, g1, g2, g3, g4, g5⟩
        refine destroy_on hI.at_ hj6 g1 g2 g3 hon.on ?_ hpos (by omega) fun S4 hk4 h4 => ?_
        · intro k hk
          rcases hI.vm k hk with ⟨ks', h, _⟩ | ⟨h, _⟩
          · exact h.bells
          · rw [h]; rfl
        · rw [if_pos rfl]
          refine ⟨by omega, by omega, ?_⟩
          rw [gI_i (enI_get (j := j) (by omega) hjl), enI_set (j := j) (by omega) hjl]
          have hsum := sum_has hI.has j
          have hs2 := hI.sum
          rw [w64 (by have := hI.has j; omega) (by omega), hh]
          refine ⟨by omega, by omega, fin _ _ _ S4 ⟨h4, hI.fresh, keeps_through hI.keep hk4 hI.fresh, by simp [hI.len], fun k hk => ?_, ?_, by have := (owns_bd ks g2).1; omega⟩⟩
          · rw [getD_set hjl]
            by_cases e : k = j
            · subst e
              rw [if_pos rfl, getD_set_same (by rw [hI.at_.2.len]; exact hk)]
              exact .inr ⟨rfl, rfl⟩
            · rw [if_neg e, getD_set_ne e]; exact hI.vm k hk
          · rw [sum_set _ _ _ hjl, hh]; omega
      · refine destroy_off hI.at_ hj6 (by rw [hoff]; rfl) ?_
        rw [if_neg (by decide)]
        exact fin free vs hs S3 hI
  · rw [if_neg (by omega)]
    exact ⟨by simp, hI.keep⟩
end Go.Proofs.Ytpilffakhkagjaa
