/- AlarmTwins. -/
import Derived.Test.YtpilffakhkagjaaAlU
import Derived.Test.YtpilffakhkagjaaPfD
namespace Go.Proofs.Ytpilffakhkagjaa
open Go Go.Pt Go.Hp
theorem nums_fn {S : Mem} {l : Sl} (h : NumsIn S l) (h0 : 0 < l.n) : ∃ b o, l.p = some (b, o) ∧ ∃ z : Nat → Int, ∀ i, i < l.n → S.cell b (o + i) = some (.int .u64 (z i)) ∧ 0 ≤ z i ∧ z i ≤ 18446744073709551615 := by
  obtain ⟨b, o, _, hp, _⟩ := h 0 h0
  have h' : ∀ i : Nat, ∃ z : Int, i < l.n → S.cell b (o + i) = some (.int .u64 z) ∧ 0 ≤ z ∧ z ≤ 18446744073709551615 := by
    intro i
    by_cases hi : i < l.n
    · obtain ⟨b', o', z, h1, h2⟩ := h i hi
      rw [hp] at h1; cases h1
      exact ⟨z, fun _ => h2⟩
    · exact ⟨0, fun h => absurd h hi⟩
  exact ⟨b, o, hp, fun i => (h' i).choose, fun i hi => (h' i).choose_spec hi⟩
/-- The alarms of the first so many seats. -/
def tl (z : Nat → Int) (n : Nat) : List Al := (List.range n).map fun k => ⟨z k, ((k / 3 : Nat) : Int), ((k % 3 : Nat) : Int)⟩
theorem tl_succ (z : Nat → Int) (n : Nat) : tl z (n + 1) = tl z n ++ [⟨z n, ((n / 3 : Nat) : Int), ((n % 3 : Nat) : Int)⟩] := by simp [tl, List.range_succ]
theorem tl_length (z : Nat → Int) (n : Nat) : (tl z n).length = n := by simp [tl]
theorem tl_filter (z : Nat → Int) (n : Nat) : ((tl z n).filter fun a => ! (decide (a.vm = ((n / 3 : Nat) : Int)) && decide (a.seat = ((n % 3 : Nat) : Int)))) = tl z n := by
  rw [List.filter_eq_self]
  intro a ha
  simp only [tl, List.mem_map, List.mem_range] at ha
  obtain ⟨k, hk, rfl⟩ := ha
  simp only [Bool.not_eq_true', Bool.and_eq_false_imp, decide_eq_true_eq, decide_eq_false_iff_not]
  omega
theorem tl_map (z : Nat → Int) (d : Int) (n : Nat) : (tl z n).map (shf d) = tl (fun k => later d (z k)) n := by simp [tl, shf]
theorem tl_drop0 (z : Nat → Int) (n : Nat) : ((tl z (n + 1)).filter fun a => ! (decide (a.vm = 0) && decide (a.seat = 0))).length = n := by
  induction n with
  | zero => rfl
  | succ n ih =>
    rw [tl_succ, List.filter_append, List.length_append, ih]
    rw [List.filter_cons, if_pos]
    · simp
    · simp only [Bool.not_eq_true', Bool.and_eq_false_imp, decide_eq_true_eq, decide_eq_false_iff_not]
      omega
theorem eqL_ce (a : Al) : eqL (ce a) (ce a) = true := by simp [eqL, eq1, ce]
theorem fits_ce (a : Al) : fits [.i .u64, .i .i64, .i .i64] (ce a) = true := rfl
set_option maxHeartbeats 1000000 in
theorem alarmTwins_law {S : Mem} {byx : Int} {l : Sl} (hl : NumsIn S l) (hb0 : 0 ≤ byx) (hb1 : byx ≤ 18446744073709551615) : hermitcrablaw10_AlarmTwins S l byx (fun r S' => r = true ∧ Keeps S S' []) := by
  apply t_hermitcrablaw10_AlarmTwins
  unfold b_hermitcrablaw10_AlarmTwins
  simp only [jn]
  refine alarm_awake fun S1 hk1 => ?_
  rw [if_pos rfl]
  by_cases h0 : (l.n : Int) = 0
  · rw [if_pos h0]
    exact alarm_awake fun S2 hk2 => ⟨rfl, hk1.trans hk2⟩
  rw [if_neg h0]
  by_cases h30 : 18 < (l.n : Int)
  · rw [if_pos h30]
    exact alarm_awake fun S2 hk2 => ⟨rfl, hk1.trans hk2⟩
  rw [if_neg h30]
  obtain ⟨tb, to, hp, z, hz⟩ := nums_fn hl (by omega)
  refine mine_new (S0 := S) hk1 fun b S2 h2 => ?_
  refine lp_rule (fun (zi : Int) S' => ∃ (i : Nat) (aa : List Al), zi = (i : Int) ∧ i ≤ l.n ∧ Mine S S' b aa ∧ aa.Perm (tl z i)) (fun zi => (l.n - zi).toNat) ?_
    ⟨0, [], rfl, by omega, h2, List.Perm.refl _⟩
  rintro X zi S3 ⟨i, aa, rfl, hi, hM, hpa⟩ ih
  have hlen : aa.length = i := by rw [hpa.length_eq, tl_length]
  by_cases hlt : (i : Int) < (l.n : Int)
  · rw [if_pos hlt]
    obtain ⟨lp_, ln, lc⟩ := l
    simp only at hp hlt hz ih h30 h0 hi ⊢
    subst hp
    rw [sl_i]
    refine ⟨by omega, hlt, ?_⟩
    obtain ⟨hc, _⟩ := hz i (by omega)
    have hc3 : S3.cell tb (to + i) = some (.int .u64 (z i)) := by
      obtain ⟨k, h5, h6⟩ := cell_e hc
      rw [cell_of (hM.keep.get h5 (by simp))]; exact h6
    rw [Int.toNat_natCast, Nat.mul_one, gI_i hc3, td (by omega), tm (by omega), w64 (by omega) (by omega)]
    rw [show (i : Int) / 3 = ((i / 3 : Nat) : Int) by omega, show (i : Int) % 3 = ((i % 3 : Nat) : Int) by omega]
    refine mine_set hM (by omega) (by omega) (by omega) (by omega) (by omega) fun S4 l4 hp4 h4 => ?_
    rw [w64 (by omega) (by omega)]
    refine ih _ _ ⟨i + 1, l4, by omega, by omega, h4, ?_⟩ (by omega)
    rw [tl_succ]
    refine hp4.trans ((List.Perm.cons _ ((hpa.filter _).trans ?_)).trans (List.perm_append_comm (l₁ := [_])))
    rw [tl_filter]
    exact List.Perm.refl _
  · rw [if_neg hlt]
    have hin : i = l.n := by omega
    subst hin
    obtain ⟨s, hc, hSb, hSo, hk⟩ := hM
    have hbd : ∀ a ∈ aa, 0 ≤ a.tm ∧ a.tm ≤ 18446744073709551615 := by
      intro a ha
      have := hpa.subset ha
      simp only [tl, List.mem_map, List.mem_range] at this
      obtain ⟨k, hk, rfl⟩ := this
      exact (hz k hk).2
    refine twin_spec hc fun b' s' S4 hb' ho' hk4 hd4 => ?_
    have hc4 := hc.keep hk4 (by simp) (by simp)
    have n1 : b ∉ b' :: own s' := by
      intro hm
      rcases List.mem_cons.1 hm with rfl | hm
      · rw [hc.blk] at hb'; cases hb'
      · have := ho' b hm; rw [hc.blk] at this; cases this
    have n2 : ∀ x ∈ own s, x ∉ b' :: own s' := by
      intro x hx hm
      obtain ⟨k, hkx⟩ := own_row hc.row hx
      rcases List.mem_cons.1 hm with rfl | hm
      · rw [hkx] at hb'; cases hb'
      · have := ho' x hm; rw [hkx] at this; cases this
    refine all_spec hd4 fun S5 lo1 out1 hA1 => ?_
    have hc5 := hc4.keep hA1.keep (by simp) (by simp)
    have hd5 := hd4.keep hA1.keep (by simp) (by simp)
    have n3 : ∀ x ∈ own lo1, x ∉ b' :: own s' := fun x hx => not_own hd4 (hA1.fresh x hx)
    refine shift_spec hd5 hb0 hb1 hbd fun S6 l6 hp6 hk6 hd6 => ?_
    have hc6 := hc5.keep hk6 (fun h => n1 (List.mem_cons_of_mem _ h)) (fun x hx h => n2 x hx (List.mem_cons_of_mem _ h))
    have hr6 := row_keep hA1.row hk6 (fun x hx h => n3 x hx (List.mem_cons_of_mem _ h))
    refine drop1_spec hd6 fun S7 s7 l7 hp7 hL7 => ?_
    have hd7 := hL7.ck
    have hc7 := hc6.keep hL7.keep n1 n2
    have hr7 := row_keep hr6 hL7.keep n3
    have kS7 : Keeps S S7 [] := by
      have k5 : Keeps S S5 [] := (hk.trans hk4).trans hA1.keep
      intro x hx hw
      have hnew : x ∉ b' :: own s' := by
        intro hm
        have hx3 : S3 x ≠ none := by rw [hk x hx hw]; exact hx
        rcases List.mem_cons.1 hm with rfl | hm
        · exact hx3 hb'
        · exact hx3 (ho' x hm)
      have e5 := k5 x hx hw
      have e6 : S6 x = S x := by rw [hk6 x (by rw [e5]; exact hx) (fun h => hnew (List.mem_cons_of_mem _ h)), e5]
      rw [hL7.keep x (by rw [e6]; exact hx) hnew, e6]
    refine all_spec hc7 fun S8 lo2 out2 hA2 => ?_
    have hn1 : lo1.n = out1.length := row_n hA1.row
    have hn2 : lo2.n = out2.length := row_n hA2.row
    have hl1 : out1.length = l.n := by rw [hA1.perm.length_eq, hlen]
    have hl2 : out2.length = l.n := by rw [hA2.perm.length_eq, hlen]
    rw [if_neg (by omega), if_neg (by omega)]
    have hd8 := hd7.keep hA2.keep (by simp) (by simp)
    have hc8 := hc7.keep hA2.keep (by simp) (by simp)
    have hr8 := row_keep hr7 hA2.keep (by simp)
    refine all_spec hd8 fun S9 lo3 out3 hA3 => ?_
    have hn3 : lo3.n = out3.length := row_n hA3.row
    have hl3 : out3.length = l.n - 1 := by
      rw [hA3.perm.length_eq, hp7.length_eq, ((hp6.trans ((hpa.map _).trans (List.Perm.of_eq (tl_map z byx l.n)))).filter _).length_eq]
      have : l.n = (l.n - 1) + 1 := by omega
      rw [this, tl_drop0]; omega
    rw [w64 (by omega) (by omega), if_neg (by omega)]
    have hout : out1 = out2 := rises_eq hA1.rises hA2.rises (hA1.perm.trans hA2.perm.symm)
    subst hout
    have hc9 := hc8.keep hA3.keep (by simp) (by simp)
    have hr9 := row_keep hr8 hA3.keep (by simp)
    have hm9 := row_keep hA2.row hA3.keep (by simp)
    have hne : out1 ≠ [] := by intro e; rw [e] at hl1; simp at hl1; omega
    have kS9 : Keeps S S9 [] := (kS7.trans hA2.keep).trans hA3.keep
    obtain ⟨c1, cap1, e1, hat1⟩ := row_at hr9 hne
    obtain ⟨c2, cap2, e2, hat2⟩ := row_at hm9 hne
    subst e1; subst e2
    simp only at *
    have n12 : c2 ≠ c1 := by
      intro e
      have h1 := hA2.fresh c2 (by simp [own])
      obtain ⟨k, hk7⟩ := own_row hr7 (show c1 ∈ own _ by simp [own])
      rw [e, hk7] at h1; cases h1
    refine lp_rule (fun (zi : Int) S' => ∃ i : Nat, zi = (i : Int) ∧ i ≤ out1.length ∧ S' = S9) (fun zi => (out1.length - zi).toNat) ?_ ⟨0, rfl, by omega, rfl⟩
    rintro Y zi S' ⟨i, rfl, hi2, rfl⟩ ih2
    by_cases hlt2 : (i : Int) < (out1.length : Int)
    · rw [if_pos hlt2, sl_i]
      refine ⟨by omega, hlt2, ?_⟩
      rw [Int.toNat_natCast, gA_i (hat1 i (by omega)).1, sl_i]
      refine ⟨by omega, hlt2, ?_⟩
      rw [gA_i (hat2 i (by omega)).1]
      refine ⟨fits_ce _, fits_ce _, ?_⟩
      rw [if_neg (by rw [eqL_ce]; decide), w64 (by omega) (by omega)]
      exact ih2 _ _ ⟨i + 1, by omega, by omega, rfl⟩ (by omega)
    · rw [if_neg hlt2, sl_i]
      refine ⟨by omega, ?_⟩
      have hh := (hat1 0 (by omega)).2 0 (by decide)
      rw [gI_i (n := (gt out1 0).tm) hh]
      refine ⟨by omega, ?_⟩
      obtain ⟨q, hq⟩ := own_row hr9 (show c1 ∈ own _ by simp [own])
      rcases row_open hr9 with ⟨_, e⟩ | ⟨c, cap, t, j, e, hle, hcq, hj⟩
      · exact absurd e hne
      · simp only [Sl.mk.injEq, Option.some.injEq, Prod.mk.injEq] at e
        obtain ⟨⟨rfl, _⟩, _, rfl⟩ := e
        have hfl := fl_length out1
        refine pt_i (t := t) hcq (by rw [List.length_append]; omega) ?_
        rw [sl_i]
        refine ⟨by omega, ?_⟩
        have hpt2 := (hat2 0 (by omega)).1
        have hpt2' : (S'.set c1 (bw t (spl (fl out1 ++ j) 0 [.int .u64 (IntKind.u64.wrap ((gt out1 0).tm + 1))]))).part c2 0 3 = some (ce (gt out1 0)) := by
          simp only [Mem.part] at hpt2 ⊢
          rw [set_ne n12]; simpa using hpt2
        rw [gA_i hpt2']
        have nc1 : c1 ∉ b :: own s := by
          intro hm
          have hx := hA1.fresh c1 (by simp [own])
          exact not_own hc4 hx hm
        have hkc : Keeps S' (S'.set c1 (bw t (spl (fl out1 ++ j) 0 [.int .u64 (IntKind.u64.wrap ((gt out1 0).tm + 1))]))) [c1] := fun x _ hw => set_ne (by simpa using hw)
        have hc10 := hc9.keep hkc (fun h => nc1 (by simp at h; simp [h])) (fun x hx h => nc1 (by simp at h; subst h; simp [hx]))
        refine all_spec hc10 fun S11 lo4 out4 hA4 => ?_
        have hout4 : out4 = out1 := rises_eq hA4.rises hA1.rises (hA4.perm.trans hA1.perm.symm)
        subst hout4
        refine ⟨?_, ?_⟩
        · simp only [Mem.part] at hpt2' ⊢
          split at hpt2'
          · rename_i k hk2
            rw [hA4.keep.get hk2 (by simp)]; exact hpt2'
          · cases hpt2'
        · obtain ⟨c4, cap4, rfl, hat4⟩ := row_at hA4.row hne
          rw [sl_i]
          refine ⟨by omega, ?_⟩
          have h4 := (hat4 0 (by omega)).1
          rw [Nat.zero_mul] at h4
          rw [gA_i h4]
          refine ⟨fits_ce _, fits_ce _, eqL_ce _, ?_⟩
          refine Keeps.trans (fun x hx hw => ?_) hA4.keep
          have e9 := kS9 x hx hw
          rw [set_ne (fun e => ?_), e9]
          subst e
          have hx4 := hA1.fresh x (by simp [own])
          have : S4 x = S x := (hk.trans hk4) x hx hw
          rw [this] at hx4
          exact hx hx4
end Go.Proofs.Ytpilffakhkagjaa
