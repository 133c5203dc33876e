/- The document's example of alarms; AlarmNil; AlarmOnce. -/
import Derived.Test.YtpilffakhkagjaaAlT
import Derived.Test.YtpilffakhkagjaaPfC
import Derived.Test.YtpilffakhkagjaaPtM
namespace Go.Proofs.Ytpilffakhkagjaa
open Go Go.Pt Go.Hp
theorem perm_one {l : List Al} {a : Al} (h : l.Perm [a]) : l = [a] := List.perm_singleton.1 h
theorem alarm_awake {S : Mem} {Q : Bool → Mem → Prop} (hQ : ∀ S', Keeps S S' [] → Q true S') : hermitcrablaw10_awake S Q := by
  apply t_hermitcrablaw10_awake
  unfold b_hermitcrablaw10_awake
  refine mine_new (S0 := S) Keeps.refl fun b S1 h1 => ?_
  refine mine_set h1 (by simp) (by decide) (by decide) (by decide) (by decide) fun S2 l2 hp2 h2 => ?_
  have e2 : l2 = [⟨5, 0, 0⟩] := perm_one (by simpa using hp2)
  subst e2
  refine mine_set h2 (by simp) (by decide) (by decide) (by decide) (by decide) fun S3 l3 hp3 h3 => ?_
  have hp3' : l3.Perm [⟨3, 1, 0⟩, ⟨5, 0, 0⟩] := by simpa using hp3
  refine mine_due h3 fun S4 l4 lo out hp4 hr hle hgt h4 hrow => ?_
  have hall : ∀ x ∈ l3, x.tm ≤ 5 := by
    intro x hx
    have := hp3'.subset hx
    simp at this
    rcases this with rfl | rfl <;> decide
  have hl4 : l4 = [] := by
    cases l4 with
    | nil => rfl
    | cons y r =>
      have h5 := hgt y (by simp)
      have h6 := hall y (hp4.symm.subset (by simp))
      omega
  subst hl4
  have hout : out = [⟨3, 1, 0⟩, ⟨5, 0, 0⟩] := by
    refine rises_eq hr ?_ ((List.append_nil out ▸ hp4.symm).trans hp3')
    refine List.pairwise_cons.2 ⟨?_, rises_one _⟩
    intro y hy
    rw [List.mem_singleton] at hy; subst hy; decide
  subst hout
  obtain ⟨c, cap, rfl, hat⟩ := row_at hrow (by simp)
  rw [if_pos (by simp), sl_i]
  refine ⟨by simp, ?_⟩
  rw [gI_i (n := 1) ((hat 0 (by simp)).2 1 (by decide)), if_pos rfl]
  refine ⟨by simp, ?_⟩
  rw [gI_i (n := 0) ((hat 1 (by simp)).2 1 (by decide)), if_pos rfl]
  refine mine_all h4 fun S5 lo2 out2 hp5 hr5 h5 hrow5 => ?_
  have : out2 = [] := hp5.eq_nil
  subst this
  have hn := row_n hrow5
  rw [hn]
  exact hQ S5 h5.keep
theorem alarmNil_law {S : Mem} {vm seat atx : Int} : hermitcrablaw10_AlarmNil S vm seat atx (fun r S' => r = true ∧ Keeps S S' []) := by
  apply t_hermitcrablaw10_AlarmNil
  unfold b_hermitcrablaw10_AlarmNil
  apply t_alarm_Clock_Drop
  unfold b_alarm_Clock_Drop
  intro b1 hb1 b2 hb2
  have hk1 : Keeps S (S.set b1 (bw 3 [.int .i64 vm])) [] := Keeps.refl.new hb1
  have hk2 := hk1.new (k := bw 3 [.int .i64 seat]) hb2
  apply t_alarm_Clock_drop
  unfold b_alarm_Clock_drop
  rw [if_neg (by simp)]
  apply t_alarm_Clock_DropVM
  unfold b_alarm_Clock_DropVM
  intro b3 hb3
  have hk3 := hk2.new (k := bw 3 [.int .i64 vm]) hb3
  apply t_alarm_Clock_drop
  unfold b_alarm_Clock_drop
  rw [if_neg (by simp)]
  apply t_alarm_Clock_Shift
  unfold b_alarm_Clock_Shift
  simp only [jn]
  rw [if_pos trivial]
  refine alarm_awake fun S4 hk4 => ?_
  rw [if_pos rfl]
  apply t_alarm_Clock_Set
  unfold b_alarm_Clock_Set
  simp only [jn]
  rw [if_pos trivial, if_pos trivial]
  apply t_alarm_Clock_Due
  unfold b_alarm_Clock_Due
  simp only [jn]
  refine lp_rule (fun (z : Sl) S' => z = ⟨none, 0, 0⟩ ∧ S' = S4) (fun _ => 0) ?_ ⟨rfl, rfl⟩
  rintro X z S' ⟨rfl, rfl⟩ ih
  rw [if_neg (by simp), if_pos (by simp)]
  apply t_alarm_Clock_All
  unfold b_alarm_Clock_All
  simp only [jn]
  rw [if_pos trivial, if_pos (by simp)]
  apply t_alarm_Clock_Twin
  unfold b_alarm_Clock_Twin
  simp only [jn]
  rw [if_pos trivial]
  exact ⟨rfl, hk3.trans hk4⟩
theorem alarmOnce_law {S : Mem} {vm seat : Int} {l : Sl} (hv : 0 ≤ vm ∧ vm ≤ 255) (hs : 0 ≤ seat ∧ seat ≤ 255) (hl : NumsIn S l) (_ : l.n ≤ maxLen) : hermitcrablaw10_AlarmOnce S vm seat l (fun r S' => r = true ∧ Keeps S S' []) := by
  apply t_hermitcrablaw10_AlarmOnce
  unfold b_hermitcrablaw10_AlarmOnce
  simp only [jn]
  refine alarm_awake fun S1 hk1 => ?_
  rw [if_pos rfl]
  by_cases h0 : (l.n : Int) = 0
  · rw [if_pos h0]
    exact alarm_awake fun S2 hk2 => ⟨rfl, hk1.trans hk2⟩
  rw [if_neg h0]
  by_cases h30 : 30 < (l.n : Int)
  · rw [if_pos h30]
    exact alarm_awake fun S2 hk2 => ⟨rfl, hk1.trans hk2⟩
  rw [if_neg h30]
  rw [tm hv.1, tm hs.1, w64 (x := vm % 6) (by omega) (by omega), w64 (x := seat % 3) (by omega) (by omega)]
  refine mine_new (S0 := S) hk1 fun b S2 h2 => ?_
  refine lp_rule (fun (z : Int) S' => ∃ (i : Nat) (aa : List Al), z = (i : Int) ∧ i ≤ l.n ∧ Mine S S' b aa ∧ (i = 0 → aa = []) ∧ (0 < i → ∃ c o z, l.p = some (c, o) ∧ S.cell c (o + (i - 1)) = some (.int .u64 z) ∧ 0 ≤ z ∧ z ≤ 18446744073709551615 ∧ aa = [⟨z, vm % 6, seat % 3⟩])) (fun z => (l.n - z).toNat) ?_
    ⟨0, [], rfl, by omega, h2, fun _ => rfl, fun h => by omega⟩
  rintro X z S3 ⟨i, aa, rfl, hi, hM, hz0, hz1⟩ ih
  have hN := hl.keep hM.keep
  obtain ⟨lp_, ln, lc⟩ := l
  simp only at *
  by_cases hlt : (i : Int) < (ln : Int)
  · rw [if_pos hlt]
    obtain ⟨c, o, z, hp, hc, hb0, hb1⟩ := hN i (by simp only; omega)
    obtain ⟨c', o', z', hp', hc', hb'⟩ := hl i (by simp only; omega)
    simp only at hp hp'
    subst hp
    cases hp'
    rw [sl_i]
    refine ⟨by omega, hlt, ?_⟩
    rw [Int.toNat_natCast, Nat.mul_one, gI_i hc]
    have hlen : aa.length ≤ 1 := by
      by_cases h : i = 0
      · rw [hz0 h]; simp
      · obtain ⟨_, _, _, _, _, _, _, e⟩ := hz1 (by omega); rw [e]; simp
    refine mine_set hM (by omega) (by omega) (by omega) (by omega) (by omega) fun S4 l4 hp4 h4 => ?_
    rw [w64 (by omega) (by omega)]
    have hzz : z' = z := by
      obtain ⟨k, h5, h6⟩ := cell_e hc'
      rw [cell_of (hM.keep.get h5 (by simp)), h6] at hc
      cases hc; rfl
    subst hzz
    refine ih _ _ ⟨i + 1, l4, by omega, by omega, h4, by omega, fun _ => ⟨c, o, z', rfl, hc', hb0, hb1, perm_one ?_⟩⟩ (by omega)
    have hf : aa.filter (fun a => ! (decide (a.vm = vm % 6) && decide (a.seat = seat % 3))) = [] := by
      by_cases h : i = 0
      · rw [hz0 h]; rfl
      · obtain ⟨_, _, _, _, _, _, _, e⟩ := hz1 (by omega); rw [e]; simp
    rw [hf] at hp4
    exact hp4
  · rw [if_neg hlt]
    have hin : i = ln := by omega
    subst hin
    obtain ⟨c, o, z, hp, hc, hb0, hb1, e⟩ := hz1 (by omega)
    subst hp
    subst e
    rw [sl_i, w64 (by omega) (by omega)]
    refine ⟨by omega, by omega, ?_⟩
    have hcz : S3.cell c (o + ((i : Int) - 1).toNat * 1) = some (.int .u64 z) := by
      obtain ⟨k, h5, h6⟩ := cell_e hc
      rw [show o + ((i : Int) - 1).toNat * 1 = o + (i - 1) by omega, cell_of (hM.keep.get h5 (by simp))]; exact h6
    rw [gI_i hcz]
    have last : ∀ S5, Mine S S5 b [⟨z, vm % 6, seat % 3⟩] → alarm_Clock_Due S5 (some (b, 0)) z fun t_1 Sx_4 =>
              if false = true then
                (false = true ∧ Keeps S Sx_4 [])
              else
              if (t_1.n : Int) = 1 then
                sl t_1 fun b_2 o_1 n_2 n_3 =>
                (0 : Int) < (n_2 : Nat) ∧
                gA (Sx_4.part b_2 o_1 3) fun t_2 =>
                fits [.i .u64, .i .i64, .i .i64] t_2 = true ∧
                if (eqL t_2 ([.int .u64 z, .int .i64 (vm % 6), .int .i64 (seat % 3)])) = true then
                  alarm_Clock_Due Sx_4 (some (b, 0)) 18446744073709551615 fun t_3 Sx_5 =>
                  (decide ((t_3.n : Int) = 0) = true ∧ Keeps S Sx_5 [])
                else
                (false = true ∧ Keeps S Sx_4 [])
              else
              (false = true ∧ Keeps S Sx_4 []) := by
      intro S5 h5
      refine mine_due h5 fun S6 l6 lo out hp6 hr hle hgt h6 hrow => ?_
      have hl6 : l6 = [] := by
        cases l6 with
        | nil => rfl
        | cons y r =>
          have e1 := hgt y (by simp)
          have e2 := hp6.symm.subset (show y ∈ out ++ y :: r by simp)
          rw [List.mem_singleton] at e2; subst e2; simp at e1
      subst hl6
      have hout := perm_one ((List.append_nil out ▸ hp6.symm))
      subst hout
      obtain ⟨c2, cap2, rfl, hat⟩ := row_at hrow (by simp)
      rw [if_neg (by decide), if_pos (by simp), sl_i]
      refine ⟨by simp, ?_⟩
      have hpt := (hat 0 (by simp)).1
      rw [Nat.zero_mul] at hpt
      rw [gA_i hpt]
      refine ⟨rfl, ?_⟩
      rw [if_pos (by simp [eqL, eq1, ce, gt])]
      refine mine_due h6 fun S7 l7 lo7 out7 hp7 hr7 hle7 hgt7 h7 hrow7 => ?_
      have : out7 = [] := (List.append_eq_nil_iff.1 (List.nil_perm.1 hp7)).1
      subst this
      rw [row_n hrow7]
      exact ⟨rfl, h7.keep⟩
    by_cases hz : 0 < z
    · rw [if_pos hz, wu64 (by omega) (by omega)]
      refine mine_due hM fun S4 l4 lo out hp4 hr hle hgt h4 hrow => ?_
      have hout : out = [] := by
        cases out with
        | nil => rfl
        | cons y r =>
          have e1 := hle y (by simp)
          have e2 := hp4.symm.subset (show y ∈ (y :: r) ++ l4 by simp)
          rw [List.mem_singleton] at e2; subst e2; simp at e1
          omega
      subst hout
      rw [row_n hrow, if_neg (by simp)]
      have : l4 = [⟨z, vm % 6, seat % 3⟩] := perm_one (by simpa using hp4.symm)
      subst this
      exact last S4 h4
    · rw [if_neg hz]
      exact last S3 hM
end Go.Proofs.Ytpilffakhkagjaa
