/- AlarmPlays: the law's walk. -/
import Derived.Test.YtpilffakhkagjaaAlW
namespace Go.Proofs.Ytpilffakhkagjaa
open Go Go.Pt Go.Hp
theorem key_in {f : Nat → Bool} {v s : Int} (h : 0 ≤ v ∧ v < 6 ∧ 0 ≤ s ∧ s < 3) (x : Nat) : (f x && ! (decide (((x / 3 : Nat) : Int) = v) && decide (((x % 3 : Nat) : Int) = s))) = up f (0 + v.toNat * 3 + s.toNat * 1) false x := by
  unfold up
  by_cases e : x = 0 + v.toNat * 3 + s.toNat * 1
  · rw [if_pos e]
    have h1 : ((x / 3 : Nat) : Int) = v := by omega
    have h2 : ((x % 3 : Nat) : Int) = s := by omega
    simp [h1, h2]
  · rw [if_neg e]
    have : (! (decide (((x / 3 : Nat) : Int) = v) && decide (((x % 3 : Nat) : Int) = s))) = true := by rw [notkey]; omega
    rw [this, Bool.and_true]
theorem key_out {f : Nat → Bool} {v s : Int} (h : ¬ (0 ≤ v ∧ v < 6 ∧ 0 ≤ s ∧ s < 3)) {x : Nat} (hx : x < 18) : (f x && ! (decide (((x / 3 : Nat) : Int) = v) && decide (((x % 3 : Nat) : Int) = s))) = f x := by
  have : (! (decide (((x / 3 : Nat) : Int) = v) && decide (((x % 3 : Nat) : Int) = s))) = true := by rw [notkey]; omega
  rw [this, Bool.and_true]
theorem vm_in {f : Nat → Bool} {v : Int} (h : 0 ≤ v) (x : Nat) : (f x && ! decide (((x / 3 : Nat) : Int) = v)) = (f x && ! decide (x / 3 = v.toNat)) := by
  congr 2
  exact decide_eq_decide.2 (by omega)
theorem vm_out {f : Nat → Bool} {v : Int} (h : ¬ (0 ≤ v ∧ v < 6)) {x : Nat} (hx : x < 18) : (f x && ! decide (((x / 3 : Nat) : Int) = v)) = f x := by
  rw [decide_eq_false (by omega)]; simp
/-- What stands ahead of the first that is told. -/
def lastL (out : List Al) (n : Nat) : List Value := if n = 0 then [.int .u64 0, .int .i64 (-1), .int .i64 0] else ce (gt out (n - 1))
theorem lastL_length (out : List Al) (n : Nat) : (lastL out n).length = 3 := by unfold lastL; split <;> rfl
theorem lastL_get (out : List Al) (n : Nat) : ∃ t v s, lastL out n = [.int .u64 t, .int .i64 v, .int .i64 s] ∧ (n = 0 → t = 0 ∧ v = -1 ∧ s = 0) ∧ (0 < n → gt out (n - 1) = ⟨t, v, s⟩) := by
  unfold lastL
  by_cases h : n = 0
  · rw [if_pos h]; exact ⟨0, -1, 0, rfl, fun _ => ⟨rfl, rfl, rfl⟩, fun h2 => by omega⟩
  · rw [if_neg h]; exact ⟨_, _, _, rfl, fun h2 => absurd h2 h, fun _ => rfl⟩
set_option maxHeartbeats 2000000 in
theorem alarmPlays_law {S : Mem} {l : Sl} (hl : ActsIn S l) : hermitcrablaw10_AlarmPlays S l (fun r S' => r = true ∧ Keeps S S' []) := by
  apply t_hermitcrablaw10_AlarmPlays
  unfold b_hermitcrablaw10_AlarmPlays
  refine jn_cut (fun j => ∀ S1, Keeps S S1 [] → l.n ≤ 60 → j S1) ?main ?start
  case start =>
    intro j hj
    refine alarm_awake fun S1 hk1 => ?_
    rw [if_pos rfl]
    by_cases h60 : 60 < (l.n : Int)
    · rw [if_pos h60]
      exact alarm_awake fun S2 hk2 => ⟨rfl, hk1.trans hk2⟩
    · rw [if_neg h60]
      exact hj S1 hk1 (by omega)
  case main =>
    intro S1 hk1 h60
    refine mine_new (S0 := S) hk1 fun b S2 h2 => ?_
    refine jn_cut (fun j => ∀ S', Keeps S S' [] → j S') (fun S' hk => ⟨rfl, hk⟩) ?_
    intro Jx hJx
    refine lp_rule (fun (z : Int × List Value × List Value) S' => ∃ (i : Nat) (f : Nat → Bool) (g : Nat → Int), z = ((i : Int), onL f, atL g) ∧ i ≤ l.n ∧ Tb S S' b f g) (fun z => (l.n - z.1).toNat) ?_
      ⟨0, fun _ => false, fun _ => 0, rfl, by omega, ⟨⟨[], h2, List.Perm.refl _⟩, fun k _ => by simp⟩⟩
    rintro X z S3 ⟨i, f, g, rfl, hi, hT⟩ ih
    dsimp only at ih ⊢
    refine ⟨onL_length f, atL_length g, ?_⟩
    refine jn_cut (fun j => i < l.n → j S3) ?body ?head
    case head =>
      intro j hj
      by_cases hlt : (i : Int) < (l.n : Int)
      · rw [if_pos hlt]; exact hj (by omega)
      · rw [if_neg hlt]; exact hJx S3 hT.keep
    case body =>
      intro hlt
      refine jn_cut (fun j => ∀ f g S5, Tb S S5 b f g → j (onL f) (atL g) S5) ?next ?_
      case next =>
        intro f' g' S5 h5
        refine ⟨onL_length f', atL_length g', ?_⟩
        rw [w64 (by omega) (by omega)]
        exact ih _ S5 ⟨i + 1, f', g', by simp, by omega, h5⟩ (by simp only; omega)
      intro J1 hJ1
      clear ih
      obtain ⟨ab, ao, k, v, s, a, hp, hpart, hk, ha⟩ := hl i hlt
      obtain ⟨lp_, ln, lc⟩ := l
      simp only at hp hpart hlt ⊢
      subst hp
      rw [sl_i]
      refine ⟨by omega, by omega, ?_⟩
      rw [Int.toNat_natCast, gA_i (part_keep hpart hT.keep)]
      refine ⟨rfl, ?_⟩
      have q0 : nthL [Value.int .u8 k, .int .i64 v, .int .i64 s, .int .u64 a] 0 = some (.int .u8 k) := rfl
      have q1 : nthL [Value.int .u8 k, .int .i64 v, .int .i64 s, .int .u64 a] 1 = some (.int .i64 v) := rfl
      have q2 : nthL [Value.int .u8 k, .int .i64 v, .int .i64 s, .int .u64 a] 2 = some (.int .i64 s) := rfl
      have q3 : nthL [Value.int .u8 k, .int .i64 v, .int .i64 s, .int .u64 a] 3 = some (.int .u64 a) := rfl
      refine jn_cut (fun j => ∀ here : Bool, here = decide (0 ≤ v ∧ v < 6 ∧ 0 ≤ s ∧ s < 3) → j here S3) ?act ?who
      case who =>
        intro j hj
        simp only [gI_i q1, gI_i q2]
        by_cases c1 : 0 ≤ v
        · rw [if_pos c1]
          by_cases c2 : v < 6
          · rw [if_pos c2]
            by_cases c3 : 0 ≤ s
            · rw [if_pos c3]
              by_cases c4 : s < 3
              · rw [if_pos c4]; exact hj _ (by simp [c1, c2, c3, c4])
              · rw [if_neg c4]; exact hj _ (by simp [c4])
            · rw [if_neg c3]; exact hj _ (by simp [c3])
          · rw [if_neg c2]; exact hj _ (by simp [c2])
        · rw [if_neg c1]; exact hj _ (by simp [c1])
      case act =>
        intro here hhere
        refine jn_cut (fun j => ∀ f g S7, Tb S S7 b f g → j (onL f) (atL g) S7) ?check ?kinds
        case check =>
          intro f g S7 hT7
          refine ⟨onL_length f, atL_length g, ?_⟩
          have hcle := cnt_small f
          refine jn_cut (fun j => j ((cnt f 18 : Nat) : Int) S7) ?told ?count
          case count =>
            intro J5 hJ5
            simp only [jn]
            refine lp_rule (fun (z : Int × Int) S' => ∃ w : Nat, z = (((cnt f (w * 3) : Nat) : Int), (w : Int)) ∧ w ≤ 6 ∧ S' = S7) (fun z => (6 - z.2).toNat) ?_ ⟨0, rfl, by omega, rfl⟩
            rintro Y z S' ⟨w, rfl, hw, rfl⟩ ih
            dsimp only at ih ⊢
            by_cases hw6 : (w : Int) < 6
            · rw [if_pos hw6]
              refine lp_rule (fun (z : Int × Int) S2 => ∃ u : Nat, z = (((cnt f (w * 3 + u) : Nat) : Int), (u : Int)) ∧ u ≤ 3 ∧ S2 = S') (fun z => (3 - z.2).toNat) ?_ ⟨0, rfl, by omega, rfl⟩
              rintro Z z S2 ⟨u, rfl, hu, rfl⟩ ih2
              dsimp only at ih2 ⊢
              have hcl := cnt_le f (w * 3 + u)
              by_cases hu3 : (u : Int) < 3
              · rw [if_pos hu3]
                refine ⟨by omega, hw6, by omega, hu3, ?_⟩
                rw [show 0 + (w : Int).toNat * 3 + (u : Int).toNat * 1 = w * 3 + u by omega, gB_i (onL_get (by omega))]
                have hcs := cnt_succ f (w * 3 + u)
                cases hf : f (w * 3 + u) with
                | true =>
                  rw [hf, if_pos rfl] at hcs
                  rw [if_pos rfl, w64 (by omega) (by omega), w64 (by omega) (by omega)]
                  refine ih2 _ _ ⟨u + 1, ?_, by omega, rfl⟩ (by simp only; omega)
                  rw [show w * 3 + (u + 1) = w * 3 + u + 1 by omega, hcs]; simp
                | false =>
                  rw [hf, if_neg (by decide)] at hcs
                  rw [if_neg (by decide), w64 (by omega) (by omega)]
                  refine ih2 _ _ ⟨u + 1, ?_, by omega, rfl⟩ (by simp only; omega)
                  rw [show w * 3 + (u + 1) = w * 3 + u + 1 by omega, hcs]; simp
              · rw [if_neg hu3, w64 (by omega) (by omega)]
                have : u = 3 := by omega
                subst this
                exact ih _ _ ⟨w + 1, by rw [show (w + 1) * 3 = w * 3 + 3 by omega]; simp, by omega, rfl⟩ (by simp only; omega)
            · rw [if_neg hw6]
              have : w = 6 := by omega
              subst this
              exact hJ5
          case told =>
            refine tb_all hT7 fun S9 lo out hpo hri hT9 hrow => ?_
            have hlen : out.length = cnt f 18 := by rw [hpo.length_eq, tab_length]
            have hln := row_n hrow
            have hnd : out.Nodup := hpo.nodup_iff.2 (tab_nodup f g)
            refine jn_cut (fun j => j S9) ?_ fun j hj => by rw [if_neg (by rw [hln, hlen]; simp)]; exact hj
            refine lp_rule (fun (z : Int) S' => ∃ w : Nat, z = (w : Int) ∧ w ≤ out.length ∧ S' = S9) (fun z => (out.length - z).toNat) ?_ ⟨0, rfl, by omega, rfl⟩
            rintro Y z S' ⟨w, rfl, hw, rfl⟩ ih
            by_cases hwl : w < out.length
            · refine jn_cut (fun j => j S') ?_ fun j hj => by rw [if_pos (by rw [hln]; omega)]; exact hj
              refine jn_cut (fun j => j S') (by rw [w64 (by omega) (by omega)]; exact ih _ _ ⟨w + 1, by omega, by omega, rfl⟩ (by omega)) ?_
              intro J2 hJ2
              obtain ⟨c, cap, rfl, hat⟩ := row_at hrow (by intro e; rw [e] at hwl; simp at hwl)
              obtain ⟨m, hm18, hfm, hxm⟩ := mem_tab.1 (hpo.subset (show gt out w ∈ out by rw [gt_eq hwl]; exact List.getElem_mem _))
              have hr := fun k hk => (hat w hwl).2 k hk
              rw [hxm] at hr
              have r0 : S'.cell c (0 + w * 3) = some (.int .u64 (g m)) := hr 0 (by decide)
              have r1 : S'.cell c (0 + w * 3 + 1) = some (.int .i64 ((m / 3 : Nat) : Int)) := by rw [Nat.add_assoc]; exact hr 1 (by decide)
              have r2 : S'.cell c (0 + w * 3 + 2) = some (.int .i64 ((m % 3 : Nat) : Int)) := by rw [Nat.add_assoc]; exact hr 2 (by decide)
              rw [sl_i]
              rw [Int.toNat_natCast]
              have hwn : (0 : Int) ≤ (w : Int) ∧ (w : Int) < ((out.length : Nat) : Int) := by omega
              refine ⟨hwn.1, hwn.2, ?_⟩
              rw [gI_i r1]
              refine ⟨hwn.1, hwn.2, ?_⟩
              rw [gI_i r2]
              refine ⟨by omega, by omega, by omega, by omega, ?_⟩
              have hkey : 0 + ((m / 3 : Nat) : Int).toNat * 3 + ((m % 3 : Nat) : Int).toNat * 1 = m := by omega
              rw [hkey, gB_i (onL_get hm18), hfm, if_pos rfl]
              refine ⟨hwn.1, hwn.2, ?_⟩
              rw [gI_i r1]
              refine ⟨hwn.1, hwn.2, ?_⟩
              rw [gI_i r2]
              refine ⟨by omega, by omega, by omega, by omega, ?_⟩
              rw [hkey, gI_i (atL_get hm18)]
              refine ⟨hwn.1, hwn.2, ?_⟩
              rw [gI_i r0, if_neg (by simp)]
              by_cases hw0 : (0 : Int) < (w : Int)
              · rw [if_pos hw0, w64 (by omega) (by omega), show ((w : Int) - 1).toNat = w - 1 by omega]
                obtain ⟨m', hm18', hfm', hxm'⟩ := mem_tab.1 (hpo.subset (show gt out (w - 1) ∈ out by rw [gt_eq (by omega)]; exact List.getElem_mem _))
                have hr' := fun k hk => (hat (w - 1) (by omega)).2 k hk
                rw [hxm'] at hr'
                have s0 : S'.cell c (0 + (w - 1) * 3) = some (.int .u64 (g m')) := hr' 0 (by decide)
                have s1 : S'.cell c (0 + (w - 1) * 3 + 1) = some (.int .i64 ((m' / 3 : Nat) : Int)) := by rw [Nat.add_assoc]; exact hr' 1 (by decide)
                have s2 : S'.cell c (0 + (w - 1) * 3 + 2) = some (.int .i64 ((m' % 3 : Nat) : Int)) := by rw [Nat.add_assoc]; exact hr' 2 (by decide)
                have hst := rises_strict hri hnd (show w - 1 < w by omega) hwl
                rw [hxm, hxm', bf_iff] at hst
                simp only [al1] at hst
                have hwp : (0 : Int) ≤ (w : Int) - 1 ∧ (w : Int) - 1 < ((out.length : Nat) : Int) := by omega
                refine ⟨hwn.1, hwn.2, ?_⟩
                rw [gI_i r0]
                refine ⟨hwp.1, hwp.2, ?_⟩
                rw [gI_i s0, if_neg (by omega)]
                refine ⟨hwn.1, hwn.2, ?_⟩
                rw [gI_i r0]
                refine ⟨hwp.1, hwp.2, ?_⟩
                rw [gI_i s0]
                by_cases c1 : g m = g m'
                · rw [if_pos c1]
                  refine ⟨hwn.1, hwn.2, ?_⟩
                  rw [gI_i r1]
                  refine ⟨hwp.1, hwp.2, ?_⟩
                  rw [gI_i s1, if_neg (by omega)]
                  refine ⟨hwn.1, hwn.2, ?_⟩
                  rw [gI_i r1]
                  refine ⟨hwp.1, hwp.2, ?_⟩
                  rw [gI_i s1]
                  by_cases c2 : ((m / 3 : Nat) : Int) = ((m' / 3 : Nat) : Int)
                  · rw [if_pos c2]
                    refine ⟨hwn.1, hwn.2, ?_⟩
                    rw [gI_i r2]
                    refine ⟨hwp.1, hwp.2, ?_⟩
                    rw [gI_i s2, if_neg (by omega)]
                    exact hJ2
                  · rw [if_neg c2]; exact hJ2
                · rw [if_neg c1]; exact hJ2
              · rw [if_neg hw0]; exact hJ2
            · refine jn_cut (fun _ => True) trivial fun j _ => ?_
              rw [if_neg (by rw [hln]; omega)]
              exact hJ1 f g S' hT9
        case kinds =>
          intro J8 hJ8
          rw [gI_i q0, tm hk.1]
          simp only [gI_i q1, gI_i q2, gI_i q3]
          by_cases k4 : k % 8 = 4
          · rw [if_pos k4]
            refine tb_drop hT fun S4 h4 => ?_
            cases here with
            | true =>
              have hh := of_decide_eq_true hhere.symm
              rw [if_pos rfl]
              refine ⟨hh.1, hh.2.1, hh.2.2.1, hh.2.2.2, ?_⟩
              rw [onL_set (by omega)]
              refine hJ8 _ _ S4 (h4.congr (fun x hx => ?_) fun _ _ => rfl)
              exact key_in hh x
            | false =>
              have hh := of_decide_eq_false hhere.symm
              rw [if_neg (by decide)]
              refine hJ8 _ _ S4 (h4.congr (fun x hx => ?_) fun _ _ => rfl)
              exact key_out hh hx
          rw [if_neg k4]
          by_cases k5 : k % 8 = 5
          · rw [if_pos k5]
            refine tb_dropVM hT fun S4 h4 => ?_
            by_cases v0 : 0 ≤ v
            · rw [if_pos v0]
              by_cases v6 : v < 6
              · rw [if_pos v6]
                refine ⟨v0, v6, ?_⟩
                rw [Nat.zero_add, onL_set3 (by omega)]
                refine hJ8 _ _ S4 (h4.congr (fun x hx => ?_) fun _ _ => rfl)
                exact vm_in v0 x
              · rw [if_neg v6]
                refine hJ8 _ _ S4 (h4.congr (fun x hx => ?_) fun _ _ => rfl)
                exact vm_out (by omega) hx
            · rw [if_neg v0]
              refine hJ8 _ _ S4 (h4.congr (fun x hx => ?_) fun _ _ => rfl)
              exact vm_out (by omega) hx
          rw [if_neg k5]
          by_cases k6 : k % 8 = 6
          · rw [if_pos k6]
            refine tb_due hT fun S4 lo out hin hnd hol hri hft h4 hrow => ?_
            have hln := row_n hrow
            refine jn_cut (fun j => j (onL (fAfter f out out.length)) S4) ?look ?tell
            case look =>
              refine ⟨onL_length _, ?_⟩
              simp only [jn]
              refine lp_rule (fun (z : Int) S' => ∃ w : Nat, z = (w : Int) ∧ w ≤ 6 ∧ S' = S4) (fun z => (6 - z).toNat) ?_ ⟨0, rfl, by omega, rfl⟩
              rintro Y z S' ⟨w, rfl, hw, rfl⟩ ih
              by_cases hw6 : (w : Int) < 6
              · rw [if_pos hw6]
                refine lp_rule (fun (z : Int) S2 => ∃ u : Nat, z = (u : Int) ∧ u ≤ 3 ∧ S2 = S') (fun z => (3 - z).toNat) ?_ ⟨0, rfl, by omega, rfl⟩
                rintro Z z S2 ⟨u, rfl, hu, rfl⟩ ih2
                by_cases hu3 : (u : Int) < 3
                · rw [if_pos hu3]
                  refine ⟨by omega, hw6, by omega, hu3, ?_⟩
                  rw [show 0 + (w : Int).toNat * 3 + (u : Int).toNat * 1 = w * 3 + u by omega, gB_i (onL_get (by omega)), hft _ (by omega)]
                  have nx : Z (IntKind.i64.wrap ((u : Int) + 1)) S2 := by
                    rw [w64 (by omega) (by omega)]
                    exact ih2 _ _ ⟨u + 1, by omega, by omega, rfl⟩ (by omega)
                  by_cases hf : (f (w * 3 + u) && decide (a < g (w * 3 + u))) = true
                  · rw [if_pos hf]
                    refine ⟨by omega, hw6, by omega, hu3, ?_⟩
                    rw [gI_i (atL_get (by omega)), if_neg]
                    · exact nx
                    · rw [Bool.and_eq_true, decide_eq_true_eq] at hf; omega
                  · rw [if_neg hf]; exact nx
                · rw [if_neg hu3, w64 (by omega) (by omega)]
                  exact ih _ _ ⟨w + 1, by omega, by omega, rfl⟩ (by omega)
              · rw [if_neg hw6]
                exact hJ8 _ _ S' h4
            case tell =>
              intro J12 hJ12
              refine lp_rule (fun (z : Int × Int × List Value × List Value) S' => ∃ w : Nat, z = ((w : Int), (w : Int), onL (fAfter f out w), lastL out w) ∧ w ≤ out.length ∧ S' = S4) (fun z => (out.length - z.1).toNat) ?_ ⟨0, by rw [fAfter_zero]; rfl, by omega, rfl⟩
              rintro Y z S' ⟨w, rfl, hw, rfl⟩ ih
              dsimp only at ih ⊢
              refine ⟨onL_length _, lastL_length _ _, ?_⟩
              by_cases hwl : w < out.length
              · refine jn_cut (fun j => j S') ?_ fun j hj => by rw [if_pos (by rw [hln]; omega)]; exact hj
                obtain ⟨c, cap, rfl, hat⟩ := row_at hrow (by intro e; rw [e] at hwl; simp at hwl)
                obtain ⟨m, hm18, hfm, hxm, hle⟩ := hin (gt out w) (by rw [gt_eq hwl]; exact List.getElem_mem _)
                have hpt := (hat w hwl).1
                rw [hxm] at hpt
                have hfw : fAfter f out w m = true := by
                  simp only [fAfter, hfm, Bool.true_and, Bool.not_eq_true', List.any_eq_false, Bool.and_eq_true, decide_eq_true_eq, not_and]
                  intro x hx e1 e2
                  obtain ⟨q, hq, rfl⟩ := List.getElem_of_mem hx
                  rw [List.length_take] at hq
                  rw [List.getElem_take] at e1 e2
                  obtain ⟨m', _, _, hx', _⟩ := hin out[q] (List.getElem_mem _)
                  rw [hx'] at e1 e2
                  have : m' = m := by simp only [al1] at e1 e2; omega
                  subst this
                  have := List.pairwise_iff_getElem.1 hnd q w (by omega) hwl (by omega)
                  rw [hx', ← gt_eq hwl, hxm] at this
                  exact this rfl
                have p0 : nthL (ce (al1 g m)) 0 = some (.int .u64 (g m)) := rfl
                have p1 : nthL (ce (al1 g m)) 1 = some (.int .i64 ((m / 3 : Nat) : Int)) := rfl
                have p2 : nthL (ce (al1 g m)) 2 = some (.int .i64 ((m % 3 : Nat) : Int)) := rfl
                have hkey : 0 + ((m / 3 : Nat) : Int).toNat * 3 + ((m % 3 : Nat) : Int).toNat * 1 = m := by omega
                refine jn_cut (fun j => ∀ n' : Int, n' = (w : Int) + 1 → j n' (onL (up (fAfter f out w) m false)) (ce (al1 g m)) S') ?_ ?_
                · rintro n' rfl
                  refine ⟨onL_length _, rfl, ?_⟩
                  rw [w64 (by omega) (by omega)]
                  refine ih _ _ ⟨w + 1, ?_, by omega, rfl⟩ (by simp only; omega)
                  have e1 : onL (up (fAfter f out w) m false) = onL (fAfter f out (w + 1)) := onL_congr fun k _ => by
                    rw [fAfter_succ (v := m / 3) (s := m % 3) hwl (by rw [hxm]; rfl) (by rw [hxm]; rfl) (by omega), show m / 3 * 3 + m % 3 = m by omega]
                  have e2 : ce (al1 g m) = lastL out (w + 1) := by
                    unfold lastL
                    rw [if_neg (by omega), Nat.add_sub_cancel, hxm]
                  rw [e1, e2]; simp
                intro J13 hJ13
                rw [sl_i]
                refine ⟨by omega, by omega, ?_⟩
                rw [Int.toNat_natCast, gA_i hpt]
                refine ⟨ce_one _, ?_⟩
                refine jn_cut (fun j => j true S') ?_ ?_
                · refine jn_cut (fun j => j S') ?_ ?_
                  · rw [gI_i p1, gI_i p2]
                    refine ⟨by omega, by omega, by omega, by omega, ce_one _, ?_⟩
                    rw [hkey, onL_set hm18]
                    exact hJ13 _ (w64 (by omega) (by omega))
                  · intro J14 hJ14
                    rw [gI_i p1, if_neg (by omega), gI_i p1, if_neg (by omega), gI_i p2, if_neg (by omega), gI_i p2, if_neg (by omega), gI_i p1, gI_i p2]
                    refine ⟨by omega, by omega, by omega, by omega, ?_⟩
                    rw [hkey, gB_i (onL_get hm18), hfw, if_pos rfl, gI_i p1, gI_i p2]
                    refine ⟨by omega, by omega, by omega, by omega, ?_⟩
                    rw [hkey, gI_i (atL_get hm18), gI_i p0, if_neg (by simp), gI_i p0, if_neg (by omega), if_pos rfl]
                    exact hJ14
                · intro J15 hJ15
                  obtain ⟨lt_, lv, ls, hle3, hz, hnz⟩ := lastL_get out w
                  rw [hle3]
                  have l0 : nthL [Value.int .u64 lt_, .int .i64 lv, .int .i64 ls] 0 = some (.int .u64 lt_) := rfl
                  have l1 : nthL [Value.int .u64 lt_, .int .i64 lv, .int .i64 ls] 1 = some (.int .i64 lv) := rfl
                  have l2 : nthL [Value.int .u64 lt_, .int .i64 lv, .int .i64 ls] 2 = some (.int .i64 ls) := rfl
                  have hbd := hT.bd m hm18
                  have hord : lt_ < g m ∨ (lt_ = g m ∧ (lv < ((m / 3 : Nat) : Int) ∨ (lv = ((m / 3 : Nat) : Int) ∧ ls < ((m % 3 : Nat) : Int)))) := by
                    by_cases hw0 : w = 0
                    · obtain ⟨e1, e2, e3⟩ := hz hw0
                      omega
                    · have hst := rises_strict hri hnd (show w - 1 < w by omega) hwl
                      rw [hxm, hnz (by omega), bf_iff] at hst
                      exact hst
                  rw [gI_i p0, gI_i l0]
                  by_cases c1 : lt_ < g m
                  · rw [if_pos c1]; exact hJ15
                  rw [if_neg c1, gI_i p0, gI_i l0, if_pos (by omega), gI_i p1, gI_i l1]
                  by_cases c2 : lv < ((m / 3 : Nat) : Int)
                  · rw [if_pos c2]; exact hJ15
                  rw [if_neg c2, gI_i p1, gI_i l1, if_pos (by omega), gI_i p2, gI_i l2, if_pos (by omega)]
                  exact hJ15
              · refine jn_cut (fun _ => True) trivial fun j _ => ?_
                rw [if_neg (by rw [hln]; omega)]
                have : w = out.length := by omega
                subst this
                exact hJ12
          rw [if_neg k6]
          by_cases k7 : k % 8 = 7
          · rw [if_pos k7]
            refine tb_shift hT ha.1 ha.2 fun S4 h4 => ?_
            simp only [jn]
            refine lp_rule (fun (z : Int × List Value) S' => ∃ w : Nat, z = ((w : Int), atL (fun x => if x < w * 3 then later a (g x) else g x)) ∧ w ≤ 6 ∧ S' = S4) (fun z => (6 - z.1).toNat) ?_ ⟨0, by simp, by omega, rfl⟩
            rintro Y z S' ⟨w, rfl, hw, rfl⟩ ih
            dsimp only at ih ⊢
            refine ⟨atL_length _, ?_⟩
            by_cases hw6 : (w : Int) < 6
            · rw [if_pos hw6]
              refine lp_rule (fun (z : Int × List Value) S2 => ∃ u : Nat, z = ((u : Int), atL (fun x => if x < w * 3 + u then later a (g x) else g x)) ∧ u ≤ 3 ∧ S2 = S') (fun z => (3 - z.1).toNat) ?_ ⟨0, by simp, by omega, rfl⟩
              rintro Z z S2 ⟨u, rfl, hu, rfl⟩ ih2
              dsimp only at ih2 ⊢
              refine ⟨atL_length _, ?_⟩
              by_cases hu3 : (u : Int) < 3
              · rw [if_pos hu3]
                refine ⟨by omega, hw6, by omega, hu3, ?_⟩
                have hkey : 0 + (w : Int).toNat * 3 + (u : Int).toNat * 1 = w * 3 + u := by omega
                rw [hkey, gI_i (atL_get (by omega)), if_neg (Nat.lt_irrefl (w * 3 + u))]
                have hb := hT.bd (w * 3 + u) (by omega)
                have nx : ∀ y, y = later a (g (w * 3 + u)) → Z (IntKind.i64.wrap ((u : Int) + 1), spl (atL (fun x => if x < w * 3 + u then later a (g x) else g x)) (w * 3 + u) [.int .u64 y]) S2 := by
                  rintro y rfl
                  rw [w64 (by omega) (by omega)]
                  refine ih2 _ _ ⟨u + 1, ?_, by omega, rfl⟩ (by simp only; omega)
                  rw [atL_set (by omega)]
                  have e1 : atL (up (fun x => if x < w * 3 + u then later a (g x) else g x) (w * 3 + u) (later a (g (w * 3 + u)))) = atL (fun x => if x < w * 3 + (u + 1) then later a (g x) else g x) := atL_congr fun x _ => by
                    unfold up
                    by_cases e : x = w * 3 + u
                    · rw [if_pos e, if_pos (by omega), e]
                    · rw [if_neg e]
                      dsimp only
                      by_cases e2 : x < w * 3 + u
                      · rw [if_pos e2, if_pos (by omega)]
                      · rw [if_neg e2, if_neg (by omega)]
                  rw [e1]; simp
                have hwr : IntKind.u64.wrap (g (w * 3 + u) + a) = if 18446744073709551615 < g (w * 3 + u) + a then g (w * 3 + u) + a - 18446744073709551616 else g (w * 3 + u) + a := by
                  by_cases hx : 18446744073709551615 < g (w * 3 + u) + a
                  · rw [if_pos hx]
                    simp [IntKind.wrap, IntKind.bits, IntKind.signed]; omega
                  · rw [if_neg hx, wu64 (by omega) (by omega)]
                rw [hwr]
                by_cases hx : 18446744073709551615 < g (w * 3 + u) + a
                · rw [if_pos hx, if_pos (by omega)]
                  exact ⟨by omega, hw6, by omega, hu3, nx _ (by unfold later; rw [if_pos hx])⟩
                · rw [if_neg hx, if_neg (by omega)]
                  exact ⟨by omega, hw6, by omega, hu3, nx _ (by unfold later; rw [if_neg hx])⟩
              · rw [if_neg hu3]
                refine ⟨atL_length _, ?_⟩
                rw [w64 (by omega) (by omega)]
                have : u = 3 := by omega
                subst this
                exact ih _ _ ⟨w + 1, by rw [show (w + 1) * 3 = w * 3 + 3 by omega]; simp, by omega, rfl⟩ (by simp only; omega)
            · rw [if_neg hw6]
              have : w = 6 := by omega
              subst this
              have e : atL (fun x => if x < 6 * 3 then later a (g x) else g x) = atL (fun x => later a (g x)) := atL_congr fun x hx => by rw [if_pos (by omega)]
              rw [e]
              exact hJ8 _ _ S' h4
          rw [if_neg k7]
          cases here with
          | true =>
            have hh := of_decide_eq_true hhere.symm
            obtain ⟨vn, hvn⟩ : ∃ vn : Nat, v = (vn : Int) := ⟨v.toNat, by omega⟩
            obtain ⟨sn, hsn⟩ : ∃ sn : Nat, s = (sn : Int) := ⟨s.toNat, by omega⟩
            subst hvn; subst hsn
            refine tb_set hT (by omega) (by omega) ha.1 ha.2 fun S4 h4 => ?_
            simp only [jn]
            rw [if_neg (by decide), if_pos trivial, if_pos trivial]
            refine ⟨by omega, by omega, by omega, by omega, by omega, by omega, by omega, by omega, ?_⟩
            rw [show 0 + (vn : Int).toNat * 3 + (sn : Int).toNat * 1 = vn * 3 + sn by omega, onL_set (by omega), atL_set (by omega)]
            exact hJ8 _ _ S4 h4
          | false =>
            have hh := of_decide_eq_false hhere.symm
            refine set_no hh ?_
            simp only [jn]
            rw [if_neg (by decide), if_neg (by decide), if_neg (by decide), if_neg (by decide)]
            exact hJ8 _ _ S3 hT
end Go.Proofs.Ytpilffakhkagjaa
