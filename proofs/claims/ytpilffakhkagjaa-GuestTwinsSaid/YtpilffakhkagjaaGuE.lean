/- GuestNil. -/
import Derived.Test.YtpilffakhkagjaaGuD
namespace Go.Proofs.Ytpilffakhkagjaa
open Go Go.Pt
section
variable {S : Mem}
theorem there_nil {vm : Int} {Q : Bool → Mem → Prop} (hQ : Q false S) : guest_State_There S none vm Q := by
  apply t_guest_State_There
  unfold b_guest_State_There
  rw [if_neg (by simp)]
  exact hQ
theorem seat_nil {vm n : Int} {Q : Pt → Mem → Prop} (hQ : Q none S) : guest_State_Seat S none vm n Q := by
  apply t_guest_State_Seat
  unfold b_guest_State_Seat
  simp only [jn]
  refine there_nil ?_
  rw [if_neg (by decide)]
  exact hQ
def no18 : List Value := [.bool false, .bool false, .bool false, .bool false, .bool false, .bool false, .bool false, .bool false, .bool false, .bool false, .bool false, .bool false, .bool false, .bool false, .bool false, .bool false, .bool false, .bool false]
theorem ready_nil {Q : List Value → Mem → Prop} (hQ : Q no18 S) : guest_State_Ready S none Q := by
  apply t_guest_State_Ready
  unfold b_guest_State_Ready
  simp only [jn]
  refine lp_rule (fun (z : Int × List Value) S' => ∃ w : Nat, z = ((w : Int), no18) ∧ w ≤ 6 ∧ S' = S) (fun z => (6 - z.1).toNat) ?_ ⟨0, rfl, by omega, rfl⟩
  rintro X z S' ⟨w, rfl, hw, rfl⟩ ih
  dsimp only at ih ⊢
  refine ⟨rfl, ?_⟩
  by_cases hw6 : (w : Int) < 6
  · rw [if_pos hw6]
    refine lp_rule (fun (z : Int × List Value) S2 => ∃ u : Nat, z = ((u : Int), no18) ∧ u ≤ 3 ∧ S2 = S') (fun z => (3 - z.1).toNat) ?_ ⟨0, rfl, by omega, rfl⟩
    rintro Z z S2 ⟨u, rfl, hu, rfl⟩ ih2
    dsimp only at ih2 ⊢
    refine ⟨rfl, ?_⟩
    by_cases hu3 : (u : Int) < 3
    · rw [if_pos hu3]
      refine seat_nil ?_
      rw [if_neg (by simp), w64 (by omega) (by omega)]
      exact ih2 _ _ ⟨u + 1, by simp, by omega, rfl⟩ (by simp only; omega)
    · rw [if_neg hu3]
      refine ⟨rfl, ?_⟩
      rw [w64 (by omega) (by omega)]
      exact ih _ _ ⟨w + 1, by simp, by omega, rfl⟩ (by simp only; omega)
  · rw [if_neg hw6]
    exact ⟨rfl, rfl, hQ⟩
theorem line_zero {Q : Int → Mem → Prop} {s : List Value} (hl : s.length = 26) (h22 : nthL s 22 = some (.bool false)) (hQ : Q (-1) S) : hermitcrabref12_Line S s Q := by
  apply t_hermitcrabref12_Line
  unfold b_hermitcrabref12_Line
  refine ⟨hl, ?_⟩
  simp only [jn]
  refine lp_rule (fun (z : Int) S' => z = 0 ∧ S' = S) (fun _ => 0) ?_ ⟨rfl, rfl⟩
  rintro X z S' ⟨rfl, rfl⟩ ih
  rw [if_pos (by decide), gB_i h22, if_neg (by decide)]
  exact hQ
theorem guestNil_law {vm n : Int} {d : List Value} (hd : Draft S d) : hermitcrablaw15_GuestNil S vm n d (fun r S' => r = true ∧ Keeps S S' []) := by
  apply t_hermitcrablaw15_GuestNil
  unfold b_hermitcrablaw15_GuestNil
  refine ⟨hd.len, ?_⟩
  obtain ⟨ks, xs, hks, hby⟩ := hd.keys
  refine jn_cut (fun j => ∀ S', Keeps S S' [] → ks.n ≤ 64 → j S') ?_ fun j hj => ?_
  rotate_left
  · refine guest_awake fun S1 hk1 => ?_
    rw [if_pos rfl, gL_i hks]
    by_cases h64 : 64 < (ks.n : Int)
    · rw [if_pos h64]
      exact guest_awake fun S2 hk2 => ⟨rfl, hk1.trans hk2⟩
    · rw [if_neg h64]
      exact hj S1 hk1 (by omega)
  intro S1 hk1 h64
  refine state_spec (hd.keep hk1) (fun ks' h => by rw [hks] at h; simp only [Option.some.injEq] at h; have := eL_inj h; rw [← this]; exact h64) fun S2 b hk2 => ?_
  rw [if_pos (by simp)]
  refine there_nil ?_
  rw [if_neg (by decide)]
  refine seat_nil ?_
  rw [if_pos (by simp)]
  refine ready_nil ⟨by kernel_rfl, ?_⟩
  rw [if_pos (by kernel_rfl)]
  apply t_guest_State_Joined
  unfold b_guest_State_Joined
  refine there_nil ?_
  rw [if_neg (by decide)]
  dsimp only
  rw [if_neg (by decide)]
  apply t_guest_State_Twin
  unfold b_guest_State_Twin
  simp only [jn]
  rw [if_pos (by simp), if_pos (by simp)]
  apply t_guest_Same
  unfold b_guest_Same
  simp only [jn]
  rw [if_pos (by simp), if_pos (by simp), if_pos (by simp)]
  apply t_guest_Same
  unfold b_guest_Same
  simp only [jn]
  rw [if_pos (by simp), if_pos (by simp), if_neg (by simp)]
  apply t_guest_Same
  unfold b_guest_Same
  simp only [jn]
  rw [if_neg (by simp), if_pos (by simp), if_neg (by simp), if_neg (by decide)]
  apply t_store_New
  unfold b_store_New
  have q1 : ¬ ((0 : Int) < 0) := by decide
  have q2 : ¬ ((512 : Int) < 0) := by decide
  simp only [if_neg q1, if_neg q2]
  have e0 : IntKind.i64.wrap (256 * 0) = 0 := by decide
  rw [e0]
  refine ⟨by decide, by decide, by decide, by decide, ?_⟩
  intro b1 hb1 b2 hb2
  apply t_store_Store_Frames
  unfold b_store_Store_Frames
  rw [if_neg (by simp), nn_i, gL_i (n := ⟨some (b1, 0), 0, 0⟩) (by rw [cell_of set_same]; rfl)]
  dsimp only
  rw [if_pos (by decide)]
  refine line_zero (by kernel_rfl) rfl ?_
  exact ⟨by decide, ((hk1.trans hk2).new hb1).new hb2⟩
end
end Go.Proofs.Ytpilffakhkagjaa
