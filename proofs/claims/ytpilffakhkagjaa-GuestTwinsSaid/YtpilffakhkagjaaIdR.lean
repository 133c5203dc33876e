/- guest.Make, ideal.Create, as long as nothing is lent and no alarm is set. -/
import Derived.Test.YtpilffakhkagjaaIdQ
namespace Go.Proofs.Ytpilffakhkagjaa
open Go Go.Pt
section
variable {S : Mem}
theorem blank_spec {Q : List Value → Mem → Prop} (hQ : ∀ v S', v.length = 4 → v.all (·.oneCell') = true → Keeps S S' [] → Q v S') : guest_Blank S Q := by
  apply t_guest_Blank
  unfold b_guest_Blank
  simp only [jn]
  refine lp_rule (fun (z : Int × List Value) S' => z.2.length = 4 ∧ z.2.all (·.oneCell') = true ∧ Keeps S S' [] ∧ 0 ≤ z.1 ∧ z.1 ≤ 4) (fun z => (4 - z.1).toNat) ?_ ⟨rfl, rfl, Keeps.refl, by decide, by decide⟩
  rintro X ⟨i, v⟩ S' ⟨h1, h2, h3, h4, h5⟩ ih
  dsimp only at h1 h2 h4 h5 ih ⊢
  refine ⟨h1, ?_⟩
  by_cases hlt : i < 4
  · rw [if_pos hlt]
    intro b hb
    refine ⟨h4, hlt, ih _ _ ⟨?_, ?_, h3.new hb, ?_, ?_⟩ ?_⟩
    · exact spl_ln h1 (by simp only [List.length_cons, List.length_nil]; omega)
    · exact all_spl (by simp only [List.length_cons, List.length_nil]; omega) h2 rfl
    · simp only; rw [w64 (by omega) (by omega)]; omega
    · simp only; rw [w64 (by omega) (by omega)]; omega
    · rw [w64 (by omega) (by omega)]; omega
  · rw [if_neg hlt]
    exact ⟨h1, h2, hQ v S' h1 h2 h3⟩
theorem seatNew_spec {Q : List Value → Mem → Prop} (hQ : Q z72 S) : seat_New S Q := t_seat_New (show b_seat_New S Q from hQ)
/-- guest.VM as Make leaves it. -/
structure VmOk (v : List Value) (quota : Int) : Prop where
  len : v.length = 12
  one : v.all (·.oneCell') = true
  on : nthL v 0 = some (.bool true)
  quota : nthL v 4 = some (.int .i64 quota)
  bells : nthL v 11 = some (.int .u32 0)
set_option maxRecDepth 20000 in
theorem make_spec {seats quota : Int} (h1 : 1 ≤ seats) (h2 : seats ≤ 3) (h3 : 1 ≤ quota) (h4 : quota ≤ 32) {Q : List Value → Int → Mem → Prop} (hQ : ∀ v S', VmOk v quota → Keeps S S' [] → Q v 0 S') : guest_Make S seats quota Q := by
  apply t_guest_Make
  unfold b_guest_Make
  simp only [jn]
  rw [if_neg (by omega), if_neg (by omega), if_neg (by omega), if_neg (by omega)]
  refine ⟨rfl, blank_spec fun d S1 d1 d2 hk1 => ?_⟩
  have hone : ∀ x, (spl (spl (spl ([.bool false, .slice (none) 0 0, .int .i64 0, .slice (none) 0 0, .int .i64 0, .int .u64 0, .slice (none) 0 0, .slice (none) 0 0, .slice (none) 0 0, .slice (none) 0 0, .slice (none) 0 0, .int .u32 0]) 0 [.bool true]) 4 [.int .i64 quota]) 7 d) = x →
      VmOk x quota ∧ nthL x 1 = some (.slice none 0 0) := by
    rintro x rfl
    have e : ∀ a b c e, spl (spl (spl ([.bool false, .slice (none) 0 0, .int .i64 0, .slice (none) 0 0, .int .i64 0, .int .u64 0, .slice (none) 0 0, .slice (none) 0 0, .slice (none) 0 0, .slice (none) 0 0, .slice (none) 0 0, .int .u32 0]) 0 [.bool true]) 4 [.int .i64 quota]) 7 [a, b, c, e] =
      [.bool true, .slice (none) 0 0, .int .i64 0, .slice (none) 0 0, .int .i64 quota, .int .u64 0, .slice (none) 0 0, a, b, c, e, .int .u32 0] := fun _ _ _ _ => rfl
    match d, d1, d2 with
    | [a, b, c, g], _, d2 =>
      rw [e]
      simp only [List.all_cons, List.all_nil, Bool.and_true, Bool.and_eq_true] at d2
      exact ⟨⟨rfl, by simp only [List.all_cons, List.all_nil, Bool.and_true, Bool.and_eq_true]; exact ⟨rfl, rfl, rfl, rfl, rfl, rfl, rfl, d2.1, d2.2.1, d2.2.2.1, d2.2.2.2, rfl⟩, rfl, rfl, rfl⟩, rfl⟩
  generalize hx : (spl (spl (spl ([.bool false, .slice (none) 0 0, .int .i64 0, .slice (none) 0 0, .int .i64 0, .int .u64 0, .slice (none) 0 0, .slice (none) 0 0, .slice (none) 0 0, .slice (none) 0 0, .slice (none) 0 0, .int .u32 0]) 0 [.bool true]) 4 [.int .i64 quota]) 7 d) = x
  obtain ⟨hv, hv1⟩ := hone x hx
  clear hone hx
  refine ⟨hv.one, ?_⟩
  refine lp_rule (fun (z : Int × List Value) S' => VmOk z.2 quota ∧ Keeps S S' [] ∧ ∃ (n : Nat) (s : Sl) (l : List Value), z.1 = n ∧ (n : Int) ≤ seats ∧ nthL z.2 1 = some (eL s) ∧ s.n = n ∧ Row S' 26 s l ∧ ∀ b, s.p = some (b, 0) → S b = none) (fun z => (seats - z.1).toNat) ?_ ⟨hv, hk1, 0, ⟨none, 0, 0⟩, [], rfl, by omega, hv1, rfl, Row.nil, fun _ h => by cases h⟩
  rintro X ⟨i, v⟩ S2 ⟨g1, g2, n, s, l, g3, g4, g5, g6, g7, g8⟩ ih
  dsimp only at g1 g3 g5 ih ⊢
  subst g3
  refine ⟨g1.len, ?_⟩
  by_cases hlt : (n : Int) < seats
  · rw [if_pos hlt, gL_i g5]
    refine seatNew_spec ⟨rfl, ?_⟩
    have upd : ∀ s' : Sl, VmOk (spl v 1 [eL s']) quota ∧ nthL (spl v 1 [eL s']) 1 = some (eL s') := fun s' => by
      have hl : 1 + [eL s'].length ≤ v.length := by rw [g1.len]; simp
      refine ⟨⟨spl_ln g1.len (by simp), all_spl hl g1.one rfl, ?_, ?_, ?_⟩, ?_⟩
      · rw [nthL_spl hl, if_neg (by omega)]; exact g1.on
      · rw [nthL_spl hl, if_neg (by simp)]; exact g1.quota
      · rw [nthL_spl hl, if_neg (by simp)]; exact g1.bells
      · rw [nthL_spl hl, if_pos (by simp)]; rfl
    have hz : z72.length = 1 * 26 := by kernel_rfl
    refine ap_row g7 hz (by decide) hz (by omega) fun s' S3 b k e1 e2 e3 e4 e5 => ?_
    have hb : S b = none := by
      rcases e3 with e3 | e3
      · exact g8 b e3
      · cases hS : S b with
        | none => rfl
        | some q => have := g2.get hS (by simp); rw [e3] at this; cases this
    refine ih _ _ ⟨(upd s').1, by rw [e4]; exact g2.fresh hb, n + 1, s', l ++ z72, by simp only; rw [w64 (by omega) (by omega)]; omega, by omega, (upd s').2, by omega, e5, fun c hc => by rw [e2] at hc; cases hc; exact hb⟩ (by rw [w64 (by omega) (by omega)]; omega)
  · rw [if_neg hlt]
    exact ⟨g1.len, g1.one, hQ v S2 g1 g2⟩
end
end Go.Proofs.Ytpilffakhkagjaa
