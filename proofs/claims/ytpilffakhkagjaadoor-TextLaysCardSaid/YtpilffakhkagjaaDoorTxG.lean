/- TextShows: the law's walk. -/
import Derived.Test.YtpilffakhkagjaaDoorTxF
namespace Go.Tx
open Go Go.Lib
/-- An instruction that may be, near to another one. -/
def nK (k : Int) : Int := k % 23
def nA (k a : Int) : Int := if fA (cls (nK k)) = true then a % 16 else 0
def nB (k b : Int) : Int := if fB (cls (nK k)) = true then b % 16 else 0
def nC (k c : Int) : Int := if fC (cls (nK k)) = true then c % 16 else 0
def nN (k n : Int) : Int := if nK k = 18 ∨ nK k = 19 then n % 65536 % 9 else if fN (cls (nK k)) = true then n else 0
theorem near_bd {k a b c n : Int} (h : Bd k a b c n) : Bd (nK k) (nA k a) (nB k b) (nC k c) (nN k n) := by
  have h1 := h.kk
  have h2 := h.aa
  have h3 := h.bb
  have h4 := h.cc
  have h5 := h.nn
  refine ⟨?_, ?_, ?_, ?_, ?_⟩
  · unfold nK; omega
  · unfold nA; split <;> omega
  · unfold nB; split <;> omega
  · unfold nC; split <;> omega
  · unfold nN; split
    · omega
    · split <;> omega
theorem near_rt {k a b c n : Int} (h : Bd k a b c n) : Rt (nK k) (nA k a) (nB k b) (nC k c) (nN k n) := by
  have h1 := h.kk
  refine ⟨by unfold nK; omega, ?_, ?_, ?_, ?_, ?_⟩
  · unfold nA regR; split
    · rename_i hf; exact .inr ⟨hf, by omega⟩
    · exact .inl rfl
  · unfold nB regR; split
    · rename_i hf; exact .inr ⟨hf, by omega⟩
    · exact .inl rfl
  · unfold nC regR; split
    · rename_i hf; exact .inr ⟨hf, by omega⟩
    · exact .inl rfl
  · unfold nN; split
    · rename_i hk
      refine .inl ?_
      have : cls (nK k) = 1 := by unfold cls; rw [if_neg (by omega), if_pos (by omega)]
      rw [this]; rfl
    · split
      · rename_i hf; exact .inl hf
      · exact .inr rfl
  · intro hk
    unfold nN
    rw [if_pos hk]
    omega
end Go.Tx
namespace Go.Proofs.YtpilffakhkagjaaDoor
open Go Go.Pt Go.RowKit Go.Lib Go.Tx
section
variable {S : Mem}
theorem near_spec {k a b c n : Int} (hb : Bd k a b c n) {Q : List Value → Mem → Prop} (hQ : ∀ S', Keeps S S' [] → Q (opL (nK k) (nA k a) (nB k b) (nC k c) (nN k n)) S') : hermitcrablaw03_near S (opL k a b c n) Q := by
  have h1 := hb.kk
  have h2 := hb.aa
  have h3 := hb.bb
  have h4 := hb.cc
  have h5 := hb.nn
  apply t_hermitcrablaw03_near
  unfold b_hermitcrablaw03_near
  refine ⟨rfl, ?_⟩
  rw [gI_i (show nthL (opL k a b c n) 0 = some (.int .u8 k) from rfl), tm h1.1]
  have e0 : spl (opL k a b c n) 0 [.int .u8 (k % 23)] = opL (k % 23) a b c n := rfl
  rw [e0, gI_i (show nthL (opL (k % 23) a b c n) 0 = some (.int .u8 (k % 23)) from rfl)]
  refine refFields_spec (by omega) (by omega) fun S' hk => ?_
  have hq := hQ S' hk
  rw [gI_i (show nthL (opL (k % 23) a b c n) 1 = some (.int .u8 a) from rfl), tm h2.1]
  obtain ⟨m, hm⟩ : ∃ m, cls (k % 23) = m := ⟨_, rfl⟩
  have hm4 := cls_le (k % 23)
  have mk : ∀ (f : Bool) (x y : Int), 0 ≤ x → (IntKind.u8.wrap y = if f = true then 1 else 0) → IntKind.u8.wrap (x % 16 * IntKind.u8.wrap y) = if f = true then x % 16 else 0 := fun f x y hx hy => by
    rw [hy]
    cases f with
    | true => simp only [if_true, Int.mul_one]; exact wu8 (by omega) (by omega)
    | false => simp only [Bool.false_eq_true, if_false, Int.mul_zero]; decide
  have ea : IntKind.u8.wrap (Int.tmod (rf (cls (k % 23))) 2) = if fA (cls (k % 23)) = true then 1 else 0 := by
    rw [hm]; rw [hm] at hm4
    rcases m with _ | _ | _ | _ | _ | m <;> first | decide | omega
  have eb : IntKind.u8.wrap (Int.tmod (IntKind.i64.wrap (Int.tdiv (rf (cls (k % 23))) 2)) 2) = if fB (cls (k % 23)) = true then 1 else 0 := by
    rw [hm]; rw [hm] at hm4
    rcases m with _ | _ | _ | _ | _ | m <;> first | decide | omega
  have ec : IntKind.u8.wrap (Int.tmod (IntKind.i64.wrap (Int.tdiv (rf (cls (k % 23))) 4)) 2) = if fC (cls (k % 23)) = true then 1 else 0 := by
    rw [hm]; rw [hm] at hm4
    rcases m with _ | _ | _ | _ | _ | m <;> first | decide | omega
  have en : (IntKind.i64.wrap (Int.tdiv (rf (cls (k % 23))) 8) = 0) ↔ ¬ fN (cls (k % 23)) = true := by
    rw [hm]; rw [hm] at hm4
    rcases m with _ | _ | _ | _ | _ | m <;> first | decide | omega
  rw [mk _ a _ h2.1 ea]
  have e1 : spl (opL (k % 23) a b c n) 1 [.int .u8 (if fA (cls (k % 23)) = true then a % 16 else 0)] = opL (nK k) (nA k a) b c n := rfl
  rw [e1, gI_i (show nthL (opL (nK k) (nA k a) b c n) 2 = some (.int .u8 b) from rfl), tm h3.1, mk _ b _ h3.1 eb]
  have e2 : spl (opL (nK k) (nA k a) b c n) 2 [.int .u8 (if fB (cls (k % 23)) = true then b % 16 else 0)] = opL (nK k) (nA k a) (nB k b) c n := rfl
  rw [e2, gI_i (show nthL (opL (nK k) (nA k a) (nB k b) c n) 3 = some (.int .u8 c) from rfl), tm h4.1, mk _ c _ h4.1 ec]
  have e3 : spl (opL (nK k) (nA k a) (nB k b) c n) 3 [.int .u8 (if fC (cls (k % 23)) = true then c % 16 else 0)] = opL (nK k) (nA k a) (nB k b) (nC k c) n := rfl
  rw [e3]
  refine jn_cut (fun j => j (opL (nK k) (nA k a) (nB k b) (nC k c) (if fN (cls (k % 23)) = true then n else 0)) S') ?_ fun Jx hJ => ?_
  rotate_left
  · have e4 : spl (opL (nK k) (nA k a) (nB k b) (nC k c) n) 4 [.int .i16 0] = opL (nK k) (nA k a) (nB k b) (nC k c) 0 := rfl
    rw [e4]
    by_cases hf : fN (cls (k % 23)) = true
    · rw [if_neg (fun h => en.1 h hf)]; rw [if_pos hf] at hJ; exact hJ
    · rw [if_pos (en.2 hf)]; rw [if_neg hf] at hJ; exact hJ
  refine ⟨rfl, ?_⟩
  have g0 : nthL (opL (nK k) (nA k a) (nB k b) (nC k c) (if fN (cls (k % 23)) = true then n else 0)) 0 = some (.int .u8 (nK k)) := rfl
  have g4 : nthL (opL (nK k) (nA k a) (nB k b) (nC k c) (if fN (cls (k % 23)) = true then n else 0)) 4 = some (.int .i16 (if fN (cls (k % 23)) = true then n else 0)) := rfl
  have hrw : nK k = 18 ∨ nK k = 19 → IntKind.i16.wrap (Int.tmod (IntKind.u16.wrap (if fN (cls (k % 23)) = true then n else 0)) 9) = nN k n := fun hk => by
    have : cls (k % 23) = 1 := by unfold nK at hk; unfold cls; rw [if_neg (by omega), if_pos (by omega)]
    rw [this]
    simp only [fN, if_true]
    have w : IntKind.u16.wrap n = n % 65536 := by simp [IntKind.wrap, IntKind.bits, IntKind.signed]
    rw [w, tm (by omega), wrap_in (k := .i16) (by simp only [inK]; omega)]
    unfold nN; rw [if_pos hk]
  rw [gI_i g0]
  by_cases h18 : nK k = 18
  · rw [if_pos h18, gI_i g4, hrw (.inl h18)]
    exact ⟨rfl, hq⟩
  rw [if_neg h18, gI_i g0]
  by_cases h19 : nK k = 19
  · rw [if_pos h19, gI_i g4, hrw (.inr h19)]
    exact ⟨rfl, hq⟩
  rw [if_neg h19]
  refine ⟨rfl, ?_⟩
  have : nN k n = if fN (cls (k % 23)) = true then n else 0 := by unfold nN; rw [if_neg (by omega)]; rfl
  rw [this] at hq
  exact hq
theorem refRight_spec {k a b c n : Int} (hb : Bd k a b c n) {Q : Bool → Mem → Prop} (hQ : ∀ S', Keeps S S' [] → Q (decide (Rt k a b c n)) S') : hermitcrabref01_Right S k a b c n Q := by
  have h1 := hb.kk
  have h2 := hb.aa
  have h3 := hb.bb
  have h4 := hb.cc
  have h5 := hb.nn
  apply t_hermitcrabref01_Right
  unfold b_hermitcrabref01_Right
  refine jn_cut (fun j => k < 23 → j S) ?_ fun j hj => ?_
  rotate_left
  · by_cases hk : 23 ≤ k
    · rw [if_pos hk]
      have := hQ S Keeps.refl
      rw [decide_eq_false (fun h : Rt k a b c n => by have := h.kk; omega)] at this
      exact this
    · rw [if_neg hk]; exact hj (by omega)
  intro hk
  refine refFields_spec h1.1 hk fun S' hk' => ?_
  have hq := hQ S' hk'
  have no : ¬ Rt k a b c n → Q false S' := fun h => by rw [decide_eq_false h] at hq; exact hq
  have r1 : ∀ {f : Bool} {r : Int}, ¬ (r < 16) → 0 ≤ r → ¬ regR f r := fun h h0 hr => by unfold regR at hr; omega
  refine jn_cut (fun j => regR (fA (cls k)) a → regR (fB (cls k)) b → regR (fC (cls k)) c → (fN (cls k) = true ∨ n = 0) → j S') ?_ fun j hj => ?_
  · intro ha hb' hc hn
    have fin : ∀ (p : Prop) [Decidable p], (p ↔ (k = 18 ∨ k = 19 → 0 ≤ n ∧ n < 9)) → Q (decide p) S' := fun p _ hp => by
      have : decide p = decide (Rt k a b c n) := decide_eq_decide.2 ⟨fun h => ⟨hk, ha, hb', hc, hn, hp.1 h⟩, fun h => hp.2 h.rw⟩
      rw [this]; exact hq
    by_cases h18 : k = 18
    · rw [if_neg (by omega)]
      by_cases h0 : 0 ≤ n
      · rw [if_pos h0]; exact fin _ ⟨fun h _ => ⟨h0, h⟩, fun h => (h (.inl h18)).2⟩
      · rw [if_neg h0]; exact no fun h => h0 (h.rw (.inl h18)).1
    rw [if_pos h18]
    by_cases h19 : k = 19
    · rw [if_neg (by omega)]
      by_cases h0 : 0 ≤ n
      · rw [if_pos h0]; exact fin _ ⟨fun h _ => ⟨h0, h⟩, fun h => (h (.inr h19)).2⟩
      · rw [if_neg h0]; exact no fun h => h0 (h.rw (.inr h19)).1
    rw [if_pos h19]
    have := fin True ⟨fun _ h => by omega, fun _ => trivial⟩
    simpa using this
  · by_cases c1 : 15 < a
    · rw [if_pos c1]; exact no fun h => r1 (by omega) h2.1 h.aa
    rw [if_neg c1]
    by_cases c2 : 15 < b
    · rw [if_pos c2]; exact no fun h => r1 (by omega) h3.1 h.bb
    rw [if_neg c2]
    by_cases c3 : 15 < c
    · rw [if_pos c3]; exact no fun h => r1 (by omega) h4.1 h.cc
    rw [if_neg c3]
    have hm4 := cls_le k
    have nof : ∀ {r : Int}, 0 < r → ¬ regR false r := fun h hr => by unfold regR at hr; simp at hr; omega
    have yes : ∀ {r : Int}, ¬ 15 < r → regR true r := fun h => .inr ⟨rfl, by omega⟩
    have zer : ∀ {f : Bool} {r : Int}, ¬ 0 < r → 0 ≤ r → regR f r := fun h h0 => .inl (by omega)
    have noa : fA (cls k) = false → 0 < a → Q false S' := fun hf ha => no fun h => by have := h.aa; rw [hf] at this; exact nof ha this
    have nob : fB (cls k) = false → 0 < b → Q false S' := fun hf ha => no fun h => by have := h.bb; rw [hf] at this; exact nof ha this
    have noc : fC (cls k) = false → 0 < c → Q false S' := fun hf ha => no fun h => by have := h.cc; rw [hf] at this; exact nof ha this
    have non : fN (cls k) = false → n ≠ 0 → Q false S' := fun hf ha => no fun h => by rcases h.nn with h | h; (· rw [hf] at h; cases h); exact ha h
    rcases hm : cls k with _ | _ | _ | _ | _ | m
    · rw [hm] at hj noa nob noc non
      simp only [rf]
      rw [if_pos (by decide)]
      by_cases d1 : 0 < a
      · rw [if_pos d1]; exact noa rfl d1
      rw [if_neg d1, if_pos (by decide)]
      by_cases d2 : 0 < b
      · rw [if_pos d2]; exact nob rfl d2
      rw [if_neg d2, if_pos (by decide)]
      by_cases d3 : 0 < c
      · rw [if_pos d3]; exact noc rfl d3
      rw [if_neg d3, if_pos (by decide)]
      by_cases d4 : n = 0
      · rw [if_neg (by simpa using d4)]; exact hj (zer d1 h2.1) (zer d2 h3.1) (zer d3 h4.1) (.inr d4)
      · rw [if_pos d4]; exact non rfl d4
    · rw [hm] at hj noa nob noc non
      simp only [rf]
      rw [if_neg (by decide), if_pos (by decide)]
      by_cases d2 : 0 < b
      · rw [if_pos d2]; exact nob rfl d2
      rw [if_neg d2, if_pos (by decide)]
      by_cases d3 : 0 < c
      · rw [if_pos d3]; exact noc rfl d3
      rw [if_neg d3, if_neg (by decide)]
      exact hj (yes c1) (zer d2 h3.1) (zer d3 h4.1) (.inl rfl)
    · rw [hm] at hj noa nob noc non
      simp only [rf]
      rw [if_pos (by decide)]
      by_cases d1 : 0 < a
      · rw [if_pos d1]; exact noa rfl d1
      rw [if_neg d1, if_pos (by decide)]
      by_cases d2 : 0 < b
      · rw [if_pos d2]; exact nob rfl d2
      rw [if_neg d2, if_pos (by decide)]
      by_cases d3 : 0 < c
      · rw [if_pos d3]; exact noc rfl d3
      rw [if_neg d3, if_neg (by decide)]
      exact hj (zer d1 h2.1) (zer d2 h3.1) (zer d3 h4.1) (.inl rfl)
    · rw [hm] at hj noa nob noc non
      simp only [rf]
      rw [if_neg (by decide), if_neg (by decide), if_pos (by decide)]
      by_cases d3 : 0 < c
      · rw [if_pos d3]; exact noc rfl d3
      rw [if_neg d3, if_neg (by decide)]
      exact hj (yes c1) (yes c2) (zer d3 h4.1) (.inl rfl)
    · rw [hm] at hj noa nob noc non
      simp only [rf]
      rw [if_neg (by decide), if_neg (by decide), if_neg (by decide), if_pos (by decide)]
      by_cases d4 : n = 0
      · rw [if_neg (by simpa using d4)]; exact hj (yes c1) (yes c2) (yes c3) (.inr d4)
      · rw [if_pos d4]; exact non rfl d4
    · omega
theorem op_fits {k a b c n : Int} (h : Bd k a b c n) : fits [.i .u8, .i .u8, .i .u8, .i .u8, .i .i16] (opL k a b c n) = true := by
  have h1 := h.kk
  have h2 := h.aa
  have h3 := h.bb
  have h4 := h.cc
  have h5 := h.nn
  simp [fits, opL, fit1, h1, h2, h3, h4, h5]
theorem textShows_law {k a b c n : Int} (hg : Gl S) (hb : Bd k a b c n) : hermitcrablaw03_TextShows S (opL k a b c n) (fun r S' => r = true ∧ Keeps S S' []) := by
  apply t_hermitcrablaw03_TextShows
  unfold b_hermitcrablaw03_TextShows
  refine ⟨rfl, ?_⟩
  refine jn_cut (fun j => ∀ S', Keeps S S' [] → j S') ?_ fun j hj => ?_
  rotate_left
  · rw [gI_i (show nthL (opL k a b c n) 0 = some (.int .u8 k) from rfl), gI_i (show nthL (opL k a b c n) 1 = some (.int .u8 a) from rfl), gI_i (show nthL (opL k a b c n) 2 = some (.int .u8 b) from rfl), gI_i (show nthL (opL k a b c n) 3 = some (.int .u8 c) from rfl), gI_i (show nthL (opL k a b c n) 4 = some (.int .i16 n) from rfl)]
    refine refRight_spec hb fun S1 hk1 => ?_
    by_cases hr : Rt k a b c n
    · rw [decide_eq_true hr, if_pos rfl]; exact hj S1 hk1
    · rw [decide_eq_false hr, if_neg (by decide)]
      refine show_spec (hg.keep hk1 (by simp) (by simp) (by simp)) hb ?_
      rw [if_neg hr, if_neg (fun h => h rfl)]
      exact hj S1 hk1
  intro S1 hk1
  have hb' := near_bd hb
  have hr' := near_rt hb
  refine near_spec hb fun S2 hk2 => ⟨rfl, ?_⟩
  have k2 := hk1.trans hk2
  have hg2 := hg.keep k2 (by simp) (by simp) (by simp)
  refine show_spec hg2 hb' ?_
  rw [if_pos hr']
  refine read_spec hg2 hb' hr' fun S3 hk3 => ⟨rfl, ?_⟩
  have hg3 := hg2.keep hk3 (by simp) (by simp) (by simp)
  refine awake_spec hg3 fun S4 hk4 => ?_
  rw [if_pos rfl]
  generalize nK k = k' at *
  generalize nA k a = a' at *
  generalize nB k b = b' at *
  generalize nC k c = c' at *
  generalize nN k n = n' at *
  rw [gI_i (show nthL (opL k' a' b' c' n') 0 = some (.int .u8 k') from rfl), gI_i (show nthL (opL k' a' b' c' n') 1 = some (.int .u8 a') from rfl), gI_i (show nthL (opL k' a' b' c' n') 2 = some (.int .u8 b') from rfl), gI_i (show nthL (opL k' a' b' c' n') 3 = some (.int .u8 c') from rfl), gI_i (show nthL (opL k' a' b' c' n') 4 = some (.int .i16 n') from rfl)]
  refine refText_spec hb' hr'.kk fun S5 hk5 => ?_
  rw [if_pos rfl, if_pos rfl]
  exact ⟨op_fits hb', op_fits hb', (eqL_iff (op_fits hb') (op_fits hb')).2 rfl, ((k2.trans hk3).trans hk4).trans hk5⟩
end
end Go.Proofs.YtpilffakhkagjaaDoor
