/- guest.Copy. -/
import Derived.Test.YtpilffakhkagjaaGuG
namespace Go.Proofs.Ytpilffakhkagjaa
open Go Go.Pt
/-- What Copy leaves: the same VM, in blocks of its own. -/
structure CopyOk (S S' : Mem) (a : Va) (x : Vs) : Prop where
  is_ : VmIs S' a x
  keep : Keeps S S' []
  fresh : ∀ b ∈ x.blks, S b = none
  nodup : x.blks.Nodup
theorem gL_r {c : Option Value} {n : Sl} {K : Sl → Prop} (h : c = some (eL n)) (hk : K n) : gL c K := ⟨n, h, hk⟩
theorem ob_nodup (s : Sl) : (ob s).Nodup := by
  unfold ob
  cases s.p with
  | none => exact List.nodup_nil
  | some bo => obtain ⟨b, o⟩ := bo; simp
theorem nodup_app {a b : List Nat} (h1 : a.Nodup) (h2 : b.Nodup) (h3 : ∀ x ∈ b, x ∉ a) : (a ++ b).Nodup :=
  List.nodup_append.2 ⟨h1, h2, fun x hx y hy e => by subst e; exact h3 x hy hx⟩
theorem bytesClone_spec {S : Mem} {s : Sl} {l : List Value} (h : Row S 1 s l) (hone : l.all (·.oneCell') = true) (hl : l.length ≤ 100000) {Q : Sl → Mem → Prop} (hQ : ∀ s' S', s'.n = s.n → Copied S S' 1 s' l → Q s' S') : bytes_Clone S s Q :=
  t_bytes_Clone (clone_gen h hone rfl (by have := h.len; omega) hQ)
theorem seatsClone_spec {S : Mem} {s : Sl} {l : List Value} (h : Row S 26 s l) (hone : l.all (·.oneCell') = true) (hl : l.length ≤ 26000) {Q : Sl → Mem → Prop} (hQ : ∀ s' S', s'.n = s.n → Copied S S' 26 s' l → Q s' S') : slices_Clone_api_Seat_api_Seat S s Q :=
  t_slices_Clone_api_Seat_api_Seat (clone_gen h hone z72_len (by have := h.len; omega) hQ)
set_option maxRecDepth 20000 in
theorem copy_spec {S : Mem} {a : Va} {x : Vs} (h : VmIs S a x) (ok : VaOk a) {Q : List Value → Mem → Prop} (hQ : ∀ x' S', CopyOk S S' a x' → Q (vc a x') S') : guest_Copy S (vc a x) Q := by
  apply t_guest_Copy
  unfold b_guest_Copy
  refine ⟨rfl, ?_⟩
  rw [gL_i (show nthL (vc a x) 1 = some (eL x.ss) from rfl), gL_i (show nthL (vc a x) 6 = some (eL x.ks) from rfl)]
  refine seatsClone_spec h.ss ok.one (by rw [flt_len ok.w]; have := ok.small; omega) fun s1 S1 _ c1 => ?_
  have h1 := h.keep c1.keep (by simp)
  refine bytesClone_spec h1.ks (bL_one _) (by have := ok.keys.len; simpa [bL] using this) fun s2 S2 _ c2 => ?_
  have h2 := h1.keep c2.keep (by simp)
  rw [gL_i (n := ⟨none, 0, 0⟩) (show nthL (spl (spl (vc a x) 1 [eL s1]) 6 [eL s2]) 3 = some (.slice none 0 0) from rfl)]
  apply t_slices_Clone_int_int
  unfold b_slices_Clone_int_int
  rw [if_pos rfl]
  simp only [jn]
  have w1 : IntKind.i64.wrap ((0 : Int) + 1) = 1 := by decide
  have w2 : IntKind.i64.wrap ((1 : Int) + 1) = 2 := by decide
  have w3 : IntKind.i64.wrap ((2 : Int) + 1) = 3 := by decide
  have w4 : IntKind.i64.wrap ((3 : Int) + 1) = 4 := by decide
  intro X hX
  refine hX _ _ ?_
  dsimp only
  refine ⟨rfl, ?_⟩
  rw [if_pos (by decide)]
  refine ⟨by decide, by decide, ?_⟩
  refine gL_r (n := x.e0) rfl ?_
  refine bytesClone_spec h2.e0 (bL_one _) (by have := ok.d0.len; simpa [bL] using this) fun s3 S3 _ c3 => ⟨by decide, by decide, ?_⟩
  have h3 := h2.keep c3.keep (by simp)
  rw [w1]
  refine hX _ _ ?_
  dsimp only
  refine ⟨rfl, ?_⟩
  rw [if_pos (by decide)]
  refine ⟨by decide, by decide, ?_⟩
  refine gL_r (n := x.e1) rfl ?_
  refine bytesClone_spec h3.e1 (bL_one _) (by have := ok.d1.len; simpa [bL] using this) fun s4 S4 _ c4 => ⟨by decide, by decide, ?_⟩
  have h4 := h3.keep c4.keep (by simp)
  rw [w2]
  refine hX _ _ ?_
  dsimp only
  refine ⟨rfl, ?_⟩
  rw [if_pos (by decide)]
  refine ⟨by decide, by decide, ?_⟩
  refine gL_r (n := x.e2) rfl ?_
  refine bytesClone_spec h4.e2 (bL_one _) (by have := ok.d2.len; simpa [bL] using this) fun s5 S5 _ c5 => ⟨by decide, by decide, ?_⟩
  have h5 := h4.keep c5.keep (by simp)
  rw [w3]
  refine hX _ _ ?_
  dsimp only
  refine ⟨rfl, ?_⟩
  rw [if_pos (by decide)]
  refine ⟨by decide, by decide, ?_⟩
  refine gL_r (n := x.e3) rfl ?_
  refine bytesClone_spec h5.e3 (bL_one _) (by have := ok.d3.len; simpa [bL] using this) fun s6 S6 _ c6 => ⟨by decide, by decide, ?_⟩
  rw [w4]
  refine hX _ _ ?_
  dsimp only
  refine ⟨rfl, ?_⟩
  rw [if_neg (by decide)]
  refine ⟨rfl, rfl, ?_⟩
  have k2 : Keeps S S2 [] := c1.keep.trans c2.keep
  have k3 := k2.trans c3.keep
  have k4 := k3.trans c4.keep
  have k5 := k4.trans c5.keep
  have held : ∀ {size : Nat} {s : Sl} {l : List Value} {T : Mem}, Row T size s l → ∀ b ∈ ob s, T b ≠ none := fun hr b hb => by
    obtain ⟨_, k, hk⟩ := row_blk hr hb; rw [hk]; simp
  have r1 := ((((c1.row.kept c2.keep (by simp)).kept c3.keep (by simp)).kept c4.keep (by simp)).kept c5.keep (by simp))
  have r2 := (((c2.row.kept c3.keep (by simp)).kept c4.keep (by simp)).kept c5.keep (by simp))
  have r3 := ((c3.row.kept c4.keep (by simp)).kept c5.keep (by simp))
  have r4 := (c4.row.kept c5.keep (by simp))
  refine hQ ⟨s1, s2, s3, s4, s5, s6⟩ S6 ⟨⟨r1.kept c6.keep (by simp), r2.kept c6.keep (by simp), r3.kept c6.keep (by simp), r4.kept c6.keep (by simp), c5.row.kept c6.keep (by simp), c6.row⟩, k5.trans c6.keep, ?_, ?_⟩
  · intro b hb
    simp only [Vs.blks, List.mem_append] at hb
    rcases hb with hb | hb | hb | hb | hb | hb
    · exact c1.fresh b hb
    · exact fresh_of c1.keep (c2.fresh b hb)
    · exact fresh_of k2 (c3.fresh b hb)
    · exact fresh_of k3 (c4.fresh b hb)
    · exact fresh_of k4 (c5.fresh b hb)
    · exact fresh_of k5 (c6.fresh b hb)
  · have n6 : ∀ {size : Nat} {s : Sl} {l : List Value}, Row S5 size s l → ∀ b ∈ ob s6, b ∉ ob s := fun hr b hb hm => held hr b hm (c6.fresh b hb)
    have n5 : ∀ {size : Nat} {s : Sl} {l : List Value}, Row S4 size s l → ∀ b ∈ ob s5, b ∉ ob s := fun hr b hb hm => held hr b hm (c5.fresh b hb)
    have n4 : ∀ {size : Nat} {s : Sl} {l : List Value}, Row S3 size s l → ∀ b ∈ ob s4, b ∉ ob s := fun hr b hb hm => held hr b hm (c4.fresh b hb)
    have n3 : ∀ {size : Nat} {s : Sl} {l : List Value}, Row S2 size s l → ∀ b ∈ ob s3, b ∉ ob s := fun hr b hb hm => held hr b hm (c3.fresh b hb)
    have n2 : ∀ b ∈ ob s2, b ∉ ob s1 := fun b hb hm => held c1.row b hm (c2.fresh b hb)
    have q12 := c1.row.kept c2.keep (by simp)
    have q13 := q12.kept c3.keep (by simp)
    have q14 := q13.kept c4.keep (by simp)
    have q23 := c2.row.kept c3.keep (by simp)
    have q24 := q23.kept c4.keep (by simp)
    have q34 := c3.row.kept c4.keep (by simp)
    simp only [Vs.blks]
    refine nodup_app (ob_nodup _) (nodup_app (ob_nodup _) (nodup_app (ob_nodup _) (nodup_app (ob_nodup _) (nodup_app (ob_nodup _) (ob_nodup _) ?_) ?_) ?_) ?_) ?_
    · exact n6 c5.row
    · intro b hb
      rcases List.mem_append.1 hb with hb | hb
      · exact n5 c4.row b hb
      · exact n6 r4 b hb
    · intro b hb
      simp only [List.mem_append] at hb
      rcases hb with hb | hb | hb
      · exact n4 c3.row b hb
      · exact n5 q34 b hb
      · exact n6 r3 b hb
    · intro b hb
      simp only [List.mem_append] at hb
      rcases hb with hb | hb | hb | hb
      · exact n3 c2.row b hb
      · exact n4 q23 b hb
      · exact n5 q24 b hb
      · exact n6 r2 b hb
    · intro b hb
      simp only [List.mem_append] at hb
      rcases hb with hb | hb | hb | hb | hb
      · exact n2 b hb
      · exact n3 q12 b hb
      · exact n4 q13 b hb
      · exact n5 q14 b hb
      · exact n6 r1 b hb
end Go.Proofs.Ytpilffakhkagjaa
