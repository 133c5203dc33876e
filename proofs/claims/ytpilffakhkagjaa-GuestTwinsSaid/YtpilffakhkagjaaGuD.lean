/- The law's state: of a draft. -/
import Derived.Test.YtpilffakhkagjaaGuC
namespace Go.Proofs.Ytpilffakhkagjaa
open Go Go.Pt
theorem jn_cut {β : Type} {J : β} {B : β → Prop} (R : β → Prop) (hJ : R J) (hB : ∀ j, R j → B j) : jn J B := hB J hJ
/-- These are a slice's bytes. -/
structure ByS (S : Mem) (l : Sl) (xs : List Int) : Prop where
  len : xs.length = l.n
  bd : ∀ x ∈ xs, 0 ≤ x ∧ x ≤ 255
  lie : (l.p = none ∧ l.n = 0 ∧ xs = []) ∨ ∃ b o, l.p = some (b, o) ∧ S.part b o l.n = some (xs.map (.int .u8))
theorem ByS.keep {S S' : Mem} {l : Sl} {xs : List Int} (h : ByS S l xs) (hk : Keeps S S' []) : ByS S' l xs :=
  ⟨h.len, h.bd, h.lie.imp id fun ⟨b, o, h1, h2⟩ => ⟨b, o, h1, by
    obtain ⟨k, h3, h4⟩ := part_e h2
    rw [part_of (hk.get h3 (by simp))]; exact h4⟩⟩
/-- A draft's cells. -/
structure Draft (S : Mem) (d : List Value) : Prop where
  len : d.length = 45
  on : ∀ i, i < 6 → ∃ v, nthL d i = some (.bool v)
  seats : ∀ i, i < 6 → ∃ v, nthL d (6 + i) = some (.int .u8 v) ∧ 0 ≤ v ∧ v ≤ 255
  keys : ∃ (ks : Sl) (xs : List Int), nthL d 12 = some (eL ks) ∧ ByS S ks xs
  bells : ∀ i, i < 6 → ∃ v, nthL d (13 + i) = some (.int .u32 v) ∧ 0 ≤ v ∧ v ≤ 4294967295
  now : ∃ v, nthL d 19 = some (.int .u64 v)
  late : ∀ i, i < 6 → ∃ v, nthL d (20 + i) = some (.int .u64 v)
  r : ∃ v, nthL d 26 = some (.int .u64 v) ∧ 0 ≤ v ∧ v ≤ 18446744073709551615
  ready : ∀ k, k < 18 → ∃ v, nthL d (27 + k) = some (.int .u8 v) ∧ 0 ≤ v ∧ v ≤ 255
theorem Draft.keep {S S' : Mem} {d : List Value} (h : Draft S d) (hk : Keeps S S' []) : Draft S' d :=
  ⟨h.len, h.on, h.seats, h.keys.imp fun _ ⟨xs, a, b⟩ => ⟨xs, a, b.keep hk⟩, h.bells, h.now, h.late, h.r, h.ready⟩
section
variable {S0 S : Mem} {b ob rb kb : Nat} {now : Int} {vms rows : List (List Value)} {le tu : List Value} {s : Sl} {l : List Al}
theorem Stt.setb (h : Stt S0 S b ob rb kb now vms rows le tu s l) (now' : Int) {vms' : List (List Value)} (hv : Vms vms') : Stt S0 (S.set b (bw 68 (stc 1 now' vms' (some (ob, 0)) (some (kb, 0)) le tu))) b ob rb kb now' vms' rows le tu s l := by
  have hk : Keeps S (S.set b (bw 68 (stc 1 now' vms' (some (ob, 0)) (some (kb, 0)) le tu))) [b] := fun x _ hw => set_ne (by simpa using hw)
  refine ⟨set_same, hv, h.le, h.tu, h.bk.keep hk (by simp [h.ne.1.symm]) (by simp [h.ne.2.1.symm]), h.ck.keep hk (by simp [h.ne.2.2.1.symm]) (fun x hx => by simp [(h.apart x hx).1]), h.ne, h.apart, h.fresh, h.freshS, fun x hx hw => ?_⟩
  rw [set_ne (fun e => by subst e; exact hx h.fresh.1), h.keep x hx hw]
theorem Stt.donated {S' : Mem} {rows' : List (List Value)} (h : Stt S0 S b ob rb kb now vms rows le tu s l) (hk : Keeps S S' [rb]) (hb : Bk S' ob rb rows') : Stt S0 S' b ob rb kb now vms rows' le tu s l :=
  ⟨hk.get h.blk (by simp [h.ne.2.1]), h.vms, h.le, h.tu, hb, h.ck.keep hk (by simp [h.ne.2.2.2.2.symm]) (fun x hx => by simp [(h.apart x hx).2.2]), h.ne, h.apart, h.fresh, h.freshS, fun x hx hw => by
    have e := h.keep x hx hw
    rw [hk x (by rw [e]; exact hx) (fun hm => by rw [List.mem_singleton] at hm; subst hm; exact hx h.fresh.2.2.1), e]⟩
theorem Stt.clocked {S' : Mem} {s' : Sl} {l' : List Al} (h : Stt S0 S b ob rb kb now vms rows le tu s l) (hL : Left' S S' kb 0 91 [eL s] s s' l') : Stt S0 S' b ob rb kb now vms rows le tu s' l' := by
  have n1 : b ∉ kb :: own s := by
    intro hm
    rcases List.mem_cons.1 hm with e | hm
    · exact h.ne.2.2.1 e
    · exact (h.apart b hm).1 rfl
  have n2 : ob ∉ kb :: own s := by
    intro hm
    rcases List.mem_cons.1 hm with e | hm
    · exact h.ne.2.2.2.1 e
    · exact (h.apart ob hm).2.1 rfl
  have n3 : rb ∉ kb :: own s := by
    intro hm
    rcases List.mem_cons.1 hm with e | hm
    · exact h.ne.2.2.2.2 e
    · exact (h.apart rb hm).2.2 rfl
  have hnew : ∀ x ∈ own s', x ∈ own s ∨ S x = none := hL.fresh
  refine ⟨hL.keep.get h.blk n1, h.vms, h.le, h.tu, h.bk.keep hL.keep n2 n3, hL.ck, h.ne, fun x hx => ?_, h.fresh, fun x hx => ?_, fun x hx hw => ?_⟩
  · rcases hnew x hx with e | e
    · exact h.apart x e
    · refine ⟨?_, ?_, ?_⟩
      · rintro rfl; rw [h.blk] at e; cases e
      · rintro rfl; exact h.bk.book e
      · rintro rfl; exact h.bk.cells e
  · rcases hnew x hx with e | e
    · exact h.freshS x e
    · exact fresh_of h.keep e
  · have e := h.keep x hx hw
    rw [hL.keep x (by rw [e]; exact hx) (fun hm => ?_), e]
    rcases List.mem_cons.1 hm with rfl | hm
    · exact hx h.fresh.2.2.2
    · exact hx (h.freshS x hm)
theorem Stt.rd74 (h : Stt S0 S b ob rb kb now vms rows le tu s l) : S.cell b (0 + 74) = some (eP (some (ob, 0))) := by rw [cell_of h.blk]; exact stc_ow h.vms
theorem Stt.rd171 (h : Stt S0 S b ob rb kb now vms rows le tu s l) : S.cell b (0 + 171) = some (eP (some (kb, 0))) := by rw [cell_of h.blk]; exact stc_ck h.vms h.le
end
set_option maxHeartbeats 1000000 in
theorem state_spec {S : Mem} {d : List Value} (hd : Draft S d) (h64 : ∀ ks : Sl, nthL d 12 = some (eL ks) → ks.n ≤ 64) {Q : Pt → Mem → Prop}
    (hQ : ∀ S' b, Keeps S S' [] → Q (some (b, 0)) S') : hermitcrablaw15_state S d Q := by
  apply t_hermitcrablaw15_state
  unfold b_hermitcrablaw15_state
  refine ⟨hd.len, guestNew_spec fun S1 b ob rb kb le tu hT => ?_⟩
  refine jn_cut (fun j => j S1) ?main fun j hj => by
    rw [if_neg (by simp), nn_i, gP_i hT.rd74, if_neg (by simp), gP_i hT.rd171, if_neg (by simp)]; exact hj
  case main =>
    obtain ⟨now, hnow⟩ := hd.now
    obtain ⟨r, hr, hr0, hr1⟩ := hd.r
    obtain ⟨ks, xs, hks, hby⟩ := hd.keys
    have hkn := h64 ks hks
    rw [gI_i hnow, nn_i]
    refine pt_i hT.blk (by rw [stc_length hT.vms hT.le hT.tu]; decide) ?_
    have e1 : spl (stc 1 0 (List.replicate 6 vm0) (some (ob, 0)) (some (kb, 0)) le tu) (0 + 1) [.int .u64 now] = stc 1 now (List.replicate 6 vm0) (some (ob, 0)) (some (kb, 0)) le tu := rfl
    rw [e1]
    have hT2 := hT.setb now hT.vms
    refine jn_cut (fun j => ∀ S', Keeps S S' [] → j S') (fun S' hk => hQ S' b hk) ?_
    intro Jx hJx
    refine lp_rule (fun (z : Int) S' => ∃ (i : Nat) (vms rows : List (List Value)) (s : Sl) (l : List Al), z = (i : Int) ∧ i ≤ 6 ∧ Stt S S' b ob rb kb now vms rows le tu s l ∧ rows.length = 20 ∧ (∀ k (hk : k < rows.length), i ≤ k → rows[k] = row0) ∧ l.length ≤ i) (fun z => (6 - z).toNat) ?_
      ⟨0, List.replicate 6 vm0, List.replicate 20 row0, ⟨none, 0, 0⟩, [], rfl, by omega, hT2, by simp, fun k hk _ => by rw [List.getElem_replicate], by simp⟩
    clear hT hT2 e1
    rintro X z S3 ⟨i, vms, rows, s, l, rfl, hi, hT, hr20, hfree, hll⟩ ih
    by_cases hlt : (i : Int) < 6
    · refine jn_cut (fun j => j S3) ?_ fun j hj => by rw [if_pos hlt]; exact hj
      refine jn_cut (fun j => ∀ S5 vms' rows' s' l', Stt S S5 b ob rb kb now vms' rows' le tu s' l' → rows'.length = 20 → (∀ k (hk : k < rows'.length), i + 1 ≤ k → rows'[k] = row0) → l'.length ≤ i + 1 → j S5) (fun S5 vms' rows' s' l' a1 a2 a3 a4 => ?_) ?_
      · rw [w64 (by omega) (by omega)]
        exact ih _ S5 ⟨i + 1, vms', rows', s', l', by omega, by omega, a1, a2, a3, a4⟩ (by omega)
      intro J1 hJ1
      refine jn_cut (fun j => j S3) ?_ fun j hj => ?_
      rotate_left
      · refine ⟨by omega, hlt, ?_⟩
        obtain ⟨on, hon⟩ := hd.on i (by omega)
        rw [Int.toNat_natCast, show 0 + i * 1 = i by omega, gB_i hon]
        cases on with
        | true => rw [if_pos rfl]; exact hj
        | false =>
          rw [if_neg (by decide)]
          exact hJ1 S3 vms rows s l hT hr20 (fun k hk h => hfree k hk (by omega)) (by omega)
      · refine ⟨by omega, hlt, ?_⟩
        obtain ⟨st, hst, hs0, hs1⟩ := hd.seats i (by omega)
        rw [Int.toNat_natCast, Nat.mul_one, gI_i hst, tm hs0, w64 (x := st % 3) (by omega) (by omega), w64 (by omega) (by omega)]
        obtain ⟨n, hn⟩ : ∃ n : Nat, 1 + st % 3 = (n : Int) := ⟨(1 + st % 3).toNat, by omega⟩
        rw [hn]
        refine make_full (by omega) (by omega) (by decide) (by decide) fun ss b0 b1 b2 b3 S4 hM => ?_
        refine ⟨rfl, ?_⟩
        refine jn_cut (fun j => j S4) ?_ fun j hj => by rw [if_neg (by decide)]; exact hj
        have hT4 := hT.keeps hM.pages.keep (by simp) (by simp)
        rw [gL_i hks]
        have hby4 := hby.keep hT4.keep
        have hvl : (xs.map (Value.int .u8)).length = ks.n * 1 := by rw [List.length_map, hby.len, Nat.mul_one]
        refine ⟨xs.map (.int .u8), ?_, ?_, ?_⟩
        · rcases hby4.lie with ⟨h1, h2, h3⟩ | ⟨kb2, ko, h1, h2⟩
          · exact .inl ⟨h1, h2, by rw [h3]; rfl⟩
          · exact .inr ⟨kb2, ko, h1, by rw [Nat.mul_one]; exact h2⟩
        · rw [List.all_eq_true]
          intro v hv
          obtain ⟨x, _, rfl⟩ := List.mem_map.1 hv
          rfl
        refine ap_nil hvl rfl (by omega) fun k' S5 hkn' hkrow hk5 hkf => ?_
        have hT5 := hT4.keeps hk5 (by simp) (by simp)
        obtain ⟨bl, hbl, hbl0, hbl1⟩ := hd.bells i (by omega)
        obtain ⟨lt_, hlate⟩ := hd.late i (by omega)
        refine ⟨by omega, hlt, ?_⟩
        rw [gI_i hbl]
        refine ⟨by omega, hlt, ?_⟩
        rw [gI_i hlate]
        have ev : spl (spl (spl (vmL true ss 8 0 ⟨none, 0, 0⟩ (pg b0) (pg b1) (pg b2) (pg b3) 0) 6 [eL k']) 11 [.int .u32 (Int.tmod bl 64)]) 5 [.int .u64 lt_] = vmL true ss 8 lt_ k' (pg b0) (pg b1) (pg b2) (pg b3) (Int.tmod bl 64) := rfl
        rw [ev]
        have h26 : z72.length = 26 := by kernel_rfl
        have hsn : ss.n = n := by
          have := hM.row.len
          rw [zrep_length, h26] at this; omega
        rcases hM.row.lie with ⟨q1, q2⟩ | ⟨x, q, q1, q2, q3, q4, q5⟩
        · have := hM.row.cap; omega
        have hxS : S3 x = none := (hM.fresh x 0 q1).1
        have hx5 : S5 x = some (bw q.ty q.cs) := by
          obtain ⟨qt, qc, qf⟩ := q
          simp only at q3; subst q3
          exact hk5.get q2 (by simp)
        have hxm : x ∉ mineS b ob rb kb s := fun hm => hT.held hm hxS
        have hx0 : S x = none := fresh_of hT.keep hxS
        obtain ⟨sp_, sn, sc⟩ := ss
        simp only at q1 hsn q4
        subst q1; subst hsn
        have hcap : sn ≤ sc := hM.row.cap
        refine jn_cut (fun j => ∀ cs, cs.length = sc * 26 → j (S5.set x (bw q.ty cs))) ?_ ?_
        · intro cs hcs
          have hT6 : Stt S (S5.set x (bw q.ty cs)) b ob rb kb now vms rows le tu s l := hT5.keeps (W := [x]) (fun y _ hw => set_ne (by simpa using hw)) (fun y hy hm => by rw [List.mem_singleton] at hm; subst hm; exact hxm hy) (fun y hy => by rw [List.mem_singleton] at hy; subst hy; exact hx0)
          refine ⟨by omega, hlt, rfl, ?_⟩
          refine pt_i hT6.blk (by rw [stc_length hT6.vms hT6.le hT6.tu]; omega) ?_
          rw [show 0 + 2 + i * 12 = 2 + i * 12 by omega, stc_vm_set hT6.vms (by omega) rfl]
          have hT7 := hT6.setb now (hT6.vms.set (i := i) (v := vmL true ⟨some (x, 0), sn, sc⟩ 8 lt_ k' (pg b0) (pg b1) (pg b2) (pg b3) (Int.tmod bl 64)) rfl)
          rw [gP_i hT7.rd74]
          refine donate_spec hT7.bk (by omega) (hfree i (by omega) (Nat.le_refl _)) ⟨by omega, hlt⟩ ⟨by decide, by decide⟩ fun S8 hk8 hb8 => ?_
          have hT8 := hT7.donated hk8 hb8
          rw [gP_i hT8.rd171, gI_i hr]
          refine set_spec hT8.ck (by omega) (by omega) hlt (by decide) (by decide) fun S9 s9 l9 hp9 hL9 => ?_
          refine hJ1 S9 _ _ s9 l9 (hT8.clocked hL9) (by simpa using hr20) (fun k hk h => ?_) ?_
          · rw [List.getElem_set_ne (by omega)]; exact hfree k (by simpa using hk) (by omega)
          · rw [hp9.length_eq, List.length_cons]
            have := List.length_filter_le (fun a : Al => ! (decide (a.vm = (i : Int)) && decide (a.seat = 0))) l
            omega
        · intro J2 hJ2
          have hg1 : nthL (vmL true ⟨some (x, 0), sn, sc⟩ 8 lt_ k' (pg b0) (pg b1) (pg b2) (pg b3) (Int.tmod bl 64)) 1 = some (eL ⟨some (x, 0), sn, sc⟩) := rfl
          refine lp_rule (fun (z : Int) S' => ∃ (k : Nat) (cs : List Value), z = (k : Int) ∧ k ≤ sn ∧ S' = S5.set x (bw q.ty cs) ∧ cs.length = sc * 26) (fun z => (sn - z).toNat) ?_ ⟨0, q.cs, rfl, by omega, (set_self hx5).symm, q4⟩
          rintro Y z S' ⟨k, cs, rfl, hk, rfl, hcs⟩ ih2
          by_cases hks2 : (k : Int) < (sn : Int)
          · refine jn_cut (fun j => j (S5.set x (bw q.ty cs))) ?_ fun j hj => by rw [gL_i hg1, if_pos hks2]; exact hj
            obtain ⟨rd, hrd, hrd0, _⟩ := hd.ready (3 * i + k) (by omega)
            rw [gL_i hg1, gI_i hr, sl_i]
            refine ⟨by omega, hks2, ?_⟩
            rw [Int.toNat_natCast]
            refine pt_i set_same (by omega) ?_
            rw [set_set, gL_i hg1, w64 (x := 3 * (i : Int)) (by omega) (by omega), w64 (by omega) (by omega)]
            refine ⟨by omega, by omega, ?_⟩
            rw [show (3 * (i : Int) + (k : Int)).toNat * 1 = 3 * i + k by omega, gI_i hrd, sl_i]
            refine ⟨by omega, hks2, ?_⟩
            have hl1 : (spl cs (0 + k * 26 + 3) [.int .u64 r]).length = sc * 26 := by rw [spl_length (by simp; omega)]; exact hcs
            refine pt_i set_same (by rw [hl1]; omega) ?_
            rw [set_set, w64 (by omega) (by omega)]
            exact ih2 _ _ ⟨k + 1, _, by omega, by omega, rfl, by rw [spl_length (by rw [hl1]; simp; omega)]; exact hl1⟩ (by omega)
          · refine jn_cut (fun _ => True) trivial fun j _ => ?_
            rw [gL_i hg1, if_neg hks2]
            exact hJ2 cs hcs
    · refine jn_cut (fun _ => True) trivial fun j _ => ?_
      rw [if_neg hlt]
      exact hJx S3 hT.keep
end Go.Proofs.Ytpilffakhkagjaa
