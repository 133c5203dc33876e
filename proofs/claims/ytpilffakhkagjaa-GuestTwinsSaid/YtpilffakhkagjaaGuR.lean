/- The law's state, in full. -/
import Derived.Test.YtpilffakhkagjaaGuQ
namespace Go.Proofs.Ytpilffakhkagjaa
open Go Go.Pt
/-- How far the making has come. -/
structure Rd (d : List Value) (nk i : Nat) (as_ : List Va) (rows : List (List Value)) : Prop where
  vm : ∀ j (h : j < as_.length), (j < i → Good d nk j as_[j]) ∧ (i ≤ j → as_[j] = va0)
  row : ∀ k (hk : k < rows.length), rows[k] = if k < i ∧ onb d k = true then orow 3 k 0 0 else row0
theorem zrep_flat (z : List Value) : ∀ n, zrep n z = (List.replicate n z).flatten
  | 0 => rfl
  | n + 1 => by rw [List.replicate_succ, List.flatten_cons, ← zrep_flat z n]; rfl
theorem onb_of {d : List Value} {j : Nat} {v : Bool} (h : nthL d j = some (.bool v)) : onb d j = v := by simp [onb, h]
/-- A state that is being made: what its VMs are; whose blocks are none of the state's own. -/
structure Stm (S0 S : Mem) (b ob rb kb : Nat) (now : Int) (as_ : List Va) (xs : List Vs) (rows : List (List Value)) (s : Sl) (l : List Al) : Prop where
  stb : Stb S0 S b ob rb kb now as_ xs rows ((z68.drop 75).take 96) (z68.drop 172) s l
  apart : ∀ x ∈ blksOf xs, x ∉ mineS b ob rb kb s
  al : ∀ a ∈ l, 0 ≤ a.tm ∧ a.tm ≤ 18446744073709551615
theorem blks_set {xs : List Vs} {i : Nat} {v : Vs} {y : Nat} (h : y ∈ blksOf (xs.set i v)) : y ∈ blksOf xs ∨ y ∈ v.blks := by
  obtain ⟨x, hx, hy⟩ := List.mem_flatMap.1 h
  rcases List.mem_or_eq_of_mem_set hx with h2 | h2
  · exact .inl (List.mem_flatMap.2 ⟨x, h2, hy⟩)
  · subst h2; exact .inr hy
theorem stb_held {S0 S : Mem} {b ob rb kb : Nat} {now : Int} {as_ : List Va} {xs : List Vs} {rows : List (List Value)} {le tu : List Value} {s : Sl} {l : List Al} (h : Stb S0 S b ob rb kb now as_ xs rows le tu s l) {x : Nat} (hx : x ∈ blksOf xs) : S x ≠ none := by
  obtain ⟨v, hv, hq⟩ := List.mem_flatMap.1 hx
  obtain ⟨j, hj, rfl⟩ := List.getElem_of_mem hv
  exact (h.is_ j (by rw [h.la, ← h.lx]; exact hj) hj).held hq
theorem byt_z : Byt (List.replicate 256 0) := ⟨fun x hx => by rw [(List.mem_replicate.1 hx).2]; decide, by rw [List.length_replicate]; decide⟩
theorem rows_set {rows : List (List Value)} (h : Rows_ rows) {i : Nat} {k n p q : Int} : Rows_ (rows.set i (orow k n p q)) := fun v hv => by
  rcases List.mem_or_eq_of_mem_set hv with h2 | h2
  · exact h v h2
  · exact ⟨k, n, p, q, h2⟩
set_option maxHeartbeats 2000000 in
theorem state_full {S : Mem} {d : List Value} {nk : Nat} (hd : Draft S d) (hnk : ∀ ks : Sl, nthL d 12 = some (eL ks) → ks.n = nk ∧ ks.n ≤ 64) {Q : Pt → Mem → Prop}
    (hQ : ∀ S' b ob rb kb now as_ xs rows s l, Stm S S' b ob rb kb now as_ xs rows s l → Rd d nk 6 as_ rows → Q (some (b, 0)) S') : hermitcrablaw15_state S d Q := by
  apply t_hermitcrablaw15_state
  unfold b_hermitcrablaw15_state
  refine ⟨hd.len, guestNew_full fun S1 b ob rb kb hT => ?_⟩
  refine jn_cut (fun j => j S1) ?main fun j hj => by
    rw [if_neg (by simp), nn_i, gP_i hT.rd74, if_neg (by simp), gP_i hT.rd171, if_neg (by simp)]; exact hj
  case main =>
    obtain ⟨now, hnow⟩ := hd.now
    obtain ⟨r, hr, hr0, hr1⟩ := hd.r
    obtain ⟨ks, xk, hks, hby⟩ := hd.keys
    obtain ⟨hkn, hkn64⟩ := hnk ks hks
    rw [gI_i hnow, nn_i]
    refine pt_i hT.blk (by rw [stc_length hT.vms hT.le hT.tu]; decide) ?_
    have e1 : spl (stc 1 0 (List.replicate 6 vm0) (some (ob, 0)) (some (kb, 0)) ((z68.drop 75).take 96) (z68.drop 172)) (0 + 1) [.int .u64 now] = stc 1 now (List.replicate 6 vm0) (some (ob, 0)) (some (kb, 0)) ((z68.drop 75).take 96) (z68.drop 172) := rfl
    rw [e1]
    have hT2 := hT.setb now hT.vms
    have hv6 : vmsOf (List.replicate 6 va0) (List.replicate 6 vs0) = List.replicate 6 vm0 := rfl
    have hM0 : Stm S (S1.set b (bw 68 (stc 1 now (List.replicate 6 vm0) (some (ob, 0)) (some (kb, 0)) ((z68.drop 75).take 96) (z68.drop 172)))) b ob rb kb now (List.replicate 6 va0) (List.replicate 6 vs0) (List.replicate 20 row0) ⟨none, 0, 0⟩ [] := by
      refine ⟨⟨by rw [hv6]; exact hT2, rfl, rfl, fun i h1 h2 => ?_, fun a ha => ?_, fun v hv => ?_, rfl, ⟨fits_one fits_le, fits_one fits_tu⟩⟩, fun x hx => ?_, by simp⟩
      · simp only [List.getElem_replicate]; exact vm0_is
      · rw [(List.mem_replicate.1 ha).2]; exact va0_ok
      · rw [(List.mem_replicate.1 hv).2]; exact ⟨0, 0, 0, 0, rfl⟩
      · have : blksOf (List.replicate 6 vs0) = [] := rfl
        rw [this] at hx; cases hx
    refine jn_cut (fun j => ∀ S' as_ xs rows s l, Stm S S' b ob rb kb now as_ xs rows s l → Rd d nk 6 as_ rows → j S') (fun S' as_ xs rows s l h1 h2 => hQ S' b ob rb kb now as_ xs rows s l h1 h2) ?_
    intro Jx hJx
    refine lp_rule (fun (z : Int) S' => ∃ (i : Nat) (as_ : List Va) (xs : List Vs) (rows : List (List Value)) (s : Sl) (l : List Al), z = (i : Int) ∧ i ≤ 6 ∧ Stm S S' b ob rb kb now as_ xs rows s l ∧ Rd d nk i as_ rows ∧ l.length ≤ i) (fun z => (6 - z).toNat) ?_
      ⟨0, List.replicate 6 va0, List.replicate 6 vs0, List.replicate 20 row0, ⟨none, 0, 0⟩, [], rfl, by omega, hM0, ⟨fun j h => ⟨fun h => by omega, fun _ => List.getElem_replicate ..⟩, fun k hk => by rw [if_neg (by omega)]; exact List.getElem_replicate ..⟩, by simp⟩
    clear hT hT2 e1 hM0
    rintro X z S3 ⟨i, as_, xs, rows, s, l, rfl, hi, hM, hR, hll⟩ ih
    have hB := hM.stb
    have hT := hB.st
    have hla := hB.la
    have hlx := hB.lx
    have hr20 := hB.lrows
    by_cases hlt : (i : Int) < 6
    · refine jn_cut (fun j => j S3) ?_ fun j hj => by rw [if_pos hlt]; exact hj
      refine jn_cut (fun j => ∀ S5 as_' xs' rows' s' l', Stm S S5 b ob rb kb now as_' xs' rows' s' l' → Rd d nk (i + 1) as_' rows' → l'.length ≤ i + 1 → j S5) (fun S5 as_' xs' rows' s' l' a1 a2 a3 => ?_) ?_
      · rw [w64 (by omega) (by omega)]
        exact ih _ S5 ⟨i + 1, as_', xs', rows', s', l', by omega, by omega, a1, a2, a3⟩ (by omega)
      intro J1 hJ1
      obtain ⟨on, hon⟩ := hd.on i (by omega)
      have hob := onb_of hon
      refine jn_cut (fun j => on = true → j S3) ?_ fun j hj => ?_
      rotate_left
      · refine ⟨by omega, hlt, ?_⟩
        rw [Int.toNat_natCast, show 0 + i * 1 = i by omega, gB_i hon]
        cases on with
        | true => rw [if_pos rfl]; exact hj rfl
        | false =>
          rw [if_neg (by decide)]
          refine hJ1 S3 as_ xs rows s l hM ⟨fun j h => ⟨fun h1 => ?_, fun h1 => (hR.vm j h).2 (by omega)⟩, fun k hk => ?_⟩ (by omega)
          · by_cases e : j = i
            · subst e
              rw [(hR.vm j h).2 (Nat.le_refl _)]
              exact ⟨hob.symm, fun h => by cases h⟩
            · exact (hR.vm j h).1 (by omega)
          · rw [hR.row k hk]
            by_cases e : k = i
            · subst e; simp [hob]
            · have e3 : k < i ↔ k < i + 1 := by omega
              simp only [e3]
      · intro hon1
        subst hon1
        refine ⟨by omega, hlt, ?_⟩
        obtain ⟨st, hst, hs0, hs1⟩ := hd.seats i (by omega)
        rw [Int.toNat_natCast, Nat.mul_one, gI_i hst, tm hs0, w64 (x := st % 3) (by omega) (by omega), w64 (by omega) (by omega)]
        obtain ⟨n, hn⟩ : ∃ n : Nat, 1 + st % 3 = (n : Int) := ⟨(1 + st % 3).toNat, by omega⟩
        rw [hn]
        refine make_full (by omega) (by omega) (by decide) (by decide) fun ss b0 b1 b2 b3 S4 hMd => ?_
        refine ⟨rfl, ?_⟩
        refine jn_cut (fun j => j S4) ?_ fun j hj => by rw [if_neg (by decide)]; exact hj
        have hT4 := hT.keeps hMd.pages.keep (by simp) (by simp)
        rw [gL_i hks]
        have hby4 := hby.keep hT4.keep
        have hvl : (xk.map (Value.int .u8)).length = ks.n * 1 := by rw [List.length_map, hby.len, Nat.mul_one]
        refine ⟨xk.map (.int .u8), ?_, ?_, ?_⟩
        · rcases hby4.lie with ⟨h1, h2, h3⟩ | ⟨kb2, ko, h1, h2⟩
          · exact .inl ⟨h1, h2, by rw [h3]; rfl⟩
          · exact .inr ⟨kb2, ko, h1, by rw [Nat.mul_one]; exact h2⟩
        · rw [List.all_eq_true]
          intro v hv
          obtain ⟨x, _, rfl⟩ := List.mem_map.1 hv
          rfl
        refine ap_nil hvl rfl (by omega) fun k' S5 hkn' hkrow hk5 hkf => ?_
        have hT5 := hT4.keeps hk5 (by simp) (by simp)
        obtain ⟨bl, hbl, hbl0, hbl1⟩ := hd.bells i (by omega)
        obtain ⟨lt_, hlate⟩ := hd.late i (by omega)
        refine ⟨by omega, hlt, ?_⟩
        rw [gI_i hbl]
        refine ⟨by omega, hlt, ?_⟩
        rw [gI_i hlate]
        have ev : spl (spl (spl (vmL true ss 8 0 ⟨none, 0, 0⟩ (pg b0) (pg b1) (pg b2) (pg b3) 0) 6 [eL k']) 11 [.int .u32 (Int.tmod bl 64)]) 5 [.int .u64 lt_] = vmL true ss 8 lt_ k' (pg b0) (pg b1) (pg b2) (pg b3) (Int.tmod bl 64) := rfl
        rw [ev]
        have h26 : z72.length = 26 := by kernel_rfl
        have hsn : ss.n = n := by
          have := hMd.row.len
          rw [zrep_length, h26] at this; omega
        rcases hMd.row.lie with ⟨q1, q2⟩ | ⟨x, q, q1, q2, q3, q4, q5⟩
        · have := hMd.row.cap; omega
        have hxS : S3 x = none := (hMd.fresh x 0 q1).1
        have hxb : x ∉ [b0, b1, b2, b3] := (hMd.fresh x 0 q1).2
        obtain ⟨qt, qc, qf⟩ := q
        simp only at q3 q4 q5; subst q3
        have hx5 : S5 x = some (bw qt qc) := hk5.get q2 (by simp)
        have hxm : x ∉ mineS b ob rb kb s := fun hm => hT.held hm hxS
        have hx0 : S x = none := fresh_of hT.keep hxS
        obtain ⟨sp_, sn, sc⟩ := ss
        simp only at q1 hsn q4 q5
        subst q1; subst hsn
        have hcap : sn ≤ sc := hMd.row.cap
        refine jn_cut (fun j => ∀ (A : List (List Value)) (jk : List Value), A.length = sn → (∀ e ∈ A, Seat0 e) → jk.length = (sc - sn) * 26 → j (S5.set x (bw qt (A.flatten ++ jk)))) ?_ ?_
        · intro A jk hA hA0 hjk
          have hk6 : Keeps S5 (S5.set x (bw qt (A.flatten ++ jk))) [x] := fun y _ hw => set_ne (by simpa using hw)
          have hT6 : Stt S (S5.set x (bw qt (A.flatten ++ jk))) b ob rb kb now (vmsOf as_ xs) rows ((z68.drop 75).take 96) (z68.drop 172) s l := hT5.keeps (W := [x]) hk6 (fun y hy hm => by rw [List.mem_singleton] at hm; subst hm; exact hxm hy) (fun y hy => by rw [List.mem_singleton] at hy; subst hy; exact hx0)
          refine ⟨by omega, hlt, rfl, ?_⟩
          refine pt_i hT6.blk (by rw [stc_length hT6.vms hT6.le hT6.tu]; omega) ?_
          rw [show 0 + 2 + i * 12 = 2 + i * 12 by omega, stc_vm_set hT6.vms (by omega) rfl]
          have hT7 := hT6.setb now (hT6.vms.set (i := i) (v := vmL true ⟨some (x, 0), sn, sc⟩ 8 lt_ k' (pg b0) (pg b1) (pg b2) (pg b3) (Int.tmod bl 64)) rfl)
          have hk7 : Keeps (S5.set x (bw qt (A.flatten ++ jk))) ((S5.set x (bw qt (A.flatten ++ jk))).set b (bw 68 (stc 1 now ((vmsOf as_ xs).set i (vmL true ⟨some (x, 0), sn, sc⟩ 8 lt_ k' (pg b0) (pg b1) (pg b2) (pg b3) (Int.tmod bl 64))) (some (ob, 0)) (some (kb, 0)) ((z68.drop 75).take 96) (z68.drop 172)))) [b] := fun y _ hw => set_ne (by simpa using hw)
          have hri : rows[i]'(by omega) = row0 := by rw [hR.row i (by omega), if_neg (by omega)]
          rw [gP_i hT7.rd74]
          refine donate_spec hT7.bk (by omega) hri ⟨by omega, hlt⟩ ⟨by decide, by decide⟩ fun S8 hk8 hb8 => ?_
          have hT8 := hT7.donated hk8 hb8
          rw [gP_i hT8.rd171, gI_i hr]
          refine set_spec hT8.ck (by omega) (by omega) hlt (by decide) (by decide) fun S9 s9 l9 hp9 hL9 => ?_
          have hT9 := hT8.clocked hL9
          -- what is kept from the beginning
          have k69 : Keeps (S5.set x (bw qt (A.flatten ++ jk))) S9 (mineS b ob rb kb s) :=
            ((hk7.wider (W' := mineS b ob rb kb s) (by simp [mineS])).trans (hk8.wider (W' := mineS b ob rb kb s) (by simp [mineS]))).trans (hL9.keep.wider (W' := mineS b ob rb kb s) (by intro y hy; simp only [mineS, List.mem_cons] at hy ⊢; rcases hy with rfl | hy <;> simp [*]))
          have k35 : Keeps S3 S5 [] := hMd.pages.keep.trans hk5
          have hxs3 : ∀ y ∈ blksOf xs, S3 y ≠ none := fun y hy => stb_held hB hy
          have s9' : ∀ y ∈ own s9, y ∈ own s ∨ S8 y = none := hL9.fresh
          have k59 : Keeps S5 S9 (x :: mineS b ob rb kb s) := (hk6.wider (by simp)).trans (k69.wider (by intro y hy; simp [hy]))
          -- the new VM
          let a : Va := ⟨true, 8, lt_, Int.tmod bl 64, A, xk, List.replicate 256 0, List.replicate 256 0, List.replicate 256 0, List.replicate 256 0⟩
          let v : Vs := ⟨⟨some (x, 0), sn, sc⟩, k', pg b0, pg b1, pg b2, pg b3⟩
          have hvb : ∀ y ∈ v.blks, y = x ∨ S4 y = none ∨ (y ∈ [b0, b1, b2, b3]) := by
            intro y hy
            simp only [v, Vs.blks, List.mem_append] at hy
            rcases hy with hy | hy | hy | hy | hy | hy
            · simp only [Go.Pt.ob, List.mem_singleton] at hy; exact .inl hy
            · refine .inr (.inl ?_)
              obtain ⟨e, _⟩ := row_blk hkrow hy
              exact hkf y 0 e
            all_goals (simp only [Go.Pt.ob, pg, List.mem_singleton] at hy; subst hy; simp)
          have hv3 : ∀ y ∈ v.blks, S3 y = none := fun y hy => by
            rcases hvb y hy with rfl | h | h
            · exact hxS
            · exact fresh_of hMd.pages.keep h
            · exact (hMd.pages.at_ y h).1
          have hvm : ∀ y ∈ v.blks, y ∉ mineS b ob rb kb s := fun y hy hm => hT.held hm (hv3 y hy)
          have page : ∀ y ∈ [b0, b1, b2, b3], Row (S5.set x (bw qt (A.flatten ++ jk))) 1 (pg y) (bL (List.replicate 256 0)) := fun y hy => by
            have h4 := (hMd.pages.at_ y hy).2
            have h5 : S5 y = some (bw 5 z256) := hk5.get h4 (by simp)
            have hyx : y ≠ x := fun e => hxb (e ▸ hy)
            refine ⟨by simp only [bL, List.length_map, List.length_replicate, pg, Nat.mul_one], Nat.le_refl _, .inr ⟨y, _, rfl, by rw [set_ne hyx]; exact h5, rfl, by kernel_rfl, ?_⟩⟩
            rw [← z256_b]; kernel_rfl
          have hkx : ∀ y ∈ Go.Pt.ob k', y ∉ [x] := fun y hy hm => by
            rw [List.mem_singleton] at hm; subst hm
            obtain ⟨e, _⟩ := row_blk hkrow hy
            have := hkf y 0 e
            rw [q2] at this; cases this
          have hfl : A.flatten.length = sn * 26 := by
            have := flt_len (w := 26) (vms := A) (fun e he => (hA0 e he).len)
            omega
          have hV6 : VmIs (S5.set x (bw qt (A.flatten ++ jk))) a v := by
            refine ⟨⟨hfl, hcap, .inr ⟨x, _, rfl, set_same, rfl, ?_, ?_⟩⟩, hkrow.kept hk6 hkx, page b0 (by simp), page b1 (by simp), page b2 (by simp), page b3 (by simp)⟩
            · show (A.flatten ++ jk).length = sc * 26
              rw [List.length_append, hfl, hjk, ← Nat.add_mul]; congr 1; omega
            · simp only; rw [List.take_left' hfl]
          have hV9 : VmIs S9 a v := hV6.keep k69 hvm
          have hVold : ∀ j (h1 : j < as_.length) (h2 : j < xs.length), VmIs S9 as_[j] xs[j] := fun j h1 h2 => by
            refine ((hB.is_ j h1 h2).keep k35 (by simp)).keep k59 fun y hy hm => ?_
            have hm2 : y ∈ blksOf xs := List.mem_flatMap.2 ⟨_, List.getElem_mem h2, hy⟩
            rcases List.mem_cons.1 hm with rfl | hm
            · exact hxs3 _ hm2 hxS
            · exact hM.apart y hm2 hm
          have hbyte : Byt xk := ⟨hby.bd, by rw [hby.len]; omega⟩
          have hOk : VaOk a := ⟨fun e he => (hA0 e he).fits_, by show A.length ≤ 1000; omega, hbyte, byt_z, byt_z, byt_z, byt_z⟩
          have hvm' : (vmsOf as_ xs).set i (vmL true ⟨some (x, 0), sn, sc⟩ 8 lt_ k' (pg b0) (pg b1) (pg b2) (pg b3) (Int.tmod bl 64)) = vmsOf (as_.set i a) (xs.set i v) := vmsOf_set a v
          rw [hvm'] at hT9
          refine hJ1 S9 (as_.set i a) (xs.set i v) _ s9 l9 ⟨⟨hT9, by simpa using hla, by simpa using hlx, fun j h1 h2 => ?_, fun w hw => ?_, rows_set hB.rows_, by simpa using hr20, hB.one⟩, fun y hy hm => ?_, fun q hq => ?_⟩ ⟨fun j h => ⟨fun h1 => ?_, fun h1 => ?_⟩, fun k hk => ?_⟩ ?_
          · by_cases e : j = i
            · subst e; simp only [List.getElem_set_self]; exact hV9
            · rw [List.getElem_set_ne (by omega), List.getElem_set_ne (by omega)]
              exact hVold j (by simpa using h1) (by simpa using h2)
          · rcases List.mem_or_eq_of_mem_set hw with h2 | h2
            · exact hB.ok w h2
            · subst h2; exact hOk
          · -- apart
            have hy8 : y ∈ blksOf xs → S8 y ≠ none := fun h => by
              have h3 := hxs3 y h
              have hyx : y ≠ x := fun e => h3 (e ▸ hxS)
              have hyb : y ∉ mineS b ob rb kb s := hM.apart y h
              cases h3' : S3 y with
              | none => exact absurd h3' h3
              | some kk =>
                have h5 := k35.get h3' (by simp)
                have h6 := hk6.get h5 (by simpa using hyx)
                have h7 := hk7.get h6 (by intro hm; rw [List.mem_singleton] at hm; exact hyb (by simp [mineS, hm]))
                have h8 := hk8.get h7 (by intro hm; rw [List.mem_singleton] at hm; exact hyb (by simp [mineS, hm]))
                rw [h8]; simp
            have hy8v : y ∈ v.blks → S8 y ≠ none := fun h => by
              have h6 := hV6.held h
              have hyb := hvm y h
              cases h6' : (S5.set x (bw qt (A.flatten ++ jk))) y with
              | none => exact absurd h6' h6
              | some kk =>
                have h7 := hk7.get h6' (by intro hm; rw [List.mem_singleton] at hm; exact hyb (by simp [mineS, hm]))
                have h8 := hk8.get h7 (by intro hm; rw [List.mem_singleton] at hm; exact hyb (by simp [mineS, hm]))
                rw [h8]; simp
            have hold : y ∉ mineS b ob rb kb s := by
              rcases blks_set hy with h | h
              · exact hM.apart y h
              · exact hvm y h
            have h8 : S8 y ≠ none := by
              rcases blks_set hy with h | h
              · exact hy8 h
              · exact hy8v h
            simp only [mineS, List.mem_cons, not_or] at hold hm
            rcases hm with h | h | h | h | h
            · exact hold.1 h
            · exact hold.2.1 h
            · exact hold.2.2.1 h
            · exact hold.2.2.2.1 h
            · rcases s9' y h with h | h
              · exact hold.2.2.2.2 h
              · exact h8 h
          · rcases List.mem_cons.1 (hp9.mem_iff.1 hq) with h2 | h2
            · rw [h2]; exact ⟨hr0, hr1⟩
            · exact hM.al q (List.mem_filter.1 h2).1
          · by_cases e : j = i
            · subst e
              rw [List.getElem_set_self]
              refine ⟨by rw [hob], fun _ => ⟨?_, by show xk.length = nk; rw [hby.len, hkn], rfl, rfl⟩⟩
              show ∃ e r, A = e :: r ∧ Seat0 e
              match A, hA, hA0 with
              | [], h, _ => simp at h; omega
              | e :: r, _, h0 => exact ⟨e, r, rfl, h0 e (by simp)⟩
            · rw [List.getElem_set_ne (by omega)]
              exact (hR.vm j (by simpa using h)).1 (by omega)
          · rw [List.getElem_set_ne (by omega)]
            exact (hR.vm j (by simpa using h)).2 (by omega)
          · by_cases e : k = i
            · subst e
              rw [List.getElem_set_self, if_pos ⟨by omega, hob⟩]; rfl
            · rw [List.getElem_set_ne (by omega), hR.row k (by simpa using hk)]
              have e3 : k < i ↔ k < i + 1 := by omega
              simp only [e3]
          · rw [hp9.length_eq, List.length_cons]
            have := List.length_filter_le (fun a : Al => ! (decide (a.vm = (i : Int)) && decide (a.seat = 0))) l
            omega
        · intro J2 hJ2
          have hg1 : nthL (vmL true ⟨some (x, 0), sn, sc⟩ 8 lt_ k' (pg b0) (pg b1) (pg b2) (pg b3) (Int.tmod bl 64)) 1 = some (eL ⟨some (x, 0), sn, sc⟩) := rfl
          have hqc : qc = (List.replicate sn z72).flatten ++ qc.drop (sn * 26) := by rw [← zrep_flat, ← q5, List.take_append_drop]
          refine lp_rule (fun (z : Int) S' => ∃ (k : Nat) (A : List (List Value)) (jk : List Value), z = (k : Int) ∧ k ≤ sn ∧ S' = S5.set x (bw qt (A.flatten ++ jk)) ∧ A.length = sn ∧ (∀ e ∈ A, Seat0 e) ∧ jk.length = (sc - sn) * 26) (fun z => (sn - z).toNat) ?_ ⟨0, List.replicate sn z72, qc.drop (sn * 26), rfl, by omega, by rw [← hqc]; exact (set_self hx5).symm, by simp, fun e he => by rw [(List.mem_replicate.1 he).2]; exact seat0_new, by rw [List.length_drop, q4, Nat.sub_mul]⟩
          rintro Y z S' ⟨k, A, jk, rfl, hk, rfl, hA, hA0, hjk⟩ ih2
          have hw26 : ∀ e ∈ A, e.length = 26 := fun e he => (hA0 e he).len
          have hfl : A.flatten.length = sn * 26 := by
            have := flt_len (w := 26) (vms := A) hw26
            omega
          have hcs : (A.flatten ++ jk).length = sc * 26 := by rw [List.length_append, hfl, hjk, ← Nat.add_mul]; congr 1; omega
          by_cases hks2 : (k : Int) < (sn : Int)
          · refine jn_cut (fun j => j (S5.set x (bw qt (A.flatten ++ jk)))) ?_ fun j hj => by rw [gL_i hg1, if_pos hks2]; exact hj
            obtain ⟨rd, hrd, hrd0, hrd1⟩ := hd.ready (3 * i + k) (by omega)
            rw [gL_i hg1, gI_i hr, sl_i]
            refine ⟨by omega, hks2, ?_⟩
            rw [Int.toNat_natCast]
            refine pt_i set_same (by omega) ?_
            rw [set_set, gL_i hg1, w64 (x := 3 * (i : Int)) (by omega) (by omega), w64 (by omega) (by omega)]
            refine ⟨by omega, by omega, ?_⟩
            rw [show (3 * (i : Int) + (k : Int)).toNat * 1 = 3 * i + k by omega, gI_i hrd, sl_i]
            refine ⟨by omega, hks2, ?_⟩
            have hkA : k < A.length := by omega
            rw [show 0 + k * 26 + 3 = k * 26 + 3 by omega, flt_put hw26 hkA (by decide)]
            have hs1 : Seat0 (spl (A[k]'hkA) 3 [.int .u64 r]) := (hA0 _ (List.getElem_mem hkA)).put (k := .i .u64) (by decide) (by decide) (by decide) rfl (by simp [fit1, hr0, hr1])
            have hA1 : ∀ e ∈ A.set k (spl (A[k]'hkA) 3 [.int .u64 r]), Seat0 e := fun e he => by
              rcases List.mem_or_eq_of_mem_set he with h2 | h2
              · exact hA0 e h2
              · rw [h2]; exact hs1
            have hw1 : ∀ e ∈ A.set k (spl (A[k]'hkA) 3 [.int .u64 r]), e.length = 26 := fun e he => (hA1 e he).len
            have hl1 : ((A.set k (spl (A[k]'hkA) 3 [.int .u64 r])).flatten ++ jk).length = sc * 26 := by
              rw [List.length_append, flt_len hw1, List.length_set, hA, hjk, ← Nat.add_mul]; congr 1; omega
            refine pt_i set_same (by rw [hl1]; omega) ?_
            have hkA1 : k < (A.set k (spl (A[k]'hkA) 3 [.int .u64 r])).length := by simpa using hkA
            rw [set_set, w64 (by omega) (by omega), show 0 + k * 26 + 23 = k * 26 + 23 by omega, flt_put hw1 hkA1 (by decide)]
            refine ih2 _ _ ⟨k + 1, _, jk, by omega, by omega, rfl, by simpa using hA, fun e he => ?_, hjk⟩ (by omega)
            rcases List.mem_or_eq_of_mem_set he with h2 | h2
            · exact hA1 e h2
            · rw [h2]
              refine (hA1 _ (List.getElem_mem hkA1)).put (k := .i .u8) (by decide) (by decide) (by decide) rfl ?_
              rw [tm hrd0]
              simp [fit1]
          · refine jn_cut (fun _ => True) trivial fun j _ => ?_
            rw [gL_i hg1, if_neg hks2]
            exact hJ2 A jk hA hA0 hjk
    · refine jn_cut (fun _ => True) trivial fun j _ => ?_
      rw [if_neg hlt]
      have : i = 6 := by omega
      subst this
      exact hJx S3 as_ xs rows s l hM hR
end Go.Proofs.Ytpilffakhkagjaa
