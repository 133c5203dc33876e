/- GuestTwins: the law's walk. -/
import Derived.Test.YtpilffakhkagjaaGuS
import Derived.Test.YtpilffakhkagjaaPfJ
namespace Go.Proofs.Ytpilffakhkagjaa
open Go Go.Pt
theorem Keeps.freshw {S0 S S' : Mem} {W : List Nat} (h : Keeps S0 S []) (hk : Keeps S S' W) (hW : ∀ w ∈ W, S0 w = none) : Keeps S0 S' [] := fun x hx hw => by
  have e := h x hx hw
  rw [hk x (by rw [e]; exact hx) (fun hm => hx (hW x hm)), e]
theorem VmIs.seatr {S : Mem} {a : Va} {x : Vs} (h : VmIs S a x) {e : List Value} {r : List (List Value)} (ha : a.seats = e :: r) (hw : ∀ v ∈ a.seats, v.length = 26) : ∃ z c, x.ss = ⟨some (z, 0), r.length + 1, c⟩ ∧ ∀ o v, nthL e o = some v → o < 26 → S.cell z o = some v := by
  have hl := h.ss.len
  have hfl := flt_len hw
  have hn2 : x.ss.n = r.length + 1 := by
    have : x.ss.n = a.seats.length := by omega
    rw [this, ha, List.length_cons]
  obtain ⟨z, t, j, e1, e2, e3, e4⟩ := row_in h.ss (by omega)
  have he26 : e.length = 26 := hw e (by rw [ha]; simp)
  rw [ha, List.flatten_cons] at e3
  refine ⟨z, x.ss.c, by rw [← hn2]; exact e1, fun o v hv ho => ?_⟩
  rw [cell_of e3]
  simp only
  rw [List.append_assoc, nthL_app (by omega)]
  exact hv
theorem same_dec {S : Mem} {b ob rb b2 ob2 rb2 : Nat} {now now2 : Int} {as_ as2 : List Va} {xs xs2 : List Vs} {rows rows2 : List (List Value)} {ck ck2 : Pt} {le tu le2 tu2 : List Value} (h : Vw S b ob rb now as_ xs rows ck le tu) (k : Vw S b2 ob2 rb2 now2 as2 xs2 rows2 ck2 le2 tu2) {al : Bool}
    (hal : sameS as_ as2 rows rows2 le le2 tu tu2 ↔ al = true) {Q : Bool → Mem → Prop} (hQ : Q al S) : guest_Same S (some (b, 0)) (some (b2, 0)) Q := by
  refine same_spec h k (fun hs => ?_) fun hs => ?_
  · rw [hal.1 hs] at hQ; exact hQ
  · have : al = false := by
      cases al with
      | false => rfl
      | true => exact absurd (hal.2 rfl) hs
    rw [this] at hQ; exact hQ
theorem cnt_rows {d : List Value} {rows : List (List Value)} (hl : rows.length = 20) (hr : ∀ k (hk : k < rows.length), rows[k] = if k < 6 ∧ onb d k = true then orow 3 k 0 0 else row0) {i : Nat} (hi : i < 6) (hon : onb d i = true) : cntR 3 i rows = 1 ∧ cntR 2 i rows = 0 := by
  have e : rows = (List.range 20).map fun k => if k < 6 ∧ onb d k = true then orow 3 k 0 0 else row0 := by
    apply List.ext_getElem
    · simp [hl]
    · intro k h1 h2
      rw [hr k h1]; simp
  constructor
  · have key : ∀ p : List Value → Bool, (∀ k : Nat, p (if k < 6 ∧ onb d k = true then orow 3 k 0 0 else row0) = decide (k = i)) → (rows.filter p).length = 1 := by
      intro p hp
      rw [e, List.filter_map, List.length_map]
      have h2 : (List.range 20).filter (p ∘ fun k : Nat => if k < 6 ∧ onb d k = true then orow 3 k 0 0 else row0) = (List.range 20).filter fun k => decide (k = i) := List.filter_congr fun k _ => hp k
      rw [h2]
      have h3 : ∀ i : Fin 6, ((List.range 20).filter fun k => decide (k = i.1)).length = 1 := by decide
      exact h3 ⟨i, hi⟩
    refine key _ fun k => ?_
    by_cases hk : k < 6 ∧ onb d k = true
    · rw [if_pos hk]
      simp only [orow]
      by_cases e2 : k = i
      · subst e2; simp
      · have : ¬ ((k : Int) = (i : Int)) := by omega
        simp [e2, this]
    · rw [if_neg hk]
      have e2 : k ≠ i := fun e2 => by subst e2; exact hk ⟨hi, hon⟩
      simp [row0, e2]
  · unfold cntR
    rw [List.length_eq_zero_iff, List.filter_eq_nil_iff]
    intro v hv
    rw [e] at hv
    obtain ⟨k, _, rfl⟩ := List.mem_map.1 hv
    by_cases hk : k < 6 ∧ onb d k = true
    · rw [if_pos hk]; simp [orow]
    · rw [if_neg hk]; simp [row0]
theorem ixor_one (x : Int) : ixor .u32 x 1 ≠ x := by
  intro h
  have h1 : ixor .u32 x 1 = ((BitVec.ofInt 32 x ^^^ 1#32).toNat : Int) := by
    show IntKind.u32.wrap ((BitVec.ofInt 32 x ^^^ BitVec.ofInt 32 1).toNat : Int) = _
    have hb := (BitVec.ofInt 32 x ^^^ 1#32).isLt
    exact wu32 (by omega) (by show ((BitVec.ofInt 32 x ^^^ 1#32).toNat : Int) ≤ _; omega)
  rw [h1] at h
  generalize hv : BitVec.ofInt 32 x = v at h
  have h5 := congrArg (BitVec.ofInt 32) h
  rw [hv] at h5
  have h2 : v = v ^^^ 1#32 := by
    refine h5.symm.trans ?_
    apply BitVec.eq_of_toNat_eq
    have hb := (v ^^^ 1#32).isLt
    simp only [BitVec.toNat_ofInt]
    omega
  have h3 : v ^^^ v = v ^^^ (v ^^^ 1#32) := by rw [← h2]
  rw [BitVec.xor_self, ← BitVec.xor_assoc, BitVec.xor_self, BitVec.zero_xor] at h3
  exact absurd h3 (by decide)
theorem neq_seat {e : List Value} {o : Nat} {x : Int} (h : nthL e o = some (.int .u64 0)) (hl : o < e.length) (hx : x ≠ 0) : e ≠ spl e o [.int .u64 x] := by
  intro he
  have h2 : nthL (spl e o [.int .u64 x]) o = some (.int .u64 x) := by
    rw [nthL_spl (by simp only [List.length_singleton]; omega), if_pos (by simp)]; simp [nthL]
  rw [← he, h] at h2
  simp only [Option.some.injEq, Value.int.injEq, true_and] at h2
  exact hx h2.symm
theorem set_ne_self {xs : List Int} {k : Nat} (hk : k < xs.length) {v : Int} (h : xs[k] ≠ v) : xs ≠ xs.set k v := fun he => by
  have : (xs.set k v)[k]'(by simpa using hk) = v := by simp
  exact h (by rw [← this]; congr 1)
section
variable {S : Mem} {d : List Value}
set_option maxRecDepth 20000 in
set_option maxHeartbeats 4000000 in
theorem guestTwins_law {vm how : Int} (hd : Draft S d) (hv0 : 0 ≤ vm) : hermitcrablaw15_GuestTwins S d vm how (fun r S' => r = true ∧ Keeps S S' []) := by
  obtain ⟨ks, xk, hks, hby⟩ := hd.keys
  apply t_hermitcrablaw15_GuestTwins
  unfold b_hermitcrablaw15_GuestTwins
  obtain ⟨i, hi⟩ : ∃ i : Nat, vm % 6 = (i : Int) := ⟨(vm % 6).toNat, by omega⟩
  have hi6 : i < 6 := by omega
  have hi6' : (i : Int) < 6 := by omega
  have hi0 : (0 : Int) ≤ (i : Int) := by omega
  rw [tm hv0, w64 (x := vm % 6) (by omega) (by omega), hi]
  simp only [Int.toNat_natCast, Nat.zero_add, Nat.mul_one]
  refine ⟨hd.len, ?_⟩
  refine jn_cut (fun j => ∀ S', Keeps S S' [] → ks.n ≤ 60 → j S') ?_ fun j hj => ?_
  rotate_left
  · refine guest_awake fun S1 hk1 => ?_
    rw [if_pos rfl, gL_i hks]
    by_cases h64 : 60 < (ks.n : Int)
    · rw [if_pos h64]
      exact guest_awake fun S2 hk2 => ⟨rfl, hk1.trans hk2⟩
    · rw [if_neg h64]
      exact hj S1 hk1 (by omega)
  intro S1 hk1 h60
  refine ⟨hi0, hi6', ?_⟩
  obtain ⟨hd1, hon⟩ := (hd.keep hk1).turnOn hi6
  have hks1 : nthL (spl d i [.bool true]) 12 = some (eL ks) := by
    rw [nthL_spl (by rw [hd.len]; simp; omega), if_neg (by simp; omega)]; exact hks
  refine state_full (nk := ks.n) hd1 (fun ks' h => by rw [hks1] at h; simp only [Option.some.injEq] at h; have := eL_inj h; subst this; exact ⟨rfl, by omega⟩) fun S2 b ob rb kb now as_ xs rows s l hM hR => ?_
  refine jn_cut (fun j => j S2) ?_ fun j hj => by rw [if_neg (by simp)]; exact hj
  have hB := hM.stb
  have hk2 : Keeps S S2 [] := hk1.trans hB.st.keep
  refine stateTwin_spec hB fun S3 b' ob' rb' kb' ys s' hk3 hT => ?_
  have hTb := hT.toStb
  have vs2 := hB.vw fits_le fits_tu
  have vs3 : Vw S3 b ob rb now as_ xs rows (some (kb, 0)) ((z68.drop 75).take 96) (z68.drop 172) := vs2.keep hk3 (by simp) (by simp) (by simp) (by simp)
  have vt3 := hTb.vw fits_le fits_tu
  have hla := hB.la
  have hlx := hB.lx
  have hly := hTb.lx
  have hon2 := onb_of hon
  obtain ⟨hgon, hgood⟩ := (hR.vm i (by omega)).1 hi6
  obtain ⟨⟨e, r, hse, hs0⟩, hkl, hd1z, hd3z⟩ := hgood (by rw [hgon]; exact hon2)
  -- from here on the VM in question is this one
  obtain ⟨a, ha⟩ : ∃ a, a = as_[i]'(by omega) := ⟨_, rfl⟩
  have haok : VaOk a := by rw [ha]; exact hB.ok _ (List.getElem_mem _)
  rw [← ha] at hse hkl hd1z hd3z
  refine jn_cut (fun j => j S3) ?_ fun j hj => ?_
  rotate_left
  · refine same_dec vs3 vt3 (al := true) ⟨fun _ => rfl, fun _ => sameS_refl _ _ _ _⟩ ?_
    rw [if_pos rfl, nn_i]
    refine ⟨hi0, hi6', ?_⟩
    rw [Nat.zero_add, gA_i (vs3.rdw hi6), nn_i]
    refine ⟨hi0, hi6', ?_⟩
    rw [Nat.zero_add, gA_i (vt3.rdw hi6)]
    refine sameVM_spec (vs3.is_ i (by omega) (by omega)) (vt3.is_ i (by omega) (by omega)) (hB.ok _ (List.getElem_mem _)) (hB.ok _ (List.getElem_mem _)) (fun _ => ?_) fun hn => absurd ⟨rfl, rfl, rfl, rfl, rfl, rfl, rfl, rfl, rfl⟩ hn
    rw [if_pos rfl, gI_i (n := now) (by rw [cell_of vs3.blk]; rfl), gI_i (n := now) (by rw [cell_of vt3.blk]; rfl), if_neg (by simp)]
    exact hj
  rw [nn_i]
  refine ⟨hi0, hi6', ?_⟩
  rw [Nat.zero_add, gA_i (vs3.rdw hi6), ← ha]
  have hV3 : VmIs S3 a (xs[i]'(by omega)) := by rw [ha]; exact vs3.is_ i (by omega) (by omega)
  refine copy_spec hV3 haok fun x' S5 hc => ⟨vc_one _ _, ?_⟩
  rw [gL_i (show nthL (vc a x') 1 = some (eL x'.ss) from rfl)]
  obtain ⟨z, c, ez, hz, hrd, hput⟩ := hc.is_.seat hc.nodup hse haok.w
  rw [ez, sl_i]
  refine ⟨by omega, ?_⟩
  rw [Nat.zero_add, gI_i (hrd 16 _ hs0.pc (by decide))]
  refine ⟨by omega, ?_⟩
  have hwr : IntKind.u64.wrap (0 + 1) = 1 := by decide
  rw [hwr]
  refine hput 16 _ _ (by decide) fun S6 hk6 hV6 => ?_
  rw [gL_i (show nthL (vc a x') 8 = some (eL x'.e1) from rfl)]
  obtain ⟨z1, e1, hz1, hrd1, hput1⟩ := hV6.byte1 hc.nodup (k := 1) (by show 1 < a.d1.length; rw [hd1z, List.length_replicate]; decide)
  rw [e1, sl_i]
  have h1lt : (1 : Int) < (a.d1.length : Nat) := by rw [hd1z, List.length_replicate]; decide
  refine ⟨h1lt, ?_⟩
  have f1z : S6.cell z1 1 = some (.int .u8 0) := by
    have hq1 : a.d1[1]'(by rw [hd1z, List.length_replicate]; decide) = 0 := by simp only [hd1z]; exact List.getElem_replicate ..
    exact hrd1.trans (congrArg (fun q => some (Value.int .u8 q)) hq1)
  have hw8' : IntKind.u8.wrap (0 + 1) = 1 := by decide
  rw [Nat.zero_add, gI_i f1z, hw8']
  refine ⟨h1lt, hput1 _ _ fun S7 hk7 hV7 => ?_⟩
  rw [gL_i (show nthL (vc a x') 6 = some (eL x'.ks) from rfl)]
  refine hV7.key hc.nodup (by have := haok.keys.len; show a.keys.length ≤ 1000; rw [hkl]; omega) fun ks' S8 hk8 hf8 hV8 => ?_
  have hz0 : ∀ y ∈ x'.blks, S3 y = none := hc.fresh
  have hks0 : ∀ y ∈ Go.Pt.ob x'.ks, S3 y = none := fun y hy => hz0 y (by simp [Vs.blks, hy])
  have hk38 : Keeps S3 S8 [] := Keeps.freshw (Keeps.freshw (Keeps.freshw hc.keep hk6 (by simpa using hz0 z hz)) hk7 (by simpa using hz0 z1 hz1)) hk8 hks0
  have vs8 := vs3.keep hk38 (by simp) (by simp) (by simp) (by simp)
  have vt8 := vt3.keep hk38 (by simp) (by simp) (by simp) (by simp)
  have hk28 : Keeps S2 S8 [] := hk3.trans hk38
  refine jn_cut (fun j => j S8) ?_ fun j hj => ?_
  rotate_left
  · refine ⟨hi0, hi6', ?_⟩
    rw [gA_i (vs8.rdw hi6), ← ha]
    have hvc : spl (vc a x') 6 [eL ks'] = vc { { { a with seats := spl e 16 [.int .u64 1] :: r } with d1 := a.d1.set 1 1 } with keys := a.keys ++ [1] } { x' with ks := ks' } := rfl
    rw [hvc]
    have hVs8 : VmIs S8 a (xs[i]'(by omega)) := by rw [ha]; exact vs8.is_ i (by omega) (by omega)
    refine sameVM_spec hV8 hVs8 ⟨fun v hv => ?_, ?_, ?_, haok.d0, ?_, haok.d2, haok.d3⟩ haok (fun hs => ?_) fun _ => ?_
    · rcases List.mem_cons.1 hv with h2 | h2
      · rw [h2]; exact fits_spl hs0.fits_ (k := .i .u64) rfl rfl
      · exact haok.seats v (by rw [hse]; simp [h2])
    · have := haok.small
      rw [hse] at this
      exact this
    · refine ⟨fun q hq => ?_, ?_⟩
      · rcases List.mem_append.1 hq with h2 | h2
        · exact haok.keys.bd q h2
        · simp only [List.mem_singleton] at h2; subst h2; decide
      · show (a.keys ++ [1]).length ≤ 100000
        rw [List.length_append, hkl, List.length_singleton]; omega
    · refine ⟨fun q hq => ?_, ?_⟩
      · rcases List.mem_or_eq_of_mem_set hq with h2 | h2
        · exact haok.d1.bd q h2
        · rw [h2]; decide
      · show (a.d1.set 1 1).length ≤ 100000
        rw [List.length_set]; exact haok.d1.len
    · have := hs.2.2.2.2.1
      have h2 := congrArg List.length this
      simp at h2
    · rw [if_neg (by decide)]
      refine ⟨hi0, hi6', ?_⟩
      have hV8s : VmIs S8 a (xs[i]'(by omega)) := by rw [ha]; exact vs8.is_ i (by omega) (by omega)
      refine gL_r (n := (xs[i]'(by omega)).ss) ((vs8.rdv hi6 (o := 1) (by decide)).trans rfl) ?_
      obtain ⟨zs, cs, es, hrs⟩ := hV8s.seatr hse haok.w
      rw [es, sl_i]
      refine ⟨by omega, ?_⟩
      rw [Nat.zero_add, gI_i (hrs 16 _ hs0.pc (by decide)), if_neg (by simp)]
      refine ⟨hi0, hi6', ?_⟩
      refine gL_r (n := (xs[i]'(by omega)).e1) ((vs8.rdv hi6 (o := 8) (by decide)).trans rfl) ?_
      obtain ⟨q1, f1, _, f3, _⟩ := row_byte hV8s.e1 (k := 1) (by rw [hd1z, List.length_replicate]; decide)
      rw [f1, sl_i]
      refine ⟨h1lt, ?_⟩
      have hq0 : a.d1[1]'(by rw [hd1z, List.length_replicate]; decide) = 0 := by simp only [hd1z]; exact List.getElem_replicate ..
      rw [Nat.zero_add, gI_i f3, hq0, if_neg (by simp)]
      exact hj
  -- the writes to the twin
  have tb : ∀ {W : List Nat} {S9 : Mem}, Keeps S8 S9 W → (∀ w ∈ W, S2 w = none) → Keeps S2 S9 [] := fun hk hW => Keeps.freshw hk28 hk hW
  have hap := hT.apart
  have hst := hTb.st
  have hyb : ∀ y ∈ blksOf ys, y ≠ b' ∧ y ≠ ob' ∧ y ≠ rb' ∧ y ≠ kb' ∧ y ∉ own s' ∧ S2 y = none := fun y hy => by
    have h1 := hap y hy
    simp only [mineS, List.mem_cons, not_or] at h1
    exact ⟨h1.1.1, h1.1.2.1, h1.1.2.2.1, h1.1.2.2.2.1, h1.1.2.2.2.2, h1.2⟩
  have hyi : ∀ y ∈ (ys[i]'(by omega)).blks, y ∈ blksOf ys := fun y hy => List.mem_flatMap.2 ⟨_, List.getElem_mem _, hy⟩
  have hnd := nd_one hT.nodup (i := i) (by omega)
  have hdis : ∀ z ∈ (ys[i]'(by omega)).blks, ∀ j (hj : j < ys.length), j ≠ i → z ∉ ys[j].blks := fun z hz j hj hji => nd_blk hT.nodup (by omega) hj (fun e => hji e.symm) hz
  have hVt : VmIs S8 a (ys[i]'(by omega)) := by rw [ha]; exact vt8.is_ i (by omega) (by omega)
  have hrow : ∀ k, 6 ≤ k → (hk : k < rows.length) → rows[k] = row0 := fun k h6 hk => by rw [hR.row k hk, if_neg (by omega)]
  have hr20 := hB.lrows
  have hcnt := cnt_rows hr20 hR.row hi6 hon2
  refine jn_cut (fun j => ∀ (alike : Bool) (S9 : Mem) (as2 : List Va) (xs2 : List Vs) (rows2 : List (List Value)) (now2 : Int) (tu2 : List Value) (ck2 : Pt), Keeps S2 S9 [] → Vw S9 b' ob' rb' now2 as2 xs2 rows2 ck2 ((z68.drop 75).take 96) tu2 →
    (sameS as_ as2 rows rows2 ((z68.drop 75).take 96) ((z68.drop 75).take 96) (z68.drop 172) tu2 ↔ alike = true) → j alike S9) ?_ fun j hj => ?_
  · intro alike S9 as2 xs2 rows2 now2 tu2 ck2 hk9 vt9 hal
    have vs9 := vs2.keep hk9 (by simp) (by simp) (by simp) (by simp)
    refine same_dec vs9 vt9 hal ?_
    rw [if_pos rfl]
    refine ⟨hi0, hi6', ?_⟩
    have hV9 : VmIs S9 a (xs[i]'(by omega)) := by rw [ha]; exact vs9.is_ i (by omega) (by omega)
    have g1 : S9.cell b (2 + i * 12 + 1) = some (eL (xs[i]'(by omega)).ss) := (vs9.rdv hi6 (o := 1) (by decide)).trans rfl
    have g6 : S9.cell b (2 + i * 12 + 6) = some (eL (xs[i]'(by omega)).ks) := (vs9.rdv hi6 (o := 6) (by decide)).trans rfl
    have g10 : S9.cell b (2 + i * 12 + 10) = some (eL (xs[i]'(by omega)).e3) := (vs9.rdv hi6 (o := 10) (by decide)).trans rfl
    refine gL_r g1 ?_
    obtain ⟨zs, cs, es, hrs⟩ := hV9.seatr hse haok.w
    rw [es] at g1 ⊢
    rw [sl_i]
    refine ⟨by omega, ?_⟩
    have g0 := hrs 0 _ hs0.r0 (by decide)
    rw [gI_i g0, if_pos rfl]
    refine ⟨hi0, hi6', gL_r g6 ?_⟩
    have hksn : (xs[i]'(by omega)).ks.n = ks.n := by
      have := hV9.ks.len
      simp only [bL, List.length_map] at this
      omega
    rw [gL_i hks1, if_pos (by rw [hksn])]
    refine ⟨hi0, hi6', gL_r g10 ?_⟩
    obtain ⟨q3, f1, _, f3, _⟩ := row_byte hV9.e3 (k := 255) (by rw [hd3z, List.length_replicate]; decide)
    rw [f1] at g10 ⊢
    rw [sl_i]
    refine ⟨by rw [hd3z, List.length_replicate]; decide, ?_⟩
    have hq0 : a.d3[255]'(by rw [hd3z, List.length_replicate]; decide) = 0 := by simp only [hd3z]; exact List.getElem_replicate ..
    rw [hq0] at f3
    rw [Nat.zero_add, gI_i f3, if_pos rfl]
    have g74 : S9.cell b 74 = some (eP (some (ob, 0))) := by rw [cell_of vs9.blk]; exact stc_ow (vmsOf_ok hla hlx)
    rw [gP_i g74]
    refine count_spec vs9.bk vs9.rows_ (by omega) ⟨f3, g10, g6, g0, g1, ?_⟩
    rw [if_pos (by rw [hcnt.1]; rfl), gP_i g74]
    refine count_spec vs9.bk vs9.rows_ (by omega) ⟨f3, g10, g6, g0, g1, ?_⟩
    exact ⟨by rw [hcnt.2]; rfl, hk2.trans hk9⟩
  · -- the cases
    have nseats : ∀ (a' : Va) (hs : a'.seats ≠ a.seats ∨ a'.keys ≠ a.keys ∨ a'.d3 ≠ a.d3 ∨ a'.bells ≠ a.bells), ¬ sameS as_ (as_.set i a') rows rows ((z68.drop 75).take 96) ((z68.drop 75).take 96) (z68.drop 172) (z68.drop 172) := fun a' hs hn => by
      have h1 := hn.1 i (by omega) (by rw [List.length_set]; omega)
      rw [List.getElem_set_self, ← ha] at h1
      rcases hs with h2 | h2 | h2 | h2
      · exact h2 h1.2.2.2.1.symm
      · exact h2 h1.2.2.2.2.1.symm
      · exact h2 h1.2.2.2.2.2.2.2.2.symm
      · exact h2 h1.2.2.1.symm
    have iffF : ∀ {p : Prop}, ¬ p → (p ↔ false = true) := fun h => ⟨fun hp => absurd hp h, fun hf => by cases hf⟩
    have gt : ∀ o (ho : o < 12), S8.cell b' (2 + i * 12 + o) = nthL (vc a (ys[i]'(by omega))) o := fun o ho => by rw [ha]; exact vt8.rdv hi6 ho
    have g74 : S8.cell b' 74 = some (eP (some (ob', 0))) := by rw [cell_of vt8.blk]; exact stc_ow (vmsOf_ok hla hly)
    by_cases c0 : Int.tmod how 7 = 0
    · rw [if_pos c0, nn_i]
      refine ⟨hi0, hi6', ?_⟩
      rw [Nat.zero_add]
      refine gL_r (n := (ys[i]'(by omega)).ss) ((gt 1 (by decide)).trans rfl) ?_
      obtain ⟨zs, cs, es, hzs, hrs, hps⟩ := hVt.seat hnd hse haok.w
      rw [es, sl_i]
      refine ⟨by omega, ?_⟩
      rw [gI_i (hrs 0 _ hs0.r0 (by decide)), hwr]
      refine ⟨by omega, hps 0 _ _ (by decide) fun S9 hk9 hV9 => ?_⟩
      have hb3 := hyb zs (hyi zs hzs)
      have vt9 := vt8.one hk9 (by simp [hb3.1.symm]) (by simp [hb3.2.1.symm]) (by simp [hb3.2.2.1.symm]) hi6 (fun j hj hji z hz hm => by rw [List.mem_singleton] at hm; subst hm; exact hdis z hzs j hj hji hz) (by rw [← ha]; rfl) hV9
        ⟨fun v hv => by
          rcases List.mem_cons.1 hv with h2 | h2
          · rw [h2]; exact fits_spl hs0.fits_ (k := .i .u64) rfl rfl
          · exact haok.seats v (by rw [hse]; simp [h2]), by have := haok.small; rw [hse] at this; exact this, haok.keys, haok.d0, haok.d1, haok.d2, haok.d3⟩
      refine hj false S9 _ _ _ _ _ _ (tb hk9 (by simpa using hb3.2.2.2.2.2)) vt9 (iffF (nseats _ (.inl ?_)))
      intro hq
      rw [hse] at hq
      exact neq_seat hs0.r0 (by rw [hs0.len]; decide) (by decide) (List.cons.inj hq).1.symm
    rw [if_neg c0]
    by_cases c1 : Int.tmod how 7 = 1
    · rw [if_pos c1, nn_i]
      refine ⟨hi0, hi6', ?_⟩
      rw [Nat.zero_add]
      refine gL_r (n := (ys[i]'(by omega)).ks) ((gt 6 (by decide)).trans rfl) ?_
      refine hVt.key hnd (by rw [hkl]; omega) fun kt S9 hk9 hf9 hV9 => ⟨hi0, hi6', ?_⟩
      have hW : ∀ w ∈ Go.Pt.ob (ys[i]'(by omega)).ks, w ∈ (ys[i]'(by omega)).blks := fun w hw => by simp [Vs.blks, hw]
      have n8 : ∀ q, S8 q = none → q ≠ b' := fun q hq e => by subst e; rw [vt8.blk] at hq; cases hq
      have vt9 := vt8.keep (W := Go.Pt.ob (ys[i]'(by omega)).ks) hk9 (fun h => (hyb _ (hyi _ (hW _ h))).1 rfl) (fun h => (hyb _ (hyi _ (hW _ h))).2.1 rfl) (fun h => (hyb _ (hyi _ (hW _ h))).2.2.1 rfl)
      -- the VM's own keys were written: what the others are
      have vt9' : Vw S9 b' ob' rb' now (as_.set i { a with keys := a.keys ++ [5] }) (ys.set i { (ys[i]'(by omega)) with ks := kt }) rows (some (kb', 0)) ((z68.drop 75).take 96) (z68.drop 172) → True := fun _ => trivial
      clear vt9 vt9'
      -- the cell is written
      have hS9b : S9 b' = some (bw 68 (stc 1 now (vmsOf as_ ys) (some (ob', 0)) (some (kb', 0)) ((z68.drop 75).take 96) (z68.drop 172))) := hk9.get vt8.blk (fun h => (hyb _ (hyi _ (hW _ h))).1 rfl)
      have hv := vmsOf_ok hla hly
      refine pt_i hS9b (by rw [stc_length hv vt8.le.2 vt8.tu.2]; omega) ?_
      rw [stc_put hv (by rw [hv.six]; exact hi6) (by decide), vms_get (by rw [hv.six]; exact hi6) (by omega) (by omega), ← ha]
      have hvc : spl (vc a (ys[i]'(by omega))) 6 [eL kt] = vc { a with keys := a.keys ++ [5] } { (ys[i]'(by omega)) with ks := kt } := rfl
      rw [hvc, vmsOf_set]
      have hkb : Keeps S9 (S9.set b' (bw 68 (stc 1 now (vmsOf (as_.set i { a with keys := a.keys ++ [5] }) (ys.set i { (ys[i]'(by omega)) with ks := kt })) (some (ob', 0)) (some (kb', 0)) ((z68.drop 75).take 96) (z68.drop 172)))) [b'] := keeps_set
      have hblk : ∀ z ∈ ({ (ys[i]'(by omega)) with ks := kt } : Vs).blks, z ≠ b' := fun z hz => by
        simp only [Vs.blks, List.mem_append] at hz
        have old : z ∈ (ys[i]'(by omega)).blks → z ≠ b' := fun h => (hyb _ (hyi _ h)).1
        rcases hz with h | h | h
        · exact old (by simp [Vs.blks, h])
        · rcases hf9 z h with h2 | h2
          · exact old (hW z h2)
          · exact n8 z h2
        · exact old (by simp only [Vs.blks, List.mem_append]; exact .inr (.inr h))
      refine hj false _ _ _ _ _ _ _ (Keeps.freshw (tb hk9 (fun w hw => (hyb _ (hyi _ (hW _ hw))).2.2.2.2.2)) hkb (by simpa using hst.fresh.1)) ⟨set_same, by simpa using hla, by simpa using hly, fun j j1 j2 => ?_, fun w hw => ?_, (vt8.bk.keep hk9 (fun h => (hyb _ (hyi _ (hW _ h))).2.1 rfl) (fun h => (hyb _ (hyi _ (hW _ h))).2.2.1 rfl)).keep hkb (by simp [hst.ne.1.symm]) (by simp [hst.ne.2.1.symm]), vt8.rows_, vt8.lrows, vt8.le, vt8.tu⟩ (iffF (nseats _ (.inr (.inl ?_))))
      · by_cases ej : j = i
        · subst ej
          simp only [List.getElem_set_self]
          exact hV9.keep hkb fun z hz hm => hblk z hz (by simpa using hm)
        · rw [List.getElem_set_ne (by omega), List.getElem_set_ne (by omega)]
          have j1' : j < as_.length := by simpa using j1
          have j2' : j < ys.length := by simpa using j2
          refine ((vt8.is_ j j1' j2').keep hk9 fun z hz hm => ?_).keep hkb fun z hz hm => ?_
          · exact hdis z (hW z hm) j j2' ej hz
          · rw [List.mem_singleton] at hm
            exact (hyb z (List.mem_flatMap.2 ⟨_, List.getElem_mem j2', hz⟩)).1 hm
      · rcases List.mem_or_eq_of_mem_set hw with h4 | h4
        · exact hB.ok w h4
        · rw [h4]
          refine ⟨haok.seats, haok.small, ⟨fun q hq => ?_, ?_⟩, haok.d0, haok.d1, haok.d2, haok.d3⟩
          · rcases List.mem_append.1 hq with h2 | h2
            · exact haok.keys.bd q h2
            · simp only [List.mem_singleton] at h2; subst h2; decide
          · show (a.keys ++ [5]).length ≤ 100000
            rw [List.length_append, hkl, List.length_singleton]; omega
      · intro hq
        have h2 := congrArg List.length hq
        simp at h2
    rw [if_neg c1]
    by_cases c2 : Int.tmod how 7 = 2
    · rw [if_pos c2, nn_i]
      refine ⟨hi0, hi6', ?_⟩
      rw [Nat.zero_add]
      refine gL_r (n := (ys[i]'(by omega)).e3) ((gt 10 (by decide)).trans rfl) ?_
      have h3l : 255 < a.d3.length := by rw [hd3z, List.length_replicate]; decide
      obtain ⟨q3, f1, hq3, f3, hp3⟩ := hVt.byte3 hnd h3l
      have hq0 : a.d3[255]'h3l = 0 := by simp only [hd3z]; exact List.getElem_replicate ..
      rw [hq0] at f3
      have h3lt : (255 : Int) < (a.d3.length : Nat) := by omega
      rw [f1, sl_i]
      refine ⟨h3lt, ?_⟩
      rw [Nat.zero_add, gI_i f3]
      refine ⟨h3lt, hp3 _ _ fun S9 hk9 hV9 => ?_⟩
      have hb3 := hyb q3 (hyi q3 hq3)
      have hw8 : IntKind.u8.wrap (0 + 1) = 1 := by decide
      rw [hw8] at hV9
      have vt9 := vt8.one hk9 (by simp [hb3.1.symm]) (by simp [hb3.2.1.symm]) (by simp [hb3.2.2.1.symm]) hi6 (fun j hj hji z hz hm => by rw [List.mem_singleton] at hm; subst hm; exact hdis z hq3 j hj hji hz) (by rw [← ha]; rfl) hV9
        ⟨haok.seats, haok.small, haok.keys, haok.d0, haok.d1, haok.d2, ⟨fun q hq => by
          rcases List.mem_or_eq_of_mem_set hq with h2 | h2
          · exact haok.d3.bd q h2
          · rw [h2]; decide, by show (a.d3.set 255 _).length ≤ 100000; rw [List.length_set]; exact haok.d3.len⟩⟩
      refine hj false S9 _ _ _ _ _ _ (tb hk9 (by simpa using hb3.2.2.2.2.2)) vt9 (iffF (nseats _ (.inr (.inr (.inl ?_)))))
      exact (set_ne_self h3l (by rw [hq0]; decide)).symm
    rw [if_neg c2]
    by_cases c3 : Int.tmod how 7 = 3
    · rw [if_pos c3, nn_i, Nat.zero_add, gP_i g74]
      refine donate_spec (i := 19) vt8.bk (by omega) (hrow 19 (by decide) (by omega)) ⟨hi0, hi6'⟩ ⟨by decide, by decide⟩ fun S9 hk9 hb9 => ?_
      have vt9 := vt8.book hk9 hst.ne.2.1 (fun z hz => (hyb z hz).2.2.1) hb9 (rows_set (k := 3) (n := i) (p := 7) (q := 0) vt8.rows_) (by rw [List.length_set]; exact hr20)
      refine hj false S9 _ _ _ _ _ _ (tb hk9 (by simpa using hst.fresh.2.2.1)) vt9 (iffF fun hs => ?_)
      have h1 := hs.2.2.2 19 (by omega) (by rw [List.length_set]; omega)
      rw [List.getElem_set_self, hrow 19 (by decide) (by omega)] at h1
      rcases h1 with h1 | h1
      · simp [row0] at h1
      · exact h1.2 rfl
    rw [if_neg c3]
    by_cases c4 : Int.tmod how 7 = 4
    · rw [if_pos c4, nn_i]
      refine ⟨hi0, hi6', ?_⟩
      rw [Nat.zero_add, gI_i (n := a.bells) ((gt 11 (by decide)).trans rfl)]
      refine ⟨hi0, hi6', ?_⟩
      refine vt8.cellw (a' := { a with bells := ixor .u32 a.bells 1 }) (x' := ys[i]'(by omega)) (fun z hz => (hyb z hz).1) hst.ne.1.symm hst.ne.2.1.symm hi6 (by decide) (by rw [← ha]; rfl) ⟨hVt.ss, hVt.ks, hVt.e0, hVt.e1, hVt.e2, hVt.e3⟩ (fun z hz => (hyb z (hyi z hz)).1) ⟨haok.seats, haok.small, haok.keys, haok.d0, haok.d1, haok.d2, haok.d3⟩ fun S9 hk9 vt9 => ?_
      refine hj false S9 _ _ _ _ _ _ (tb hk9 (by simpa using hst.fresh.1)) vt9 (iffF (nseats _ (.inr (.inr (.inr ?_)))))
      exact ixor_one a.bells
    rw [if_neg c4]
    by_cases c5 : Int.tmod how 7 = 5
    · rw [if_pos c5, nn_i, Nat.zero_add, gP_i g74]
      refine keep_spec (i := 18) vt8.bk (by omega) (hrow 18 (by decide) (by omega)) ⟨hi0, hi6'⟩ fun S9 hk9 hb9 => ?_
      have vt9 := vt8.book hk9 hst.ne.2.1 (fun z hz => (hyb z hz).2.2.1) hb9 (rows_set vt8.rows_) (by rw [List.length_set]; exact hr20)
      rw [gI_i (n := now) (by rw [cell_of vt9.blk]; rfl)]
      refine vt9.cells (now' := IntKind.u64.wrap (now + 1)) (fun z hz => (hyb z hz).1) hst.ne.1.symm hst.ne.2.1.symm vt8.tu (by decide) rfl fun S10 hk10 vt10 => ⟨hi0, hi6', ?_⟩
      rw [Nat.zero_add, gI_i (n := a.late) (by rw [vt10.rdv hi6 (o := 5) (by decide), ← ha]; rfl)]
      refine ⟨hi0, hi6', ?_⟩
      have hVt10 : VmIs S10 a (ys[i]'(by omega)) := by rw [ha]; exact vt10.is_ i (by omega) (by omega)
      refine vt10.cellw (a' := { a with late := IntKind.u64.wrap (a.late + 1) }) (x' := ys[i]'(by omega)) (fun z hz => (hyb z hz).1) hst.ne.1.symm hst.ne.2.1.symm hi6 (by decide) (by rw [← ha]; rfl) ⟨hVt10.ss, hVt10.ks, hVt10.e0, hVt10.e1, hVt10.e2, hVt10.e3⟩ (fun z hz => (hyb z (hyi z hz)).1) ⟨haok.seats, haok.small, haok.keys, haok.d0, haok.d1, haok.d2, haok.d3⟩ fun S11 hk11 vt11 => ?_
      rw [List.set_getElem_self] at vt11
      have g171 : S11.cell b' 171 = some (eP (some (kb', 0))) := by rw [cell_of vt11.blk]; exact stc_ck (vmsOf_ok (by simpa using hla) hly) vt8.le.2
      rw [gP_i g171]
      have hap2 : ∀ x ∈ own s', x ≠ b' ∧ x ≠ ob' ∧ x ≠ rb' := hst.apart
      have ck8 := hst.ck.keep hk38 (by simp) (by simp)
      have ck9 := ck8.keep hk9 (by simp [hst.ne.2.2.2.2.symm]) (fun x hx => by simp [(hap2 x hx).2.2])
      have ck10 := ck9.keep hk10 (by simp [hst.ne.2.2.1.symm]) (fun x hx => by simp [(hap2 x hx).1])
      have ck11 := ck10.keep hk11 (by simp [hst.ne.2.2.1.symm]) (fun x hx => by simp [(hap2 x hx).1])
      refine shift_spec ck11 (by decide) (by decide) hM.al fun S12 l' _ hk12 _ => ?_
      have vt12 := vt11.keep hk12 (fun h => (hap2 _ h).1 rfl) (fun h => (hap2 _ h).2.1 rfl) (fun h => (hap2 _ h).2.2 rfl) (fun z hz => (hyb z hz).2.2.2.2.1)
      have f1 := hst.fresh
      refine hj true S12 _ _ _ _ _ _ (Keeps.freshw (Keeps.freshw (Keeps.freshw (tb hk9 (by simpa using f1.2.2.1)) hk10 (by simpa using f1.1)) hk11 (by simpa using f1.1)) hk12 hst.freshS) vt12 ⟨fun _ => rfl, fun _ => ⟨fun j j1 j2 => ?_, rfl, rfl, fun j j1 j2 => ?_⟩⟩
      · by_cases ej : j = i
        · subst ej
          rw [List.getElem_set_self, ← ha]
          exact ⟨rfl, rfl, rfl, rfl, rfl, rfl, rfl, rfl, rfl⟩
        · rw [List.getElem_set_ne (by omega)]
          exact ⟨rfl, rfl, rfl, rfl, rfl, rfl, rfl, rfl, rfl⟩
      · by_cases ej : j = 18
        · subst ej
          rw [List.getElem_set_self, hrow 18 (by decide) (by omega)]
          exact .inr ⟨by simp [row0, nthL], by simp [orow, nthL]⟩
        · rw [List.getElem_set_ne (by omega)]; exact .inl rfl
    rw [if_neg c5, nn_i, Nat.zero_add]
    have hv := vmsOf_ok hla hly
    have htl : (z68.drop 172).length = 18 := vt8.tu.2
    have h4 : nthL (z68.drop 172) 4 = some (.int .i64 0) := by kernel_rfl
    rw [gI_i (n := 0) (by rw [cell_of vt8.blk]; exact (stc_turn_get hv vt8.le.2).trans h4)]
    have hw1 : IntKind.i64.wrap (0 + 1) = 1 := by decide
    rw [hw1]
    refine vt8.cells (tu' := spl (z68.drop 172) 4 [.int .i64 1]) (fun z hz => (hyb z hz).1) hst.ne.1.symm hst.ne.2.1.symm ⟨by kernel_rfl, by rw [spl_length (by rw [htl]; decide)]; exact htl⟩ (by decide) (stc_turn hv vt8.le.2 vt8.tu.2 _) fun S9 hk9 vt9 => ?_
    refine hj false S9 _ _ _ _ _ _ (tb hk9 (by simpa using hst.fresh.1)) vt9 (iffF fun hs => ?_)
    have h1 := hs.2.2.1
    have h2 : nthL (spl (z68.drop 172) 4 [.int .i64 1]) 4 = some (.int .i64 1) := by
      rw [nthL_spl (by rw [htl]; decide), if_pos (by decide)]; rfl
    rw [← h1, h4] at h2
    cases h2
end
end Go.Proofs.Ytpilffakhkagjaa
