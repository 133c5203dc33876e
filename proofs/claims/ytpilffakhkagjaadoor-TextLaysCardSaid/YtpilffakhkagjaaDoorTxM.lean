/- TextLays: the law's walk. -/
import Derived.Test.YtpilffakhkagjaaDoorTxL
namespace Go.Proofs.YtpilffakhkagjaaDoor
open Go Go.Pt Go.RowKit Go.Lib Go.Tx Go.ChangeShapes
theorem row_keeps {S S' : Mem} {s : Sl} {l : List Value} (hrow : Row S 1 s l) (hk : Keeps S S' []) : Row S' 1 s l := hrow.keep fun c hc => by
  rcases hrow.lie with ⟨h1, _⟩ | ⟨b2, kk, h1, h2, _⟩
  · rw [h1] at hc; cases hc
  · rw [h1] at hc; cases hc
    exact (hk.get h2 (by simp)).trans h2.symm
theorem bs_row {S : Mem} {s : Sl} {xs : List Int} (h : Row S 1 s (bL xs)) {K : ByteArray → Prop} (hK : K (strOfNums xs)) : bs S s K := by
  have hl := h.len
  refine ⟨xs, ?_, hK⟩
  cases hp : s.p with
  | none =>
    left
    refine ⟨rfl, ?_⟩
    rcases h.lie with ⟨_, e2⟩ | ⟨b, k, e1, _⟩
    · have := h.cap
      exact List.length_eq_zero_iff.1 (by simp only [bL, List.length_map] at hl; omega)
    · rw [hp] at e1; cases e1
  | some bo =>
    obtain ⟨b, o⟩ := bo
    have ho : o = 0 := by
      rcases h.lie with ⟨e1, _⟩ | ⟨c', k, e1, _⟩
      · rw [hp] at e1; cases e1
      · rw [hp] at e1; cases e1; rfl
    subst ho
    right
    have := h.part hp
    rw [Nat.mul_one] at this
    exact ⟨b, 0, rfl, by simpa [bL] using hl, this⟩
theorem by_of_row {S : Mem} {s : Sl} {xs : List Int} (h : Row S 1 s (bL xs)) (hb : ∀ x ∈ xs, 0 ≤ x ∧ x ≤ 255) : By S s xs := by
  have hl := h.len
  simp only [bL, List.length_map, Nat.mul_one] at hl
  refine ⟨hl, h.cap, hb, ?_⟩
  by_cases h0 : s.n = 0
  · exact .inl h0
  right
  rcases h.lie with ⟨_, e2⟩ | ⟨b, k, e1, _⟩
  · have := h.cap; omega
  · refine ⟨b, 0, e1, fun i hi => ?_⟩
    obtain ⟨b', e1', h2⟩ := row_cell h (i := i) (by omega) (v := .int .u8 xs[i]) (by simp [bL, List.getElem?_eq_getElem hi])
    rw [e1] at e1'; cases e1'
    rw [Nat.zero_add]; exact h2
theorem tw_wrd {o : Op5} (hb : o.Bd) (hr : o.Rt) : tw o.wrd = o.txt := by
  obtain ⟨h, e1, e2, e3, e4, e5⟩ := wrd_is hb hr
  unfold tw
  show (if isW (wrd o.k o.a o.b o.c o.n) then txt (dK (wrd o.k o.a o.b o.c o.n)) (dA (wrd o.k o.a o.b o.c o.n)) (dB (wrd o.k o.a o.b o.c o.n)) (dC (wrd o.k o.a o.b o.c o.n)) (dN (wrd o.k o.a o.b o.c o.n)) else [63]) = _
  rw [if_pos h, e1, e2, e3, e4, e5]
  rfl
/-- How many blanks. -/
def pn (ys : List Int) (i : Nat) : Nat := match ys[i]? with | some y => (y % 4).toNat | none => 0
theorem pn_le (ys : List Int) (i : Nat) : pn ys i ≤ 3 := by
  unfold pn; split
  · omega
  · omega
def lyT (ops : List Op5) (i : Nat) : Bs := match ops[i]? with | some o => o.near.txt | none => []
def lyP (ops : List Op5) (ys : List Int) (i : Nat) : Bs := List.replicate (pn ys i) 32 ++ (lyT ops i ++ List.replicate (pn ys i) 32)
def lyL (ops : List Op5) (ys : List Int) (m : Nat) : List Bs := (List.range m).map (lyP ops ys)
theorem lyT_at {ops : List Op5} {i : Nat} (h : i < ops.length) : lyT ops i = ops[i].near.txt := by
  unfold lyT; rw [List.getElem?_eq_getElem h]
theorem lyP_all {ops : List Op5} {ys : List Int} (hb : ∀ o ∈ ops, o.Bd) {i : Nat} (h : i < ops.length) : (59 : UInt8) ∉ lyP ops ys i ∧ (lyP ops ys i).length ≤ 60 ∧ trimB (lyP ops ys i) 32 = ops[i].near.txt := by
  have hbi := hb ops[i] (List.getElem_mem h)
  have hp := pn_le ys i
  have hl := txt_len (Op5.near_bd hbi)
  obtain ⟨h3, h4, h5⟩ := near_txt_ends hbi
  unfold lyP
  rw [lyT_at h]
  refine ⟨fun hm => ?_, ?_, trim_pads 32 _ _ _ h3 h4 h5⟩
  · rcases List.mem_append.1 hm with hm | hm
    · exact absurd (List.eq_of_mem_replicate hm) (by decide)
    · rcases List.mem_append.1 hm with hm | hm
      · exact txt_no59 _ _ _ _ _ hm
      · exact absurd (List.eq_of_mem_replicate hm) (by decide)
  · simp only [List.length_append, List.length_replicate]
    have : (ops[i].near.txt).length ≤ 40 := hl
    omega
theorem lyL_len (ops : List Op5) (ys : List Int) (m : Nat) : (lyL ops ys m).length = m := by simp [lyL]
theorem lyL_succ (ops : List Op5) (ys : List Int) (m : Nat) : lyL ops ys (m + 1) = lyL ops ys m ++ [lyP ops ys m] := by simp [lyL, List.range_succ]
theorem lyL_mem {ops : List Op5} {ys : List Int} (hb : ∀ o ∈ ops, o.Bd) {m : Nat} (h : m ≤ ops.length) : ∀ q ∈ lyL ops ys m, (59 : UInt8) ∉ q ∧ q.length ≤ 60 := by
  intro q hq
  obtain ⟨i, hi, rfl⟩ := List.mem_map.1 hq
  have := lyP_all hb (ys := ys) (i := i) (by have := List.mem_range.1 hi; omega)
  exact ⟨this.1, this.2.1⟩
theorem lyL_bytes {ops : List Op5} {ys : List Int} (hb : ∀ o ∈ ops, o.Bd) {m : Nat} (h : m ≤ ops.length) : (jn59 (lyL ops ys m)).length ≤ 61 * m := by
  have := jn59_len (m := 60) (lyL ops ys m) fun q hq => (lyL_mem hb h q hq).2
  rw [lyL_len] at this
  exact this
section
variable {S : Mem}
set_option maxHeartbeats 2000000 in
theorem textLays_law {l p : Sl} {ops : List Op5} {ys : List Int} (hg : Gl S) (hp : OpsIn S l ops) (hy : By S p ys) : hermitcrablaw03_TextLays S l p (fun r S' => r = true ∧ Keeps S S' []) := by
  apply t_hermitcrablaw03_TextLays
  unfold b_hermitcrablaw03_TextLays
  have hlen := hp.len
  refine jn_cut (fun j => ∀ S', Keeps S S' [] → 0 < ops.length → ops.length ≤ 20 → j S') ?_ fun j hj => ?_
  rotate_left
  · refine awake_spec hg fun S1 hk1 => ?_
    rw [if_pos rfl]
    by_cases h0 : (l.n : Int) = 0
    · rw [if_pos h0]
      exact awake_spec (hg.keep hk1 (by simp) (by simp) (by simp)) fun S2 hk2 => ⟨rfl, hk1.trans hk2⟩
    rw [if_neg h0]
    by_cases h : 20 < (l.n : Int)
    · rw [if_pos h]
      exact awake_spec (hg.keep hk1 (by simp) (by simp) (by simp)) fun S2 hk2 => ⟨rfl, hk1.trans hk2⟩
    · rw [if_neg h]; exact hj S1 hk1 (by omega) (by omega)
  intro S1 hk1 hpos h20
  refine jn_cut (fun j => ∀ want S', Keeps S S' [] → Row S' 1 want (bL (wbL (ops.map Op5.near))) → j (bt (jn59 (lyL ops ys ops.length))) want S') ?_ fun Jx hJx => ?_
  · intro want S2 hk2 hwant
    have hg2 := hg.keep hk2 (by simp) (by simp) (by simp)
    have hl : (lyL ops ys ops.length).length = ops.length := lyL_len _ _ _
    have hat : ∀ i (h : i < (lyL ops ys ops.length).length), (lyL ops ys ops.length)[i] = lyP ops ys i := fun i h => by simp [lyL]
    have hml : (ops.map Op5.near).length = ops.length := by simp
    refine lay_spec (ops := ops.map Op5.near) (fun h => by rw [h] at hl; simp at hl; omega) (fun q hq => (lyL_mem hp.bd (Nat.le_refl _) q hq).1) (by omega) (fun q hq => (lyL_mem hp.bd (Nat.le_refl _) q hq).2) (by omega) ?_ hg2 ?_ (fun h => by omega)
    · intro i h h2
      have hil : i < ops.length := by omega
      have hbi := hp.bd ops[i] (List.getElem_mem hil)
      rw [hat i h2, (lyP_all hp.bd hil).2.2]
      simp only [List.getElem_map]
      exact ⟨Op5.near_bd hbi, Op5.near_rt hbi, trivial⟩
    · intro _ t S3 hk3 hf3 htn hrow3
      have hg3 := hg2.keep hk3 (by simp) (by simp) (by simp)
      refine list_spec hg3 (by_of_row hrow3 (wbL_bd _)) (by omega) fun t3 S4 hk4 hf4 htn4 hrow4 => ?_
      have k4 := (hk2.trans hk3).trans hk4
      rw [show t.n / 4 = ops.length by omega] at htn4 hrow4
      refine jn_cut (fun j => j S4) ?_ fun j hj => ?_
      rotate_left
      · rw [if_neg (by decide), if_neg (by decide)]
        refine bs_row (row_keeps hrow3 hk4) (bs_row (row_keeps hwant (hk3.trans hk4)) ?_)
        rw [if_neg (fun h => h rfl), if_neg (by omega)]
        exact hj
      refine jn_cut (fun j => ∀ S', Keeps S S' [] → j S') (fun S' hk => ⟨rfl, hk⟩) fun J1 hJ1 => ?_
      refine lp_rule (fun (z : Int) S' => ∃ i : Nat, z = i ∧ i ≤ ops.length ∧ Keeps S4 S' []) (fun z => ops.length - z.toNat) ?_ ⟨0, rfl, by omega, Keeps.refl⟩
      rintro X z S' ⟨i, rfl, hi, hk⟩ ih
      refine jn_cut (fun j => i < ops.length → j S') ?_ fun j hj => ?_
      rotate_left
      · by_cases h : (i : Int) < (l.n : Int)
        · rw [if_pos h]; exact hj (by omega)
        · rw [if_neg h]; exact hJ1 S' (k4.trans hk)
      intro hil
      have hbi := hp.bd ops[i] (List.getElem_mem hil)
      have hnb := Op5.near_bd hbi
      have hnr := Op5.near_rt hbi
      have htx : (linesC (wbL (ops.map Op5.near)) ops.length)[i]? = some (.string (bt ops[i].near.txt)) := by
        rw [linesC_get hil]
        have him : i < (ops.map Op5.near).length := by omega
        have hgm : (ops.map Op5.near)[i] = ops[i].near := by simp
        rw [wAt_wbL him (by rw [hgm]; exact hnb) (by rw [hgm]; exact hnr), hgm, tw_wrd hnb hnr]
      obtain ⟨b, x, hlp, hpart⟩ := (hp.keep (k4.trans hk)).lie i hil
      obtain ⟨lp, ln, lc⟩ := l
      simp only at hlp hlen
      subst hlp
      rw [sl_i]
      refine ⟨by omega, by omega, ?_⟩
      rw [show x + (i : Int).toNat * 5 = x + i * 5 by omega, gA_i hpart]
      refine nearO_spec hbi fun S5 hk5 => ?_
      refine ⟨rfl, ?_⟩
      obtain ⟨tb, h1, h2⟩ := row_cell (row_keeps hrow4 (hk.trans hk5)) (by omega) htx
      obtain ⟨tp, tn, tc⟩ := t3
      simp only at h1 htn4
      subst h1; subst htn4
      rw [sl_i]
      refine ⟨by omega, by omega, ?_⟩
      rw [show 0 + (i : Int).toNat * 1 = i by omega, gS_i h2]
      obtain ⟨g0, g1, g2, g3, g4⟩ := gops ops[i].near
      rw [gI_i g0, gI_i g1, gI_i g2, gI_i g3, gI_i g4]
      refine refText_spec hnb hnr.kk fun S6 hk6 => ?_
      obtain ⟨kk, h5, h6⟩ := cell_e h2
      refine ⟨by rw [cell_of (hk6.get h5 (by simp))]; exact h6, ?_⟩
      rw [if_neg (fun h => h rfl), w64 (by omega) (by omega)]
      exact ih _ S6 ⟨i + 1, by omega, by omega, (hk.trans hk5).trans hk6⟩ (by omega)
  -- the lines and the bytes that are wanted
  refine lp_rule (fun (z : ByteArray × Sl × Int) S' => ∃ i : Nat, z.1 = bt (jn59 (lyL ops ys i)) ∧ z.2.2 = (i : Int) ∧ i ≤ ops.length ∧ Keeps S S' [] ∧ z.2.1.n = 4 * i ∧ (∀ x o, z.2.1.p = some (x, o) → S x = none) ∧ Row S' 1 z.2.1 (bL (wbL ((ops.map Op5.near).take i)))) (fun z => ops.length - z.2.2.toNat) ?_
    ⟨0, rfl, rfl, by omega, hk1, rfl, (fun x o h => by cases h), by simpa [wbL, bL] using Row.nil⟩
  rintro X ⟨s, want, z⟩ S' ⟨i, hs, hz, hi, hkS, hwn, hwf, hrow⟩ ih
  dsimp only at hs hz hwn hwf hrow ih ⊢
  subst hs; subst hz
  refine jn_cut (fun j => i < ops.length → j S') ?_ fun j hj => ?_
  rotate_left
  · by_cases h : (i : Int) < (l.n : Int)
    · rw [if_pos h]; exact hj (by omega)
    · rw [if_neg h]
      have e : i = ops.length := by omega
      subst e
      rw [show (ops.map Op5.near).take ops.length = ops.map Op5.near from List.take_of_length_le (by simp)] at hrow
      exact hJx want S' hkS hrow
  intro hil
  have hbi := hp.bd ops[i] (List.getElem_mem hil)
  have hnb := Op5.near_bd hbi
  have hnr := Op5.near_rt hbi
  have hnl : (ops[i].near.txt).length ≤ 40 := txt_len hnb
  have hby := lyL_bytes hp.bd (ys := ys) (m := i) hi
  have hpl := pn_le ys i
  refine jn_cut (fun j => ∀ want' S2, Keeps S S2 [] → want'.n = 4 * (i + 1) → (∀ x o, want'.p = some (x, o) → S x = none) → Row S2 1 want' (bL (wbL ((ops.map Op5.near).take (i + 1)))) → j (bt (jn59 (lyL ops ys (i + 1)))) want' S2) ?_ fun J1 hJ1 => ?_
  · intro want' S2 hk2 hn2 hf2 hr2
    rw [w64 (by omega) (by omega)]
    exact ih _ S2 ⟨i + 1, rfl, by simp, by omega, hk2, hn2, hf2, hr2⟩ (by dsimp only; omega)
  have hsucc : jn59 (lyL ops ys (i + 1)) = (if i = 0 then [] else jn59 (lyL ops ys i) ++ [59]) ++ ((List.replicate (pn ys i) 32 ++ ops[i].near.txt) ++ List.replicate (pn ys i) 32) := by
    rw [lyL_succ, jn59_snoc]
    have hl := lyL_len ops ys i
    have hP : lyP ops ys i = (List.replicate (pn ys i) 32 ++ ops[i].near.txt) ++ List.replicate (pn ys i) 32 := by unfold lyP; rw [lyT_at hil, List.append_assoc]
    by_cases h0 : i = 0
    · rw [if_pos h0, if_pos (by rw [← List.length_eq_zero_iff]; omega), hP]; rfl
    · rw [if_neg (fun h => by rw [h] at hl; simp at hl; omega), if_neg h0, hP]; simp
  obtain ⟨b, x, hlp, hpart⟩ := (hp.keep hkS).lie i hil
  obtain ⟨lp, ln, lc⟩ := l
  simp only at hlp hlen
  subst hlp
  rw [sl_i]
  refine ⟨by omega, by omega, ?_⟩
  rw [show x + (i : Int).toNat * 5 = x + i * 5 by omega, gA_i hpart]
  refine nearO_spec hbi fun S2 hk2 => ?_
  refine ⟨rfl, ?_⟩
  refine jn_cut (fun j => j (bt (if i = 0 then [] else jn59 (lyL ops ys i) ++ [59])) S2) ?_ fun J2 hJ2 => ?_
  rotate_left
  · by_cases h0 : i = 0
    · subst h0
      rw [if_neg (by simp)]
      rw [if_pos rfl] at hJ2
      exact hJ2
    · rw [if_pos (by omega)]
      rw [if_neg h0] at hJ2
      refine ⟨by rw [bt_size]; show _ + 1 ≤ _; omega, ?_⟩
      rw [show (ByteArray.mk #[59]) = bt [59] from rfl, bt_append]
      exact hJ2
  have hprel : (if i = 0 then [] else jn59 (lyL ops ys i) ++ [59]).length ≤ 61 * i + 1 := by
    split
    · simp
    · simp only [List.length_append, List.length_cons, List.length_nil]; omega
  generalize (if i = 0 then [] else jn59 (lyL ops ys i) ++ [59]) = pre at *
  refine jn_cut (fun j => j (bt (List.replicate (pn ys i) 32)) S2) ?_ fun J3 hJ3 => ?_
  · obtain ⟨g0, g1, g2, g3, g4⟩ := gops ops[i].near
    rw [gI_i g0, gI_i g1, gI_i g2, gI_i g3, gI_i g4]
    refine refText_spec hnb hnr.kk fun S3 hk3 => ?_
    have e1 : bt (List.replicate (pn ys i) 32) ++ bt (txt ops[i].near.k ops[i].near.a ops[i].near.b ops[i].near.c ops[i].near.n) = bt (List.replicate (pn ys i) 32 ++ ops[i].near.txt) := bt_append _ _
    have hsz : ∀ q : Bs, (bt q).size = q.length := fun _ => rfl
    have hnl' : (txt ops[i].near.k ops[i].near.a ops[i].near.b ops[i].near.c ops[i].near.n).length ≤ 40 := hnl
    rw [e1, bt_append, bt_append, ← hsucc]
    refine ⟨by simp only [hsz, List.length_replicate]; omega, by simp only [hsz, List.length_append, List.length_replicate]; omega, by simp only [hsz, List.length_append, List.length_replicate]; omega, ?_⟩
    rw [gI_i g0, gI_i g1, gI_i g2, gI_i g3, gI_i g4]
    refine refWord_spec hnb hnr fun S4 hk4 => ?_
    have k4 := ((hkS.trans hk2).trans hk3).trans hk4
    have hrow4 := row_keeps hrow ((hk2.trans hk3).trans hk4)
    refine ap_row (vs := bL (wb ops[i].near.wrd)) hrow4 rfl (by decide) rfl (by omega) fun s2 S5 c kb e1 e2 e3 e4 e5 => ?_
    have hc : S c = none := by
      rcases e3 with e3 | e3
      · exact hwf c 0 e3
      · cases hs : S c with
        | none => rfl
        | some kk => have := k4.get hs (by simp); rw [e3] at this; cases this
    refine hJ1 s2 S5 (by rw [e4]; exact k4.fresh hc) (by omega) (fun x o' h => by rw [e2] at h; cases h; exact hc) ?_
    have him : i < (ops.map Op5.near).length := by simp; exact hil
    have hgm : (ops.map Op5.near)[i] = ops[i].near := by simp
    rw [wbL_take him, hgm]
    have : bL (wbL ((ops.map Op5.near).take i) ++ wb ops[i].near.wrd) = bL (wbL ((ops.map Op5.near).take i)) ++ bL (wb ops[i].near.wrd) := by simp [bL]
    rw [this]; exact e5
  -- the blanks
  refine lp_rule (fun (z : ByteArray × Int) Sz => ∃ k : Nat, z = (bt (List.replicate k 32), (k : Int)) ∧ k ≤ pn ys i ∧ Sz = S2) (fun z => pn ys i - z.2.toNat) ?_ ⟨0, rfl, by omega, rfl⟩
  rintro X2 z Sz ⟨k, rfl, hkp, rfl⟩ ih2
  dsimp only at ih2 ⊢
  have hylen := hy.len
  have done : k = pn ys i → J3 (bt (List.replicate k 32)) Sz := fun h => by rw [h]; exact hJ3
  by_cases hip : (i : Int) < (p.n : Int)
  · rw [if_pos hip]
    rcases hy.lie with h0 | ⟨yb, yo, hyp, hyc⟩
    · omega
    have hcell := hyc i (by omega)
    obtain ⟨kk, h5, h6⟩ := cell_e hcell
    obtain ⟨pp, pnn, pc⟩ := p
    simp only at hyp hip hylen
    subst hyp
    rw [sl_i]
    refine ⟨by omega, by omega, ?_⟩
    have hyi : i < ys.length := by omega
    have hybd := hy.bd ys[i] (List.getElem_mem hyi)
    have hpe : pn ys i = (ys[i] % 4).toNat := by unfold pn; rw [List.getElem?_eq_getElem hyi]
    rw [show yo + (i : Int).toNat * 1 = yo + i by omega, gI_i (n := ys[i]) (by rw [cell_of ((hkS.trans hk2).get h5 (by simp))]; exact h6), tm hybd.1, w64 (by omega) (by omega)]
    by_cases hk4 : (k : Int) < ys[i] % 4
    · rw [if_pos hk4]
      refine ⟨by rw [bt_size, List.length_replicate]; show _ + 1 ≤ _; omega, ?_⟩
      rw [show (ByteArray.mk #[32]) = bt [32] from rfl, bt_append, w64 (by omega) (by omega)]
      refine ih2 _ Sz ⟨k + 1, ?_, by omega, rfl⟩ (by dsimp only; omega)
      rw [show List.replicate k (32 : UInt8) ++ [32] = List.replicate (k + 1) 32 by rw [List.replicate_succ']]
      simp
    · rw [if_neg hk4]; exact done (by omega)
  · rw [if_neg hip]
    refine done ?_
    have : pn ys i = 0 := by unfold pn; rw [List.getElem?_eq_none (by omega)]
    omega
end
end Go.Proofs.YtpilffakhkagjaaDoor
