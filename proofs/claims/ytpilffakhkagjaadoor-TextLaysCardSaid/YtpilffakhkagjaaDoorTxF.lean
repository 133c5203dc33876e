/- Read: an instruction's text is read as that instruction; a word that is no name is none. -/
import Derived.Test.YtpilffakhkagjaaDoorTxE
import Derived.Test.YtpilffakhkagjaaDoorPfB
namespace Go.Tx
open Go Go.Lib Go.Pt
def pc (a b c n : Int) (q : UInt8) : Bs := if q = 97 then rg a else if q = 98 then rg b else if q = 99 then rg c else itoa n
theorem pieces_map (k a b c n : Int) : piecesL k a b c n = (partsL (cls k)).map (pc a b c n) := by
  have p97 : pc a b c n 97 = rg a := rfl
  have p98 : pc a b c n 98 = rg b := rfl
  have p99 : pc a b c n 99 = rg c := rfl
  have p110 : pc a b c n 110 = itoa n := rfl
  unfold piecesL
  rcases h : cls k with _ | _ | _ | _ | m <;> simp only [partsL, List.map_cons, List.map_nil, p97, p98, p99, p110]
theorem nm_no32 (k : Int) : (32 : UInt8) ∉ nm k := by
  unfold nm
  have : ∀ l ∈ nms, (32 : UInt8) ∉ l := by decide
  cases h : nms[k.toNat]? with
  | none => simp
  | some l => exact this l (List.mem_of_getElem? h)
theorem itoa_no32 (n : Int) : (32 : UInt8) ∉ itoa n := itoa_no n (by decide) (by decide)
theorem rg_no32 (r : Int) : (32 : UInt8) ∉ rg r := fun h => by
  rcases List.mem_cons.1 h with h | h
  · exact absurd h (by decide)
  · exact itoa_no32 r h
theorem pc_no32 (a b c n : Int) (q : UInt8) : (32 : UInt8) ∉ pc a b c n q := by
  unfold pc
  repeat' split
  · exact rg_no32 a
  · exact rg_no32 b
  · exact rg_no32 c
  · exact itoa_no32 n
theorem pieces_no32 (k a b c n : Int) : ∀ q ∈ piecesL k a b c n, (32 : UInt8) ∉ q := by
  rw [pieces_map]
  intro q hq
  obtain ⟨x, _, rfl⟩ := List.mem_map.1 hq
  exact pc_no32 _ _ _ _ x
theorem nm_inj {j k : Int} (hj0 : 0 ≤ j) (hj : j < 23) (hk0 : 0 ≤ k) (hk : k < 23) (h : nm j = nm k) : j = k := by
  have h1 : j.toNat < nms.length := by simp [nms]; omega
  have h2 : k.toNat < nms.length := by simp [nms]; omega
  have key : ∀ i : Fin 23, ∀ l : Fin 23, (nms[i.1]?).getD [] = (nms[l.1]?).getD [] → i = l := by decide
  have := key ⟨j.toNat, by omega⟩ ⟨k.toNat, by omega⟩ h
  have := Fin.mk.inj_iff.1 this
  omega
theorem nm_what (j : Int) : nm j ≠ [119, 104, 97, 116] := by
  unfold nm
  have : ∀ l ∈ nms, l ≠ [119, 104, 97, 116] := by decide
  cases h : nms[j.toNat]? with
  | none => simp
  | some l => exact this l (List.mem_of_getElem? h)
theorem rg_prefix (r : Int) : hasPrefix (rg r) [114] = true ∧ trimPrefix (rg r) [114] = itoa r := by
  have h : hasPrefix (rg r) [114] = true := by simp [hasPrefix, rg, List.isPrefixOf]
  exact ⟨h, by unfold trimPrefix; rw [if_pos h]; rfl⟩
theorem itoa_prefix (n : Int) : hasPrefix (itoa n) [114] = false ∧ trimPrefix (itoa n) [114] = itoa n := by
  obtain ⟨b, r, e, hb⟩ := itoa_head n
  have h : hasPrefix (itoa n) [114] = false := by
    rw [e]
    simp only [hasPrefix, List.isPrefixOf, Bool.and_true, beq_eq_false_iff_ne, ne_eq]
    intro h
    subst h
    rcases hb with hb | hb
    · exact absurd hb (by decide)
    · have : (114 : UInt8).toNat = 114 := rfl
      omega
  exact ⟨h, by unfold trimPrefix; rw [if_neg (by rw [h]; decide)]⟩
/-- What Read has so far. -/
def upd (a b c n : Int) (o : List Value) (q : UInt8) : List Value := if q = 97 then spl o 1 [.int .u8 a] else if q = 98 then spl o 2 [.int .u8 b] else if q = 99 then spl o 3 [.int .u8 c] else spl o 4 [.int .i16 n]
theorem upd_all {k a b c n : Int} (h : Rt k a b c n) : (partsL (cls k)).foldl (upd a b c n) (opL k 0 0 0 0) = opL k a b c n := by
  have ha := h.aa
  have hb := h.bb
  have hc := h.cc
  have hn := h.nn
  unfold regR at ha hb hc
  have u97 : ∀ o, upd a b c n o 97 = spl o 1 [.int .u8 a] := fun _ => rfl
  have u98 : ∀ o, upd a b c n o 98 = spl o 2 [.int .u8 b] := fun _ => rfl
  have u99 : ∀ o, upd a b c n o 99 = spl o 3 [.int .u8 c] := fun _ => rfl
  have u110 : ∀ o, upd a b c n o 110 = spl o 4 [.int .i16 n] := fun _ => rfl
  rcases e : cls k with _ | _ | _ | _ | m <;> rw [e] at ha hb hc hn <;> simp only [fA, fB, fC, fN, Bool.false_eq_true, false_and, or_false, false_or, true_and] at ha hb hc hn <;> simp only [partsL, List.foldl_cons, List.foldl_nil, u97, u98, u99, u110]
  · rw [ha, hb, hc, hn]
  · rw [hb, hc]; rfl
  · rw [ha, hb, hc]; rfl
  · rw [hc]; rfl
  · rw [hn]; rfl
end Go.Tx
namespace Go.Proofs.YtpilffakhkagjaaDoor
open Go Go.Pt Go.RowKit Go.Lib Go.Tx
section
variable {S : Mem}
theorem upd_len {a b c n : Int} {o : List Value} (h : o.length = 5) (q : UInt8) : (upd a b c n o q).length = 5 := by
  unfold upd
  repeat' split
  all_goals rw [spl_length (by rw [h]; simp)]; exact h
def noOp : List Value := opL 0 0 0 0 0
set_option maxHeartbeats 1000000 in
theorem read_spec {k a b c n : Int} (hg : Gl S) (hb : Bd k a b c n) (hr : Rt k a b c n) {Q : List Value → Int → Mem → Prop} (hQ : ∀ S', Keeps S S' [] → Q (opL k a b c n) 0 S') : text_Read S (bt (txt k a b c n)) Q := by
  apply t_text_Read
  unfold b_text_Read
  obtain ⟨m, t4, fr4, cs4, hmx⟩ := hg.mx
  have hm : S.cell 4 0 = some (.int .i64 m) := by rw [cell_of hmx]; rfl
  obtain ⟨hcnt, hspl⟩ := splitB_join 32 (nm k) (piecesL k a b c n) (nm_no32 k) (pieces_no32 k a b c n)
  have l0 := nm_len k
  have hk0 := hb.kk.1
  have hk := hr.kk
  have hpl : (piecesL k a b c n).length = (partsL (cls k)).length := by rw [pieces_map, List.length_map]
  have hlen3 : (partsL (cls k)).length ≤ 3 := by
    rcases h : cls k with _ | _ | _ | _ | m <;> simp [partsL]
  have hall : ∀ q ∈ partsL (cls k), q = 97 ∨ q = 98 ∨ q = 99 ∨ q = 110 := by
    rcases h : cls k with _ | _ | _ | _ | m <;> simp [partsL]
  have hsz : (bt (txt k a b c n)).size < 4294967281 := by
    rw [bt_size, txt_eq]
    have la := rg_len hb.aa
    have lb := rg_len hb.bb
    have lc := rg_len hb.cc
    have ln := itoa_len hb.nn.1 hb.nn.2
    rcases h : cls k with _ | _ | _ | _ | m <;> simp [tl] <;> omega
  refine split_spec hm hsz (by decide) fun sb hsb => ?_
  have e1 : bt (txt k a b c n) = bt (joinC 32 (nm k) (piecesL k a b c n)) := rfl
  rw [e1, hspl, hcnt]
  obtain ⟨S1, hS1⟩ : ∃ S1, S1 = S.set sb (bw 9 (((nm k :: piecesL k a b c n).map bt).map Value.string)) := ⟨_, rfl⟩
  rw [← hS1]
  have hk1 : Keeps S S1 [] := by rw [hS1]; exact Keeps.refl.new hsb
  have hg1 := hg.keep hk1 (by simp) (by simp) (by simp)
  have hcell : ∀ i (hi : i < (nm k :: piecesL k a b c n).length), S1.cell sb i = some (.string (bt ((nm k :: piecesL k a b c n)[i]))) := fun i hi => by
    rw [hS1, cell_of set_same, nthL_eq]
    simp only [List.getElem?_map, List.getElem?_eq_getElem hi, Option.map_some]
  have hc0 : S1.cell sb 0 = some (.string (bt (nm k))) := hcell 0 (by simp)
  refine jn_cut (fun j => j (opL k 0 0 0 0) S1) ?_ fun Jx3 hJ3 => ?_
  rotate_left
  · -- the name is looked for
    refine lp_ind (fun (d : Nat) (o : List Value) S' => ∃ j : Nat, (j : Int) + d = k ∧ o = opL j 0 0 0 0 ∧ S' = S1) ?_ (n := k.toNat) ⟨0, by omega, rfl, rfl⟩
    rintro X d o S' ⟨j, hj, rfl, rfl⟩ ih
    have g0 : nthL (opL j 0 0 0 0) 0 = some (.int .u8 j) := rfl
    refine ⟨rfl, ?_⟩
    rw [gI_i g0, if_pos (by omega), gI_i g0]
    refine ⟨by omega, by omega, ?_⟩
    rw [gS_i (hg1.name (by omega) (by omega)), sl_i]
    refine ⟨by omega, ?_⟩
    rw [gS_i hc0]
    by_cases he : (j : Int) = k
    · rw [if_neg (by rw [he]; simp), he]
      exact hJ3
    · rw [if_pos (fun h => he (nm_inj (by omega) (by omega) hk0 hk (bt_inj h))), gI_i g0, wu8 (by omega) (by omega)]
      refine ih (d - 1) _ _ (by omega) ⟨j + 1, by omega, ?_, rfl⟩
      rfl
  · have g0 : nthL (opL k 0 0 0 0) 0 = some (.int .u8 k) := rfl
    refine ⟨rfl, ?_⟩
    refine jn_cut (fun j => j noOp S1) ?_ fun Jx2 hJ2 => ?_
    rotate_left
    · rw [gI_i g0, if_neg (by omega), gI_i g0]
      refine parts_spec ?_
      rw [if_neg (by rw [bt_size, hpl, w64 (by omega) (by omega)]; simp; omega)]
      exact hJ2
    · refine ⟨rfl, ?_⟩
      refine jn_cut (fun j => ∀ v, v.length = 5 → j v (opL k a b c n) S1) ?_ fun Jx hJx => ?_
      · intro v hv
        refine ⟨hv, rfl, ?_⟩
        refine show_spec hg1 hb ?_
        rw [if_pos hr, if_neg (fun h => h rfl)]
        exact ⟨rfl, hQ S1 hk1⟩
      rw [gI_i g0]
      refine parts_spec ?_
      have it0 : ∀ pre : Bs, nthL ([.string (bt (partsL (cls k))), .int .i64 (pre.length : Int)] : List Value) 0 = some (.string (bt (partsL (cls k)))) := fun _ => rfl
      have it1 : ∀ pre : Bs, nthL ([.string (bt (partsL (cls k))), .int .i64 (pre.length : Int)] : List Value) 1 = some (.int .i64 (pre.length : Int)) := fun _ => rfl
      intro X hX
      have key : ∀ (ls pre : Bs) (o : List Value), o.length = 5 → pre ++ ls = partsL (cls k) → o = pre.foldl (upd a b c n) (opL k 0 0 0 0) → X (noOp, o, [.string (bt (partsL (cls k))), .int .i64 (pre.length : Int)]) S1 := by
        intro ls
        induction ls with
        | nil =>
          intro pre o ho hp he
          refine hX _ _ ?_
          dsimp only
          refine ⟨rfl, ho, rfl, ?_⟩
          rw [gS_i (it0 pre), gI_i (it1 pre), Int.toNat_natCast, if_neg (by rw [bt_size, ← hp]; simp)]
          rw [List.append_nil] at hp
          rw [hp, upd_all hr] at he
          rw [he]
          exact hJx _ rfl
        | cons q ls ih =>
          intro pre o ho hp he
          have hq := hall q (by rw [← hp]; simp)
          have hq128 : q.toNat < 128 := by rcases hq with rfl | rfl | rfl | rfl <;> decide
          have hpre : pre.length + 1 ≤ 3 := by have := congrArg List.length hp; simp at this; omega
          have hplt : pre.length < (piecesL k a b c n).length := by rw [hpl, ← hp]; simp
          refine hX _ _ ?_
          dsimp only
          refine ⟨rfl, ho, rfl, ?_⟩
          rw [gS_i (it0 pre), gI_i (it1 pre), Int.toNat_natCast, if_pos (by rw [bt_size, ← hp]; simp), sl_i, w64 (by omega) (by omega)]
          refine ⟨by omega, by omega, ?_⟩
          have hd : Utf8.decode (bt (partsL (cls k))) pre.length = (q.toNat, 1) := by rw [← hp]; exact decode_at pre q ls hq128
          have hpiece : S1.cell sb (0 + ((pre.length : Int) + 1).toNat * 1) = some (.string (bt (pc a b c n q))) := by
            rw [show 0 + ((pre.length : Int) + 1).toNat * 1 = pre.length + 1 by omega, hcell (pre.length + 1) (by simp; omega)]
            congr 3
            rw [List.getElem_cons_succ]
            simp only [pieces_map, List.getElem_map]
            congr 1
            simp only [← hp]
            simp
          rw [gS_i hpiece, hd]
          dsimp only
          have step : ∀ o', o' = upd a b c n o q → X (noOp, o', [.string (bt (partsL (cls k))), .int .i64 ((pre.length + 1 : Nat) : Int)]) S1 := fun o' ho' => by
            have := ih (pre ++ [q]) o' (by rw [ho']; exact upd_len ho q) (by simpa using hp) (by rw [ho', he]; simp)
            simpa using this
          refine cut_spec ?_
          have reg : ∀ r : Int, 0 ≤ r → r < 16 → pc a b c n q = rg r → trimPrefix (bt (pc a b c n q)).data.toList (ByteArray.mk #[114]).data.toList = itoa r ∧ hasPrefix (bt (pc a b c n q)).data.toList (ByteArray.mk #[114]).data.toList = true := fun r h1 h2 h => by
            have := rg_prefix r
            rw [h]; exact ⟨this.2, this.1⟩
          have regv : ∀ r, regR (fA (cls k)) r ∨ regR (fB (cls k)) r ∨ regR (fC (cls k)) r → r < 16 := fun r h => by
            unfold regR at h; omega
          have one : ∀ (r : Int) (q0 : UInt8) (i : Nat), q = q0 → (q0 = 97 ∨ q0 = 98 ∨ q0 = 99) → 0 ≤ r → r < 16 → pc a b c n q = rg r → strconv_ParseInt S1 (bt (itoa r)) 10 16 fun t v S' => t = r ∧ v = .nilIface ∧ S' = S1 := fun r q0 i _ _ h1 h2 _ =>
            parse_spec (by rw [bt_size]; have := itoa_len (n := r) (by omega) (by omega); omega) (parse_itoa (by omega) (by omega)) ⟨rfl, rfl, rfl⟩
          have hni : ∀ {K : Bool → Prop}, K true → ni .nilIface K := fun h => ⟨true, .inl ⟨rfl, rfl⟩, h⟩
          rcases hq with rfl | rfl | rfl | rfl
          · have h16 : a < 16 := regv a (.inl hr.aa)
            obtain ⟨p1, p2⟩ := reg a hb.aa.1 h16 rfl
            rw [p1, p2]
            refine parse_spec (v := a) (by rw [bt_size]; have := itoa_len (n := a) (by have := hb.aa; omega) (by omega); omega) (parse_itoa (by have := hb.aa; omega) (by omega)) ?_
            refine jn_cut (fun j => j noOp S1) ⟨rfl, ?_⟩ fun Jx1 hJ1 => ?_
            · rw [if_pos (by decide), wu8 hb.aa.1 hb.aa.2]; exact step _ rfl
            · refine hni ?_
              rw [if_neg (by decide), if_neg (by decide), if_pos (by decide), if_neg (by have := hb.aa; omega), if_neg (by omega)]
              exact hJ1
          · have h16 : b < 16 := regv b (.inr (.inl hr.bb))
            obtain ⟨p1, p2⟩ := reg b hb.bb.1 h16 rfl
            rw [p1, p2]
            refine parse_spec (v := b) (by rw [bt_size]; have := itoa_len (n := b) (by have := hb.bb; omega) (by omega); omega) (parse_itoa (by have := hb.bb; omega) (by omega)) ?_
            refine jn_cut (fun j => j noOp S1) ⟨rfl, ?_⟩ fun Jx1 hJ1 => ?_
            · rw [if_neg (by decide), if_pos (by decide), wu8 hb.bb.1 hb.bb.2]; exact step _ rfl
            · refine hni ?_
              rw [if_neg (by decide), if_neg (by decide), if_pos (by decide), if_neg (by have := hb.bb; omega), if_neg (by omega)]
              exact hJ1
          · have h16 : c < 16 := regv c (.inr (.inr hr.cc))
            obtain ⟨p1, p2⟩ := reg c hb.cc.1 h16 rfl
            rw [p1, p2]
            refine parse_spec (v := c) (by rw [bt_size]; have := itoa_len (n := c) (by have := hb.cc; omega) (by omega); omega) (parse_itoa (by have := hb.cc; omega) (by omega)) ?_
            refine jn_cut (fun j => j noOp S1) ⟨rfl, ?_⟩ fun Jx1 hJ1 => ?_
            · rw [if_neg (by decide), if_neg (by decide), if_pos (by decide), wu8 hb.cc.1 hb.cc.2]; exact step _ rfl
            · refine hni ?_
              rw [if_neg (by decide), if_neg (by decide), if_pos (by decide), if_neg (by have := hb.cc; omega), if_neg (by omega)]
              exact hJ1
          · have hp2 := itoa_prefix n
            have p1 : trimPrefix (bt (pc a b c n 110)).data.toList (ByteArray.mk #[114]).data.toList = itoa n := hp2.2
            have p2 : hasPrefix (bt (pc a b c n 110)).data.toList (ByteArray.mk #[114]).data.toList = false := hp2.1
            rw [p1, p2]
            refine parse_spec (v := n) (by rw [bt_size]; have := itoa_len hb.nn.1 hb.nn.2; omega) (parse_itoa hb.nn.1 hb.nn.2) ?_
            refine jn_cut (fun j => j noOp S1) ⟨rfl, ?_⟩ fun Jx1 hJ1 => ?_
            · rw [if_neg (by decide), if_neg (by decide), if_neg (by decide), wrap_in (k := .i16) (x := n) ⟨hb.nn.1, hb.nn.2⟩]; exact step _ rfl
            · refine hni ?_
              rw [if_neg (by decide), if_neg (by decide), if_neg (by decide)]
              exact hJ1
      exact key (partsL (cls k)) [] (opL k 0 0 0 0) rfl rfl rfl
/-- A word that is no name is read as none. -/
theorem read_what (hg : Gl S) {Q : List Value → Int → Mem → Prop} (hQ : ∀ S', Keeps S S' [] → Q noOp 4 S') : text_Read S (bt [119, 104, 97, 116]) Q := by
  apply t_text_Read
  unfold b_text_Read
  obtain ⟨m, t4, fr4, cs4, hmx⟩ := hg.mx
  have hm : S.cell 4 0 = some (.int .i64 m) := by rw [cell_of hmx]; rfl
  obtain ⟨hcnt, hspl⟩ := splitB_join 32 [119, 104, 97, 116] [] (by decide) (by simp)
  rw [joinC_nil] at hcnt hspl
  refine split_spec hm (by rw [bt_size]; decide) (by decide) fun sb hsb => ?_
  rw [hspl, hcnt]
  obtain ⟨S1, hS1⟩ : ∃ S1, S1 = S.set sb (bw 9 ((([[119, 104, 97, 116]] : List Bs).map bt).map Value.string)) := ⟨_, rfl⟩
  rw [← hS1]
  have hk1 : Keeps S S1 [] := by rw [hS1]; exact Keeps.refl.new hsb
  have hg1 := hg.keep hk1 (by simp) (by simp) (by simp)
  have hc0 : S1.cell sb 0 = some (.string (bt [119, 104, 97, 116])) := by rw [hS1, cell_of set_same]; rfl
  refine jn_cut (fun j => j (opL 23 0 0 0 0) S1) ?_ fun Jx3 hJ3 => ?_
  · refine ⟨rfl, ?_⟩
    refine jn_cut (fun _ => True) trivial fun j _ => ?_
    rw [gI_i (show nthL (opL 23 0 0 0 0) 0 = some (.int .u8 23) from rfl), if_pos rfl]
    exact hQ S1 hk1
  · refine lp_ind (fun (d : Nat) (o : List Value) S' => ∃ j : Nat, (j : Int) + d = 23 ∧ o = opL j 0 0 0 0 ∧ S' = S1) ?_ (n := 23) ⟨0, by omega, rfl, rfl⟩
    rintro X d o S' ⟨j, hj, rfl, rfl⟩ ih
    have g0 : nthL (opL j 0 0 0 0) 0 = some (.int .u8 j) := rfl
    refine ⟨rfl, ?_⟩
    rw [gI_i g0]
    by_cases h23 : (j : Int) < 23
    · rw [if_pos h23, gI_i g0]
      refine ⟨by omega, by omega, ?_⟩
      rw [gS_i (hg1.name (by omega) (by omega)), sl_i]
      refine ⟨by omega, ?_⟩
      rw [gS_i hc0, if_pos (fun h => nm_what j (bt_inj h)), gI_i g0, wu8 (by omega) (by omega)]
      exact ih (d - 1) _ _ (by omega) ⟨j + 1, by omega, rfl, rfl⟩
    · rw [if_neg h23]
      have : (j : Int) = 23 := by omega
      rw [this]
      exact hJ3
theorem awake_spec (hg : Gl S) {Q : Bool → Mem → Prop} (hQ : ∀ S', Keeps S S' [] → Q true S') : hermitcrablaw03_awake S Q := by
  apply t_hermitcrablaw03_awake
  unfold b_hermitcrablaw03_awake
  have e : bt (txt 11 2 2 0 (-1)) = ⟨#[97, 100, 100, 105, 32, 114, 50, 32, 114, 50, 32, 45, 49]⟩ := by decide +kernel
  rw [← e]
  refine read_spec hg ⟨by decide, by decide, by decide, by decide, by decide⟩ (by decide) fun S' hk => ⟨rfl, ?_⟩
  rw [if_pos rfl]
  exact ⟨by kernel_rfl, hQ S' hk⟩
end
end Go.Proofs.YtpilffakhkagjaaDoor
