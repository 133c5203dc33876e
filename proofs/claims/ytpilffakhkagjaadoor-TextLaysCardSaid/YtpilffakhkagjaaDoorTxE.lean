/- An instruction's text: by the reference, and by Show. -/
import Derived.Test.YtpilffakhkagjaaDoorTxD
import Derived.Laws.RangeString
namespace Go.Tx
open Go Go.Lib
theorem decode_at (pre : Bs) (q : UInt8) (ls : Bs) (hq : q.toNat < 128) : Utf8.decode (bt (pre ++ q :: ls)) pre.length = (q.toNat, 1) := by
  have hlt : pre.length < (bt (pre ++ q :: ls)).size := by rw [bt_size]; simp
  have e : (bt (pre ++ q :: ls))[pre.length]'hlt = q := by
    show (pre ++ q :: ls).toArray[pre.length]'(by simp) = q
    rw [List.getElem_toArray]
    simp
  rw [decode_ascii _ _ hlt (by rw [e]; exact hq), e]
/-- What a part of a text is. -/
def pieceT (a b c n : Int) (q : UInt8) : Bs := if q = 97 then 32 :: rg a else if q = 98 then 32 :: rg b else if q = 99 then 32 :: rg c else 32 :: itoa n
theorem txt_parts (k a b c n : Int) : txt k a b c n = nm k ++ (partsL (cls k)).flatMap (pieceT a b c n) := by
  have p97 : pieceT a b c n 97 = 32 :: rg a := rfl
  have p98 : pieceT a b c n 98 = 32 :: rg b := rfl
  have p99 : pieceT a b c n 99 = 32 :: rg c := rfl
  have p110 : pieceT a b c n 110 = 32 :: itoa n := rfl
  unfold txt piecesL
  rcases h : cls k with _ | _ | _ | _ | m <;> simp only [joinC, partsL, List.flatMap_cons, List.flatMap_nil, p97, p98, p99, p110]
end Go.Tx
namespace Go.Proofs.YtpilffakhkagjaaDoor
open Go Go.Pt Go.RowKit Go.Lib Go.Tx
section
variable {S : Mem}
theorem add_ok {x y : Bs} (h1 : x.length ≤ 1000) (h2 : y.length ≤ 1000) : ByteArray.size (bt x) + ByteArray.size (bt y) ≤ 9223372036854775807 := by
  rw [bt_size, bt_size]; omega
theorem rgt (r : Int) : ByteArray.mk #[32, 114] ++ bt (itoa r) = bt (tl (rg r)) := bt_append [32, 114] (itoa r)
theorem nut (n : Int) : ByteArray.mk #[32] ++ bt (itoa n) = bt (tl (itoa n)) := bt_append [32] (itoa n)
theorem refText_spec {k a b c n : Int} (hb : Bd k a b c n) (hk : k < 23) {Q : ByteArray → Mem → Prop} (hQ : ∀ S', Keeps S S' [] → Q (bt (txt k a b c n)) S') : hermitcrabref01_Text S k a b c n Q := by
  apply t_hermitcrabref01_Text
  unfold b_hermitcrabref01_Text
  refine refName_spec hb.kk.1 hk fun S1 hk1 => ?_
  refine refFields_spec hb.kk.1 hk fun S2 hk2 => ?_
  have hq := hQ S2 (hk1.trans hk2)
  rw [txt_eq] at hq
  have l0 := nm_len k
  have la := rg_len hb.aa
  have lb := rg_len hb.bb
  have lc := rg_len hb.cc
  have ln := itoa_len hb.nn.1 hb.nn.2
  have na := itoa_len (n := a) (by have := hb.aa; omega) (by have := hb.aa; omega)
  have nb := itoa_len (n := b) (by have := hb.bb; omega) (by have := hb.bb; omega)
  have nc := itoa_len (n := c) (by have := hb.cc; omega) (by have := hb.cc; omega)
  have tla : ∀ q : Bs, (tl q).length = q.length + 1 := fun q => rfl
  have hc := cls_le k
  have reg : ∀ (s : Bs) {r : Int}, s.length ≤ 100 → 0 ≤ r ∧ r ≤ 255 → ByteArray.size ⟨#[32, 114]⟩ + ByteArray.size (bt (itoa r)) ≤ 9223372036854775807 ∧ ByteArray.size (bt s) + ByteArray.size (⟨#[32, 114]⟩ ++ bt (itoa r)) ≤ 9223372036854775807 ∧ bt s ++ (⟨#[32, 114]⟩ ++ bt (itoa r)) = bt (s ++ tl (rg r)) := fun s {r} hs hr => by
    have := itoa_len (n := r) (by omega) (by omega)
    have l2 := rg_len hr
    refine ⟨add_ok (x := [32, 114]) (by simp) (by omega), ?_, ?_⟩
    · rw [rgt]; exact add_ok (by omega) (by rw [tla]; omega)
    · rw [rgt, bt_append]
  have num : ∀ (s : Bs), s.length ≤ 100 → ByteArray.size ⟨#[32]⟩ + ByteArray.size (bt (itoa n)) ≤ 9223372036854775807 ∧ ByteArray.size (bt s) + ByteArray.size (⟨#[32]⟩ ++ bt (itoa n)) ≤ 9223372036854775807 ∧ bt s ++ (⟨#[32]⟩ ++ bt (itoa n)) = bt (s ++ tl (itoa n)) := fun s hs => by
    refine ⟨add_ok (x := [32]) (by simp) (by omega), ?_, ?_⟩
    · rw [nut]; exact add_ok (by omega) (by rw [tla]; omega)
    · rw [nut, bt_append]
  have hn := hb.nn
  have ra := reg (nm k) (by omega) hb.aa
  have rb := reg (nm k ++ tl (rg a)) (by rw [List.length_append, tla]; omega) hb.bb
  have rc := reg (nm k ++ tl (rg a) ++ tl (rg b)) (by rw [List.length_append, List.length_append, tla, tla]; omega) hb.cc
  have n0 := num (nm k) (by omega)
  have n1 := num (nm k ++ tl (rg a)) (by rw [List.length_append, tla]; omega)
  have n2 := num (nm k ++ tl (rg a) ++ tl (rg b)) (by rw [List.length_append, List.length_append, tla, tla]; omega)
  have wa : IntKind.i64.wrap a = a := w64 (by have := hb.aa; omega) (by have := hb.aa; omega)
  have wb : IntKind.i64.wrap b = b := w64 (by have := hb.bb; omega) (by have := hb.bb; omega)
  have wc : IntKind.i64.wrap c = c := w64 (by have := hb.cc; omega) (by have := hb.cc; omega)
  have wn : IntKind.i64.wrap n = n := w64 (by omega) (by omega)
  have sa : ∀ {Q : ByteArray → Mem → Prop}, Q (bt (itoa a)) S2 → hermitcrabref01_Num S2 a Q := fun h => num_spec (by have := hb.aa; omega) (by have := hb.aa; omega) h
  have sb : ∀ {Q : ByteArray → Mem → Prop}, Q (bt (itoa b)) S2 → hermitcrabref01_Num S2 b Q := fun h => num_spec (by have := hb.bb; omega) (by have := hb.bb; omega) h
  have sc : ∀ {Q : ByteArray → Mem → Prop}, Q (bt (itoa c)) S2 → hermitcrabref01_Num S2 c Q := fun h => num_spec (by have := hb.cc; omega) (by have := hb.cc; omega) h
  have sn : ∀ {Q : ByteArray → Mem → Prop}, Q (bt (itoa n)) S2 → hermitcrabref01_Num S2 n Q := fun h => num_spec hn.1 hn.2 h
  simp only [jn]
  rw [wa, wb, wc, wn]
  rcases h : cls k with _ | _ | _ | _ | _ | m
  · rw [h] at hq
    simp only [rf]
    rw [if_neg (by decide), if_neg (by decide), if_neg (by decide), if_neg (by decide)]
    simpa using hq
  · rw [h] at hq
    simp only [rf]
    rw [if_pos (by decide)]
    refine sa ⟨ra.1, ra.2.1, ?_⟩
    rw [ra.2.2, if_neg (by decide), if_neg (by decide), if_pos (by decide)]
    refine sn ⟨n1.1, n1.2.1, ?_⟩
    rw [n1.2.2]
    simpa using hq
  · rw [h] at hq
    simp only [rf]
    rw [if_neg (by decide), if_neg (by decide), if_neg (by decide), if_pos (by decide)]
    refine sn ⟨n0.1, n0.2.1, ?_⟩
    rw [n0.2.2]; exact hq
  · rw [h] at hq
    simp only [rf]
    rw [if_pos (by decide)]
    refine sa ⟨ra.1, ra.2.1, ?_⟩
    rw [ra.2.2, if_pos (by decide)]
    refine sb ⟨rb.1, rb.2.1, ?_⟩
    rw [rb.2.2, if_neg (by decide), if_pos (by decide)]
    refine sn ⟨n2.1, n2.2.1, ?_⟩
    rw [n2.2.2]
    simpa using hq
  · rw [h] at hq
    simp only [rf]
    rw [if_pos (by decide)]
    refine sa ⟨ra.1, ra.2.1, ?_⟩
    rw [ra.2.2, if_pos (by decide)]
    refine sb ⟨rb.1, rb.2.1, ?_⟩
    rw [rb.2.2, if_pos (by decide)]
    refine sc ⟨rc.1, rc.2.1, ?_⟩
    rw [rc.2.2, if_neg (by decide)]
    simpa using hq
  · omega
/-- Show. -/
theorem show_spec {k a b c n : Int} (hg : Gl S) (hb : Bd k a b c n) {Q : ByteArray → Mem → Prop} (hQ : Q (bt (if Rt k a b c n then txt k a b c n else [])) S) : text_Show S (opL k a b c n) Q := by
  apply t_text_Show
  unfold b_text_Show
  refine ⟨rfl, ?_⟩
  refine jn_cut (fun j => Rt k a b c n → j S) ?_ fun j hj => ?_
  rotate_left
  · refine right_spec ?_
    by_cases hr : Rt k a b c n
    · rw [decide_eq_true hr, if_pos rfl]; exact hj hr
    · rw [decide_eq_false hr, if_neg (by decide)]
      rw [if_neg hr] at hQ
      exact hQ
  intro hr
  rw [if_pos hr] at hQ
  have g0 : nthL (opL k a b c n) 0 = some (.int .u8 k) := rfl
  have g1 : nthL (opL k a b c n) 1 = some (.int .u8 a) := rfl
  have g2 : nthL (opL k a b c n) 2 = some (.int .u8 b) := rfl
  have g3 : nthL (opL k a b c n) 3 = some (.int .u8 c) := rfl
  have g4 : nthL (opL k a b c n) 4 = some (.int .i16 n) := rfl
  rw [gI_i g0]
  refine ⟨hb.kk.1, hr.kk, ?_⟩
  rw [gS_i (hg.name hb.kk.1 hr.kk)]
  refine jn_cut (fun j => j (bt (txt k a b c n)) S) hQ fun Jx hJx => ?_
  rw [gI_i g0]
  refine parts_spec ?_
  rw [txt_parts] at hJx
  have l0 := nm_len k
  have piece_len : ∀ q, (pieceT a b c n q).length ≤ 10 := fun q => by
    have la := rg_len hb.aa
    have lb := rg_len hb.bb
    have lc := rg_len hb.cc
    have ln := itoa_len hb.nn.1 hb.nn.2
    unfold pieceT
    repeat' split
    all_goals simp only [List.length_cons]; omega
  have hall : ∀ q ∈ partsL (cls k), q.toNat < 128 := by
    rcases h : cls k with _ | _ | _ | _ | m <;> simp [partsL]
  have hlen : (partsL (cls k)).length ≤ 3 := by
    rcases h : cls k with _ | _ | _ | _ | m <;> simp [partsL]
  obtain ⟨t3, fr3, hpow⟩ := hg.pow
  have it0 : ∀ pre : Bs, nthL ([.string (bt (partsL (cls k))), .int .i64 (pre.length : Int)] : List Value) 0 = some (.string (bt (partsL (cls k)))) := fun _ => rfl
  have it1 : ∀ pre : Bs, nthL ([.string (bt (partsL (cls k))), .int .i64 (pre.length : Int)] : List Value) 1 = some (.int .i64 (pre.length : Int)) := fun _ => rfl
  intro X hX
  have key : ∀ (ls pre s : Bs), pre ++ ls = partsL (cls k) → s.length ≤ 4 + 10 * pre.length → s ++ ls.flatMap (pieceT a b c n) = nm k ++ (partsL (cls k)).flatMap (pieceT a b c n) → X (bt s, [.string (bt (partsL (cls k))), .int .i64 (pre.length : Int)]) S := by
    intro ls
    induction ls with
    | nil =>
      intro pre s hp hs he
      refine hX _ _ ?_
      dsimp only
      refine ⟨rfl, ?_⟩
      rw [gS_i (it0 pre), gI_i (it1 pre), Int.toNat_natCast, if_neg (by rw [bt_size, ← hp]; simp)]
      simp only [List.flatMap_nil, List.append_nil] at he
      rw [he]; exact hJx
    | cons q ls ih =>
      intro pre s hp hs he
      have hq : q.toNat < 128 := hall q (by rw [← hp]; simp)
      have hpl : pre.length + 1 ≤ 3 := by have := congrArg List.length hp; simp at this; omega
      refine hX _ _ ?_
      dsimp only
      refine ⟨rfl, ?_⟩
      rw [gS_i (it0 pre), gI_i (it1 pre), Int.toNat_natCast, if_pos (by rw [bt_size, ← hp]; simp)]
      have hd : Utf8.decode (bt (partsL (cls k))) pre.length = (q.toNat, 1) := by rw [← hp]; exact decode_at pre q ls hq
      rw [hd]
      dsimp only
      have step : X (bt (s ++ pieceT a b c n q), [.string (bt (partsL (cls k))), .int .i64 ((pre.length + 1 : Nat) : Int)]) S := by
        have := ih (pre ++ [q]) (s ++ pieceT a b c n q) (by simpa using hp) (by have := piece_len q; simp only [List.length_append, List.length_singleton]; omega) (by simpa using he)
        simpa using this
      have regs : ∀ r : Int, 0 ≤ r ∧ r ≤ 255 → pieceT a b c n q = tl (rg r) → strconv_Itoa S (IntKind.i64.wrap r) fun t S' => ByteArray.size ⟨#[32, 114]⟩ + ByteArray.size t ≤ 9223372036854775807 ∧ ByteArray.size (bt s) + ByteArray.size (⟨#[32, 114]⟩ ++ t) ≤ 9223372036854775807 ∧ X (bt s ++ (⟨#[32, 114]⟩ ++ t), [.string (bt (partsL (cls k))), .int .i64 ((pre.length + 1 : Nat) : Int)]) S' := fun r hr hpc => by
        rw [w64 (by omega) (by omega)]
        have l1 := itoa_len (n := r) (by omega) (by omega)
        have l2 := rg_len hr
        refine itoa_spec (by omega) (by omega) hpow ⟨add_ok (x := [32, 114]) (by simp) (by omega), ?_, ?_⟩
        · rw [rgt]; exact add_ok (by omega) (by show (rg r).length + 1 ≤ 1000; omega)
        · rw [rgt, bt_append, ← hpc]; exact step
      have e97 : (((q.toNat : Nat) : Int) = 97) ↔ q = 97 := by
        constructor
        · intro h; apply UInt8.toNat.inj; have : (97 : UInt8).toNat = 97 := rfl; omega
        · intro h; subst h; rfl
      have e98 : (((q.toNat : Nat) : Int) = 98) ↔ q = 98 := by
        constructor
        · intro h; apply UInt8.toNat.inj; have : (98 : UInt8).toNat = 98 := rfl; omega
        · intro h; subst h; rfl
      have e99 : (((q.toNat : Nat) : Int) = 99) ↔ q = 99 := by
        constructor
        · intro h; apply UInt8.toNat.inj; have : (99 : UInt8).toNat = 99 := rfl; omega
        · intro h; subst h; rfl
      by_cases h97 : q = 97
      · rw [if_pos (e97.2 h97), gI_i g1]
        exact regs a hb.aa (by unfold pieceT; rw [if_pos h97]; rfl)
      rw [if_neg (fun h => h97 (e97.1 h))]
      by_cases h98 : q = 98
      · rw [if_pos (e98.2 h98), gI_i g2]
        exact regs b hb.bb (by unfold pieceT; rw [if_neg h97, if_pos h98]; rfl)
      rw [if_neg (fun h => h98 (e98.1 h))]
      by_cases h99 : q = 99
      · rw [if_pos (e99.2 h99), gI_i g3]
        exact regs c hb.cc (by unfold pieceT; rw [if_neg h97, if_neg h98, if_pos h99]; rfl)
      rw [if_neg (fun h => h99 (e99.1 h)), gI_i g4]
      have hn := hb.nn
      rw [w64 (by omega) (by omega)]
      have hpc : pieceT a b c n q = tl (itoa n) := by unfold pieceT; rw [if_neg h97, if_neg h98, if_neg h99]; rfl
      have l1 := itoa_len hn.1 hn.2
      refine itoa_spec (by omega) (by omega) hpow ⟨add_ok (x := [32]) (by simp) (by omega), ?_, ?_⟩
      · rw [nut]; exact add_ok (by omega) (by show (itoa n).length + 1 ≤ 1000; omega)
      · rw [nut, bt_append, ← hpc]; exact step
  exact key (partsL (cls k)) [] (nm k) rfl (by simpa using l0) rfl
end
end Go.Proofs.YtpilffakhkagjaaDoor
