/- PRINTED BY pt.py: functions. -/
import Derived.Test.YtpilffakhkagjaaDoorPtS
namespace Go.Proofs.YtpilffakhkagjaaDoor
open Go Go.Pt
attribute [local irreducible] Code.wp Back bodyPost wpList FR WL WC WQ WA AW Tr Yc HC AllC
set_option maxRecDepth 20000
set_option maxHeartbeats 4000000
set_option linter.unusedVariables false
def b_text_Read (S : Mem) (line : ByteArray) (Q : List Value → Int → Mem → Prop) : Prop :=
  strings_Split S line (⟨#[32]⟩) fun t Sx =>
  jn (fun (o : List Value) (Sx_1 : Mem) =>
      o.length = 5 ∧
      jn (fun (v : List Value) (Sx_2 : Mem) =>
          v.length = 5 ∧
          jn (fun (v_1 : List Value) (o_1 : List Value) (Sx_3 : Mem) =>
              v_1.length = 5 ∧
              o_1.length = 5 ∧
              text_Show Sx_3 o_1 fun t_1 Sx_4 =>
              if t_1 ≠ line then
                Q ([.int .u8 0, .int .u8 0, .int .u8 0, .int .u8 0, .int .i16 0]) 4 Sx_4
              else
              o_1.all (·.oneCell') = true ∧
              Q o_1 0 Sx_4) fun Jx =>
          gI (nthL o 0) .u8 fun t_2 =>
          text_parts Sx_2 t_2 fun t_3 Sx_5 =>
          lp (fun Xx (z : List Value × List Value × List Value) (Sx_6 : Mem) =>
              match z with
              | (v_2, o_2, v_3) =>
                v_2.length = 5 ∧
                o_2.length = 5 ∧
                v_3.length = 2 ∧
                gS (nthL v_3 0) fun s =>
                gI (nthL v_3 1) .i64 fun p =>
                if Int.toNat p < ByteArray.size s then
                  sl t fun b_3 o_3 n n_1 =>
                  0 ≤ IntKind.i64.wrap (((Int.toNat p : Nat) : Int) + 1) ∧ IntKind.i64.wrap (((Int.toNat p : Nat) : Int) + 1) < ((n : Nat) : Int) ∧
                  gS (Sx_6.cell b_3 (o_3 + (IntKind.i64.wrap (((Int.toNat p : Nat) : Int) + 1)).toNat * 1)) fun t_4 =>
                  strings_CutPrefix Sx_6 t_4 (⟨#[114]⟩) fun t_5 t_6 Sx_7 =>
                  strconv_ParseInt Sx_7 t_5 10 16 fun t_7 t_8 Sx_8 =>
                  jn (fun (v_4 : List Value) (Sx_9 : Mem) =>
                      v_4.length = 5 ∧
                      if ((Utf8.decode s (Int.toNat p)).1 : Int) = 97 then
                        Xx (v_4, spl o_2 1 ([.int .u8 (IntKind.u8.wrap t_7)]), [.string s, .int .i64 ((Int.toNat p + (Utf8.decode s (Int.toNat p)).2 : Nat) : Int)]) Sx_9
                      else
                      if ((Utf8.decode s (Int.toNat p)).1 : Int) = 98 then
                        Xx (v_4, spl o_2 2 ([.int .u8 (IntKind.u8.wrap t_7)]), [.string s, .int .i64 ((Int.toNat p + (Utf8.decode s (Int.toNat p)).2 : Nat) : Int)]) Sx_9
                      else
                      if ((Utf8.decode s (Int.toNat p)).1 : Int) = 99 then
                        Xx (v_4, spl o_2 3 ([.int .u8 (IntKind.u8.wrap t_7)]), [.string s, .int .i64 ((Int.toNat p + (Utf8.decode s (Int.toNat p)).2 : Nat) : Int)]) Sx_9
                      else
                      Xx (v_4, spl o_2 4 ([.int .i16 (IntKind.i16.wrap t_7)]), [.string s, .int .i64 ((Int.toNat p + (Utf8.decode s (Int.toNat p)).2 : Nat) : Int)]) Sx_9) fun Jx_1 =>
                  ni t_8 fun i =>
                  if (!i) = true then
                    Q ([.int .u8 0, .int .u8 0, .int .u8 0, .int .u8 0, .int .i16 0]) 4 Sx_8
                  else
                  if t_6 ≠ decide (((Utf8.decode s (Int.toNat p)).1 : Int) ≠ 110) then
                    Q ([.int .u8 0, .int .u8 0, .int .u8 0, .int .u8 0, .int .i16 0]) 4 Sx_8
                  else
                  if ((Utf8.decode s (Int.toNat p)).1 : Int) ≠ 110 then
                    if t_7 < 0 then
                      Q ([.int .u8 0, .int .u8 0, .int .u8 0, .int .u8 0, .int .i16 0]) 4 Sx_8
                    else
                    if 15 < t_7 then
                      Q ([.int .u8 0, .int .u8 0, .int .u8 0, .int .u8 0, .int .i16 0]) 4 Sx_8
                    else
                    Jx_1 v_2 Sx_8
                  else
                  Jx_1 v_2 Sx_8
                else
                Jx v_2 o_2 Sx_6) (v, o, [.string t_3, .int .i64 0]) Sx_5) fun Jx_2 =>
      gI (nthL o 0) .u8 fun t_9 =>
      if t_9 = 23 then
        Q ([.int .u8 0, .int .u8 0, .int .u8 0, .int .u8 0, .int .i16 0]) 4 Sx_1
      else
      gI (nthL o 0) .u8 fun t_10 =>
      text_parts Sx_1 t_10 fun t_11 Sx_10 =>
      if (t.n : Int) ≠ IntKind.i64.wrap (1 + (ByteArray.size t_11 : Int)) then
        Q ([.int .u8 0, .int .u8 0, .int .u8 0, .int .u8 0, .int .i16 0]) 4 Sx_10
      else
      Jx_2 ([.int .u8 0, .int .u8 0, .int .u8 0, .int .u8 0, .int .i16 0]) Sx_10) fun Jx_3 =>
  lp (fun Xx_1 (o_4 : List Value) (Sx_11 : Mem) =>
      o_4.length = 5 ∧
      gI (nthL o_4 0) .u8 fun t_12 =>
      if t_12 < 23 then
        gI (nthL o_4 0) .u8 fun t_13 =>
        0 ≤ t_13 ∧ t_13 < 23 ∧
        gS (Sx_11.cell 0 (0 + t_13.toNat * 1)) fun t_14 =>
        sl t fun b_4 o_5 n_2 n_3 =>
        (0 : Int) < (n_2 : Nat) ∧
        gS (Sx_11.cell b_4 o_5) fun t_15 =>
        if t_14 ≠ t_15 then
          gI (nthL o_4 0) .u8 fun t_16 =>
          Xx_1 (spl o_4 0 ([.int .u8 (IntKind.u8.wrap (t_16 + 1))])) Sx_11
        else
        Jx_3 o_4 Sx_11
      else
      Jx_3 o_4 Sx_11) ([.int .u8 0, .int .u8 0, .int .u8 0, .int .u8 0, .int .i16 0]) Sx
theorem t_text_Read {S : Mem} {line : ByteArray} {Q : List Value → Int → Mem → Prop} (H : b_text_Read S line Q) : text_Read S line Q := by
  unfold b_text_Read at H
  refine Tr.intro Tryd.func10 rfl Tryd.ntmps10 rfl fun w0 => ?_
  refine c_seq ?_
  refine c_region ?_
  refine s_alloc rfl fun b => ?_
  refine s_p rfl (y_assign rfl) ?_
  refine s_nil (q_then ?_)
  refine c_seq ?_
  refine c_region ?_
  refine s_p rfl (y_move rfl) ?_
  refine s_call rfl rfl H fun rv Sx H2 => ?_
  clear H
  obtain ⟨t, rfl, H⟩ := H2
  refine s_p rfl (y_assign rfl) ?_
  refine s_nil (q_then ?_)
  refine c_seq ?_
  refine c_region ?_
  refine s_alloc rfl fun b_1 => ?_
  refine s_nil (q_then ?_)
  refine c_join2 H (fun (J : List Value → Mem → Prop) (z : List Value) S => J z S) (fun z => ⟨113, [(0, .string line), (2, .pointer (some ⟨b, 0, none⟩)), (4, eL t), (5, .pointer (some ⟨b_1, 0, none⟩))]⟩) (fun z => [⟨b, 24, [.int .u8 0, .int .u8 0, .int .u8 0, .int .u8 0, .int .i16 0]⟩, ⟨b_1, 24, z⟩]) ?_ ?_
  · clear H
    rintro o Sx_1 H
    obtain ⟨ho, H⟩ := H
    refine c_join2 H (fun (J : List Value → Mem → Prop) (z : List Value) S => J z S) (fun z => ⟨113, [(0, .string line), (2, .pointer (some ⟨b, 0, none⟩)), (4, eL t), (5, .pointer (some ⟨b_1, 0, none⟩))]⟩) (fun z => [⟨b, 24, z⟩, ⟨b_1, 24, o⟩]) ?_ ?_
    · clear H
      rintro v Sx_2 H
      obtain ⟨hv, H⟩ := H
      refine c_join2 H (fun (J : List Value → List Value → Mem → Prop) (z : List Value × List Value) S => J z.1 z.2 S) (fun z => ⟨113, [(0, .string line), (2, .pointer (some ⟨b, 0, none⟩)), (5, .pointer (some ⟨b_1, 0, none⟩))]⟩) (fun z => [⟨b, 24, z.1⟩, ⟨b_1, 24, z.2⟩]) ?_ ?_
      · clear H
        rintro ⟨v_1, o_1⟩ Sx_3 H
        obtain ⟨hv_1, H⟩ := H
        obtain ⟨ho_1, H⟩ := H
        refine c_seq ?_
        refine c_seq ?_
        refine c_region ?_
        refine s_v rfl (y_ldA rfl ho_1) (hc_VP (k := 5) 1 rfl (lpart_all ho_1)) ?_
        refine s_call rfl rfl H fun rv Sx_4 H2 => ?_
        clear H
        obtain ⟨t_1, rfl, H⟩ := H2
        refine s_p rfl (y_move rfl) ?_
        replace H := ite_e H
        rcases H with ⟨c, H⟩ | ⟨c, H⟩
        · refine s_p rfl (yT (y_neS rfl rfl) c) ?_
          refine s_nil (q_then ?_)
          refine c_t rfl rfl ?_
          refine c_seq ?_
          refine c_region ?_
          refine s_p rfl (y_build rfl rfl) ?_
          refine s_stV_all 0 rfl rfl rfl rfl rfl rfl hv_1 rfl ?_
          refine s_p rfl (y_assign rfl) ?_
          refine s_nil (q_then ?_)
          refine c_ret (q_then_ret ?_)
          exact q_ret Tryd.results10 (rv_cellA rfl (hc_VP (k := 5) 0 rfl rfl) rfl (rv_tmp rfl rv_nil)) ⟨_, _, rfl, rfl, H⟩
        · refine s_p rfl (yF (y_neS rfl rfl) c) ?_
          refine s_nil (q_then ?_)
          refine c_f rfl rfl ?_
          refine c_skip (q_then ?_)
          refine c_seq ?_
          refine c_region ?_
          refine s_v rfl (y_ldA rfl ho_1) (hc_VP (k := 5) 1 rfl (lpart_all ho_1)) ?_
          obtain ⟨c_1, H⟩ := H
          refine s_stV_all 0 rfl rfl rfl rfl rfl ho_1 hv_1 c_1 ?_
          refine s_p rfl (y_assign rfl) ?_
          refine s_nil (q_then ?_)
          refine c_ret ?_
          exact q_ret Tryd.results10 (rv_cellA rfl (hc_VP (k := 5) 0 rfl (lpart_all ho_1)) ho_1 (rv_tmp rfl rv_nil)) ⟨_, _, rfl, ho_1, H⟩
      · clear H
        intro Jx hJx H
        refine c_seq ?_
        refine c_region ?_
        refine s_p rfl (y_fa rfl rfl) ?_
        obtain ⟨t_2, ht_2, H⟩ := H
        refine s_v rfl (y_ld rfl) (hc_V 1 rfl ht_2) ?_
        refine s_call rfl rfl H fun rv Sx_5 H2 => ?_
        clear H
        obtain ⟨t_3, rfl, H⟩ := H2
        refine s_range rfl rfl fun b_2 => ?_
        refine s_nil (q_then ?_)
        refine c_block ?_
        refine c_loop (fun z => ⟨113, [(0, .string line), (2, .pointer (some ⟨b, 0, none⟩)), (4, eL t), (5, .pointer (some ⟨b_1, 0, none⟩)), (48, .pointer (some ⟨b_2, 0, none⟩))]⟩) (fun z => [⟨b, 24, z.1⟩, ⟨b_1, 24, z.2.1⟩, ⟨b_2, itT, z.2.2⟩]) (v, o, [.string t_3, .int .i64 0]) (idx := [0, 0, 0]) H rfl ⟨rfl, rfl, rfl, rfl, rfl, True.intro⟩ rfl ?_
        clear H
        rintro Xx hXx ⟨v_2, o_2, v_3⟩ Sx_6 H
        obtain ⟨hv_2, H⟩ := H
        obtain ⟨ho_2, H⟩ := H
        obtain ⟨hv_3, H⟩ := H
        refine c_seq ?_
        refine c_region ?_
        obtain ⟨s, hs, H⟩ := H
        obtain ⟨p, hp, H⟩ := H
        replace H := ite_e H
        rcases H with ⟨c_2, H⟩ | ⟨c_2, H⟩
        · refine s_nextT 2 rfl rfl rfl hs hp c_2 ?_
          refine s_p rfl (y_extract rfl rfl) ?_
          refine s_nil (q_then ?_)
          refine c_seq ?_
          refine c_t rfl rfl ?_
          refine c_skip (q_then ?_)
          refine c_block ?_
          refine c_seq ?_
          refine c_region ?_
          refine s_p rfl (y_extract rfl rfl) ?_
          refine s_p rfl (y_extract rfl rfl) ?_
          refine s_p rfl (y_assign rfl) ?_
          refine s_p rfl (y_assign rfl) ?_
          refine s_nil (q_then ?_)
          refine c_seq ?_
          refine c_region ?_
          refine s_p rfl (y_move rfl) ?_
          refine s_p rfl (y_move rfl) ?_
          refine s_p rfl (y_add rfl rfl) ?_
          obtain ⟨b_3, o_3, n, n_1, rfl, H⟩ := H
          obtain ⟨c_3, c_4, H⟩ := H
          refine s_p rfl (y_ixL rfl rfl c_3 c_4 rfl) ?_
          obtain ⟨t_4, ht_4, H⟩ := H
          refine s_v rfl (y_ld rfl) (hc_S ht_4) ?_
          refine s_call rfl rfl H fun rv Sx_7 H2 => ?_
          clear H
          obtain ⟨t_5, t_6, rfl, H⟩ := H2
          refine s_p rfl (y_move rfl) ?_
          refine s_p rfl (y_extract rfl rfl) ?_
          refine s_p rfl (y_extract rfl rfl) ?_
          refine s_p rfl (y_assign rfl) ?_
          refine s_p rfl (y_assign rfl) ?_
          refine s_nil (q_then ?_)
          refine c_seq ?_
          refine c_region ?_
          refine s_p rfl (y_move rfl) ?_
          refine s_call rfl rfl H fun rv Sx_8 H2 => ?_
          clear H
          obtain ⟨t_7, t_8, rfl, H⟩ := H2
          refine s_p rfl (y_move rfl) ?_
          refine s_p rfl (y_extract rfl rfl) ?_
          refine s_p rfl (y_extract rfl rfl) ?_
          refine s_p rfl (y_assign rfl) ?_
          refine s_p rfl (y_assign rfl) ?_
          refine s_nil (q_then ?_)
          refine c_join2 H (fun (J : List Value → Mem → Prop) (z : List Value) S => J z S) (fun z => ⟨113, [(0, .string line), (2, .pointer (some ⟨b, 0, none⟩)), (4, .slice (some ⟨b_3, o_3, none⟩) n n_1), (5, .pointer (some ⟨b_1, 0, none⟩)), (7, .int .i32 ((Utf8.decode s (Int.toNat p)).1 : Int)), (10, .int .i64 t_7), (48, .pointer (some ⟨b_2, 0, none⟩))]⟩) (fun z => [⟨b, 24, z⟩, ⟨b_1, 24, o_2⟩, ⟨b_2, itT, [.string s, .int .i64 ((Int.toNat p + (Utf8.decode s (Int.toNat p)).2 : Nat) : Int)]⟩]) ?_ ?_
          · clear H
            rintro v_4 Sx_9 H
            obtain ⟨hv_4, H⟩ := H
            refine c_seq ?_
            refine c_region ?_
            refine s_p rfl (y_move rfl) ?_
            refine s_nil (q_then ?_)
            refine c_block ?_
            refine c_seq ?_
            refine c_region ?_
            replace H := ite_e H
            rcases H with ⟨c_5, H⟩ | ⟨c_5, H⟩
            · refine s_p rfl (yT (y_eql rfl rfl) c_5) ?_
              refine s_p rfl (y_assign rfl) ?_
              refine s_nil (q_then ?_)
              refine c_t rfl rfl ?_
              refine c_region ?_
              refine s_p rfl (y_move rfl) ?_
              refine s_p rfl (y_conv ⟨_, Tryd.underlying2⟩ rfl) ?_
              refine s_p rfl (y_fa rfl rfl) ?_
              refine s_stV (sz := 1) (vs := [.int .u8 (IntKind.u8.wrap t_7)]) 1 rfl rfl rfl rfl rfl rfl (fit_of ho_2 (by omega)) rfl ?_
              refine s_nil (q_blk (q_blk ?_))
              exact hXx (v_4, spl o_2 1 ([.int .u8 (IntKind.u8.wrap t_7)]), [.string s, .int .i64 ((Int.toNat p + (Utf8.decode s (Int.toNat p)).2 : Nat) : Int)]) _ _ _ _ [0, 0, 0] H rfl ⟨rfl, rfl, rfl, rfl, rfl, True.intro⟩ rfl
            · refine s_p rfl (yF (y_eql rfl rfl) c_5) ?_
              refine s_p rfl (y_assign rfl) ?_
              refine s_nil (q_then ?_)
              refine c_f rfl rfl ?_
              refine c_seq ?_
              refine c_region ?_
              replace H := ite_e H
              rcases H with ⟨c_6, H⟩ | ⟨c_6, H⟩
              · refine s_p rfl (yT (y_eql rfl rfl) c_6) ?_
                refine s_p rfl (y_assign rfl) ?_
                refine s_nil (q_then ?_)
                refine c_t rfl rfl ?_
                refine c_region ?_
                refine s_p rfl (y_move rfl) ?_
                refine s_p rfl (y_conv ⟨_, Tryd.underlying2⟩ rfl) ?_
                refine s_p rfl (y_fa rfl rfl) ?_
                refine s_stV (sz := 1) (vs := [.int .u8 (IntKind.u8.wrap t_7)]) 1 rfl rfl rfl rfl rfl rfl (fit_of ho_2 (by omega)) rfl ?_
                refine s_nil (q_blk (q_blk ?_))
                exact hXx (v_4, spl o_2 2 ([.int .u8 (IntKind.u8.wrap t_7)]), [.string s, .int .i64 ((Int.toNat p + (Utf8.decode s (Int.toNat p)).2 : Nat) : Int)]) _ _ _ _ [0, 0, 0] H rfl ⟨rfl, rfl, rfl, rfl, rfl, True.intro⟩ rfl
              · refine s_p rfl (yF (y_eql rfl rfl) c_6) ?_
                refine s_p rfl (y_assign rfl) ?_
                refine s_nil (q_then ?_)
                refine c_f rfl rfl ?_
                refine c_seq ?_
                refine c_region ?_
                replace H := ite_e H
                rcases H with ⟨c_7, H⟩ | ⟨c_7, H⟩
                · refine s_p rfl (yT (y_eql rfl rfl) c_7) ?_
                  refine s_p rfl (y_assign rfl) ?_
                  refine s_nil (q_then ?_)
                  refine c_t rfl rfl ?_
                  refine c_region ?_
                  refine s_p rfl (y_move rfl) ?_
                  refine s_p rfl (y_conv ⟨_, Tryd.underlying2⟩ rfl) ?_
                  refine s_p rfl (y_fa rfl rfl) ?_
                  refine s_stV (sz := 1) (vs := [.int .u8 (IntKind.u8.wrap t_7)]) 1 rfl rfl rfl rfl rfl rfl (fit_of ho_2 (by omega)) rfl ?_
                  refine s_nil (q_blk (q_blk ?_))
                  exact hXx (v_4, spl o_2 3 ([.int .u8 (IntKind.u8.wrap t_7)]), [.string s, .int .i64 ((Int.toNat p + (Utf8.decode s (Int.toNat p)).2 : Nat) : Int)]) _ _ _ _ [0, 0, 0] H rfl ⟨rfl, rfl, rfl, rfl, rfl, True.intro⟩ rfl
                · refine s_p rfl (yF (y_eql rfl rfl) c_7) ?_
                  refine s_p rfl (y_assign rfl) ?_
                  refine s_nil (q_then ?_)
                  refine c_f rfl rfl ?_
                  refine c_region ?_
                  refine s_p rfl (y_move rfl) ?_
                  refine s_p rfl (y_conv ⟨_, Tryd.underlying2⟩ rfl) ?_
                  refine s_p rfl (y_fa rfl rfl) ?_
                  refine s_stV (sz := 1) (vs := [.int .i16 (IntKind.i16.wrap t_7)]) 1 rfl rfl rfl rfl rfl rfl (fit_of ho_2 (by omega)) rfl ?_
                  refine s_nil (q_blk (q_blk ?_))
                  exact hXx (v_4, spl o_2 4 ([.int .i16 (IntKind.i16.wrap t_7)]), [.string s, .int .i64 ((Int.toNat p + (Utf8.decode s (Int.toNat p)).2 : Nat) : Int)]) _ _ _ _ [0, 0, 0] H rfl ⟨rfl, rfl, rfl, rfl, rfl, True.intro⟩ rfl
          · clear H
            intro Jx_1 hJx_1 H
            refine c_seq ?_
            refine c_region ?_
            refine s_p rfl (y_move rfl) ?_
            obtain ⟨i, hi, H⟩ := H
            replace H := ite_e H
            rcases H with ⟨c_8, H⟩ | ⟨c_8, H⟩
            · refine s_p rfl (yB (y_inilN rfl hi) c_8) ?_
              refine s_p rfl (y_move rfl) ?_
              refine s_skip rfl ?_
              refine s_skip rfl ?_
              refine s_skip rfl ?_
              refine s_skip rfl ?_
              refine s_p rfl (y_pick rfl rfl) ?_
              refine s_p rfl (y_move rfl) ?_
              refine s_skip rfl ?_
              refine s_skip rfl ?_
              refine s_skip rfl ?_
              refine s_skip rfl ?_
              refine s_skip rfl ?_
              refine s_skip rfl ?_
              refine s_skip rfl ?_
              refine s_skip rfl ?_
              refine s_skip rfl ?_
              refine s_skip rfl ?_
              refine s_p rfl (y_pick rfl rfl) ?_
              refine s_nil (q_then ?_)
              refine c_t rfl rfl ?_
              refine c_seq ?_
              refine c_region ?_
              refine s_p rfl (y_build rfl rfl) ?_
              refine s_stV_all 0 rfl rfl rfl rfl rfl rfl hv_2 rfl ?_
              refine s_p rfl (y_assign rfl) ?_
              refine s_nil (q_then ?_)
              refine c_ret (q_then_ret (q_blk_ret (q_then_ret (q_blk_ret (q_then_ret ?_)))))
              exact q_ret Tryd.results10 (rv_cellA rfl (hc_VP (k := 5) 0 rfl rfl) rfl (rv_tmp rfl rv_nil)) ⟨_, _, rfl, rfl, H⟩
            · refine s_p rfl (yB (y_inilN rfl hi) (bf_of c_8)) ?_
              refine s_p rfl (y_move rfl) ?_
              refine s_p rfl (y_move rfl) ?_
              refine s_p rfl (y_move rfl) ?_
              refine s_p rfl (y_neq rfl rfl) ?_
              replace H := ite_e H
              rcases H with ⟨c_9, H⟩ | ⟨c_9, H⟩
              · refine s_p rfl (yT (y_neB rfl rfl) c_9) ?_
                refine s_p rfl (y_pick rfl rfl) ?_
                refine s_p rfl (y_move rfl) ?_
                refine s_skip rfl ?_
                refine s_skip rfl ?_
                refine s_skip rfl ?_
                refine s_skip rfl ?_
                refine s_skip rfl ?_
                refine s_skip rfl ?_
                refine s_skip rfl ?_
                refine s_skip rfl ?_
                refine s_skip rfl ?_
                refine s_skip rfl ?_
                refine s_p rfl (y_pick rfl rfl) ?_
                refine s_nil (q_then ?_)
                refine c_t rfl rfl ?_
                refine c_seq ?_
                refine c_region ?_
                refine s_p rfl (y_build rfl rfl) ?_
                refine s_stV_all 0 rfl rfl rfl rfl rfl rfl hv_2 rfl ?_
                refine s_p rfl (y_assign rfl) ?_
                refine s_nil (q_then ?_)
                refine c_ret (q_then_ret (q_blk_ret (q_then_ret (q_blk_ret (q_then_ret ?_)))))
                exact q_ret Tryd.results10 (rv_cellA rfl (hc_VP (k := 5) 0 rfl rfl) rfl (rv_tmp rfl rv_nil)) ⟨_, _, rfl, rfl, H⟩
              · refine s_p rfl (yF (y_neB rfl rfl) c_9) ?_
                refine s_p rfl (y_pick rfl rfl) ?_
                refine s_p rfl (y_move rfl) ?_
                refine s_p rfl (y_move rfl) ?_
                replace H := ite_e H
                rcases H with ⟨c_10, H⟩ | ⟨c_10, H⟩
                · refine s_p rfl (yT (y_neq rfl rfl) c_10) ?_
                  refine s_p rfl (y_move rfl) ?_
                  refine s_p rfl (y_move rfl) ?_
                  replace H := ite_e H
                  rcases H with ⟨c_11, H⟩ | ⟨c_11, H⟩
                  · refine s_p rfl (yT (y_lss rfl rfl) c_11) ?_
                    refine s_p rfl (y_move rfl) ?_
                    refine s_skip rfl ?_
                    refine s_skip rfl ?_
                    refine s_p rfl (y_pick rfl rfl) ?_
                    refine s_p rfl (y_pick rfl rfl) ?_
                    refine s_p rfl (y_pick rfl rfl) ?_
                    refine s_nil (q_then ?_)
                    refine c_t rfl rfl ?_
                    refine c_seq ?_
                    refine c_region ?_
                    refine s_p rfl (y_build rfl rfl) ?_
                    refine s_stV_all 0 rfl rfl rfl rfl rfl rfl hv_2 rfl ?_
                    refine s_p rfl (y_assign rfl) ?_
                    refine s_nil (q_then ?_)
                    refine c_ret (q_then_ret (q_blk_ret (q_then_ret (q_blk_ret (q_then_ret ?_)))))
                    exact q_ret Tryd.results10 (rv_cellA rfl (hc_VP (k := 5) 0 rfl rfl) rfl (rv_tmp rfl rv_nil)) ⟨_, _, rfl, rfl, H⟩
                  · refine s_p rfl (yF (y_lss rfl rfl) c_11) ?_
                    refine s_p rfl (y_move rfl) ?_
                    refine s_p rfl (y_move rfl) ?_
                    replace H := ite_e H
                    rcases H with ⟨c_12, H⟩ | ⟨c_12, H⟩
                    · refine s_p rfl (yT (y_gtr rfl rfl) c_12) ?_
                      refine s_p rfl (y_pick rfl rfl) ?_
                      refine s_p rfl (y_pick rfl rfl) ?_
                      refine s_p rfl (y_pick rfl rfl) ?_
                      refine s_nil (q_then ?_)
                      refine c_t rfl rfl ?_
                      refine c_seq ?_
                      refine c_region ?_
                      refine s_p rfl (y_build rfl rfl) ?_
                      refine s_stV_all 0 rfl rfl rfl rfl rfl rfl hv_2 rfl ?_
                      refine s_p rfl (y_assign rfl) ?_
                      refine s_nil (q_then ?_)
                      refine c_ret (q_then_ret (q_blk_ret (q_then_ret (q_blk_ret (q_then_ret ?_)))))
                      exact q_ret Tryd.results10 (rv_cellA rfl (hc_VP (k := 5) 0 rfl rfl) rfl (rv_tmp rfl rv_nil)) ⟨_, _, rfl, rfl, H⟩
                    · refine s_p rfl (yF (y_gtr rfl rfl) c_12) ?_
                      refine s_p rfl (y_pick rfl rfl) ?_
                      refine s_p rfl (y_pick rfl rfl) ?_
                      refine s_p rfl (y_pick rfl rfl) ?_
                      refine s_nil (q_then ?_)
                      refine c_f rfl rfl ?_
                      refine c_skip ?_
                      exact hJx_1 v_2 _ _ _ _ [0, 0, 0] H rfl ⟨rfl, rfl, rfl, rfl, rfl, rfl, rfl, True.intro⟩ rfl
                · refine s_p rfl (yF (y_neq rfl rfl) c_10) ?_
                  refine s_p rfl (y_move rfl) ?_
                  refine s_skip rfl ?_
                  refine s_skip rfl ?_
                  refine s_skip rfl ?_
                  refine s_skip rfl ?_
                  refine s_skip rfl ?_
                  refine s_skip rfl ?_
                  refine s_p rfl (y_pick rfl rfl) ?_
                  refine s_p rfl (y_pick rfl rfl) ?_
                  refine s_nil (q_then ?_)
                  refine c_f rfl rfl ?_
                  refine c_skip ?_
                  exact hJx_1 v_2 _ _ _ _ [0, 0, 0] H rfl ⟨rfl, rfl, rfl, rfl, rfl, rfl, rfl, True.intro⟩ rfl
        · refine s_nextE 2 rfl rfl rfl hs hp c_2 ?_
          refine s_p rfl (y_extract rfl rfl) ?_
          refine s_nil (q_then ?_)
          refine c_seq ?_
          refine c_f rfl rfl ?_
          refine c_exit (q_then_exit (q_then_exit (q_blk_out ?_)))
          exact hJx (v_2, o_2) _ _ _ _ [0, 0] H rfl ⟨rfl, rfl, rfl, True.intro⟩ rfl
    · clear H
      intro Jx_2 hJx_2 H
      refine c_seq ?_
      refine c_region ?_
      refine s_p rfl (y_fa rfl rfl) ?_
      obtain ⟨t_9, ht_9, H⟩ := H
      refine s_v rfl (y_ld rfl) (hc_V 1 rfl ht_9) ?_
      replace H := ite_e H
      rcases H with ⟨c_13, H⟩ | ⟨c_13, H⟩
      · refine s_p rfl (yT (y_eql rfl rfl) c_13) ?_
        refine s_p rfl (y_move rfl) ?_
        refine s_skip rfl ?_
        refine s_skip rfl ?_
        refine s_skip rfl ?_
        refine s_skip rfl ?_
        refine s_skip rfl ?_
        refine s_skip rfl ?_
        refine s_skip rfl ?_
        refine s_skip rfl ?_
        refine s_p rfl (y_pick rfl rfl) ?_
        refine s_nil (q_then ?_)
        refine c_t rfl rfl ?_
        refine c_seq ?_
        refine c_region ?_
        refine s_p rfl (y_build rfl rfl) ?_
        refine s_stV (sz := 5) (vs := [.int .u8 0, .int .u8 0, .int .u8 0, .int .u8 0, .int .i16 0]) 0 rfl rfl rfl rfl rfl rfl (Nat.le_of_ble_eq_true rfl) rfl ?_
        refine s_p rfl (y_assign rfl) ?_
        refine s_nil (q_then ?_)
        refine c_ret (q_then_ret ?_)
        exact q_ret Tryd.results10 (rv_cellA rfl (hc_VP (k := 5) 0 rfl rfl) rfl (rv_tmp rfl rv_nil)) ⟨_, _, rfl, rfl, H⟩
      · refine s_p rfl (yF (y_eql rfl rfl) c_13) ?_
        refine s_p rfl (y_move rfl) ?_
        refine s_p rfl (y_move rfl) ?_
        refine s_p rfl (y_len rfl) ?_
        refine s_p rfl (y_fa rfl rfl) ?_
        obtain ⟨t_10, ht_10, H⟩ := H
        refine s_v rfl (y_ld rfl) (hc_V 1 rfl ht_10) ?_
        refine s_call rfl rfl H fun rv Sx_10 H2 => ?_
        clear H
        obtain ⟨t_11, rfl, H⟩ := H2
        refine s_p rfl (y_lenS rfl) ?_
        refine s_p rfl (y_add rfl rfl) ?_
        replace H := ite_e H
        rcases H with ⟨c_14, H⟩ | ⟨c_14, H⟩
        · refine s_p rfl (yT (y_neq rfl rfl) c_14) ?_
          refine s_p rfl (y_pick rfl rfl) ?_
          refine s_nil (q_then ?_)
          refine c_t rfl rfl ?_
          refine c_seq ?_
          refine c_region ?_
          refine s_p rfl (y_build rfl rfl) ?_
          refine s_stV (sz := 5) (vs := [.int .u8 0, .int .u8 0, .int .u8 0, .int .u8 0, .int .i16 0]) 0 rfl rfl rfl rfl rfl rfl (Nat.le_of_ble_eq_true rfl) rfl ?_
          refine s_p rfl (y_assign rfl) ?_
          refine s_nil (q_then ?_)
          refine c_ret (q_then_ret ?_)
          exact q_ret Tryd.results10 (rv_cellA rfl (hc_VP (k := 5) 0 rfl rfl) rfl (rv_tmp rfl rv_nil)) ⟨_, _, rfl, rfl, H⟩
        · refine s_p rfl (yF (y_neq rfl rfl) c_14) ?_
          refine s_p rfl (y_pick rfl rfl) ?_
          refine s_nil (q_then ?_)
          refine c_f rfl rfl ?_
          refine c_skip ?_
          exact hJx_2 ([.int .u8 0, .int .u8 0, .int .u8 0, .int .u8 0, .int .i16 0]) _ _ _ _ [0, 0] H rfl ⟨rfl, rfl, rfl, rfl, True.intro⟩ rfl
  · clear H
    intro Jx_3 hJx_3 H
    refine c_block ?_
    refine c_loop (fun z => ⟨113, [(0, .string line), (2, .pointer (some ⟨b, 0, none⟩)), (4, eL t), (5, .pointer (some ⟨b_1, 0, none⟩))]⟩) (fun z => [⟨b, 24, [.int .u8 0, .int .u8 0, .int .u8 0, .int .u8 0, .int .i16 0]⟩, ⟨b_1, 24, z⟩]) ([.int .u8 0, .int .u8 0, .int .u8 0, .int .u8 0, .int .i16 0]) (idx := [0, 0]) H rfl ⟨rfl, rfl, rfl, rfl, True.intro⟩ rfl ?_
    clear H
    rintro Xx_1 hXx_1 o_4 Sx_11 H
    obtain ⟨ho_4, H⟩ := H
    refine c_seq ?_
    refine c_seq ?_
    refine c_drawn (by kernel_rfl) ?_
    refine a_takeP 0 rfl (by decide +kernel) (np_then (np_then (np_then (np_blk (np_then np_body))))) rfl (y_fa rfl rfl) ?_
    obtain ⟨t_12, ht_12, H⟩ := H
    refine a_take 1 rfl (by decide +kernel) (np_then (np_then (np_then (np_blk (np_then np_body))))) rfl (y_ld rfl) (hc_V 1 rfl ht_12) ?_
    replace H := ite_e H
    rcases H with ⟨c_15, H⟩ | ⟨c_15, H⟩
    · refine a_takeP 2 rfl (by decide +kernel) (np_then (np_then (np_then (np_blk (np_then np_body))))) rfl (yT (y_lss rfl rfl) c_15) ?_
      refine a_takeP 3 rfl (by decide +kernel) (np_then (np_then (np_then (np_blk (np_then np_body))))) rfl (y_move rfl) ?_
      refine a_takeP 4 rfl (by decide +kernel) (np_then (np_then (np_then (np_blk (np_then np_body))))) rfl (y_fa rfl rfl) ?_
      obtain ⟨t_13, ht_13, H⟩ := H
      refine a_take 5 rfl (by decide +kernel) (np_then (np_then (np_then (np_blk (np_then np_body))))) rfl (y_ld rfl) (hc_V 1 rfl ht_13) ?_
      obtain ⟨c_16, c_17, H⟩ := H
      refine a_takeP 6 rfl (by decide +kernel) (np_then (np_then (np_then (np_blk (np_then np_body))))) rfl (y_ixA rfl rfl c_16 c_17 rfl) ?_
      obtain ⟨t_14, ht_14, H⟩ := H
      refine a_take 7 rfl (by decide +kernel) (np_then (np_then (np_then (np_blk (np_then np_body))))) rfl (y_ld rfl) (hc_S ht_14) ?_
      refine a_takeP 8 rfl (by decide +kernel) (np_then (np_then (np_then (np_blk (np_then np_body))))) rfl (y_move rfl) ?_
      obtain ⟨b_4, o_5, n_2, n_3, rfl, H⟩ := H
      obtain ⟨c_19, H⟩ := H
      refine a_takeP 9 rfl (by decide +kernel) (np_then (np_then (np_then (np_blk (np_then np_body))))) rfl (y_ixL rfl rfl (by decide) c_19 rfl) ?_
      obtain ⟨t_15, ht_15, H⟩ := H
      refine a_take 10 rfl (by decide +kernel) (np_then (np_then (np_then (np_blk (np_then np_body))))) rfl (y_ld rfl) (hc_S ht_15) ?_
      replace H := ite_e H
      rcases H with ⟨c_20, H⟩ | ⟨c_20, H⟩
      · refine a_takeP 11 rfl (by decide +kernel) (np_then (np_then (np_then (np_blk (np_then np_body))))) rfl (yT (y_neS rfl rfl) c_20) ?_
        refine a_takeP 12 rfl (by decide +kernel) (np_then (np_then (np_then (np_blk (np_then np_body))))) rfl (y_pick rfl rfl) ?_
        refine a_done (by decide +kernel) ?_
        refine q_then ?_
        refine c_t rfl rfl ?_
        refine c_skip (q_then ?_)
        refine c_seq ?_
        refine c_block ?_
        refine c_skip (q_blk (q_then ?_))
        refine c_region ?_
        refine s_p rfl (y_fa rfl rfl) ?_
        obtain ⟨t_16, ht_16, H⟩ := H
        refine s_v rfl (y_ld rfl) (hc_V 1 rfl ht_16) ?_
        refine s_p rfl (y_add rfl rfl) ?_
        refine s_p rfl (y_fa rfl rfl) ?_
        refine s_stV (sz := 1) (vs := [.int .u8 (IntKind.u8.wrap (t_16 + 1))]) 1 rfl rfl rfl rfl rfl rfl (fit_of ho_4 (by omega)) rfl ?_
        refine s_nil ?_
        exact hXx_1 (spl o_4 0 ([.int .u8 (IntKind.u8.wrap (t_16 + 1))])) _ _ _ _ [0, 0] H rfl ⟨rfl, rfl, rfl, rfl, True.intro⟩ rfl
      · refine a_takeP 11 rfl (by decide +kernel) (np_then (np_then (np_then (np_blk (np_then np_body))))) rfl (yF (y_neS rfl rfl) c_20) ?_
        refine a_takeP 12 rfl (by decide +kernel) (np_then (np_then (np_then (np_blk (np_then np_body))))) rfl (y_pick rfl rfl) ?_
        refine a_done (by decide +kernel) ?_
        refine q_then ?_
        refine c_f rfl rfl ?_
        refine c_exit (q_then_exit (q_then_exit (q_blk_out ?_)))
        exact hJx_3 o_4 _ _ _ _ [0, 0] H rfl ⟨rfl, rfl, rfl, rfl, True.intro⟩ rfl
    · refine a_takeP 2 rfl (by decide +kernel) (np_then (np_then (np_then (np_blk (np_then np_body))))) rfl (yF (y_lss rfl rfl) c_15) ?_
      refine a_takeP 3 rfl (by decide +kernel) (np_then (np_then (np_then (np_blk (np_then np_body))))) rfl (y_move rfl) ?_
      refine a_skip 4 rfl (by decide +kernel) (np_then (np_then (np_then (np_blk (np_then np_body))))) rfl ?_
      refine a_skip 5 rfl (by decide +kernel) (np_then (np_then (np_then (np_blk (np_then np_body))))) rfl ?_
      refine a_skip 6 rfl (by decide +kernel) (np_then (np_then (np_then (np_blk (np_then np_body))))) rfl ?_
      refine a_skip 7 rfl (by decide +kernel) (np_then (np_then (np_then (np_blk (np_then np_body))))) rfl ?_
      refine a_skip 8 rfl (by decide +kernel) (np_then (np_then (np_then (np_blk (np_then np_body))))) rfl ?_
      refine a_skip 9 rfl (by decide +kernel) (np_then (np_then (np_then (np_blk (np_then np_body))))) rfl ?_
      refine a_skip 10 rfl (by decide +kernel) (np_then (np_then (np_then (np_blk (np_then np_body))))) rfl ?_
      refine a_skip 11 rfl (by decide +kernel) (np_then (np_then (np_then (np_blk (np_then np_body))))) rfl ?_
      refine a_takeP 12 rfl (by decide +kernel) (np_then (np_then (np_then (np_blk (np_then np_body))))) rfl (y_pick rfl rfl) ?_
      refine a_done (by decide +kernel) ?_
      refine q_then ?_
      refine c_f rfl rfl ?_
      refine c_exit (q_then_exit (q_then_exit (q_blk_out ?_)))
      exact hJx_3 o_4 _ _ _ _ [0, 0] H rfl ⟨rfl, rfl, rfl, rfl, True.intro⟩ rfl
def b_hermitcrablaw03_awake (S : Mem) (Q : Bool → Mem → Prop) : Prop :=
  text_Read S (⟨#[97, 100, 100, 105, 32, 114, 50, 32, 114, 50, 32, 45, 49]⟩) fun t t_1 Sx =>
  t.all (·.oneCell') = true ∧
  if t_1 = 0 then
    fits [.i .u8, .i .u8, .i .u8, .i .u8, .i .i16] t = true ∧
    Q (eqL t ([.int .u8 11, .int .u8 2, .int .u8 2, .int .u8 0, .int .i16 (-1)])) Sx
  else
  Q false Sx
theorem t_hermitcrablaw03_awake {S : Mem} {Q : Bool → Mem → Prop} (H : b_hermitcrablaw03_awake S Q) : hermitcrablaw03_awake S Q := by
  unfold b_hermitcrablaw03_awake at H
  refine Tr.intro Tryd.func11 rfl Tryd.ntmps11 rfl fun w0 => ?_
  refine c_seq ?_
  refine c_region ?_
  refine s_p rfl (y_assign rfl) ?_
  refine s_nil (q_then ?_)
  refine c_seq ?_
  refine c_region ?_
  refine s_call rfl rfl H fun rv Sx H2 => ?_
  clear H
  obtain ⟨t, t_1, rfl, ht, H⟩ := H2
  refine s_p rfl (y_move rfl) ?_
  refine s_p rfl (y_extract rfl rfl) ?_
  refine s_p rfl (y_extract rfl rfl) ?_
  refine s_alloc rfl fun b => ?_
  obtain ⟨c, H⟩ := H
  refine s_stV_all 0 rfl rfl rfl rfl rfl ht rfl c ?_
  refine s_p rfl (y_assign rfl) ?_
  refine s_nil (q_then ?_)
  refine c_seq ?_
  refine c_region ?_
  refine s_p rfl (y_move rfl) ?_
  replace H := ite_e H
  rcases H with ⟨c_1, H⟩ | ⟨c_1, H⟩
  · refine s_p rfl (yT (y_eql rfl rfl) c_1) ?_
    refine s_p rfl (y_move rfl) ?_
    refine s_v rfl (y_ldA rfl ht) (hc_VP (k := 5) 0 rfl (lpart_all ht)) ?_
    refine s_p rfl (y_build rfl rfl) ?_
    obtain ⟨c_2, H⟩ := H
    refine s_p rfl (y_eqA rfl rfl c_2 rfl) ?_
    refine s_p rfl (y_pick rfl rfl) ?_
    refine s_p rfl (y_assign rfl) ?_
    refine s_nil (q_then ?_)
    refine c_ret ?_
    exact q_ret Tryd.results11 (rv_tmp rfl rv_nil) ⟨_, rfl, H⟩
  · refine s_p rfl (yF (y_eql rfl rfl) c_1) ?_
    refine s_p rfl (y_move rfl) ?_
    refine s_skip rfl ?_
    refine s_skip rfl ?_
    refine s_skip rfl ?_
    refine s_p rfl (y_pick rfl rfl) ?_
    refine s_p rfl (y_assign rfl) ?_
    refine s_nil (q_then ?_)
    refine c_ret ?_
    exact q_ret Tryd.results11 (rv_tmp rfl rv_nil) ⟨_, rfl, H⟩
def b_hermitcrablaw03_TextShows (S : Mem) (o : List Value) (Q : Bool → Mem → Prop) : Prop :=
  o.length = 5 ∧
  jn (fun (Sx : Mem) =>
      hermitcrablaw03_near Sx o fun t Sx_1 =>
      t.all (·.oneCell') = true ∧
      text_Show Sx_1 t fun t_1 Sx_2 =>
      text_Read Sx_2 t_1 fun t_2 t_3 Sx_3 =>
      t_2.all (·.oneCell') = true ∧
      hermitcrablaw03_awake Sx_3 fun t_4 Sx_4 =>
      if t_4 = true then
        gI (nthL t 0) .u8 fun t_5 =>
        gI (nthL t 1) .u8 fun t_6 =>
        gI (nthL t 2) .u8 fun t_7 =>
        gI (nthL t 3) .u8 fun t_8 =>
        gI (nthL t 4) .i16 fun t_9 =>
        hermitcrabref01_Text Sx_4 t_5 t_6 t_7 t_8 t_9 fun t_10 Sx_5 =>
        if t_1 = t_10 then
          if t_3 = 0 then
            fits [.i .u8, .i .u8, .i .u8, .i .u8, .i .i16] t_2 = true ∧
            fits [.i .u8, .i .u8, .i .u8, .i .u8, .i .i16] t = true ∧
            Q (eqL t_2 t) Sx_5
          else
          Q false Sx_5
        else
        Q false Sx_5
      else
      Q false Sx_4) fun Jx =>
  gI (nthL o 0) .u8 fun t_11 =>
  gI (nthL o 1) .u8 fun t_12 =>
  gI (nthL o 2) .u8 fun t_13 =>
  gI (nthL o 3) .u8 fun t_14 =>
  gI (nthL o 4) .i16 fun t_15 =>
  hermitcrabref01_Right S t_11 t_12 t_13 t_14 t_15 fun t_16 Sx_6 =>
  if t_16 = true then
    Jx Sx_6
  else
  text_Show Sx_6 o fun t_17 Sx_7 =>
  if t_17 ≠ ⟨#[]⟩ then
    Q false Sx_7
  else
  Jx Sx_7
theorem t_hermitcrablaw03_TextShows {S : Mem} {o : List Value} {Q : Bool → Mem → Prop} (H : b_hermitcrablaw03_TextShows S o Q) : hermitcrablaw03_TextShows S o Q := by
  unfold b_hermitcrablaw03_TextShows at H
  refine Tr.intro Tryd.func3 rfl Tryd.ntmps3 rfl fun w0 => ?_
  obtain ⟨ho, H⟩ := H
  refine c_seq ?_
  refine c_region ?_
  refine s_box rfl rfl rfl fun b => ?_
  refine s_p rfl (y_assign rfl) ?_
  refine s_nil (q_then ?_)
  refine c_join2 H (fun (J : Mem → Prop) (z : Unit) S => J S) (fun z => ⟨57, [(1, .pointer (some ⟨b, 0, none⟩))]⟩) (fun z => [⟨b, 24, o⟩]) ?_ ?_
  · clear H
    rintro _ Sx H
    refine c_seq ?_
    refine c_region ?_
    refine s_v rfl (y_ldA rfl ho) (hc_VP (k := 5) 0 rfl (lpart_all ho)) ?_
    refine s_call rfl rfl H fun rv Sx_1 H2 => ?_
    clear H
    obtain ⟨t, rfl, ht, H⟩ := H2
    obtain ⟨c, H⟩ := H
    refine s_stV_all 0 rfl rfl rfl rfl rfl ht ho c ?_
    refine s_nil (q_then ?_)
    refine c_seq ?_
    refine c_region ?_
    refine s_v rfl (y_ldA rfl ht) (hc_VP (k := 5) 0 rfl (lpart_all ht)) ?_
    refine s_call rfl rfl H fun rv Sx_2 H2 => ?_
    clear H
    obtain ⟨t_1, rfl, H⟩ := H2
    refine s_p rfl (y_assign rfl) ?_
    refine s_nil (q_then ?_)
    refine c_seq ?_
    refine c_region ?_
    refine s_p rfl (y_move rfl) ?_
    refine s_call rfl rfl H fun rv Sx_3 H2 => ?_
    clear H
    obtain ⟨t_2, t_3, rfl, ht_2, H⟩ := H2
    refine s_p rfl (y_move rfl) ?_
    refine s_p rfl (y_extract rfl rfl) ?_
    refine s_p rfl (y_extract rfl rfl) ?_
    refine s_alloc rfl fun b_1 => ?_
    obtain ⟨c_1, H⟩ := H
    refine s_stV_all 1 rfl rfl rfl rfl rfl ht_2 rfl c_1 ?_
    refine s_p rfl (y_assign rfl) ?_
    refine s_nil (q_then ?_)
    refine c_seq ?_
    refine c_region ?_
    refine s_call rfl rfl H fun rv Sx_4 H2 => ?_
    clear H
    obtain ⟨t_4, rfl, H⟩ := H2
    replace H := ib_e H
    rcases H with ⟨rfl, H⟩ | ⟨rfl, H⟩
    · skip
      refine s_p rfl (y_move rfl) ?_
      refine s_p rfl (y_move rfl) ?_
      refine s_p rfl (y_fa rfl rfl) ?_
      obtain ⟨t_5, ht_5, H⟩ := H
      refine s_v rfl (y_ld rfl) (hc_V 0 rfl ht_5) ?_
      refine s_p rfl (y_fa rfl rfl) ?_
      obtain ⟨t_6, ht_6, H⟩ := H
      refine s_v rfl (y_ld rfl) (hc_V 0 rfl ht_6) ?_
      refine s_p rfl (y_fa rfl rfl) ?_
      obtain ⟨t_7, ht_7, H⟩ := H
      refine s_v rfl (y_ld rfl) (hc_V 0 rfl ht_7) ?_
      refine s_p rfl (y_fa rfl rfl) ?_
      obtain ⟨t_8, ht_8, H⟩ := H
      refine s_v rfl (y_ld rfl) (hc_V 0 rfl ht_8) ?_
      refine s_p rfl (y_fa rfl rfl) ?_
      obtain ⟨t_9, ht_9, H⟩ := H
      refine s_v rfl (y_ld rfl) (hc_V 0 rfl ht_9) ?_
      refine s_call rfl rfl H fun rv Sx_5 H2 => ?_
      clear H
      obtain ⟨t_10, rfl, H⟩ := H2
      replace H := ite_e H
      rcases H with ⟨c_2, H⟩ | ⟨c_2, H⟩
      · refine s_p rfl (yT (y_eqS rfl rfl) c_2) ?_
        refine s_p rfl (y_pick rfl rfl) ?_
        refine s_p rfl (y_move rfl) ?_
        refine s_p rfl (y_move rfl) ?_
        replace H := ite_e H
        rcases H with ⟨c_3, H⟩ | ⟨c_3, H⟩
        · refine s_p rfl (yT (y_eql rfl rfl) c_3) ?_
          refine s_p rfl (y_pick rfl rfl) ?_
          refine s_p rfl (y_move rfl) ?_
          refine s_v rfl (y_ldA rfl ht_2) (hc_VP (k := 5) 1 rfl (lpart_all ht_2)) ?_
          refine s_v rfl (y_ldA rfl ht) (hc_VP (k := 5) 0 rfl (lpart_all ht)) ?_
          obtain ⟨c_4, H⟩ := H
          obtain ⟨c_5, H⟩ := H
          refine s_p rfl (y_eqA rfl rfl c_4 c_5) ?_
          refine s_p rfl (y_pick rfl rfl) ?_
          refine s_p rfl (y_assign rfl) ?_
          refine s_nil (q_then ?_)
          refine c_ret ?_
          exact q_ret Tryd.results3 (rv_tmp rfl rv_nil) ⟨_, rfl, H⟩
        · refine s_p rfl (yF (y_eql rfl rfl) c_3) ?_
          refine s_p rfl (y_pick rfl rfl) ?_
          refine s_p rfl (y_move rfl) ?_
          refine s_skip rfl ?_
          refine s_skip rfl ?_
          refine s_skip rfl ?_
          refine s_p rfl (y_pick rfl rfl) ?_
          refine s_p rfl (y_assign rfl) ?_
          refine s_nil (q_then ?_)
          refine c_ret ?_
          exact q_ret Tryd.results3 (rv_tmp rfl rv_nil) ⟨_, rfl, H⟩
      · refine s_p rfl (yF (y_eqS rfl rfl) c_2) ?_
        refine s_p rfl (y_pick rfl rfl) ?_
        refine s_p rfl (y_move rfl) ?_
        refine s_skip rfl ?_
        refine s_skip rfl ?_
        refine s_p rfl (y_pick rfl rfl) ?_
        refine s_p rfl (y_move rfl) ?_
        refine s_skip rfl ?_
        refine s_skip rfl ?_
        refine s_skip rfl ?_
        refine s_p rfl (y_pick rfl rfl) ?_
        refine s_p rfl (y_assign rfl) ?_
        refine s_nil (q_then ?_)
        refine c_ret ?_
        exact q_ret Tryd.results3 (rv_tmp rfl rv_nil) ⟨_, rfl, H⟩
    · skip
      refine s_p rfl (y_move rfl) ?_
      refine s_skip rfl ?_
      refine s_skip rfl ?_
      refine s_skip rfl ?_
      refine s_skip rfl ?_
      refine s_skip rfl ?_
      refine s_skip rfl ?_
      refine s_skip rfl ?_
      refine s_skip rfl ?_
      refine s_skip rfl ?_
      refine s_skip rfl ?_
      refine s_skip rfl ?_
      refine s_skip rfl ?_
      refine s_skip rfl ?_
      refine s_p rfl (y_pick rfl rfl) ?_
      refine s_p rfl (y_move rfl) ?_
      refine s_skip rfl ?_
      refine s_skip rfl ?_
      refine s_p rfl (y_pick rfl rfl) ?_
      refine s_p rfl (y_move rfl) ?_
      refine s_skip rfl ?_
      refine s_skip rfl ?_
      refine s_skip rfl ?_
      refine s_p rfl (y_pick rfl rfl) ?_
      refine s_p rfl (y_assign rfl) ?_
      refine s_nil (q_then ?_)
      refine c_ret ?_
      exact q_ret Tryd.results3 (rv_tmp rfl rv_nil) ⟨_, rfl, H⟩
  · clear H
    intro Jx hJx H
    refine c_seq ?_
    refine c_region ?_
    refine s_p rfl (y_fa rfl rfl) ?_
    obtain ⟨t_11, ht_11, H⟩ := H
    refine s_v rfl (y_ld rfl) (hc_V 0 rfl ht_11) ?_
    refine s_p rfl (y_fa rfl rfl) ?_
    obtain ⟨t_12, ht_12, H⟩ := H
    refine s_v rfl (y_ld rfl) (hc_V 0 rfl ht_12) ?_
    refine s_p rfl (y_fa rfl rfl) ?_
    obtain ⟨t_13, ht_13, H⟩ := H
    refine s_v rfl (y_ld rfl) (hc_V 0 rfl ht_13) ?_
    refine s_p rfl (y_fa rfl rfl) ?_
    obtain ⟨t_14, ht_14, H⟩ := H
    refine s_v rfl (y_ld rfl) (hc_V 0 rfl ht_14) ?_
    refine s_p rfl (y_fa rfl rfl) ?_
    obtain ⟨t_15, ht_15, H⟩ := H
    refine s_v rfl (y_ld rfl) (hc_V 0 rfl ht_15) ?_
    refine s_call rfl rfl H fun rv Sx_6 H2 => ?_
    clear H
    obtain ⟨t_16, rfl, H⟩ := H2
    replace H := ib_e H
    rcases H with ⟨rfl, H⟩ | ⟨rfl, H⟩
    · skip
      refine s_p rfl (yB (y_not rfl) rfl) ?_
      refine s_p rfl (y_move rfl) ?_
      refine s_skip rfl ?_
      refine s_skip rfl ?_
      refine s_skip rfl ?_
      refine s_p rfl (y_pick rfl rfl) ?_
      refine s_nil (q_then ?_)
      refine c_f rfl rfl ?_
      refine c_skip ?_
      exact hJx () _ _ _ _ [0] H rfl ⟨rfl, True.intro⟩ rfl
    · skip
      refine s_p rfl (yB (y_not rfl) rfl) ?_
      refine s_p rfl (y_move rfl) ?_
      refine s_v rfl (y_ldA rfl ho) (hc_VP (k := 5) 0 rfl (lpart_all ho)) ?_
      refine s_call rfl rfl H fun rv Sx_7 H2 => ?_
      clear H
      obtain ⟨t_17, rfl, H⟩ := H2
      replace H := ite_e H
      rcases H with ⟨c_6, H⟩ | ⟨c_6, H⟩
      · refine s_p rfl (yT (y_neS rfl rfl) c_6) ?_
        refine s_p rfl (y_pick rfl rfl) ?_
        refine s_nil (q_then ?_)
        refine c_t rfl rfl ?_
        refine c_seq ?_
        refine c_region ?_
        refine s_p rfl (y_assign rfl) ?_
        refine s_nil (q_then ?_)
        refine c_ret (q_then_ret ?_)
        exact q_ret Tryd.results3 (rv_tmp rfl rv_nil) ⟨_, rfl, H⟩
      · refine s_p rfl (yF (y_neS rfl rfl) c_6) ?_
        refine s_p rfl (y_pick rfl rfl) ?_
        refine s_nil (q_then ?_)
        refine c_f rfl rfl ?_
        refine c_skip ?_
        exact hJx () _ _ _ _ [0] H rfl ⟨rfl, True.intro⟩ rfl
def b_text_List (S : Mem) (p : Sl) (Q : Sl → Mem → Prop) : Prop :=
  jn (fun (l : Sl) (Sx : Mem) =>
      Q l Sx) fun Jx =>
  lp (fun Xx (z : Sl × Sl) (Sx_1 : Mem) =>
      match z with
      | (p_1, l_1) =>
        jn (fun (Sx_2 : Mem) =>
            jn (fun (l_2 : Sl) (Sx_3 : Mem) =>
                (0 : Int) ≤ 4 ∧ (4 : Int) ≤ (p_1.n : Int) ∧ (p_1.n : Int) ≤ (p_1.c : Int) ∧
                lt (slc 1 p_1 4 (p_1.n : Int)) fun t =>
                Xx (t, l_2) Sx_3) fun Jx_1 =>
            sl p_1 fun b o n n_1 =>
            (0 : Int) < (n : Nat) ∧
            gI (Sx_2.cell b o) .u8 fun t_1 =>
            (1 : Int) < (n : Nat) ∧
            gI (Sx_2.cell b (o + 1)) .u8 fun t_2 =>
            (2 : Int) < (n : Nat) ∧
            gI (Sx_2.cell b (o + 2)) .u8 fun t_3 =>
            (3 : Int) < (n : Nat) ∧
            gI (Sx_2.cell b (o + 3)) .u8 fun t_4 =>
            code_Decode Sx_2 (ior .u32 (ior .u32 (ior .u32 (IntKind.u32.wrap t_1) (ishl .u32 (IntKind.u32.wrap t_2) 8)) (ishl .u32 (IntKind.u32.wrap t_3) 16)) (ishl .u32 (IntKind.u32.wrap t_4) 24)) fun t_5 t_6 Sx_4 =>
            Sx_4.cell b (o + 3) = some (.int .u8 t_4) ∧
            Sx_4.cell b (o + 2) = some (.int .u8 t_3) ∧
            Sx_4.cell b (o + 1) = some (.int .u8 t_2) ∧
            Sx_4.cell b o = some (.int .u8 t_1) ∧
            if t_6 = true then
              t_5.all (·.oneCell') = true ∧
              text_Show Sx_4 t_5 fun t_7 Sx_5 =>
              ap Sx_5 9 1 16 [.string (⟨#[]⟩)] l_1 1 ([.string t_7]) fun t_8 Sx_6 =>
              Jx_1 t_8 Sx_6
            else
            t_5.all (·.oneCell') = true ∧
            ap Sx_4 9 1 16 [.string (⟨#[]⟩)] l_1 1 ([.string (⟨#[63]⟩)]) fun t_9 Sx_7 =>
            Jx_1 t_9 Sx_7) fun Jx_2 =>
        if 4 ≤ (p_1.n : Int) then
          Jx_2 Sx_1
        else
        Jx l_1 Sx_1) (p, ⟨none, 0, 0⟩) S
theorem t_text_List {S : Mem} {p : Sl} {Q : Sl → Mem → Prop} (H : b_text_List S p Q) : text_List S p Q := by
  unfold b_text_List at H
  refine Tr.intro Tryd.func13 rfl Tryd.ntmps13 rfl fun w0 => ?_
  refine c_seq ?_
  refine c_region ?_
  refine s_p rfl (y_assign rfl) ?_
  refine s_nil (q_then ?_)
  refine c_seq ?_
  refine c_region ?_
  refine s_p rfl (y_assign rfl) ?_
  refine s_nil (q_then ?_)
  refine c_join2 H (fun (J : Sl → Mem → Prop) (z : Sl) S => J z S) (fun z => ⟨48, [(3, eL z)]⟩) (fun z => []) ?_ ?_
  · clear H
    rintro l Sx H
    refine c_seq ?_
    refine c_region ?_
    refine s_p rfl (y_move rfl) ?_
    refine s_p rfl (y_assign rfl) ?_
    refine s_nil (q_then ?_)
    refine c_ret ?_
    exact q_ret Tryd.results13 (rv_tmp rfl rv_nil) ⟨_, rfl, H⟩
  · clear H
    intro Jx hJx H
    refine c_block ?_
    refine c_loop (fun z => ⟨48, [(0, eL z.1), (3, eL z.2)]⟩) (fun z => []) (p, ⟨none, 0, 0⟩) (idx := []) H rfl ⟨rfl, rfl, True.intro⟩ rfl ?_
    clear H
    rintro Xx hXx ⟨p_1, l_1⟩ Sx_1 H
    refine c_join2 H (fun (J : Mem → Prop) (z : Unit) S => J S) (fun z => ⟨48, [(0, eL p_1), (3, eL l_1)]⟩) (fun z => []) ?_ ?_
    · clear H
      rintro _ Sx_2 H
      refine c_join2 H (fun (J : Sl → Mem → Prop) (z : Sl) S => J z S) (fun z => ⟨48, [(0, eL p_1), (3, eL z)]⟩) (fun z => []) ?_ ?_
      · clear H
        rintro l_2 Sx_3 H
        refine c_region ?_
        refine s_p rfl (y_move rfl) ?_
        obtain ⟨c, c_1, c_2, H⟩ := H
        obtain ⟨t, et, H⟩ := lt_e H
        refine s_p rfl (eqv (y_slc (a := 4) (b := (p_1.n : Int)) rfl rfl rfl c c_1 c_2) (congrArg eL et)) ?_
        refine s_p rfl (y_assign rfl) ?_
        refine s_nil ?_
        exact hXx (t, l_2) _ _ _ _ [] H rfl ⟨rfl, rfl, True.intro⟩ rfl
      · clear H
        intro Jx_1 hJx_1 H
        refine c_block ?_
        refine c_seq ?_
        refine c_drawn (by kernel_rfl) ?_
        refine a_takeP 0 rfl (by decide +kernel) (np_then (np_blk (np_then (np_then (np_blk (np_then np_body)))))) rfl (y_move rfl) ?_
        obtain ⟨b, o, n, n_1, rfl, H⟩ := H
        obtain ⟨c_4, H⟩ := H
        refine a_takeP 1 rfl (by decide +kernel) (np_then (np_blk (np_then (np_then (np_blk (np_then np_body)))))) rfl (y_ixL rfl rfl (by decide) c_4 rfl) ?_
        obtain ⟨t_1, ht_1, H⟩ := H
        refine a_take 2 rfl (by decide +kernel) (np_then (np_blk (np_then (np_then (np_blk (np_then np_body)))))) rfl (y_ld rfl) (hc_S ht_1) ?_
        refine a_takeP 3 rfl (by decide +kernel) (np_then (np_blk (np_then (np_then (np_blk (np_then np_body)))))) rfl (y_conv ⟨_, Tryd.underlying5⟩ rfl) ?_
        refine a_takeP 4 rfl (by decide +kernel) (np_then (np_blk (np_then (np_then (np_blk (np_then np_body)))))) rfl (y_move rfl) ?_
        obtain ⟨c_6, H⟩ := H
        refine a_takeP 5 rfl (by decide +kernel) (np_then (np_blk (np_then (np_then (np_blk (np_then np_body)))))) rfl (y_ixL rfl rfl (by decide) c_6 rfl) ?_
        obtain ⟨t_2, ht_2, H⟩ := H
        refine a_take 6 rfl (by decide +kernel) (np_then (np_blk (np_then (np_then (np_blk (np_then np_body)))))) rfl (y_ld rfl) (hc_S ht_2) ?_
        refine a_takeP 7 rfl (by decide +kernel) (np_then (np_blk (np_then (np_then (np_blk (np_then np_body)))))) rfl (y_conv ⟨_, Tryd.underlying5⟩ rfl) ?_
        refine a_takeP 8 rfl (by decide +kernel) (np_then (np_blk (np_then (np_then (np_blk (np_then np_body)))))) rfl (y_shl rfl rfl (by decide)) ?_
        refine a_takeP 9 rfl (by decide +kernel) (np_then (np_blk (np_then (np_then (np_blk (np_then np_body)))))) rfl (y_or rfl rfl) ?_
        refine a_takeP 10 rfl (by decide +kernel) (np_then (np_blk (np_then (np_then (np_blk (np_then np_body)))))) rfl (y_move rfl) ?_
        obtain ⟨c_8, H⟩ := H
        refine a_takeP 11 rfl (by decide +kernel) (np_then (np_blk (np_then (np_then (np_blk (np_then np_body)))))) rfl (y_ixL rfl rfl (by decide) c_8 rfl) ?_
        obtain ⟨t_3, ht_3, H⟩ := H
        refine a_take 12 rfl (by decide +kernel) (np_then (np_blk (np_then (np_then (np_blk (np_then np_body)))))) rfl (y_ld rfl) (hc_S ht_3) ?_
        refine a_takeP 13 rfl (by decide +kernel) (np_then (np_blk (np_then (np_then (np_blk (np_then np_body)))))) rfl (y_conv ⟨_, Tryd.underlying5⟩ rfl) ?_
        refine a_takeP 14 rfl (by decide +kernel) (np_then (np_blk (np_then (np_then (np_blk (np_then np_body)))))) rfl (y_shl rfl rfl (by decide)) ?_
        refine a_takeP 15 rfl (by decide +kernel) (np_then (np_blk (np_then (np_then (np_blk (np_then np_body)))))) rfl (y_or rfl rfl) ?_
        refine a_takeP 16 rfl (by decide +kernel) (np_then (np_blk (np_then (np_then (np_blk (np_then np_body)))))) rfl (y_move rfl) ?_
        obtain ⟨c_10, H⟩ := H
        refine a_takeP 17 rfl (by decide +kernel) (np_then (np_blk (np_then (np_then (np_blk (np_then np_body)))))) rfl (y_ixL rfl rfl (by decide) c_10 rfl) ?_
        obtain ⟨t_4, ht_4, H⟩ := H
        refine a_take 18 rfl (by decide +kernel) (np_then (np_blk (np_then (np_then (np_blk (np_then np_body)))))) rfl (y_ld rfl) (hc_S ht_4) ?_
        refine a_takeP 19 rfl (by decide +kernel) (np_then (np_blk (np_then (np_then (np_blk (np_then np_body)))))) rfl (y_conv ⟨_, Tryd.underlying5⟩ rfl) ?_
        refine a_takeP 20 rfl (by decide +kernel) (np_then (np_blk (np_then (np_then (np_blk (np_then np_body)))))) rfl (y_shl rfl rfl (by decide)) ?_
        refine a_takeP 21 rfl (by decide +kernel) (np_then (np_blk (np_then (np_then (np_blk (np_then np_body)))))) rfl (y_or rfl rfl) ?_
        refine a_step2 22 26 (by decide +kernel) rfl rfl ?_ ?_
        · refine s_call rfl rfl H fun rv Sx_4 H2 => ?_
          clear H
          obtain ⟨t_5, t_6, rfl, ht_5, H⟩ := H2
          obtain ⟨k, H⟩ := H
          obtain ⟨k_1, H⟩ := H
          obtain ⟨k_2, H⟩ := H
          obtain ⟨k_3, H⟩ := H
          refine s_nil (q_any (ac_cons (hc_S k) (ac_cons (hc_S k_1) (ac_cons (hc_S k_2) (ac_cons (hc_S k_3) ac_nil)))) ?_)
          refine a_takeP 23 rfl (by decide +kernel) (np_then (np_blk (np_then (np_then (np_blk (np_then np_body)))))) rfl (y_move rfl) ?_
          refine a_takeP 24 rfl (by decide +kernel) (np_then (np_blk (np_then (np_then (np_blk (np_then np_body)))))) rfl (y_extract rfl rfl) ?_
          replace H := ite_e H
          rcases H with ⟨c_11, H⟩ | ⟨c_11, H⟩
          · refine a_takeP 25 rfl (by decide +kernel) (np_then (np_blk (np_then (np_then (np_blk (np_then np_body)))))) rfl (yB (y_extract rfl rfl) c_11) ?_
            refine a_step 26 (by decide +kernel) rfl ?_
            refine s_alloc rfl fun b_1 => ?_
            refine s_nil (q_any (ac_cons (hc_S k) (ac_cons (hc_S k_1) (ac_cons (hc_S k_2) (ac_cons (hc_S k_3) ac_nil)))) ?_)
            refine a_step 27 (by decide +kernel) rfl ?_
            obtain ⟨c_12, H⟩ := H
            refine s_stV_all 0 rfl rfl rfl rfl rfl ht_5 rfl c_12 ?_
            refine s_nil (q_any ac_nil ?_)
            refine a_takeP 28 rfl (by decide +kernel) (np_then (np_blk (np_then (np_then (np_blk (np_then np_body)))))) rfl (y_assign rfl) ?_
            refine a_done (by decide +kernel) ?_
            refine q_then ?_
            refine c_seq ?_
            refine c_seq ?_
            refine c_region ?_
            refine s_p rfl (y_move rfl) ?_
            refine s_p rfl (yB (y_not rfl) rfl) ?_
            refine s_nil (q_then ?_)
            refine c_f rfl rfl ?_
            refine c_skip (q_then ?_)
            refine c_region ?_
            refine s_p rfl (y_move rfl) ?_
            refine s_v rfl (y_ldA rfl ht_5) (hc_VP (k := 5) 0 rfl (lpart_all ht_5)) ?_
            refine s_call rfl rfl H fun rv Sx_5 H2 => ?_
            clear H
            obtain ⟨t_7, rfl, H⟩ := H2
            refine s_bs rfl rfl (by decide) rfl fun b_2 => ?_
            refine s_app (sx := l_1) (vs := [.string t_7]) rfl rfl rfl (fc_V 1 rfl rfl) rfl rfl (by decide) H fun t_8 Sx_6 H2 => ?_
            replace H := H2
            refine s_p rfl (y_assign rfl) ?_
            refine s_nil (q_blk ?_)
            exact hJx_1 t_8 _ _ _ _ [] H rfl ⟨rfl, rfl, True.intro⟩ rfl
          · refine a_takeP 25 rfl (by decide +kernel) (np_then (np_blk (np_then (np_then (np_blk (np_then np_body)))))) rfl (yB (y_extract rfl rfl) (bf_of c_11)) ?_
            refine a_step 26 (by decide +kernel) rfl ?_
            refine s_alloc rfl fun b_3 => ?_
            refine s_nil (q_any (ac_cons (hc_S k) (ac_cons (hc_S k_1) (ac_cons (hc_S k_2) (ac_cons (hc_S k_3) ac_nil)))) ?_)
            refine a_step 27 (by decide +kernel) rfl ?_
            obtain ⟨c_13, H⟩ := H
            refine s_stV_all 0 rfl rfl rfl rfl rfl ht_5 rfl c_13 ?_
            refine s_nil (q_any ac_nil ?_)
            refine a_takeP 28 rfl (by decide +kernel) (np_then (np_blk (np_then (np_then (np_blk (np_then np_body)))))) rfl (y_assign rfl) ?_
            refine a_done (by decide +kernel) ?_
            refine q_then ?_
            refine c_seq ?_
            refine c_seq ?_
            refine c_region ?_
            refine s_p rfl (y_move rfl) ?_
            refine s_p rfl (yB (y_not rfl) rfl) ?_
            refine s_nil (q_then ?_)
            refine c_t rfl rfl ?_
            refine c_seq ?_
            refine c_region ?_
            refine s_p rfl (y_move rfl) ?_
            refine s_bs rfl rfl (by decide) rfl fun b_4 => ?_
            refine s_app (sx := l_1) (vs := [.string (⟨#[63]⟩)]) rfl rfl rfl (fc_V 1 rfl rfl) rfl rfl (by decide) H fun t_9 Sx_7 H2 => ?_
            replace H := H2
            refine s_p rfl (y_assign rfl) ?_
            refine s_nil (q_then ?_)
            refine c_exit (q_then_exit (q_blk_out ?_))
            exact hJx_1 t_9 _ _ _ _ [] H rfl ⟨rfl, rfl, True.intro⟩ rfl
        · refine s_alloc rfl fun b_1 => ?_
          refine s_nil (q_any (ac_cons (hc_S ht_4) (ac_cons (hc_S ht_3) (ac_cons (hc_S ht_2) (ac_cons (hc_S ht_1) ac_nil)))) ?_)
          refine a_step 22 (by decide +kernel) rfl ?_
          refine s_call rfl rfl H fun rv Sx_4 H2 => ?_
          clear H
          obtain ⟨t_5, t_6, rfl, ht_5, H⟩ := H2
          obtain ⟨k, H⟩ := H
          obtain ⟨k_1, H⟩ := H
          obtain ⟨k_2, H⟩ := H
          obtain ⟨k_3, H⟩ := H
          refine s_nil (q_any (ac_cons (hc_S k) (ac_cons (hc_S k_1) (ac_cons (hc_S k_2) (ac_cons (hc_S k_3) ac_nil)))) ?_)
          refine a_takeP 23 rfl (by decide +kernel) (np_then (np_blk (np_then (np_then (np_blk (np_then np_body)))))) rfl (y_move rfl) ?_
          refine a_takeP 24 rfl (by decide +kernel) (np_then (np_blk (np_then (np_then (np_blk (np_then np_body)))))) rfl (y_extract rfl rfl) ?_
          replace H := ite_e H
          rcases H with ⟨c_11, H⟩ | ⟨c_11, H⟩
          · refine a_takeP 25 rfl (by decide +kernel) (np_then (np_blk (np_then (np_then (np_blk (np_then np_body)))))) rfl (yB (y_extract rfl rfl) c_11) ?_
            refine a_step 27 (by decide +kernel) rfl ?_
            obtain ⟨c_12, H⟩ := H
            refine s_stV_all 0 rfl rfl rfl rfl rfl ht_5 rfl c_12 ?_
            refine s_nil (q_any ac_nil ?_)
            refine a_takeP 28 rfl (by decide +kernel) (np_then (np_blk (np_then (np_then (np_blk (np_then np_body)))))) rfl (y_assign rfl) ?_
            refine a_done (by decide +kernel) ?_
            refine q_then ?_
            refine c_seq ?_
            refine c_seq ?_
            refine c_region ?_
            refine s_p rfl (y_move rfl) ?_
            refine s_p rfl (yB (y_not rfl) rfl) ?_
            refine s_nil (q_then ?_)
            refine c_f rfl rfl ?_
            refine c_skip (q_then ?_)
            refine c_region ?_
            refine s_p rfl (y_move rfl) ?_
            refine s_v rfl (y_ldA rfl ht_5) (hc_VP (k := 5) 0 rfl (lpart_all ht_5)) ?_
            refine s_call rfl rfl H fun rv Sx_5 H2 => ?_
            clear H
            obtain ⟨t_7, rfl, H⟩ := H2
            refine s_bs rfl rfl (by decide) rfl fun b_2 => ?_
            refine s_app (sx := l_1) (vs := [.string t_7]) rfl rfl rfl (fc_V 1 rfl rfl) rfl rfl (by decide) H fun t_8 Sx_6 H2 => ?_
            replace H := H2
            refine s_p rfl (y_assign rfl) ?_
            refine s_nil (q_blk ?_)
            exact hJx_1 t_8 _ _ _ _ [] H rfl ⟨rfl, rfl, True.intro⟩ rfl
          · refine a_takeP 25 rfl (by decide +kernel) (np_then (np_blk (np_then (np_then (np_blk (np_then np_body)))))) rfl (yB (y_extract rfl rfl) (bf_of c_11)) ?_
            refine a_step 27 (by decide +kernel) rfl ?_
            obtain ⟨c_13, H⟩ := H
            refine s_stV_all 0 rfl rfl rfl rfl rfl ht_5 rfl c_13 ?_
            refine s_nil (q_any ac_nil ?_)
            refine a_takeP 28 rfl (by decide +kernel) (np_then (np_blk (np_then (np_then (np_blk (np_then np_body)))))) rfl (y_assign rfl) ?_
            refine a_done (by decide +kernel) ?_
            refine q_then ?_
            refine c_seq ?_
            refine c_seq ?_
            refine c_region ?_
            refine s_p rfl (y_move rfl) ?_
            refine s_p rfl (yB (y_not rfl) rfl) ?_
            refine s_nil (q_then ?_)
            refine c_t rfl rfl ?_
            refine c_seq ?_
            refine c_region ?_
            refine s_p rfl (y_move rfl) ?_
            refine s_bs rfl rfl (by decide) rfl fun b_3 => ?_
            refine s_app (sx := l_1) (vs := [.string (⟨#[63]⟩)]) rfl rfl rfl (fc_V 1 rfl rfl) rfl rfl (by decide) H fun t_9 Sx_7 H2 => ?_
            replace H := H2
            refine s_p rfl (y_assign rfl) ?_
            refine s_nil (q_then ?_)
            refine c_exit (q_then_exit (q_blk_out ?_))
            exact hJx_1 t_9 _ _ _ _ [] H rfl ⟨rfl, rfl, True.intro⟩ rfl
    · clear H
      intro Jx_2 hJx_2 H
      refine c_seq ?_
      refine c_region ?_
      refine s_p rfl (y_move rfl) ?_
      refine s_p rfl (y_len rfl) ?_
      replace H := ite_e H
      rcases H with ⟨c_14, H⟩ | ⟨c_14, H⟩
      · refine s_p rfl (yT (y_geq rfl rfl) c_14) ?_
        refine s_nil (q_then ?_)
        refine c_t rfl rfl ?_
        refine c_skip ?_
        exact hJx_2 () _ _ _ _ [] H rfl ⟨rfl, rfl, True.intro⟩ rfl
      · refine s_p rfl (yF (y_geq rfl rfl) c_14) ?_
        refine s_nil (q_then ?_)
        refine c_f rfl rfl ?_
        refine c_exit (q_then_exit (q_then_exit (q_blk_out ?_)))
        exact hJx l_1 _ _ _ _ [] H rfl ⟨rfl, True.intro⟩ rfl
def b_text_Lay (S : Mem) (lines : ByteArray) (Q : Sl → Int → Int → Mem → Prop) : Prop :=
  jn (fun (out : Sl) (Sx : Mem) =>
      Q out 0 0 Sx) fun Jx =>
  strings_Split S lines (⟨#[59]⟩) fun t Sx_1 =>
  lp (fun Xx (z : Sl × Int) (Sx_2 : Mem) =>
      match z with
      | (out_1, t_1) =>
        if t_1 < (t.n : Int) then
          sl t fun b o n n_1 =>
          0 ≤ t_1 ∧ t_1 < ((n : Nat) : Int) ∧
          gS (Sx_2.cell b (o + t_1.toNat * 1)) fun t_2 =>
          strings_Trim Sx_2 t_2 (⟨#[32]⟩) fun t_3 Sx_3 =>
          text_Read Sx_3 t_3 fun t_4 t_5 Sx_4 =>
          t_4.all (·.oneCell') = true ∧
          jn (fun (Sx_5 : Mem) =>
              code_Encode Sx_5 t_4 fun t_6 t_7 Sx_6 =>
              ap Sx_6 5 1 1 [.int .u8 0] out_1 4 ([.int .u8 (IntKind.u8.wrap t_6), .int .u8 (IntKind.u8.wrap (ishr .u32 t_6 8)), .int .u8 (IntKind.u8.wrap (ishr .u32 t_6 16)), .int .u8 (IntKind.u8.wrap (ishr .u32 t_6 24))]) fun t_8 Sx_7 =>
              Xx (t_8, IntKind.i64.wrap (t_1 + 1)) Sx_7) fun Jx_1 =>
          if t_5 ≠ 0 then
            Q (⟨none, 0, 0⟩) t_1 t_5 Sx_4
          else
          Jx_1 Sx_4
        else
        Jx out_1 Sx_2) (⟨none, 0, 0⟩, 0) Sx_1
theorem t_text_Lay {S : Mem} {lines : ByteArray} {Q : Sl → Int → Int → Mem → Prop} (H : b_text_Lay S lines Q) : text_Lay S lines Q := by
  unfold b_text_Lay at H
  refine Tr.intro Tryd.func15 rfl Tryd.ntmps15 rfl fun w0 => ?_
  refine c_seq ?_
  refine c_region ?_
  refine s_p rfl (y_assign rfl) ?_
  refine s_p rfl (y_assign rfl) ?_
  refine s_p rfl (y_assign rfl) ?_
  refine s_nil (q_then ?_)
  refine c_seq ?_
  refine c_region ?_
  refine s_p rfl (y_assign rfl) ?_
  refine s_nil (q_then ?_)
  refine c_join2 H (fun (J : Sl → Mem → Prop) (z : Sl) S => J z S) (fun z => ⟨51, [(5, eL z)]⟩) (fun z => []) ?_ ?_
  · clear H
    rintro out Sx H
    refine c_seq ?_
    refine c_region ?_
    refine s_p rfl (y_move rfl) ?_
    refine s_p rfl (y_assign rfl) ?_
    refine s_p rfl (y_assign rfl) ?_
    refine s_p rfl (y_assign rfl) ?_
    refine s_nil (q_then ?_)
    refine c_ret ?_
    exact q_ret Tryd.results15 (rv_tmp rfl (rv_tmp rfl (rv_tmp rfl rv_nil))) ⟨_, _, _, rfl, H⟩
  · clear H
    intro Jx hJx H
    refine c_seq ?_
    refine c_region ?_
    refine s_p rfl (y_move rfl) ?_
    refine s_call rfl rfl H fun rv Sx_1 H2 => ?_
    clear H
    obtain ⟨t, rfl, H⟩ := H2
    refine s_p rfl (y_len rfl) ?_
    refine s_p rfl (y_move rfl) ?_
    refine s_nil (q_then ?_)
    refine c_block ?_
    refine c_loop (fun z => ⟨51, [(5, eL z.1), (13, eL t), (14, .int .i64 (t.n : Int)), (15, .int .i64 z.2)]⟩) (fun z => []) (⟨none, 0, 0⟩, 0) (idx := []) H rfl ⟨rfl, rfl, rfl, rfl, True.intro⟩ rfl ?_
    clear H
    rintro Xx hXx ⟨out_1, t_1⟩ Sx_2 H
    refine c_seq ?_
    refine c_region ?_
    replace H := ite_e H
    rcases H with ⟨c, H⟩ | ⟨c, H⟩
    · refine s_p rfl (yT (y_lss rfl rfl) c) ?_
      refine s_nil (q_then ?_)
      refine c_seq ?_
      refine c_t rfl rfl ?_
      refine c_skip (q_then ?_)
      refine c_seq ?_
      refine c_block ?_
      refine c_seq ?_
      refine c_region ?_
      refine s_p rfl (y_move rfl) ?_
      obtain ⟨b, o, n, n_1, rfl, H⟩ := H
      obtain ⟨c_1, c_2, H⟩ := H
      refine s_p rfl (y_ixL rfl rfl c_1 c_2 rfl) ?_
      obtain ⟨t_2, ht_2, H⟩ := H
      refine s_v rfl (y_ld rfl) (hc_S ht_2) ?_
      refine s_p rfl (y_assign rfl) ?_
      refine s_p rfl (y_assign rfl) ?_
      refine s_nil (q_then ?_)
      refine c_seq ?_
      refine c_region ?_
      refine s_p rfl (y_move rfl) ?_
      refine s_call rfl rfl H fun rv Sx_3 H2 => ?_
      clear H
      obtain ⟨t_3, rfl, H⟩ := H2
      refine s_call rfl rfl H fun rv Sx_4 H2 => ?_
      clear H
      obtain ⟨t_4, t_5, rfl, ht_4, H⟩ := H2
      refine s_p rfl (y_move rfl) ?_
      refine s_p rfl (y_extract rfl rfl) ?_
      refine s_p rfl (y_extract rfl rfl) ?_
      refine s_alloc rfl fun b_1 => ?_
      obtain ⟨c_3, H⟩ := H
      refine s_stV_all 0 rfl rfl rfl rfl rfl ht_4 rfl c_3 ?_
      refine s_p rfl (y_assign rfl) ?_
      refine s_nil (q_then ?_)
      refine c_join2 H (fun (J : Mem → Prop) (z : Unit) S => J S) (fun z => ⟨51, [(5, eL out_1), (8, .pointer (some ⟨b_1, 0, none⟩)), (13, .slice (some ⟨b, o, none⟩) n n_1), (14, .int .i64 (n : Int)), (15, .int .i64 t_1)]⟩) (fun z => [⟨b_1, 24, t_4⟩]) ?_ ?_
      · clear H
        rintro _ Sx_5 H
        refine c_seq ?_
        refine c_region ?_
        refine s_v rfl (y_ldA rfl ht_4) (hc_VP (k := 5) 0 rfl (lpart_all ht_4)) ?_
        refine s_call rfl rfl H fun rv Sx_6 H2 => ?_
        clear H
        obtain ⟨t_6, t_7, rfl, H⟩ := H2
        refine s_p rfl (y_move rfl) ?_
        refine s_p rfl (y_extract rfl rfl) ?_
        refine s_p rfl (y_extract rfl rfl) ?_
        refine s_p rfl (y_assign rfl) ?_
        refine s_p rfl (y_assign rfl) ?_
        refine s_nil (q_then ?_)
        refine c_region ?_
        refine s_p rfl (y_move rfl) ?_
        refine s_p rfl (y_move rfl) ?_
        refine s_p rfl (y_conv ⟨_, Tryd.underlying37⟩ rfl) ?_
        refine s_p rfl (y_move rfl) ?_
        refine s_p rfl (y_shr rfl rfl (by decide)) ?_
        refine s_p rfl (y_conv ⟨_, Tryd.underlying37⟩ rfl) ?_
        refine s_p rfl (y_move rfl) ?_
        refine s_p rfl (y_shr rfl rfl (by decide)) ?_
        refine s_p rfl (y_conv ⟨_, Tryd.underlying37⟩ rfl) ?_
        refine s_p rfl (y_move rfl) ?_
        refine s_p rfl (y_shr rfl rfl (by decide)) ?_
        refine s_p rfl (y_conv ⟨_, Tryd.underlying37⟩ rfl) ?_
        refine s_bs rfl rfl (by decide) rfl fun b_2 => ?_
        refine s_app (sx := out_1) (vs := [.int .u8 (IntKind.u8.wrap t_6), .int .u8 (IntKind.u8.wrap (ishr .u32 t_6 8)), .int .u8 (IntKind.u8.wrap (ishr .u32 t_6 16)), .int .u8 (IntKind.u8.wrap (ishr .u32 t_6 24))]) rfl rfl rfl (fc_V 1 rfl rfl) rfl rfl (by decide) H fun t_8 Sx_7 H2 => ?_
        replace H := H2
        refine s_p rfl (y_assign rfl) ?_
        refine s_nil (q_blk (q_then ?_))
        refine c_region ?_
        refine s_p rfl (y_add rfl rfl) ?_
        refine s_p rfl (y_move rfl) ?_
        refine s_nil ?_
        exact hXx (t_8, IntKind.i64.wrap (t_1 + 1)) _ _ _ _ [] H rfl ⟨rfl, rfl, rfl, rfl, True.intro⟩ rfl
      · clear H
        intro Jx_1 hJx_1 H
        refine c_seq ?_
        refine c_region ?_
        refine s_p rfl (y_move rfl) ?_
        replace H := ite_e H
        rcases H with ⟨c_4, H⟩ | ⟨c_4, H⟩
        · refine s_p rfl (yT (y_neq rfl rfl) c_4) ?_
          refine s_nil (q_then ?_)
          refine c_t rfl rfl ?_
          refine c_seq ?_
          refine c_region ?_
          refine s_p rfl (y_move rfl) ?_
          refine s_p rfl (y_move rfl) ?_
          refine s_p rfl (y_assign rfl) ?_
          refine s_p rfl (y_assign rfl) ?_
          refine s_p rfl (y_assign rfl) ?_
          refine s_nil (q_then ?_)
          refine c_ret (q_then_ret (q_blk_ret (q_then_ret (q_then_ret (q_blk_ret (q_then_ret ?_))))))
          exact q_ret Tryd.results15 (rv_tmp rfl (rv_tmp rfl (rv_tmp rfl rv_nil))) ⟨_, _, _, rfl, H⟩
        · refine s_p rfl (yF (y_neq rfl rfl) c_4) ?_
          refine s_nil (q_then ?_)
          refine c_f rfl rfl ?_
          refine c_skip ?_
          exact hJx_1 () _ _ _ _ [0] H rfl ⟨rfl, rfl, rfl, rfl, rfl, True.intro⟩ rfl
    · refine s_p rfl (yF (y_lss rfl rfl) c) ?_
      refine s_nil (q_then ?_)
      refine c_seq ?_
      refine c_f rfl rfl ?_
      refine c_exit (q_then_exit (q_then_exit (q_blk_out ?_)))
      exact hJx out_1 _ _ _ _ [] H rfl ⟨rfl, True.intro⟩ rfl
end Go.Proofs.YtpilffakhkagjaaDoor
