/- PRINTED BY pt.py: functions. -/
import Derived.Test.YtpilffakhkagjaaPtS
namespace Go.Proofs.Ytpilffakhkagjaa
open Go Go.Pt
attribute [local irreducible] Code.wp Back bodyPost wpList FR WL WC WQ WA AW Tr Yc HC AllC
set_option maxRecDepth 20000
set_option maxHeartbeats 4000000
set_option linter.unusedVariables false
def b_hermitcrablaw15_GuestTwins (S : Mem) (d : List Value) (vm : Int) (how : Int) (Q : Bool → Mem → Prop) : Prop :=
  d.length = 45 ∧
  jn (fun (Sx : Mem) =>
      0 ≤ IntKind.i64.wrap (Int.tmod vm 6) ∧ IntKind.i64.wrap (Int.tmod vm 6) < 6 ∧
      hermitcrablaw15_state Sx (spl d (0 + (IntKind.i64.wrap (Int.tmod vm 6)).toNat * 1) ([.bool true])) fun t Sx_1 =>
      jn (fun (Sx_2 : Mem) =>
          guest_State_Twin Sx_2 t fun t_1 Sx_3 =>
          jn (fun (Sx_4 : Mem) =>
              nn t fun b_1 o =>
              0 ≤ IntKind.i64.wrap (Int.tmod vm 6) ∧ IntKind.i64.wrap (Int.tmod vm 6) < 6 ∧
              gA (Sx_4.part b_1 (o + 2 + (IntKind.i64.wrap (Int.tmod vm 6)).toNat * 12) 12) fun t_2 =>
              guest_Copy Sx_4 t_2 fun t_3 Sx_5 =>
              t_3.all (·.oneCell') = true ∧
              gL (nthL t_3 1) fun t_4 =>
              sl t_4 fun b_3 o_1 n n_1 =>
              (0 : Int) < (n : Nat) ∧
              gI (Sx_5.cell b_3 (o_1 + 16)) .u64 fun t_5 =>
              (0 : Int) < (n : Nat) ∧
              pt Sx_5 b_3 (o_1 + 16) 1 ([.int .u64 (IntKind.u64.wrap (t_5 + 1))]) fun Sx_6 =>
              gL (nthL t_3 8) fun t_6 =>
              sl t_6 fun b_4 o_2 n_2 n_3 =>
              (1 : Int) < (n_2 : Nat) ∧
              gI (Sx_6.cell b_4 (o_2 + 1)) .u8 fun t_7 =>
              (1 : Int) < (n_2 : Nat) ∧
              pt Sx_6 b_4 (o_2 + 1) 1 ([.int .u8 (IntKind.u8.wrap (t_7 + 1))]) fun Sx_7 =>
              gL (nthL t_3 6) fun t_8 =>
              ap Sx_7 5 1 1 [.int .u8 0] t_8 1 ([.int .u8 1]) fun t_9 Sx_8 =>
              jn (fun (Sx_9 : Mem) =>
                  jn (fun (alike : Bool) (Sx_10 : Mem) =>
                      guest_Same Sx_10 (some (b_1, o)) t_1 fun t_10 Sx_11 =>
                      if t_10 = alike then
                        0 ≤ IntKind.i64.wrap (Int.tmod vm 6) ∧ IntKind.i64.wrap (Int.tmod vm 6) < 6 ∧
                        gL (Sx_11.cell b_1 (o + 2 + (IntKind.i64.wrap (Int.tmod vm 6)).toNat * 12 + 1)) fun t_11 =>
                        sl t_11 fun b_6 o_3 n_4 n_5 =>
                        (0 : Int) < (n_4 : Nat) ∧
                        gI (Sx_11.cell b_6 o_3) .u64 fun t_12 =>
                        if t_12 = 0 then
                          0 ≤ IntKind.i64.wrap (Int.tmod vm 6) ∧ IntKind.i64.wrap (Int.tmod vm 6) < 6 ∧
                          gL (Sx_11.cell b_1 (o + 2 + (IntKind.i64.wrap (Int.tmod vm 6)).toNat * 12 + 6)) fun t_13 =>
                          gL (nthL (spl d (0 + (IntKind.i64.wrap (Int.tmod vm 6)).toNat * 1) ([.bool true])) 12) fun t_14 =>
                          if (t_13.n : Int) = (t_14.n : Int) then
                            0 ≤ IntKind.i64.wrap (Int.tmod vm 6) ∧ IntKind.i64.wrap (Int.tmod vm 6) < 6 ∧
                            gL (Sx_11.cell b_1 (o + 2 + (IntKind.i64.wrap (Int.tmod vm 6)).toNat * 12 + 10)) fun t_15 =>
                            sl t_15 fun b_7 o_4 n_6 n_7 =>
                            (255 : Int) < (n_6 : Nat) ∧
                            gI (Sx_11.cell b_7 (o_4 + 255)) .u8 fun t_16 =>
                            if t_16 = 0 then
                              gP (Sx_11.cell b_1 (o + 74)) fun t_17 =>
                              owner_Book_Count Sx_11 t_17 3 (IntKind.i64.wrap (Int.tmod vm 6)) fun t_18 Sx_12 =>
                              Sx_12.cell b_7 (o_4 + 255) = some (.int .u8 t_16) ∧
                              Sx_12.cell b_1 (o + 2 + (IntKind.i64.wrap (Int.tmod vm 6)).toNat * 12 + 10) = some (eL t_15) ∧
                              Sx_12.cell b_1 (o + 2 + (IntKind.i64.wrap (Int.tmod vm 6)).toNat * 12 + 6) = some (eL t_13) ∧
                              Sx_12.cell b_6 o_3 = some (.int .u64 t_12) ∧
                              Sx_12.cell b_1 (o + 2 + (IntKind.i64.wrap (Int.tmod vm 6)).toNat * 12 + 1) = some (eL t_11) ∧
                              if t_18 = 1 then
                                gP (Sx_12.cell b_1 (o + 74)) fun t_19 =>
                                owner_Book_Count Sx_12 t_19 2 (IntKind.i64.wrap (Int.tmod vm 6)) fun t_20 Sx_13 =>
                                Sx_13.cell b_7 (o_4 + 255) = some (.int .u8 t_16) ∧
                                Sx_13.cell b_1 (o + 2 + (IntKind.i64.wrap (Int.tmod vm 6)).toNat * 12 + 10) = some (eL t_15) ∧
                                Sx_13.cell b_1 (o + 2 + (IntKind.i64.wrap (Int.tmod vm 6)).toNat * 12 + 6) = some (eL t_13) ∧
                                Sx_13.cell b_6 o_3 = some (.int .u64 t_12) ∧
                                Sx_13.cell b_1 (o + 2 + (IntKind.i64.wrap (Int.tmod vm 6)).toNat * 12 + 1) = some (eL t_11) ∧
                                Q (decide (t_20 = 0)) Sx_13
                              else
                              Q false Sx_12
                            else
                            Q false Sx_11
                          else
                          Q false Sx_11
                        else
                        Q false Sx_11
                      else
                      Q false Sx_11) fun Jx =>
                  if Int.tmod how 7 = 0 then
                    nn t_1 fun b_8 o_5 =>
                    0 ≤ IntKind.i64.wrap (Int.tmod vm 6) ∧ IntKind.i64.wrap (Int.tmod vm 6) < 6 ∧
                    gL (Sx_9.cell b_8 (o_5 + 2 + (IntKind.i64.wrap (Int.tmod vm 6)).toNat * 12 + 1)) fun t_21 =>
                    sl t_21 fun b_9 o_6 n_8 n_9 =>
                    (0 : Int) < (n_8 : Nat) ∧
                    gI (Sx_9.cell b_9 o_6) .u64 fun t_22 =>
                    (0 : Int) < (n_8 : Nat) ∧
                    pt Sx_9 b_9 o_6 1 ([.int .u64 (IntKind.u64.wrap (t_22 + 1))]) fun Sx_14 =>
                    Jx false Sx_14
                  else
                  if Int.tmod how 7 = 1 then
                    nn t_1 fun b_10 o_7 =>
                    0 ≤ IntKind.i64.wrap (Int.tmod vm 6) ∧ IntKind.i64.wrap (Int.tmod vm 6) < 6 ∧
                    gL (Sx_9.cell b_10 (o_7 + 2 + (IntKind.i64.wrap (Int.tmod vm 6)).toNat * 12 + 6)) fun t_23 =>
                    ap Sx_9 5 1 1 [.int .u8 0] t_23 1 ([.int .u8 5]) fun t_24 Sx_15 =>
                    0 ≤ IntKind.i64.wrap (Int.tmod vm 6) ∧ IntKind.i64.wrap (Int.tmod vm 6) < 6 ∧
                    pt Sx_15 b_10 (o_7 + 2 + (IntKind.i64.wrap (Int.tmod vm 6)).toNat * 12 + 6) 1 ([eL t_24]) fun Sx_16 =>
                    Jx false Sx_16
                  else
                  if Int.tmod how 7 = 2 then
                    nn t_1 fun b_12 o_8 =>
                    0 ≤ IntKind.i64.wrap (Int.tmod vm 6) ∧ IntKind.i64.wrap (Int.tmod vm 6) < 6 ∧
                    gL (Sx_9.cell b_12 (o_8 + 2 + (IntKind.i64.wrap (Int.tmod vm 6)).toNat * 12 + 10)) fun t_25 =>
                    sl t_25 fun b_13 o_9 n_10 n_11 =>
                    (255 : Int) < (n_10 : Nat) ∧
                    gI (Sx_9.cell b_13 (o_9 + 255)) .u8 fun t_26 =>
                    (255 : Int) < (n_10 : Nat) ∧
                    pt Sx_9 b_13 (o_9 + 255) 1 ([.int .u8 (IntKind.u8.wrap (t_26 + 1))]) fun Sx_17 =>
                    Jx false Sx_17
                  else
                  if Int.tmod how 7 = 3 then
                    nn t_1 fun b_14 o_10 =>
                    gP (Sx_9.cell b_14 (o_10 + 74)) fun t_27 =>
                    owner_Book_Donate Sx_9 t_27 19 (IntKind.i64.wrap (Int.tmod vm 6)) 7 fun t_28 Sx_18 =>
                    Jx false Sx_18
                  else
                  if Int.tmod how 7 = 4 then
                    nn t_1 fun b_15 o_11 =>
                    0 ≤ IntKind.i64.wrap (Int.tmod vm 6) ∧ IntKind.i64.wrap (Int.tmod vm 6) < 6 ∧
                    gI (Sx_9.cell b_15 (o_11 + 2 + (IntKind.i64.wrap (Int.tmod vm 6)).toNat * 12 + 11)) .u32 fun t_29 =>
                    0 ≤ IntKind.i64.wrap (Int.tmod vm 6) ∧ IntKind.i64.wrap (Int.tmod vm 6) < 6 ∧
                    pt Sx_9 b_15 (o_11 + 2 + (IntKind.i64.wrap (Int.tmod vm 6)).toNat * 12 + 11) 1 ([.int .u32 (ixor .u32 t_29 1)]) fun Sx_19 =>
                    Jx false Sx_19
                  else
                  if Int.tmod how 7 = 5 then
                    nn t_1 fun b_16 o_12 =>
                    gP (Sx_9.cell b_16 (o_12 + 74)) fun t_30 =>
                    owner_Book_Keep Sx_9 t_30 18 (IntKind.i64.wrap (Int.tmod vm 6)) fun t_31 Sx_20 =>
                    gI (Sx_20.cell b_16 (o_12 + 1)) .u64 fun t_32 =>
                    pt Sx_20 b_16 (o_12 + 1) 1 ([.int .u64 (IntKind.u64.wrap (t_32 + 1))]) fun Sx_21 =>
                    0 ≤ IntKind.i64.wrap (Int.tmod vm 6) ∧ IntKind.i64.wrap (Int.tmod vm 6) < 6 ∧
                    gI (Sx_21.cell b_16 (o_12 + 2 + (IntKind.i64.wrap (Int.tmod vm 6)).toNat * 12 + 5)) .u64 fun t_33 =>
                    0 ≤ IntKind.i64.wrap (Int.tmod vm 6) ∧ IntKind.i64.wrap (Int.tmod vm 6) < 6 ∧
                    pt Sx_21 b_16 (o_12 + 2 + (IntKind.i64.wrap (Int.tmod vm 6)).toNat * 12 + 5) 1 ([.int .u64 (IntKind.u64.wrap (t_33 + 1))]) fun Sx_22 =>
                    gP (Sx_22.cell b_16 (o_12 + 171)) fun t_34 =>
                    alarm_Clock_Shift Sx_22 t_34 1 fun Sx_23 =>
                    Jx true Sx_23
                  else
                  nn t_1 fun b_17 o_13 =>
                  gI (Sx_9.cell b_17 (o_13 + 176)) .i64 fun t_35 =>
                  pt Sx_9 b_17 (o_13 + 176) 1 ([.int .i64 (IntKind.i64.wrap (t_35 + 1))]) fun Sx_24 =>
                  Jx false Sx_24) fun Jx_1 =>
              0 ≤ IntKind.i64.wrap (Int.tmod vm 6) ∧ IntKind.i64.wrap (Int.tmod vm 6) < 6 ∧
              gA (Sx_8.part b_1 (o + 2 + (IntKind.i64.wrap (Int.tmod vm 6)).toNat * 12) 12) fun t_36 =>
              guest_SameVM Sx_8 (spl t_3 6 ([eL t_9])) t_36 fun t_37 Sx_25 =>
              if t_37 = true then
                Q false Sx_25
              else
              0 ≤ IntKind.i64.wrap (Int.tmod vm 6) ∧ IntKind.i64.wrap (Int.tmod vm 6) < 6 ∧
              gL (Sx_25.cell b_1 (o + 2 + (IntKind.i64.wrap (Int.tmod vm 6)).toNat * 12 + 1)) fun t_38 =>
              sl t_38 fun b_18 o_14 n_12 n_13 =>
              (0 : Int) < (n_12 : Nat) ∧
              gI (Sx_25.cell b_18 (o_14 + 16)) .u64 fun t_39 =>
              if t_39 ≠ 0 then
                Q false Sx_25
              else
              0 ≤ IntKind.i64.wrap (Int.tmod vm 6) ∧ IntKind.i64.wrap (Int.tmod vm 6) < 6 ∧
              gL (Sx_25.cell b_1 (o + 2 + (IntKind.i64.wrap (Int.tmod vm 6)).toNat * 12 + 8)) fun t_40 =>
              sl t_40 fun b_19 o_15 n_14 n_15 =>
              (1 : Int) < (n_14 : Nat) ∧
              gI (Sx_25.cell b_19 (o_15 + 1)) .u8 fun t_41 =>
              if t_41 ≠ 0 then
                Q false Sx_25
              else
              Jx_1 Sx_25) fun Jx_2 =>
          guest_Same Sx_3 t t_1 fun t_42 Sx_26 =>
          if t_42 = true then
            nn t fun b_20 o_16 =>
            0 ≤ IntKind.i64.wrap (Int.tmod vm 6) ∧ IntKind.i64.wrap (Int.tmod vm 6) < 6 ∧
            gA (Sx_26.part b_20 (o_16 + 2 + (IntKind.i64.wrap (Int.tmod vm 6)).toNat * 12) 12) fun t_43 =>
            nn t_1 fun b_21 o_17 =>
            0 ≤ IntKind.i64.wrap (Int.tmod vm 6) ∧ IntKind.i64.wrap (Int.tmod vm 6) < 6 ∧
            gA (Sx_26.part b_21 (o_17 + 2 + (IntKind.i64.wrap (Int.tmod vm 6)).toNat * 12) 12) fun t_44 =>
            guest_SameVM Sx_26 t_43 t_44 fun t_45 Sx_27 =>
            if t_45 = true then
              gI (Sx_27.cell b_20 (o_16 + 1)) .u64 fun t_46 =>
              gI (Sx_27.cell b_21 (o_17 + 1)) .u64 fun t_47 =>
              if t_46 ≠ t_47 then
                Q false Sx_27
              else
              Jx_2 Sx_27
            else
            Q false Sx_27
          else
          Q false Sx_26) fun Jx_3 =>
      if t = none then
        Q false Sx_1
      else
      Jx_3 Sx_1) fun Jx_4 =>
  hermitcrablaw15_awake S fun t_48 Sx_28 =>
  if t_48 = true then
    gL (nthL d 12) fun t_49 =>
    if 60 < (t_49.n : Int) then
      hermitcrablaw15_awake Sx_28 fun t_50 Sx_29 =>
      Q t_50 Sx_29
    else
    Jx_4 Sx_28
  else
  hermitcrablaw15_awake Sx_28 fun t_51 Sx_30 =>
  Q t_51 Sx_30
theorem t_hermitcrablaw15_GuestTwins {S : Mem} {d : List Value} {vm : Int} {how : Int} {Q : Bool → Mem → Prop} (H : b_hermitcrablaw15_GuestTwins S d vm how Q) : hermitcrablaw15_GuestTwins S d vm how Q := by
  unfold b_hermitcrablaw15_GuestTwins at H
  refine Tr.intro Try.func5 rfl Try.ntmps5 rfl fun w0 => ?_
  obtain ⟨hd, H⟩ := H
  refine c_seq ?_
  refine c_region ?_
  refine s_box rfl rfl rfl fun b => ?_
  refine s_p rfl (y_assign rfl) ?_
  refine s_nil (q_then ?_)
  refine c_join2 H (fun (J : Mem → Prop) (z : Unit) S => J S) (fun z => ⟨304, [(1, .int .u8 vm), (2, .int .u8 how), (3, .pointer (some ⟨b, 0, none⟩))]⟩) (fun z => [⟨b, 52, d⟩]) ?_ ?_
  · clear H
    rintro _ Sx H
    refine c_seq ?_
    refine c_region ?_
    refine s_p rfl (y_move rfl) ?_
    refine s_p rfl (y_rem rfl rfl (by decide)) ?_
    refine s_p rfl (y_conv ⟨_, Try.underlying5⟩ rfl) ?_
    refine s_p rfl (y_assign rfl) ?_
    refine s_nil (q_then ?_)
    refine c_seq ?_
    refine c_region ?_
    refine s_p rfl (y_move rfl) ?_
    refine s_p rfl (y_fa rfl rfl) ?_
    obtain ⟨c, c_1, H⟩ := H
    refine s_p rfl (y_ixA rfl rfl c c_1 rfl) ?_
    refine s_stV (sz := 1) (vs := [.bool true]) 0 rfl rfl rfl rfl rfl rfl (fit_of hd (by omega)) rfl ?_
    refine s_nil (q_then ?_)
    refine c_seq ?_
    refine c_region ?_
    refine s_v rfl (y_ldA rfl (spl_ln hd (by have := True.intro; simp only [List.length_cons, List.length_nil]; omega))) (hc_VP (k := 45) 0 rfl (lpart_all (spl_ln hd (by have := True.intro; simp only [List.length_cons, List.length_nil]; omega)))) ?_
    refine s_call rfl rfl H fun rv Sx_1 H2 => ?_
    clear H
    obtain ⟨t, rfl, H⟩ := H2
    refine s_p rfl (y_assign rfl) ?_
    refine s_nil (q_then ?_)
    refine c_join2 H (fun (J : Mem → Prop) (z : Unit) S => J S) (fun z => ⟨304, [(2, .int .u8 how), (3, .pointer (some ⟨b, 0, none⟩)), (7, .int .i64 (IntKind.i64.wrap (Int.tmod vm 6))), (8, eP t)]⟩) (fun z => [⟨b, 52, spl d (0 + (IntKind.i64.wrap (Int.tmod vm 6)).toNat * 1) ([.bool true])⟩]) ?_ ?_
    · clear H
      rintro _ Sx_2 H
      refine c_seq ?_
      refine c_region ?_
      refine s_p rfl (y_move rfl) ?_
      refine s_call rfl rfl H fun rv Sx_3 H2 => ?_
      clear H
      obtain ⟨t_1, rfl, H⟩ := H2
      refine s_p rfl (y_assign rfl) ?_
      refine s_nil (q_then ?_)
      refine c_join2 H (fun (J : Mem → Prop) (z : Unit) S => J S) (fun z => ⟨304, [(2, .int .u8 how), (3, .pointer (some ⟨b, 0, none⟩)), (7, .int .i64 (IntKind.i64.wrap (Int.tmod vm 6))), (8, eP t), (9, eP t_1)]⟩) (fun z => [⟨b, 52, spl d (0 + (IntKind.i64.wrap (Int.tmod vm 6)).toNat * 1) ([.bool true])⟩]) ?_ ?_
      · clear H
        rintro _ Sx_4 H
        refine c_seq ?_
        refine c_region ?_
        refine s_p rfl (y_move rfl) ?_
        refine s_p rfl (y_move rfl) ?_
        obtain ⟨b_1, o, rfl, H⟩ := H
        refine s_p rfl (y_nc rfl) ?_
        refine s_p rfl (y_fa rfl rfl) ?_
        obtain ⟨c_2, c_3, H⟩ := H
        refine s_p rfl (y_ixA rfl rfl c_2 c_3 rfl) ?_
        obtain ⟨t_2, ht_2, H⟩ := H
        refine s_v rfl (y_ldA rfl (part_len ht_2)) (hc_SP ht_2) ?_
        refine s_call rfl rfl H fun rv Sx_5 H2 => ?_
        clear H
        obtain ⟨t_3, rfl, ht_3, H⟩ := H2
        refine s_alloc rfl fun b_2 => ?_
        obtain ⟨c_4, H⟩ := H
        refine s_stV_all 1 rfl rfl rfl rfl rfl ht_3 rfl c_4 ?_
        refine s_nil (q_then ?_)
        refine c_seq ?_
        refine c_region ?_
        refine s_p rfl (y_fa rfl rfl) ?_
        obtain ⟨t_4, ht_4, H⟩ := H
        refine s_v rfl (y_ld rfl) (hc_V 1 rfl ht_4) ?_
        obtain ⟨b_3, o_1, n, n_1, rfl, H⟩ := H
        obtain ⟨c_6, H⟩ := H
        refine s_p rfl (y_ixL rfl rfl (by decide) c_6 rfl) ?_
        refine s_p rfl (y_fa rfl rfl) ?_
        obtain ⟨t_5, ht_5, H⟩ := H
        refine s_v rfl (y_ld rfl) (hc_S ht_5) ?_
        refine s_p rfl (y_add rfl rfl) ?_
        obtain ⟨c_8, H⟩ := H
        refine s_p rfl (y_ixL rfl rfl (by decide) c_8 rfl) ?_
        refine s_p rfl (y_fa rfl rfl) ?_
        obtain ⟨c_9, H⟩ := H
        refine s_stS rfl rfl rfl rfl rfl c_9 rfl ?_
        refine s_nil (q_then ?_)
        refine c_seq ?_
        refine c_region ?_
        refine s_p rfl (y_fa rfl rfl) ?_
        refine s_p rfl (y_ixA rfl rfl (by decide) (by decide) rfl) ?_
        obtain ⟨t_6, ht_6, H⟩ := H
        refine s_v rfl (y_ld rfl) (hc_V 1 rfl ht_6) ?_
        obtain ⟨b_4, o_2, n_2, n_3, rfl, H⟩ := H
        obtain ⟨c_11, H⟩ := H
        refine s_p rfl (y_ixL rfl rfl (by decide) c_11 rfl) ?_
        obtain ⟨t_7, ht_7, H⟩ := H
        refine s_v rfl (y_ld rfl) (hc_S ht_7) ?_
        refine s_p rfl (y_add rfl rfl) ?_
        obtain ⟨c_13, H⟩ := H
        refine s_p rfl (y_ixL rfl rfl (by decide) c_13 rfl) ?_
        obtain ⟨c_14, H⟩ := H
        refine s_stS rfl rfl rfl rfl rfl c_14 rfl ?_
        refine s_nil (q_then ?_)
        refine c_seq ?_
        refine c_region ?_
        refine s_p rfl (y_fa rfl rfl) ?_
        obtain ⟨t_8, ht_8, H⟩ := H
        refine s_v rfl (y_ld rfl) (hc_V 1 rfl ht_8) ?_
        refine s_bs rfl rfl (by decide) rfl fun b_5 => ?_
        refine s_app (sx := t_8) (vs := [.int .u8 1]) rfl rfl rfl (fc_V 2 rfl rfl) rfl rfl (by decide) H fun t_9 Sx_8 H2 => ?_
        replace H := H2
        refine s_p rfl (y_fa rfl rfl) ?_
        refine s_stV (sz := 1) (vs := [eL t_9]) 1 rfl rfl rfl rfl rfl rfl (fit_of ht_3 (by omega)) rfl ?_
        refine s_nil (q_then ?_)
        refine c_join2 H (fun (J : Mem → Prop) (z : Unit) S => J S) (fun z => ⟨304, [(2, .int .u8 how), (3, .pointer (some ⟨b, 0, none⟩)), (7, .int .i64 (IntKind.i64.wrap (Int.tmod vm 6))), (8, .pointer (some ⟨b_1, o, none⟩)), (9, eP t_1)]⟩) (fun z => [⟨b, 52, spl d (0 + (IntKind.i64.wrap (Int.tmod vm 6)).toNat * 1) ([.bool true])⟩]) ?_ ?_
        · clear H
          rintro _ Sx_9 H
          refine c_seq ?_
          refine c_region ?_
          refine s_p rfl (y_assign rfl) ?_
          refine s_nil (q_then ?_)
          refine c_join2 H (fun (J : Bool → Mem → Prop) (z : Bool) S => J z S) (fun z => ⟨304, [(3, .pointer (some ⟨b, 0, none⟩)), (7, .int .i64 (IntKind.i64.wrap (Int.tmod vm 6))), (8, .pointer (some ⟨b_1, o, none⟩)), (9, eP t_1), (11, .bool z)]⟩) (fun z => [⟨b, 52, spl d (0 + (IntKind.i64.wrap (Int.tmod vm 6)).toNat * 1) ([.bool true])⟩]) ?_ ?_
          · clear H
            rintro alike Sx_10 H
            refine c_seq ?_
            refine c_drawn (by kernel_rfl) ?_
            refine a_takeP 0 rfl (by decide +kernel) (np_then np_body) rfl (y_move rfl) ?_
            refine a_takeP 1 rfl (by decide +kernel) (np_then np_body) rfl (y_move rfl) ?_
            refine a_takeP 3 rfl (by decide +kernel) (np_then np_body) rfl (y_move rfl) ?_
            refine a_step 2 (by decide +kernel) rfl ?_
            refine s_call rfl rfl H fun rv Sx_11 H2 => ?_
            clear H
            obtain ⟨t_10, rfl, H⟩ := H2
            refine s_nil (q_any ac_nil ?_)
            replace H := ite_e H
            rcases H with ⟨c_15, H⟩ | ⟨c_15, H⟩
            · refine a_takeP 4 rfl (by decide +kernel) (np_then np_body) rfl (yT (y_eqB rfl rfl) c_15) ?_
              refine a_takeP 5 rfl (by decide +kernel) (np_then np_body) rfl (y_move rfl) ?_
              refine a_takeP 6 rfl (by decide +kernel) (np_then np_body) rfl (y_move rfl) ?_
              refine a_takeP 7 rfl (by decide +kernel) (np_then np_body) rfl (y_move rfl) ?_
              refine a_takeP 8 rfl (by decide +kernel) (np_then np_body) rfl (y_nc rfl) ?_
              refine a_takeP 9 rfl (by decide +kernel) (np_then np_body) rfl (y_fa rfl rfl) ?_
              obtain ⟨c_16, c_17, H⟩ := H
              refine a_takeP 10 rfl (by decide +kernel) (np_then np_body) rfl (y_ixA rfl rfl c_16 c_17 rfl) ?_
              refine a_takeP 11 rfl (by decide +kernel) (np_then np_body) rfl (y_fa rfl rfl) ?_
              obtain ⟨t_11, ht_11, H⟩ := H
              refine a_take 12 rfl (by decide +kernel) (np_then np_body) rfl (y_ld rfl) (hc_S ht_11) ?_
              obtain ⟨b_6, o_3, n_4, n_5, rfl, H⟩ := H
              obtain ⟨c_19, H⟩ := H
              refine a_takeP 13 rfl (by decide +kernel) (np_then np_body) rfl (y_ixL rfl rfl (by decide) c_19 rfl) ?_
              refine a_takeP 14 rfl (by decide +kernel) (np_then np_body) rfl (y_fa rfl rfl) ?_
              refine a_takeP 15 rfl (by decide +kernel) (np_then np_body) rfl (y_ixA rfl rfl (by decide) (by decide) rfl) ?_
              obtain ⟨t_12, ht_12, H⟩ := H
              refine a_take 16 rfl (by decide +kernel) (np_then np_body) rfl (y_ld rfl) (hc_S ht_12) ?_
              replace H := ite_e H
              rcases H with ⟨c_20, H⟩ | ⟨c_20, H⟩
              · refine a_takeP 17 rfl (by decide +kernel) (np_then np_body) rfl (yT (y_eql rfl rfl) c_20) ?_
                refine a_takeP 18 rfl (by decide +kernel) (np_then np_body) rfl (y_pick rfl rfl) ?_
                refine a_takeP 19 rfl (by decide +kernel) (np_then np_body) rfl (y_move rfl) ?_
                refine a_takeP 20 rfl (by decide +kernel) (np_then np_body) rfl (y_move rfl) ?_
                refine a_takeP 21 rfl (by decide +kernel) (np_then np_body) rfl (y_move rfl) ?_
                refine a_takeP 22 rfl (by decide +kernel) (np_then np_body) rfl (y_nc rfl) ?_
                refine a_takeP 23 rfl (by decide +kernel) (np_then np_body) rfl (y_fa rfl rfl) ?_
                obtain ⟨c_21, c_22, H⟩ := H
                refine a_takeP 24 rfl (by decide +kernel) (np_then np_body) rfl (y_ixA rfl rfl c_21 c_22 rfl) ?_
                refine a_takeP 25 rfl (by decide +kernel) (np_then np_body) rfl (y_fa rfl rfl) ?_
                obtain ⟨t_13, ht_13, H⟩ := H
                refine a_take 26 rfl (by decide +kernel) (np_then np_body) rfl (y_ld rfl) (hc_S ht_13) ?_
                refine a_takeP 27 rfl (by decide +kernel) (np_then np_body) rfl (y_len rfl) ?_
                refine a_takeP 28 rfl (by decide +kernel) (np_then np_body) rfl (y_fa rfl rfl) ?_
                obtain ⟨t_14, ht_14, H⟩ := H
                refine a_take 29 rfl (by decide +kernel) (np_then np_body) rfl (y_ld rfl) (hc_V 0 rfl ht_14) ?_
                refine a_takeP 30 rfl (by decide +kernel) (np_then np_body) rfl (y_len rfl) ?_
                replace H := ite_e H
                rcases H with ⟨c_23, H⟩ | ⟨c_23, H⟩
                · refine a_takeP 31 rfl (by decide +kernel) (np_then np_body) rfl (yT (y_eql rfl rfl) c_23) ?_
                  refine a_takeP 32 rfl (by decide +kernel) (np_then np_body) rfl (y_pick rfl rfl) ?_
                  refine a_takeP 33 rfl (by decide +kernel) (np_then np_body) rfl (y_move rfl) ?_
                  refine a_takeP 34 rfl (by decide +kernel) (np_then np_body) rfl (y_move rfl) ?_
                  refine a_takeP 35 rfl (by decide +kernel) (np_then np_body) rfl (y_move rfl) ?_
                  refine a_takeP 36 rfl (by decide +kernel) (np_then np_body) rfl (y_nc rfl) ?_
                  refine a_takeP 37 rfl (by decide +kernel) (np_then np_body) rfl (y_fa rfl rfl) ?_
                  obtain ⟨c_24, c_25, H⟩ := H
                  refine a_takeP 38 rfl (by decide +kernel) (np_then np_body) rfl (y_ixA rfl rfl c_24 c_25 rfl) ?_
                  refine a_takeP 39 rfl (by decide +kernel) (np_then np_body) rfl (y_fa rfl rfl) ?_
                  refine a_takeP 40 rfl (by decide +kernel) (np_then np_body) rfl (y_ixA rfl rfl (by decide) (by decide) rfl) ?_
                  obtain ⟨t_15, ht_15, H⟩ := H
                  refine a_take 41 rfl (by decide +kernel) (np_then np_body) rfl (y_ld rfl) (hc_S ht_15) ?_
                  obtain ⟨b_7, o_4, n_6, n_7, rfl, H⟩ := H
                  obtain ⟨c_27, H⟩ := H
                  refine a_takeP 42 rfl (by decide +kernel) (np_then np_body) rfl (y_ixL rfl rfl (by decide) c_27 rfl) ?_
                  obtain ⟨t_16, ht_16, H⟩ := H
                  refine a_take 43 rfl (by decide +kernel) (np_then np_body) rfl (y_ld rfl) (hc_S ht_16) ?_
                  replace H := ite_e H
                  rcases H with ⟨c_28, H⟩ | ⟨c_28, H⟩
                  · refine a_takeP 44 rfl (by decide +kernel) (np_then np_body) rfl (yT (y_eql rfl rfl) c_28) ?_
                    refine a_takeP 45 rfl (by decide +kernel) (np_then np_body) rfl (y_pick rfl rfl) ?_
                    refine a_takeP 46 rfl (by decide +kernel) (np_then np_body) rfl (y_move rfl) ?_
                    refine a_takeP 47 rfl (by decide +kernel) (np_then np_body) rfl (y_move rfl) ?_
                    refine a_takeP 48 rfl (by decide +kernel) (np_then np_body) rfl (y_nc rfl) ?_
                    refine a_takeP 49 rfl (by decide +kernel) (np_then np_body) rfl (y_fa rfl rfl) ?_
                    obtain ⟨t_17, ht_17, H⟩ := H
                    refine a_take 50 rfl (by decide +kernel) (np_then np_body) rfl (y_ld rfl) (hc_S ht_17) ?_
                    refine a_takeP 51 rfl (by decide +kernel) (np_then np_body) rfl (y_move rfl) ?_
                    refine a_step 52 (by decide +kernel) rfl ?_
                    refine s_call rfl rfl H fun rv Sx_12 H2 => ?_
                    clear H
                    obtain ⟨t_18, rfl, H⟩ := H2
                    obtain ⟨k, H⟩ := H
                    obtain ⟨k_1, H⟩ := H
                    obtain ⟨k_2, H⟩ := H
                    obtain ⟨k_3, H⟩ := H
                    obtain ⟨k_4, H⟩ := H
                    refine s_nil (q_any (ac_cons (hc_S k) (ac_cons (hc_S k_1) (ac_cons (hc_V 0 rfl ht_14) (ac_cons (hc_S k_2) (ac_cons (hc_S k_3) (ac_cons (hc_S k_4) ac_nil)))))) ?_)
                    replace H := ite_e H
                    rcases H with ⟨c_29, H⟩ | ⟨c_29, H⟩
                    · refine a_takeP 53 rfl (by decide +kernel) (np_then np_body) rfl (yT (y_eql rfl rfl) c_29) ?_
                      refine a_takeP 54 rfl (by decide +kernel) (np_then np_body) rfl (y_pick rfl rfl) ?_
                      refine a_takeP 55 rfl (by decide +kernel) (np_then np_body) rfl (y_move rfl) ?_
                      refine a_takeP 56 rfl (by decide +kernel) (np_then np_body) rfl (y_move rfl) ?_
                      refine a_takeP 57 rfl (by decide +kernel) (np_then np_body) rfl (y_nc rfl) ?_
                      refine a_takeP 58 rfl (by decide +kernel) (np_then np_body) rfl (y_fa rfl rfl) ?_
                      obtain ⟨t_19, ht_19, H⟩ := H
                      refine a_take 59 rfl (by decide +kernel) (np_then np_body) rfl (y_ld rfl) (hc_S ht_19) ?_
                      refine a_takeP 60 rfl (by decide +kernel) (np_then np_body) rfl (y_move rfl) ?_
                      refine a_step 61 (by decide +kernel) rfl ?_
                      refine s_call rfl rfl H fun rv Sx_13 H2 => ?_
                      clear H
                      obtain ⟨t_20, rfl, H⟩ := H2
                      obtain ⟨k_5, H⟩ := H
                      obtain ⟨k_6, H⟩ := H
                      obtain ⟨k_7, H⟩ := H
                      obtain ⟨k_8, H⟩ := H
                      obtain ⟨k_9, H⟩ := H
                      refine s_nil (q_any (ac_cons (hc_S k_5) (ac_cons (hc_S k_6) (ac_cons (hc_V 0 rfl ht_14) (ac_cons (hc_S k_7) (ac_cons (hc_S k_8) (ac_cons (hc_S k_9) ac_nil)))))) ?_)
                      refine a_takeP 62 rfl (by decide +kernel) (np_then np_body) rfl (y_eql rfl rfl) ?_
                      refine a_takeP 63 rfl (by decide +kernel) (np_then np_body) rfl (y_pick rfl rfl) ?_
                      refine a_takeP 64 rfl (by decide +kernel) (np_then np_body) rfl (y_assign rfl) ?_
                      refine a_done (by decide +kernel) ?_
                      refine q_then ?_
                      refine c_ret ?_
                      exact q_ret Try.results5 (rv_tmp rfl rv_nil) ⟨_, rfl, H⟩
                    · refine a_takeP 53 rfl (by decide +kernel) (np_then np_body) rfl (yF (y_eql rfl rfl) c_29) ?_
                      refine a_takeP 54 rfl (by decide +kernel) (np_then np_body) rfl (y_pick rfl rfl) ?_
                      refine a_takeP 55 rfl (by decide +kernel) (np_then np_body) rfl (y_move rfl) ?_
                      refine a_skip 56 rfl (by decide +kernel) (np_then np_body) rfl ?_
                      refine a_skip 57 rfl (by decide +kernel) (np_then np_body) rfl ?_
                      refine a_skip 58 rfl (by decide +kernel) (np_then np_body) rfl ?_
                      refine a_skip 59 rfl (by decide +kernel) (np_then np_body) rfl ?_
                      refine a_skip 60 rfl (by decide +kernel) (np_then np_body) rfl ?_
                      refine a_skip 61 rfl (by decide +kernel) (np_then np_body) rfl ?_
                      refine a_skip 62 rfl (by decide +kernel) (np_then np_body) rfl ?_
                      refine a_takeP 63 rfl (by decide +kernel) (np_then np_body) rfl (y_pick rfl rfl) ?_
                      refine a_takeP 64 rfl (by decide +kernel) (np_then np_body) rfl (y_assign rfl) ?_
                      refine a_done (by decide +kernel) ?_
                      refine q_then ?_
                      refine c_ret ?_
                      exact q_ret Try.results5 (rv_tmp rfl rv_nil) ⟨_, rfl, H⟩
                  · refine a_takeP 44 rfl (by decide +kernel) (np_then np_body) rfl (yF (y_eql rfl rfl) c_28) ?_
                    refine a_takeP 45 rfl (by decide +kernel) (np_then np_body) rfl (y_pick rfl rfl) ?_
                    refine a_takeP 46 rfl (by decide +kernel) (np_then np_body) rfl (y_move rfl) ?_
                    refine a_skip 47 rfl (by decide +kernel) (np_then np_body) rfl ?_
                    refine a_skip 48 rfl (by decide +kernel) (np_then np_body) rfl ?_
                    refine a_skip 49 rfl (by decide +kernel) (np_then np_body) rfl ?_
                    refine a_skip 50 rfl (by decide +kernel) (np_then np_body) rfl ?_
                    refine a_skip 51 rfl (by decide +kernel) (np_then np_body) rfl ?_
                    refine a_skip 52 rfl (by decide +kernel) (np_then np_body) rfl ?_
                    refine a_skip 53 rfl (by decide +kernel) (np_then np_body) rfl ?_
                    refine a_takeP 54 rfl (by decide +kernel) (np_then np_body) rfl (y_pick rfl rfl) ?_
                    refine a_takeP 55 rfl (by decide +kernel) (np_then np_body) rfl (y_move rfl) ?_
                    refine a_skip 56 rfl (by decide +kernel) (np_then np_body) rfl ?_
                    refine a_skip 57 rfl (by decide +kernel) (np_then np_body) rfl ?_
                    refine a_skip 58 rfl (by decide +kernel) (np_then np_body) rfl ?_
                    refine a_skip 59 rfl (by decide +kernel) (np_then np_body) rfl ?_
                    refine a_skip 60 rfl (by decide +kernel) (np_then np_body) rfl ?_
                    refine a_skip 61 rfl (by decide +kernel) (np_then np_body) rfl ?_
                    refine a_skip 62 rfl (by decide +kernel) (np_then np_body) rfl ?_
                    refine a_takeP 63 rfl (by decide +kernel) (np_then np_body) rfl (y_pick rfl rfl) ?_
                    refine a_takeP 64 rfl (by decide +kernel) (np_then np_body) rfl (y_assign rfl) ?_
                    refine a_done (by decide +kernel) ?_
                    refine q_then ?_
                    refine c_ret ?_
                    exact q_ret Try.results5 (rv_tmp rfl rv_nil) ⟨_, rfl, H⟩
                · refine a_takeP 31 rfl (by decide +kernel) (np_then np_body) rfl (yF (y_eql rfl rfl) c_23) ?_
                  refine a_takeP 32 rfl (by decide +kernel) (np_then np_body) rfl (y_pick rfl rfl) ?_
                  refine a_takeP 33 rfl (by decide +kernel) (np_then np_body) rfl (y_move rfl) ?_
                  refine a_skip 34 rfl (by decide +kernel) (np_then np_body) rfl ?_
                  refine a_skip 35 rfl (by decide +kernel) (np_then np_body) rfl ?_
                  refine a_skip 36 rfl (by decide +kernel) (np_then np_body) rfl ?_
                  refine a_skip 37 rfl (by decide +kernel) (np_then np_body) rfl ?_
                  refine a_skip 38 rfl (by decide +kernel) (np_then np_body) rfl ?_
                  refine a_skip 39 rfl (by decide +kernel) (np_then np_body) rfl ?_
                  refine a_skip 40 rfl (by decide +kernel) (np_then np_body) rfl ?_
                  refine a_skip 41 rfl (by decide +kernel) (np_then np_body) rfl ?_
                  refine a_skip 42 rfl (by decide +kernel) (np_then np_body) rfl ?_
                  refine a_skip 43 rfl (by decide +kernel) (np_then np_body) rfl ?_
                  refine a_skip 44 rfl (by decide +kernel) (np_then np_body) rfl ?_
                  refine a_takeP 45 rfl (by decide +kernel) (np_then np_body) rfl (y_pick rfl rfl) ?_
                  refine a_takeP 46 rfl (by decide +kernel) (np_then np_body) rfl (y_move rfl) ?_
                  refine a_skip 47 rfl (by decide +kernel) (np_then np_body) rfl ?_
                  refine a_skip 48 rfl (by decide +kernel) (np_then np_body) rfl ?_
                  refine a_skip 49 rfl (by decide +kernel) (np_then np_body) rfl ?_
                  refine a_skip 50 rfl (by decide +kernel) (np_then np_body) rfl ?_
                  refine a_skip 51 rfl (by decide +kernel) (np_then np_body) rfl ?_
                  refine a_skip 52 rfl (by decide +kernel) (np_then np_body) rfl ?_
                  refine a_skip 53 rfl (by decide +kernel) (np_then np_body) rfl ?_
                  refine a_takeP 54 rfl (by decide +kernel) (np_then np_body) rfl (y_pick rfl rfl) ?_
                  refine a_takeP 55 rfl (by decide +kernel) (np_then np_body) rfl (y_move rfl) ?_
                  refine a_skip 56 rfl (by decide +kernel) (np_then np_body) rfl ?_
                  refine a_skip 57 rfl (by decide +kernel) (np_then np_body) rfl ?_
                  refine a_skip 58 rfl (by decide +kernel) (np_then np_body) rfl ?_
                  refine a_skip 59 rfl (by decide +kernel) (np_then np_body) rfl ?_
                  refine a_skip 60 rfl (by decide +kernel) (np_then np_body) rfl ?_
                  refine a_skip 61 rfl (by decide +kernel) (np_then np_body) rfl ?_
                  refine a_skip 62 rfl (by decide +kernel) (np_then np_body) rfl ?_
                  refine a_takeP 63 rfl (by decide +kernel) (np_then np_body) rfl (y_pick rfl rfl) ?_
                  refine a_takeP 64 rfl (by decide +kernel) (np_then np_body) rfl (y_assign rfl) ?_
                  refine a_done (by decide +kernel) ?_
                  refine q_then ?_
                  refine c_ret ?_
                  exact q_ret Try.results5 (rv_tmp rfl rv_nil) ⟨_, rfl, H⟩
              · refine a_takeP 17 rfl (by decide +kernel) (np_then np_body) rfl (yF (y_eql rfl rfl) c_20) ?_
                refine a_takeP 18 rfl (by decide +kernel) (np_then np_body) rfl (y_pick rfl rfl) ?_
                refine a_takeP 19 rfl (by decide +kernel) (np_then np_body) rfl (y_move rfl) ?_
                refine a_skip 20 rfl (by decide +kernel) (np_then np_body) rfl ?_
                refine a_skip 21 rfl (by decide +kernel) (np_then np_body) rfl ?_
                refine a_skip 22 rfl (by decide +kernel) (np_then np_body) rfl ?_
                refine a_skip 23 rfl (by decide +kernel) (np_then np_body) rfl ?_
                refine a_skip 24 rfl (by decide +kernel) (np_then np_body) rfl ?_
                refine a_skip 25 rfl (by decide +kernel) (np_then np_body) rfl ?_
                refine a_skip 26 rfl (by decide +kernel) (np_then np_body) rfl ?_
                refine a_skip 27 rfl (by decide +kernel) (np_then np_body) rfl ?_
                refine a_skip 28 rfl (by decide +kernel) (np_then np_body) rfl ?_
                refine a_skip 29 rfl (by decide +kernel) (np_then np_body) rfl ?_
                refine a_skip 30 rfl (by decide +kernel) (np_then np_body) rfl ?_
                refine a_skip 31 rfl (by decide +kernel) (np_then np_body) rfl ?_
                refine a_takeP 32 rfl (by decide +kernel) (np_then np_body) rfl (y_pick rfl rfl) ?_
                refine a_takeP 33 rfl (by decide +kernel) (np_then np_body) rfl (y_move rfl) ?_
                refine a_skip 34 rfl (by decide +kernel) (np_then np_body) rfl ?_
                refine a_skip 35 rfl (by decide +kernel) (np_then np_body) rfl ?_
                refine a_skip 36 rfl (by decide +kernel) (np_then np_body) rfl ?_
                refine a_skip 37 rfl (by decide +kernel) (np_then np_body) rfl ?_
                refine a_skip 38 rfl (by decide +kernel) (np_then np_body) rfl ?_
                refine a_skip 39 rfl (by decide +kernel) (np_then np_body) rfl ?_
                refine a_skip 40 rfl (by decide +kernel) (np_then np_body) rfl ?_
                refine a_skip 41 rfl (by decide +kernel) (np_then np_body) rfl ?_
                refine a_skip 42 rfl (by decide +kernel) (np_then np_body) rfl ?_
                refine a_skip 43 rfl (by decide +kernel) (np_then np_body) rfl ?_
                refine a_skip 44 rfl (by decide +kernel) (np_then np_body) rfl ?_
                refine a_takeP 45 rfl (by decide +kernel) (np_then np_body) rfl (y_pick rfl rfl) ?_
                refine a_takeP 46 rfl (by decide +kernel) (np_then np_body) rfl (y_move rfl) ?_
                refine a_skip 47 rfl (by decide +kernel) (np_then np_body) rfl ?_
                refine a_skip 48 rfl (by decide +kernel) (np_then np_body) rfl ?_
                refine a_skip 49 rfl (by decide +kernel) (np_then np_body) rfl ?_
                refine a_skip 50 rfl (by decide +kernel) (np_then np_body) rfl ?_
                refine a_skip 51 rfl (by decide +kernel) (np_then np_body) rfl ?_
                refine a_skip 52 rfl (by decide +kernel) (np_then np_body) rfl ?_
                refine a_skip 53 rfl (by decide +kernel) (np_then np_body) rfl ?_
                refine a_takeP 54 rfl (by decide +kernel) (np_then np_body) rfl (y_pick rfl rfl) ?_
                refine a_takeP 55 rfl (by decide +kernel) (np_then np_body) rfl (y_move rfl) ?_
                refine a_skip 56 rfl (by decide +kernel) (np_then np_body) rfl ?_
                refine a_skip 57 rfl (by decide +kernel) (np_then np_body) rfl ?_
                refine a_skip 58 rfl (by decide +kernel) (np_then np_body) rfl ?_
                refine a_skip 59 rfl (by decide +kernel) (np_then np_body) rfl ?_
                refine a_skip 60 rfl (by decide +kernel) (np_then np_body) rfl ?_
                refine a_skip 61 rfl (by decide +kernel) (np_then np_body) rfl ?_
                refine a_skip 62 rfl (by decide +kernel) (np_then np_body) rfl ?_
                refine a_takeP 63 rfl (by decide +kernel) (np_then np_body) rfl (y_pick rfl rfl) ?_
                refine a_takeP 64 rfl (by decide +kernel) (np_then np_body) rfl (y_assign rfl) ?_
                refine a_done (by decide +kernel) ?_
                refine q_then ?_
                refine c_ret ?_
                exact q_ret Try.results5 (rv_tmp rfl rv_nil) ⟨_, rfl, H⟩
            · refine a_takeP 4 rfl (by decide +kernel) (np_then np_body) rfl (yF (y_eqB rfl rfl) c_15) ?_
              refine a_takeP 5 rfl (by decide +kernel) (np_then np_body) rfl (y_move rfl) ?_
              refine a_skip 6 rfl (by decide +kernel) (np_then np_body) rfl ?_
              refine a_skip 7 rfl (by decide +kernel) (np_then np_body) rfl ?_
              refine a_skip 8 rfl (by decide +kernel) (np_then np_body) rfl ?_
              refine a_skip 9 rfl (by decide +kernel) (np_then np_body) rfl ?_
              refine a_skip 10 rfl (by decide +kernel) (np_then np_body) rfl ?_
              refine a_skip 11 rfl (by decide +kernel) (np_then np_body) rfl ?_
              refine a_skip 12 rfl (by decide +kernel) (np_then np_body) rfl ?_
              refine a_skip 13 rfl (by decide +kernel) (np_then np_body) rfl ?_
              refine a_skip 14 rfl (by decide +kernel) (np_then np_body) rfl ?_
              refine a_skip 15 rfl (by decide +kernel) (np_then np_body) rfl ?_
              refine a_skip 16 rfl (by decide +kernel) (np_then np_body) rfl ?_
              refine a_skip 17 rfl (by decide +kernel) (np_then np_body) rfl ?_
              refine a_takeP 18 rfl (by decide +kernel) (np_then np_body) rfl (y_pick rfl rfl) ?_
              refine a_takeP 19 rfl (by decide +kernel) (np_then np_body) rfl (y_move rfl) ?_
              refine a_skip 20 rfl (by decide +kernel) (np_then np_body) rfl ?_
              refine a_skip 21 rfl (by decide +kernel) (np_then np_body) rfl ?_
              refine a_skip 22 rfl (by decide +kernel) (np_then np_body) rfl ?_
              refine a_skip 23 rfl (by decide +kernel) (np_then np_body) rfl ?_
              refine a_skip 24 rfl (by decide +kernel) (np_then np_body) rfl ?_
              refine a_skip 25 rfl (by decide +kernel) (np_then np_body) rfl ?_
              refine a_skip 26 rfl (by decide +kernel) (np_then np_body) rfl ?_
              refine a_skip 27 rfl (by decide +kernel) (np_then np_body) rfl ?_
              refine a_skip 28 rfl (by decide +kernel) (np_then np_body) rfl ?_
              refine a_skip 29 rfl (by decide +kernel) (np_then np_body) rfl ?_
              refine a_skip 30 rfl (by decide +kernel) (np_then np_body) rfl ?_
              refine a_skip 31 rfl (by decide +kernel) (np_then np_body) rfl ?_
              refine a_takeP 32 rfl (by decide +kernel) (np_then np_body) rfl (y_pick rfl rfl) ?_
              refine a_takeP 33 rfl (by decide +kernel) (np_then np_body) rfl (y_move rfl) ?_
              refine a_skip 34 rfl (by decide +kernel) (np_then np_body) rfl ?_
              refine a_skip 35 rfl (by decide +kernel) (np_then np_body) rfl ?_
              refine a_skip 36 rfl (by decide +kernel) (np_then np_body) rfl ?_
              refine a_skip 37 rfl (by decide +kernel) (np_then np_body) rfl ?_
              refine a_skip 38 rfl (by decide +kernel) (np_then np_body) rfl ?_
              refine a_skip 39 rfl (by decide +kernel) (np_then np_body) rfl ?_
              refine a_skip 40 rfl (by decide +kernel) (np_then np_body) rfl ?_
              refine a_skip 41 rfl (by decide +kernel) (np_then np_body) rfl ?_
              refine a_skip 42 rfl (by decide +kernel) (np_then np_body) rfl ?_
              refine a_skip 43 rfl (by decide +kernel) (np_then np_body) rfl ?_
              refine a_skip 44 rfl (by decide +kernel) (np_then np_body) rfl ?_
              refine a_takeP 45 rfl (by decide +kernel) (np_then np_body) rfl (y_pick rfl rfl) ?_
              refine a_takeP 46 rfl (by decide +kernel) (np_then np_body) rfl (y_move rfl) ?_
              refine a_skip 47 rfl (by decide +kernel) (np_then np_body) rfl ?_
              refine a_skip 48 rfl (by decide +kernel) (np_then np_body) rfl ?_
              refine a_skip 49 rfl (by decide +kernel) (np_then np_body) rfl ?_
              refine a_skip 50 rfl (by decide +kernel) (np_then np_body) rfl ?_
              refine a_skip 51 rfl (by decide +kernel) (np_then np_body) rfl ?_
              refine a_skip 52 rfl (by decide +kernel) (np_then np_body) rfl ?_
              refine a_skip 53 rfl (by decide +kernel) (np_then np_body) rfl ?_
              refine a_takeP 54 rfl (by decide +kernel) (np_then np_body) rfl (y_pick rfl rfl) ?_
              refine a_takeP 55 rfl (by decide +kernel) (np_then np_body) rfl (y_move rfl) ?_
              refine a_skip 56 rfl (by decide +kernel) (np_then np_body) rfl ?_
              refine a_skip 57 rfl (by decide +kernel) (np_then np_body) rfl ?_
              refine a_skip 58 rfl (by decide +kernel) (np_then np_body) rfl ?_
              refine a_skip 59 rfl (by decide +kernel) (np_then np_body) rfl ?_
              refine a_skip 60 rfl (by decide +kernel) (np_then np_body) rfl ?_
              refine a_skip 61 rfl (by decide +kernel) (np_then np_body) rfl ?_
              refine a_skip 62 rfl (by decide +kernel) (np_then np_body) rfl ?_
              refine a_takeP 63 rfl (by decide +kernel) (np_then np_body) rfl (y_pick rfl rfl) ?_
              refine a_takeP 64 rfl (by decide +kernel) (np_then np_body) rfl (y_assign rfl) ?_
              refine a_done (by decide +kernel) ?_
              refine q_then ?_
              refine c_ret ?_
              exact q_ret Try.results5 (rv_tmp rfl rv_nil) ⟨_, rfl, H⟩
          · clear H
            intro Jx hJx H
            refine c_seq ?_
            refine c_region ?_
            refine s_p rfl (y_move rfl) ?_
            refine s_p rfl (y_rem rfl rfl (by decide)) ?_
            refine s_nil (q_then ?_)
            refine c_block ?_
            refine c_seq ?_
            refine c_region ?_
            replace H := ite_e H
            rcases H with ⟨c_30, H⟩ | ⟨c_30, H⟩
            · refine s_p rfl (yT (y_eql rfl rfl) c_30) ?_
              refine s_p rfl (y_assign rfl) ?_
              refine s_nil (q_then ?_)
              refine c_t rfl rfl ?_
              refine c_drawn (by kernel_rfl) ?_
              refine a_takeP 0 rfl (by decide +kernel) (np_blk (np_then np_body)) rfl (y_move rfl) ?_
              refine a_takeP 1 rfl (by decide +kernel) (np_blk (np_then np_body)) rfl (y_move rfl) ?_
              obtain ⟨b_8, o_5, rfl, H⟩ := H
              refine a_takeP 2 rfl (by decide +kernel) (np_blk (np_then np_body)) rfl (y_nc rfl) ?_
              refine a_takeP 3 rfl (by decide +kernel) (np_blk (np_then np_body)) rfl (y_fa rfl rfl) ?_
              obtain ⟨c_31, c_32, H⟩ := H
              refine a_takeP 4 rfl (by decide +kernel) (np_blk (np_then np_body)) rfl (y_ixA rfl rfl c_31 c_32 rfl) ?_
              refine a_takeP 5 rfl (by decide +kernel) (np_blk (np_then np_body)) rfl (y_fa rfl rfl) ?_
              obtain ⟨t_21, ht_21, H⟩ := H
              refine a_take 6 rfl (by decide +kernel) (np_blk (np_then np_body)) rfl (y_ld rfl) (hc_S ht_21) ?_
              obtain ⟨b_9, o_6, n_8, n_9, rfl, H⟩ := H
              obtain ⟨c_34, H⟩ := H
              refine a_takeP 7 rfl (by decide +kernel) (np_blk (np_then np_body)) rfl (y_ixL rfl rfl (by decide) c_34 rfl) ?_
              refine a_takeP 8 rfl (by decide +kernel) (np_blk (np_then np_body)) rfl (y_fa rfl rfl) ?_
              refine a_takeP 9 rfl (by decide +kernel) (np_blk (np_then np_body)) rfl (y_ixA rfl rfl (by decide) (by decide) rfl) ?_
              obtain ⟨t_22, ht_22, H⟩ := H
              refine a_take 10 rfl (by decide +kernel) (np_blk (np_then np_body)) rfl (y_ld rfl) (hc_S ht_22) ?_
              refine a_takeP 11 rfl (by decide +kernel) (np_blk (np_then np_body)) rfl (y_add rfl rfl) ?_
              obtain ⟨c_36, H⟩ := H
              refine a_takeP 12 rfl (by decide +kernel) (np_blk (np_then np_body)) rfl (y_ixL rfl rfl (by decide) c_36 rfl) ?_
              refine a_takeP 13 rfl (by decide +kernel) (np_blk (np_then np_body)) rfl (y_fa rfl rfl) ?_
              refine a_takeP 14 rfl (by decide +kernel) (np_blk (np_then np_body)) rfl (y_ixA rfl rfl (by decide) (by decide) rfl) ?_
              refine a_step 15 (by decide +kernel) rfl ?_
              obtain ⟨c_37, H⟩ := H
              refine s_stS rfl rfl rfl rfl rfl c_37 rfl ?_
              refine s_nil (q_any ac_nil ?_)
              refine a_done (by decide +kernel) ?_
              refine q_blk ?_
              exact hJx false _ _ _ _ [0] H rfl ⟨rfl, rfl, rfl, rfl, rfl, True.intro⟩ rfl
            · refine s_p rfl (yF (y_eql rfl rfl) c_30) ?_
              refine s_p rfl (y_assign rfl) ?_
              refine s_nil (q_then ?_)
              refine c_f rfl rfl ?_
              refine c_seq ?_
              refine c_region ?_
              replace H := ite_e H
              rcases H with ⟨c_38, H⟩ | ⟨c_38, H⟩
              · refine s_p rfl (yT (y_eql rfl rfl) c_38) ?_
                refine s_p rfl (y_assign rfl) ?_
                refine s_nil (q_then ?_)
                refine c_t rfl rfl ?_
                refine c_drawn (by kernel_rfl) ?_
                refine a_takeP 0 rfl (by decide +kernel) (np_blk (np_then np_body)) rfl (y_move rfl) ?_
                refine a_takeP 1 rfl (by decide +kernel) (np_blk (np_then np_body)) rfl (y_move rfl) ?_
                refine a_takeP 2 rfl (by decide +kernel) (np_blk (np_then np_body)) rfl (y_move rfl) ?_
                refine a_takeP 3 rfl (by decide +kernel) (np_blk (np_then np_body)) rfl (y_move rfl) ?_
                obtain ⟨b_10, o_7, rfl, H⟩ := H
                refine a_takeP 4 rfl (by decide +kernel) (np_blk (np_then np_body)) rfl (y_nc rfl) ?_
                refine a_takeP 5 rfl (by decide +kernel) (np_blk (np_then np_body)) rfl (y_fa rfl rfl) ?_
                obtain ⟨c_39, c_40, H⟩ := H
                refine a_takeP 6 rfl (by decide +kernel) (np_blk (np_then np_body)) rfl (y_ixA rfl rfl c_39 c_40 rfl) ?_
                refine a_takeP 7 rfl (by decide +kernel) (np_blk (np_then np_body)) rfl (y_fa rfl rfl) ?_
                obtain ⟨t_23, ht_23, H⟩ := H
                refine a_take 8 rfl (by decide +kernel) (np_blk (np_then np_body)) rfl (y_ld rfl) (hc_S ht_23) ?_
                refine a_takeP 11 rfl (by decide +kernel) (np_blk (np_then np_body)) rfl (y_nc rfl) ?_
                refine a_takeP 12 rfl (by decide +kernel) (np_blk (np_then np_body)) rfl (y_fa rfl rfl) ?_
                refine a_step 9 (by decide +kernel) rfl ?_
                refine s_bs rfl rfl (by decide) rfl fun b_11 => ?_
                refine s_nil (q_any (ac_cons (hc_S ht_23) ac_nil) ?_)
                refine a_step 10 (by decide +kernel) rfl ?_
                refine s_app (sx := t_23) (vs := [.int .u8 5]) rfl rfl rfl (fc_V 1 rfl rfl) rfl rfl (by decide) H fun t_24 Sx_15 H2 => ?_
                replace H := H2
                refine s_nil (q_any ac_nil ?_)
                obtain ⟨c_41, c_42, H⟩ := H
                refine a_takeP 13 rfl (by decide +kernel) (np_blk (np_then np_body)) rfl (y_ixA rfl rfl c_41 c_42 rfl) ?_
                refine a_takeP 14 rfl (by decide +kernel) (np_blk (np_then np_body)) rfl (y_fa rfl rfl) ?_
                refine a_step 15 (by decide +kernel) rfl ?_
                obtain ⟨c_43, H⟩ := H
                refine s_stS rfl rfl rfl rfl rfl c_43 rfl ?_
                refine s_nil (q_any ac_nil ?_)
                refine a_done (by decide +kernel) ?_
                refine q_blk ?_
                exact hJx false _ _ _ _ [0] H rfl ⟨rfl, rfl, rfl, rfl, rfl, True.intro⟩ rfl
              · refine s_p rfl (yF (y_eql rfl rfl) c_38) ?_
                refine s_p rfl (y_assign rfl) ?_
                refine s_nil (q_then ?_)
                refine c_f rfl rfl ?_
                refine c_seq ?_
                refine c_region ?_
                replace H := ite_e H
                rcases H with ⟨c_44, H⟩ | ⟨c_44, H⟩
                · refine s_p rfl (yT (y_eql rfl rfl) c_44) ?_
                  refine s_p rfl (y_assign rfl) ?_
                  refine s_nil (q_then ?_)
                  refine c_t rfl rfl ?_
                  refine c_region ?_
                  refine s_p rfl (y_move rfl) ?_
                  refine s_p rfl (y_move rfl) ?_
                  obtain ⟨b_12, o_8, rfl, H⟩ := H
                  refine s_p rfl (y_nc rfl) ?_
                  refine s_p rfl (y_fa rfl rfl) ?_
                  obtain ⟨c_45, c_46, H⟩ := H
                  refine s_p rfl (y_ixA rfl rfl c_45 c_46 rfl) ?_
                  refine s_p rfl (y_fa rfl rfl) ?_
                  refine s_p rfl (y_ixA rfl rfl (by decide) (by decide) rfl) ?_
                  obtain ⟨t_25, ht_25, H⟩ := H
                  refine s_v rfl (y_ld rfl) (hc_S ht_25) ?_
                  obtain ⟨b_13, o_9, n_10, n_11, rfl, H⟩ := H
                  obtain ⟨c_48, H⟩ := H
                  refine s_p rfl (y_ixL rfl rfl (by decide) c_48 rfl) ?_
                  obtain ⟨t_26, ht_26, H⟩ := H
                  refine s_v rfl (y_ld rfl) (hc_S ht_26) ?_
                  refine s_p rfl (y_add rfl rfl) ?_
                  obtain ⟨c_50, H⟩ := H
                  refine s_p rfl (y_ixL rfl rfl (by decide) c_50 rfl) ?_
                  obtain ⟨c_51, H⟩ := H
                  refine s_stS rfl rfl rfl rfl rfl c_51 rfl ?_
                  refine s_nil (q_blk ?_)
                  exact hJx false _ _ _ _ [0] H rfl ⟨rfl, rfl, rfl, rfl, rfl, True.intro⟩ rfl
                · refine s_p rfl (yF (y_eql rfl rfl) c_44) ?_
                  refine s_p rfl (y_assign rfl) ?_
                  refine s_nil (q_then ?_)
                  refine c_f rfl rfl ?_
                  refine c_seq ?_
                  refine c_region ?_
                  replace H := ite_e H
                  rcases H with ⟨c_52, H⟩ | ⟨c_52, H⟩
                  · refine s_p rfl (yT (y_eql rfl rfl) c_52) ?_
                    refine s_p rfl (y_assign rfl) ?_
                    refine s_nil (q_then ?_)
                    refine c_t rfl rfl ?_
                    refine c_region ?_
                    refine s_p rfl (y_move rfl) ?_
                    obtain ⟨b_14, o_10, rfl, H⟩ := H
                    refine s_p rfl (y_nc rfl) ?_
                    refine s_p rfl (y_fa rfl rfl) ?_
                    obtain ⟨t_27, ht_27, H⟩ := H
                    refine s_v rfl (y_ld rfl) (hc_S ht_27) ?_
                    refine s_p rfl (y_move rfl) ?_
                    refine s_call rfl rfl H fun rv Sx_18 H2 => ?_
                    clear H
                    obtain ⟨t_28, rfl, H⟩ := H2
                    refine s_nil (q_blk ?_)
                    exact hJx false _ _ _ _ [0] H rfl ⟨rfl, rfl, rfl, rfl, rfl, True.intro⟩ rfl
                  · refine s_p rfl (yF (y_eql rfl rfl) c_52) ?_
                    refine s_p rfl (y_assign rfl) ?_
                    refine s_nil (q_then ?_)
                    refine c_f rfl rfl ?_
                    refine c_seq ?_
                    refine c_region ?_
                    replace H := ite_e H
                    rcases H with ⟨c_53, H⟩ | ⟨c_53, H⟩
                    · refine s_p rfl (yT (y_eql rfl rfl) c_53) ?_
                      refine s_p rfl (y_assign rfl) ?_
                      refine s_nil (q_then ?_)
                      refine c_t rfl rfl ?_
                      refine c_drawn (by kernel_rfl) ?_
                      refine a_takeP 0 rfl (by decide +kernel) (np_blk (np_then np_body)) rfl (y_move rfl) ?_
                      refine a_takeP 1 rfl (by decide +kernel) (np_blk (np_then np_body)) rfl (y_move rfl) ?_
                      refine a_takeP 2 rfl (by decide +kernel) (np_blk (np_then np_body)) rfl (y_move rfl) ?_
                      refine a_takeP 3 rfl (by decide +kernel) (np_blk (np_then np_body)) rfl (y_move rfl) ?_
                      obtain ⟨b_15, o_11, rfl, H⟩ := H
                      refine a_takeP 4 rfl (by decide +kernel) (np_blk (np_then np_body)) rfl (y_nc rfl) ?_
                      refine a_takeP 5 rfl (by decide +kernel) (np_blk (np_then np_body)) rfl (y_fa rfl rfl) ?_
                      obtain ⟨c_54, c_55, H⟩ := H
                      refine a_takeP 6 rfl (by decide +kernel) (np_blk (np_then np_body)) rfl (y_ixA rfl rfl c_54 c_55 rfl) ?_
                      refine a_takeP 7 rfl (by decide +kernel) (np_blk (np_then np_body)) rfl (y_fa rfl rfl) ?_
                      obtain ⟨t_29, ht_29, H⟩ := H
                      refine a_take 8 rfl (by decide +kernel) (np_blk (np_then np_body)) rfl (y_ld rfl) (hc_S ht_29) ?_
                      refine a_takeP 9 rfl (by decide +kernel) (np_blk (np_then np_body)) rfl (y_xor rfl rfl) ?_
                      refine a_takeP 10 rfl (by decide +kernel) (np_blk (np_then np_body)) rfl (y_nc rfl) ?_
                      refine a_takeP 11 rfl (by decide +kernel) (np_blk (np_then np_body)) rfl (y_fa rfl rfl) ?_
                      obtain ⟨c_56, c_57, H⟩ := H
                      refine a_takeP 12 rfl (by decide +kernel) (np_blk (np_then np_body)) rfl (y_ixA rfl rfl c_56 c_57 rfl) ?_
                      refine a_takeP 13 rfl (by decide +kernel) (np_blk (np_then np_body)) rfl (y_fa rfl rfl) ?_
                      refine a_step 14 (by decide +kernel) rfl ?_
                      obtain ⟨c_58, H⟩ := H
                      refine s_stS rfl rfl rfl rfl rfl c_58 rfl ?_
                      refine s_nil (q_any ac_nil ?_)
                      refine a_done (by decide +kernel) ?_
                      refine q_blk ?_
                      exact hJx false _ _ _ _ [0] H rfl ⟨rfl, rfl, rfl, rfl, rfl, True.intro⟩ rfl
                    · refine s_p rfl (yF (y_eql rfl rfl) c_53) ?_
                      refine s_p rfl (y_assign rfl) ?_
                      refine s_nil (q_then ?_)
                      refine c_f rfl rfl ?_
                      refine c_seq ?_
                      refine c_region ?_
                      replace H := ite_e H
                      rcases H with ⟨c_59, H⟩ | ⟨c_59, H⟩
                      · refine s_p rfl (yT (y_eql rfl rfl) c_59) ?_
                        refine s_p rfl (y_assign rfl) ?_
                        refine s_nil (q_then ?_)
                        refine c_t rfl rfl ?_
                        refine c_seq ?_
                        refine c_region ?_
                        refine s_p rfl (y_move rfl) ?_
                        obtain ⟨b_16, o_12, rfl, H⟩ := H
                        refine s_p rfl (y_nc rfl) ?_
                        refine s_p rfl (y_fa rfl rfl) ?_
                        obtain ⟨t_30, ht_30, H⟩ := H
                        refine s_v rfl (y_ld rfl) (hc_S ht_30) ?_
                        refine s_p rfl (y_move rfl) ?_
                        refine s_call rfl rfl H fun rv Sx_20 H2 => ?_
                        clear H
                        obtain ⟨t_31, rfl, H⟩ := H2
                        refine s_nil (q_then ?_)
                        refine c_seq ?_
                        refine c_region ?_
                        refine s_p rfl (y_move rfl) ?_
                        refine s_p rfl (y_nc rfl) ?_
                        refine s_p rfl (y_fa rfl rfl) ?_
                        obtain ⟨t_32, ht_32, H⟩ := H
                        refine s_v rfl (y_ld rfl) (hc_S ht_32) ?_
                        refine s_p rfl (y_add rfl rfl) ?_
                        refine s_p rfl (y_nc rfl) ?_
                        refine s_p rfl (y_fa rfl rfl) ?_
                        obtain ⟨c_60, H⟩ := H
                        refine s_stS rfl rfl rfl rfl rfl c_60 rfl ?_
                        refine s_nil (q_then ?_)
                        refine c_seq ?_
                        refine c_drawn (by kernel_rfl) ?_
                        refine a_takeP 0 rfl (by decide +kernel) (np_then (np_blk (np_then np_body))) rfl (y_move rfl) ?_
                        refine a_takeP 1 rfl (by decide +kernel) (np_then (np_blk (np_then np_body))) rfl (y_move rfl) ?_
                        refine a_takeP 2 rfl (by decide +kernel) (np_then (np_blk (np_then np_body))) rfl (y_nc rfl) ?_
                        refine a_takeP 3 rfl (by decide +kernel) (np_then (np_blk (np_then np_body))) rfl (y_fa rfl rfl) ?_
                        obtain ⟨c_61, c_62, H⟩ := H
                        refine a_takeP 4 rfl (by decide +kernel) (np_then (np_blk (np_then np_body))) rfl (y_ixA rfl rfl c_61 c_62 rfl) ?_
                        refine a_takeP 5 rfl (by decide +kernel) (np_then (np_blk (np_then np_body))) rfl (y_fa rfl rfl) ?_
                        obtain ⟨t_33, ht_33, H⟩ := H
                        refine a_take 6 rfl (by decide +kernel) (np_then (np_blk (np_then np_body))) rfl (y_ld rfl) (hc_S ht_33) ?_
                        refine a_takeP 7 rfl (by decide +kernel) (np_then (np_blk (np_then np_body))) rfl (y_add rfl rfl) ?_
                        refine a_takeP 8 rfl (by decide +kernel) (np_then (np_blk (np_then np_body))) rfl (y_nc rfl) ?_
                        refine a_takeP 9 rfl (by decide +kernel) (np_then (np_blk (np_then np_body))) rfl (y_fa rfl rfl) ?_
                        obtain ⟨c_63, c_64, H⟩ := H
                        refine a_takeP 10 rfl (by decide +kernel) (np_then (np_blk (np_then np_body))) rfl (y_ixA rfl rfl c_63 c_64 rfl) ?_
                        refine a_takeP 11 rfl (by decide +kernel) (np_then (np_blk (np_then np_body))) rfl (y_fa rfl rfl) ?_
                        refine a_step 12 (by decide +kernel) rfl ?_
                        obtain ⟨c_65, H⟩ := H
                        refine s_stS rfl rfl rfl rfl rfl c_65 rfl ?_
                        refine s_nil (q_any ac_nil ?_)
                        refine a_done (by decide +kernel) ?_
                        refine q_then ?_
                        refine c_seq ?_
                        refine c_region ?_
                        refine s_p rfl (y_move rfl) ?_
                        refine s_p rfl (y_nc rfl) ?_
                        refine s_p rfl (y_fa rfl rfl) ?_
                        obtain ⟨t_34, ht_34, H⟩ := H
                        refine s_v rfl (y_ld rfl) (hc_S ht_34) ?_
                        refine s_call rfl rfl H fun rv Sx_23 H2 => ?_
                        clear H
                        obtain ⟨rfl, H⟩ := H2
                        refine s_nil (q_then ?_)
                        refine c_region ?_
                        refine s_p rfl (y_assign rfl) ?_
                        refine s_nil (q_blk ?_)
                        exact hJx true _ _ _ _ [0] H rfl ⟨rfl, rfl, rfl, rfl, rfl, True.intro⟩ rfl
                      · refine s_p rfl (yF (y_eql rfl rfl) c_59) ?_
                        refine s_p rfl (y_assign rfl) ?_
                        refine s_nil (q_then ?_)
                        refine c_f rfl rfl ?_
                        refine c_drawn (by kernel_rfl) ?_
                        refine a_takeP 0 rfl (by decide +kernel) (np_blk (np_then np_body)) rfl (y_move rfl) ?_
                        obtain ⟨b_17, o_13, rfl, H⟩ := H
                        refine a_takeP 1 rfl (by decide +kernel) (np_blk (np_then np_body)) rfl (y_nc rfl) ?_
                        refine a_takeP 2 rfl (by decide +kernel) (np_blk (np_then np_body)) rfl (y_fa rfl rfl) ?_
                        refine a_takeP 3 rfl (by decide +kernel) (np_blk (np_then np_body)) rfl (y_ixA rfl rfl (by decide) (by decide) rfl) ?_
                        obtain ⟨t_35, ht_35, H⟩ := H
                        refine a_take 4 rfl (by decide +kernel) (np_blk (np_then np_body)) rfl (y_ld rfl) (hc_S ht_35) ?_
                        refine a_takeP 5 rfl (by decide +kernel) (np_blk (np_then np_body)) rfl (y_add rfl rfl) ?_
                        refine a_takeP 6 rfl (by decide +kernel) (np_blk (np_then np_body)) rfl (y_nc rfl) ?_
                        refine a_takeP 7 rfl (by decide +kernel) (np_blk (np_then np_body)) rfl (y_fa rfl rfl) ?_
                        refine a_takeP 8 rfl (by decide +kernel) (np_blk (np_then np_body)) rfl (y_ixA rfl rfl (by decide) (by decide) rfl) ?_
                        refine a_step 9 (by decide +kernel) rfl ?_
                        obtain ⟨c_66, H⟩ := H
                        refine s_stS rfl rfl rfl rfl rfl c_66 rfl ?_
                        refine s_nil (q_any ac_nil ?_)
                        refine a_done (by decide +kernel) ?_
                        refine q_blk ?_
                        exact hJx false _ _ _ _ [0] H rfl ⟨rfl, rfl, rfl, rfl, rfl, True.intro⟩ rfl
        · clear H
          intro Jx_1 hJx_1 H
          refine c_seq ?_
          refine c_drawn (by kernel_rfl) ?_
          refine a_take 0 rfl (by decide +kernel) (np_then (np_then np_body)) rfl (y_ldA rfl (spl_ln ht_3 (by have := True.intro; simp only [List.length_cons, List.length_nil]; omega))) (hc_VP (k := 12) 1 rfl (lpart_all (spl_ln ht_3 (by have := True.intro; simp only [List.length_cons, List.length_nil]; omega)))) ?_
          refine a_takeP 1 rfl (by decide +kernel) (np_then (np_then np_body)) rfl (y_move rfl) ?_
          refine a_takeP 2 rfl (by decide +kernel) (np_then (np_then np_body)) rfl (y_move rfl) ?_
          refine a_takeP 3 rfl (by decide +kernel) (np_then (np_then np_body)) rfl (y_nc rfl) ?_
          refine a_takeP 4 rfl (by decide +kernel) (np_then (np_then np_body)) rfl (y_fa rfl rfl) ?_
          obtain ⟨c_67, c_68, H⟩ := H
          refine a_takeP 5 rfl (by decide +kernel) (np_then (np_then np_body)) rfl (y_ixA rfl rfl c_67 c_68 rfl) ?_
          obtain ⟨t_36, ht_36, H⟩ := H
          refine a_take 6 rfl (by decide +kernel) (np_then (np_then np_body)) rfl (y_ldA rfl (part_len ht_36)) (hc_SP ht_36) ?_
          refine a_step 7 (by decide +kernel) rfl ?_
          refine s_call rfl rfl H fun rv Sx_25 H2 => ?_
          clear H
          obtain ⟨t_37, rfl, H⟩ := H2
          replace H := ib_e H
          rcases H with ⟨rfl, H⟩ | ⟨rfl, H⟩
          · skip
            refine s_nil (q_any ac_nil ?_)
            refine a_takeP 8 rfl (by decide +kernel) (np_then (np_then np_body)) rfl (y_move rfl) ?_
            refine a_skip 9 rfl (by decide +kernel) (np_then (np_then np_body)) rfl ?_
            refine a_skip 10 rfl (by decide +kernel) (np_then (np_then np_body)) rfl ?_
            refine a_skip 11 rfl (by decide +kernel) (np_then (np_then np_body)) rfl ?_
            refine a_skip 12 rfl (by decide +kernel) (np_then (np_then np_body)) rfl ?_
            refine a_skip 13 rfl (by decide +kernel) (np_then (np_then np_body)) rfl ?_
            refine a_skip 14 rfl (by decide +kernel) (np_then (np_then np_body)) rfl ?_
            refine a_skip 15 rfl (by decide +kernel) (np_then (np_then np_body)) rfl ?_
            refine a_skip 16 rfl (by decide +kernel) (np_then (np_then np_body)) rfl ?_
            refine a_skip 17 rfl (by decide +kernel) (np_then (np_then np_body)) rfl ?_
            refine a_skip 18 rfl (by decide +kernel) (np_then (np_then np_body)) rfl ?_
            refine a_skip 19 rfl (by decide +kernel) (np_then (np_then np_body)) rfl ?_
            refine a_takeP 20 rfl (by decide +kernel) (np_then (np_then np_body)) rfl (y_pick rfl rfl) ?_
            refine a_takeP 21 rfl (by decide +kernel) (np_then (np_then np_body)) rfl (y_move rfl) ?_
            refine a_skip 22 rfl (by decide +kernel) (np_then (np_then np_body)) rfl ?_
            refine a_skip 23 rfl (by decide +kernel) (np_then (np_then np_body)) rfl ?_
            refine a_skip 24 rfl (by decide +kernel) (np_then (np_then np_body)) rfl ?_
            refine a_skip 25 rfl (by decide +kernel) (np_then (np_then np_body)) rfl ?_
            refine a_skip 26 rfl (by decide +kernel) (np_then (np_then np_body)) rfl ?_
            refine a_skip 27 rfl (by decide +kernel) (np_then (np_then np_body)) rfl ?_
            refine a_skip 28 rfl (by decide +kernel) (np_then (np_then np_body)) rfl ?_
            refine a_skip 29 rfl (by decide +kernel) (np_then (np_then np_body)) rfl ?_
            refine a_skip 30 rfl (by decide +kernel) (np_then (np_then np_body)) rfl ?_
            refine a_skip 31 rfl (by decide +kernel) (np_then (np_then np_body)) rfl ?_
            refine a_skip 32 rfl (by decide +kernel) (np_then (np_then np_body)) rfl ?_
            refine a_takeP 33 rfl (by decide +kernel) (np_then (np_then np_body)) rfl (y_pick rfl rfl) ?_
            refine a_done (by decide +kernel) ?_
            refine q_then ?_
            refine c_t rfl rfl ?_
            refine c_seq ?_
            refine c_region ?_
            refine s_p rfl (y_assign rfl) ?_
            refine s_nil (q_then ?_)
            refine c_ret (q_then_ret ?_)
            exact q_ret Try.results5 (rv_tmp rfl rv_nil) ⟨_, rfl, H⟩
          · skip
            refine s_nil (q_any ac_nil ?_)
            refine a_takeP 8 rfl (by decide +kernel) (np_then (np_then np_body)) rfl (y_move rfl) ?_
            refine a_takeP 9 rfl (by decide +kernel) (np_then (np_then np_body)) rfl (y_move rfl) ?_
            refine a_takeP 10 rfl (by decide +kernel) (np_then (np_then np_body)) rfl (y_move rfl) ?_
            refine a_takeP 11 rfl (by decide +kernel) (np_then (np_then np_body)) rfl (y_nc rfl) ?_
            refine a_takeP 12 rfl (by decide +kernel) (np_then (np_then np_body)) rfl (y_fa rfl rfl) ?_
            obtain ⟨c_69, c_70, H⟩ := H
            refine a_takeP 13 rfl (by decide +kernel) (np_then (np_then np_body)) rfl (y_ixA rfl rfl c_69 c_70 rfl) ?_
            refine a_takeP 14 rfl (by decide +kernel) (np_then (np_then np_body)) rfl (y_fa rfl rfl) ?_
            obtain ⟨t_38, ht_38, H⟩ := H
            refine a_take 15 rfl (by decide +kernel) (np_then (np_then np_body)) rfl (y_ld rfl) (hc_S ht_38) ?_
            obtain ⟨b_18, o_14, n_12, n_13, rfl, H⟩ := H
            obtain ⟨c_72, H⟩ := H
            refine a_takeP 16 rfl (by decide +kernel) (np_then (np_then np_body)) rfl (y_ixL rfl rfl (by decide) c_72 rfl) ?_
            refine a_takeP 17 rfl (by decide +kernel) (np_then (np_then np_body)) rfl (y_fa rfl rfl) ?_
            obtain ⟨t_39, ht_39, H⟩ := H
            refine a_take 18 rfl (by decide +kernel) (np_then (np_then np_body)) rfl (y_ld rfl) (hc_S ht_39) ?_
            replace H := ite_e H
            rcases H with ⟨c_73, H⟩ | ⟨c_73, H⟩
            · refine a_takeP 19 rfl (by decide +kernel) (np_then (np_then np_body)) rfl (yT (y_neq rfl rfl) c_73) ?_
              refine a_takeP 20 rfl (by decide +kernel) (np_then (np_then np_body)) rfl (y_pick rfl rfl) ?_
              refine a_takeP 21 rfl (by decide +kernel) (np_then (np_then np_body)) rfl (y_move rfl) ?_
              refine a_skip 22 rfl (by decide +kernel) (np_then (np_then np_body)) rfl ?_
              refine a_skip 23 rfl (by decide +kernel) (np_then (np_then np_body)) rfl ?_
              refine a_skip 24 rfl (by decide +kernel) (np_then (np_then np_body)) rfl ?_
              refine a_skip 25 rfl (by decide +kernel) (np_then (np_then np_body)) rfl ?_
              refine a_skip 26 rfl (by decide +kernel) (np_then (np_then np_body)) rfl ?_
              refine a_skip 27 rfl (by decide +kernel) (np_then (np_then np_body)) rfl ?_
              refine a_skip 28 rfl (by decide +kernel) (np_then (np_then np_body)) rfl ?_
              refine a_skip 29 rfl (by decide +kernel) (np_then (np_then np_body)) rfl ?_
              refine a_skip 30 rfl (by decide +kernel) (np_then (np_then np_body)) rfl ?_
              refine a_skip 31 rfl (by decide +kernel) (np_then (np_then np_body)) rfl ?_
              refine a_skip 32 rfl (by decide +kernel) (np_then (np_then np_body)) rfl ?_
              refine a_takeP 33 rfl (by decide +kernel) (np_then (np_then np_body)) rfl (y_pick rfl rfl) ?_
              refine a_done (by decide +kernel) ?_
              refine q_then ?_
              refine c_t rfl rfl ?_
              refine c_seq ?_
              refine c_region ?_
              refine s_p rfl (y_assign rfl) ?_
              refine s_nil (q_then ?_)
              refine c_ret (q_then_ret ?_)
              exact q_ret Try.results5 (rv_tmp rfl rv_nil) ⟨_, rfl, H⟩
            · refine a_takeP 19 rfl (by decide +kernel) (np_then (np_then np_body)) rfl (yF (y_neq rfl rfl) c_73) ?_
              refine a_takeP 20 rfl (by decide +kernel) (np_then (np_then np_body)) rfl (y_pick rfl rfl) ?_
              refine a_takeP 21 rfl (by decide +kernel) (np_then (np_then np_body)) rfl (y_move rfl) ?_
              refine a_takeP 22 rfl (by decide +kernel) (np_then (np_then np_body)) rfl (y_move rfl) ?_
              refine a_takeP 23 rfl (by decide +kernel) (np_then (np_then np_body)) rfl (y_move rfl) ?_
              refine a_takeP 24 rfl (by decide +kernel) (np_then (np_then np_body)) rfl (y_nc rfl) ?_
              refine a_takeP 25 rfl (by decide +kernel) (np_then (np_then np_body)) rfl (y_fa rfl rfl) ?_
              obtain ⟨c_74, c_75, H⟩ := H
              refine a_takeP 26 rfl (by decide +kernel) (np_then (np_then np_body)) rfl (y_ixA rfl rfl c_74 c_75 rfl) ?_
              refine a_takeP 27 rfl (by decide +kernel) (np_then (np_then np_body)) rfl (y_fa rfl rfl) ?_
              refine a_takeP 28 rfl (by decide +kernel) (np_then (np_then np_body)) rfl (y_ixA rfl rfl (by decide) (by decide) rfl) ?_
              obtain ⟨t_40, ht_40, H⟩ := H
              refine a_take 29 rfl (by decide +kernel) (np_then (np_then np_body)) rfl (y_ld rfl) (hc_S ht_40) ?_
              obtain ⟨b_19, o_15, n_14, n_15, rfl, H⟩ := H
              obtain ⟨c_77, H⟩ := H
              refine a_takeP 30 rfl (by decide +kernel) (np_then (np_then np_body)) rfl (y_ixL rfl rfl (by decide) c_77 rfl) ?_
              obtain ⟨t_41, ht_41, H⟩ := H
              refine a_take 31 rfl (by decide +kernel) (np_then (np_then np_body)) rfl (y_ld rfl) (hc_S ht_41) ?_
              replace H := ite_e H
              rcases H with ⟨c_78, H⟩ | ⟨c_78, H⟩
              · refine a_takeP 32 rfl (by decide +kernel) (np_then (np_then np_body)) rfl (yT (y_neq rfl rfl) c_78) ?_
                refine a_takeP 33 rfl (by decide +kernel) (np_then (np_then np_body)) rfl (y_pick rfl rfl) ?_
                refine a_done (by decide +kernel) ?_
                refine q_then ?_
                refine c_t rfl rfl ?_
                refine c_seq ?_
                refine c_region ?_
                refine s_p rfl (y_assign rfl) ?_
                refine s_nil (q_then ?_)
                refine c_ret (q_then_ret ?_)
                exact q_ret Try.results5 (rv_tmp rfl rv_nil) ⟨_, rfl, H⟩
              · refine a_takeP 32 rfl (by decide +kernel) (np_then (np_then np_body)) rfl (yF (y_neq rfl rfl) c_78) ?_
                refine a_takeP 33 rfl (by decide +kernel) (np_then (np_then np_body)) rfl (y_pick rfl rfl) ?_
                refine a_done (by decide +kernel) ?_
                refine q_then ?_
                refine c_f rfl rfl ?_
                refine c_skip ?_
                exact hJx_1 () _ _ _ _ [0] H rfl ⟨rfl, rfl, rfl, rfl, rfl, True.intro⟩ rfl
      · clear H
        intro Jx_2 hJx_2 H
        refine c_seq ?_
        refine c_drawn (by kernel_rfl) ?_
        refine a_takeP 0 rfl (by decide +kernel) (np_then (np_then np_body)) rfl (y_move rfl) ?_
        refine a_takeP 1 rfl (by decide +kernel) (np_then (np_then np_body)) rfl (y_move rfl) ?_
        refine a_step 2 (by decide +kernel) rfl ?_
        refine s_call rfl rfl H fun rv Sx_26 H2 => ?_
        clear H
        obtain ⟨t_42, rfl, H⟩ := H2
        replace H := ib_e H
        rcases H with ⟨rfl, H⟩ | ⟨rfl, H⟩
        · skip
          refine s_nil (q_any ac_nil ?_)
          refine a_takeP 3 rfl (by decide +kernel) (np_then (np_then np_body)) rfl (yB (y_not rfl) rfl) ?_
          refine a_takeP 4 rfl (by decide +kernel) (np_then (np_then np_body)) rfl (y_move rfl) ?_
          refine a_takeP 5 rfl (by decide +kernel) (np_then (np_then np_body)) rfl (y_move rfl) ?_
          refine a_takeP 6 rfl (by decide +kernel) (np_then (np_then np_body)) rfl (y_move rfl) ?_
          obtain ⟨b_20, o_16, rfl, H⟩ := H
          refine a_takeP 7 rfl (by decide +kernel) (np_then (np_then np_body)) rfl (y_nc rfl) ?_
          refine a_takeP 8 rfl (by decide +kernel) (np_then (np_then np_body)) rfl (y_fa rfl rfl) ?_
          obtain ⟨c_79, c_80, H⟩ := H
          refine a_takeP 9 rfl (by decide +kernel) (np_then (np_then np_body)) rfl (y_ixA rfl rfl c_79 c_80 rfl) ?_
          obtain ⟨t_43, ht_43, H⟩ := H
          refine a_take 10 rfl (by decide +kernel) (np_then (np_then np_body)) rfl (y_ldA rfl (part_len ht_43)) (hc_SP ht_43) ?_
          refine a_takeP 11 rfl (by decide +kernel) (np_then (np_then np_body)) rfl (y_move rfl) ?_
          refine a_takeP 12 rfl (by decide +kernel) (np_then (np_then np_body)) rfl (y_move rfl) ?_
          obtain ⟨b_21, o_17, rfl, H⟩ := H
          refine a_takeP 13 rfl (by decide +kernel) (np_then (np_then np_body)) rfl (y_nc rfl) ?_
          refine a_takeP 14 rfl (by decide +kernel) (np_then (np_then np_body)) rfl (y_fa rfl rfl) ?_
          obtain ⟨c_81, c_82, H⟩ := H
          refine a_takeP 15 rfl (by decide +kernel) (np_then (np_then np_body)) rfl (y_ixA rfl rfl c_81 c_82 rfl) ?_
          obtain ⟨t_44, ht_44, H⟩ := H
          refine a_take 16 rfl (by decide +kernel) (np_then (np_then np_body)) rfl (y_ldA rfl (part_len ht_44)) (hc_SP ht_44) ?_
          refine a_step 17 (by decide +kernel) rfl ?_
          refine s_call rfl rfl H fun rv Sx_27 H2 => ?_
          clear H
          obtain ⟨t_45, rfl, H⟩ := H2
          replace H := ib_e H
          rcases H with ⟨rfl, H⟩ | ⟨rfl, H⟩
          · skip
            refine s_nil (q_any ac_nil ?_)
            refine a_takeP 18 rfl (by decide +kernel) (np_then (np_then np_body)) rfl (yB (y_not rfl) rfl) ?_
            refine a_takeP 19 rfl (by decide +kernel) (np_then (np_then np_body)) rfl (y_pick rfl rfl) ?_
            refine a_takeP 20 rfl (by decide +kernel) (np_then (np_then np_body)) rfl (y_move rfl) ?_
            refine a_takeP 21 rfl (by decide +kernel) (np_then (np_then np_body)) rfl (y_move rfl) ?_
            refine a_takeP 22 rfl (by decide +kernel) (np_then (np_then np_body)) rfl (y_nc rfl) ?_
            refine a_takeP 23 rfl (by decide +kernel) (np_then (np_then np_body)) rfl (y_fa rfl rfl) ?_
            obtain ⟨t_46, ht_46, H⟩ := H
            refine a_take 24 rfl (by decide +kernel) (np_then (np_then np_body)) rfl (y_ld rfl) (hc_S ht_46) ?_
            refine a_takeP 25 rfl (by decide +kernel) (np_then (np_then np_body)) rfl (y_move rfl) ?_
            refine a_takeP 26 rfl (by decide +kernel) (np_then (np_then np_body)) rfl (y_nc rfl) ?_
            refine a_takeP 27 rfl (by decide +kernel) (np_then (np_then np_body)) rfl (y_fa rfl rfl) ?_
            obtain ⟨t_47, ht_47, H⟩ := H
            refine a_take 28 rfl (by decide +kernel) (np_then (np_then np_body)) rfl (y_ld rfl) (hc_S ht_47) ?_
            replace H := ite_e H
            rcases H with ⟨c_83, H⟩ | ⟨c_83, H⟩
            · refine a_takeP 29 rfl (by decide +kernel) (np_then (np_then np_body)) rfl (yT (y_neq rfl rfl) c_83) ?_
              refine a_takeP 30 rfl (by decide +kernel) (np_then (np_then np_body)) rfl (y_pick rfl rfl) ?_
              refine a_done (by decide +kernel) ?_
              refine q_then ?_
              refine c_t rfl rfl ?_
              refine c_seq ?_
              refine c_region ?_
              refine s_p rfl (y_assign rfl) ?_
              refine s_nil (q_then ?_)
              refine c_ret (q_then_ret ?_)
              exact q_ret Try.results5 (rv_tmp rfl rv_nil) ⟨_, rfl, H⟩
            · refine a_takeP 29 rfl (by decide +kernel) (np_then (np_then np_body)) rfl (yF (y_neq rfl rfl) c_83) ?_
              refine a_takeP 30 rfl (by decide +kernel) (np_then (np_then np_body)) rfl (y_pick rfl rfl) ?_
              refine a_done (by decide +kernel) ?_
              refine q_then ?_
              refine c_f rfl rfl ?_
              refine c_skip ?_
              exact hJx_2 () _ _ _ _ [0] H rfl ⟨rfl, rfl, rfl, rfl, rfl, True.intro⟩ rfl
          · skip
            refine s_nil (q_any ac_nil ?_)
            refine a_takeP 18 rfl (by decide +kernel) (np_then (np_then np_body)) rfl (yB (y_not rfl) rfl) ?_
            refine a_takeP 19 rfl (by decide +kernel) (np_then (np_then np_body)) rfl (y_pick rfl rfl) ?_
            refine a_takeP 20 rfl (by decide +kernel) (np_then (np_then np_body)) rfl (y_move rfl) ?_
            refine a_skip 21 rfl (by decide +kernel) (np_then (np_then np_body)) rfl ?_
            refine a_skip 22 rfl (by decide +kernel) (np_then (np_then np_body)) rfl ?_
            refine a_skip 23 rfl (by decide +kernel) (np_then (np_then np_body)) rfl ?_
            refine a_skip 24 rfl (by decide +kernel) (np_then (np_then np_body)) rfl ?_
            refine a_skip 25 rfl (by decide +kernel) (np_then (np_then np_body)) rfl ?_
            refine a_skip 26 rfl (by decide +kernel) (np_then (np_then np_body)) rfl ?_
            refine a_skip 27 rfl (by decide +kernel) (np_then (np_then np_body)) rfl ?_
            refine a_skip 28 rfl (by decide +kernel) (np_then (np_then np_body)) rfl ?_
            refine a_skip 29 rfl (by decide +kernel) (np_then (np_then np_body)) rfl ?_
            refine a_takeP 30 rfl (by decide +kernel) (np_then (np_then np_body)) rfl (y_pick rfl rfl) ?_
            refine a_done (by decide +kernel) ?_
            refine q_then ?_
            refine c_t rfl rfl ?_
            refine c_seq ?_
            refine c_region ?_
            refine s_p rfl (y_assign rfl) ?_
            refine s_nil (q_then ?_)
            refine c_ret (q_then_ret ?_)
            exact q_ret Try.results5 (rv_tmp rfl rv_nil) ⟨_, rfl, H⟩
        · skip
          refine s_nil (q_any ac_nil ?_)
          refine a_takeP 3 rfl (by decide +kernel) (np_then (np_then np_body)) rfl (yB (y_not rfl) rfl) ?_
          refine a_takeP 4 rfl (by decide +kernel) (np_then (np_then np_body)) rfl (y_move rfl) ?_
          refine a_skip 5 rfl (by decide +kernel) (np_then (np_then np_body)) rfl ?_
          refine a_skip 6 rfl (by decide +kernel) (np_then (np_then np_body)) rfl ?_
          refine a_skip 7 rfl (by decide +kernel) (np_then (np_then np_body)) rfl ?_
          refine a_skip 8 rfl (by decide +kernel) (np_then (np_then np_body)) rfl ?_
          refine a_skip 9 rfl (by decide +kernel) (np_then (np_then np_body)) rfl ?_
          refine a_skip 10 rfl (by decide +kernel) (np_then (np_then np_body)) rfl ?_
          refine a_skip 11 rfl (by decide +kernel) (np_then (np_then np_body)) rfl ?_
          refine a_skip 12 rfl (by decide +kernel) (np_then (np_then np_body)) rfl ?_
          refine a_skip 13 rfl (by decide +kernel) (np_then (np_then np_body)) rfl ?_
          refine a_skip 14 rfl (by decide +kernel) (np_then (np_then np_body)) rfl ?_
          refine a_skip 15 rfl (by decide +kernel) (np_then (np_then np_body)) rfl ?_
          refine a_skip 16 rfl (by decide +kernel) (np_then (np_then np_body)) rfl ?_
          refine a_skip 17 rfl (by decide +kernel) (np_then (np_then np_body)) rfl ?_
          refine a_skip 18 rfl (by decide +kernel) (np_then (np_then np_body)) rfl ?_
          refine a_takeP 19 rfl (by decide +kernel) (np_then (np_then np_body)) rfl (y_pick rfl rfl) ?_
          refine a_takeP 20 rfl (by decide +kernel) (np_then (np_then np_body)) rfl (y_move rfl) ?_
          refine a_skip 21 rfl (by decide +kernel) (np_then (np_then np_body)) rfl ?_
          refine a_skip 22 rfl (by decide +kernel) (np_then (np_then np_body)) rfl ?_
          refine a_skip 23 rfl (by decide +kernel) (np_then (np_then np_body)) rfl ?_
          refine a_skip 24 rfl (by decide +kernel) (np_then (np_then np_body)) rfl ?_
          refine a_skip 25 rfl (by decide +kernel) (np_then (np_then np_body)) rfl ?_
          refine a_skip 26 rfl (by decide +kernel) (np_then (np_then np_body)) rfl ?_
          refine a_skip 27 rfl (by decide +kernel) (np_then (np_then np_body)) rfl ?_
          refine a_skip 28 rfl (by decide +kernel) (np_then (np_then np_body)) rfl ?_
          refine a_skip 29 rfl (by decide +kernel) (np_then (np_then np_body)) rfl ?_
          refine a_takeP 30 rfl (by decide +kernel) (np_then (np_then np_body)) rfl (y_pick rfl rfl) ?_
          refine a_done (by decide +kernel) ?_
          refine q_then ?_
          refine c_t rfl rfl ?_
          refine c_seq ?_
          refine c_region ?_
          refine s_p rfl (y_assign rfl) ?_
          refine s_nil (q_then ?_)
          refine c_ret (q_then_ret ?_)
          exact q_ret Try.results5 (rv_tmp rfl rv_nil) ⟨_, rfl, H⟩
    · clear H
      intro Jx_3 hJx_3 H
      refine c_seq ?_
      refine c_region ?_
      refine s_p rfl (y_move rfl) ?_
      replace H := ite_e H
      rcases H with ⟨c_84, H⟩ | ⟨c_84, H⟩
      · refine s_p rfl (yT (y_pnil (p := t) rfl rfl) c_84) ?_
        refine s_nil (q_then ?_)
        refine c_t rfl rfl ?_
        refine c_seq ?_
        refine c_region ?_
        refine s_p rfl (y_assign rfl) ?_
        refine s_nil (q_then ?_)
        refine c_ret (q_then_ret ?_)
        exact q_ret Try.results5 (rv_tmp rfl rv_nil) ⟨_, rfl, H⟩
      · refine s_p rfl (yF (y_pnil (p := t) rfl rfl) c_84) ?_
        refine s_nil (q_then ?_)
        refine c_f rfl rfl ?_
        refine c_skip ?_
        exact hJx_3 () _ _ _ _ [0] H rfl ⟨rfl, rfl, rfl, rfl, True.intro⟩ rfl
  · clear H
    intro Jx_4 hJx_4 H
    refine c_seq ?_
    refine c_region ?_
    refine s_call rfl rfl H fun rv Sx_28 H2 => ?_
    clear H
    obtain ⟨t_48, rfl, H⟩ := H2
    replace H := ib_e H
    rcases H with ⟨rfl, H⟩ | ⟨rfl, H⟩
    · skip
      refine s_p rfl (yB (y_not rfl) rfl) ?_
      refine s_p rfl (y_move rfl) ?_
      refine s_p rfl (y_fa rfl rfl) ?_
      obtain ⟨t_49, ht_49, H⟩ := H
      refine s_v rfl (y_ld rfl) (hc_V 0 rfl ht_49) ?_
      refine s_p rfl (y_len rfl) ?_
      replace H := ite_e H
      rcases H with ⟨c_85, H⟩ | ⟨c_85, H⟩
      · refine s_p rfl (yT (y_gtr rfl rfl) c_85) ?_
        refine s_p rfl (y_pick rfl rfl) ?_
        refine s_nil (q_then ?_)
        refine c_t rfl rfl ?_
        refine c_seq ?_
        refine c_region ?_
        refine s_call rfl rfl H fun rv Sx_29 H2 => ?_
        clear H
        obtain ⟨t_50, rfl, H⟩ := H2
        refine s_p rfl (y_assign rfl) ?_
        refine s_nil (q_then ?_)
        refine c_ret (q_then_ret ?_)
        exact q_ret Try.results5 (rv_tmp rfl rv_nil) ⟨_, rfl, H⟩
      · refine s_p rfl (yF (y_gtr rfl rfl) c_85) ?_
        refine s_p rfl (y_pick rfl rfl) ?_
        refine s_nil (q_then ?_)
        refine c_f rfl rfl ?_
        refine c_skip ?_
        exact hJx_4 () _ _ _ _ [0] H rfl ⟨rfl, rfl, rfl, True.intro⟩ rfl
    · skip
      refine s_p rfl (yB (y_not rfl) rfl) ?_
      refine s_p rfl (y_move rfl) ?_
      refine s_skip rfl ?_
      refine s_skip rfl ?_
      refine s_skip rfl ?_
      refine s_skip rfl ?_
      refine s_p rfl (y_pick rfl rfl) ?_
      refine s_nil (q_then ?_)
      refine c_t rfl rfl ?_
      refine c_seq ?_
      refine c_region ?_
      refine s_call rfl rfl H fun rv Sx_30 H2 => ?_
      clear H
      obtain ⟨t_51, rfl, H⟩ := H2
      refine s_p rfl (y_assign rfl) ?_
      refine s_nil (q_then ?_)
      refine c_ret (q_then_ret ?_)
      exact q_ret Try.results5 (rv_tmp rfl rv_nil) ⟨_, rfl, H⟩
end Go.Proofs.Ytpilffakhkagjaa
