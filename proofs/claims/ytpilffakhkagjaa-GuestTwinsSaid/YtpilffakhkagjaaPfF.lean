/- PRINTED BY pt.py: functions. -/
import Derived.Test.YtpilffakhkagjaaPtS
namespace Go.Proofs.Ytpilffakhkagjaa
open Go Go.Pt
attribute [local irreducible] Code.wp Back bodyPost wpList FR WL WC WQ WA AW Tr Yc HC AllC
set_option maxRecDepth 20000
set_option maxHeartbeats 4000000
set_option linter.unusedVariables false
def b_slices_SortFunc_alarm_Alarm_alarm_Alarm (S : Mem) (x : Sl) (cmp : Value) (Q : Mem → Prop) : Prop :=
  bits_Len S (IntKind.u64.wrap (x.n : Int)) fun t Sx =>
  slices_pdqsortCmpFunc_alarm_Alarm Sx x 0 (x.n : Int) t cmp fun Sx_1 =>
  Q Sx_1
theorem t_slices_SortFunc_alarm_Alarm_alarm_Alarm {S : Mem} {x : Sl} {cmp : Value} {Q : Mem → Prop} (H : b_slices_SortFunc_alarm_Alarm_alarm_Alarm S x cmp Q) : slices_SortFunc_alarm_Alarm_alarm_Alarm S x cmp Q := by
  unfold b_slices_SortFunc_alarm_Alarm_alarm_Alarm at H
  refine Tr.intro Try.func67 rfl Try.ntmps67 rfl fun w0 => ?_
  refine c_seq ?_
  refine c_region ?_
  refine s_p rfl (y_move rfl) ?_
  refine s_p rfl (y_len rfl) ?_
  refine s_p rfl (y_assign rfl) ?_
  refine s_nil (q_then ?_)
  refine c_region ?_
  refine s_p rfl (y_move rfl) ?_
  refine s_p rfl (y_move rfl) ?_
  refine s_p rfl (y_move rfl) ?_
  refine s_p rfl (y_conv ⟨_, Try.underlying3⟩ rfl) ?_
  refine s_call rfl rfl H fun rv Sx H2 => ?_
  clear H
  obtain ⟨t, rfl, H⟩ := H2
  refine s_p rfl (y_move rfl) ?_
  refine s_call rfl rfl H fun rv Sx_1 H2 => ?_
  clear H
  obtain ⟨rfl, H⟩ := H2
  refine s_nil ?_
  exact q_end Try.results67 (rv_nil) ⟨rfl, H⟩
def b_slices_pdqsortCmpFunc_alarm_Alarm (S : Mem) (data : Sl) (a : Int) (b : Int) (limit : Int) (cmp : Value) (Q : Mem → Prop) : Prop :=
  lp (fun Xx (z : Int × Int × Int × Bool × Bool) (Sx : Mem) =>
      match z with
      | (a_1, b_1, limit_1, wasBalanced, wasPartitioned) =>
        jn (fun (Sx_1 : Mem) =>
            jn (fun (Sx_2 : Mem) =>
                jn (fun (limit_2 : Int) (Sx_3 : Mem) =>
                    slices_choosePivotCmpFunc_alarm_Alarm Sx_3 data a_1 b_1 cmp fun t t_1 Sx_4 =>
                    jn (fun (pivot : Int) (hint : Int) (Sx_5 : Mem) =>
                        jn (fun (Sx_6 : Mem) =>
                            jn (fun (a_2 : Int) (Sx_7 : Mem) =>
                                jn (fun (mid : Int) (alreadyPartitioned : Bool) (Sx_8 : Mem) =>
                                    if alreadyPartitioned = true then
                                      if IntKind.i64.wrap (mid - a_2) < IntKind.i64.wrap (b_1 - mid) then
                                        if IntKind.i64.wrap (Int.tdiv (IntKind.i64.wrap (b_1 - a_1)) 8) ≤ IntKind.i64.wrap (mid - a_2) then
                                          slices_pdqsortCmpFunc_alarm_Alarm Sx_8 data a_2 mid limit_2 cmp fun Sx_9 =>
                                          Xx (IntKind.i64.wrap (mid + 1), b_1, limit_2, true, true) Sx_9
                                        else
                                        slices_pdqsortCmpFunc_alarm_Alarm Sx_8 data a_2 mid limit_2 cmp fun Sx_10 =>
                                        Xx (IntKind.i64.wrap (mid + 1), b_1, limit_2, false, true) Sx_10
                                      else
                                      if IntKind.i64.wrap (Int.tdiv (IntKind.i64.wrap (b_1 - a_1)) 8) ≤ IntKind.i64.wrap (b_1 - mid) then
                                        slices_pdqsortCmpFunc_alarm_Alarm Sx_8 data (IntKind.i64.wrap (mid + 1)) b_1 limit_2 cmp fun Sx_11 =>
                                        Xx (a_2, mid, limit_2, true, true) Sx_11
                                      else
                                      slices_pdqsortCmpFunc_alarm_Alarm Sx_8 data (IntKind.i64.wrap (mid + 1)) b_1 limit_2 cmp fun Sx_12 =>
                                      Xx (a_2, mid, limit_2, false, true) Sx_12
                                    else
                                    if IntKind.i64.wrap (mid - a_2) < IntKind.i64.wrap (b_1 - mid) then
                                      if IntKind.i64.wrap (Int.tdiv (IntKind.i64.wrap (b_1 - a_1)) 8) ≤ IntKind.i64.wrap (mid - a_2) then
                                        slices_pdqsortCmpFunc_alarm_Alarm Sx_8 data a_2 mid limit_2 cmp fun Sx_13 =>
                                        Xx (IntKind.i64.wrap (mid + 1), b_1, limit_2, true, false) Sx_13
                                      else
                                      slices_pdqsortCmpFunc_alarm_Alarm Sx_8 data a_2 mid limit_2 cmp fun Sx_14 =>
                                      Xx (IntKind.i64.wrap (mid + 1), b_1, limit_2, false, false) Sx_14
                                    else
                                    if IntKind.i64.wrap (Int.tdiv (IntKind.i64.wrap (b_1 - a_1)) 8) ≤ IntKind.i64.wrap (b_1 - mid) then
                                      slices_pdqsortCmpFunc_alarm_Alarm Sx_8 data (IntKind.i64.wrap (mid + 1)) b_1 limit_2 cmp fun Sx_15 =>
                                      Xx (a_2, mid, limit_2, true, false) Sx_15
                                    else
                                    slices_pdqsortCmpFunc_alarm_Alarm Sx_8 data (IntKind.i64.wrap (mid + 1)) b_1 limit_2 cmp fun Sx_16 =>
                                    Xx (a_2, mid, limit_2, false, false) Sx_16) fun Jx =>
                                slices_partitionCmpFunc_alarm_Alarm Sx_7 data a_2 b_1 pivot cmp fun t_2 t_3 Sx_17 =>
                                if t_3 = true then
                                  Jx t_2 true Sx_17
                                else
                                Jx t_2 false Sx_17) fun Jx_1 =>
                            if 0 < a_1 then
                              sl data fun b_2 o n n_1 =>
                              0 ≤ IntKind.i64.wrap (a_1 - 1) ∧ IntKind.i64.wrap (a_1 - 1) < ((n : Nat) : Int) ∧
                              gA (Sx_6.part b_2 (o + (IntKind.i64.wrap (a_1 - 1)).toNat * 3) 3) fun t_4 =>
                              0 ≤ pivot ∧ pivot < ((n : Nat) : Int) ∧
                              gA (Sx_6.part b_2 (o + pivot.toNat * 3) 3) fun t_5 =>
                              cv Try.prog Sx_6 cmp [valL t_4, valL t_5] fun rv Sx_18 => ∃ t_6 : Int, rv = .int .i64 t_6 ∧ 
                              if t_6 < 0 then
                                Jx_1 a_1 Sx_18
                              else
                              slices_partitionEqualCmpFunc_alarm_Alarm Sx_18 (⟨some (b_2, o), n, n_1⟩) a_1 b_1 pivot cmp fun t_7 Sx_19 =>
                              Xx (t_7, b_1, limit_2, wasBalanced, wasPartitioned) Sx_19
                            else
                            Jx_1 a_1 Sx_6) fun Jx_2 =>
                        if wasBalanced = true then
                          if wasPartitioned = true then
                            if hint = 1 then
                              slices_partialInsertionSortCmpFunc_alarm_Alarm Sx_5 data a_1 b_1 cmp fun t_8 Sx_20 =>
                              if t_8 = true then
                                Q Sx_20
                              else
                              Jx_2 Sx_20
                            else
                            Jx_2 Sx_5
                          else
                          Jx_2 Sx_5
                        else
                        Jx_2 Sx_5) fun Jx_3 =>
                    if t_1 = 2 then
                      slices_reverseRangeCmpFunc_alarm_Alarm Sx_4 data a_1 b_1 cmp fun Sx_21 =>
                      Jx_3 (IntKind.i64.wrap ((IntKind.i64.wrap (b_1 - 1)) - (IntKind.i64.wrap (t - a_1)))) 1 Sx_21
                    else
                    Jx_3 t t_1 Sx_4) fun Jx_4 =>
                if wasBalanced = true then
                  Jx_4 limit_1 Sx_2
                else
                slices_breakPatternsCmpFunc_alarm_Alarm Sx_2 data a_1 b_1 cmp fun Sx_22 =>
                Jx_4 (IntKind.i64.wrap (limit_1 - 1)) Sx_22) fun Jx_5 =>
            if limit_1 = 0 then
              slices_heapSortCmpFunc_alarm_Alarm Sx_1 data a_1 b_1 cmp fun Sx_23 =>
              Q Sx_23
            else
            Jx_5 Sx_1) fun Jx_6 =>
        if IntKind.i64.wrap (b_1 - a_1) ≤ 12 then
          slices_insertionSortCmpFunc_alarm_Alarm Sx data a_1 b_1 cmp fun Sx_24 =>
          Q Sx_24
        else
        Jx_6 Sx) (a, b, limit, true, true) S
theorem t_slices_pdqsortCmpFunc_alarm_Alarm {S : Mem} {data : Sl} {a : Int} {b : Int} {limit : Int} {cmp : Value} {Q : Mem → Prop} (H : b_slices_pdqsortCmpFunc_alarm_Alarm S data a b limit cmp Q) : slices_pdqsortCmpFunc_alarm_Alarm S data a b limit cmp Q := by
  unfold b_slices_pdqsortCmpFunc_alarm_Alarm at H
  refine Tr.intro Try.func75 rfl Try.ntmps75 rfl fun w0 => ?_
  refine c_seq ?_
  refine c_region ?_
  refine s_p rfl (y_assign rfl) ?_
  refine s_nil (q_then ?_)
  refine c_seq ?_
  refine c_region ?_
  refine s_p rfl (y_assign rfl) ?_
  refine s_nil (q_then ?_)
  refine c_block ?_
  refine c_loop (fun z => ⟨148, [(0, eL data), (1, .int .i64 z.1), (2, .int .i64 z.2.1), (3, .int .i64 z.2.2.1), (4, cmp), (10, .bool z.2.2.2.1), (11, .bool z.2.2.2.2)]⟩) (fun z => []) (a, b, limit, true, true) (idx := []) H rfl ⟨rfl, rfl, rfl, rfl, rfl, rfl, rfl, True.intro⟩ rfl ?_
  clear H
  rintro Xx hXx ⟨a_1, b_1, limit_1, wasBalanced, wasPartitioned⟩ Sx H
  refine c_block ?_
  refine c_seq ?_
  refine c_region ?_
  refine s_p rfl (y_move rfl) ?_
  refine s_p rfl (y_move rfl) ?_
  refine s_p rfl (y_sub rfl rfl) ?_
  refine s_p rfl (y_assign rfl) ?_
  refine s_nil (q_then ?_)
  refine c_join2 H (fun (J : Mem → Prop) (z : Unit) S => J S) (fun z => ⟨148, [(0, eL data), (1, .int .i64 a_1), (2, .int .i64 b_1), (3, .int .i64 limit_1), (4, cmp), (10, .bool wasBalanced), (11, .bool wasPartitioned), (12, .int .i64 (IntKind.i64.wrap (b_1 - a_1)))]⟩) (fun z => []) ?_ ?_
  · clear H
    rintro _ Sx_1 H
    refine c_join2 H (fun (J : Mem → Prop) (z : Unit) S => J S) (fun z => ⟨148, [(0, eL data), (1, .int .i64 a_1), (2, .int .i64 b_1), (3, .int .i64 limit_1), (4, cmp), (10, .bool wasBalanced), (11, .bool wasPartitioned), (12, .int .i64 (IntKind.i64.wrap (b_1 - a_1)))]⟩) (fun z => []) ?_ ?_
    · clear H
      rintro _ Sx_2 H
      refine c_join2 H (fun (J : Int → Mem → Prop) (z : Int) S => J z S) (fun z => ⟨148, [(0, eL data), (1, .int .i64 a_1), (2, .int .i64 b_1), (3, .int .i64 z), (4, cmp), (10, .bool wasBalanced), (11, .bool wasPartitioned), (12, .int .i64 (IntKind.i64.wrap (b_1 - a_1)))]⟩) (fun z => []) ?_ ?_
      · clear H
        rintro limit_2 Sx_3 H
        refine c_seq ?_
        refine c_region ?_
        refine s_p rfl (y_move rfl) ?_
        refine s_p rfl (y_move rfl) ?_
        refine s_p rfl (y_move rfl) ?_
        refine s_p rfl (y_move rfl) ?_
        refine s_call rfl rfl H fun rv Sx_4 H2 => ?_
        clear H
        obtain ⟨t, t_1, rfl, H⟩ := H2
        refine s_p rfl (y_move rfl) ?_
        refine s_p rfl (y_extract rfl rfl) ?_
        refine s_p rfl (y_extract rfl rfl) ?_
        refine s_p rfl (y_assign rfl) ?_
        refine s_p rfl (y_assign rfl) ?_
        refine s_nil (q_then ?_)
        refine c_join2 H (fun (J : Int → Int → Mem → Prop) (z : Int × Int) S => J z.1 z.2 S) (fun z => ⟨148, [(0, eL data), (1, .int .i64 a_1), (2, .int .i64 b_1), (3, .int .i64 limit_2), (4, cmp), (10, .bool wasBalanced), (11, .bool wasPartitioned), (12, .int .i64 (IntKind.i64.wrap (b_1 - a_1))), (13, .int .i64 z.1), (14, .int .i64 z.2)]⟩) (fun z => []) ?_ ?_
        · clear H
          rintro ⟨pivot, hint⟩ Sx_5 H
          refine c_join2 H (fun (J : Mem → Prop) (z : Unit) S => J S) (fun z => ⟨148, [(0, eL data), (1, .int .i64 a_1), (2, .int .i64 b_1), (3, .int .i64 limit_2), (4, cmp), (10, .bool wasBalanced), (11, .bool wasPartitioned), (12, .int .i64 (IntKind.i64.wrap (b_1 - a_1))), (13, .int .i64 pivot)]⟩) (fun z => []) ?_ ?_
          · clear H
            rintro _ Sx_6 H
            refine c_join2 H (fun (J : Int → Mem → Prop) (z : Int) S => J z S) (fun z => ⟨148, [(0, eL data), (1, .int .i64 z), (2, .int .i64 b_1), (3, .int .i64 limit_2), (4, cmp), (12, .int .i64 (IntKind.i64.wrap (b_1 - a_1))), (13, .int .i64 pivot)]⟩) (fun z => []) ?_ ?_
            · clear H
              rintro a_2 Sx_7 H
              refine c_join2 H (fun (J : Int → Bool → Mem → Prop) (z : Int × Bool) S => J z.1 z.2 S) (fun z => ⟨148, [(0, eL data), (1, .int .i64 a_2), (2, .int .i64 b_1), (3, .int .i64 limit_2), (4, cmp), (12, .int .i64 (IntKind.i64.wrap (b_1 - a_1))), (16, .int .i64 z.1), (17, .bool z.2)]⟩) (fun z => []) ?_ ?_
              · clear H
                rintro ⟨mid, alreadyPartitioned⟩ Sx_8 H
                refine c_seq ?_
                refine c_region ?_
                replace H := ite_e H
                rcases H with ⟨c, H⟩ | ⟨c, H⟩
                · refine s_p rfl (y_moveB rfl c) ?_
                  refine s_p rfl (y_assign rfl) ?_
                  refine s_nil (q_then ?_)
                  refine c_seq ?_
                  refine c_region ?_
                  refine s_p rfl (y_move rfl) ?_
                  refine s_p rfl (y_move rfl) ?_
                  refine s_p rfl (y_sub rfl rfl) ?_
                  refine s_p rfl (y_move rfl) ?_
                  refine s_p rfl (y_move rfl) ?_
                  refine s_p rfl (y_sub rfl rfl) ?_
                  refine s_p rfl (y_assign rfl) ?_
                  refine s_p rfl (y_assign rfl) ?_
                  refine s_nil (q_then ?_)
                  refine c_seq ?_
                  refine c_region ?_
                  refine s_p rfl (y_move rfl) ?_
                  refine s_p rfl (y_quo rfl rfl (by decide)) ?_
                  refine s_p rfl (y_assign rfl) ?_
                  refine s_nil (q_then ?_)
                  refine c_seq ?_
                  refine c_region ?_
                  refine s_p rfl (y_move rfl) ?_
                  refine s_p rfl (y_move rfl) ?_
                  replace H := ite_e H
                  rcases H with ⟨c_1, H⟩ | ⟨c_1, H⟩
                  · refine s_p rfl (yT (y_lss rfl rfl) c_1) ?_
                    refine s_nil (q_then ?_)
                    refine c_t rfl rfl ?_
                    refine c_seq ?_
                    refine c_region ?_
                    refine s_p rfl (y_move rfl) ?_
                    refine s_p rfl (y_move rfl) ?_
                    replace H := ite_e H
                    rcases H with ⟨c_2, H⟩ | ⟨c_2, H⟩
                    · refine s_p rfl (yT (y_geq rfl rfl) c_2) ?_
                      refine s_p rfl (y_assign rfl) ?_
                      refine s_nil (q_then ?_)
                      refine c_seq ?_
                      refine c_region ?_
                      refine s_p rfl (y_move rfl) ?_
                      refine s_p rfl (y_move rfl) ?_
                      refine s_p rfl (y_move rfl) ?_
                      refine s_p rfl (y_move rfl) ?_
                      refine s_p rfl (y_move rfl) ?_
                      refine s_call rfl rfl H fun rv Sx_9 H2 => ?_
                      clear H
                      obtain ⟨rfl, H⟩ := H2
                      refine s_nil (q_then ?_)
                      refine c_region ?_
                      refine s_p rfl (y_move rfl) ?_
                      refine s_p rfl (y_add rfl rfl) ?_
                      refine s_p rfl (y_assign rfl) ?_
                      refine s_nil (q_blk ?_)
                      exact hXx (IntKind.i64.wrap (mid + 1), b_1, limit_2, true, true) _ _ _ _ [] H rfl ⟨rfl, rfl, rfl, rfl, rfl, rfl, rfl, True.intro⟩ rfl
                    · refine s_p rfl (yF (y_geq rfl rfl) c_2) ?_
                      refine s_p rfl (y_assign rfl) ?_
                      refine s_nil (q_then ?_)
                      refine c_seq ?_
                      refine c_region ?_
                      refine s_p rfl (y_move rfl) ?_
                      refine s_p rfl (y_move rfl) ?_
                      refine s_p rfl (y_move rfl) ?_
                      refine s_p rfl (y_move rfl) ?_
                      refine s_p rfl (y_move rfl) ?_
                      refine s_call rfl rfl H fun rv Sx_10 H2 => ?_
                      clear H
                      obtain ⟨rfl, H⟩ := H2
                      refine s_nil (q_then ?_)
                      refine c_region ?_
                      refine s_p rfl (y_move rfl) ?_
                      refine s_p rfl (y_add rfl rfl) ?_
                      refine s_p rfl (y_assign rfl) ?_
                      refine s_nil (q_blk ?_)
                      exact hXx (IntKind.i64.wrap (mid + 1), b_1, limit_2, false, true) _ _ _ _ [] H rfl ⟨rfl, rfl, rfl, rfl, rfl, rfl, rfl, True.intro⟩ rfl
                  · refine s_p rfl (yF (y_lss rfl rfl) c_1) ?_
                    refine s_nil (q_then ?_)
                    refine c_f rfl rfl ?_
                    refine c_seq ?_
                    refine c_region ?_
                    refine s_p rfl (y_move rfl) ?_
                    refine s_p rfl (y_move rfl) ?_
                    replace H := ite_e H
                    rcases H with ⟨c_3, H⟩ | ⟨c_3, H⟩
                    · refine s_p rfl (yT (y_geq rfl rfl) c_3) ?_
                      refine s_p rfl (y_assign rfl) ?_
                      refine s_nil (q_then ?_)
                      refine c_seq ?_
                      refine c_region ?_
                      refine s_p rfl (y_move rfl) ?_
                      refine s_p rfl (y_move rfl) ?_
                      refine s_p rfl (y_add rfl rfl) ?_
                      refine s_p rfl (y_move rfl) ?_
                      refine s_p rfl (y_move rfl) ?_
                      refine s_p rfl (y_move rfl) ?_
                      refine s_call rfl rfl H fun rv Sx_11 H2 => ?_
                      clear H
                      obtain ⟨rfl, H⟩ := H2
                      refine s_nil (q_then ?_)
                      refine c_region ?_
                      refine s_p rfl (y_move rfl) ?_
                      refine s_p rfl (y_assign rfl) ?_
                      refine s_nil (q_blk ?_)
                      exact hXx (a_2, mid, limit_2, true, true) _ _ _ _ [] H rfl ⟨rfl, rfl, rfl, rfl, rfl, rfl, rfl, True.intro⟩ rfl
                    · refine s_p rfl (yF (y_geq rfl rfl) c_3) ?_
                      refine s_p rfl (y_assign rfl) ?_
                      refine s_nil (q_then ?_)
                      refine c_seq ?_
                      refine c_region ?_
                      refine s_p rfl (y_move rfl) ?_
                      refine s_p rfl (y_move rfl) ?_
                      refine s_p rfl (y_add rfl rfl) ?_
                      refine s_p rfl (y_move rfl) ?_
                      refine s_p rfl (y_move rfl) ?_
                      refine s_p rfl (y_move rfl) ?_
                      refine s_call rfl rfl H fun rv Sx_12 H2 => ?_
                      clear H
                      obtain ⟨rfl, H⟩ := H2
                      refine s_nil (q_then ?_)
                      refine c_region ?_
                      refine s_p rfl (y_move rfl) ?_
                      refine s_p rfl (y_assign rfl) ?_
                      refine s_nil (q_blk ?_)
                      exact hXx (a_2, mid, limit_2, false, true) _ _ _ _ [] H rfl ⟨rfl, rfl, rfl, rfl, rfl, rfl, rfl, True.intro⟩ rfl
                · refine s_p rfl (y_moveB rfl (bf_of c)) ?_
                  refine s_p rfl (y_assign rfl) ?_
                  refine s_nil (q_then ?_)
                  refine c_seq ?_
                  refine c_region ?_
                  refine s_p rfl (y_move rfl) ?_
                  refine s_p rfl (y_move rfl) ?_
                  refine s_p rfl (y_sub rfl rfl) ?_
                  refine s_p rfl (y_move rfl) ?_
                  refine s_p rfl (y_move rfl) ?_
                  refine s_p rfl (y_sub rfl rfl) ?_
                  refine s_p rfl (y_assign rfl) ?_
                  refine s_p rfl (y_assign rfl) ?_
                  refine s_nil (q_then ?_)
                  refine c_seq ?_
                  refine c_region ?_
                  refine s_p rfl (y_move rfl) ?_
                  refine s_p rfl (y_quo rfl rfl (by decide)) ?_
                  refine s_p rfl (y_assign rfl) ?_
                  refine s_nil (q_then ?_)
                  refine c_seq ?_
                  refine c_region ?_
                  refine s_p rfl (y_move rfl) ?_
                  refine s_p rfl (y_move rfl) ?_
                  replace H := ite_e H
                  rcases H with ⟨c_4, H⟩ | ⟨c_4, H⟩
                  · refine s_p rfl (yT (y_lss rfl rfl) c_4) ?_
                    refine s_nil (q_then ?_)
                    refine c_t rfl rfl ?_
                    refine c_seq ?_
                    refine c_region ?_
                    refine s_p rfl (y_move rfl) ?_
                    refine s_p rfl (y_move rfl) ?_
                    replace H := ite_e H
                    rcases H with ⟨c_5, H⟩ | ⟨c_5, H⟩
                    · refine s_p rfl (yT (y_geq rfl rfl) c_5) ?_
                      refine s_p rfl (y_assign rfl) ?_
                      refine s_nil (q_then ?_)
                      refine c_seq ?_
                      refine c_region ?_
                      refine s_p rfl (y_move rfl) ?_
                      refine s_p rfl (y_move rfl) ?_
                      refine s_p rfl (y_move rfl) ?_
                      refine s_p rfl (y_move rfl) ?_
                      refine s_p rfl (y_move rfl) ?_
                      refine s_call rfl rfl H fun rv Sx_13 H2 => ?_
                      clear H
                      obtain ⟨rfl, H⟩ := H2
                      refine s_nil (q_then ?_)
                      refine c_region ?_
                      refine s_p rfl (y_move rfl) ?_
                      refine s_p rfl (y_add rfl rfl) ?_
                      refine s_p rfl (y_assign rfl) ?_
                      refine s_nil (q_blk ?_)
                      exact hXx (IntKind.i64.wrap (mid + 1), b_1, limit_2, true, false) _ _ _ _ [] H rfl ⟨rfl, rfl, rfl, rfl, rfl, rfl, rfl, True.intro⟩ rfl
                    · refine s_p rfl (yF (y_geq rfl rfl) c_5) ?_
                      refine s_p rfl (y_assign rfl) ?_
                      refine s_nil (q_then ?_)
                      refine c_seq ?_
                      refine c_region ?_
                      refine s_p rfl (y_move rfl) ?_
                      refine s_p rfl (y_move rfl) ?_
                      refine s_p rfl (y_move rfl) ?_
                      refine s_p rfl (y_move rfl) ?_
                      refine s_p rfl (y_move rfl) ?_
                      refine s_call rfl rfl H fun rv Sx_14 H2 => ?_
                      clear H
                      obtain ⟨rfl, H⟩ := H2
                      refine s_nil (q_then ?_)
                      refine c_region ?_
                      refine s_p rfl (y_move rfl) ?_
                      refine s_p rfl (y_add rfl rfl) ?_
                      refine s_p rfl (y_assign rfl) ?_
                      refine s_nil (q_blk ?_)
                      exact hXx (IntKind.i64.wrap (mid + 1), b_1, limit_2, false, false) _ _ _ _ [] H rfl ⟨rfl, rfl, rfl, rfl, rfl, rfl, rfl, True.intro⟩ rfl
                  · refine s_p rfl (yF (y_lss rfl rfl) c_4) ?_
                    refine s_nil (q_then ?_)
                    refine c_f rfl rfl ?_
                    refine c_seq ?_
                    refine c_region ?_
                    refine s_p rfl (y_move rfl) ?_
                    refine s_p rfl (y_move rfl) ?_
                    replace H := ite_e H
                    rcases H with ⟨c_6, H⟩ | ⟨c_6, H⟩
                    · refine s_p rfl (yT (y_geq rfl rfl) c_6) ?_
                      refine s_p rfl (y_assign rfl) ?_
                      refine s_nil (q_then ?_)
                      refine c_seq ?_
                      refine c_region ?_
                      refine s_p rfl (y_move rfl) ?_
                      refine s_p rfl (y_move rfl) ?_
                      refine s_p rfl (y_add rfl rfl) ?_
                      refine s_p rfl (y_move rfl) ?_
                      refine s_p rfl (y_move rfl) ?_
                      refine s_p rfl (y_move rfl) ?_
                      refine s_call rfl rfl H fun rv Sx_15 H2 => ?_
                      clear H
                      obtain ⟨rfl, H⟩ := H2
                      refine s_nil (q_then ?_)
                      refine c_region ?_
                      refine s_p rfl (y_move rfl) ?_
                      refine s_p rfl (y_assign rfl) ?_
                      refine s_nil (q_blk ?_)
                      exact hXx (a_2, mid, limit_2, true, false) _ _ _ _ [] H rfl ⟨rfl, rfl, rfl, rfl, rfl, rfl, rfl, True.intro⟩ rfl
                    · refine s_p rfl (yF (y_geq rfl rfl) c_6) ?_
                      refine s_p rfl (y_assign rfl) ?_
                      refine s_nil (q_then ?_)
                      refine c_seq ?_
                      refine c_region ?_
                      refine s_p rfl (y_move rfl) ?_
                      refine s_p rfl (y_move rfl) ?_
                      refine s_p rfl (y_add rfl rfl) ?_
                      refine s_p rfl (y_move rfl) ?_
                      refine s_p rfl (y_move rfl) ?_
                      refine s_p rfl (y_move rfl) ?_
                      refine s_call rfl rfl H fun rv Sx_16 H2 => ?_
                      clear H
                      obtain ⟨rfl, H⟩ := H2
                      refine s_nil (q_then ?_)
                      refine c_region ?_
                      refine s_p rfl (y_move rfl) ?_
                      refine s_p rfl (y_assign rfl) ?_
                      refine s_nil (q_blk ?_)
                      exact hXx (a_2, mid, limit_2, false, false) _ _ _ _ [] H rfl ⟨rfl, rfl, rfl, rfl, rfl, rfl, rfl, True.intro⟩ rfl
              · clear H
                intro Jx hJx H
                refine c_region ?_
                refine s_p rfl (y_move rfl) ?_
                refine s_p rfl (y_move rfl) ?_
                refine s_p rfl (y_move rfl) ?_
                refine s_p rfl (y_move rfl) ?_
                refine s_p rfl (y_move rfl) ?_
                refine s_call rfl rfl H fun rv Sx_17 H2 => ?_
                clear H
                obtain ⟨t_2, t_3, rfl, H⟩ := H2
                refine s_p rfl (y_move rfl) ?_
                refine s_p rfl (y_extract rfl rfl) ?_
                replace H := ite_e H
                rcases H with ⟨c_7, H⟩ | ⟨c_7, H⟩
                · refine s_p rfl (yB (y_extract rfl rfl) c_7) ?_
                  refine s_p rfl (y_assign rfl) ?_
                  refine s_p rfl (y_assign rfl) ?_
                  refine s_nil ?_
                  exact hJx (t_2, true) _ _ _ _ [] H rfl ⟨rfl, rfl, rfl, rfl, rfl, rfl, rfl, rfl, True.intro⟩ rfl
                · refine s_p rfl (yB (y_extract rfl rfl) (bf_of c_7)) ?_
                  refine s_p rfl (y_assign rfl) ?_
                  refine s_p rfl (y_assign rfl) ?_
                  refine s_nil ?_
                  exact hJx (t_2, false) _ _ _ _ [] H rfl ⟨rfl, rfl, rfl, rfl, rfl, rfl, rfl, rfl, True.intro⟩ rfl
            · clear H
              intro Jx_1 hJx_1 H
              refine c_seq ?_
              refine c_drawn (by kernel_rfl) ?_
              refine a_takeP 0 rfl (by decide +kernel) (np_then (np_then (np_blk (np_then (np_blk np_body))))) rfl (y_move rfl) ?_
              replace H := ite_e H
              rcases H with ⟨c_8, H⟩ | ⟨c_8, H⟩
              · refine a_takeP 1 rfl (by decide +kernel) (np_then (np_then (np_blk (np_then (np_blk np_body))))) rfl (yT (y_gtr rfl rfl) c_8) ?_
                refine a_takeP 2 rfl (by decide +kernel) (np_then (np_then (np_blk (np_then (np_blk np_body))))) rfl (y_move rfl) ?_
                refine a_takeP 3 rfl (by decide +kernel) (np_then (np_then (np_blk (np_then (np_blk np_body))))) rfl (y_move rfl) ?_
                refine a_takeP 4 rfl (by decide +kernel) (np_then (np_then (np_blk (np_then (np_blk np_body))))) rfl (y_move rfl) ?_
                refine a_takeP 5 rfl (by decide +kernel) (np_then (np_then (np_blk (np_then (np_blk np_body))))) rfl (y_move rfl) ?_
                refine a_takeP 6 rfl (by decide +kernel) (np_then (np_then (np_blk (np_then (np_blk np_body))))) rfl (y_sub rfl rfl) ?_
                obtain ⟨b_2, o, n, n_1, rfl, H⟩ := H
                obtain ⟨c_9, c_10, H⟩ := H
                refine a_takeP 7 rfl (by decide +kernel) (np_then (np_then (np_blk (np_then (np_blk np_body))))) rfl (y_ixL rfl rfl c_9 c_10 rfl) ?_
                obtain ⟨t_4, ht_4, H⟩ := H
                refine a_take 8 rfl (by decide +kernel) (np_then (np_then (np_blk (np_then (np_blk np_body))))) rfl (y_ldA rfl (part_len ht_4)) (hc_SP ht_4) ?_
                refine a_takeP 9 rfl (by decide +kernel) (np_then (np_then (np_blk (np_then (np_blk np_body))))) rfl (y_move rfl) ?_
                refine a_takeP 10 rfl (by decide +kernel) (np_then (np_then (np_blk (np_then (np_blk np_body))))) rfl (y_move rfl) ?_
                obtain ⟨c_11, c_12, H⟩ := H
                refine a_takeP 11 rfl (by decide +kernel) (np_then (np_then (np_blk (np_then (np_blk np_body))))) rfl (y_ixL rfl rfl c_11 c_12 rfl) ?_
                obtain ⟨t_5, ht_5, H⟩ := H
                refine a_take 12 rfl (by decide +kernel) (np_then (np_then (np_blk (np_then (np_blk np_body))))) rfl (y_ldA rfl (part_len ht_5)) (hc_SP ht_5) ?_
                refine a_step 13 (by decide +kernel) rfl ?_
                refine s_cv rfl rfl rfl H fun rv Sx_18 H2 => ?_
                clear H
                obtain ⟨t_6, rfl, H⟩ := H2
                refine s_nil (q_any ac_nil ?_)
                replace H := ite_e H
                rcases H with ⟨c_13, H⟩ | ⟨c_13, H⟩
                · refine a_takeP 14 rfl (by decide +kernel) (np_then (np_then (np_blk (np_then (np_blk np_body))))) rfl (yT (y_lss rfl rfl) c_13) ?_
                  refine a_takeP 15 rfl (by decide +kernel) (np_then (np_then (np_blk (np_then (np_blk np_body))))) rfl (yB (y_not rfl) rfl) ?_
                  refine a_takeP 16 rfl (by decide +kernel) (np_then (np_then (np_blk (np_then (np_blk np_body))))) rfl (y_pick rfl rfl) ?_
                  refine a_done (by decide +kernel) ?_
                  refine q_then ?_
                  refine c_f rfl rfl ?_
                  refine c_skip ?_
                  exact hJx_1 a_1 _ _ _ _ [] H rfl ⟨rfl, rfl, rfl, rfl, rfl, rfl, rfl, True.intro⟩ rfl
                · refine a_takeP 14 rfl (by decide +kernel) (np_then (np_then (np_blk (np_then (np_blk np_body))))) rfl (yF (y_lss rfl rfl) c_13) ?_
                  refine a_takeP 15 rfl (by decide +kernel) (np_then (np_then (np_blk (np_then (np_blk np_body))))) rfl (yB (y_not rfl) rfl) ?_
                  refine a_takeP 16 rfl (by decide +kernel) (np_then (np_then (np_blk (np_then (np_blk np_body))))) rfl (y_pick rfl rfl) ?_
                  refine a_done (by decide +kernel) ?_
                  refine q_then ?_
                  refine c_t rfl rfl ?_
                  refine c_seq ?_
                  refine c_region ?_
                  refine s_p rfl (y_move rfl) ?_
                  refine s_p rfl (y_move rfl) ?_
                  refine s_p rfl (y_move rfl) ?_
                  refine s_p rfl (y_move rfl) ?_
                  refine s_p rfl (y_move rfl) ?_
                  refine s_call rfl rfl H fun rv Sx_19 H2 => ?_
                  clear H
                  obtain ⟨t_7, rfl, H⟩ := H2
                  refine s_p rfl (y_assign rfl) ?_
                  refine s_nil (q_then ?_)
                  refine c_seq ?_
                  refine c_region ?_
                  refine s_p rfl (y_move rfl) ?_
                  refine s_p rfl (y_assign rfl) ?_
                  refine s_nil (q_then ?_)
                  refine c_exit (q_then_exit (q_blk_out ?_))
                  exact hXx (t_7, b_1, limit_2, wasBalanced, wasPartitioned) _ _ _ _ [] H rfl ⟨rfl, rfl, rfl, rfl, rfl, rfl, rfl, True.intro⟩ rfl
              · refine a_takeP 1 rfl (by decide +kernel) (np_then (np_then (np_blk (np_then (np_blk np_body))))) rfl (yF (y_gtr rfl rfl) c_8) ?_
                refine a_takeP 2 rfl (by decide +kernel) (np_then (np_then (np_blk (np_then (np_blk np_body))))) rfl (y_move rfl) ?_
                refine a_skip 3 rfl (by decide +kernel) (np_then (np_then (np_blk (np_then (np_blk np_body))))) rfl ?_
                refine a_skip 4 rfl (by decide +kernel) (np_then (np_then (np_blk (np_then (np_blk np_body))))) rfl ?_
                refine a_skip 5 rfl (by decide +kernel) (np_then (np_then (np_blk (np_then (np_blk np_body))))) rfl ?_
                refine a_skip 6 rfl (by decide +kernel) (np_then (np_then (np_blk (np_then (np_blk np_body))))) rfl ?_
                refine a_skip 7 rfl (by decide +kernel) (np_then (np_then (np_blk (np_then (np_blk np_body))))) rfl ?_
                refine a_skip 8 rfl (by decide +kernel) (np_then (np_then (np_blk (np_then (np_blk np_body))))) rfl ?_
                refine a_skip 9 rfl (by decide +kernel) (np_then (np_then (np_blk (np_then (np_blk np_body))))) rfl ?_
                refine a_skip 10 rfl (by decide +kernel) (np_then (np_then (np_blk (np_then (np_blk np_body))))) rfl ?_
                refine a_skip 11 rfl (by decide +kernel) (np_then (np_then (np_blk (np_then (np_blk np_body))))) rfl ?_
                refine a_skip 12 rfl (by decide +kernel) (np_then (np_then (np_blk (np_then (np_blk np_body))))) rfl ?_
                refine a_skip 13 rfl (by decide +kernel) (np_then (np_then (np_blk (np_then (np_blk np_body))))) rfl ?_
                refine a_skip 14 rfl (by decide +kernel) (np_then (np_then (np_blk (np_then (np_blk np_body))))) rfl ?_
                refine a_skip 15 rfl (by decide +kernel) (np_then (np_then (np_blk (np_then (np_blk np_body))))) rfl ?_
                refine a_takeP 16 rfl (by decide +kernel) (np_then (np_then (np_blk (np_then (np_blk np_body))))) rfl (y_pick rfl rfl) ?_
                refine a_done (by decide +kernel) ?_
                refine q_then ?_
                refine c_f rfl rfl ?_
                refine c_skip ?_
                exact hJx_1 a_1 _ _ _ _ [] H rfl ⟨rfl, rfl, rfl, rfl, rfl, rfl, rfl, True.intro⟩ rfl
          · clear H
            intro Jx_2 hJx_2 H
            refine c_seq ?_
            refine c_region ?_
            replace H := ite_e H
            rcases H with ⟨c_14, H⟩ | ⟨c_14, H⟩
            · refine s_p rfl (y_moveB rfl c_14) ?_
              refine s_p rfl (y_move rfl) ?_
              replace H := ite_e H
              rcases H with ⟨c_15, H⟩ | ⟨c_15, H⟩
              · refine s_p rfl (y_moveB rfl c_15) ?_
                refine s_p rfl (y_pick rfl rfl) ?_
                refine s_p rfl (y_move rfl) ?_
                refine s_p rfl (y_move rfl) ?_
                replace H := ite_e H
                rcases H with ⟨c_16, H⟩ | ⟨c_16, H⟩
                · refine s_p rfl (yT (y_eql rfl rfl) c_16) ?_
                  refine s_p rfl (y_pick rfl rfl) ?_
                  refine s_nil (q_then ?_)
                  refine c_t rfl rfl ?_
                  refine c_seq ?_
                  refine c_region ?_
                  refine s_p rfl (y_move rfl) ?_
                  refine s_p rfl (y_move rfl) ?_
                  refine s_p rfl (y_move rfl) ?_
                  refine s_p rfl (y_move rfl) ?_
                  refine s_call rfl rfl H fun rv Sx_20 H2 => ?_
                  clear H
                  obtain ⟨t_8, rfl, H⟩ := H2
                  replace H := ib_e H
                  rcases H with ⟨rfl, H⟩ | ⟨rfl, H⟩
                  · skip
                    refine s_nil (q_then ?_)
                    refine c_t rfl rfl ?_
                    refine c_ret (q_then_ret (q_blk_ret (q_then_ret (q_blk_ret ?_))))
                    exact q_ret Try.results75 (rv_nil) ⟨rfl, H⟩
                  · skip
                    refine s_nil (q_then ?_)
                    refine c_f rfl rfl ?_
                    refine c_skip ?_
                    exact hJx_2 () _ _ _ _ [] H rfl ⟨rfl, rfl, rfl, rfl, rfl, rfl, rfl, rfl, rfl, True.intro⟩ rfl
                · refine s_p rfl (yF (y_eql rfl rfl) c_16) ?_
                  refine s_p rfl (y_pick rfl rfl) ?_
                  refine s_nil (q_then ?_)
                  refine c_f rfl rfl ?_
                  refine c_skip ?_
                  exact hJx_2 () _ _ _ _ [] H rfl ⟨rfl, rfl, rfl, rfl, rfl, rfl, rfl, rfl, rfl, True.intro⟩ rfl
              · refine s_p rfl (y_moveB rfl (bf_of c_15)) ?_
                refine s_p rfl (y_pick rfl rfl) ?_
                refine s_p rfl (y_move rfl) ?_
                refine s_skip rfl ?_
                refine s_skip rfl ?_
                refine s_p rfl (y_pick rfl rfl) ?_
                refine s_nil (q_then ?_)
                refine c_f rfl rfl ?_
                refine c_skip ?_
                exact hJx_2 () _ _ _ _ [] H rfl ⟨rfl, rfl, rfl, rfl, rfl, rfl, rfl, rfl, rfl, True.intro⟩ rfl
            · refine s_p rfl (y_moveB rfl (bf_of c_14)) ?_
              refine s_p rfl (y_move rfl) ?_
              refine s_skip rfl ?_
              refine s_p rfl (y_pick rfl rfl) ?_
              refine s_p rfl (y_move rfl) ?_
              refine s_skip rfl ?_
              refine s_skip rfl ?_
              refine s_p rfl (y_pick rfl rfl) ?_
              refine s_nil (q_then ?_)
              refine c_f rfl rfl ?_
              refine c_skip ?_
              exact hJx_2 () _ _ _ _ [] H rfl ⟨rfl, rfl, rfl, rfl, rfl, rfl, rfl, rfl, rfl, True.intro⟩ rfl
        · clear H
          intro Jx_3 hJx_3 H
          refine c_seq ?_
          refine c_region ?_
          refine s_p rfl (y_move rfl) ?_
          replace H := ite_e H
          rcases H with ⟨c_17, H⟩ | ⟨c_17, H⟩
          · refine s_p rfl (yT (y_eql rfl rfl) c_17) ?_
            refine s_nil (q_then ?_)
            refine c_t rfl rfl ?_
            refine c_seq ?_
            refine c_region ?_
            refine s_p rfl (y_move rfl) ?_
            refine s_p rfl (y_move rfl) ?_
            refine s_p rfl (y_move rfl) ?_
            refine s_p rfl (y_move rfl) ?_
            refine s_call rfl rfl H fun rv Sx_21 H2 => ?_
            clear H
            obtain ⟨rfl, H⟩ := H2
            refine s_nil (q_then ?_)
            refine c_seq ?_
            refine c_region ?_
            refine s_p rfl (y_move rfl) ?_
            refine s_p rfl (y_sub rfl rfl) ?_
            refine s_p rfl (y_move rfl) ?_
            refine s_p rfl (y_move rfl) ?_
            refine s_p rfl (y_sub rfl rfl) ?_
            refine s_p rfl (y_sub rfl rfl) ?_
            refine s_p rfl (y_assign rfl) ?_
            refine s_nil (q_then ?_)
            refine c_region ?_
            refine s_p rfl (y_assign rfl) ?_
            refine s_nil ?_
            exact hJx_3 (IntKind.i64.wrap ((IntKind.i64.wrap (b_1 - 1)) - (IntKind.i64.wrap (t - a_1))), 1) _ _ _ _ [] H rfl ⟨rfl, rfl, rfl, rfl, rfl, rfl, rfl, rfl, rfl, rfl, True.intro⟩ rfl
          · refine s_p rfl (yF (y_eql rfl rfl) c_17) ?_
            refine s_nil (q_then ?_)
            refine c_f rfl rfl ?_
            refine c_skip ?_
            exact hJx_3 (t, t_1) _ _ _ _ [] H rfl ⟨rfl, rfl, rfl, rfl, rfl, rfl, rfl, rfl, rfl, rfl, True.intro⟩ rfl
      · clear H
        intro Jx_4 hJx_4 H
        refine c_seq ?_
        refine c_region ?_
        replace H := ite_e H
        rcases H with ⟨c_18, H⟩ | ⟨c_18, H⟩
        · refine s_p rfl (y_moveB rfl c_18) ?_
          refine s_p rfl (yB (y_not rfl) rfl) ?_
          refine s_nil (q_then ?_)
          refine c_f rfl rfl ?_
          refine c_skip ?_
          exact hJx_4 limit_1 _ _ _ _ [] H rfl ⟨rfl, rfl, rfl, rfl, rfl, rfl, rfl, rfl, True.intro⟩ rfl
        · refine s_p rfl (y_moveB rfl (bf_of c_18)) ?_
          refine s_p rfl (yB (y_not rfl) rfl) ?_
          refine s_nil (q_then ?_)
          refine c_t rfl rfl ?_
          refine c_seq ?_
          refine c_region ?_
          refine s_p rfl (y_move rfl) ?_
          refine s_p rfl (y_move rfl) ?_
          refine s_p rfl (y_move rfl) ?_
          refine s_p rfl (y_move rfl) ?_
          refine s_call rfl rfl H fun rv Sx_22 H2 => ?_
          clear H
          obtain ⟨rfl, H⟩ := H2
          refine s_nil (q_then ?_)
          refine c_region ?_
          refine s_p rfl (y_move rfl) ?_
          refine s_p rfl (y_sub rfl rfl) ?_
          refine s_p rfl (y_assign rfl) ?_
          refine s_nil ?_
          exact hJx_4 (IntKind.i64.wrap (limit_1 - 1)) _ _ _ _ [] H rfl ⟨rfl, rfl, rfl, rfl, rfl, rfl, rfl, rfl, True.intro⟩ rfl
    · clear H
      intro Jx_5 hJx_5 H
      refine c_seq ?_
      refine c_region ?_
      refine s_p rfl (y_move rfl) ?_
      replace H := ite_e H
      rcases H with ⟨c_19, H⟩ | ⟨c_19, H⟩
      · refine s_p rfl (yT (y_eql rfl rfl) c_19) ?_
        refine s_nil (q_then ?_)
        refine c_t rfl rfl ?_
        refine c_seq ?_
        refine c_region ?_
        refine s_p rfl (y_move rfl) ?_
        refine s_p rfl (y_move rfl) ?_
        refine s_p rfl (y_move rfl) ?_
        refine s_p rfl (y_move rfl) ?_
        refine s_call rfl rfl H fun rv Sx_23 H2 => ?_
        clear H
        obtain ⟨rfl, H⟩ := H2
        refine s_nil (q_then ?_)
        refine c_ret (q_then_ret (q_blk_ret (q_then_ret (q_blk_ret ?_))))
        exact q_ret Try.results75 (rv_nil) ⟨rfl, H⟩
      · refine s_p rfl (yF (y_eql rfl rfl) c_19) ?_
        refine s_nil (q_then ?_)
        refine c_f rfl rfl ?_
        refine c_skip ?_
        exact hJx_5 () _ _ _ _ [] H rfl ⟨rfl, rfl, rfl, rfl, rfl, rfl, rfl, rfl, True.intro⟩ rfl
  · clear H
    intro Jx_6 hJx_6 H
    refine c_seq ?_
    refine c_region ?_
    refine s_p rfl (y_move rfl) ?_
    replace H := ite_e H
    rcases H with ⟨c_20, H⟩ | ⟨c_20, H⟩
    · refine s_p rfl (yT (y_leq rfl rfl) c_20) ?_
      refine s_nil (q_then ?_)
      refine c_t rfl rfl ?_
      refine c_seq ?_
      refine c_region ?_
      refine s_p rfl (y_move rfl) ?_
      refine s_p rfl (y_move rfl) ?_
      refine s_p rfl (y_move rfl) ?_
      refine s_p rfl (y_move rfl) ?_
      refine s_call rfl rfl H fun rv Sx_24 H2 => ?_
      clear H
      obtain ⟨rfl, H⟩ := H2
      refine s_nil (q_then ?_)
      refine c_ret (q_then_ret (q_blk_ret (q_then_ret (q_blk_ret ?_))))
      exact q_ret Try.results75 (rv_nil) ⟨rfl, H⟩
    · refine s_p rfl (yF (y_leq rfl rfl) c_20) ?_
      refine s_nil (q_then ?_)
      refine c_f rfl rfl ?_
      refine c_skip ?_
      exact hJx_6 () _ _ _ _ [] H rfl ⟨rfl, rfl, rfl, rfl, rfl, rfl, rfl, rfl, True.intro⟩ rfl
def b_bits_Len (S : Mem) (x : Int) (Q : Int → Mem → Prop) : Prop :=
  bits_Len64 S x fun t Sx =>
  Q t Sx
theorem t_bits_Len {S : Mem} {x : Int} {Q : Int → Mem → Prop} (H : b_bits_Len S x Q) : bits_Len S x Q := by
  unfold b_bits_Len at H
  refine Tr.intro Try.func76 rfl Try.ntmps76 rfl fun w0 => ?_
  refine c_seq ?_
  refine c_region ?_
  refine s_p rfl (y_assign rfl) ?_
  refine s_nil (q_then ?_)
  refine c_seq ?_
  refine c_f rfl rfl ?_
  refine c_skip (q_then ?_)
  refine c_seq ?_
  refine c_region ?_
  refine s_p rfl (y_move rfl) ?_
  refine s_call rfl rfl H fun rv Sx H2 => ?_
  clear H
  obtain ⟨t, rfl, H⟩ := H2
  refine s_p rfl (y_assign rfl) ?_
  refine s_nil (q_then ?_)
  refine c_ret ?_
  exact q_ret Try.results76 (rv_tmp rfl rv_nil) ⟨_, rfl, H⟩
def b_slices_insertionSortCmpFunc_alarm_Alarm (S : Mem) (data : Sl) (a : Int) (b : Int) (cmp : Value) (Q : Mem → Prop) : Prop :=
  lp (fun Xx (i : Int) (Sx : Mem) =>
      jn (fun (Sx_1 : Mem) =>
          jn (fun (Sx_2 : Mem) =>
              Xx (IntKind.i64.wrap (i + 1)) Sx_2) fun Jx =>
          lp (fun Xx_1 (j : Int) (Sx_3 : Mem) =>
              jn (fun (Sx_4 : Mem) =>
                  sl data fun b_1 o n n_1 =>
                  0 ≤ IntKind.i64.wrap (j - 1) ∧ IntKind.i64.wrap (j - 1) < ((n : Nat) : Int) ∧
                  gA (Sx_4.part b_1 (o + (IntKind.i64.wrap (j - 1)).toNat * 3) 3) fun t =>
                  0 ≤ j ∧ j < ((n : Nat) : Int) ∧
                  gA (Sx_4.part b_1 (o + j.toNat * 3) 3) fun t_1 =>
                  0 ≤ j ∧ j < ((n : Nat) : Int) ∧
                  t.all (·.oneCell') = true ∧
                  pt Sx_4 b_1 (o + j.toNat * 3) 3 t fun Sx_5 =>
                  0 ≤ IntKind.i64.wrap (j - 1) ∧ IntKind.i64.wrap (j - 1) < ((n : Nat) : Int) ∧
                  t_1.all (·.oneCell') = true ∧
                  pt Sx_5 b_1 (o + (IntKind.i64.wrap (j - 1)).toNat * 3) 3 t_1 fun Sx_6 =>
                  Xx_1 (IntKind.i64.wrap (j - 1)) Sx_6) fun Jx_1 =>
              if a < j then
                sl data fun b_2 o_1 n_2 n_3 =>
                0 ≤ j ∧ j < ((n_2 : Nat) : Int) ∧
                gA (Sx_3.part b_2 (o_1 + j.toNat * 3) 3) fun t_2 =>
                0 ≤ IntKind.i64.wrap (j - 1) ∧ IntKind.i64.wrap (j - 1) < ((n_2 : Nat) : Int) ∧
                gA (Sx_3.part b_2 (o_1 + (IntKind.i64.wrap (j - 1)).toNat * 3) 3) fun t_3 =>
                cv Try.prog Sx_3 cmp [valL t_2, valL t_3] fun rv Sx_7 => ∃ t_4 : Int, rv = .int .i64 t_4 ∧ 
                if t_4 < 0 then
                  Jx_1 Sx_7
                else
                Jx Sx_7
              else
              Jx Sx_3) i Sx_1) fun Jx_2 =>
      if i < b then
        Jx_2 Sx
      else
      Q Sx) (IntKind.i64.wrap (a + 1)) S
theorem t_slices_insertionSortCmpFunc_alarm_Alarm {S : Mem} {data : Sl} {a : Int} {b : Int} {cmp : Value} {Q : Mem → Prop} (H : b_slices_insertionSortCmpFunc_alarm_Alarm S data a b cmp Q) : slices_insertionSortCmpFunc_alarm_Alarm S data a b cmp Q := by
  unfold b_slices_insertionSortCmpFunc_alarm_Alarm at H
  refine Tr.intro Try.func78 rfl Try.ntmps78 rfl fun w0 => ?_
  refine c_seq ?_
  refine c_region ?_
  refine s_p rfl (y_move rfl) ?_
  refine s_p rfl (y_add rfl rfl) ?_
  refine s_p rfl (y_assign rfl) ?_
  refine s_nil (q_then ?_)
  refine c_block ?_
  refine c_loop (fun z => ⟨53, [(0, eL data), (1, .int .i64 a), (2, .int .i64 b), (3, cmp), (8, .int .i64 z)]⟩) (fun z => []) (IntKind.i64.wrap (a + 1)) (idx := []) H rfl ⟨rfl, rfl, rfl, rfl, rfl, True.intro⟩ rfl ?_
  clear H
  rintro Xx hXx i Sx H
  refine c_join2 H (fun (J : Mem → Prop) (z : Unit) S => J S) (fun z => ⟨53, [(0, eL data), (1, .int .i64 a), (2, .int .i64 b), (3, cmp), (8, .int .i64 i)]⟩) (fun z => []) ?_ ?_
  · clear H
    rintro _ Sx_1 H
    refine c_join2 H (fun (J : Mem → Prop) (z : Unit) S => J S) (fun z => ⟨53, [(0, eL data), (1, .int .i64 a), (2, .int .i64 b), (3, cmp), (8, .int .i64 i)]⟩) (fun z => []) ?_ ?_
    · clear H
      rintro _ Sx_2 H
      refine c_region ?_
      refine s_p rfl (y_move rfl) ?_
      refine s_p rfl (y_add rfl rfl) ?_
      refine s_p rfl (y_assign rfl) ?_
      refine s_nil ?_
      exact hXx (IntKind.i64.wrap (i + 1)) _ _ _ _ [] H rfl ⟨rfl, rfl, rfl, rfl, rfl, True.intro⟩ rfl
    · clear H
      intro Jx hJx H
      refine c_block ?_
      refine c_seq ?_
      refine c_region ?_
      refine s_p rfl (y_move rfl) ?_
      refine s_p rfl (y_assign rfl) ?_
      refine s_nil (q_then ?_)
      refine c_block ?_
      refine c_loop (fun z => ⟨53, [(0, eL data), (1, .int .i64 a), (2, .int .i64 b), (3, cmp), (8, .int .i64 i), (9, .int .i64 z)]⟩) (fun z => []) i (idx := []) H rfl ⟨rfl, rfl, rfl, rfl, rfl, rfl, True.intro⟩ rfl ?_
      clear H
      rintro Xx_1 hXx_1 j Sx_3 H
      refine c_join2 H (fun (J : Mem → Prop) (z : Unit) S => J S) (fun z => ⟨53, [(0, eL data), (1, .int .i64 a), (2, .int .i64 b), (3, cmp), (8, .int .i64 i), (9, .int .i64 j)]⟩) (fun z => []) ?_ ?_
      · clear H
        rintro _ Sx_4 H
        refine c_seq ?_
        refine c_block ?_
        refine c_drawn (by kernel_rfl) ?_
        refine a_takeP 0 rfl (by decide +kernel) (np_blk (np_then (np_then (np_blk (np_blk (np_then (np_then (np_blk np_body)))))))) rfl (y_move rfl) ?_
        refine a_takeP 1 rfl (by decide +kernel) (np_blk (np_then (np_then (np_blk (np_blk (np_then (np_then (np_blk np_body)))))))) rfl (y_move rfl) ?_
        refine a_takeP 2 rfl (by decide +kernel) (np_blk (np_then (np_then (np_blk (np_blk (np_then (np_then (np_blk np_body)))))))) rfl (y_move rfl) ?_
        refine a_takeP 3 rfl (by decide +kernel) (np_blk (np_then (np_then (np_blk (np_blk (np_then (np_then (np_blk np_body)))))))) rfl (y_move rfl) ?_
        refine a_takeP 4 rfl (by decide +kernel) (np_blk (np_then (np_then (np_blk (np_blk (np_then (np_then (np_blk np_body)))))))) rfl (y_sub rfl rfl) ?_
        refine a_takeP 5 rfl (by decide +kernel) (np_blk (np_then (np_then (np_blk (np_blk (np_then (np_then (np_blk np_body)))))))) rfl (y_move rfl) ?_
        refine a_takeP 6 rfl (by decide +kernel) (np_blk (np_then (np_then (np_blk (np_blk (np_then (np_then (np_blk np_body)))))))) rfl (y_move rfl) ?_
        refine a_takeP 7 rfl (by decide +kernel) (np_blk (np_then (np_then (np_blk (np_blk (np_then (np_then (np_blk np_body)))))))) rfl (y_sub rfl rfl) ?_
        obtain ⟨b_1, o, n, n_1, rfl, H⟩ := H
        obtain ⟨c, c_1, H⟩ := H
        refine a_takeP 8 rfl (by decide +kernel) (np_blk (np_then (np_then (np_blk (np_blk (np_then (np_then (np_blk np_body)))))))) rfl (y_ixL rfl rfl c c_1 rfl) ?_
        obtain ⟨t, ht, H⟩ := H
        refine a_take 9 rfl (by decide +kernel) (np_blk (np_then (np_then (np_blk (np_blk (np_then (np_then (np_blk np_body)))))))) rfl (y_ldA rfl (part_len ht)) (hc_SP ht) ?_
        refine a_takeP 10 rfl (by decide +kernel) (np_blk (np_then (np_then (np_blk (np_blk (np_then (np_then (np_blk np_body)))))))) rfl (y_move rfl) ?_
        refine a_takeP 11 rfl (by decide +kernel) (np_blk (np_then (np_then (np_blk (np_blk (np_then (np_then (np_blk np_body)))))))) rfl (y_move rfl) ?_
        obtain ⟨c_2, c_3, H⟩ := H
        refine a_takeP 12 rfl (by decide +kernel) (np_blk (np_then (np_then (np_blk (np_blk (np_then (np_then (np_blk np_body)))))))) rfl (y_ixL rfl rfl c_2 c_3 rfl) ?_
        obtain ⟨t_1, ht_1, H⟩ := H
        refine a_take 13 rfl (by decide +kernel) (np_blk (np_then (np_then (np_blk (np_blk (np_then (np_then (np_blk np_body)))))))) rfl (y_ldA rfl (part_len ht_1)) (hc_SP ht_1) ?_
        obtain ⟨c_4, c_5, H⟩ := H
        refine a_takeP 14 rfl (by decide +kernel) (np_blk (np_then (np_then (np_blk (np_blk (np_then (np_then (np_blk np_body)))))))) rfl (y_ixL rfl rfl c_4 c_5 rfl) ?_
        refine a_step 15 (by decide +kernel) rfl ?_
        obtain ⟨c_6, H⟩ := H
        obtain ⟨c_7, H⟩ := H
        refine s_stS rfl rfl rfl rfl (part_len ht) c_7 c_6 ?_
        refine s_nil (q_any ac_nil ?_)
        obtain ⟨c_8, c_9, H⟩ := H
        refine a_takeP 16 rfl (by decide +kernel) (np_blk (np_then (np_then (np_blk (np_blk (np_then (np_then (np_blk np_body)))))))) rfl (y_ixL rfl rfl c_8 c_9 rfl) ?_
        refine a_step 17 (by decide +kernel) rfl ?_
        obtain ⟨c_10, H⟩ := H
        obtain ⟨c_11, H⟩ := H
        refine s_stS rfl rfl rfl rfl (part_len ht_1) c_11 c_10 ?_
        refine s_nil (q_any ac_nil ?_)
        refine a_done (by decide +kernel) ?_
        refine q_blk (q_then ?_)
        refine c_region ?_
        refine s_p rfl (y_move rfl) ?_
        refine s_p rfl (y_sub rfl rfl) ?_
        refine s_p rfl (y_assign rfl) ?_
        refine s_nil ?_
        exact hXx_1 (IntKind.i64.wrap (j - 1)) _ _ _ _ [] H rfl ⟨rfl, rfl, rfl, rfl, rfl, rfl, True.intro⟩ rfl
      · clear H
        intro Jx_1 hJx_1 H
        refine c_seq ?_
        refine c_drawn (by kernel_rfl) ?_
        refine a_takeP 0 rfl (by decide +kernel) (np_then (np_then (np_then (np_blk (np_blk (np_then (np_then (np_blk np_body)))))))) rfl (y_move rfl) ?_
        refine a_takeP 1 rfl (by decide +kernel) (np_then (np_then (np_then (np_blk (np_blk (np_then (np_then (np_blk np_body)))))))) rfl (y_move rfl) ?_
        replace H := ite_e H
        rcases H with ⟨c_12, H⟩ | ⟨c_12, H⟩
        · refine a_takeP 2 rfl (by decide +kernel) (np_then (np_then (np_then (np_blk (np_blk (np_then (np_then (np_blk np_body)))))))) rfl (yT (y_gtr rfl rfl) c_12) ?_
          refine a_takeP 3 rfl (by decide +kernel) (np_then (np_then (np_then (np_blk (np_blk (np_then (np_then (np_blk np_body)))))))) rfl (y_move rfl) ?_
          refine a_takeP 4 rfl (by decide +kernel) (np_then (np_then (np_then (np_blk (np_blk (np_then (np_then (np_blk np_body)))))))) rfl (y_move rfl) ?_
          refine a_takeP 5 rfl (by decide +kernel) (np_then (np_then (np_then (np_blk (np_blk (np_then (np_then (np_blk np_body)))))))) rfl (y_move rfl) ?_
          refine a_takeP 6 rfl (by decide +kernel) (np_then (np_then (np_then (np_blk (np_blk (np_then (np_then (np_blk np_body)))))))) rfl (y_move rfl) ?_
          obtain ⟨b_2, o_1, n_2, n_3, rfl, H⟩ := H
          obtain ⟨c_13, c_14, H⟩ := H
          refine a_takeP 7 rfl (by decide +kernel) (np_then (np_then (np_then (np_blk (np_blk (np_then (np_then (np_blk np_body)))))))) rfl (y_ixL rfl rfl c_13 c_14 rfl) ?_
          obtain ⟨t_2, ht_2, H⟩ := H
          refine a_take 8 rfl (by decide +kernel) (np_then (np_then (np_then (np_blk (np_blk (np_then (np_then (np_blk np_body)))))))) rfl (y_ldA rfl (part_len ht_2)) (hc_SP ht_2) ?_
          refine a_takeP 9 rfl (by decide +kernel) (np_then (np_then (np_then (np_blk (np_blk (np_then (np_then (np_blk np_body)))))))) rfl (y_move rfl) ?_
          refine a_takeP 10 rfl (by decide +kernel) (np_then (np_then (np_then (np_blk (np_blk (np_then (np_then (np_blk np_body)))))))) rfl (y_move rfl) ?_
          refine a_takeP 11 rfl (by decide +kernel) (np_then (np_then (np_then (np_blk (np_blk (np_then (np_then (np_blk np_body)))))))) rfl (y_sub rfl rfl) ?_
          obtain ⟨c_15, c_16, H⟩ := H
          refine a_takeP 12 rfl (by decide +kernel) (np_then (np_then (np_then (np_blk (np_blk (np_then (np_then (np_blk np_body)))))))) rfl (y_ixL rfl rfl c_15 c_16 rfl) ?_
          obtain ⟨t_3, ht_3, H⟩ := H
          refine a_take 13 rfl (by decide +kernel) (np_then (np_then (np_then (np_blk (np_blk (np_then (np_then (np_blk np_body)))))))) rfl (y_ldA rfl (part_len ht_3)) (hc_SP ht_3) ?_
          refine a_step 14 (by decide +kernel) rfl ?_
          refine s_cv rfl rfl rfl H fun rv Sx_7 H2 => ?_
          clear H
          obtain ⟨t_4, rfl, H⟩ := H2
          refine s_nil (q_any ac_nil ?_)
          replace H := ite_e H
          rcases H with ⟨c_17, H⟩ | ⟨c_17, H⟩
          · refine a_takeP 15 rfl (by decide +kernel) (np_then (np_then (np_then (np_blk (np_blk (np_then (np_then (np_blk np_body)))))))) rfl (yT (y_lss rfl rfl) c_17) ?_
            refine a_takeP 16 rfl (by decide +kernel) (np_then (np_then (np_then (np_blk (np_blk (np_then (np_then (np_blk np_body)))))))) rfl (y_pick rfl rfl) ?_
            refine a_done (by decide +kernel) ?_
            refine q_then ?_
            refine c_t rfl rfl ?_
            refine c_skip ?_
            exact hJx_1 () _ _ _ _ [] H rfl ⟨rfl, rfl, rfl, rfl, rfl, rfl, True.intro⟩ rfl
          · refine a_takeP 15 rfl (by decide +kernel) (np_then (np_then (np_then (np_blk (np_blk (np_then (np_then (np_blk np_body)))))))) rfl (yF (y_lss rfl rfl) c_17) ?_
            refine a_takeP 16 rfl (by decide +kernel) (np_then (np_then (np_then (np_blk (np_blk (np_then (np_then (np_blk np_body)))))))) rfl (y_pick rfl rfl) ?_
            refine a_done (by decide +kernel) ?_
            refine q_then ?_
            refine c_f rfl rfl ?_
            refine c_exit (q_then_exit (q_then_exit (q_blk_out (q_blk ?_))))
            exact hJx () _ _ _ _ [] H rfl ⟨rfl, rfl, rfl, rfl, rfl, True.intro⟩ rfl
        · refine a_takeP 2 rfl (by decide +kernel) (np_then (np_then (np_then (np_blk (np_blk (np_then (np_then (np_blk np_body)))))))) rfl (yF (y_gtr rfl rfl) c_12) ?_
          refine a_takeP 3 rfl (by decide +kernel) (np_then (np_then (np_then (np_blk (np_blk (np_then (np_then (np_blk np_body)))))))) rfl (y_move rfl) ?_
          refine a_skip 4 rfl (by decide +kernel) (np_then (np_then (np_then (np_blk (np_blk (np_then (np_then (np_blk np_body)))))))) rfl ?_
          refine a_skip 5 rfl (by decide +kernel) (np_then (np_then (np_then (np_blk (np_blk (np_then (np_then (np_blk np_body)))))))) rfl ?_
          refine a_skip 6 rfl (by decide +kernel) (np_then (np_then (np_then (np_blk (np_blk (np_then (np_then (np_blk np_body)))))))) rfl ?_
          refine a_skip 7 rfl (by decide +kernel) (np_then (np_then (np_then (np_blk (np_blk (np_then (np_then (np_blk np_body)))))))) rfl ?_
          refine a_skip 8 rfl (by decide +kernel) (np_then (np_then (np_then (np_blk (np_blk (np_then (np_then (np_blk np_body)))))))) rfl ?_
          refine a_skip 9 rfl (by decide +kernel) (np_then (np_then (np_then (np_blk (np_blk (np_then (np_then (np_blk np_body)))))))) rfl ?_
          refine a_skip 10 rfl (by decide +kernel) (np_then (np_then (np_then (np_blk (np_blk (np_then (np_then (np_blk np_body)))))))) rfl ?_
          refine a_skip 11 rfl (by decide +kernel) (np_then (np_then (np_then (np_blk (np_blk (np_then (np_then (np_blk np_body)))))))) rfl ?_
          refine a_skip 12 rfl (by decide +kernel) (np_then (np_then (np_then (np_blk (np_blk (np_then (np_then (np_blk np_body)))))))) rfl ?_
          refine a_skip 13 rfl (by decide +kernel) (np_then (np_then (np_then (np_blk (np_blk (np_then (np_then (np_blk np_body)))))))) rfl ?_
          refine a_skip 14 rfl (by decide +kernel) (np_then (np_then (np_then (np_blk (np_blk (np_then (np_then (np_blk np_body)))))))) rfl ?_
          refine a_skip 15 rfl (by decide +kernel) (np_then (np_then (np_then (np_blk (np_blk (np_then (np_then (np_blk np_body)))))))) rfl ?_
          refine a_takeP 16 rfl (by decide +kernel) (np_then (np_then (np_then (np_blk (np_blk (np_then (np_then (np_blk np_body)))))))) rfl (y_pick rfl rfl) ?_
          refine a_done (by decide +kernel) ?_
          refine q_then ?_
          refine c_f rfl rfl ?_
          refine c_exit (q_then_exit (q_then_exit (q_blk_out (q_blk ?_))))
          exact hJx () _ _ _ _ [] H rfl ⟨rfl, rfl, rfl, rfl, rfl, True.intro⟩ rfl
  · clear H
    intro Jx_2 hJx_2 H
    refine c_seq ?_
    refine c_region ?_
    refine s_p rfl (y_move rfl) ?_
    refine s_p rfl (y_move rfl) ?_
    replace H := ite_e H
    rcases H with ⟨c_18, H⟩ | ⟨c_18, H⟩
    · refine s_p rfl (yT (y_lss rfl rfl) c_18) ?_
      refine s_nil (q_then ?_)
      refine c_t rfl rfl ?_
      refine c_skip ?_
      exact hJx_2 () _ _ _ _ [] H rfl ⟨rfl, rfl, rfl, rfl, rfl, True.intro⟩ rfl
    · refine s_p rfl (yF (y_lss rfl rfl) c_18) ?_
      refine s_nil (q_then ?_)
      refine c_f rfl rfl ?_
      refine c_exit (q_then_exit (q_then_exit (q_blk_out ?_)))
      exact q_end Try.results78 (rv_nil) ⟨rfl, H⟩
def b_bits_Len64 (S : Mem) (x : Int) (Q : Int → Mem → Prop) : Prop :=
  jn (fun (x_1 : Int) (n : Int) (Sx : Mem) =>
      jn (fun (x_2 : Int) (n_1 : Int) (Sx_1 : Mem) =>
          jn (fun (x_3 : Int) (n_2 : Int) (Sx_2 : Mem) =>
              0 ≤ IntKind.u8.wrap x_3 ∧
              gU (⟨#[0, 1, 2, 2, 3, 3, 3, 3, 4, 4, 4, 4, 4, 4, 4, 4, 5, 5, 5, 5, 5, 5, 5, 5, 5, 5, 5, 5, 5, 5, 5, 5, 6, 6, 6, 6, 6, 6, 6, 6, 6, 6, 6, 6, 6, 6, 6, 6, 6, 6, 6, 6, 6, 6, 6, 6, 6, 6, 6, 6, 6, 6, 6, 6, 7, 7, 7, 7, 7, 7, 7, 7, 7, 7, 7, 7, 7, 7, 7, 7, 7, 7, 7, 7, 7, 7, 7, 7, 7, 7, 7, 7, 7, 7, 7, 7, 7, 7, 7, 7, 7, 7, 7, 7, 7, 7, 7, 7, 7, 7, 7, 7, 7, 7, 7, 7, 7, 7, 7, 7, 7, 7, 7, 7, 7, 7, 7, 7, 8, 8, 8, 8, 8, 8, 8, 8, 8, 8, 8, 8, 8, 8, 8, 8, 8, 8, 8, 8, 8, 8, 8, 8, 8, 8, 8, 8, 8, 8, 8, 8, 8, 8, 8, 8, 8, 8, 8, 8, 8, 8, 8, 8, 8, 8, 8, 8, 8, 8, 8, 8, 8, 8, 8, 8, 8, 8, 8, 8, 8, 8, 8, 8, 8, 8, 8, 8, 8, 8, 8, 8, 8, 8, 8, 8, 8, 8, 8, 8, 8, 8, 8, 8, 8, 8, 8, 8, 8, 8, 8, 8, 8, 8, 8, 8, 8, 8, 8, 8, 8, 8, 8, 8, 8, 8, 8, 8, 8, 8, 8, 8, 8, 8, 8, 8, 8, 8, 8, 8, 8, 8, 8, 8, 8, 8, 8, 8]⟩ : ByteArray).data.toList (IntKind.u8.wrap x_3).toNat fun t =>
              Q (IntKind.i64.wrap (n_2 + (IntKind.i64.wrap (t.toNat : Int)))) Sx_2) fun Jx =>
          if 256 ≤ x_2 then
            Jx (ishr .u64 x_2 8) (IntKind.i64.wrap (n_1 + 8)) Sx_1
          else
          Jx x_2 n_1 Sx_1) fun Jx_1 =>
      if 65536 ≤ x_1 then
        Jx_1 (ishr .u64 x_1 16) (IntKind.i64.wrap (n + 16)) Sx
      else
      Jx_1 x_1 n Sx) fun Jx_2 =>
  if 4294967296 ≤ x then
    Jx_2 (ishr .u64 x 32) 32 S
  else
  Jx_2 x 0 S
theorem t_bits_Len64 {S : Mem} {x : Int} {Q : Int → Mem → Prop} (H : b_bits_Len64 S x Q) : bits_Len64 S x Q := by
  unfold b_bits_Len64 at H
  refine Tr.intro Try.func87 rfl Try.ntmps87 rfl fun w0 => ?_
  refine c_seq ?_
  refine c_region ?_
  refine s_p rfl (y_assign rfl) ?_
  refine s_nil (q_then ?_)
  refine c_join2 H (fun (J : Int → Int → Mem → Prop) (z : Int × Int) S => J z.1 z.2 S) (fun z => ⟨25, [(0, .int .u64 z.1), (2, .int .i64 z.2)]⟩) (fun z => []) ?_ ?_
  · clear H
    rintro ⟨x_1, n⟩ Sx H
    refine c_join2 H (fun (J : Int → Int → Mem → Prop) (z : Int × Int) S => J z.1 z.2 S) (fun z => ⟨25, [(0, .int .u64 z.1), (2, .int .i64 z.2)]⟩) (fun z => []) ?_ ?_
    · clear H
      rintro ⟨x_2, n_1⟩ Sx_1 H
      refine c_join2 H (fun (J : Int → Int → Mem → Prop) (z : Int × Int) S => J z.1 z.2 S) (fun z => ⟨25, [(0, .int .u64 z.1), (2, .int .i64 z.2)]⟩) (fun z => []) ?_ ?_
      · clear H
        rintro ⟨x_3, n_2⟩ Sx_2 H
        refine c_seq ?_
        refine c_region ?_
        refine s_p rfl (y_move rfl) ?_
        refine s_p rfl (y_move rfl) ?_
        refine s_p rfl (y_conv ⟨_, Try.underlying26⟩ rfl) ?_
        obtain ⟨c, H⟩ := H
        obtain ⟨t, ht, H⟩ := H
        refine s_p rfl (y_ixS rfl rfl c ht) ?_
        refine s_p rfl (y_conv ⟨_, Try.underlying5⟩ rfl) ?_
        refine s_p rfl (y_add rfl rfl) ?_
        refine s_p rfl (y_assign rfl) ?_
        refine s_nil (q_then ?_)
        refine c_ret ?_
        exact q_ret Try.results87 (rv_tmp rfl rv_nil) ⟨_, rfl, H⟩
      · clear H
        intro Jx hJx H
        refine c_seq ?_
        refine c_region ?_
        refine s_p rfl (y_move rfl) ?_
        replace H := ite_e H
        rcases H with ⟨c_1, H⟩ | ⟨c_1, H⟩
        · refine s_p rfl (yT (y_geq rfl rfl) c_1) ?_
          refine s_nil (q_then ?_)
          refine c_t rfl rfl ?_
          refine c_seq ?_
          refine c_region ?_
          refine s_p rfl (y_move rfl) ?_
          refine s_p rfl (y_shr rfl rfl (by decide)) ?_
          refine s_p rfl (y_assign rfl) ?_
          refine s_nil (q_then ?_)
          refine c_region ?_
          refine s_p rfl (y_move rfl) ?_
          refine s_p rfl (y_add rfl rfl) ?_
          refine s_p rfl (y_assign rfl) ?_
          refine s_nil ?_
          exact hJx (ishr .u64 x_2 8, IntKind.i64.wrap (n_1 + 8)) _ _ _ _ [] H rfl ⟨rfl, rfl, True.intro⟩ rfl
        · refine s_p rfl (yF (y_geq rfl rfl) c_1) ?_
          refine s_nil (q_then ?_)
          refine c_f rfl rfl ?_
          refine c_skip ?_
          exact hJx (x_2, n_1) _ _ _ _ [] H rfl ⟨rfl, rfl, True.intro⟩ rfl
    · clear H
      intro Jx_1 hJx_1 H
      refine c_seq ?_
      refine c_region ?_
      refine s_p rfl (y_move rfl) ?_
      replace H := ite_e H
      rcases H with ⟨c_2, H⟩ | ⟨c_2, H⟩
      · refine s_p rfl (yT (y_geq rfl rfl) c_2) ?_
        refine s_nil (q_then ?_)
        refine c_t rfl rfl ?_
        refine c_seq ?_
        refine c_region ?_
        refine s_p rfl (y_move rfl) ?_
        refine s_p rfl (y_shr rfl rfl (by decide)) ?_
        refine s_p rfl (y_assign rfl) ?_
        refine s_nil (q_then ?_)
        refine c_region ?_
        refine s_p rfl (y_move rfl) ?_
        refine s_p rfl (y_add rfl rfl) ?_
        refine s_p rfl (y_assign rfl) ?_
        refine s_nil ?_
        exact hJx_1 (ishr .u64 x_1 16, IntKind.i64.wrap (n + 16)) _ _ _ _ [] H rfl ⟨rfl, rfl, True.intro⟩ rfl
      · refine s_p rfl (yF (y_geq rfl rfl) c_2) ?_
        refine s_nil (q_then ?_)
        refine c_f rfl rfl ?_
        refine c_skip ?_
        exact hJx_1 (x_1, n) _ _ _ _ [] H rfl ⟨rfl, rfl, True.intro⟩ rfl
  · clear H
    intro Jx_2 hJx_2 H
    refine c_seq ?_
    refine c_region ?_
    refine s_p rfl (y_move rfl) ?_
    replace H := ite_e H
    rcases H with ⟨c_3, H⟩ | ⟨c_3, H⟩
    · refine s_p rfl (yT (y_geq rfl rfl) c_3) ?_
      refine s_nil (q_then ?_)
      refine c_t rfl rfl ?_
      refine c_seq ?_
      refine c_region ?_
      refine s_p rfl (y_move rfl) ?_
      refine s_p rfl (y_shr rfl rfl (by decide)) ?_
      refine s_p rfl (y_assign rfl) ?_
      refine s_nil (q_then ?_)
      refine c_region ?_
      refine s_p rfl (y_assign rfl) ?_
      refine s_nil ?_
      exact hJx_2 (ishr .u64 x 32, 32) _ _ _ _ [] H rfl ⟨rfl, rfl, True.intro⟩ rfl
    · refine s_p rfl (yF (y_geq rfl rfl) c_3) ?_
      refine s_nil (q_then ?_)
      refine c_f rfl rfl ?_
      refine c_skip ?_
      exact hJx_2 (x, 0) _ _ _ _ [] H rfl ⟨rfl, rfl, True.intro⟩ rfl
end Go.Proofs.Ytpilffakhkagjaa
