/- PRINTED BY pt.py: functions. -/
import Derived.Test.YtpilffakhkagjaaPtS
namespace Go.Proofs.Ytpilffakhkagjaa
open Go Go.Pt
attribute [local irreducible] Code.wp Back bodyPost wpList FR WL WC WQ WA AW Tr Yc HC AllC
set_option maxRecDepth 20000
set_option maxHeartbeats 4000000
set_option linter.unusedVariables false
def b_hermitcrablaw10_AlarmPlays (S : Mem) (acts : Sl) (Q : Bool → Mem → Prop) : Prop :=
  jn (fun (Sx : Mem) =>
      al Sx 91 ([.slice (none) 0 0]) fun b Sx_1 =>
      jn (fun (Sx_2 : Mem) =>
          Q true Sx_2) fun Jx =>
      lp (fun Xx (z : Int × List Value × List Value) (Sx_3 : Mem) =>
          match z with
          | (i, onx, atx) =>
            onx.length = 18 ∧
            atx.length = 18 ∧
            jn (fun (Sx_4 : Mem) =>
                jn (fun (onx_1 : List Value) (atx_1 : List Value) (Sx_5 : Mem) =>
                    onx_1.length = 18 ∧
                    atx_1.length = 18 ∧
                    Xx (IntKind.i64.wrap (i + 1), onx_1, atx_1) Sx_5) fun Jx_1 =>
                sl acts fun b_3 o n n_1 =>
                0 ≤ i ∧ i < ((n : Nat) : Int) ∧
                gA (Sx_4.part b_3 (o + i.toNat * 4) 4) fun t =>
                t.all (·.oneCell') = true ∧
                jn (fun (here : Bool) (Sx_6 : Mem) =>
                    jn (fun (onx_2 : List Value) (atx_2 : List Value) (Sx_7 : Mem) =>
                        onx_2.length = 18 ∧
                        atx_2.length = 18 ∧
                        jn (fun (n_2 : Int) (Sx_8 : Mem) =>
                            alarm_Clock_All Sx_8 (some (b, 0)) fun t_1 Sx_9 =>
                            jn (fun (Sx_10 : Mem) =>
                                lp (fun Xx_1 (k : Int) (Sx_11 : Mem) =>
                                    jn (fun (Sx_12 : Mem) =>
                                        jn (fun (Sx_13 : Mem) =>
                                            Xx_1 (IntKind.i64.wrap (k + 1)) Sx_13) fun Jx_2 =>
                                        sl t_1 fun b_5 o_1 n_3 n_4 =>
                                        0 ≤ k ∧ k < ((n_3 : Nat) : Int) ∧
                                        gI (Sx_12.cell b_5 (o_1 + k.toNat * 3 + 1)) .i64 fun t_2 =>
                                        0 ≤ k ∧ k < ((n_3 : Nat) : Int) ∧
                                        gI (Sx_12.cell b_5 (o_1 + k.toNat * 3 + 2)) .i64 fun t_3 =>
                                        0 ≤ t_2 ∧ t_2 < 6 ∧
                                        0 ≤ t_3 ∧ t_3 < 3 ∧
                                        gB (nthL onx_2 (0 + t_2.toNat * 3 + t_3.toNat * 1)) fun t_4 =>
                                        if t_4 = true then
                                          0 ≤ k ∧ k < ((n_3 : Nat) : Int) ∧
                                          gI (Sx_12.cell b_5 (o_1 + k.toNat * 3 + 1)) .i64 fun t_5 =>
                                          0 ≤ k ∧ k < ((n_3 : Nat) : Int) ∧
                                          gI (Sx_12.cell b_5 (o_1 + k.toNat * 3 + 2)) .i64 fun t_6 =>
                                          0 ≤ t_5 ∧ t_5 < 6 ∧
                                          0 ≤ t_6 ∧ t_6 < 3 ∧
                                          gI (nthL atx_2 (0 + t_5.toNat * 3 + t_6.toNat * 1)) .u64 fun t_7 =>
                                          0 ≤ k ∧ k < ((n_3 : Nat) : Int) ∧
                                          gI (Sx_12.cell b_5 (o_1 + k.toNat * 3)) .u64 fun t_8 =>
                                          if t_7 ≠ t_8 then
                                            Q false Sx_12
                                          else
                                          if 0 < k then
                                            0 ≤ k ∧ k < ((n_3 : Nat) : Int) ∧
                                            gI (Sx_12.cell b_5 (o_1 + k.toNat * 3)) .u64 fun t_9 =>
                                            0 ≤ IntKind.i64.wrap (k - 1) ∧ IntKind.i64.wrap (k - 1) < ((n_3 : Nat) : Int) ∧
                                            gI (Sx_12.cell b_5 (o_1 + (IntKind.i64.wrap (k - 1)).toNat * 3)) .u64 fun t_10 =>
                                            if t_9 < t_10 then
                                              Q false Sx_12
                                            else
                                            0 ≤ k ∧ k < ((n_3 : Nat) : Int) ∧
                                            gI (Sx_12.cell b_5 (o_1 + k.toNat * 3)) .u64 fun t_11 =>
                                            0 ≤ IntKind.i64.wrap (k - 1) ∧ IntKind.i64.wrap (k - 1) < ((n_3 : Nat) : Int) ∧
                                            gI (Sx_12.cell b_5 (o_1 + (IntKind.i64.wrap (k - 1)).toNat * 3)) .u64 fun t_12 =>
                                            if t_11 = t_12 then
                                              0 ≤ k ∧ k < ((n_3 : Nat) : Int) ∧
                                              gI (Sx_12.cell b_5 (o_1 + k.toNat * 3 + 1)) .i64 fun t_13 =>
                                              0 ≤ IntKind.i64.wrap (k - 1) ∧ IntKind.i64.wrap (k - 1) < ((n_3 : Nat) : Int) ∧
                                              gI (Sx_12.cell b_5 (o_1 + (IntKind.i64.wrap (k - 1)).toNat * 3 + 1)) .i64 fun t_14 =>
                                              if t_13 < t_14 then
                                                Q false Sx_12
                                              else
                                              0 ≤ k ∧ k < ((n_3 : Nat) : Int) ∧
                                              gI (Sx_12.cell b_5 (o_1 + k.toNat * 3 + 1)) .i64 fun t_15 =>
                                              0 ≤ IntKind.i64.wrap (k - 1) ∧ IntKind.i64.wrap (k - 1) < ((n_3 : Nat) : Int) ∧
                                              gI (Sx_12.cell b_5 (o_1 + (IntKind.i64.wrap (k - 1)).toNat * 3 + 1)) .i64 fun t_16 =>
                                              if t_15 = t_16 then
                                                0 ≤ k ∧ k < ((n_3 : Nat) : Int) ∧
                                                gI (Sx_12.cell b_5 (o_1 + k.toNat * 3 + 2)) .i64 fun t_17 =>
                                                0 ≤ IntKind.i64.wrap (k - 1) ∧ IntKind.i64.wrap (k - 1) < ((n_3 : Nat) : Int) ∧
                                                gI (Sx_12.cell b_5 (o_1 + (IntKind.i64.wrap (k - 1)).toNat * 3 + 2)) .i64 fun t_18 =>
                                                if t_17 ≤ t_18 then
                                                  Q false Sx_12
                                                else
                                                Jx_2 Sx_12
                                              else
                                              Jx_2 Sx_12
                                            else
                                            Jx_2 Sx_12
                                          else
                                          Jx_2 Sx_12
                                        else
                                        Q false Sx_12) fun Jx_3 =>
                                    if k < (t_1.n : Int) then
                                      Jx_3 Sx_11
                                    else
                                    Jx_1 onx_2 atx_2 Sx_11) 0 Sx_10) fun Jx_4 =>
                            if (t_1.n : Int) ≠ n_2 then
                              Q false Sx_9
                            else
                            Jx_4 Sx_9) fun Jx_5 =>
                        lp (fun Xx_2 (z : Int × Int) (Sx_14 : Mem) =>
                            match z with
                            | (n_5, v) =>
                              jn (fun (Sx_15 : Mem) =>
                                  jn (fun (n_6 : Int) (Sx_16 : Mem) =>
                                      Xx_2 (n_6, IntKind.i64.wrap (v + 1)) Sx_16) fun Jx_6 =>
                                  lp (fun Xx_3 (z : Int × Int) (Sx_17 : Mem) =>
                                      match z with
                                      | (n_7, s) =>
                                        if s < 3 then
                                          0 ≤ v ∧ v < 6 ∧
                                          0 ≤ s ∧ s < 3 ∧
                                          gB (nthL onx_2 (0 + v.toNat * 3 + s.toNat * 1)) fun t_19 =>
                                          if t_19 = true then
                                            Xx_3 (IntKind.i64.wrap (n_7 + 1), IntKind.i64.wrap (s + 1)) Sx_17
                                          else
                                          Xx_3 (n_7, IntKind.i64.wrap (s + 1)) Sx_17
                                        else
                                        Jx_6 n_7 Sx_17) (n_5, 0) Sx_15) fun Jx_7 =>
                              if v < 6 then
                                Jx_7 Sx_14
                              else
                              Jx_5 n_5 Sx_14) (0, 0) Sx_7) fun Jx_8 =>
                    gI (nthL t 0) .u8 fun t_20 =>
                    if Int.tmod t_20 8 = 4 then
                      gI (nthL t 1) .i64 fun t_21 =>
                      gI (nthL t 2) .i64 fun t_22 =>
                      alarm_Clock_Drop Sx_6 (some (b, 0)) t_21 t_22 fun Sx_18 =>
                      if here = true then
                        gI (nthL t 1) .i64 fun t_23 =>
                        gI (nthL t 2) .i64 fun t_24 =>
                        0 ≤ t_23 ∧ t_23 < 6 ∧
                        0 ≤ t_24 ∧ t_24 < 3 ∧
                        Jx_8 (spl onx (0 + t_23.toNat * 3 + t_24.toNat * 1) ([.bool false])) atx Sx_18
                      else
                      Jx_8 onx atx Sx_18
                    else
                    if Int.tmod t_20 8 = 5 then
                      gI (nthL t 1) .i64 fun t_25 =>
                      alarm_Clock_DropVM Sx_6 (some (b, 0)) t_25 fun Sx_19 =>
                      gI (nthL t 1) .i64 fun t_26 =>
                      if 0 ≤ t_26 then
                        gI (nthL t 1) .i64 fun t_27 =>
                        if t_27 < 6 then
                          gI (nthL t 1) .i64 fun t_28 =>
                          0 ≤ t_28 ∧ t_28 < 6 ∧
                          Jx_8 (spl onx (0 + t_28.toNat * 3) ([.bool false, .bool false, .bool false])) atx Sx_19
                        else
                        Jx_8 onx atx Sx_19
                      else
                      Jx_8 onx atx Sx_19
                    else
                    if Int.tmod t_20 8 = 6 then
                      gI (nthL t 3) .u64 fun t_29 =>
                      alarm_Clock_Due Sx_6 (some (b, 0)) t_29 fun t_30 Sx_20 =>
                      jn (fun (onx_3 : List Value) (Sx_21 : Mem) =>
                          onx_3.length = 18 ∧
                          lp (fun Xx_4 (v_1 : Int) (Sx_22 : Mem) =>
                              jn (fun (Sx_23 : Mem) =>
                                  jn (fun (Sx_24 : Mem) =>
                                      Xx_4 (IntKind.i64.wrap (v_1 + 1)) Sx_24) fun Jx_9 =>
                                  lp (fun Xx_5 (s_1 : Int) (Sx_25 : Mem) =>
                                      jn (fun (Sx_26 : Mem) =>
                                          0 ≤ v_1 ∧ v_1 < 6 ∧
                                          0 ≤ s_1 ∧ s_1 < 3 ∧
                                          gB (nthL onx_3 (0 + v_1.toNat * 3 + s_1.toNat * 1)) fun t_31 =>
                                          if t_31 = true then
                                            0 ≤ v_1 ∧ v_1 < 6 ∧
                                            0 ≤ s_1 ∧ s_1 < 3 ∧
                                            gI (nthL atx (0 + v_1.toNat * 3 + s_1.toNat * 1)) .u64 fun t_32 =>
                                            gI (nthL t 3) .u64 fun t_33 =>
                                            if t_32 ≤ t_33 then
                                              Q false Sx_26
                                            else
                                            Xx_5 (IntKind.i64.wrap (s_1 + 1)) Sx_26
                                          else
                                          Xx_5 (IntKind.i64.wrap (s_1 + 1)) Sx_26) fun Jx_10 =>
                                      if s_1 < 3 then
                                        Jx_10 Sx_25
                                      else
                                      Jx_9 Sx_25) 0 Sx_23) fun Jx_11 =>
                              if v_1 < 6 then
                                Jx_11 Sx_22
                              else
                              Jx_8 onx_3 atx Sx_22) 0 Sx_21) fun Jx_12 =>
                      lp (fun Xx_6 (z : Int × Int × List Value × List Value) (Sx_27 : Mem) =>
                          match z with
                          | (n_8, k_1, onx_4, last) =>
                            onx_4.length = 18 ∧
                            last.length = 3 ∧
                            jn (fun (Sx_28 : Mem) =>
                                jn (fun (n_9 : Int) (onx_5 : List Value) (last_1 : List Value) (Sx_29 : Mem) =>
                                    onx_5.length = 18 ∧
                                    last_1.length = 3 ∧
                                    Xx_6 (n_9, IntKind.i64.wrap (k_1 + 1), onx_5, last_1) Sx_29) fun Jx_13 =>
                                sl t_30 fun b_7 o_2 n_10 n_11 =>
                                0 ≤ k_1 ∧ k_1 < ((n_10 : Nat) : Int) ∧
                                gA (Sx_28.part b_7 (o_2 + k_1.toNat * 3) 3) fun t_34 =>
                                t_34.all (·.oneCell') = true ∧
                                jn (fun (rises : Bool) (Sx_30 : Mem) =>
                                    jn (fun (Sx_31 : Mem) =>
                                        gI (nthL t_34 1) .i64 fun t_35 =>
                                        gI (nthL t_34 2) .i64 fun t_36 =>
                                        0 ≤ t_35 ∧ t_35 < 6 ∧
                                        0 ≤ t_36 ∧ t_36 < 3 ∧
                                        t_34.all (·.oneCell') = true ∧
                                        Jx_13 (IntKind.i64.wrap (n_8 + 1)) (spl onx_4 (0 + t_35.toNat * 3 + t_36.toNat * 1) ([.bool false])) t_34 Sx_31) fun Jx_14 =>
                                    gI (nthL t_34 1) .i64 fun t_37 =>
                                    if t_37 < 0 then
                                      Q false Sx_30
                                    else
                                    gI (nthL t_34 1) .i64 fun t_38 =>
                                    if 5 < t_38 then
                                      Q false Sx_30
                                    else
                                    gI (nthL t_34 2) .i64 fun t_39 =>
                                    if t_39 < 0 then
                                      Q false Sx_30
                                    else
                                    gI (nthL t_34 2) .i64 fun t_40 =>
                                    if 2 < t_40 then
                                      Q false Sx_30
                                    else
                                    gI (nthL t_34 1) .i64 fun t_41 =>
                                    gI (nthL t_34 2) .i64 fun t_42 =>
                                    0 ≤ t_41 ∧ t_41 < 6 ∧
                                    0 ≤ t_42 ∧ t_42 < 3 ∧
                                    gB (nthL onx_4 (0 + t_41.toNat * 3 + t_42.toNat * 1)) fun t_43 =>
                                    if t_43 = true then
                                      gI (nthL t_34 1) .i64 fun t_44 =>
                                      gI (nthL t_34 2) .i64 fun t_45 =>
                                      0 ≤ t_44 ∧ t_44 < 6 ∧
                                      0 ≤ t_45 ∧ t_45 < 3 ∧
                                      gI (nthL atx (0 + t_44.toNat * 3 + t_45.toNat * 1)) .u64 fun t_46 =>
                                      gI (nthL t_34 0) .u64 fun t_47 =>
                                      if t_46 ≠ t_47 then
                                        Q false Sx_30
                                      else
                                      gI (nthL t_34 0) .u64 fun t_48 =>
                                      gI (nthL t 3) .u64 fun t_49 =>
                                      if t_49 < t_48 then
                                        Q false Sx_30
                                      else
                                      if rises = true then
                                        Jx_14 Sx_30
                                      else
                                      Q false Sx_30
                                    else
                                    Q false Sx_30) fun Jx_15 =>
                                gI (nthL t_34 0) .u64 fun t_50 =>
                                gI (nthL last 0) .u64 fun t_51 =>
                                if t_51 < t_50 then
                                  Jx_15 true Sx_28
                                else
                                gI (nthL t_34 0) .u64 fun t_52 =>
                                gI (nthL last 0) .u64 fun t_53 =>
                                if t_52 = t_53 then
                                  gI (nthL t_34 1) .i64 fun t_54 =>
                                  gI (nthL last 1) .i64 fun t_55 =>
                                  if t_55 < t_54 then
                                    Jx_15 true Sx_28
                                  else
                                  gI (nthL t_34 1) .i64 fun t_56 =>
                                  gI (nthL last 1) .i64 fun t_57 =>
                                  if t_56 = t_57 then
                                    gI (nthL t_34 2) .i64 fun t_58 =>
                                    gI (nthL last 2) .i64 fun t_59 =>
                                    if t_59 < t_58 then
                                      Jx_15 true Sx_28
                                    else
                                    Jx_15 false Sx_28
                                  else
                                  Jx_15 false Sx_28
                                else
                                Jx_15 false Sx_28) fun Jx_16 =>
                            if k_1 < (t_30.n : Int) then
                              Jx_16 Sx_27
                            else
                            Jx_12 onx_4 Sx_27) (0, 0, onx, [.int .u64 0, .int .i64 (-1), .int .i64 0]) Sx_20
                    else
                    if Int.tmod t_20 8 = 7 then
                      gI (nthL t 3) .u64 fun t_60 =>
                      alarm_Clock_Shift Sx_6 (some (b, 0)) t_60 fun Sx_32 =>
                      lp (fun Xx_7 (z : Int × List Value) (Sx_33 : Mem) =>
                          match z with
                          | (v_2, atx_3) =>
                            atx_3.length = 18 ∧
                            jn (fun (Sx_34 : Mem) =>
                                jn (fun (atx_4 : List Value) (Sx_35 : Mem) =>
                                    atx_4.length = 18 ∧
                                    Xx_7 (IntKind.i64.wrap (v_2 + 1), atx_4) Sx_35) fun Jx_17 =>
                                lp (fun Xx_8 (z : Int × List Value) (Sx_36 : Mem) =>
                                    match z with
                                    | (s_2, atx_5) =>
                                      atx_5.length = 18 ∧
                                      jn (fun (Sx_37 : Mem) =>
                                          0 ≤ v_2 ∧ v_2 < 6 ∧
                                          0 ≤ s_2 ∧ s_2 < 3 ∧
                                          gI (nthL atx_5 (0 + v_2.toNat * 3 + s_2.toNat * 1)) .u64 fun t_61 =>
                                          gI (nthL t 3) .u64 fun t_62 =>
                                          jn (fun (x : Int) (Sx_38 : Mem) =>
                                              0 ≤ v_2 ∧ v_2 < 6 ∧
                                              0 ≤ s_2 ∧ s_2 < 3 ∧
                                              Xx_8 (IntKind.i64.wrap (s_2 + 1), spl atx_5 (0 + v_2.toNat * 3 + s_2.toNat * 1) ([.int .u64 x])) Sx_38) fun Jx_18 =>
                                          gI (nthL t 3) .u64 fun t_63 =>
                                          if IntKind.u64.wrap (t_61 + t_62) < t_63 then
                                            Jx_18 18446744073709551615 Sx_37
                                          else
                                          Jx_18 (IntKind.u64.wrap (t_61 + t_62)) Sx_37) fun Jx_19 =>
                                      if s_2 < 3 then
                                        Jx_19 Sx_36
                                      else
                                      Jx_17 atx_5 Sx_36) (0, atx_3) Sx_34) fun Jx_20 =>
                            if v_2 < 6 then
                              Jx_20 Sx_33
                            else
                            Jx_8 onx atx_3 Sx_33) (0, atx) Sx_32
                    else
                    gI (nthL t 1) .i64 fun t_64 =>
                    gI (nthL t 2) .i64 fun t_65 =>
                    gI (nthL t 3) .u64 fun t_66 =>
                    alarm_Clock_Set Sx_6 (some (b, 0)) t_64 t_65 t_66 fun t_67 Sx_39 =>
                    jn (fun (Sx_40 : Mem) =>
                        if here = true then
                          gI (nthL t 1) .i64 fun t_68 =>
                          gI (nthL t 2) .i64 fun t_69 =>
                          0 ≤ t_68 ∧ t_68 < 6 ∧
                          0 ≤ t_69 ∧ t_69 < 3 ∧
                          gI (nthL t 1) .i64 fun t_70 =>
                          gI (nthL t 2) .i64 fun t_71 =>
                          gI (nthL t 3) .u64 fun t_72 =>
                          0 ≤ t_70 ∧ t_70 < 6 ∧
                          0 ≤ t_71 ∧ t_71 < 3 ∧
                          Jx_8 (spl onx (0 + t_68.toNat * 3 + t_69.toNat * 1) ([.bool true])) (spl atx (0 + t_70.toNat * 3 + t_71.toNat * 1) ([.int .u64 t_72])) Sx_40
                        else
                        Jx_8 onx atx Sx_40) fun Jx_21 =>
                    if here ≠ decide (t_67 = 0) then
                      Q false Sx_39
                    else
                    if here = true then
                      Jx_21 Sx_39
                    else
                    if t_67 ≠ 1 then
                      Q false Sx_39
                    else
                    Jx_21 Sx_39) fun Jx_22 =>
                gI (nthL t 1) .i64 fun t_73 =>
                if 0 ≤ t_73 then
                  gI (nthL t 1) .i64 fun t_74 =>
                  if t_74 < 6 then
                    gI (nthL t 2) .i64 fun t_75 =>
                    if 0 ≤ t_75 then
                      gI (nthL t 2) .i64 fun t_76 =>
                      if t_76 < 3 then
                        Jx_22 true Sx_4
                      else
                      Jx_22 false Sx_4
                    else
                    Jx_22 false Sx_4
                  else
                  Jx_22 false Sx_4
                else
                Jx_22 false Sx_4) fun Jx_23 =>
            if i < (acts.n : Int) then
              Jx_23 Sx_3
            else
            Jx Sx_3) (0, [.bool false, .bool false, .bool false, .bool false, .bool false, .bool false, .bool false, .bool false, .bool false, .bool false, .bool false, .bool false, .bool false, .bool false, .bool false, .bool false, .bool false, .bool false], [.int .u64 0, .int .u64 0, .int .u64 0, .int .u64 0, .int .u64 0, .int .u64 0, .int .u64 0, .int .u64 0, .int .u64 0, .int .u64 0, .int .u64 0, .int .u64 0, .int .u64 0, .int .u64 0, .int .u64 0, .int .u64 0, .int .u64 0, .int .u64 0]) Sx_1) fun Jx_24 =>
  hermitcrablaw10_awake S fun t_77 Sx_41 =>
  if t_77 = true then
    if 60 < (acts.n : Int) then
      hermitcrablaw10_awake Sx_41 fun t_78 Sx_42 =>
      Q t_78 Sx_42
    else
    Jx_24 Sx_41
  else
  hermitcrablaw10_awake Sx_41 fun t_79 Sx_43 =>
  Q t_79 Sx_43
theorem t_hermitcrablaw10_AlarmPlays {S : Mem} {acts : Sl} {Q : Bool → Mem → Prop} (H : b_hermitcrablaw10_AlarmPlays S acts Q) : hermitcrablaw10_AlarmPlays S acts Q := by
  unfold b_hermitcrablaw10_AlarmPlays at H
  refine Tr.intro Try.func8 rfl Try.ntmps8 rfl fun w0 => ?_
  refine c_seq ?_
  refine c_region ?_
  refine s_p rfl (y_assign rfl) ?_
  refine s_nil (q_then ?_)
  refine c_join2 H (fun (J : Mem → Prop) (z : Unit) S => J S) (fun z => ⟨435, [(0, eL acts)]⟩) (fun z => []) ?_ ?_
  · clear H
    rintro _ Sx H
    refine c_seq ?_
    refine c_region ?_
    refine s_p rfl (y_build rfl rfl) ?_
    refine s_box rfl rfl rfl fun b => ?_
    refine s_pub 0 rfl fun hb => ?_
    replace H := H b hb
    refine s_p rfl (y_assign rfl) ?_
    refine s_nil (q_then ?_)
    refine c_seq ?_
    refine c_region ?_
    refine s_alloc rfl fun b_1 => ?_
    refine s_nil (q_then ?_)
    refine c_seq ?_
    refine c_region ?_
    refine s_alloc rfl fun b_2 => ?_
    refine s_nil (q_then ?_)
    refine c_join2 H (fun (J : Mem → Prop) (z : Unit) S => J S) (fun z => ⟨435, []⟩) (fun z => []) ?_ ?_
    · clear H
      rintro _ Sx_2 H
      refine c_seq ?_
      refine c_region ?_
      refine s_p rfl (y_assign rfl) ?_
      refine s_nil (q_then ?_)
      refine c_ret ?_
      exact q_ret Try.results8 (rv_tmp rfl rv_nil) ⟨_, rfl, H⟩
    · clear H
      intro Jx hJx H
      refine c_seq ?_
      refine c_region ?_
      refine s_p rfl (y_assign rfl) ?_
      refine s_nil (q_then ?_)
      refine c_block ?_
      refine c_loop (fun z => ⟨435, [(0, eL acts), (3, .pointer (some ⟨b, 0, none⟩)), (4, .pointer (some ⟨b_1, 0, none⟩)), (5, .pointer (some ⟨b_2, 0, none⟩)), (6, .int .i64 z.1)]⟩) (fun z => [⟨b_1, 99, z.2.1⟩, ⟨b_2, 101, z.2.2⟩]) (0, [.bool false, .bool false, .bool false, .bool false, .bool false, .bool false, .bool false, .bool false, .bool false, .bool false, .bool false, .bool false, .bool false, .bool false, .bool false, .bool false, .bool false, .bool false], [.int .u64 0, .int .u64 0, .int .u64 0, .int .u64 0, .int .u64 0, .int .u64 0, .int .u64 0, .int .u64 0, .int .u64 0, .int .u64 0, .int .u64 0, .int .u64 0, .int .u64 0, .int .u64 0, .int .u64 0, .int .u64 0, .int .u64 0, .int .u64 0]) (idx := [0, 0]) H rfl ⟨rfl, rfl, rfl, rfl, rfl, True.intro⟩ rfl ?_
      clear H
      rintro Xx hXx ⟨i, onx, atx⟩ Sx_3 H
      obtain ⟨honx, H⟩ := H
      obtain ⟨hatx, H⟩ := H
      refine c_join2 H (fun (J : Mem → Prop) (z : Unit) S => J S) (fun z => ⟨435, [(0, eL acts), (3, .pointer (some ⟨b, 0, none⟩)), (4, .pointer (some ⟨b_1, 0, none⟩)), (5, .pointer (some ⟨b_2, 0, none⟩)), (6, .int .i64 i)]⟩) (fun z => [⟨b_1, 99, onx⟩, ⟨b_2, 101, atx⟩]) ?_ ?_
      · clear H
        rintro _ Sx_4 H
        refine c_join2 H (fun (J : List Value → List Value → Mem → Prop) (z : List Value × List Value) S => J z.1 z.2 S) (fun z => ⟨435, [(0, eL acts), (3, .pointer (some ⟨b, 0, none⟩)), (4, .pointer (some ⟨b_1, 0, none⟩)), (5, .pointer (some ⟨b_2, 0, none⟩)), (6, .int .i64 i)]⟩) (fun z => [⟨b_1, 99, z.1⟩, ⟨b_2, 101, z.2⟩]) ?_ ?_
        · clear H
          rintro ⟨onx_1, atx_1⟩ Sx_5 H
          obtain ⟨honx_1, H⟩ := H
          obtain ⟨hatx_1, H⟩ := H
          refine c_region ?_
          refine s_p rfl (y_move rfl) ?_
          refine s_p rfl (y_add rfl rfl) ?_
          refine s_p rfl (y_assign rfl) ?_
          refine s_nil ?_
          exact hXx (IntKind.i64.wrap (i + 1), onx_1, atx_1) _ _ _ _ [0, 0] H rfl ⟨rfl, rfl, rfl, rfl, rfl, True.intro⟩ rfl
        · clear H
          intro Jx_1 hJx_1 H
          refine c_block ?_
          refine c_seq ?_
          refine c_region ?_
          refine s_p rfl (y_move rfl) ?_
          refine s_p rfl (y_move rfl) ?_
          obtain ⟨b_3, o, n, n_1, rfl, H⟩ := H
          obtain ⟨c, c_1, H⟩ := H
          refine s_p rfl (y_ixL rfl rfl c c_1 rfl) ?_
          obtain ⟨t, ht, H⟩ := H
          refine s_v rfl (y_ldA rfl (part_len ht)) (hc_SP ht) ?_
          refine s_alloc rfl fun b_4 => ?_
          obtain ⟨c_2, H⟩ := H
          refine s_stV_all 2 rfl rfl rfl rfl rfl (part_len ht) rfl c_2 ?_
          refine s_nil (q_then ?_)
          refine c_join2 H (fun (J : Bool → Mem → Prop) (z : Bool) S => J z S) (fun z => ⟨435, [(0, .slice (some ⟨b_3, o, none⟩) n n_1), (3, .pointer (some ⟨b, 0, none⟩)), (4, .pointer (some ⟨b_1, 0, none⟩)), (5, .pointer (some ⟨b_2, 0, none⟩)), (6, .int .i64 i), (7, .pointer (some ⟨b_4, 0, none⟩)), (8, .bool z)]⟩) (fun z => [⟨b_1, 99, onx⟩, ⟨b_2, 101, atx⟩, ⟨b_4, 103, t⟩]) ?_ ?_
          · clear H
            rintro here Sx_6 H
            refine c_join2 H (fun (J : List Value → List Value → Mem → Prop) (z : List Value × List Value) S => J z.1 z.2 S) (fun z => ⟨435, [(0, .slice (some ⟨b_3, o, none⟩) n n_1), (3, .pointer (some ⟨b, 0, none⟩)), (4, .pointer (some ⟨b_1, 0, none⟩)), (5, .pointer (some ⟨b_2, 0, none⟩)), (6, .int .i64 i)]⟩) (fun z => [⟨b_1, 99, z.1⟩, ⟨b_2, 101, z.2⟩]) ?_ ?_
            · clear H
              rintro ⟨onx_2, atx_2⟩ Sx_7 H
              obtain ⟨honx_2, H⟩ := H
              obtain ⟨hatx_2, H⟩ := H
              refine c_seq ?_
              refine c_region ?_
              refine s_p rfl (y_assign rfl) ?_
              refine s_nil (q_then ?_)
              refine c_join2 H (fun (J : Int → Mem → Prop) (z : Int) S => J z S) (fun z => ⟨435, [(0, .slice (some ⟨b_3, o, none⟩) n n_1), (3, .pointer (some ⟨b, 0, none⟩)), (4, .pointer (some ⟨b_1, 0, none⟩)), (5, .pointer (some ⟨b_2, 0, none⟩)), (6, .int .i64 i), (21, .int .i64 z)]⟩) (fun z => [⟨b_1, 99, onx_2⟩, ⟨b_2, 101, atx_2⟩]) ?_ ?_
              · clear H
                rintro n_2 Sx_8 H
                refine c_seq ?_
                refine c_region ?_
                refine s_p rfl (y_move rfl) ?_
                refine s_call rfl rfl H fun rv Sx_9 H2 => ?_
                clear H
                obtain ⟨t_1, rfl, H⟩ := H2
                refine s_p rfl (y_assign rfl) ?_
                refine s_nil (q_then ?_)
                refine c_join2 H (fun (J : Mem → Prop) (z : Unit) S => J S) (fun z => ⟨435, [(0, .slice (some ⟨b_3, o, none⟩) n n_1), (3, .pointer (some ⟨b, 0, none⟩)), (4, .pointer (some ⟨b_1, 0, none⟩)), (5, .pointer (some ⟨b_2, 0, none⟩)), (6, .int .i64 i), (24, eL t_1)]⟩) (fun z => [⟨b_1, 99, onx_2⟩, ⟨b_2, 101, atx_2⟩]) ?_ ?_
                · clear H
                  rintro _ Sx_10 H
                  refine c_seq ?_
                  refine c_region ?_
                  refine s_p rfl (y_assign rfl) ?_
                  refine s_nil (q_then ?_)
                  refine c_block ?_
                  refine c_loop (fun z => ⟨435, [(0, .slice (some ⟨b_3, o, none⟩) n n_1), (3, .pointer (some ⟨b, 0, none⟩)), (4, .pointer (some ⟨b_1, 0, none⟩)), (5, .pointer (some ⟨b_2, 0, none⟩)), (6, .int .i64 i), (24, eL t_1), (25, .int .i64 z)]⟩) (fun z => [⟨b_1, 99, onx_2⟩, ⟨b_2, 101, atx_2⟩]) 0 (idx := [0, 0]) H rfl ⟨rfl, rfl, rfl, rfl, rfl, rfl, rfl, True.intro⟩ rfl ?_
                  clear H
                  rintro Xx_1 hXx_1 k Sx_11 H
                  refine c_join2 H (fun (J : Mem → Prop) (z : Unit) S => J S) (fun z => ⟨435, [(0, .slice (some ⟨b_3, o, none⟩) n n_1), (3, .pointer (some ⟨b, 0, none⟩)), (4, .pointer (some ⟨b_1, 0, none⟩)), (5, .pointer (some ⟨b_2, 0, none⟩)), (6, .int .i64 i), (24, eL t_1), (25, .int .i64 k)]⟩) (fun z => [⟨b_1, 99, onx_2⟩, ⟨b_2, 101, atx_2⟩]) ?_ ?_
                  · clear H
                    rintro _ Sx_12 H
                    refine c_join2 H (fun (J : Mem → Prop) (z : Unit) S => J S) (fun z => ⟨435, [(0, .slice (some ⟨b_3, o, none⟩) n n_1), (3, .pointer (some ⟨b, 0, none⟩)), (4, .pointer (some ⟨b_1, 0, none⟩)), (5, .pointer (some ⟨b_2, 0, none⟩)), (6, .int .i64 i), (24, eL t_1), (25, .int .i64 k)]⟩) (fun z => [⟨b_1, 99, onx_2⟩, ⟨b_2, 101, atx_2⟩]) ?_ ?_
                    · clear H
                      rintro _ Sx_13 H
                      refine c_region ?_
                      refine s_p rfl (y_move rfl) ?_
                      refine s_p rfl (y_add rfl rfl) ?_
                      refine s_p rfl (y_assign rfl) ?_
                      refine s_nil ?_
                      exact hXx_1 (IntKind.i64.wrap (k + 1)) _ _ _ _ [0, 0] H rfl ⟨rfl, rfl, rfl, rfl, rfl, rfl, rfl, True.intro⟩ rfl
                    · clear H
                      intro Jx_2 hJx_2 H
                      refine c_block ?_
                      refine c_seq ?_
                      refine c_drawn (by kernel_rfl) ?_
                      refine a_takeP 0 rfl (by decide +kernel) (np_then (np_blk (np_then (np_then (np_blk (np_blk (np_then (np_then (np_blk (np_then np_body)))))))))) rfl (y_move rfl) ?_
                      refine a_takeP 1 rfl (by decide +kernel) (np_then (np_blk (np_then (np_then (np_blk (np_blk (np_then (np_then (np_blk (np_then np_body)))))))))) rfl (y_move rfl) ?_
                      obtain ⟨b_5, o_1, n_3, n_4, rfl, H⟩ := H
                      obtain ⟨c_3, c_4, H⟩ := H
                      refine a_takeP 2 rfl (by decide +kernel) (np_then (np_blk (np_then (np_then (np_blk (np_blk (np_then (np_then (np_blk (np_then np_body)))))))))) rfl (y_ixL rfl rfl c_3 c_4 rfl) ?_
                      refine a_takeP 3 rfl (by decide +kernel) (np_then (np_blk (np_then (np_then (np_blk (np_blk (np_then (np_then (np_blk (np_then np_body)))))))))) rfl (y_fa rfl rfl) ?_
                      obtain ⟨t_2, ht_2, H⟩ := H
                      refine a_take 4 rfl (by decide +kernel) (np_then (np_blk (np_then (np_then (np_blk (np_blk (np_then (np_then (np_blk (np_then np_body)))))))))) rfl (y_ld rfl) (hc_S ht_2) ?_
                      refine a_takeP 5 rfl (by decide +kernel) (np_then (np_blk (np_then (np_then (np_blk (np_blk (np_then (np_then (np_blk (np_then np_body)))))))))) rfl (y_move rfl) ?_
                      refine a_takeP 6 rfl (by decide +kernel) (np_then (np_blk (np_then (np_then (np_blk (np_blk (np_then (np_then (np_blk (np_then np_body)))))))))) rfl (y_move rfl) ?_
                      obtain ⟨c_5, c_6, H⟩ := H
                      refine a_takeP 7 rfl (by decide +kernel) (np_then (np_blk (np_then (np_then (np_blk (np_blk (np_then (np_then (np_blk (np_then np_body)))))))))) rfl (y_ixL rfl rfl c_5 c_6 rfl) ?_
                      refine a_takeP 8 rfl (by decide +kernel) (np_then (np_blk (np_then (np_then (np_blk (np_blk (np_then (np_then (np_blk (np_then np_body)))))))))) rfl (y_fa rfl rfl) ?_
                      obtain ⟨t_3, ht_3, H⟩ := H
                      refine a_take 9 rfl (by decide +kernel) (np_then (np_blk (np_then (np_then (np_blk (np_blk (np_then (np_then (np_blk (np_then np_body)))))))))) rfl (y_ld rfl) (hc_S ht_3) ?_
                      obtain ⟨c_7, c_8, H⟩ := H
                      refine a_takeP 10 rfl (by decide +kernel) (np_then (np_blk (np_then (np_then (np_blk (np_blk (np_then (np_then (np_blk (np_then np_body)))))))))) rfl (y_ixA rfl rfl c_7 c_8 rfl) ?_
                      obtain ⟨c_9, c_10, H⟩ := H
                      refine a_takeP 11 rfl (by decide +kernel) (np_then (np_blk (np_then (np_then (np_blk (np_blk (np_then (np_then (np_blk (np_then np_body)))))))))) rfl (y_ixA rfl rfl c_9 c_10 rfl) ?_
                      obtain ⟨t_4, ht_4, H⟩ := H
                      replace H := ib_e H
                      rcases H with ⟨rfl, H⟩ | ⟨rfl, H⟩
                      · refine a_take 12 rfl (by decide +kernel) (np_then (np_blk (np_then (np_then (np_blk (np_blk (np_then (np_then (np_blk (np_then np_body)))))))))) rfl (y_ld rfl) (hc_V 0 rfl ht_4) ?_
                        refine a_takeP 13 rfl (by decide +kernel) (np_then (np_blk (np_then (np_then (np_blk (np_blk (np_then (np_then (np_blk (np_then np_body)))))))))) rfl (yB (y_not rfl) rfl) ?_
                        refine a_takeP 14 rfl (by decide +kernel) (np_then (np_blk (np_then (np_then (np_blk (np_blk (np_then (np_then (np_blk (np_then np_body)))))))))) rfl (y_move rfl) ?_
                        refine a_takeP 15 rfl (by decide +kernel) (np_then (np_blk (np_then (np_then (np_blk (np_blk (np_then (np_then (np_blk (np_then np_body)))))))))) rfl (y_move rfl) ?_
                        refine a_takeP 16 rfl (by decide +kernel) (np_then (np_blk (np_then (np_then (np_blk (np_blk (np_then (np_then (np_blk (np_then np_body)))))))))) rfl (y_move rfl) ?_
                        obtain ⟨c_11, c_12, H⟩ := H
                        refine a_takeP 17 rfl (by decide +kernel) (np_then (np_blk (np_then (np_then (np_blk (np_blk (np_then (np_then (np_blk (np_then np_body)))))))))) rfl (y_ixL rfl rfl c_11 c_12 rfl) ?_
                        refine a_takeP 18 rfl (by decide +kernel) (np_then (np_blk (np_then (np_then (np_blk (np_blk (np_then (np_then (np_blk (np_then np_body)))))))))) rfl (y_fa rfl rfl) ?_
                        obtain ⟨t_5, ht_5, H⟩ := H
                        refine a_take 19 rfl (by decide +kernel) (np_then (np_blk (np_then (np_then (np_blk (np_blk (np_then (np_then (np_blk (np_then np_body)))))))))) rfl (y_ld rfl) (hc_S ht_5) ?_
                        refine a_takeP 20 rfl (by decide +kernel) (np_then (np_blk (np_then (np_then (np_blk (np_blk (np_then (np_then (np_blk (np_then np_body)))))))))) rfl (y_move rfl) ?_
                        refine a_takeP 21 rfl (by decide +kernel) (np_then (np_blk (np_then (np_then (np_blk (np_blk (np_then (np_then (np_blk (np_then np_body)))))))))) rfl (y_move rfl) ?_
                        obtain ⟨c_13, c_14, H⟩ := H
                        refine a_takeP 22 rfl (by decide +kernel) (np_then (np_blk (np_then (np_then (np_blk (np_blk (np_then (np_then (np_blk (np_then np_body)))))))))) rfl (y_ixL rfl rfl c_13 c_14 rfl) ?_
                        refine a_takeP 23 rfl (by decide +kernel) (np_then (np_blk (np_then (np_then (np_blk (np_blk (np_then (np_then (np_blk (np_then np_body)))))))))) rfl (y_fa rfl rfl) ?_
                        obtain ⟨t_6, ht_6, H⟩ := H
                        refine a_take 24 rfl (by decide +kernel) (np_then (np_blk (np_then (np_then (np_blk (np_blk (np_then (np_then (np_blk (np_then np_body)))))))))) rfl (y_ld rfl) (hc_S ht_6) ?_
                        obtain ⟨c_15, c_16, H⟩ := H
                        refine a_takeP 25 rfl (by decide +kernel) (np_then (np_blk (np_then (np_then (np_blk (np_blk (np_then (np_then (np_blk (np_then np_body)))))))))) rfl (y_ixA rfl rfl c_15 c_16 rfl) ?_
                        obtain ⟨c_17, c_18, H⟩ := H
                        refine a_takeP 26 rfl (by decide +kernel) (np_then (np_blk (np_then (np_then (np_blk (np_blk (np_then (np_then (np_blk (np_then np_body)))))))))) rfl (y_ixA rfl rfl c_17 c_18 rfl) ?_
                        obtain ⟨t_7, ht_7, H⟩ := H
                        refine a_take 27 rfl (by decide +kernel) (np_then (np_blk (np_then (np_then (np_blk (np_blk (np_then (np_then (np_blk (np_then np_body)))))))))) rfl (y_ld rfl) (hc_V 1 rfl ht_7) ?_
                        refine a_takeP 28 rfl (by decide +kernel) (np_then (np_blk (np_then (np_then (np_blk (np_blk (np_then (np_then (np_blk (np_then np_body)))))))))) rfl (y_move rfl) ?_
                        refine a_takeP 29 rfl (by decide +kernel) (np_then (np_blk (np_then (np_then (np_blk (np_blk (np_then (np_then (np_blk (np_then np_body)))))))))) rfl (y_move rfl) ?_
                        obtain ⟨c_19, c_20, H⟩ := H
                        refine a_takeP 30 rfl (by decide +kernel) (np_then (np_blk (np_then (np_then (np_blk (np_blk (np_then (np_then (np_blk (np_then np_body)))))))))) rfl (y_ixL rfl rfl c_19 c_20 rfl) ?_
                        refine a_takeP 31 rfl (by decide +kernel) (np_then (np_blk (np_then (np_then (np_blk (np_blk (np_then (np_then (np_blk (np_then np_body)))))))))) rfl (y_fa rfl rfl) ?_
                        obtain ⟨t_8, ht_8, H⟩ := H
                        refine a_take 32 rfl (by decide +kernel) (np_then (np_blk (np_then (np_then (np_blk (np_blk (np_then (np_then (np_blk (np_then np_body)))))))))) rfl (y_ld rfl) (hc_S ht_8) ?_
                        replace H := ite_e H
                        rcases H with ⟨c_21, H⟩ | ⟨c_21, H⟩
                        · refine a_takeP 33 rfl (by decide +kernel) (np_then (np_blk (np_then (np_then (np_blk (np_blk (np_then (np_then (np_blk (np_then np_body)))))))))) rfl (yT (y_neq rfl rfl) c_21) ?_
                          refine a_takeP 34 rfl (by decide +kernel) (np_then (np_blk (np_then (np_then (np_blk (np_blk (np_then (np_then (np_blk (np_then np_body)))))))))) rfl (y_pick rfl rfl) ?_
                          refine a_takeP 35 rfl (by decide +kernel) (np_then (np_blk (np_then (np_then (np_blk (np_blk (np_then (np_then (np_blk (np_then np_body)))))))))) rfl (y_move rfl) ?_
                          refine a_skip 36 rfl (by decide +kernel) (np_then (np_blk (np_then (np_then (np_blk (np_blk (np_then (np_then (np_blk (np_then np_body)))))))))) rfl ?_
                          refine a_skip 37 rfl (by decide +kernel) (np_then (np_blk (np_then (np_then (np_blk (np_blk (np_then (np_then (np_blk (np_then np_body)))))))))) rfl ?_
                          refine a_skip 38 rfl (by decide +kernel) (np_then (np_blk (np_then (np_then (np_blk (np_blk (np_then (np_then (np_blk (np_then np_body)))))))))) rfl ?_
                          refine a_skip 39 rfl (by decide +kernel) (np_then (np_blk (np_then (np_then (np_blk (np_blk (np_then (np_then (np_blk (np_then np_body)))))))))) rfl ?_
                          refine a_skip 40 rfl (by decide +kernel) (np_then (np_blk (np_then (np_then (np_blk (np_blk (np_then (np_then (np_blk (np_then np_body)))))))))) rfl ?_
                          refine a_skip 41 rfl (by decide +kernel) (np_then (np_blk (np_then (np_then (np_blk (np_blk (np_then (np_then (np_blk (np_then np_body)))))))))) rfl ?_
                          refine a_skip 42 rfl (by decide +kernel) (np_then (np_blk (np_then (np_then (np_blk (np_blk (np_then (np_then (np_blk (np_then np_body)))))))))) rfl ?_
                          refine a_skip 43 rfl (by decide +kernel) (np_then (np_blk (np_then (np_then (np_blk (np_blk (np_then (np_then (np_blk (np_then np_body)))))))))) rfl ?_
                          refine a_skip 44 rfl (by decide +kernel) (np_then (np_blk (np_then (np_then (np_blk (np_blk (np_then (np_then (np_blk (np_then np_body)))))))))) rfl ?_
                          refine a_skip 45 rfl (by decide +kernel) (np_then (np_blk (np_then (np_then (np_blk (np_blk (np_then (np_then (np_blk (np_then np_body)))))))))) rfl ?_
                          refine a_skip 46 rfl (by decide +kernel) (np_then (np_blk (np_then (np_then (np_blk (np_blk (np_then (np_then (np_blk (np_then np_body)))))))))) rfl ?_
                          refine a_skip 47 rfl (by decide +kernel) (np_then (np_blk (np_then (np_then (np_blk (np_blk (np_then (np_then (np_blk (np_then np_body)))))))))) rfl ?_
                          refine a_skip 48 rfl (by decide +kernel) (np_then (np_blk (np_then (np_then (np_blk (np_blk (np_then (np_then (np_blk (np_then np_body)))))))))) rfl ?_
                          refine a_skip 49 rfl (by decide +kernel) (np_then (np_blk (np_then (np_then (np_blk (np_blk (np_then (np_then (np_blk (np_then np_body)))))))))) rfl ?_
                          refine a_skip 50 rfl (by decide +kernel) (np_then (np_blk (np_then (np_then (np_blk (np_blk (np_then (np_then (np_blk (np_then np_body)))))))))) rfl ?_
                          refine a_skip 51 rfl (by decide +kernel) (np_then (np_blk (np_then (np_then (np_blk (np_blk (np_then (np_then (np_blk (np_then np_body)))))))))) rfl ?_
                          refine a_skip 52 rfl (by decide +kernel) (np_then (np_blk (np_then (np_then (np_blk (np_blk (np_then (np_then (np_blk (np_then np_body)))))))))) rfl ?_
                          refine a_skip 53 rfl (by decide +kernel) (np_then (np_blk (np_then (np_then (np_blk (np_blk (np_then (np_then (np_blk (np_then np_body)))))))))) rfl ?_
                          refine a_skip 54 rfl (by decide +kernel) (np_then (np_blk (np_then (np_then (np_blk (np_blk (np_then (np_then (np_blk (np_then np_body)))))))))) rfl ?_
                          refine a_skip 55 rfl (by decide +kernel) (np_then (np_blk (np_then (np_then (np_blk (np_blk (np_then (np_then (np_blk (np_then np_body)))))))))) rfl ?_
                          refine a_skip 56 rfl (by decide +kernel) (np_then (np_blk (np_then (np_then (np_blk (np_blk (np_then (np_then (np_blk (np_then np_body)))))))))) rfl ?_
                          refine a_skip 57 rfl (by decide +kernel) (np_then (np_blk (np_then (np_then (np_blk (np_blk (np_then (np_then (np_blk (np_then np_body)))))))))) rfl ?_
                          refine a_skip 58 rfl (by decide +kernel) (np_then (np_blk (np_then (np_then (np_blk (np_blk (np_then (np_then (np_blk (np_then np_body)))))))))) rfl ?_
                          refine a_skip 59 rfl (by decide +kernel) (np_then (np_blk (np_then (np_then (np_blk (np_blk (np_then (np_then (np_blk (np_then np_body)))))))))) rfl ?_
                          refine a_skip 60 rfl (by decide +kernel) (np_then (np_blk (np_then (np_then (np_blk (np_blk (np_then (np_then (np_blk (np_then np_body)))))))))) rfl ?_
                          refine a_skip 61 rfl (by decide +kernel) (np_then (np_blk (np_then (np_then (np_blk (np_blk (np_then (np_then (np_blk (np_then np_body)))))))))) rfl ?_
                          refine a_skip 62 rfl (by decide +kernel) (np_then (np_blk (np_then (np_then (np_blk (np_blk (np_then (np_then (np_blk (np_then np_body)))))))))) rfl ?_
                          refine a_skip 63 rfl (by decide +kernel) (np_then (np_blk (np_then (np_then (np_blk (np_blk (np_then (np_then (np_blk (np_then np_body)))))))))) rfl ?_
                          refine a_skip 64 rfl (by decide +kernel) (np_then (np_blk (np_then (np_then (np_blk (np_blk (np_then (np_then (np_blk (np_then np_body)))))))))) rfl ?_
                          refine a_skip 65 rfl (by decide +kernel) (np_then (np_blk (np_then (np_then (np_blk (np_blk (np_then (np_then (np_blk (np_then np_body)))))))))) rfl ?_
                          refine a_skip 66 rfl (by decide +kernel) (np_then (np_blk (np_then (np_then (np_blk (np_blk (np_then (np_then (np_blk (np_then np_body)))))))))) rfl ?_
                          refine a_skip 67 rfl (by decide +kernel) (np_then (np_blk (np_then (np_then (np_blk (np_blk (np_then (np_then (np_blk (np_then np_body)))))))))) rfl ?_
                          refine a_skip 68 rfl (by decide +kernel) (np_then (np_blk (np_then (np_then (np_blk (np_blk (np_then (np_then (np_blk (np_then np_body)))))))))) rfl ?_
                          refine a_skip 69 rfl (by decide +kernel) (np_then (np_blk (np_then (np_then (np_blk (np_blk (np_then (np_then (np_blk (np_then np_body)))))))))) rfl ?_
                          refine a_skip 70 rfl (by decide +kernel) (np_then (np_blk (np_then (np_then (np_blk (np_blk (np_then (np_then (np_blk (np_then np_body)))))))))) rfl ?_
                          refine a_skip 71 rfl (by decide +kernel) (np_then (np_blk (np_then (np_then (np_blk (np_blk (np_then (np_then (np_blk (np_then np_body)))))))))) rfl ?_
                          refine a_skip 72 rfl (by decide +kernel) (np_then (np_blk (np_then (np_then (np_blk (np_blk (np_then (np_then (np_blk (np_then np_body)))))))))) rfl ?_
                          refine a_skip 73 rfl (by decide +kernel) (np_then (np_blk (np_then (np_then (np_blk (np_blk (np_then (np_then (np_blk (np_then np_body)))))))))) rfl ?_
                          refine a_skip 74 rfl (by decide +kernel) (np_then (np_blk (np_then (np_then (np_blk (np_blk (np_then (np_then (np_blk (np_then np_body)))))))))) rfl ?_
                          refine a_skip 75 rfl (by decide +kernel) (np_then (np_blk (np_then (np_then (np_blk (np_blk (np_then (np_then (np_blk (np_then np_body)))))))))) rfl ?_
                          refine a_skip 76 rfl (by decide +kernel) (np_then (np_blk (np_then (np_then (np_blk (np_blk (np_then (np_then (np_blk (np_then np_body)))))))))) rfl ?_
                          refine a_skip 77 rfl (by decide +kernel) (np_then (np_blk (np_then (np_then (np_blk (np_blk (np_then (np_then (np_blk (np_then np_body)))))))))) rfl ?_
                          refine a_skip 78 rfl (by decide +kernel) (np_then (np_blk (np_then (np_then (np_blk (np_blk (np_then (np_then (np_blk (np_then np_body)))))))))) rfl ?_
                          refine a_skip 79 rfl (by decide +kernel) (np_then (np_blk (np_then (np_then (np_blk (np_blk (np_then (np_then (np_blk (np_then np_body)))))))))) rfl ?_
                          refine a_skip 80 rfl (by decide +kernel) (np_then (np_blk (np_then (np_then (np_blk (np_blk (np_then (np_then (np_blk (np_then np_body)))))))))) rfl ?_
                          refine a_skip 81 rfl (by decide +kernel) (np_then (np_blk (np_then (np_then (np_blk (np_blk (np_then (np_then (np_blk (np_then np_body)))))))))) rfl ?_
                          refine a_skip 82 rfl (by decide +kernel) (np_then (np_blk (np_then (np_then (np_blk (np_blk (np_then (np_then (np_blk (np_then np_body)))))))))) rfl ?_
                          refine a_skip 83 rfl (by decide +kernel) (np_then (np_blk (np_then (np_then (np_blk (np_blk (np_then (np_then (np_blk (np_then np_body)))))))))) rfl ?_
                          refine a_skip 84 rfl (by decide +kernel) (np_then (np_blk (np_then (np_then (np_blk (np_blk (np_then (np_then (np_blk (np_then np_body)))))))))) rfl ?_
                          refine a_skip 85 rfl (by decide +kernel) (np_then (np_blk (np_then (np_then (np_blk (np_blk (np_then (np_then (np_blk (np_then np_body)))))))))) rfl ?_
                          refine a_skip 86 rfl (by decide +kernel) (np_then (np_blk (np_then (np_then (np_blk (np_blk (np_then (np_then (np_blk (np_then np_body)))))))))) rfl ?_
                          refine a_skip 87 rfl (by decide +kernel) (np_then (np_blk (np_then (np_then (np_blk (np_blk (np_then (np_then (np_blk (np_then np_body)))))))))) rfl ?_
                          refine a_skip 88 rfl (by decide +kernel) (np_then (np_blk (np_then (np_then (np_blk (np_blk (np_then (np_then (np_blk (np_then np_body)))))))))) rfl ?_
                          refine a_skip 89 rfl (by decide +kernel) (np_then (np_blk (np_then (np_then (np_blk (np_blk (np_then (np_then (np_blk (np_then np_body)))))))))) rfl ?_
                          refine a_skip 90 rfl (by decide +kernel) (np_then (np_blk (np_then (np_then (np_blk (np_blk (np_then (np_then (np_blk (np_then np_body)))))))))) rfl ?_
                          refine a_skip 91 rfl (by decide +kernel) (np_then (np_blk (np_then (np_then (np_blk (np_blk (np_then (np_then (np_blk (np_then np_body)))))))))) rfl ?_
                          refine a_skip 92 rfl (by decide +kernel) (np_then (np_blk (np_then (np_then (np_blk (np_blk (np_then (np_then (np_blk (np_then np_body)))))))))) rfl ?_
                          refine a_skip 93 rfl (by decide +kernel) (np_then (np_blk (np_then (np_then (np_blk (np_blk (np_then (np_then (np_blk (np_then np_body)))))))))) rfl ?_
                          refine a_skip 94 rfl (by decide +kernel) (np_then (np_blk (np_then (np_then (np_blk (np_blk (np_then (np_then (np_blk (np_then np_body)))))))))) rfl ?_
                          refine a_skip 95 rfl (by decide +kernel) (np_then (np_blk (np_then (np_then (np_blk (np_blk (np_then (np_then (np_blk (np_then np_body)))))))))) rfl ?_
                          refine a_skip 96 rfl (by decide +kernel) (np_then (np_blk (np_then (np_then (np_blk (np_blk (np_then (np_then (np_blk (np_then np_body)))))))))) rfl ?_
                          refine a_skip 97 rfl (by decide +kernel) (np_then (np_blk (np_then (np_then (np_blk (np_blk (np_then (np_then (np_blk (np_then np_body)))))))))) rfl ?_
                          refine a_skip 98 rfl (by decide +kernel) (np_then (np_blk (np_then (np_then (np_blk (np_blk (np_then (np_then (np_blk (np_then np_body)))))))))) rfl ?_
                          refine a_skip 99 rfl (by decide +kernel) (np_then (np_blk (np_then (np_then (np_blk (np_blk (np_then (np_then (np_blk (np_then np_body)))))))))) rfl ?_
                          refine a_skip 100 rfl (by decide +kernel) (np_then (np_blk (np_then (np_then (np_blk (np_blk (np_then (np_then (np_blk (np_then np_body)))))))))) rfl ?_
                          refine a_skip 101 rfl (by decide +kernel) (np_then (np_blk (np_then (np_then (np_blk (np_blk (np_then (np_then (np_blk (np_then np_body)))))))))) rfl ?_
                          refine a_skip 102 rfl (by decide +kernel) (np_then (np_blk (np_then (np_then (np_blk (np_blk (np_then (np_then (np_blk (np_then np_body)))))))))) rfl ?_
                          refine a_skip 103 rfl (by decide +kernel) (np_then (np_blk (np_then (np_then (np_blk (np_blk (np_then (np_then (np_blk (np_then np_body)))))))))) rfl ?_
                          refine a_skip 104 rfl (by decide +kernel) (np_then (np_blk (np_then (np_then (np_blk (np_blk (np_then (np_then (np_blk (np_then np_body)))))))))) rfl ?_
                          refine a_skip 105 rfl (by decide +kernel) (np_then (np_blk (np_then (np_then (np_blk (np_blk (np_then (np_then (np_blk (np_then np_body)))))))))) rfl ?_
                          refine a_skip 106 rfl (by decide +kernel) (np_then (np_blk (np_then (np_then (np_blk (np_blk (np_then (np_then (np_blk (np_then np_body)))))))))) rfl ?_
                          refine a_skip 107 rfl (by decide +kernel) (np_then (np_blk (np_then (np_then (np_blk (np_blk (np_then (np_then (np_blk (np_then np_body)))))))))) rfl ?_
                          refine a_takeP 108 rfl (by decide +kernel) (np_then (np_blk (np_then (np_then (np_blk (np_blk (np_then (np_then (np_blk (np_then np_body)))))))))) rfl (y_pick rfl rfl) ?_
                          refine a_done (by decide +kernel) ?_
                          refine q_then ?_
                          refine c_t rfl rfl ?_
                          refine c_seq ?_
                          refine c_region ?_
                          refine s_p rfl (y_assign rfl) ?_
                          refine s_nil (q_then ?_)
                          refine c_ret (q_blk_ret (q_then_ret (q_then_ret (q_blk_ret (q_blk_ret (q_then_ret (q_then_ret (q_blk_ret (q_then_ret ?_)))))))))
                          exact q_ret Try.results8 (rv_tmp rfl rv_nil) ⟨_, rfl, H⟩
                        · refine a_takeP 33 rfl (by decide +kernel) (np_then (np_blk (np_then (np_then (np_blk (np_blk (np_then (np_then (np_blk (np_then np_body)))))))))) rfl (yF (y_neq rfl rfl) c_21) ?_
                          refine a_takeP 34 rfl (by decide +kernel) (np_then (np_blk (np_then (np_then (np_blk (np_blk (np_then (np_then (np_blk (np_then np_body)))))))))) rfl (y_pick rfl rfl) ?_
                          refine a_takeP 35 rfl (by decide +kernel) (np_then (np_blk (np_then (np_then (np_blk (np_blk (np_then (np_then (np_blk (np_then np_body)))))))))) rfl (y_move rfl) ?_
                          refine a_takeP 36 rfl (by decide +kernel) (np_then (np_blk (np_then (np_then (np_blk (np_blk (np_then (np_then (np_blk (np_then np_body)))))))))) rfl (y_move rfl) ?_
                          replace H := ite_e H
                          rcases H with ⟨c_22, H⟩ | ⟨c_22, H⟩
                          · refine a_takeP 37 rfl (by decide +kernel) (np_then (np_blk (np_then (np_then (np_blk (np_blk (np_then (np_then (np_blk (np_then np_body)))))))))) rfl (yT (y_gtr rfl rfl) c_22) ?_
                            refine a_takeP 38 rfl (by decide +kernel) (np_then (np_blk (np_then (np_then (np_blk (np_blk (np_then (np_then (np_blk (np_then np_body)))))))))) rfl (y_move rfl) ?_
                            refine a_takeP 39 rfl (by decide +kernel) (np_then (np_blk (np_then (np_then (np_blk (np_blk (np_then (np_then (np_blk (np_then np_body)))))))))) rfl (y_move rfl) ?_
                            refine a_takeP 40 rfl (by decide +kernel) (np_then (np_blk (np_then (np_then (np_blk (np_blk (np_then (np_then (np_blk (np_then np_body)))))))))) rfl (y_move rfl) ?_
                            obtain ⟨c_23, c_24, H⟩ := H
                            refine a_takeP 41 rfl (by decide +kernel) (np_then (np_blk (np_then (np_then (np_blk (np_blk (np_then (np_then (np_blk (np_then np_body)))))))))) rfl (y_ixL rfl rfl c_23 c_24 rfl) ?_
                            refine a_takeP 42 rfl (by decide +kernel) (np_then (np_blk (np_then (np_then (np_blk (np_blk (np_then (np_then (np_blk (np_then np_body)))))))))) rfl (y_fa rfl rfl) ?_
                            obtain ⟨t_9, ht_9, H⟩ := H
                            refine a_take 43 rfl (by decide +kernel) (np_then (np_blk (np_then (np_then (np_blk (np_blk (np_then (np_then (np_blk (np_then np_body)))))))))) rfl (y_ld rfl) (hc_S ht_9) ?_
                            refine a_takeP 44 rfl (by decide +kernel) (np_then (np_blk (np_then (np_then (np_blk (np_blk (np_then (np_then (np_blk (np_then np_body)))))))))) rfl (y_move rfl) ?_
                            refine a_takeP 45 rfl (by decide +kernel) (np_then (np_blk (np_then (np_then (np_blk (np_blk (np_then (np_then (np_blk (np_then np_body)))))))))) rfl (y_move rfl) ?_
                            refine a_takeP 46 rfl (by decide +kernel) (np_then (np_blk (np_then (np_then (np_blk (np_blk (np_then (np_then (np_blk (np_then np_body)))))))))) rfl (y_sub rfl rfl) ?_
                            obtain ⟨c_25, c_26, H⟩ := H
                            refine a_takeP 47 rfl (by decide +kernel) (np_then (np_blk (np_then (np_then (np_blk (np_blk (np_then (np_then (np_blk (np_then np_body)))))))))) rfl (y_ixL rfl rfl c_25 c_26 rfl) ?_
                            refine a_takeP 48 rfl (by decide +kernel) (np_then (np_blk (np_then (np_then (np_blk (np_blk (np_then (np_then (np_blk (np_then np_body)))))))))) rfl (y_fa rfl rfl) ?_
                            obtain ⟨t_10, ht_10, H⟩ := H
                            refine a_take 49 rfl (by decide +kernel) (np_then (np_blk (np_then (np_then (np_blk (np_blk (np_then (np_then (np_blk (np_then np_body)))))))))) rfl (y_ld rfl) (hc_S ht_10) ?_
                            replace H := ite_e H
                            rcases H with ⟨c_27, H⟩ | ⟨c_27, H⟩
                            · refine a_takeP 50 rfl (by decide +kernel) (np_then (np_blk (np_then (np_then (np_blk (np_blk (np_then (np_then (np_blk (np_then np_body)))))))))) rfl (yT (y_lss rfl rfl) c_27) ?_
                              refine a_takeP 51 rfl (by decide +kernel) (np_then (np_blk (np_then (np_then (np_blk (np_blk (np_then (np_then (np_blk (np_then np_body)))))))))) rfl (y_move rfl) ?_
                              refine a_skip 52 rfl (by decide +kernel) (np_then (np_blk (np_then (np_then (np_blk (np_blk (np_then (np_then (np_blk (np_then np_body)))))))))) rfl ?_
                              refine a_skip 53 rfl (by decide +kernel) (np_then (np_blk (np_then (np_then (np_blk (np_blk (np_then (np_then (np_blk (np_then np_body)))))))))) rfl ?_
                              refine a_skip 54 rfl (by decide +kernel) (np_then (np_blk (np_then (np_then (np_blk (np_blk (np_then (np_then (np_blk (np_then np_body)))))))))) rfl ?_
                              refine a_skip 55 rfl (by decide +kernel) (np_then (np_blk (np_then (np_then (np_blk (np_blk (np_then (np_then (np_blk (np_then np_body)))))))))) rfl ?_
                              refine a_skip 56 rfl (by decide +kernel) (np_then (np_blk (np_then (np_then (np_blk (np_blk (np_then (np_then (np_blk (np_then np_body)))))))))) rfl ?_
                              refine a_skip 57 rfl (by decide +kernel) (np_then (np_blk (np_then (np_then (np_blk (np_blk (np_then (np_then (np_blk (np_then np_body)))))))))) rfl ?_
                              refine a_skip 58 rfl (by decide +kernel) (np_then (np_blk (np_then (np_then (np_blk (np_blk (np_then (np_then (np_blk (np_then np_body)))))))))) rfl ?_
                              refine a_skip 59 rfl (by decide +kernel) (np_then (np_blk (np_then (np_then (np_blk (np_blk (np_then (np_then (np_blk (np_then np_body)))))))))) rfl ?_
                              refine a_skip 60 rfl (by decide +kernel) (np_then (np_blk (np_then (np_then (np_blk (np_blk (np_then (np_then (np_blk (np_then np_body)))))))))) rfl ?_
                              refine a_skip 61 rfl (by decide +kernel) (np_then (np_blk (np_then (np_then (np_blk (np_blk (np_then (np_then (np_blk (np_then np_body)))))))))) rfl ?_
                              refine a_skip 62 rfl (by decide +kernel) (np_then (np_blk (np_then (np_then (np_blk (np_blk (np_then (np_then (np_blk (np_then np_body)))))))))) rfl ?_
                              refine a_skip 63 rfl (by decide +kernel) (np_then (np_blk (np_then (np_then (np_blk (np_blk (np_then (np_then (np_blk (np_then np_body)))))))))) rfl ?_
                              refine a_skip 64 rfl (by decide +kernel) (np_then (np_blk (np_then (np_then (np_blk (np_blk (np_then (np_then (np_blk (np_then np_body)))))))))) rfl ?_
                              refine a_skip 65 rfl (by decide +kernel) (np_then (np_blk (np_then (np_then (np_blk (np_blk (np_then (np_then (np_blk (np_then np_body)))))))))) rfl ?_
                              refine a_skip 66 rfl (by decide +kernel) (np_then (np_blk (np_then (np_then (np_blk (np_blk (np_then (np_then (np_blk (np_then np_body)))))))))) rfl ?_
                              refine a_skip 67 rfl (by decide +kernel) (np_then (np_blk (np_then (np_then (np_blk (np_blk (np_then (np_then (np_blk (np_then np_body)))))))))) rfl ?_
                              refine a_skip 68 rfl (by decide +kernel) (np_then (np_blk (np_then (np_then (np_blk (np_blk (np_then (np_then (np_blk (np_then np_body)))))))))) rfl ?_
                              refine a_skip 69 rfl (by decide +kernel) (np_then (np_blk (np_then (np_then (np_blk (np_blk (np_then (np_then (np_blk (np_then np_body)))))))))) rfl ?_
                              refine a_skip 70 rfl (by decide +kernel) (np_then (np_blk (np_then (np_then (np_blk (np_blk (np_then (np_then (np_blk (np_then np_body)))))))))) rfl ?_
                              refine a_skip 71 rfl (by decide +kernel) (np_then (np_blk (np_then (np_then (np_blk (np_blk (np_then (np_then (np_blk (np_then np_body)))))))))) rfl ?_
                              refine a_skip 72 rfl (by decide +kernel) (np_then (np_blk (np_then (np_then (np_blk (np_blk (np_then (np_then (np_blk (np_then np_body)))))))))) rfl ?_
                              refine a_skip 73 rfl (by decide +kernel) (np_then (np_blk (np_then (np_then (np_blk (np_blk (np_then (np_then (np_blk (np_then np_body)))))))))) rfl ?_
                              refine a_skip 74 rfl (by decide +kernel) (np_then (np_blk (np_then (np_then (np_blk (np_blk (np_then (np_then (np_blk (np_then np_body)))))))))) rfl ?_
                              refine a_skip 75 rfl (by decide +kernel) (np_then (np_blk (np_then (np_then (np_blk (np_blk (np_then (np_then (np_blk (np_then np_body)))))))))) rfl ?_
                              refine a_skip 76 rfl (by decide +kernel) (np_then (np_blk (np_then (np_then (np_blk (np_blk (np_then (np_then (np_blk (np_then np_body)))))))))) rfl ?_
                              refine a_skip 77 rfl (by decide +kernel) (np_then (np_blk (np_then (np_then (np_blk (np_blk (np_then (np_then (np_blk (np_then np_body)))))))))) rfl ?_
                              refine a_skip 78 rfl (by decide +kernel) (np_then (np_blk (np_then (np_then (np_blk (np_blk (np_then (np_then (np_blk (np_then np_body)))))))))) rfl ?_
                              refine a_skip 79 rfl (by decide +kernel) (np_then (np_blk (np_then (np_then (np_blk (np_blk (np_then (np_then (np_blk (np_then np_body)))))))))) rfl ?_
                              refine a_skip 80 rfl (by decide +kernel) (np_then (np_blk (np_then (np_then (np_blk (np_blk (np_then (np_then (np_blk (np_then np_body)))))))))) rfl ?_
                              refine a_skip 81 rfl (by decide +kernel) (np_then (np_blk (np_then (np_then (np_blk (np_blk (np_then (np_then (np_blk (np_then np_body)))))))))) rfl ?_
                              refine a_skip 82 rfl (by decide +kernel) (np_then (np_blk (np_then (np_then (np_blk (np_blk (np_then (np_then (np_blk (np_then np_body)))))))))) rfl ?_
                              refine a_skip 83 rfl (by decide +kernel) (np_then (np_blk (np_then (np_then (np_blk (np_blk (np_then (np_then (np_blk (np_then np_body)))))))))) rfl ?_
                              refine a_skip 84 rfl (by decide +kernel) (np_then (np_blk (np_then (np_then (np_blk (np_blk (np_then (np_then (np_blk (np_then np_body)))))))))) rfl ?_
                              refine a_skip 85 rfl (by decide +kernel) (np_then (np_blk (np_then (np_then (np_blk (np_blk (np_then (np_then (np_blk (np_then np_body)))))))))) rfl ?_
                              refine a_skip 86 rfl (by decide +kernel) (np_then (np_blk (np_then (np_then (np_blk (np_blk (np_then (np_then (np_blk (np_then np_body)))))))))) rfl ?_
                              refine a_skip 87 rfl (by decide +kernel) (np_then (np_blk (np_then (np_then (np_blk (np_blk (np_then (np_then (np_blk (np_then np_body)))))))))) rfl ?_
                              refine a_skip 88 rfl (by decide +kernel) (np_then (np_blk (np_then (np_then (np_blk (np_blk (np_then (np_then (np_blk (np_then np_body)))))))))) rfl ?_
                              refine a_skip 89 rfl (by decide +kernel) (np_then (np_blk (np_then (np_then (np_blk (np_blk (np_then (np_then (np_blk (np_then np_body)))))))))) rfl ?_
                              refine a_skip 90 rfl (by decide +kernel) (np_then (np_blk (np_then (np_then (np_blk (np_blk (np_then (np_then (np_blk (np_then np_body)))))))))) rfl ?_
                              refine a_skip 91 rfl (by decide +kernel) (np_then (np_blk (np_then (np_then (np_blk (np_blk (np_then (np_then (np_blk (np_then np_body)))))))))) rfl ?_
                              refine a_skip 92 rfl (by decide +kernel) (np_then (np_blk (np_then (np_then (np_blk (np_blk (np_then (np_then (np_blk (np_then np_body)))))))))) rfl ?_
                              refine a_skip 93 rfl (by decide +kernel) (np_then (np_blk (np_then (np_then (np_blk (np_blk (np_then (np_then (np_blk (np_then np_body)))))))))) rfl ?_
                              refine a_skip 94 rfl (by decide +kernel) (np_then (np_blk (np_then (np_then (np_blk (np_blk (np_then (np_then (np_blk (np_then np_body)))))))))) rfl ?_
                              refine a_skip 95 rfl (by decide +kernel) (np_then (np_blk (np_then (np_then (np_blk (np_blk (np_then (np_then (np_blk (np_then np_body)))))))))) rfl ?_
                              refine a_skip 96 rfl (by decide +kernel) (np_then (np_blk (np_then (np_then (np_blk (np_blk (np_then (np_then (np_blk (np_then np_body)))))))))) rfl ?_
                              refine a_skip 97 rfl (by decide +kernel) (np_then (np_blk (np_then (np_then (np_blk (np_blk (np_then (np_then (np_blk (np_then np_body)))))))))) rfl ?_
                              refine a_skip 98 rfl (by decide +kernel) (np_then (np_blk (np_then (np_then (np_blk (np_blk (np_then (np_then (np_blk (np_then np_body)))))))))) rfl ?_
                              refine a_skip 99 rfl (by decide +kernel) (np_then (np_blk (np_then (np_then (np_blk (np_blk (np_then (np_then (np_blk (np_then np_body)))))))))) rfl ?_
                              refine a_skip 100 rfl (by decide +kernel) (np_then (np_blk (np_then (np_then (np_blk (np_blk (np_then (np_then (np_blk (np_then np_body)))))))))) rfl ?_
                              refine a_skip 101 rfl (by decide +kernel) (np_then (np_blk (np_then (np_then (np_blk (np_blk (np_then (np_then (np_blk (np_then np_body)))))))))) rfl ?_
                              refine a_skip 102 rfl (by decide +kernel) (np_then (np_blk (np_then (np_then (np_blk (np_blk (np_then (np_then (np_blk (np_then np_body)))))))))) rfl ?_
                              refine a_skip 103 rfl (by decide +kernel) (np_then (np_blk (np_then (np_then (np_blk (np_blk (np_then (np_then (np_blk (np_then np_body)))))))))) rfl ?_
                              refine a_skip 104 rfl (by decide +kernel) (np_then (np_blk (np_then (np_then (np_blk (np_blk (np_then (np_then (np_blk (np_then np_body)))))))))) rfl ?_
                              refine a_skip 105 rfl (by decide +kernel) (np_then (np_blk (np_then (np_then (np_blk (np_blk (np_then (np_then (np_blk (np_then np_body)))))))))) rfl ?_
                              refine a_takeP 106 rfl (by decide +kernel) (np_then (np_blk (np_then (np_then (np_blk (np_blk (np_then (np_then (np_blk (np_then np_body)))))))))) rfl (y_pick rfl rfl) ?_
                              refine a_takeP 107 rfl (by decide +kernel) (np_then (np_blk (np_then (np_then (np_blk (np_blk (np_then (np_then (np_blk (np_then np_body)))))))))) rfl (y_pick rfl rfl) ?_
                              refine a_takeP 108 rfl (by decide +kernel) (np_then (np_blk (np_then (np_then (np_blk (np_blk (np_then (np_then (np_blk (np_then np_body)))))))))) rfl (y_pick rfl rfl) ?_
                              refine a_done (by decide +kernel) ?_
                              refine q_then ?_
                              refine c_t rfl rfl ?_
                              refine c_seq ?_
                              refine c_region ?_
                              refine s_p rfl (y_assign rfl) ?_
                              refine s_nil (q_then ?_)
                              refine c_ret (q_blk_ret (q_then_ret (q_then_ret (q_blk_ret (q_blk_ret (q_then_ret (q_then_ret (q_blk_ret (q_then_ret ?_)))))))))
                              exact q_ret Try.results8 (rv_tmp rfl rv_nil) ⟨_, rfl, H⟩
                            · refine a_takeP 50 rfl (by decide +kernel) (np_then (np_blk (np_then (np_then (np_blk (np_blk (np_then (np_then (np_blk (np_then np_body)))))))))) rfl (yF (y_lss rfl rfl) c_27) ?_
                              refine a_takeP 51 rfl (by decide +kernel) (np_then (np_blk (np_then (np_then (np_blk (np_blk (np_then (np_then (np_blk (np_then np_body)))))))))) rfl (y_move rfl) ?_
                              refine a_takeP 52 rfl (by decide +kernel) (np_then (np_blk (np_then (np_then (np_blk (np_blk (np_then (np_then (np_blk (np_then np_body)))))))))) rfl (y_move rfl) ?_
                              refine a_takeP 53 rfl (by decide +kernel) (np_then (np_blk (np_then (np_then (np_blk (np_blk (np_then (np_then (np_blk (np_then np_body)))))))))) rfl (y_move rfl) ?_
                              obtain ⟨c_28, c_29, H⟩ := H
                              refine a_takeP 54 rfl (by decide +kernel) (np_then (np_blk (np_then (np_then (np_blk (np_blk (np_then (np_then (np_blk (np_then np_body)))))))))) rfl (y_ixL rfl rfl c_28 c_29 rfl) ?_
                              refine a_takeP 55 rfl (by decide +kernel) (np_then (np_blk (np_then (np_then (np_blk (np_blk (np_then (np_then (np_blk (np_then np_body)))))))))) rfl (y_fa rfl rfl) ?_
                              obtain ⟨t_11, ht_11, H⟩ := H
                              refine a_take 56 rfl (by decide +kernel) (np_then (np_blk (np_then (np_then (np_blk (np_blk (np_then (np_then (np_blk (np_then np_body)))))))))) rfl (y_ld rfl) (hc_S ht_11) ?_
                              refine a_takeP 57 rfl (by decide +kernel) (np_then (np_blk (np_then (np_then (np_blk (np_blk (np_then (np_then (np_blk (np_then np_body)))))))))) rfl (y_move rfl) ?_
                              refine a_takeP 58 rfl (by decide +kernel) (np_then (np_blk (np_then (np_then (np_blk (np_blk (np_then (np_then (np_blk (np_then np_body)))))))))) rfl (y_move rfl) ?_
                              refine a_takeP 59 rfl (by decide +kernel) (np_then (np_blk (np_then (np_then (np_blk (np_blk (np_then (np_then (np_blk (np_then np_body)))))))))) rfl (y_sub rfl rfl) ?_
                              obtain ⟨c_30, c_31, H⟩ := H
                              refine a_takeP 60 rfl (by decide +kernel) (np_then (np_blk (np_then (np_then (np_blk (np_blk (np_then (np_then (np_blk (np_then np_body)))))))))) rfl (y_ixL rfl rfl c_30 c_31 rfl) ?_
                              refine a_takeP 61 rfl (by decide +kernel) (np_then (np_blk (np_then (np_then (np_blk (np_blk (np_then (np_then (np_blk (np_then np_body)))))))))) rfl (y_fa rfl rfl) ?_
                              obtain ⟨t_12, ht_12, H⟩ := H
                              refine a_take 62 rfl (by decide +kernel) (np_then (np_blk (np_then (np_then (np_blk (np_blk (np_then (np_then (np_blk (np_then np_body)))))))))) rfl (y_ld rfl) (hc_S ht_12) ?_
                              replace H := ite_e H
                              rcases H with ⟨c_32, H⟩ | ⟨c_32, H⟩
                              · refine a_takeP 63 rfl (by decide +kernel) (np_then (np_blk (np_then (np_then (np_blk (np_blk (np_then (np_then (np_blk (np_then np_body)))))))))) rfl (yT (y_eql rfl rfl) c_32) ?_
                                refine a_takeP 64 rfl (by decide +kernel) (np_then (np_blk (np_then (np_then (np_blk (np_blk (np_then (np_then (np_blk (np_then np_body)))))))))) rfl (y_move rfl) ?_
                                refine a_takeP 65 rfl (by decide +kernel) (np_then (np_blk (np_then (np_then (np_blk (np_blk (np_then (np_then (np_blk (np_then np_body)))))))))) rfl (y_move rfl) ?_
                                refine a_takeP 66 rfl (by decide +kernel) (np_then (np_blk (np_then (np_then (np_blk (np_blk (np_then (np_then (np_blk (np_then np_body)))))))))) rfl (y_move rfl) ?_
                                obtain ⟨c_33, c_34, H⟩ := H
                                refine a_takeP 67 rfl (by decide +kernel) (np_then (np_blk (np_then (np_then (np_blk (np_blk (np_then (np_then (np_blk (np_then np_body)))))))))) rfl (y_ixL rfl rfl c_33 c_34 rfl) ?_
                                refine a_takeP 68 rfl (by decide +kernel) (np_then (np_blk (np_then (np_then (np_blk (np_blk (np_then (np_then (np_blk (np_then np_body)))))))))) rfl (y_fa rfl rfl) ?_
                                obtain ⟨t_13, ht_13, H⟩ := H
                                refine a_take 69 rfl (by decide +kernel) (np_then (np_blk (np_then (np_then (np_blk (np_blk (np_then (np_then (np_blk (np_then np_body)))))))))) rfl (y_ld rfl) (hc_S ht_13) ?_
                                refine a_takeP 70 rfl (by decide +kernel) (np_then (np_blk (np_then (np_then (np_blk (np_blk (np_then (np_then (np_blk (np_then np_body)))))))))) rfl (y_move rfl) ?_
                                refine a_takeP 71 rfl (by decide +kernel) (np_then (np_blk (np_then (np_then (np_blk (np_blk (np_then (np_then (np_blk (np_then np_body)))))))))) rfl (y_move rfl) ?_
                                refine a_takeP 72 rfl (by decide +kernel) (np_then (np_blk (np_then (np_then (np_blk (np_blk (np_then (np_then (np_blk (np_then np_body)))))))))) rfl (y_sub rfl rfl) ?_
                                obtain ⟨c_35, c_36, H⟩ := H
                                refine a_takeP 73 rfl (by decide +kernel) (np_then (np_blk (np_then (np_then (np_blk (np_blk (np_then (np_then (np_blk (np_then np_body)))))))))) rfl (y_ixL rfl rfl c_35 c_36 rfl) ?_
                                refine a_takeP 74 rfl (by decide +kernel) (np_then (np_blk (np_then (np_then (np_blk (np_blk (np_then (np_then (np_blk (np_then np_body)))))))))) rfl (y_fa rfl rfl) ?_
                                obtain ⟨t_14, ht_14, H⟩ := H
                                refine a_take 75 rfl (by decide +kernel) (np_then (np_blk (np_then (np_then (np_blk (np_blk (np_then (np_then (np_blk (np_then np_body)))))))))) rfl (y_ld rfl) (hc_S ht_14) ?_
                                replace H := ite_e H
                                rcases H with ⟨c_37, H⟩ | ⟨c_37, H⟩
                                · refine a_takeP 76 rfl (by decide +kernel) (np_then (np_blk (np_then (np_then (np_blk (np_blk (np_then (np_then (np_blk (np_then np_body)))))))))) rfl (yT (y_lss rfl rfl) c_37) ?_
                                  refine a_takeP 77 rfl (by decide +kernel) (np_then (np_blk (np_then (np_then (np_blk (np_blk (np_then (np_then (np_blk (np_then np_body)))))))))) rfl (y_move rfl) ?_
                                  refine a_skip 78 rfl (by decide +kernel) (np_then (np_blk (np_then (np_then (np_blk (np_blk (np_then (np_then (np_blk (np_then np_body)))))))))) rfl ?_
                                  refine a_skip 79 rfl (by decide +kernel) (np_then (np_blk (np_then (np_then (np_blk (np_blk (np_then (np_then (np_blk (np_then np_body)))))))))) rfl ?_
                                  refine a_skip 80 rfl (by decide +kernel) (np_then (np_blk (np_then (np_then (np_blk (np_blk (np_then (np_then (np_blk (np_then np_body)))))))))) rfl ?_
                                  refine a_skip 81 rfl (by decide +kernel) (np_then (np_blk (np_then (np_then (np_blk (np_blk (np_then (np_then (np_blk (np_then np_body)))))))))) rfl ?_
                                  refine a_skip 82 rfl (by decide +kernel) (np_then (np_blk (np_then (np_then (np_blk (np_blk (np_then (np_then (np_blk (np_then np_body)))))))))) rfl ?_
                                  refine a_skip 83 rfl (by decide +kernel) (np_then (np_blk (np_then (np_then (np_blk (np_blk (np_then (np_then (np_blk (np_then np_body)))))))))) rfl ?_
                                  refine a_skip 84 rfl (by decide +kernel) (np_then (np_blk (np_then (np_then (np_blk (np_blk (np_then (np_then (np_blk (np_then np_body)))))))))) rfl ?_
                                  refine a_skip 85 rfl (by decide +kernel) (np_then (np_blk (np_then (np_then (np_blk (np_blk (np_then (np_then (np_blk (np_then np_body)))))))))) rfl ?_
                                  refine a_skip 86 rfl (by decide +kernel) (np_then (np_blk (np_then (np_then (np_blk (np_blk (np_then (np_then (np_blk (np_then np_body)))))))))) rfl ?_
                                  refine a_skip 87 rfl (by decide +kernel) (np_then (np_blk (np_then (np_then (np_blk (np_blk (np_then (np_then (np_blk (np_then np_body)))))))))) rfl ?_
                                  refine a_skip 88 rfl (by decide +kernel) (np_then (np_blk (np_then (np_then (np_blk (np_blk (np_then (np_then (np_blk (np_then np_body)))))))))) rfl ?_
                                  refine a_skip 89 rfl (by decide +kernel) (np_then (np_blk (np_then (np_then (np_blk (np_blk (np_then (np_then (np_blk (np_then np_body)))))))))) rfl ?_
                                  refine a_skip 90 rfl (by decide +kernel) (np_then (np_blk (np_then (np_then (np_blk (np_blk (np_then (np_then (np_blk (np_then np_body)))))))))) rfl ?_
                                  refine a_skip 91 rfl (by decide +kernel) (np_then (np_blk (np_then (np_then (np_blk (np_blk (np_then (np_then (np_blk (np_then np_body)))))))))) rfl ?_
                                  refine a_skip 92 rfl (by decide +kernel) (np_then (np_blk (np_then (np_then (np_blk (np_blk (np_then (np_then (np_blk (np_then np_body)))))))))) rfl ?_
                                  refine a_skip 93 rfl (by decide +kernel) (np_then (np_blk (np_then (np_then (np_blk (np_blk (np_then (np_then (np_blk (np_then np_body)))))))))) rfl ?_
                                  refine a_skip 94 rfl (by decide +kernel) (np_then (np_blk (np_then (np_then (np_blk (np_blk (np_then (np_then (np_blk (np_then np_body)))))))))) rfl ?_
                                  refine a_skip 95 rfl (by decide +kernel) (np_then (np_blk (np_then (np_then (np_blk (np_blk (np_then (np_then (np_blk (np_then np_body)))))))))) rfl ?_
                                  refine a_skip 96 rfl (by decide +kernel) (np_then (np_blk (np_then (np_then (np_blk (np_blk (np_then (np_then (np_blk (np_then np_body)))))))))) rfl ?_
                                  refine a_skip 97 rfl (by decide +kernel) (np_then (np_blk (np_then (np_then (np_blk (np_blk (np_then (np_then (np_blk (np_then np_body)))))))))) rfl ?_
                                  refine a_skip 98 rfl (by decide +kernel) (np_then (np_blk (np_then (np_then (np_blk (np_blk (np_then (np_then (np_blk (np_then np_body)))))))))) rfl ?_
                                  refine a_skip 99 rfl (by decide +kernel) (np_then (np_blk (np_then (np_then (np_blk (np_blk (np_then (np_then (np_blk (np_then np_body)))))))))) rfl ?_
                                  refine a_skip 100 rfl (by decide +kernel) (np_then (np_blk (np_then (np_then (np_blk (np_blk (np_then (np_then (np_blk (np_then np_body)))))))))) rfl ?_
                                  refine a_skip 101 rfl (by decide +kernel) (np_then (np_blk (np_then (np_then (np_blk (np_blk (np_then (np_then (np_blk (np_then np_body)))))))))) rfl ?_
                                  refine a_skip 102 rfl (by decide +kernel) (np_then (np_blk (np_then (np_then (np_blk (np_blk (np_then (np_then (np_blk (np_then np_body)))))))))) rfl ?_
                                  refine a_skip 103 rfl (by decide +kernel) (np_then (np_blk (np_then (np_then (np_blk (np_blk (np_then (np_then (np_blk (np_then np_body)))))))))) rfl ?_
                                  refine a_takeP 104 rfl (by decide +kernel) (np_then (np_blk (np_then (np_then (np_blk (np_blk (np_then (np_then (np_blk (np_then np_body)))))))))) rfl (y_pick rfl rfl) ?_
                                  refine a_takeP 105 rfl (by decide +kernel) (np_then (np_blk (np_then (np_then (np_blk (np_blk (np_then (np_then (np_blk (np_then np_body)))))))))) rfl (y_pick rfl rfl) ?_
                                  refine a_takeP 106 rfl (by decide +kernel) (np_then (np_blk (np_then (np_then (np_blk (np_blk (np_then (np_then (np_blk (np_then np_body)))))))))) rfl (y_pick rfl rfl) ?_
                                  refine a_takeP 107 rfl (by decide +kernel) (np_then (np_blk (np_then (np_then (np_blk (np_blk (np_then (np_then (np_blk (np_then np_body)))))))))) rfl (y_pick rfl rfl) ?_
                                  refine a_takeP 108 rfl (by decide +kernel) (np_then (np_blk (np_then (np_then (np_blk (np_blk (np_then (np_then (np_blk (np_then np_body)))))))))) rfl (y_pick rfl rfl) ?_
                                  refine a_done (by decide +kernel) ?_
                                  refine q_then ?_
                                  refine c_t rfl rfl ?_
                                  refine c_seq ?_
                                  refine c_region ?_
                                  refine s_p rfl (y_assign rfl) ?_
                                  refine s_nil (q_then ?_)
                                  refine c_ret (q_blk_ret (q_then_ret (q_then_ret (q_blk_ret (q_blk_ret (q_then_ret (q_then_ret (q_blk_ret (q_then_ret ?_)))))))))
                                  exact q_ret Try.results8 (rv_tmp rfl rv_nil) ⟨_, rfl, H⟩
                                · refine a_takeP 76 rfl (by decide +kernel) (np_then (np_blk (np_then (np_then (np_blk (np_blk (np_then (np_then (np_blk (np_then np_body)))))))))) rfl (yF (y_lss rfl rfl) c_37) ?_
                                  refine a_takeP 77 rfl (by decide +kernel) (np_then (np_blk (np_then (np_then (np_blk (np_blk (np_then (np_then (np_blk (np_then np_body)))))))))) rfl (y_move rfl) ?_
                                  refine a_takeP 78 rfl (by decide +kernel) (np_then (np_blk (np_then (np_then (np_blk (np_blk (np_then (np_then (np_blk (np_then np_body)))))))))) rfl (y_move rfl) ?_
                                  refine a_takeP 79 rfl (by decide +kernel) (np_then (np_blk (np_then (np_then (np_blk (np_blk (np_then (np_then (np_blk (np_then np_body)))))))))) rfl (y_move rfl) ?_
                                  obtain ⟨c_38, c_39, H⟩ := H
                                  refine a_takeP 80 rfl (by decide +kernel) (np_then (np_blk (np_then (np_then (np_blk (np_blk (np_then (np_then (np_blk (np_then np_body)))))))))) rfl (y_ixL rfl rfl c_38 c_39 rfl) ?_
                                  refine a_takeP 81 rfl (by decide +kernel) (np_then (np_blk (np_then (np_then (np_blk (np_blk (np_then (np_then (np_blk (np_then np_body)))))))))) rfl (y_fa rfl rfl) ?_
                                  obtain ⟨t_15, ht_15, H⟩ := H
                                  refine a_take 82 rfl (by decide +kernel) (np_then (np_blk (np_then (np_then (np_blk (np_blk (np_then (np_then (np_blk (np_then np_body)))))))))) rfl (y_ld rfl) (hc_S ht_15) ?_
                                  refine a_takeP 83 rfl (by decide +kernel) (np_then (np_blk (np_then (np_then (np_blk (np_blk (np_then (np_then (np_blk (np_then np_body)))))))))) rfl (y_move rfl) ?_
                                  refine a_takeP 84 rfl (by decide +kernel) (np_then (np_blk (np_then (np_then (np_blk (np_blk (np_then (np_then (np_blk (np_then np_body)))))))))) rfl (y_move rfl) ?_
                                  refine a_takeP 85 rfl (by decide +kernel) (np_then (np_blk (np_then (np_then (np_blk (np_blk (np_then (np_then (np_blk (np_then np_body)))))))))) rfl (y_sub rfl rfl) ?_
                                  obtain ⟨c_40, c_41, H⟩ := H
                                  refine a_takeP 86 rfl (by decide +kernel) (np_then (np_blk (np_then (np_then (np_blk (np_blk (np_then (np_then (np_blk (np_then np_body)))))))))) rfl (y_ixL rfl rfl c_40 c_41 rfl) ?_
                                  refine a_takeP 87 rfl (by decide +kernel) (np_then (np_blk (np_then (np_then (np_blk (np_blk (np_then (np_then (np_blk (np_then np_body)))))))))) rfl (y_fa rfl rfl) ?_
                                  obtain ⟨t_16, ht_16, H⟩ := H
                                  refine a_take 88 rfl (by decide +kernel) (np_then (np_blk (np_then (np_then (np_blk (np_blk (np_then (np_then (np_blk (np_then np_body)))))))))) rfl (y_ld rfl) (hc_S ht_16) ?_
                                  replace H := ite_e H
                                  rcases H with ⟨c_42, H⟩ | ⟨c_42, H⟩
                                  · refine a_takeP 89 rfl (by decide +kernel) (np_then (np_blk (np_then (np_then (np_blk (np_blk (np_then (np_then (np_blk (np_then np_body)))))))))) rfl (yT (y_eql rfl rfl) c_42) ?_
                                    refine a_takeP 90 rfl (by decide +kernel) (np_then (np_blk (np_then (np_then (np_blk (np_blk (np_then (np_then (np_blk (np_then np_body)))))))))) rfl (y_move rfl) ?_
                                    refine a_takeP 91 rfl (by decide +kernel) (np_then (np_blk (np_then (np_then (np_blk (np_blk (np_then (np_then (np_blk (np_then np_body)))))))))) rfl (y_move rfl) ?_
                                    refine a_takeP 92 rfl (by decide +kernel) (np_then (np_blk (np_then (np_then (np_blk (np_blk (np_then (np_then (np_blk (np_then np_body)))))))))) rfl (y_move rfl) ?_
                                    obtain ⟨c_43, c_44, H⟩ := H
                                    refine a_takeP 93 rfl (by decide +kernel) (np_then (np_blk (np_then (np_then (np_blk (np_blk (np_then (np_then (np_blk (np_then np_body)))))))))) rfl (y_ixL rfl rfl c_43 c_44 rfl) ?_
                                    refine a_takeP 94 rfl (by decide +kernel) (np_then (np_blk (np_then (np_then (np_blk (np_blk (np_then (np_then (np_blk (np_then np_body)))))))))) rfl (y_fa rfl rfl) ?_
                                    obtain ⟨t_17, ht_17, H⟩ := H
                                    refine a_take 95 rfl (by decide +kernel) (np_then (np_blk (np_then (np_then (np_blk (np_blk (np_then (np_then (np_blk (np_then np_body)))))))))) rfl (y_ld rfl) (hc_S ht_17) ?_
                                    refine a_takeP 96 rfl (by decide +kernel) (np_then (np_blk (np_then (np_then (np_blk (np_blk (np_then (np_then (np_blk (np_then np_body)))))))))) rfl (y_move rfl) ?_
                                    refine a_takeP 97 rfl (by decide +kernel) (np_then (np_blk (np_then (np_then (np_blk (np_blk (np_then (np_then (np_blk (np_then np_body)))))))))) rfl (y_move rfl) ?_
                                    refine a_takeP 98 rfl (by decide +kernel) (np_then (np_blk (np_then (np_then (np_blk (np_blk (np_then (np_then (np_blk (np_then np_body)))))))))) rfl (y_sub rfl rfl) ?_
                                    obtain ⟨c_45, c_46, H⟩ := H
                                    refine a_takeP 99 rfl (by decide +kernel) (np_then (np_blk (np_then (np_then (np_blk (np_blk (np_then (np_then (np_blk (np_then np_body)))))))))) rfl (y_ixL rfl rfl c_45 c_46 rfl) ?_
                                    refine a_takeP 100 rfl (by decide +kernel) (np_then (np_blk (np_then (np_then (np_blk (np_blk (np_then (np_then (np_blk (np_then np_body)))))))))) rfl (y_fa rfl rfl) ?_
                                    obtain ⟨t_18, ht_18, H⟩ := H
                                    refine a_take 101 rfl (by decide +kernel) (np_then (np_blk (np_then (np_then (np_blk (np_blk (np_then (np_then (np_blk (np_then np_body)))))))))) rfl (y_ld rfl) (hc_S ht_18) ?_
                                    replace H := ite_e H
                                    rcases H with ⟨c_47, H⟩ | ⟨c_47, H⟩
                                    · refine a_takeP 102 rfl (by decide +kernel) (np_then (np_blk (np_then (np_then (np_blk (np_blk (np_then (np_then (np_blk (np_then np_body)))))))))) rfl (yT (y_leq rfl rfl) c_47) ?_
                                      refine a_takeP 103 rfl (by decide +kernel) (np_then (np_blk (np_then (np_then (np_blk (np_blk (np_then (np_then (np_blk (np_then np_body)))))))))) rfl (y_pick rfl rfl) ?_
                                      refine a_takeP 104 rfl (by decide +kernel) (np_then (np_blk (np_then (np_then (np_blk (np_blk (np_then (np_then (np_blk (np_then np_body)))))))))) rfl (y_pick rfl rfl) ?_
                                      refine a_takeP 105 rfl (by decide +kernel) (np_then (np_blk (np_then (np_then (np_blk (np_blk (np_then (np_then (np_blk (np_then np_body)))))))))) rfl (y_pick rfl rfl) ?_
                                      refine a_takeP 106 rfl (by decide +kernel) (np_then (np_blk (np_then (np_then (np_blk (np_blk (np_then (np_then (np_blk (np_then np_body)))))))))) rfl (y_pick rfl rfl) ?_
                                      refine a_takeP 107 rfl (by decide +kernel) (np_then (np_blk (np_then (np_then (np_blk (np_blk (np_then (np_then (np_blk (np_then np_body)))))))))) rfl (y_pick rfl rfl) ?_
                                      refine a_takeP 108 rfl (by decide +kernel) (np_then (np_blk (np_then (np_then (np_blk (np_blk (np_then (np_then (np_blk (np_then np_body)))))))))) rfl (y_pick rfl rfl) ?_
                                      refine a_done (by decide +kernel) ?_
                                      refine q_then ?_
                                      refine c_t rfl rfl ?_
                                      refine c_seq ?_
                                      refine c_region ?_
                                      refine s_p rfl (y_assign rfl) ?_
                                      refine s_nil (q_then ?_)
                                      refine c_ret (q_blk_ret (q_then_ret (q_then_ret (q_blk_ret (q_blk_ret (q_then_ret (q_then_ret (q_blk_ret (q_then_ret ?_)))))))))
                                      exact q_ret Try.results8 (rv_tmp rfl rv_nil) ⟨_, rfl, H⟩
                                    · refine a_takeP 102 rfl (by decide +kernel) (np_then (np_blk (np_then (np_then (np_blk (np_blk (np_then (np_then (np_blk (np_then np_body)))))))))) rfl (yF (y_leq rfl rfl) c_47) ?_
                                      refine a_takeP 103 rfl (by decide +kernel) (np_then (np_blk (np_then (np_then (np_blk (np_blk (np_then (np_then (np_blk (np_then np_body)))))))))) rfl (y_pick rfl rfl) ?_
                                      refine a_takeP 104 rfl (by decide +kernel) (np_then (np_blk (np_then (np_then (np_blk (np_blk (np_then (np_then (np_blk (np_then np_body)))))))))) rfl (y_pick rfl rfl) ?_
                                      refine a_takeP 105 rfl (by decide +kernel) (np_then (np_blk (np_then (np_then (np_blk (np_blk (np_then (np_then (np_blk (np_then np_body)))))))))) rfl (y_pick rfl rfl) ?_
                                      refine a_takeP 106 rfl (by decide +kernel) (np_then (np_blk (np_then (np_then (np_blk (np_blk (np_then (np_then (np_blk (np_then np_body)))))))))) rfl (y_pick rfl rfl) ?_
                                      refine a_takeP 107 rfl (by decide +kernel) (np_then (np_blk (np_then (np_then (np_blk (np_blk (np_then (np_then (np_blk (np_then np_body)))))))))) rfl (y_pick rfl rfl) ?_
                                      refine a_takeP 108 rfl (by decide +kernel) (np_then (np_blk (np_then (np_then (np_blk (np_blk (np_then (np_then (np_blk (np_then np_body)))))))))) rfl (y_pick rfl rfl) ?_
                                      refine a_done (by decide +kernel) ?_
                                      refine q_then ?_
                                      refine c_f rfl rfl ?_
                                      refine c_skip (q_blk ?_)
                                      exact hJx_2 () _ _ _ _ [0, 0] H rfl ⟨rfl, rfl, rfl, rfl, rfl, rfl, rfl, True.intro⟩ rfl
                                  · refine a_takeP 89 rfl (by decide +kernel) (np_then (np_blk (np_then (np_then (np_blk (np_blk (np_then (np_then (np_blk (np_then np_body)))))))))) rfl (yF (y_eql rfl rfl) c_42) ?_
                                    refine a_takeP 90 rfl (by decide +kernel) (np_then (np_blk (np_then (np_then (np_blk (np_blk (np_then (np_then (np_blk (np_then np_body)))))))))) rfl (y_move rfl) ?_
                                    refine a_skip 91 rfl (by decide +kernel) (np_then (np_blk (np_then (np_then (np_blk (np_blk (np_then (np_then (np_blk (np_then np_body)))))))))) rfl ?_
                                    refine a_skip 92 rfl (by decide +kernel) (np_then (np_blk (np_then (np_then (np_blk (np_blk (np_then (np_then (np_blk (np_then np_body)))))))))) rfl ?_
                                    refine a_skip 93 rfl (by decide +kernel) (np_then (np_blk (np_then (np_then (np_blk (np_blk (np_then (np_then (np_blk (np_then np_body)))))))))) rfl ?_
                                    refine a_skip 94 rfl (by decide +kernel) (np_then (np_blk (np_then (np_then (np_blk (np_blk (np_then (np_then (np_blk (np_then np_body)))))))))) rfl ?_
                                    refine a_skip 95 rfl (by decide +kernel) (np_then (np_blk (np_then (np_then (np_blk (np_blk (np_then (np_then (np_blk (np_then np_body)))))))))) rfl ?_
                                    refine a_skip 96 rfl (by decide +kernel) (np_then (np_blk (np_then (np_then (np_blk (np_blk (np_then (np_then (np_blk (np_then np_body)))))))))) rfl ?_
                                    refine a_skip 97 rfl (by decide +kernel) (np_then (np_blk (np_then (np_then (np_blk (np_blk (np_then (np_then (np_blk (np_then np_body)))))))))) rfl ?_
                                    refine a_skip 98 rfl (by decide +kernel) (np_then (np_blk (np_then (np_then (np_blk (np_blk (np_then (np_then (np_blk (np_then np_body)))))))))) rfl ?_
                                    refine a_skip 99 rfl (by decide +kernel) (np_then (np_blk (np_then (np_then (np_blk (np_blk (np_then (np_then (np_blk (np_then np_body)))))))))) rfl ?_
                                    refine a_skip 100 rfl (by decide +kernel) (np_then (np_blk (np_then (np_then (np_blk (np_blk (np_then (np_then (np_blk (np_then np_body)))))))))) rfl ?_
                                    refine a_skip 101 rfl (by decide +kernel) (np_then (np_blk (np_then (np_then (np_blk (np_blk (np_then (np_then (np_blk (np_then np_body)))))))))) rfl ?_
                                    refine a_skip 102 rfl (by decide +kernel) (np_then (np_blk (np_then (np_then (np_blk (np_blk (np_then (np_then (np_blk (np_then np_body)))))))))) rfl ?_
                                    refine a_takeP 103 rfl (by decide +kernel) (np_then (np_blk (np_then (np_then (np_blk (np_blk (np_then (np_then (np_blk (np_then np_body)))))))))) rfl (y_pick rfl rfl) ?_
                                    refine a_takeP 104 rfl (by decide +kernel) (np_then (np_blk (np_then (np_then (np_blk (np_blk (np_then (np_then (np_blk (np_then np_body)))))))))) rfl (y_pick rfl rfl) ?_
                                    refine a_takeP 105 rfl (by decide +kernel) (np_then (np_blk (np_then (np_then (np_blk (np_blk (np_then (np_then (np_blk (np_then np_body)))))))))) rfl (y_pick rfl rfl) ?_
                                    refine a_takeP 106 rfl (by decide +kernel) (np_then (np_blk (np_then (np_then (np_blk (np_blk (np_then (np_then (np_blk (np_then np_body)))))))))) rfl (y_pick rfl rfl) ?_
                                    refine a_takeP 107 rfl (by decide +kernel) (np_then (np_blk (np_then (np_then (np_blk (np_blk (np_then (np_then (np_blk (np_then np_body)))))))))) rfl (y_pick rfl rfl) ?_
                                    refine a_takeP 108 rfl (by decide +kernel) (np_then (np_blk (np_then (np_then (np_blk (np_blk (np_then (np_then (np_blk (np_then np_body)))))))))) rfl (y_pick rfl rfl) ?_
                                    refine a_done (by decide +kernel) ?_
                                    refine q_then ?_
                                    refine c_f rfl rfl ?_
                                    refine c_skip (q_blk ?_)
                                    exact hJx_2 () _ _ _ _ [0, 0] H rfl ⟨rfl, rfl, rfl, rfl, rfl, rfl, rfl, True.intro⟩ rfl
                              · refine a_takeP 63 rfl (by decide +kernel) (np_then (np_blk (np_then (np_then (np_blk (np_blk (np_then (np_then (np_blk (np_then np_body)))))))))) rfl (yF (y_eql rfl rfl) c_32) ?_
                                refine a_takeP 64 rfl (by decide +kernel) (np_then (np_blk (np_then (np_then (np_blk (np_blk (np_then (np_then (np_blk (np_then np_body)))))))))) rfl (y_move rfl) ?_
                                refine a_skip 65 rfl (by decide +kernel) (np_then (np_blk (np_then (np_then (np_blk (np_blk (np_then (np_then (np_blk (np_then np_body)))))))))) rfl ?_
                                refine a_skip 66 rfl (by decide +kernel) (np_then (np_blk (np_then (np_then (np_blk (np_blk (np_then (np_then (np_blk (np_then np_body)))))))))) rfl ?_
                                refine a_skip 67 rfl (by decide +kernel) (np_then (np_blk (np_then (np_then (np_blk (np_blk (np_then (np_then (np_blk (np_then np_body)))))))))) rfl ?_
                                refine a_skip 68 rfl (by decide +kernel) (np_then (np_blk (np_then (np_then (np_blk (np_blk (np_then (np_then (np_blk (np_then np_body)))))))))) rfl ?_
                                refine a_skip 69 rfl (by decide +kernel) (np_then (np_blk (np_then (np_then (np_blk (np_blk (np_then (np_then (np_blk (np_then np_body)))))))))) rfl ?_
                                refine a_skip 70 rfl (by decide +kernel) (np_then (np_blk (np_then (np_then (np_blk (np_blk (np_then (np_then (np_blk (np_then np_body)))))))))) rfl ?_
                                refine a_skip 71 rfl (by decide +kernel) (np_then (np_blk (np_then (np_then (np_blk (np_blk (np_then (np_then (np_blk (np_then np_body)))))))))) rfl ?_
                                refine a_skip 72 rfl (by decide +kernel) (np_then (np_blk (np_then (np_then (np_blk (np_blk (np_then (np_then (np_blk (np_then np_body)))))))))) rfl ?_
                                refine a_skip 73 rfl (by decide +kernel) (np_then (np_blk (np_then (np_then (np_blk (np_blk (np_then (np_then (np_blk (np_then np_body)))))))))) rfl ?_
                                refine a_skip 74 rfl (by decide +kernel) (np_then (np_blk (np_then (np_then (np_blk (np_blk (np_then (np_then (np_blk (np_then np_body)))))))))) rfl ?_
                                refine a_skip 75 rfl (by decide +kernel) (np_then (np_blk (np_then (np_then (np_blk (np_blk (np_then (np_then (np_blk (np_then np_body)))))))))) rfl ?_
                                refine a_skip 76 rfl (by decide +kernel) (np_then (np_blk (np_then (np_then (np_blk (np_blk (np_then (np_then (np_blk (np_then np_body)))))))))) rfl ?_
                                refine a_skip 77 rfl (by decide +kernel) (np_then (np_blk (np_then (np_then (np_blk (np_blk (np_then (np_then (np_blk (np_then np_body)))))))))) rfl ?_
                                refine a_skip 78 rfl (by decide +kernel) (np_then (np_blk (np_then (np_then (np_blk (np_blk (np_then (np_then (np_blk (np_then np_body)))))))))) rfl ?_
                                refine a_skip 79 rfl (by decide +kernel) (np_then (np_blk (np_then (np_then (np_blk (np_blk (np_then (np_then (np_blk (np_then np_body)))))))))) rfl ?_
                                refine a_skip 80 rfl (by decide +kernel) (np_then (np_blk (np_then (np_then (np_blk (np_blk (np_then (np_then (np_blk (np_then np_body)))))))))) rfl ?_
                                refine a_skip 81 rfl (by decide +kernel) (np_then (np_blk (np_then (np_then (np_blk (np_blk (np_then (np_then (np_blk (np_then np_body)))))))))) rfl ?_
                                refine a_skip 82 rfl (by decide +kernel) (np_then (np_blk (np_then (np_then (np_blk (np_blk (np_then (np_then (np_blk (np_then np_body)))))))))) rfl ?_
                                refine a_skip 83 rfl (by decide +kernel) (np_then (np_blk (np_then (np_then (np_blk (np_blk (np_then (np_then (np_blk (np_then np_body)))))))))) rfl ?_
                                refine a_skip 84 rfl (by decide +kernel) (np_then (np_blk (np_then (np_then (np_blk (np_blk (np_then (np_then (np_blk (np_then np_body)))))))))) rfl ?_
                                refine a_skip 85 rfl (by decide +kernel) (np_then (np_blk (np_then (np_then (np_blk (np_blk (np_then (np_then (np_blk (np_then np_body)))))))))) rfl ?_
                                refine a_skip 86 rfl (by decide +kernel) (np_then (np_blk (np_then (np_then (np_blk (np_blk (np_then (np_then (np_blk (np_then np_body)))))))))) rfl ?_
                                refine a_skip 87 rfl (by decide +kernel) (np_then (np_blk (np_then (np_then (np_blk (np_blk (np_then (np_then (np_blk (np_then np_body)))))))))) rfl ?_
                                refine a_skip 88 rfl (by decide +kernel) (np_then (np_blk (np_then (np_then (np_blk (np_blk (np_then (np_then (np_blk (np_then np_body)))))))))) rfl ?_
                                refine a_skip 89 rfl (by decide +kernel) (np_then (np_blk (np_then (np_then (np_blk (np_blk (np_then (np_then (np_blk (np_then np_body)))))))))) rfl ?_
                                refine a_skip 90 rfl (by decide +kernel) (np_then (np_blk (np_then (np_then (np_blk (np_blk (np_then (np_then (np_blk (np_then np_body)))))))))) rfl ?_
                                refine a_skip 91 rfl (by decide +kernel) (np_then (np_blk (np_then (np_then (np_blk (np_blk (np_then (np_then (np_blk (np_then np_body)))))))))) rfl ?_
                                refine a_skip 92 rfl (by decide +kernel) (np_then (np_blk (np_then (np_then (np_blk (np_blk (np_then (np_then (np_blk (np_then np_body)))))))))) rfl ?_
                                refine a_skip 93 rfl (by decide +kernel) (np_then (np_blk (np_then (np_then (np_blk (np_blk (np_then (np_then (np_blk (np_then np_body)))))))))) rfl ?_
                                refine a_skip 94 rfl (by decide +kernel) (np_then (np_blk (np_then (np_then (np_blk (np_blk (np_then (np_then (np_blk (np_then np_body)))))))))) rfl ?_
                                refine a_skip 95 rfl (by decide +kernel) (np_then (np_blk (np_then (np_then (np_blk (np_blk (np_then (np_then (np_blk (np_then np_body)))))))))) rfl ?_
                                refine a_skip 96 rfl (by decide +kernel) (np_then (np_blk (np_then (np_then (np_blk (np_blk (np_then (np_then (np_blk (np_then np_body)))))))))) rfl ?_
                                refine a_skip 97 rfl (by decide +kernel) (np_then (np_blk (np_then (np_then (np_blk (np_blk (np_then (np_then (np_blk (np_then np_body)))))))))) rfl ?_
                                refine a_skip 98 rfl (by decide +kernel) (np_then (np_blk (np_then (np_then (np_blk (np_blk (np_then (np_then (np_blk (np_then np_body)))))))))) rfl ?_
                                refine a_skip 99 rfl (by decide +kernel) (np_then (np_blk (np_then (np_then (np_blk (np_blk (np_then (np_then (np_blk (np_then np_body)))))))))) rfl ?_
                                refine a_skip 100 rfl (by decide +kernel) (np_then (np_blk (np_then (np_then (np_blk (np_blk (np_then (np_then (np_blk (np_then np_body)))))))))) rfl ?_
                                refine a_skip 101 rfl (by decide +kernel) (np_then (np_blk (np_then (np_then (np_blk (np_blk (np_then (np_then (np_blk (np_then np_body)))))))))) rfl ?_
                                refine a_skip 102 rfl (by decide +kernel) (np_then (np_blk (np_then (np_then (np_blk (np_blk (np_then (np_then (np_blk (np_then np_body)))))))))) rfl ?_
                                refine a_skip 103 rfl (by decide +kernel) (np_then (np_blk (np_then (np_then (np_blk (np_blk (np_then (np_then (np_blk (np_then np_body)))))))))) rfl ?_
                                refine a_skip 104 rfl (by decide +kernel) (np_then (np_blk (np_then (np_then (np_blk (np_blk (np_then (np_then (np_blk (np_then np_body)))))))))) rfl ?_
                                refine a_takeP 105 rfl (by decide +kernel) (np_then (np_blk (np_then (np_then (np_blk (np_blk (np_then (np_then (np_blk (np_then np_body)))))))))) rfl (y_pick rfl rfl) ?_
                                refine a_takeP 106 rfl (by decide +kernel) (np_then (np_blk (np_then (np_then (np_blk (np_blk (np_then (np_then (np_blk (np_then np_body)))))))))) rfl (y_pick rfl rfl) ?_
                                refine a_takeP 107 rfl (by decide +kernel) (np_then (np_blk (np_then (np_then (np_blk (np_blk (np_then (np_then (np_blk (np_then np_body)))))))))) rfl (y_pick rfl rfl) ?_
                                refine a_takeP 108 rfl (by decide +kernel) (np_then (np_blk (np_then (np_then (np_blk (np_blk (np_then (np_then (np_blk (np_then np_body)))))))))) rfl (y_pick rfl rfl) ?_
                                refine a_done (by decide +kernel) ?_
                                refine q_then ?_
                                refine c_f rfl rfl ?_
                                refine c_skip (q_blk ?_)
                                exact hJx_2 () _ _ _ _ [0, 0] H rfl ⟨rfl, rfl, rfl, rfl, rfl, rfl, rfl, True.intro⟩ rfl
                          · refine a_takeP 37 rfl (by decide +kernel) (np_then (np_blk (np_then (np_then (np_blk (np_blk (np_then (np_then (np_blk (np_then np_body)))))))))) rfl (yF (y_gtr rfl rfl) c_22) ?_
                            refine a_takeP 38 rfl (by decide +kernel) (np_then (np_blk (np_then (np_then (np_blk (np_blk (np_then (np_then (np_blk (np_then np_body)))))))))) rfl (y_move rfl) ?_
                            refine a_skip 39 rfl (by decide +kernel) (np_then (np_blk (np_then (np_then (np_blk (np_blk (np_then (np_then (np_blk (np_then np_body)))))))))) rfl ?_
                            refine a_skip 40 rfl (by decide +kernel) (np_then (np_blk (np_then (np_then (np_blk (np_blk (np_then (np_then (np_blk (np_then np_body)))))))))) rfl ?_
                            refine a_skip 41 rfl (by decide +kernel) (np_then (np_blk (np_then (np_then (np_blk (np_blk (np_then (np_then (np_blk (np_then np_body)))))))))) rfl ?_
                            refine a_skip 42 rfl (by decide +kernel) (np_then (np_blk (np_then (np_then (np_blk (np_blk (np_then (np_then (np_blk (np_then np_body)))))))))) rfl ?_
                            refine a_skip 43 rfl (by decide +kernel) (np_then (np_blk (np_then (np_then (np_blk (np_blk (np_then (np_then (np_blk (np_then np_body)))))))))) rfl ?_
                            refine a_skip 44 rfl (by decide +kernel) (np_then (np_blk (np_then (np_then (np_blk (np_blk (np_then (np_then (np_blk (np_then np_body)))))))))) rfl ?_
                            refine a_skip 45 rfl (by decide +kernel) (np_then (np_blk (np_then (np_then (np_blk (np_blk (np_then (np_then (np_blk (np_then np_body)))))))))) rfl ?_
                            refine a_skip 46 rfl (by decide +kernel) (np_then (np_blk (np_then (np_then (np_blk (np_blk (np_then (np_then (np_blk (np_then np_body)))))))))) rfl ?_
                            refine a_skip 47 rfl (by decide +kernel) (np_then (np_blk (np_then (np_then (np_blk (np_blk (np_then (np_then (np_blk (np_then np_body)))))))))) rfl ?_
                            refine a_skip 48 rfl (by decide +kernel) (np_then (np_blk (np_then (np_then (np_blk (np_blk (np_then (np_then (np_blk (np_then np_body)))))))))) rfl ?_
                            refine a_skip 49 rfl (by decide +kernel) (np_then (np_blk (np_then (np_then (np_blk (np_blk (np_then (np_then (np_blk (np_then np_body)))))))))) rfl ?_
                            refine a_skip 50 rfl (by decide +kernel) (np_then (np_blk (np_then (np_then (np_blk (np_blk (np_then (np_then (np_blk (np_then np_body)))))))))) rfl ?_
                            refine a_skip 51 rfl (by decide +kernel) (np_then (np_blk (np_then (np_then (np_blk (np_blk (np_then (np_then (np_blk (np_then np_body)))))))))) rfl ?_
                            refine a_skip 52 rfl (by decide +kernel) (np_then (np_blk (np_then (np_then (np_blk (np_blk (np_then (np_then (np_blk (np_then np_body)))))))))) rfl ?_
                            refine a_skip 53 rfl (by decide +kernel) (np_then (np_blk (np_then (np_then (np_blk (np_blk (np_then (np_then (np_blk (np_then np_body)))))))))) rfl ?_
                            refine a_skip 54 rfl (by decide +kernel) (np_then (np_blk (np_then (np_then (np_blk (np_blk (np_then (np_then (np_blk (np_then np_body)))))))))) rfl ?_
                            refine a_skip 55 rfl (by decide +kernel) (np_then (np_blk (np_then (np_then (np_blk (np_blk (np_then (np_then (np_blk (np_then np_body)))))))))) rfl ?_
                            refine a_skip 56 rfl (by decide +kernel) (np_then (np_blk (np_then (np_then (np_blk (np_blk (np_then (np_then (np_blk (np_then np_body)))))))))) rfl ?_
                            refine a_skip 57 rfl (by decide +kernel) (np_then (np_blk (np_then (np_then (np_blk (np_blk (np_then (np_then (np_blk (np_then np_body)))))))))) rfl ?_
                            refine a_skip 58 rfl (by decide +kernel) (np_then (np_blk (np_then (np_then (np_blk (np_blk (np_then (np_then (np_blk (np_then np_body)))))))))) rfl ?_
                            refine a_skip 59 rfl (by decide +kernel) (np_then (np_blk (np_then (np_then (np_blk (np_blk (np_then (np_then (np_blk (np_then np_body)))))))))) rfl ?_
                            refine a_skip 60 rfl (by decide +kernel) (np_then (np_blk (np_then (np_then (np_blk (np_blk (np_then (np_then (np_blk (np_then np_body)))))))))) rfl ?_
                            refine a_skip 61 rfl (by decide +kernel) (np_then (np_blk (np_then (np_then (np_blk (np_blk (np_then (np_then (np_blk (np_then np_body)))))))))) rfl ?_
                            refine a_skip 62 rfl (by decide +kernel) (np_then (np_blk (np_then (np_then (np_blk (np_blk (np_then (np_then (np_blk (np_then np_body)))))))))) rfl ?_
                            refine a_skip 63 rfl (by decide +kernel) (np_then (np_blk (np_then (np_then (np_blk (np_blk (np_then (np_then (np_blk (np_then np_body)))))))))) rfl ?_
                            refine a_skip 64 rfl (by decide +kernel) (np_then (np_blk (np_then (np_then (np_blk (np_blk (np_then (np_then (np_blk (np_then np_body)))))))))) rfl ?_
                            refine a_skip 65 rfl (by decide +kernel) (np_then (np_blk (np_then (np_then (np_blk (np_blk (np_then (np_then (np_blk (np_then np_body)))))))))) rfl ?_
                            refine a_skip 66 rfl (by decide +kernel) (np_then (np_blk (np_then (np_then (np_blk (np_blk (np_then (np_then (np_blk (np_then np_body)))))))))) rfl ?_
                            refine a_skip 67 rfl (by decide +kernel) (np_then (np_blk (np_then (np_then (np_blk (np_blk (np_then (np_then (np_blk (np_then np_body)))))))))) rfl ?_
                            refine a_skip 68 rfl (by decide +kernel) (np_then (np_blk (np_then (np_then (np_blk (np_blk (np_then (np_then (np_blk (np_then np_body)))))))))) rfl ?_
                            refine a_skip 69 rfl (by decide +kernel) (np_then (np_blk (np_then (np_then (np_blk (np_blk (np_then (np_then (np_blk (np_then np_body)))))))))) rfl ?_
                            refine a_skip 70 rfl (by decide +kernel) (np_then (np_blk (np_then (np_then (np_blk (np_blk (np_then (np_then (np_blk (np_then np_body)))))))))) rfl ?_
                            refine a_skip 71 rfl (by decide +kernel) (np_then (np_blk (np_then (np_then (np_blk (np_blk (np_then (np_then (np_blk (np_then np_body)))))))))) rfl ?_
                            refine a_skip 72 rfl (by decide +kernel) (np_then (np_blk (np_then (np_then (np_blk (np_blk (np_then (np_then (np_blk (np_then np_body)))))))))) rfl ?_
                            refine a_skip 73 rfl (by decide +kernel) (np_then (np_blk (np_then (np_then (np_blk (np_blk (np_then (np_then (np_blk (np_then np_body)))))))))) rfl ?_
                            refine a_skip 74 rfl (by decide +kernel) (np_then (np_blk (np_then (np_then (np_blk (np_blk (np_then (np_then (np_blk (np_then np_body)))))))))) rfl ?_
                            refine a_skip 75 rfl (by decide +kernel) (np_then (np_blk (np_then (np_then (np_blk (np_blk (np_then (np_then (np_blk (np_then np_body)))))))))) rfl ?_
                            refine a_skip 76 rfl (by decide +kernel) (np_then (np_blk (np_then (np_then (np_blk (np_blk (np_then (np_then (np_blk (np_then np_body)))))))))) rfl ?_
                            refine a_skip 77 rfl (by decide +kernel) (np_then (np_blk (np_then (np_then (np_blk (np_blk (np_then (np_then (np_blk (np_then np_body)))))))))) rfl ?_
                            refine a_skip 78 rfl (by decide +kernel) (np_then (np_blk (np_then (np_then (np_blk (np_blk (np_then (np_then (np_blk (np_then np_body)))))))))) rfl ?_
                            refine a_skip 79 rfl (by decide +kernel) (np_then (np_blk (np_then (np_then (np_blk (np_blk (np_then (np_then (np_blk (np_then np_body)))))))))) rfl ?_
                            refine a_skip 80 rfl (by decide +kernel) (np_then (np_blk (np_then (np_then (np_blk (np_blk (np_then (np_then (np_blk (np_then np_body)))))))))) rfl ?_
                            refine a_skip 81 rfl (by decide +kernel) (np_then (np_blk (np_then (np_then (np_blk (np_blk (np_then (np_then (np_blk (np_then np_body)))))))))) rfl ?_
                            refine a_skip 82 rfl (by decide +kernel) (np_then (np_blk (np_then (np_then (np_blk (np_blk (np_then (np_then (np_blk (np_then np_body)))))))))) rfl ?_
                            refine a_skip 83 rfl (by decide +kernel) (np_then (np_blk (np_then (np_then (np_blk (np_blk (np_then (np_then (np_blk (np_then np_body)))))))))) rfl ?_
                            refine a_skip 84 rfl (by decide +kernel) (np_then (np_blk (np_then (np_then (np_blk (np_blk (np_then (np_then (np_blk (np_then np_body)))))))))) rfl ?_
                            refine a_skip 85 rfl (by decide +kernel) (np_then (np_blk (np_then (np_then (np_blk (np_blk (np_then (np_then (np_blk (np_then np_body)))))))))) rfl ?_
                            refine a_skip 86 rfl (by decide +kernel) (np_then (np_blk (np_then (np_then (np_blk (np_blk (np_then (np_then (np_blk (np_then np_body)))))))))) rfl ?_
                            refine a_skip 87 rfl (by decide +kernel) (np_then (np_blk (np_then (np_then (np_blk (np_blk (np_then (np_then (np_blk (np_then np_body)))))))))) rfl ?_
                            refine a_skip 88 rfl (by decide +kernel) (np_then (np_blk (np_then (np_then (np_blk (np_blk (np_then (np_then (np_blk (np_then np_body)))))))))) rfl ?_
                            refine a_skip 89 rfl (by decide +kernel) (np_then (np_blk (np_then (np_then (np_blk (np_blk (np_then (np_then (np_blk (np_then np_body)))))))))) rfl ?_
                            refine a_skip 90 rfl (by decide +kernel) (np_then (np_blk (np_then (np_then (np_blk (np_blk (np_then (np_then (np_blk (np_then np_body)))))))))) rfl ?_
                            refine a_skip 91 rfl (by decide +kernel) (np_then (np_blk (np_then (np_then (np_blk (np_blk (np_then (np_then (np_blk (np_then np_body)))))))))) rfl ?_
                            refine a_skip 92 rfl (by decide +kernel) (np_then (np_blk (np_then (np_then (np_blk (np_blk (np_then (np_then (np_blk (np_then np_body)))))))))) rfl ?_
                            refine a_skip 93 rfl (by decide +kernel) (np_then (np_blk (np_then (np_then (np_blk (np_blk (np_then (np_then (np_blk (np_then np_body)))))))))) rfl ?_
                            refine a_skip 94 rfl (by decide +kernel) (np_then (np_blk (np_then (np_then (np_blk (np_blk (np_then (np_then (np_blk (np_then np_body)))))))))) rfl ?_
                            refine a_skip 95 rfl (by decide +kernel) (np_then (np_blk (np_then (np_then (np_blk (np_blk (np_then (np_then (np_blk (np_then np_body)))))))))) rfl ?_
                            refine a_skip 96 rfl (by decide +kernel) (np_then (np_blk (np_then (np_then (np_blk (np_blk (np_then (np_then (np_blk (np_then np_body)))))))))) rfl ?_
                            refine a_skip 97 rfl (by decide +kernel) (np_then (np_blk (np_then (np_then (np_blk (np_blk (np_then (np_then (np_blk (np_then np_body)))))))))) rfl ?_
                            refine a_skip 98 rfl (by decide +kernel) (np_then (np_blk (np_then (np_then (np_blk (np_blk (np_then (np_then (np_blk (np_then np_body)))))))))) rfl ?_
                            refine a_skip 99 rfl (by decide +kernel) (np_then (np_blk (np_then (np_then (np_blk (np_blk (np_then (np_then (np_blk (np_then np_body)))))))))) rfl ?_
                            refine a_skip 100 rfl (by decide +kernel) (np_then (np_blk (np_then (np_then (np_blk (np_blk (np_then (np_then (np_blk (np_then np_body)))))))))) rfl ?_
                            refine a_skip 101 rfl (by decide +kernel) (np_then (np_blk (np_then (np_then (np_blk (np_blk (np_then (np_then (np_blk (np_then np_body)))))))))) rfl ?_
                            refine a_skip 102 rfl (by decide +kernel) (np_then (np_blk (np_then (np_then (np_blk (np_blk (np_then (np_then (np_blk (np_then np_body)))))))))) rfl ?_
                            refine a_skip 103 rfl (by decide +kernel) (np_then (np_blk (np_then (np_then (np_blk (np_blk (np_then (np_then (np_blk (np_then np_body)))))))))) rfl ?_
                            refine a_skip 104 rfl (by decide +kernel) (np_then (np_blk (np_then (np_then (np_blk (np_blk (np_then (np_then (np_blk (np_then np_body)))))))))) rfl ?_
                            refine a_skip 105 rfl (by decide +kernel) (np_then (np_blk (np_then (np_then (np_blk (np_blk (np_then (np_then (np_blk (np_then np_body)))))))))) rfl ?_
                            refine a_skip 106 rfl (by decide +kernel) (np_then (np_blk (np_then (np_then (np_blk (np_blk (np_then (np_then (np_blk (np_then np_body)))))))))) rfl ?_
                            refine a_takeP 107 rfl (by decide +kernel) (np_then (np_blk (np_then (np_then (np_blk (np_blk (np_then (np_then (np_blk (np_then np_body)))))))))) rfl (y_pick rfl rfl) ?_
                            refine a_takeP 108 rfl (by decide +kernel) (np_then (np_blk (np_then (np_then (np_blk (np_blk (np_then (np_then (np_blk (np_then np_body)))))))))) rfl (y_pick rfl rfl) ?_
                            refine a_done (by decide +kernel) ?_
                            refine q_then ?_
                            refine c_f rfl rfl ?_
                            refine c_skip (q_blk ?_)
                            exact hJx_2 () _ _ _ _ [0, 0] H rfl ⟨rfl, rfl, rfl, rfl, rfl, rfl, rfl, True.intro⟩ rfl
                      · refine a_take 12 rfl (by decide +kernel) (np_then (np_blk (np_then (np_then (np_blk (np_blk (np_then (np_then (np_blk (np_then np_body)))))))))) rfl (y_ld rfl) (hc_V 0 rfl ht_4) ?_
                        refine a_takeP 13 rfl (by decide +kernel) (np_then (np_blk (np_then (np_then (np_blk (np_blk (np_then (np_then (np_blk (np_then np_body)))))))))) rfl (yB (y_not rfl) rfl) ?_
                        refine a_takeP 14 rfl (by decide +kernel) (np_then (np_blk (np_then (np_then (np_blk (np_blk (np_then (np_then (np_blk (np_then np_body)))))))))) rfl (y_move rfl) ?_
                        refine a_skip 15 rfl (by decide +kernel) (np_then (np_blk (np_then (np_then (np_blk (np_blk (np_then (np_then (np_blk (np_then np_body)))))))))) rfl ?_
                        refine a_skip 16 rfl (by decide +kernel) (np_then (np_blk (np_then (np_then (np_blk (np_blk (np_then (np_then (np_blk (np_then np_body)))))))))) rfl ?_
                        refine a_skip 17 rfl (by decide +kernel) (np_then (np_blk (np_then (np_then (np_blk (np_blk (np_then (np_then (np_blk (np_then np_body)))))))))) rfl ?_
                        refine a_skip 18 rfl (by decide +kernel) (np_then (np_blk (np_then (np_then (np_blk (np_blk (np_then (np_then (np_blk (np_then np_body)))))))))) rfl ?_
                        refine a_skip 19 rfl (by decide +kernel) (np_then (np_blk (np_then (np_then (np_blk (np_blk (np_then (np_then (np_blk (np_then np_body)))))))))) rfl ?_
                        refine a_skip 20 rfl (by decide +kernel) (np_then (np_blk (np_then (np_then (np_blk (np_blk (np_then (np_then (np_blk (np_then np_body)))))))))) rfl ?_
                        refine a_skip 21 rfl (by decide +kernel) (np_then (np_blk (np_then (np_then (np_blk (np_blk (np_then (np_then (np_blk (np_then np_body)))))))))) rfl ?_
                        refine a_skip 22 rfl (by decide +kernel) (np_then (np_blk (np_then (np_then (np_blk (np_blk (np_then (np_then (np_blk (np_then np_body)))))))))) rfl ?_
                        refine a_skip 23 rfl (by decide +kernel) (np_then (np_blk (np_then (np_then (np_blk (np_blk (np_then (np_then (np_blk (np_then np_body)))))))))) rfl ?_
                        refine a_skip 24 rfl (by decide +kernel) (np_then (np_blk (np_then (np_then (np_blk (np_blk (np_then (np_then (np_blk (np_then np_body)))))))))) rfl ?_
                        refine a_skip 25 rfl (by decide +kernel) (np_then (np_blk (np_then (np_then (np_blk (np_blk (np_then (np_then (np_blk (np_then np_body)))))))))) rfl ?_
                        refine a_skip 26 rfl (by decide +kernel) (np_then (np_blk (np_then (np_then (np_blk (np_blk (np_then (np_then (np_blk (np_then np_body)))))))))) rfl ?_
                        refine a_skip 27 rfl (by decide +kernel) (np_then (np_blk (np_then (np_then (np_blk (np_blk (np_then (np_then (np_blk (np_then np_body)))))))))) rfl ?_
                        refine a_skip 28 rfl (by decide +kernel) (np_then (np_blk (np_then (np_then (np_blk (np_blk (np_then (np_then (np_blk (np_then np_body)))))))))) rfl ?_
                        refine a_skip 29 rfl (by decide +kernel) (np_then (np_blk (np_then (np_then (np_blk (np_blk (np_then (np_then (np_blk (np_then np_body)))))))))) rfl ?_
                        refine a_skip 30 rfl (by decide +kernel) (np_then (np_blk (np_then (np_then (np_blk (np_blk (np_then (np_then (np_blk (np_then np_body)))))))))) rfl ?_
                        refine a_skip 31 rfl (by decide +kernel) (np_then (np_blk (np_then (np_then (np_blk (np_blk (np_then (np_then (np_blk (np_then np_body)))))))))) rfl ?_
                        refine a_skip 32 rfl (by decide +kernel) (np_then (np_blk (np_then (np_then (np_blk (np_blk (np_then (np_then (np_blk (np_then np_body)))))))))) rfl ?_
                        refine a_skip 33 rfl (by decide +kernel) (np_then (np_blk (np_then (np_then (np_blk (np_blk (np_then (np_then (np_blk (np_then np_body)))))))))) rfl ?_
                        refine a_takeP 34 rfl (by decide +kernel) (np_then (np_blk (np_then (np_then (np_blk (np_blk (np_then (np_then (np_blk (np_then np_body)))))))))) rfl (y_pick rfl rfl) ?_
                        refine a_takeP 35 rfl (by decide +kernel) (np_then (np_blk (np_then (np_then (np_blk (np_blk (np_then (np_then (np_blk (np_then np_body)))))))))) rfl (y_move rfl) ?_
                        refine a_skip 36 rfl (by decide +kernel) (np_then (np_blk (np_then (np_then (np_blk (np_blk (np_then (np_then (np_blk (np_then np_body)))))))))) rfl ?_
                        refine a_skip 37 rfl (by decide +kernel) (np_then (np_blk (np_then (np_then (np_blk (np_blk (np_then (np_then (np_blk (np_then np_body)))))))))) rfl ?_
                        refine a_skip 38 rfl (by decide +kernel) (np_then (np_blk (np_then (np_then (np_blk (np_blk (np_then (np_then (np_blk (np_then np_body)))))))))) rfl ?_
                        refine a_skip 39 rfl (by decide +kernel) (np_then (np_blk (np_then (np_then (np_blk (np_blk (np_then (np_then (np_blk (np_then np_body)))))))))) rfl ?_
                        refine a_skip 40 rfl (by decide +kernel) (np_then (np_blk (np_then (np_then (np_blk (np_blk (np_then (np_then (np_blk (np_then np_body)))))))))) rfl ?_
                        refine a_skip 41 rfl (by decide +kernel) (np_then (np_blk (np_then (np_then (np_blk (np_blk (np_then (np_then (np_blk (np_then np_body)))))))))) rfl ?_
                        refine a_skip 42 rfl (by decide +kernel) (np_then (np_blk (np_then (np_then (np_blk (np_blk (np_then (np_then (np_blk (np_then np_body)))))))))) rfl ?_
                        refine a_skip 43 rfl (by decide +kernel) (np_then (np_blk (np_then (np_then (np_blk (np_blk (np_then (np_then (np_blk (np_then np_body)))))))))) rfl ?_
                        refine a_skip 44 rfl (by decide +kernel) (np_then (np_blk (np_then (np_then (np_blk (np_blk (np_then (np_then (np_blk (np_then np_body)))))))))) rfl ?_
                        refine a_skip 45 rfl (by decide +kernel) (np_then (np_blk (np_then (np_then (np_blk (np_blk (np_then (np_then (np_blk (np_then np_body)))))))))) rfl ?_
                        refine a_skip 46 rfl (by decide +kernel) (np_then (np_blk (np_then (np_then (np_blk (np_blk (np_then (np_then (np_blk (np_then np_body)))))))))) rfl ?_
                        refine a_skip 47 rfl (by decide +kernel) (np_then (np_blk (np_then (np_then (np_blk (np_blk (np_then (np_then (np_blk (np_then np_body)))))))))) rfl ?_
                        refine a_skip 48 rfl (by decide +kernel) (np_then (np_blk (np_then (np_then (np_blk (np_blk (np_then (np_then (np_blk (np_then np_body)))))))))) rfl ?_
                        refine a_skip 49 rfl (by decide +kernel) (np_then (np_blk (np_then (np_then (np_blk (np_blk (np_then (np_then (np_blk (np_then np_body)))))))))) rfl ?_
                        refine a_skip 50 rfl (by decide +kernel) (np_then (np_blk (np_then (np_then (np_blk (np_blk (np_then (np_then (np_blk (np_then np_body)))))))))) rfl ?_
                        refine a_skip 51 rfl (by decide +kernel) (np_then (np_blk (np_then (np_then (np_blk (np_blk (np_then (np_then (np_blk (np_then np_body)))))))))) rfl ?_
                        refine a_skip 52 rfl (by decide +kernel) (np_then (np_blk (np_then (np_then (np_blk (np_blk (np_then (np_then (np_blk (np_then np_body)))))))))) rfl ?_
                        refine a_skip 53 rfl (by decide +kernel) (np_then (np_blk (np_then (np_then (np_blk (np_blk (np_then (np_then (np_blk (np_then np_body)))))))))) rfl ?_
                        refine a_skip 54 rfl (by decide +kernel) (np_then (np_blk (np_then (np_then (np_blk (np_blk (np_then (np_then (np_blk (np_then np_body)))))))))) rfl ?_
                        refine a_skip 55 rfl (by decide +kernel) (np_then (np_blk (np_then (np_then (np_blk (np_blk (np_then (np_then (np_blk (np_then np_body)))))))))) rfl ?_
                        refine a_skip 56 rfl (by decide +kernel) (np_then (np_blk (np_then (np_then (np_blk (np_blk (np_then (np_then (np_blk (np_then np_body)))))))))) rfl ?_
                        refine a_skip 57 rfl (by decide +kernel) (np_then (np_blk (np_then (np_then (np_blk (np_blk (np_then (np_then (np_blk (np_then np_body)))))))))) rfl ?_
                        refine a_skip 58 rfl (by decide +kernel) (np_then (np_blk (np_then (np_then (np_blk (np_blk (np_then (np_then (np_blk (np_then np_body)))))))))) rfl ?_
                        refine a_skip 59 rfl (by decide +kernel) (np_then (np_blk (np_then (np_then (np_blk (np_blk (np_then (np_then (np_blk (np_then np_body)))))))))) rfl ?_
                        refine a_skip 60 rfl (by decide +kernel) (np_then (np_blk (np_then (np_then (np_blk (np_blk (np_then (np_then (np_blk (np_then np_body)))))))))) rfl ?_
                        refine a_skip 61 rfl (by decide +kernel) (np_then (np_blk (np_then (np_then (np_blk (np_blk (np_then (np_then (np_blk (np_then np_body)))))))))) rfl ?_
                        refine a_skip 62 rfl (by decide +kernel) (np_then (np_blk (np_then (np_then (np_blk (np_blk (np_then (np_then (np_blk (np_then np_body)))))))))) rfl ?_
                        refine a_skip 63 rfl (by decide +kernel) (np_then (np_blk (np_then (np_then (np_blk (np_blk (np_then (np_then (np_blk (np_then np_body)))))))))) rfl ?_
                        refine a_skip 64 rfl (by decide +kernel) (np_then (np_blk (np_then (np_then (np_blk (np_blk (np_then (np_then (np_blk (np_then np_body)))))))))) rfl ?_
                        refine a_skip 65 rfl (by decide +kernel) (np_then (np_blk (np_then (np_then (np_blk (np_blk (np_then (np_then (np_blk (np_then np_body)))))))))) rfl ?_
                        refine a_skip 66 rfl (by decide +kernel) (np_then (np_blk (np_then (np_then (np_blk (np_blk (np_then (np_then (np_blk (np_then np_body)))))))))) rfl ?_
                        refine a_skip 67 rfl (by decide +kernel) (np_then (np_blk (np_then (np_then (np_blk (np_blk (np_then (np_then (np_blk (np_then np_body)))))))))) rfl ?_
                        refine a_skip 68 rfl (by decide +kernel) (np_then (np_blk (np_then (np_then (np_blk (np_blk (np_then (np_then (np_blk (np_then np_body)))))))))) rfl ?_
                        refine a_skip 69 rfl (by decide +kernel) (np_then (np_blk (np_then (np_then (np_blk (np_blk (np_then (np_then (np_blk (np_then np_body)))))))))) rfl ?_
                        refine a_skip 70 rfl (by decide +kernel) (np_then (np_blk (np_then (np_then (np_blk (np_blk (np_then (np_then (np_blk (np_then np_body)))))))))) rfl ?_
                        refine a_skip 71 rfl (by decide +kernel) (np_then (np_blk (np_then (np_then (np_blk (np_blk (np_then (np_then (np_blk (np_then np_body)))))))))) rfl ?_
                        refine a_skip 72 rfl (by decide +kernel) (np_then (np_blk (np_then (np_then (np_blk (np_blk (np_then (np_then (np_blk (np_then np_body)))))))))) rfl ?_
                        refine a_skip 73 rfl (by decide +kernel) (np_then (np_blk (np_then (np_then (np_blk (np_blk (np_then (np_then (np_blk (np_then np_body)))))))))) rfl ?_
                        refine a_skip 74 rfl (by decide +kernel) (np_then (np_blk (np_then (np_then (np_blk (np_blk (np_then (np_then (np_blk (np_then np_body)))))))))) rfl ?_
                        refine a_skip 75 rfl (by decide +kernel) (np_then (np_blk (np_then (np_then (np_blk (np_blk (np_then (np_then (np_blk (np_then np_body)))))))))) rfl ?_
                        refine a_skip 76 rfl (by decide +kernel) (np_then (np_blk (np_then (np_then (np_blk (np_blk (np_then (np_then (np_blk (np_then np_body)))))))))) rfl ?_
                        refine a_skip 77 rfl (by decide +kernel) (np_then (np_blk (np_then (np_then (np_blk (np_blk (np_then (np_then (np_blk (np_then np_body)))))))))) rfl ?_
                        refine a_skip 78 rfl (by decide +kernel) (np_then (np_blk (np_then (np_then (np_blk (np_blk (np_then (np_then (np_blk (np_then np_body)))))))))) rfl ?_
                        refine a_skip 79 rfl (by decide +kernel) (np_then (np_blk (np_then (np_then (np_blk (np_blk (np_then (np_then (np_blk (np_then np_body)))))))))) rfl ?_
                        refine a_skip 80 rfl (by decide +kernel) (np_then (np_blk (np_then (np_then (np_blk (np_blk (np_then (np_then (np_blk (np_then np_body)))))))))) rfl ?_
                        refine a_skip 81 rfl (by decide +kernel) (np_then (np_blk (np_then (np_then (np_blk (np_blk (np_then (np_then (np_blk (np_then np_body)))))))))) rfl ?_
                        refine a_skip 82 rfl (by decide +kernel) (np_then (np_blk (np_then (np_then (np_blk (np_blk (np_then (np_then (np_blk (np_then np_body)))))))))) rfl ?_
                        refine a_skip 83 rfl (by decide +kernel) (np_then (np_blk (np_then (np_then (np_blk (np_blk (np_then (np_then (np_blk (np_then np_body)))))))))) rfl ?_
                        refine a_skip 84 rfl (by decide +kernel) (np_then (np_blk (np_then (np_then (np_blk (np_blk (np_then (np_then (np_blk (np_then np_body)))))))))) rfl ?_
                        refine a_skip 85 rfl (by decide +kernel) (np_then (np_blk (np_then (np_then (np_blk (np_blk (np_then (np_then (np_blk (np_then np_body)))))))))) rfl ?_
                        refine a_skip 86 rfl (by decide +kernel) (np_then (np_blk (np_then (np_then (np_blk (np_blk (np_then (np_then (np_blk (np_then np_body)))))))))) rfl ?_
                        refine a_skip 87 rfl (by decide +kernel) (np_then (np_blk (np_then (np_then (np_blk (np_blk (np_then (np_then (np_blk (np_then np_body)))))))))) rfl ?_
                        refine a_skip 88 rfl (by decide +kernel) (np_then (np_blk (np_then (np_then (np_blk (np_blk (np_then (np_then (np_blk (np_then np_body)))))))))) rfl ?_
                        refine a_skip 89 rfl (by decide +kernel) (np_then (np_blk (np_then (np_then (np_blk (np_blk (np_then (np_then (np_blk (np_then np_body)))))))))) rfl ?_
                        refine a_skip 90 rfl (by decide +kernel) (np_then (np_blk (np_then (np_then (np_blk (np_blk (np_then (np_then (np_blk (np_then np_body)))))))))) rfl ?_
                        refine a_skip 91 rfl (by decide +kernel) (np_then (np_blk (np_then (np_then (np_blk (np_blk (np_then (np_then (np_blk (np_then np_body)))))))))) rfl ?_
                        refine a_skip 92 rfl (by decide +kernel) (np_then (np_blk (np_then (np_then (np_blk (np_blk (np_then (np_then (np_blk (np_then np_body)))))))))) rfl ?_
                        refine a_skip 93 rfl (by decide +kernel) (np_then (np_blk (np_then (np_then (np_blk (np_blk (np_then (np_then (np_blk (np_then np_body)))))))))) rfl ?_
                        refine a_skip 94 rfl (by decide +kernel) (np_then (np_blk (np_then (np_then (np_blk (np_blk (np_then (np_then (np_blk (np_then np_body)))))))))) rfl ?_
                        refine a_skip 95 rfl (by decide +kernel) (np_then (np_blk (np_then (np_then (np_blk (np_blk (np_then (np_then (np_blk (np_then np_body)))))))))) rfl ?_
                        refine a_skip 96 rfl (by decide +kernel) (np_then (np_blk (np_then (np_then (np_blk (np_blk (np_then (np_then (np_blk (np_then np_body)))))))))) rfl ?_
                        refine a_skip 97 rfl (by decide +kernel) (np_then (np_blk (np_then (np_then (np_blk (np_blk (np_then (np_then (np_blk (np_then np_body)))))))))) rfl ?_
                        refine a_skip 98 rfl (by decide +kernel) (np_then (np_blk (np_then (np_then (np_blk (np_blk (np_then (np_then (np_blk (np_then np_body)))))))))) rfl ?_
                        refine a_skip 99 rfl (by decide +kernel) (np_then (np_blk (np_then (np_then (np_blk (np_blk (np_then (np_then (np_blk (np_then np_body)))))))))) rfl ?_
                        refine a_skip 100 rfl (by decide +kernel) (np_then (np_blk (np_then (np_then (np_blk (np_blk (np_then (np_then (np_blk (np_then np_body)))))))))) rfl ?_
                        refine a_skip 101 rfl (by decide +kernel) (np_then (np_blk (np_then (np_then (np_blk (np_blk (np_then (np_then (np_blk (np_then np_body)))))))))) rfl ?_
                        refine a_skip 102 rfl (by decide +kernel) (np_then (np_blk (np_then (np_then (np_blk (np_blk (np_then (np_then (np_blk (np_then np_body)))))))))) rfl ?_
                        refine a_skip 103 rfl (by decide +kernel) (np_then (np_blk (np_then (np_then (np_blk (np_blk (np_then (np_then (np_blk (np_then np_body)))))))))) rfl ?_
                        refine a_skip 104 rfl (by decide +kernel) (np_then (np_blk (np_then (np_then (np_blk (np_blk (np_then (np_then (np_blk (np_then np_body)))))))))) rfl ?_
                        refine a_skip 105 rfl (by decide +kernel) (np_then (np_blk (np_then (np_then (np_blk (np_blk (np_then (np_then (np_blk (np_then np_body)))))))))) rfl ?_
                        refine a_skip 106 rfl (by decide +kernel) (np_then (np_blk (np_then (np_then (np_blk (np_blk (np_then (np_then (np_blk (np_then np_body)))))))))) rfl ?_
                        refine a_skip 107 rfl (by decide +kernel) (np_then (np_blk (np_then (np_then (np_blk (np_blk (np_then (np_then (np_blk (np_then np_body)))))))))) rfl ?_
                        refine a_takeP 108 rfl (by decide +kernel) (np_then (np_blk (np_then (np_then (np_blk (np_blk (np_then (np_then (np_blk (np_then np_body)))))))))) rfl (y_pick rfl rfl) ?_
                        refine a_done (by decide +kernel) ?_
                        refine q_then ?_
                        refine c_t rfl rfl ?_
                        refine c_seq ?_
                        refine c_region ?_
                        refine s_p rfl (y_assign rfl) ?_
                        refine s_nil (q_then ?_)
                        refine c_ret (q_blk_ret (q_then_ret (q_then_ret (q_blk_ret (q_blk_ret (q_then_ret (q_then_ret (q_blk_ret (q_then_ret ?_)))))))))
                        exact q_ret Try.results8 (rv_tmp rfl rv_nil) ⟨_, rfl, H⟩
                  · clear H
                    intro Jx_3 hJx_3 H
                    refine c_seq ?_
                    refine c_region ?_
                    refine s_p rfl (y_move rfl) ?_
                    refine s_p rfl (y_move rfl) ?_
                    refine s_p rfl (y_len rfl) ?_
                    replace H := ite_e H
                    rcases H with ⟨c_48, H⟩ | ⟨c_48, H⟩
                    · refine s_p rfl (yT (y_lss rfl rfl) c_48) ?_
                      refine s_nil (q_then ?_)
                      refine c_t rfl rfl ?_
                      refine c_skip ?_
                      exact hJx_3 () _ _ _ _ [0, 0] H rfl ⟨rfl, rfl, rfl, rfl, rfl, rfl, rfl, True.intro⟩ rfl
                    · refine s_p rfl (yF (y_lss rfl rfl) c_48) ?_
                      refine s_nil (q_then ?_)
                      refine c_f rfl rfl ?_
                      refine c_exit (q_then_exit (q_then_exit (q_blk_out (q_blk ?_))))
                      exact hJx_1 (onx_2, atx_2) _ _ _ _ [0, 0] H rfl ⟨rfl, rfl, rfl, rfl, rfl, True.intro⟩ rfl
                · clear H
                  intro Jx_4 hJx_4 H
                  refine c_seq ?_
                  refine c_region ?_
                  refine s_p rfl (y_move rfl) ?_
                  refine s_p rfl (y_len rfl) ?_
                  refine s_p rfl (y_move rfl) ?_
                  replace H := ite_e H
                  rcases H with ⟨c_49, H⟩ | ⟨c_49, H⟩
                  · refine s_p rfl (yT (y_neq rfl rfl) c_49) ?_
                    refine s_nil (q_then ?_)
                    refine c_t rfl rfl ?_
                    refine c_seq ?_
                    refine c_region ?_
                    refine s_p rfl (y_assign rfl) ?_
                    refine s_nil (q_then ?_)
                    refine c_ret (q_then_ret (q_blk_ret (q_then_ret (q_then_ret (q_blk_ret (q_then_ret ?_))))))
                    exact q_ret Try.results8 (rv_tmp rfl rv_nil) ⟨_, rfl, H⟩
                  · refine s_p rfl (yF (y_neq rfl rfl) c_49) ?_
                    refine s_nil (q_then ?_)
                    refine c_f rfl rfl ?_
                    refine c_skip ?_
                    exact hJx_4 () _ _ _ _ [0, 0] H rfl ⟨rfl, rfl, rfl, rfl, rfl, rfl, True.intro⟩ rfl
              · clear H
                intro Jx_5 hJx_5 H
                refine c_seq ?_
                refine c_region ?_
                refine s_p rfl (y_assign rfl) ?_
                refine s_nil (q_then ?_)
                refine c_block ?_
                refine c_loop (fun z => ⟨435, [(0, .slice (some ⟨b_3, o, none⟩) n n_1), (3, .pointer (some ⟨b, 0, none⟩)), (4, .pointer (some ⟨b_1, 0, none⟩)), (5, .pointer (some ⟨b_2, 0, none⟩)), (6, .int .i64 i), (21, .int .i64 z.1), (22, .int .i64 z.2)]⟩) (fun z => [⟨b_1, 99, onx_2⟩, ⟨b_2, 101, atx_2⟩]) (0, 0) (idx := [0, 0]) H rfl ⟨rfl, rfl, rfl, rfl, rfl, rfl, rfl, True.intro⟩ rfl ?_
                clear H
                rintro Xx_2 hXx_2 ⟨n_5, v⟩ Sx_14 H
                refine c_join2 H (fun (J : Mem → Prop) (z : Unit) S => J S) (fun z => ⟨435, [(0, .slice (some ⟨b_3, o, none⟩) n n_1), (3, .pointer (some ⟨b, 0, none⟩)), (4, .pointer (some ⟨b_1, 0, none⟩)), (5, .pointer (some ⟨b_2, 0, none⟩)), (6, .int .i64 i), (21, .int .i64 n_5), (22, .int .i64 v)]⟩) (fun z => [⟨b_1, 99, onx_2⟩, ⟨b_2, 101, atx_2⟩]) ?_ ?_
                · clear H
                  rintro _ Sx_15 H
                  refine c_join2 H (fun (J : Int → Mem → Prop) (z : Int) S => J z S) (fun z => ⟨435, [(0, .slice (some ⟨b_3, o, none⟩) n n_1), (3, .pointer (some ⟨b, 0, none⟩)), (4, .pointer (some ⟨b_1, 0, none⟩)), (5, .pointer (some ⟨b_2, 0, none⟩)), (6, .int .i64 i), (21, .int .i64 z), (22, .int .i64 v)]⟩) (fun z => [⟨b_1, 99, onx_2⟩, ⟨b_2, 101, atx_2⟩]) ?_ ?_
                  · clear H
                    rintro n_6 Sx_16 H
                    refine c_region ?_
                    refine s_p rfl (y_move rfl) ?_
                    refine s_p rfl (y_add rfl rfl) ?_
                    refine s_p rfl (y_assign rfl) ?_
                    refine s_nil ?_
                    exact hXx_2 (n_6, IntKind.i64.wrap (v + 1)) _ _ _ _ [0, 0] H rfl ⟨rfl, rfl, rfl, rfl, rfl, rfl, rfl, True.intro⟩ rfl
                  · clear H
                    intro Jx_6 hJx_6 H
                    refine c_block ?_
                    refine c_seq ?_
                    refine c_region ?_
                    refine s_p rfl (y_assign rfl) ?_
                    refine s_nil (q_then ?_)
                    refine c_block ?_
                    refine c_loop (fun z => ⟨435, [(0, .slice (some ⟨b_3, o, none⟩) n n_1), (3, .pointer (some ⟨b, 0, none⟩)), (4, .pointer (some ⟨b_1, 0, none⟩)), (5, .pointer (some ⟨b_2, 0, none⟩)), (6, .int .i64 i), (21, .int .i64 z.1), (22, .int .i64 v), (23, .int .i64 z.2)]⟩) (fun z => [⟨b_1, 99, onx_2⟩, ⟨b_2, 101, atx_2⟩]) (n_5, 0) (idx := [0, 0]) H rfl ⟨rfl, rfl, rfl, rfl, rfl, rfl, rfl, rfl, True.intro⟩ rfl ?_
                    clear H
                    rintro Xx_3 hXx_3 ⟨n_7, s⟩ Sx_17 H
                    refine c_seq ?_
                    refine c_seq ?_
                    refine c_region ?_
                    refine s_p rfl (y_move rfl) ?_
                    replace H := ite_e H
                    rcases H with ⟨c_50, H⟩ | ⟨c_50, H⟩
                    · refine s_p rfl (yT (y_lss rfl rfl) c_50) ?_
                      refine s_nil (q_then ?_)
                      refine c_t rfl rfl ?_
                      refine c_skip (q_then ?_)
                      refine c_seq ?_
                      refine c_block ?_
                      refine c_seq ?_
                      refine c_region ?_
                      refine s_p rfl (y_move rfl) ?_
                      refine s_p rfl (y_move rfl) ?_
                      obtain ⟨c_51, c_52, H⟩ := H
                      refine s_p rfl (y_ixA rfl rfl c_51 c_52 rfl) ?_
                      obtain ⟨c_53, c_54, H⟩ := H
                      refine s_p rfl (y_ixA rfl rfl c_53 c_54 rfl) ?_
                      obtain ⟨t_19, ht_19, H⟩ := H
                      replace H := ib_e H
                      rcases H with ⟨rfl, H⟩ | ⟨rfl, H⟩
                      · refine s_v rfl (y_ld rfl) (hc_V 0 rfl ht_19) ?_
                        refine s_nil (q_then ?_)
                        refine c_t rfl rfl ?_
                        refine c_region ?_
                        refine s_p rfl (y_move rfl) ?_
                        refine s_p rfl (y_add rfl rfl) ?_
                        refine s_p rfl (y_assign rfl) ?_
                        refine s_nil (q_blk (q_then ?_))
                        refine c_region ?_
                        refine s_p rfl (y_move rfl) ?_
                        refine s_p rfl (y_add rfl rfl) ?_
                        refine s_p rfl (y_assign rfl) ?_
                        refine s_nil ?_
                        exact hXx_3 (IntKind.i64.wrap (n_7 + 1), IntKind.i64.wrap (s + 1)) _ _ _ _ [0, 0] H rfl ⟨rfl, rfl, rfl, rfl, rfl, rfl, rfl, rfl, True.intro⟩ rfl
                      · refine s_v rfl (y_ld rfl) (hc_V 0 rfl ht_19) ?_
                        refine s_nil (q_then ?_)
                        refine c_f rfl rfl ?_
                        refine c_skip (q_blk (q_then ?_))
                        refine c_region ?_
                        refine s_p rfl (y_move rfl) ?_
                        refine s_p rfl (y_add rfl rfl) ?_
                        refine s_p rfl (y_assign rfl) ?_
                        refine s_nil ?_
                        exact hXx_3 (n_7, IntKind.i64.wrap (s + 1)) _ _ _ _ [0, 0] H rfl ⟨rfl, rfl, rfl, rfl, rfl, rfl, rfl, rfl, True.intro⟩ rfl
                    · refine s_p rfl (yF (y_lss rfl rfl) c_50) ?_
                      refine s_nil (q_then ?_)
                      refine c_f rfl rfl ?_
                      refine c_exit (q_then_exit (q_then_exit (q_blk_out (q_blk ?_))))
                      exact hJx_6 n_7 _ _ _ _ [0, 0] H rfl ⟨rfl, rfl, rfl, rfl, rfl, rfl, rfl, True.intro⟩ rfl
                · clear H
                  intro Jx_7 hJx_7 H
                  refine c_seq ?_
                  refine c_region ?_
                  refine s_p rfl (y_move rfl) ?_
                  replace H := ite_e H
                  rcases H with ⟨c_55, H⟩ | ⟨c_55, H⟩
                  · refine s_p rfl (yT (y_lss rfl rfl) c_55) ?_
                    refine s_nil (q_then ?_)
                    refine c_t rfl rfl ?_
                    refine c_skip ?_
                    exact hJx_7 () _ _ _ _ [0, 0] H rfl ⟨rfl, rfl, rfl, rfl, rfl, rfl, rfl, True.intro⟩ rfl
                  · refine s_p rfl (yF (y_lss rfl rfl) c_55) ?_
                    refine s_nil (q_then ?_)
                    refine c_f rfl rfl ?_
                    refine c_exit (q_then_exit (q_then_exit (q_blk_out ?_)))
                    exact hJx_5 n_5 _ _ _ _ [0, 0] H rfl ⟨rfl, rfl, rfl, rfl, rfl, rfl, True.intro⟩ rfl
            · clear H
              intro Jx_8 hJx_8 H
              refine c_seq ?_
              refine c_region ?_
              refine s_p rfl (y_fa rfl rfl) ?_
              obtain ⟨t_20, ht_20, H⟩ := H
              refine s_v rfl (y_ld rfl) (hc_V 2 rfl ht_20) ?_
              refine s_p rfl (y_rem rfl rfl (by decide)) ?_
              refine s_nil (q_then ?_)
              refine c_block ?_
              refine c_seq ?_
              refine c_region ?_
              replace H := ite_e H
              rcases H with ⟨c_56, H⟩ | ⟨c_56, H⟩
              · refine s_p rfl (yT (y_eql rfl rfl) c_56) ?_
                refine s_p rfl (y_assign rfl) ?_
                refine s_nil (q_then ?_)
                refine c_t rfl rfl ?_
                refine c_seq ?_
                refine c_region ?_
                refine s_p rfl (y_move rfl) ?_
                refine s_p rfl (y_fa rfl rfl) ?_
                obtain ⟨t_21, ht_21, H⟩ := H
                refine s_v rfl (y_ld rfl) (hc_V 2 rfl ht_21) ?_
                refine s_p rfl (y_fa rfl rfl) ?_
                obtain ⟨t_22, ht_22, H⟩ := H
                refine s_v rfl (y_ld rfl) (hc_V 2 rfl ht_22) ?_
                refine s_call rfl rfl H fun rv Sx_18 H2 => ?_
                clear H
                obtain ⟨rfl, H⟩ := H2
                refine s_nil (q_then ?_)
                refine c_seq ?_
                refine c_region ?_
                replace H := ite_e H
                rcases H with ⟨c_57, H⟩ | ⟨c_57, H⟩
                · refine s_p rfl (y_moveB rfl c_57) ?_
                  refine s_nil (q_then ?_)
                  refine c_t rfl rfl ?_
                  refine c_drawn (by kernel_rfl) ?_
                  refine a_takeP 0 rfl (by decide +kernel) (np_blk (np_then (np_blk (np_then (np_then (np_blk (np_then np_body))))))) rfl (y_fa rfl rfl) ?_
                  obtain ⟨t_23, ht_23, H⟩ := H
                  refine a_take 1 rfl (by decide +kernel) (np_blk (np_then (np_blk (np_then (np_then (np_blk (np_then np_body))))))) rfl (y_ld rfl) (hc_V 2 rfl ht_23) ?_
                  refine a_takeP 2 rfl (by decide +kernel) (np_blk (np_then (np_blk (np_then (np_then (np_blk (np_then np_body))))))) rfl (y_fa rfl rfl) ?_
                  obtain ⟨t_24, ht_24, H⟩ := H
                  refine a_take 3 rfl (by decide +kernel) (np_blk (np_then (np_blk (np_then (np_then (np_blk (np_then np_body))))))) rfl (y_ld rfl) (hc_V 2 rfl ht_24) ?_
                  obtain ⟨c_58, c_59, H⟩ := H
                  refine a_takeP 4 rfl (by decide +kernel) (np_blk (np_then (np_blk (np_then (np_then (np_blk (np_then np_body))))))) rfl (y_ixA rfl rfl c_58 c_59 rfl) ?_
                  obtain ⟨c_60, c_61, H⟩ := H
                  refine a_takeP 5 rfl (by decide +kernel) (np_blk (np_then (np_blk (np_then (np_then (np_blk (np_then np_body))))))) rfl (y_ixA rfl rfl c_60 c_61 rfl) ?_
                  refine a_step 6 (by decide +kernel) rfl ?_
                  refine s_stV (sz := 1) (vs := [.bool false]) 0 rfl rfl rfl rfl rfl rfl (fit_of honx (by omega)) rfl ?_
                  refine s_nil (q_any ac_nil ?_)
                  refine a_done (by decide +kernel) ?_
                  refine q_blk ?_
                  exact hJx_8 (spl onx (0 + t_23.toNat * 3 + t_24.toNat * 1) ([.bool false]), atx) _ _ _ _ [0, 0] H rfl ⟨rfl, rfl, rfl, rfl, rfl, True.intro⟩ rfl
                · refine s_p rfl (y_moveB rfl (bf_of c_57)) ?_
                  refine s_nil (q_then ?_)
                  refine c_f rfl rfl ?_
                  refine c_skip (q_blk ?_)
                  exact hJx_8 (onx, atx) _ _ _ _ [0, 0] H rfl ⟨rfl, rfl, rfl, rfl, rfl, True.intro⟩ rfl
              · refine s_p rfl (yF (y_eql rfl rfl) c_56) ?_
                refine s_p rfl (y_assign rfl) ?_
                refine s_nil (q_then ?_)
                refine c_f rfl rfl ?_
                refine c_seq ?_
                refine c_region ?_
                replace H := ite_e H
                rcases H with ⟨c_62, H⟩ | ⟨c_62, H⟩
                · refine s_p rfl (yT (y_eql rfl rfl) c_62) ?_
                  refine s_p rfl (y_assign rfl) ?_
                  refine s_nil (q_then ?_)
                  refine c_t rfl rfl ?_
                  refine c_seq ?_
                  refine c_region ?_
                  refine s_p rfl (y_move rfl) ?_
                  refine s_p rfl (y_fa rfl rfl) ?_
                  obtain ⟨t_25, ht_25, H⟩ := H
                  refine s_v rfl (y_ld rfl) (hc_V 2 rfl ht_25) ?_
                  refine s_call rfl rfl H fun rv Sx_19 H2 => ?_
                  clear H
                  obtain ⟨rfl, H⟩ := H2
                  refine s_nil (q_then ?_)
                  refine c_seq ?_
                  refine c_region ?_
                  refine s_p rfl (y_fa rfl rfl) ?_
                  obtain ⟨t_26, ht_26, H⟩ := H
                  refine s_v rfl (y_ld rfl) (hc_V 2 rfl ht_26) ?_
                  replace H := ite_e H
                  rcases H with ⟨c_63, H⟩ | ⟨c_63, H⟩
                  · refine s_p rfl (yT (y_geq rfl rfl) c_63) ?_
                    refine s_p rfl (y_move rfl) ?_
                    refine s_p rfl (y_fa rfl rfl) ?_
                    obtain ⟨t_27, ht_27, H⟩ := H
                    refine s_v rfl (y_ld rfl) (hc_V 2 rfl ht_27) ?_
                    replace H := ite_e H
                    rcases H with ⟨c_64, H⟩ | ⟨c_64, H⟩
                    · refine s_p rfl (yT (y_lss rfl rfl) c_64) ?_
                      refine s_p rfl (y_pick rfl rfl) ?_
                      refine s_nil (q_then ?_)
                      refine c_t rfl rfl ?_
                      refine c_region ?_
                      refine s_p rfl (y_fa rfl rfl) ?_
                      obtain ⟨t_28, ht_28, H⟩ := H
                      refine s_v rfl (y_ld rfl) (hc_V 2 rfl ht_28) ?_
                      refine s_p rfl (y_build rfl rfl) ?_
                      obtain ⟨c_65, c_66, H⟩ := H
                      refine s_p rfl (y_ixA rfl rfl c_65 c_66 rfl) ?_
                      refine s_stV (sz := 3) (vs := [.bool false, .bool false, .bool false]) 0 rfl rfl rfl rfl rfl rfl (fit_of honx (by omega)) rfl ?_
                      refine s_nil (q_blk ?_)
                      exact hJx_8 (spl onx (0 + t_28.toNat * 3) ([.bool false, .bool false, .bool false]), atx) _ _ _ _ [0, 0] H rfl ⟨rfl, rfl, rfl, rfl, rfl, True.intro⟩ rfl
                    · refine s_p rfl (yF (y_lss rfl rfl) c_64) ?_
                      refine s_p rfl (y_pick rfl rfl) ?_
                      refine s_nil (q_then ?_)
                      refine c_f rfl rfl ?_
                      refine c_skip (q_blk ?_)
                      exact hJx_8 (onx, atx) _ _ _ _ [0, 0] H rfl ⟨rfl, rfl, rfl, rfl, rfl, True.intro⟩ rfl
                  · refine s_p rfl (yF (y_geq rfl rfl) c_63) ?_
                    refine s_p rfl (y_move rfl) ?_
                    refine s_skip rfl ?_
                    refine s_skip rfl ?_
                    refine s_skip rfl ?_
                    refine s_p rfl (y_pick rfl rfl) ?_
                    refine s_nil (q_then ?_)
                    refine c_f rfl rfl ?_
                    refine c_skip (q_blk ?_)
                    exact hJx_8 (onx, atx) _ _ _ _ [0, 0] H rfl ⟨rfl, rfl, rfl, rfl, rfl, True.intro⟩ rfl
                · refine s_p rfl (yF (y_eql rfl rfl) c_62) ?_
                  refine s_p rfl (y_assign rfl) ?_
                  refine s_nil (q_then ?_)
                  refine c_f rfl rfl ?_
                  refine c_seq ?_
                  refine c_region ?_
                  replace H := ite_e H
                  rcases H with ⟨c_67, H⟩ | ⟨c_67, H⟩
                  · refine s_p rfl (yT (y_eql rfl rfl) c_67) ?_
                    refine s_p rfl (y_assign rfl) ?_
                    refine s_nil (q_then ?_)
                    refine c_t rfl rfl ?_
                    refine c_seq ?_
                    refine c_region ?_
                    refine s_p rfl (y_move rfl) ?_
                    refine s_p rfl (y_fa rfl rfl) ?_
                    obtain ⟨t_29, ht_29, H⟩ := H
                    refine s_v rfl (y_ld rfl) (hc_V 2 rfl ht_29) ?_
                    refine s_call rfl rfl H fun rv Sx_20 H2 => ?_
                    clear H
                    obtain ⟨t_30, rfl, H⟩ := H2
                    refine s_p rfl (y_assign rfl) ?_
                    refine s_nil (q_then ?_)
                    refine c_seq ?_
                    refine c_region ?_
                    refine s_p rfl (y_build rfl rfl) ?_
                    refine s_alloc rfl fun b_6 => ?_
                    refine s_stV (sz := 3) (vs := [.int .u64 0, .int .i64 (-1), .int .i64 0]) 3 rfl rfl rfl rfl rfl rfl (by decide) rfl ?_
                    refine s_nil (q_then ?_)
                    refine c_seq ?_
                    refine c_region ?_
                    refine s_p rfl (y_assign rfl) ?_
                    refine s_nil (q_then ?_)
                    refine c_join2 H (fun (J : List Value → Mem → Prop) (z : List Value) S => J z S) (fun z => ⟨435, [(0, .slice (some ⟨b_3, o, none⟩) n n_1), (3, .pointer (some ⟨b, 0, none⟩)), (4, .pointer (some ⟨b_1, 0, none⟩)), (5, .pointer (some ⟨b_2, 0, none⟩)), (6, .int .i64 i), (7, .pointer (some ⟨b_4, 0, none⟩))]⟩) (fun z => [⟨b_1, 99, z⟩, ⟨b_2, 101, atx⟩, ⟨b_4, 103, t⟩]) ?_ ?_
                    · clear H
                      rintro onx_3 Sx_21 H
                      obtain ⟨honx_3, H⟩ := H
                      refine c_seq ?_
                      refine c_region ?_
                      refine s_p rfl (y_assign rfl) ?_
                      refine s_nil (q_then ?_)
                      refine c_block ?_
                      refine c_loop (fun z => ⟨435, [(0, .slice (some ⟨b_3, o, none⟩) n n_1), (3, .pointer (some ⟨b, 0, none⟩)), (4, .pointer (some ⟨b_1, 0, none⟩)), (5, .pointer (some ⟨b_2, 0, none⟩)), (6, .int .i64 i), (7, .pointer (some ⟨b_4, 0, none⟩)), (15, .int .i64 z)]⟩) (fun z => [⟨b_1, 99, onx_3⟩, ⟨b_2, 101, atx⟩, ⟨b_4, 103, t⟩]) 0 (idx := [0, 0, 0]) H rfl ⟨rfl, rfl, rfl, rfl, rfl, rfl, rfl, True.intro⟩ rfl ?_
                      clear H
                      rintro Xx_4 hXx_4 v_1 Sx_22 H
                      refine c_join2 H (fun (J : Mem → Prop) (z : Unit) S => J S) (fun z => ⟨435, [(0, .slice (some ⟨b_3, o, none⟩) n n_1), (3, .pointer (some ⟨b, 0, none⟩)), (4, .pointer (some ⟨b_1, 0, none⟩)), (5, .pointer (some ⟨b_2, 0, none⟩)), (6, .int .i64 i), (7, .pointer (some ⟨b_4, 0, none⟩)), (15, .int .i64 v_1)]⟩) (fun z => [⟨b_1, 99, onx_3⟩, ⟨b_2, 101, atx⟩, ⟨b_4, 103, t⟩]) ?_ ?_
                      · clear H
                        rintro _ Sx_23 H
                        refine c_join2 H (fun (J : Mem → Prop) (z : Unit) S => J S) (fun z => ⟨435, [(0, .slice (some ⟨b_3, o, none⟩) n n_1), (3, .pointer (some ⟨b, 0, none⟩)), (4, .pointer (some ⟨b_1, 0, none⟩)), (5, .pointer (some ⟨b_2, 0, none⟩)), (6, .int .i64 i), (7, .pointer (some ⟨b_4, 0, none⟩)), (15, .int .i64 v_1)]⟩) (fun z => [⟨b_1, 99, onx_3⟩, ⟨b_2, 101, atx⟩, ⟨b_4, 103, t⟩]) ?_ ?_
                        · clear H
                          rintro _ Sx_24 H
                          refine c_region ?_
                          refine s_p rfl (y_move rfl) ?_
                          refine s_p rfl (y_add rfl rfl) ?_
                          refine s_p rfl (y_assign rfl) ?_
                          refine s_nil ?_
                          exact hXx_4 (IntKind.i64.wrap (v_1 + 1)) _ _ _ _ [0, 0, 0] H rfl ⟨rfl, rfl, rfl, rfl, rfl, rfl, rfl, True.intro⟩ rfl
                        · clear H
                          intro Jx_9 hJx_9 H
                          refine c_block ?_
                          refine c_seq ?_
                          refine c_region ?_
                          refine s_p rfl (y_assign rfl) ?_
                          refine s_nil (q_then ?_)
                          refine c_block ?_
                          refine c_loop (fun z => ⟨435, [(0, .slice (some ⟨b_3, o, none⟩) n n_1), (3, .pointer (some ⟨b, 0, none⟩)), (4, .pointer (some ⟨b_1, 0, none⟩)), (5, .pointer (some ⟨b_2, 0, none⟩)), (6, .int .i64 i), (7, .pointer (some ⟨b_4, 0, none⟩)), (15, .int .i64 v_1), (16, .int .i64 z)]⟩) (fun z => [⟨b_1, 99, onx_3⟩, ⟨b_2, 101, atx⟩, ⟨b_4, 103, t⟩]) 0 (idx := [0, 0, 0]) H rfl ⟨rfl, rfl, rfl, rfl, rfl, rfl, rfl, rfl, True.intro⟩ rfl ?_
                          clear H
                          rintro Xx_5 hXx_5 s_1 Sx_25 H
                          refine c_join2 H (fun (J : Mem → Prop) (z : Unit) S => J S) (fun z => ⟨435, [(0, .slice (some ⟨b_3, o, none⟩) n n_1), (3, .pointer (some ⟨b, 0, none⟩)), (4, .pointer (some ⟨b_1, 0, none⟩)), (5, .pointer (some ⟨b_2, 0, none⟩)), (6, .int .i64 i), (7, .pointer (some ⟨b_4, 0, none⟩)), (15, .int .i64 v_1), (16, .int .i64 s_1)]⟩) (fun z => [⟨b_1, 99, onx_3⟩, ⟨b_2, 101, atx⟩, ⟨b_4, 103, t⟩]) ?_ ?_
                          · clear H
                            rintro _ Sx_26 H
                            refine c_seq ?_
                            refine c_block ?_
                            refine c_seq ?_
                            refine c_drawn (by kernel_rfl) ?_
                            refine a_takeP 0 rfl (by decide +kernel) (np_then (np_blk (np_then (np_then (np_blk (np_blk (np_then (np_then (np_blk (np_blk (np_then (np_blk (np_then (np_then (np_blk (np_then np_body)))))))))))))))) rfl (y_move rfl) ?_
                            refine a_takeP 1 rfl (by decide +kernel) (np_then (np_blk (np_then (np_then (np_blk (np_blk (np_then (np_then (np_blk (np_blk (np_then (np_blk (np_then (np_then (np_blk (np_then np_body)))))))))))))))) rfl (y_move rfl) ?_
                            obtain ⟨c_68, c_69, H⟩ := H
                            refine a_takeP 2 rfl (by decide +kernel) (np_then (np_blk (np_then (np_then (np_blk (np_blk (np_then (np_then (np_blk (np_blk (np_then (np_blk (np_then (np_then (np_blk (np_then np_body)))))))))))))))) rfl (y_ixA rfl rfl c_68 c_69 rfl) ?_
                            obtain ⟨c_70, c_71, H⟩ := H
                            refine a_takeP 3 rfl (by decide +kernel) (np_then (np_blk (np_then (np_then (np_blk (np_blk (np_then (np_then (np_blk (np_blk (np_then (np_blk (np_then (np_then (np_blk (np_then np_body)))))))))))))))) rfl (y_ixA rfl rfl c_70 c_71 rfl) ?_
                            obtain ⟨t_31, ht_31, H⟩ := H
                            replace H := ib_e H
                            rcases H with ⟨rfl, H⟩ | ⟨rfl, H⟩
                            · refine a_take 4 rfl (by decide +kernel) (np_then (np_blk (np_then (np_then (np_blk (np_blk (np_then (np_then (np_blk (np_blk (np_then (np_blk (np_then (np_then (np_blk (np_then np_body)))))))))))))))) rfl (y_ld rfl) (hc_V 0 rfl ht_31) ?_
                              refine a_takeP 5 rfl (by decide +kernel) (np_then (np_blk (np_then (np_then (np_blk (np_blk (np_then (np_then (np_blk (np_blk (np_then (np_blk (np_then (np_then (np_blk (np_then np_body)))))))))))))))) rfl (y_move rfl) ?_
                              refine a_takeP 6 rfl (by decide +kernel) (np_then (np_blk (np_then (np_then (np_blk (np_blk (np_then (np_then (np_blk (np_blk (np_then (np_blk (np_then (np_then (np_blk (np_then np_body)))))))))))))))) rfl (y_move rfl) ?_
                              refine a_takeP 7 rfl (by decide +kernel) (np_then (np_blk (np_then (np_then (np_blk (np_blk (np_then (np_then (np_blk (np_blk (np_then (np_blk (np_then (np_then (np_blk (np_then np_body)))))))))))))))) rfl (y_move rfl) ?_
                              obtain ⟨c_72, c_73, H⟩ := H
                              refine a_takeP 8 rfl (by decide +kernel) (np_then (np_blk (np_then (np_then (np_blk (np_blk (np_then (np_then (np_blk (np_blk (np_then (np_blk (np_then (np_then (np_blk (np_then np_body)))))))))))))))) rfl (y_ixA rfl rfl c_72 c_73 rfl) ?_
                              obtain ⟨c_74, c_75, H⟩ := H
                              refine a_takeP 9 rfl (by decide +kernel) (np_then (np_blk (np_then (np_then (np_blk (np_blk (np_then (np_then (np_blk (np_blk (np_then (np_blk (np_then (np_then (np_blk (np_then np_body)))))))))))))))) rfl (y_ixA rfl rfl c_74 c_75 rfl) ?_
                              obtain ⟨t_32, ht_32, H⟩ := H
                              refine a_take 10 rfl (by decide +kernel) (np_then (np_blk (np_then (np_then (np_blk (np_blk (np_then (np_then (np_blk (np_blk (np_then (np_blk (np_then (np_then (np_blk (np_then np_body)))))))))))))))) rfl (y_ld rfl) (hc_V 1 rfl ht_32) ?_
                              refine a_takeP 11 rfl (by decide +kernel) (np_then (np_blk (np_then (np_then (np_blk (np_blk (np_then (np_then (np_blk (np_blk (np_then (np_blk (np_then (np_then (np_blk (np_then np_body)))))))))))))))) rfl (y_fa rfl rfl) ?_
                              obtain ⟨t_33, ht_33, H⟩ := H
                              refine a_take 12 rfl (by decide +kernel) (np_then (np_blk (np_then (np_then (np_blk (np_blk (np_then (np_then (np_blk (np_blk (np_then (np_blk (np_then (np_then (np_blk (np_then np_body)))))))))))))))) rfl (y_ld rfl) (hc_V 2 rfl ht_33) ?_
                              replace H := ite_e H
                              rcases H with ⟨c_76, H⟩ | ⟨c_76, H⟩
                              · refine a_takeP 13 rfl (by decide +kernel) (np_then (np_blk (np_then (np_then (np_blk (np_blk (np_then (np_then (np_blk (np_blk (np_then (np_blk (np_then (np_then (np_blk (np_then np_body)))))))))))))))) rfl (yT (y_leq rfl rfl) c_76) ?_
                                refine a_takeP 14 rfl (by decide +kernel) (np_then (np_blk (np_then (np_then (np_blk (np_blk (np_then (np_then (np_blk (np_blk (np_then (np_blk (np_then (np_then (np_blk (np_then np_body)))))))))))))))) rfl (y_pick rfl rfl) ?_
                                refine a_done (by decide +kernel) ?_
                                refine q_then ?_
                                refine c_t rfl rfl ?_
                                refine c_seq ?_
                                refine c_region ?_
                                refine s_p rfl (y_assign rfl) ?_
                                refine s_nil (q_then ?_)
                                refine c_ret (q_blk_ret (q_then_ret (q_then_ret (q_blk_ret (q_blk_ret (q_then_ret (q_then_ret (q_blk_ret (q_blk_ret (q_then_ret (q_blk_ret (q_then_ret (q_then_ret (q_blk_ret (q_then_ret ?_)))))))))))))))
                                exact q_ret Try.results8 (rv_tmp rfl rv_nil) ⟨_, rfl, H⟩
                              · refine a_takeP 13 rfl (by decide +kernel) (np_then (np_blk (np_then (np_then (np_blk (np_blk (np_then (np_then (np_blk (np_blk (np_then (np_blk (np_then (np_then (np_blk (np_then np_body)))))))))))))))) rfl (yF (y_leq rfl rfl) c_76) ?_
                                refine a_takeP 14 rfl (by decide +kernel) (np_then (np_blk (np_then (np_then (np_blk (np_blk (np_then (np_then (np_blk (np_blk (np_then (np_blk (np_then (np_then (np_blk (np_then np_body)))))))))))))))) rfl (y_pick rfl rfl) ?_
                                refine a_done (by decide +kernel) ?_
                                refine q_then ?_
                                refine c_f rfl rfl ?_
                                refine c_skip (q_blk (q_then ?_))
                                refine c_region ?_
                                refine s_p rfl (y_move rfl) ?_
                                refine s_p rfl (y_add rfl rfl) ?_
                                refine s_p rfl (y_assign rfl) ?_
                                refine s_nil ?_
                                exact hXx_5 (IntKind.i64.wrap (s_1 + 1)) _ _ _ _ [0, 0, 0] H rfl ⟨rfl, rfl, rfl, rfl, rfl, rfl, rfl, rfl, True.intro⟩ rfl
                            · refine a_take 4 rfl (by decide +kernel) (np_then (np_blk (np_then (np_then (np_blk (np_blk (np_then (np_then (np_blk (np_blk (np_then (np_blk (np_then (np_then (np_blk (np_then np_body)))))))))))))))) rfl (y_ld rfl) (hc_V 0 rfl ht_31) ?_
                              refine a_takeP 5 rfl (by decide +kernel) (np_then (np_blk (np_then (np_then (np_blk (np_blk (np_then (np_then (np_blk (np_blk (np_then (np_blk (np_then (np_then (np_blk (np_then np_body)))))))))))))))) rfl (y_move rfl) ?_
                              refine a_skip 6 rfl (by decide +kernel) (np_then (np_blk (np_then (np_then (np_blk (np_blk (np_then (np_then (np_blk (np_blk (np_then (np_blk (np_then (np_then (np_blk (np_then np_body)))))))))))))))) rfl ?_
                              refine a_skip 7 rfl (by decide +kernel) (np_then (np_blk (np_then (np_then (np_blk (np_blk (np_then (np_then (np_blk (np_blk (np_then (np_blk (np_then (np_then (np_blk (np_then np_body)))))))))))))))) rfl ?_
                              refine a_skip 8 rfl (by decide +kernel) (np_then (np_blk (np_then (np_then (np_blk (np_blk (np_then (np_then (np_blk (np_blk (np_then (np_blk (np_then (np_then (np_blk (np_then np_body)))))))))))))))) rfl ?_
                              refine a_skip 9 rfl (by decide +kernel) (np_then (np_blk (np_then (np_then (np_blk (np_blk (np_then (np_then (np_blk (np_blk (np_then (np_blk (np_then (np_then (np_blk (np_then np_body)))))))))))))))) rfl ?_
                              refine a_skip 10 rfl (by decide +kernel) (np_then (np_blk (np_then (np_then (np_blk (np_blk (np_then (np_then (np_blk (np_blk (np_then (np_blk (np_then (np_then (np_blk (np_then np_body)))))))))))))))) rfl ?_
                              refine a_skip 11 rfl (by decide +kernel) (np_then (np_blk (np_then (np_then (np_blk (np_blk (np_then (np_then (np_blk (np_blk (np_then (np_blk (np_then (np_then (np_blk (np_then np_body)))))))))))))))) rfl ?_
                              refine a_skip 12 rfl (by decide +kernel) (np_then (np_blk (np_then (np_then (np_blk (np_blk (np_then (np_then (np_blk (np_blk (np_then (np_blk (np_then (np_then (np_blk (np_then np_body)))))))))))))))) rfl ?_
                              refine a_skip 13 rfl (by decide +kernel) (np_then (np_blk (np_then (np_then (np_blk (np_blk (np_then (np_then (np_blk (np_blk (np_then (np_blk (np_then (np_then (np_blk (np_then np_body)))))))))))))))) rfl ?_
                              refine a_takeP 14 rfl (by decide +kernel) (np_then (np_blk (np_then (np_then (np_blk (np_blk (np_then (np_then (np_blk (np_blk (np_then (np_blk (np_then (np_then (np_blk (np_then np_body)))))))))))))))) rfl (y_pick rfl rfl) ?_
                              refine a_done (by decide +kernel) ?_
                              refine q_then ?_
                              refine c_f rfl rfl ?_
                              refine c_skip (q_blk (q_then ?_))
                              refine c_region ?_
                              refine s_p rfl (y_move rfl) ?_
                              refine s_p rfl (y_add rfl rfl) ?_
                              refine s_p rfl (y_assign rfl) ?_
                              refine s_nil ?_
                              exact hXx_5 (IntKind.i64.wrap (s_1 + 1)) _ _ _ _ [0, 0, 0] H rfl ⟨rfl, rfl, rfl, rfl, rfl, rfl, rfl, rfl, True.intro⟩ rfl
                          · clear H
                            intro Jx_10 hJx_10 H
                            refine c_seq ?_
                            refine c_region ?_
                            refine s_p rfl (y_move rfl) ?_
                            replace H := ite_e H
                            rcases H with ⟨c_77, H⟩ | ⟨c_77, H⟩
                            · refine s_p rfl (yT (y_lss rfl rfl) c_77) ?_
                              refine s_nil (q_then ?_)
                              refine c_t rfl rfl ?_
                              refine c_skip ?_
                              exact hJx_10 () _ _ _ _ [0, 0, 0] H rfl ⟨rfl, rfl, rfl, rfl, rfl, rfl, rfl, rfl, True.intro⟩ rfl
                            · refine s_p rfl (yF (y_lss rfl rfl) c_77) ?_
                              refine s_nil (q_then ?_)
                              refine c_f rfl rfl ?_
                              refine c_exit (q_then_exit (q_then_exit (q_blk_out (q_blk ?_))))
                              exact hJx_9 () _ _ _ _ [0, 0, 0] H rfl ⟨rfl, rfl, rfl, rfl, rfl, rfl, rfl, True.intro⟩ rfl
                      · clear H
                        intro Jx_11 hJx_11 H
                        refine c_seq ?_
                        refine c_region ?_
                        refine s_p rfl (y_move rfl) ?_
                        replace H := ite_e H
                        rcases H with ⟨c_78, H⟩ | ⟨c_78, H⟩
                        · refine s_p rfl (yT (y_lss rfl rfl) c_78) ?_
                          refine s_nil (q_then ?_)
                          refine c_t rfl rfl ?_
                          refine c_skip ?_
                          exact hJx_11 () _ _ _ _ [0, 0, 0] H rfl ⟨rfl, rfl, rfl, rfl, rfl, rfl, rfl, True.intro⟩ rfl
                        · refine s_p rfl (yF (y_lss rfl rfl) c_78) ?_
                          refine s_nil (q_then ?_)
                          refine c_f rfl rfl ?_
                          refine c_exit (q_then_exit (q_then_exit (q_blk_out (q_blk ?_))))
                          exact hJx_8 (onx_3, atx) _ _ _ _ [0, 0] H rfl ⟨rfl, rfl, rfl, rfl, rfl, True.intro⟩ rfl
                    · clear H
                      intro Jx_12 hJx_12 H
                      refine c_seq ?_
                      refine c_region ?_
                      refine s_p rfl (y_assign rfl) ?_
                      refine s_nil (q_then ?_)
                      refine c_block ?_
                      refine c_loop (fun z => ⟨435, [(0, .slice (some ⟨b_3, o, none⟩) n n_1), (3, .pointer (some ⟨b, 0, none⟩)), (4, .pointer (some ⟨b_1, 0, none⟩)), (5, .pointer (some ⟨b_2, 0, none⟩)), (6, .int .i64 i), (7, .pointer (some ⟨b_4, 0, none⟩)), (9, eL t_30), (10, .pointer (some ⟨b_6, 0, none⟩)), (11, .int .i64 z.1), (12, .int .i64 z.2.1)]⟩) (fun z => [⟨b_1, 99, z.2.2.1⟩, ⟨b_2, 101, atx⟩, ⟨b_4, 103, t⟩, ⟨b_6, 95, z.2.2.2⟩]) (0, 0, onx, [.int .u64 0, .int .i64 (-1), .int .i64 0]) (idx := [0, 0, 0, 0]) H rfl ⟨rfl, rfl, rfl, rfl, rfl, rfl, rfl, rfl, rfl, rfl, True.intro⟩ rfl ?_
                      clear H
                      rintro Xx_6 hXx_6 ⟨n_8, k_1, onx_4, last⟩ Sx_27 H
                      obtain ⟨honx_4, H⟩ := H
                      obtain ⟨hlast, H⟩ := H
                      refine c_join2 H (fun (J : Mem → Prop) (z : Unit) S => J S) (fun z => ⟨435, [(0, .slice (some ⟨b_3, o, none⟩) n n_1), (3, .pointer (some ⟨b, 0, none⟩)), (4, .pointer (some ⟨b_1, 0, none⟩)), (5, .pointer (some ⟨b_2, 0, none⟩)), (6, .int .i64 i), (7, .pointer (some ⟨b_4, 0, none⟩)), (9, eL t_30), (10, .pointer (some ⟨b_6, 0, none⟩)), (11, .int .i64 n_8), (12, .int .i64 k_1)]⟩) (fun z => [⟨b_1, 99, onx_4⟩, ⟨b_2, 101, atx⟩, ⟨b_4, 103, t⟩, ⟨b_6, 95, last⟩]) ?_ ?_
                      · clear H
                        rintro _ Sx_28 H
                        refine c_join2 H (fun (J : Int → List Value → List Value → Mem → Prop) (z : Int × List Value × List Value) S => J z.1 z.2.1 z.2.2 S) (fun z => ⟨435, [(0, .slice (some ⟨b_3, o, none⟩) n n_1), (3, .pointer (some ⟨b, 0, none⟩)), (4, .pointer (some ⟨b_1, 0, none⟩)), (5, .pointer (some ⟨b_2, 0, none⟩)), (6, .int .i64 i), (7, .pointer (some ⟨b_4, 0, none⟩)), (9, eL t_30), (10, .pointer (some ⟨b_6, 0, none⟩)), (11, .int .i64 z.1), (12, .int .i64 k_1)]⟩) (fun z => [⟨b_1, 99, z.2.1⟩, ⟨b_2, 101, atx⟩, ⟨b_4, 103, t⟩, ⟨b_6, 95, z.2.2⟩]) ?_ ?_
                        · clear H
                          rintro ⟨n_9, onx_5, last_1⟩ Sx_29 H
                          obtain ⟨honx_5, H⟩ := H
                          obtain ⟨hlast_1, H⟩ := H
                          refine c_region ?_
                          refine s_p rfl (y_move rfl) ?_
                          refine s_p rfl (y_add rfl rfl) ?_
                          refine s_p rfl (y_assign rfl) ?_
                          refine s_nil ?_
                          exact hXx_6 (n_9, IntKind.i64.wrap (k_1 + 1), onx_5, last_1) _ _ _ _ [0, 0, 0, 0] H rfl ⟨rfl, rfl, rfl, rfl, rfl, rfl, rfl, rfl, rfl, rfl, True.intro⟩ rfl
                        · clear H
                          intro Jx_13 hJx_13 H
                          refine c_block ?_
                          refine c_seq ?_
                          refine c_region ?_
                          refine s_p rfl (y_move rfl) ?_
                          refine s_p rfl (y_move rfl) ?_
                          obtain ⟨b_7, o_2, n_10, n_11, rfl, H⟩ := H
                          obtain ⟨c_79, c_80, H⟩ := H
                          refine s_p rfl (y_ixL rfl rfl c_79 c_80 rfl) ?_
                          obtain ⟨t_34, ht_34, H⟩ := H
                          refine s_v rfl (y_ldA rfl (part_len ht_34)) (hc_SP ht_34) ?_
                          refine s_alloc rfl fun b_8 => ?_
                          obtain ⟨c_81, H⟩ := H
                          refine s_stV_all 4 rfl rfl rfl rfl rfl (part_len ht_34) rfl c_81 ?_
                          refine s_nil (q_then ?_)
                          refine c_join2 H (fun (J : Bool → Mem → Prop) (z : Bool) S => J z S) (fun z => ⟨435, [(0, .slice (some ⟨b_3, o, none⟩) n n_1), (3, .pointer (some ⟨b, 0, none⟩)), (4, .pointer (some ⟨b_1, 0, none⟩)), (5, .pointer (some ⟨b_2, 0, none⟩)), (6, .int .i64 i), (7, .pointer (some ⟨b_4, 0, none⟩)), (9, .slice (some ⟨b_7, o_2, none⟩) n_10 n_11), (10, .pointer (some ⟨b_6, 0, none⟩)), (11, .int .i64 n_8), (12, .int .i64 k_1), (13, .pointer (some ⟨b_8, 0, none⟩)), (14, .bool z)]⟩) (fun z => [⟨b_1, 99, onx_4⟩, ⟨b_2, 101, atx⟩, ⟨b_4, 103, t⟩, ⟨b_6, 95, last⟩, ⟨b_8, 95, t_34⟩]) ?_ ?_
                          · clear H
                            rintro rises Sx_30 H
                            refine c_join2 H (fun (J : Mem → Prop) (z : Unit) S => J S) (fun z => ⟨435, [(0, .slice (some ⟨b_3, o, none⟩) n n_1), (3, .pointer (some ⟨b, 0, none⟩)), (4, .pointer (some ⟨b_1, 0, none⟩)), (5, .pointer (some ⟨b_2, 0, none⟩)), (6, .int .i64 i), (7, .pointer (some ⟨b_4, 0, none⟩)), (9, .slice (some ⟨b_7, o_2, none⟩) n_10 n_11), (10, .pointer (some ⟨b_6, 0, none⟩)), (11, .int .i64 n_8), (12, .int .i64 k_1), (13, .pointer (some ⟨b_8, 0, none⟩))]⟩) (fun z => [⟨b_1, 99, onx_4⟩, ⟨b_2, 101, atx⟩, ⟨b_4, 103, t⟩, ⟨b_6, 95, last⟩, ⟨b_8, 95, t_34⟩]) ?_ ?_
                            · clear H
                              rintro _ Sx_31 H
                              refine c_seq ?_
                              refine c_drawn (by kernel_rfl) ?_
                              refine a_takeP 0 rfl (by decide +kernel) (np_then (np_blk (np_then (np_then (np_blk (np_then (np_blk (np_then (np_blk (np_then (np_then (np_blk (np_then np_body))))))))))))) rfl (y_fa rfl rfl) ?_
                              obtain ⟨t_35, ht_35, H⟩ := H
                              refine a_take 1 rfl (by decide +kernel) (np_then (np_blk (np_then (np_then (np_blk (np_then (np_blk (np_then (np_blk (np_then (np_then (np_blk (np_then np_body))))))))))))) rfl (y_ld rfl) (hc_V 4 rfl ht_35) ?_
                              refine a_takeP 2 rfl (by decide +kernel) (np_then (np_blk (np_then (np_then (np_blk (np_then (np_blk (np_then (np_blk (np_then (np_then (np_blk (np_then np_body))))))))))))) rfl (y_fa rfl rfl) ?_
                              obtain ⟨t_36, ht_36, H⟩ := H
                              refine a_take 3 rfl (by decide +kernel) (np_then (np_blk (np_then (np_then (np_blk (np_then (np_blk (np_then (np_blk (np_then (np_then (np_blk (np_then np_body))))))))))))) rfl (y_ld rfl) (hc_V 4 rfl ht_36) ?_
                              obtain ⟨c_82, c_83, H⟩ := H
                              refine a_takeP 4 rfl (by decide +kernel) (np_then (np_blk (np_then (np_then (np_blk (np_then (np_blk (np_then (np_blk (np_then (np_then (np_blk (np_then np_body))))))))))))) rfl (y_ixA rfl rfl c_82 c_83 rfl) ?_
                              obtain ⟨c_84, c_85, H⟩ := H
                              refine a_takeP 5 rfl (by decide +kernel) (np_then (np_blk (np_then (np_then (np_blk (np_then (np_blk (np_then (np_blk (np_then (np_then (np_blk (np_then np_body))))))))))))) rfl (y_ixA rfl rfl c_84 c_85 rfl) ?_
                              refine a_step 6 (by decide +kernel) rfl ?_
                              refine s_stV (sz := 1) (vs := [.bool false]) 0 rfl rfl rfl rfl rfl rfl (fit_of honx_4 (by omega)) rfl ?_
                              refine s_nil (q_any ac_nil ?_)
                              refine a_done (by decide +kernel) ?_
                              refine q_then ?_
                              refine c_seq ?_
                              refine c_region ?_
                              refine s_v rfl (y_ldA rfl (part_len ht_34)) (hc_VP (k := 3) 4 rfl (lpart_all (part_len ht_34))) ?_
                              obtain ⟨c_86, H⟩ := H
                              refine s_stV_all 3 rfl rfl rfl rfl rfl (part_len ht_34) hlast c_86 ?_
                              refine s_nil (q_then ?_)
                              refine c_region ?_
                              refine s_p rfl (y_move rfl) ?_
                              refine s_p rfl (y_add rfl rfl) ?_
                              refine s_p rfl (y_assign rfl) ?_
                              refine s_nil (q_blk ?_)
                              exact hJx_13 (IntKind.i64.wrap (n_8 + 1), spl onx_4 (0 + t_35.toNat * 3 + t_36.toNat * 1) ([.bool false]), t_34) _ _ _ _ [0, 0, 0, 0] H rfl ⟨rfl, rfl, rfl, rfl, rfl, rfl, rfl, rfl, rfl, rfl, True.intro⟩ rfl
                            · clear H
                              intro Jx_14 hJx_14 H
                              refine c_seq ?_
                              refine c_drawn (by kernel_rfl) ?_
                              refine a_takeP 0 rfl (by decide +kernel) (np_then (np_then (np_blk (np_then (np_then (np_blk (np_then (np_blk (np_then (np_blk (np_then (np_then (np_blk (np_then np_body)))))))))))))) rfl (y_fa rfl rfl) ?_
                              obtain ⟨t_37, ht_37, H⟩ := H
                              refine a_take 1 rfl (by decide +kernel) (np_then (np_then (np_blk (np_then (np_then (np_blk (np_then (np_blk (np_then (np_blk (np_then (np_then (np_blk (np_then np_body)))))))))))))) rfl (y_ld rfl) (hc_V 4 rfl ht_37) ?_
                              replace H := ite_e H
                              rcases H with ⟨c_87, H⟩ | ⟨c_87, H⟩
                              · refine a_takeP 2 rfl (by decide +kernel) (np_then (np_then (np_blk (np_then (np_then (np_blk (np_then (np_blk (np_then (np_blk (np_then (np_then (np_blk (np_then np_body)))))))))))))) rfl (yT (y_lss rfl rfl) c_87) ?_
                                refine a_takeP 3 rfl (by decide +kernel) (np_then (np_then (np_blk (np_then (np_then (np_blk (np_then (np_blk (np_then (np_blk (np_then (np_then (np_blk (np_then np_body)))))))))))))) rfl (y_move rfl) ?_
                                refine a_skip 4 rfl (by decide +kernel) (np_then (np_then (np_blk (np_then (np_then (np_blk (np_then (np_blk (np_then (np_blk (np_then (np_then (np_blk (np_then np_body)))))))))))))) rfl ?_
                                refine a_skip 5 rfl (by decide +kernel) (np_then (np_then (np_blk (np_then (np_then (np_blk (np_then (np_blk (np_then (np_blk (np_then (np_then (np_blk (np_then np_body)))))))))))))) rfl ?_
                                refine a_skip 6 rfl (by decide +kernel) (np_then (np_then (np_blk (np_then (np_then (np_blk (np_then (np_blk (np_then (np_blk (np_then (np_then (np_blk (np_then np_body)))))))))))))) rfl ?_
                                refine a_takeP 7 rfl (by decide +kernel) (np_then (np_then (np_blk (np_then (np_then (np_blk (np_then (np_blk (np_then (np_blk (np_then (np_then (np_blk (np_then np_body)))))))))))))) rfl (y_pick rfl rfl) ?_
                                refine a_takeP 8 rfl (by decide +kernel) (np_then (np_then (np_blk (np_then (np_then (np_blk (np_then (np_blk (np_then (np_blk (np_then (np_then (np_blk (np_then np_body)))))))))))))) rfl (y_move rfl) ?_
                                refine a_skip 9 rfl (by decide +kernel) (np_then (np_then (np_blk (np_then (np_then (np_blk (np_then (np_blk (np_then (np_blk (np_then (np_then (np_blk (np_then np_body)))))))))))))) rfl ?_
                                refine a_skip 10 rfl (by decide +kernel) (np_then (np_then (np_blk (np_then (np_then (np_blk (np_then (np_blk (np_then (np_blk (np_then (np_then (np_blk (np_then np_body)))))))))))))) rfl ?_
                                refine a_skip 11 rfl (by decide +kernel) (np_then (np_then (np_blk (np_then (np_then (np_blk (np_then (np_blk (np_then (np_blk (np_then (np_then (np_blk (np_then np_body)))))))))))))) rfl ?_
                                refine a_takeP 12 rfl (by decide +kernel) (np_then (np_then (np_blk (np_then (np_then (np_blk (np_then (np_blk (np_then (np_blk (np_then (np_then (np_blk (np_then np_body)))))))))))))) rfl (y_pick rfl rfl) ?_
                                refine a_takeP 13 rfl (by decide +kernel) (np_then (np_then (np_blk (np_then (np_then (np_blk (np_then (np_blk (np_then (np_blk (np_then (np_then (np_blk (np_then np_body)))))))))))))) rfl (y_move rfl) ?_
                                refine a_skip 14 rfl (by decide +kernel) (np_then (np_then (np_blk (np_then (np_then (np_blk (np_then (np_blk (np_then (np_blk (np_then (np_then (np_blk (np_then np_body)))))))))))))) rfl ?_
                                refine a_skip 15 rfl (by decide +kernel) (np_then (np_then (np_blk (np_then (np_then (np_blk (np_then (np_blk (np_then (np_blk (np_then (np_then (np_blk (np_then np_body)))))))))))))) rfl ?_
                                refine a_skip 16 rfl (by decide +kernel) (np_then (np_then (np_blk (np_then (np_then (np_blk (np_then (np_blk (np_then (np_blk (np_then (np_then (np_blk (np_then np_body)))))))))))))) rfl ?_
                                refine a_takeP 17 rfl (by decide +kernel) (np_then (np_then (np_blk (np_then (np_then (np_blk (np_then (np_blk (np_then (np_blk (np_then (np_then (np_blk (np_then np_body)))))))))))))) rfl (y_pick rfl rfl) ?_
                                refine a_takeP 18 rfl (by decide +kernel) (np_then (np_then (np_blk (np_then (np_then (np_blk (np_then (np_blk (np_then (np_blk (np_then (np_then (np_blk (np_then np_body)))))))))))))) rfl (y_move rfl) ?_
                                refine a_skip 19 rfl (by decide +kernel) (np_then (np_then (np_blk (np_then (np_then (np_blk (np_then (np_blk (np_then (np_blk (np_then (np_then (np_blk (np_then np_body)))))))))))))) rfl ?_
                                refine a_skip 20 rfl (by decide +kernel) (np_then (np_then (np_blk (np_then (np_then (np_blk (np_then (np_blk (np_then (np_blk (np_then (np_then (np_blk (np_then np_body)))))))))))))) rfl ?_
                                refine a_skip 21 rfl (by decide +kernel) (np_then (np_then (np_blk (np_then (np_then (np_blk (np_then (np_blk (np_then (np_blk (np_then (np_then (np_blk (np_then np_body)))))))))))))) rfl ?_
                                refine a_skip 22 rfl (by decide +kernel) (np_then (np_then (np_blk (np_then (np_then (np_blk (np_then (np_blk (np_then (np_blk (np_then (np_then (np_blk (np_then np_body)))))))))))))) rfl ?_
                                refine a_skip 23 rfl (by decide +kernel) (np_then (np_then (np_blk (np_then (np_then (np_blk (np_then (np_blk (np_then (np_blk (np_then (np_then (np_blk (np_then np_body)))))))))))))) rfl ?_
                                refine a_skip 24 rfl (by decide +kernel) (np_then (np_then (np_blk (np_then (np_then (np_blk (np_then (np_blk (np_then (np_blk (np_then (np_then (np_blk (np_then np_body)))))))))))))) rfl ?_
                                refine a_skip 25 rfl (by decide +kernel) (np_then (np_then (np_blk (np_then (np_then (np_blk (np_then (np_blk (np_then (np_blk (np_then (np_then (np_blk (np_then np_body)))))))))))))) rfl ?_
                                refine a_skip 26 rfl (by decide +kernel) (np_then (np_then (np_blk (np_then (np_then (np_blk (np_then (np_blk (np_then (np_blk (np_then (np_then (np_blk (np_then np_body)))))))))))))) rfl ?_
                                refine a_takeP 27 rfl (by decide +kernel) (np_then (np_then (np_blk (np_then (np_then (np_blk (np_then (np_blk (np_then (np_blk (np_then (np_then (np_blk (np_then np_body)))))))))))))) rfl (y_pick rfl rfl) ?_
                                refine a_takeP 28 rfl (by decide +kernel) (np_then (np_then (np_blk (np_then (np_then (np_blk (np_then (np_blk (np_then (np_blk (np_then (np_then (np_blk (np_then np_body)))))))))))))) rfl (y_move rfl) ?_
                                refine a_skip 29 rfl (by decide +kernel) (np_then (np_then (np_blk (np_then (np_then (np_blk (np_then (np_blk (np_then (np_blk (np_then (np_then (np_blk (np_then np_body)))))))))))))) rfl ?_
                                refine a_skip 30 rfl (by decide +kernel) (np_then (np_then (np_blk (np_then (np_then (np_blk (np_then (np_blk (np_then (np_blk (np_then (np_then (np_blk (np_then np_body)))))))))))))) rfl ?_
                                refine a_skip 31 rfl (by decide +kernel) (np_then (np_then (np_blk (np_then (np_then (np_blk (np_then (np_blk (np_then (np_blk (np_then (np_then (np_blk (np_then np_body)))))))))))))) rfl ?_
                                refine a_skip 32 rfl (by decide +kernel) (np_then (np_then (np_blk (np_then (np_then (np_blk (np_then (np_blk (np_then (np_blk (np_then (np_then (np_blk (np_then np_body)))))))))))))) rfl ?_
                                refine a_skip 33 rfl (by decide +kernel) (np_then (np_then (np_blk (np_then (np_then (np_blk (np_then (np_blk (np_then (np_blk (np_then (np_then (np_blk (np_then np_body)))))))))))))) rfl ?_
                                refine a_skip 34 rfl (by decide +kernel) (np_then (np_then (np_blk (np_then (np_then (np_blk (np_then (np_blk (np_then (np_blk (np_then (np_then (np_blk (np_then np_body)))))))))))))) rfl ?_
                                refine a_skip 35 rfl (by decide +kernel) (np_then (np_then (np_blk (np_then (np_then (np_blk (np_then (np_blk (np_then (np_blk (np_then (np_then (np_blk (np_then np_body)))))))))))))) rfl ?_
                                refine a_skip 36 rfl (by decide +kernel) (np_then (np_then (np_blk (np_then (np_then (np_blk (np_then (np_blk (np_then (np_blk (np_then (np_then (np_blk (np_then np_body)))))))))))))) rfl ?_
                                refine a_skip 37 rfl (by decide +kernel) (np_then (np_then (np_blk (np_then (np_then (np_blk (np_then (np_blk (np_then (np_blk (np_then (np_then (np_blk (np_then np_body)))))))))))))) rfl ?_
                                refine a_skip 38 rfl (by decide +kernel) (np_then (np_then (np_blk (np_then (np_then (np_blk (np_then (np_blk (np_then (np_blk (np_then (np_then (np_blk (np_then np_body)))))))))))))) rfl ?_
                                refine a_takeP 39 rfl (by decide +kernel) (np_then (np_then (np_blk (np_then (np_then (np_blk (np_then (np_blk (np_then (np_blk (np_then (np_then (np_blk (np_then np_body)))))))))))))) rfl (y_pick rfl rfl) ?_
                                refine a_takeP 40 rfl (by decide +kernel) (np_then (np_then (np_blk (np_then (np_then (np_blk (np_then (np_blk (np_then (np_blk (np_then (np_then (np_blk (np_then np_body)))))))))))))) rfl (y_move rfl) ?_
                                refine a_skip 41 rfl (by decide +kernel) (np_then (np_then (np_blk (np_then (np_then (np_blk (np_then (np_blk (np_then (np_blk (np_then (np_then (np_blk (np_then np_body)))))))))))))) rfl ?_
                                refine a_skip 42 rfl (by decide +kernel) (np_then (np_then (np_blk (np_then (np_then (np_blk (np_then (np_blk (np_then (np_blk (np_then (np_then (np_blk (np_then np_body)))))))))))))) rfl ?_
                                refine a_skip 43 rfl (by decide +kernel) (np_then (np_then (np_blk (np_then (np_then (np_blk (np_then (np_blk (np_then (np_blk (np_then (np_then (np_blk (np_then np_body)))))))))))))) rfl ?_
                                refine a_skip 44 rfl (by decide +kernel) (np_then (np_then (np_blk (np_then (np_then (np_blk (np_then (np_blk (np_then (np_blk (np_then (np_then (np_blk (np_then np_body)))))))))))))) rfl ?_
                                refine a_skip 45 rfl (by decide +kernel) (np_then (np_then (np_blk (np_then (np_then (np_blk (np_then (np_blk (np_then (np_blk (np_then (np_then (np_blk (np_then np_body)))))))))))))) rfl ?_
                                refine a_takeP 46 rfl (by decide +kernel) (np_then (np_then (np_blk (np_then (np_then (np_blk (np_then (np_blk (np_then (np_blk (np_then (np_then (np_blk (np_then np_body)))))))))))))) rfl (y_pick rfl rfl) ?_
                                refine a_takeP 47 rfl (by decide +kernel) (np_then (np_then (np_blk (np_then (np_then (np_blk (np_then (np_blk (np_then (np_blk (np_then (np_then (np_blk (np_then np_body)))))))))))))) rfl (y_move rfl) ?_
                                refine a_skip 48 rfl (by decide +kernel) (np_then (np_then (np_blk (np_then (np_then (np_blk (np_then (np_blk (np_then (np_blk (np_then (np_then (np_blk (np_then np_body)))))))))))))) rfl ?_
                                refine a_skip 49 rfl (by decide +kernel) (np_then (np_then (np_blk (np_then (np_then (np_blk (np_then (np_blk (np_then (np_blk (np_then (np_then (np_blk (np_then np_body)))))))))))))) rfl ?_
                                refine a_takeP 50 rfl (by decide +kernel) (np_then (np_then (np_blk (np_then (np_then (np_blk (np_then (np_blk (np_then (np_blk (np_then (np_then (np_blk (np_then np_body)))))))))))))) rfl (y_pick rfl rfl) ?_
                                refine a_done (by decide +kernel) ?_
                                refine q_then ?_
                                refine c_t rfl rfl ?_
                                refine c_seq ?_
                                refine c_region ?_
                                refine s_p rfl (y_assign rfl) ?_
                                refine s_nil (q_then ?_)
                                refine c_ret (q_then_ret (q_blk_ret (q_then_ret (q_then_ret (q_blk_ret (q_then_ret (q_blk_ret (q_then_ret (q_blk_ret (q_then_ret (q_then_ret (q_blk_ret (q_then_ret ?_)))))))))))))
                                exact q_ret Try.results8 (rv_tmp rfl rv_nil) ⟨_, rfl, H⟩
                              · refine a_takeP 2 rfl (by decide +kernel) (np_then (np_then (np_blk (np_then (np_then (np_blk (np_then (np_blk (np_then (np_blk (np_then (np_then (np_blk (np_then np_body)))))))))))))) rfl (yF (y_lss rfl rfl) c_87) ?_
                                refine a_takeP 3 rfl (by decide +kernel) (np_then (np_then (np_blk (np_then (np_then (np_blk (np_then (np_blk (np_then (np_blk (np_then (np_then (np_blk (np_then np_body)))))))))))))) rfl (y_move rfl) ?_
                                refine a_takeP 4 rfl (by decide +kernel) (np_then (np_then (np_blk (np_then (np_then (np_blk (np_then (np_blk (np_then (np_blk (np_then (np_then (np_blk (np_then np_body)))))))))))))) rfl (y_fa rfl rfl) ?_
                                obtain ⟨t_38, ht_38, H⟩ := H
                                refine a_take 5 rfl (by decide +kernel) (np_then (np_then (np_blk (np_then (np_then (np_blk (np_then (np_blk (np_then (np_blk (np_then (np_then (np_blk (np_then np_body)))))))))))))) rfl (y_ld rfl) (hc_V 4 rfl ht_38) ?_
                                replace H := ite_e H
                                rcases H with ⟨c_88, H⟩ | ⟨c_88, H⟩
                                · refine a_takeP 6 rfl (by decide +kernel) (np_then (np_then (np_blk (np_then (np_then (np_blk (np_then (np_blk (np_then (np_blk (np_then (np_then (np_blk (np_then np_body)))))))))))))) rfl (yT (y_gtr rfl rfl) c_88) ?_
                                  refine a_takeP 7 rfl (by decide +kernel) (np_then (np_then (np_blk (np_then (np_then (np_blk (np_then (np_blk (np_then (np_blk (np_then (np_then (np_blk (np_then np_body)))))))))))))) rfl (y_pick rfl rfl) ?_
                                  refine a_takeP 8 rfl (by decide +kernel) (np_then (np_then (np_blk (np_then (np_then (np_blk (np_then (np_blk (np_then (np_blk (np_then (np_then (np_blk (np_then np_body)))))))))))))) rfl (y_move rfl) ?_
                                  refine a_skip 9 rfl (by decide +kernel) (np_then (np_then (np_blk (np_then (np_then (np_blk (np_then (np_blk (np_then (np_blk (np_then (np_then (np_blk (np_then np_body)))))))))))))) rfl ?_
                                  refine a_skip 10 rfl (by decide +kernel) (np_then (np_then (np_blk (np_then (np_then (np_blk (np_then (np_blk (np_then (np_blk (np_then (np_then (np_blk (np_then np_body)))))))))))))) rfl ?_
                                  refine a_skip 11 rfl (by decide +kernel) (np_then (np_then (np_blk (np_then (np_then (np_blk (np_then (np_blk (np_then (np_blk (np_then (np_then (np_blk (np_then np_body)))))))))))))) rfl ?_
                                  refine a_takeP 12 rfl (by decide +kernel) (np_then (np_then (np_blk (np_then (np_then (np_blk (np_then (np_blk (np_then (np_blk (np_then (np_then (np_blk (np_then np_body)))))))))))))) rfl (y_pick rfl rfl) ?_
                                  refine a_takeP 13 rfl (by decide +kernel) (np_then (np_then (np_blk (np_then (np_then (np_blk (np_then (np_blk (np_then (np_blk (np_then (np_then (np_blk (np_then np_body)))))))))))))) rfl (y_move rfl) ?_
                                  refine a_skip 14 rfl (by decide +kernel) (np_then (np_then (np_blk (np_then (np_then (np_blk (np_then (np_blk (np_then (np_blk (np_then (np_then (np_blk (np_then np_body)))))))))))))) rfl ?_
                                  refine a_skip 15 rfl (by decide +kernel) (np_then (np_then (np_blk (np_then (np_then (np_blk (np_then (np_blk (np_then (np_blk (np_then (np_then (np_blk (np_then np_body)))))))))))))) rfl ?_
                                  refine a_skip 16 rfl (by decide +kernel) (np_then (np_then (np_blk (np_then (np_then (np_blk (np_then (np_blk (np_then (np_blk (np_then (np_then (np_blk (np_then np_body)))))))))))))) rfl ?_
                                  refine a_takeP 17 rfl (by decide +kernel) (np_then (np_then (np_blk (np_then (np_then (np_blk (np_then (np_blk (np_then (np_blk (np_then (np_then (np_blk (np_then np_body)))))))))))))) rfl (y_pick rfl rfl) ?_
                                  refine a_takeP 18 rfl (by decide +kernel) (np_then (np_then (np_blk (np_then (np_then (np_blk (np_then (np_blk (np_then (np_blk (np_then (np_then (np_blk (np_then np_body)))))))))))))) rfl (y_move rfl) ?_
                                  refine a_skip 19 rfl (by decide +kernel) (np_then (np_then (np_blk (np_then (np_then (np_blk (np_then (np_blk (np_then (np_blk (np_then (np_then (np_blk (np_then np_body)))))))))))))) rfl ?_
                                  refine a_skip 20 rfl (by decide +kernel) (np_then (np_then (np_blk (np_then (np_then (np_blk (np_then (np_blk (np_then (np_blk (np_then (np_then (np_blk (np_then np_body)))))))))))))) rfl ?_
                                  refine a_skip 21 rfl (by decide +kernel) (np_then (np_then (np_blk (np_then (np_then (np_blk (np_then (np_blk (np_then (np_blk (np_then (np_then (np_blk (np_then np_body)))))))))))))) rfl ?_
                                  refine a_skip 22 rfl (by decide +kernel) (np_then (np_then (np_blk (np_then (np_then (np_blk (np_then (np_blk (np_then (np_blk (np_then (np_then (np_blk (np_then np_body)))))))))))))) rfl ?_
                                  refine a_skip 23 rfl (by decide +kernel) (np_then (np_then (np_blk (np_then (np_then (np_blk (np_then (np_blk (np_then (np_blk (np_then (np_then (np_blk (np_then np_body)))))))))))))) rfl ?_
                                  refine a_skip 24 rfl (by decide +kernel) (np_then (np_then (np_blk (np_then (np_then (np_blk (np_then (np_blk (np_then (np_blk (np_then (np_then (np_blk (np_then np_body)))))))))))))) rfl ?_
                                  refine a_skip 25 rfl (by decide +kernel) (np_then (np_then (np_blk (np_then (np_then (np_blk (np_then (np_blk (np_then (np_blk (np_then (np_then (np_blk (np_then np_body)))))))))))))) rfl ?_
                                  refine a_skip 26 rfl (by decide +kernel) (np_then (np_then (np_blk (np_then (np_then (np_blk (np_then (np_blk (np_then (np_blk (np_then (np_then (np_blk (np_then np_body)))))))))))))) rfl ?_
                                  refine a_takeP 27 rfl (by decide +kernel) (np_then (np_then (np_blk (np_then (np_then (np_blk (np_then (np_blk (np_then (np_blk (np_then (np_then (np_blk (np_then np_body)))))))))))))) rfl (y_pick rfl rfl) ?_
                                  refine a_takeP 28 rfl (by decide +kernel) (np_then (np_then (np_blk (np_then (np_then (np_blk (np_then (np_blk (np_then (np_blk (np_then (np_then (np_blk (np_then np_body)))))))))))))) rfl (y_move rfl) ?_
                                  refine a_skip 29 rfl (by decide +kernel) (np_then (np_then (np_blk (np_then (np_then (np_blk (np_then (np_blk (np_then (np_blk (np_then (np_then (np_blk (np_then np_body)))))))))))))) rfl ?_
                                  refine a_skip 30 rfl (by decide +kernel) (np_then (np_then (np_blk (np_then (np_then (np_blk (np_then (np_blk (np_then (np_blk (np_then (np_then (np_blk (np_then np_body)))))))))))))) rfl ?_
                                  refine a_skip 31 rfl (by decide +kernel) (np_then (np_then (np_blk (np_then (np_then (np_blk (np_then (np_blk (np_then (np_blk (np_then (np_then (np_blk (np_then np_body)))))))))))))) rfl ?_
                                  refine a_skip 32 rfl (by decide +kernel) (np_then (np_then (np_blk (np_then (np_then (np_blk (np_then (np_blk (np_then (np_blk (np_then (np_then (np_blk (np_then np_body)))))))))))))) rfl ?_
                                  refine a_skip 33 rfl (by decide +kernel) (np_then (np_then (np_blk (np_then (np_then (np_blk (np_then (np_blk (np_then (np_blk (np_then (np_then (np_blk (np_then np_body)))))))))))))) rfl ?_
                                  refine a_skip 34 rfl (by decide +kernel) (np_then (np_then (np_blk (np_then (np_then (np_blk (np_then (np_blk (np_then (np_blk (np_then (np_then (np_blk (np_then np_body)))))))))))))) rfl ?_
                                  refine a_skip 35 rfl (by decide +kernel) (np_then (np_then (np_blk (np_then (np_then (np_blk (np_then (np_blk (np_then (np_blk (np_then (np_then (np_blk (np_then np_body)))))))))))))) rfl ?_
                                  refine a_skip 36 rfl (by decide +kernel) (np_then (np_then (np_blk (np_then (np_then (np_blk (np_then (np_blk (np_then (np_blk (np_then (np_then (np_blk (np_then np_body)))))))))))))) rfl ?_
                                  refine a_skip 37 rfl (by decide +kernel) (np_then (np_then (np_blk (np_then (np_then (np_blk (np_then (np_blk (np_then (np_blk (np_then (np_then (np_blk (np_then np_body)))))))))))))) rfl ?_
                                  refine a_skip 38 rfl (by decide +kernel) (np_then (np_then (np_blk (np_then (np_then (np_blk (np_then (np_blk (np_then (np_blk (np_then (np_then (np_blk (np_then np_body)))))))))))))) rfl ?_
                                  refine a_takeP 39 rfl (by decide +kernel) (np_then (np_then (np_blk (np_then (np_then (np_blk (np_then (np_blk (np_then (np_blk (np_then (np_then (np_blk (np_then np_body)))))))))))))) rfl (y_pick rfl rfl) ?_
                                  refine a_takeP 40 rfl (by decide +kernel) (np_then (np_then (np_blk (np_then (np_then (np_blk (np_then (np_blk (np_then (np_blk (np_then (np_then (np_blk (np_then np_body)))))))))))))) rfl (y_move rfl) ?_
                                  refine a_skip 41 rfl (by decide +kernel) (np_then (np_then (np_blk (np_then (np_then (np_blk (np_then (np_blk (np_then (np_blk (np_then (np_then (np_blk (np_then np_body)))))))))))))) rfl ?_
                                  refine a_skip 42 rfl (by decide +kernel) (np_then (np_then (np_blk (np_then (np_then (np_blk (np_then (np_blk (np_then (np_blk (np_then (np_then (np_blk (np_then np_body)))))))))))))) rfl ?_
                                  refine a_skip 43 rfl (by decide +kernel) (np_then (np_then (np_blk (np_then (np_then (np_blk (np_then (np_blk (np_then (np_blk (np_then (np_then (np_blk (np_then np_body)))))))))))))) rfl ?_
                                  refine a_skip 44 rfl (by decide +kernel) (np_then (np_then (np_blk (np_then (np_then (np_blk (np_then (np_blk (np_then (np_blk (np_then (np_then (np_blk (np_then np_body)))))))))))))) rfl ?_
                                  refine a_skip 45 rfl (by decide +kernel) (np_then (np_then (np_blk (np_then (np_then (np_blk (np_then (np_blk (np_then (np_blk (np_then (np_then (np_blk (np_then np_body)))))))))))))) rfl ?_
                                  refine a_takeP 46 rfl (by decide +kernel) (np_then (np_then (np_blk (np_then (np_then (np_blk (np_then (np_blk (np_then (np_blk (np_then (np_then (np_blk (np_then np_body)))))))))))))) rfl (y_pick rfl rfl) ?_
                                  refine a_takeP 47 rfl (by decide +kernel) (np_then (np_then (np_blk (np_then (np_then (np_blk (np_then (np_blk (np_then (np_blk (np_then (np_then (np_blk (np_then np_body)))))))))))))) rfl (y_move rfl) ?_
                                  refine a_skip 48 rfl (by decide +kernel) (np_then (np_then (np_blk (np_then (np_then (np_blk (np_then (np_blk (np_then (np_blk (np_then (np_then (np_blk (np_then np_body)))))))))))))) rfl ?_
                                  refine a_skip 49 rfl (by decide +kernel) (np_then (np_then (np_blk (np_then (np_then (np_blk (np_then (np_blk (np_then (np_blk (np_then (np_then (np_blk (np_then np_body)))))))))))))) rfl ?_
                                  refine a_takeP 50 rfl (by decide +kernel) (np_then (np_then (np_blk (np_then (np_then (np_blk (np_then (np_blk (np_then (np_blk (np_then (np_then (np_blk (np_then np_body)))))))))))))) rfl (y_pick rfl rfl) ?_
                                  refine a_done (by decide +kernel) ?_
                                  refine q_then ?_
                                  refine c_t rfl rfl ?_
                                  refine c_seq ?_
                                  refine c_region ?_
                                  refine s_p rfl (y_assign rfl) ?_
                                  refine s_nil (q_then ?_)
                                  refine c_ret (q_then_ret (q_blk_ret (q_then_ret (q_then_ret (q_blk_ret (q_then_ret (q_blk_ret (q_then_ret (q_blk_ret (q_then_ret (q_then_ret (q_blk_ret (q_then_ret ?_)))))))))))))
                                  exact q_ret Try.results8 (rv_tmp rfl rv_nil) ⟨_, rfl, H⟩
                                · refine a_takeP 6 rfl (by decide +kernel) (np_then (np_then (np_blk (np_then (np_then (np_blk (np_then (np_blk (np_then (np_blk (np_then (np_then (np_blk (np_then np_body)))))))))))))) rfl (yF (y_gtr rfl rfl) c_88) ?_
                                  refine a_takeP 7 rfl (by decide +kernel) (np_then (np_then (np_blk (np_then (np_then (np_blk (np_then (np_blk (np_then (np_blk (np_then (np_then (np_blk (np_then np_body)))))))))))))) rfl (y_pick rfl rfl) ?_
                                  refine a_takeP 8 rfl (by decide +kernel) (np_then (np_then (np_blk (np_then (np_then (np_blk (np_then (np_blk (np_then (np_blk (np_then (np_then (np_blk (np_then np_body)))))))))))))) rfl (y_move rfl) ?_
                                  refine a_takeP 9 rfl (by decide +kernel) (np_then (np_then (np_blk (np_then (np_then (np_blk (np_then (np_blk (np_then (np_blk (np_then (np_then (np_blk (np_then np_body)))))))))))))) rfl (y_fa rfl rfl) ?_
                                  obtain ⟨t_39, ht_39, H⟩ := H
                                  refine a_take 10 rfl (by decide +kernel) (np_then (np_then (np_blk (np_then (np_then (np_blk (np_then (np_blk (np_then (np_blk (np_then (np_then (np_blk (np_then np_body)))))))))))))) rfl (y_ld rfl) (hc_V 4 rfl ht_39) ?_
                                  replace H := ite_e H
                                  rcases H with ⟨c_89, H⟩ | ⟨c_89, H⟩
                                  · refine a_takeP 11 rfl (by decide +kernel) (np_then (np_then (np_blk (np_then (np_then (np_blk (np_then (np_blk (np_then (np_blk (np_then (np_then (np_blk (np_then np_body)))))))))))))) rfl (yT (y_lss rfl rfl) c_89) ?_
                                    refine a_takeP 12 rfl (by decide +kernel) (np_then (np_then (np_blk (np_then (np_then (np_blk (np_then (np_blk (np_then (np_blk (np_then (np_then (np_blk (np_then np_body)))))))))))))) rfl (y_pick rfl rfl) ?_
                                    refine a_takeP 13 rfl (by decide +kernel) (np_then (np_then (np_blk (np_then (np_then (np_blk (np_then (np_blk (np_then (np_blk (np_then (np_then (np_blk (np_then np_body)))))))))))))) rfl (y_move rfl) ?_
                                    refine a_skip 14 rfl (by decide +kernel) (np_then (np_then (np_blk (np_then (np_then (np_blk (np_then (np_blk (np_then (np_blk (np_then (np_then (np_blk (np_then np_body)))))))))))))) rfl ?_
                                    refine a_skip 15 rfl (by decide +kernel) (np_then (np_then (np_blk (np_then (np_then (np_blk (np_then (np_blk (np_then (np_blk (np_then (np_then (np_blk (np_then np_body)))))))))))))) rfl ?_
                                    refine a_skip 16 rfl (by decide +kernel) (np_then (np_then (np_blk (np_then (np_then (np_blk (np_then (np_blk (np_then (np_blk (np_then (np_then (np_blk (np_then np_body)))))))))))))) rfl ?_
                                    refine a_takeP 17 rfl (by decide +kernel) (np_then (np_then (np_blk (np_then (np_then (np_blk (np_then (np_blk (np_then (np_blk (np_then (np_then (np_blk (np_then np_body)))))))))))))) rfl (y_pick rfl rfl) ?_
                                    refine a_takeP 18 rfl (by decide +kernel) (np_then (np_then (np_blk (np_then (np_then (np_blk (np_then (np_blk (np_then (np_blk (np_then (np_then (np_blk (np_then np_body)))))))))))))) rfl (y_move rfl) ?_
                                    refine a_skip 19 rfl (by decide +kernel) (np_then (np_then (np_blk (np_then (np_then (np_blk (np_then (np_blk (np_then (np_blk (np_then (np_then (np_blk (np_then np_body)))))))))))))) rfl ?_
                                    refine a_skip 20 rfl (by decide +kernel) (np_then (np_then (np_blk (np_then (np_then (np_blk (np_then (np_blk (np_then (np_blk (np_then (np_then (np_blk (np_then np_body)))))))))))))) rfl ?_
                                    refine a_skip 21 rfl (by decide +kernel) (np_then (np_then (np_blk (np_then (np_then (np_blk (np_then (np_blk (np_then (np_blk (np_then (np_then (np_blk (np_then np_body)))))))))))))) rfl ?_
                                    refine a_skip 22 rfl (by decide +kernel) (np_then (np_then (np_blk (np_then (np_then (np_blk (np_then (np_blk (np_then (np_blk (np_then (np_then (np_blk (np_then np_body)))))))))))))) rfl ?_
                                    refine a_skip 23 rfl (by decide +kernel) (np_then (np_then (np_blk (np_then (np_then (np_blk (np_then (np_blk (np_then (np_blk (np_then (np_then (np_blk (np_then np_body)))))))))))))) rfl ?_
                                    refine a_skip 24 rfl (by decide +kernel) (np_then (np_then (np_blk (np_then (np_then (np_blk (np_then (np_blk (np_then (np_blk (np_then (np_then (np_blk (np_then np_body)))))))))))))) rfl ?_
                                    refine a_skip 25 rfl (by decide +kernel) (np_then (np_then (np_blk (np_then (np_then (np_blk (np_then (np_blk (np_then (np_blk (np_then (np_then (np_blk (np_then np_body)))))))))))))) rfl ?_
                                    refine a_skip 26 rfl (by decide +kernel) (np_then (np_then (np_blk (np_then (np_then (np_blk (np_then (np_blk (np_then (np_blk (np_then (np_then (np_blk (np_then np_body)))))))))))))) rfl ?_
                                    refine a_takeP 27 rfl (by decide +kernel) (np_then (np_then (np_blk (np_then (np_then (np_blk (np_then (np_blk (np_then (np_blk (np_then (np_then (np_blk (np_then np_body)))))))))))))) rfl (y_pick rfl rfl) ?_
                                    refine a_takeP 28 rfl (by decide +kernel) (np_then (np_then (np_blk (np_then (np_then (np_blk (np_then (np_blk (np_then (np_blk (np_then (np_then (np_blk (np_then np_body)))))))))))))) rfl (y_move rfl) ?_
                                    refine a_skip 29 rfl (by decide +kernel) (np_then (np_then (np_blk (np_then (np_then (np_blk (np_then (np_blk (np_then (np_blk (np_then (np_then (np_blk (np_then np_body)))))))))))))) rfl ?_
                                    refine a_skip 30 rfl (by decide +kernel) (np_then (np_then (np_blk (np_then (np_then (np_blk (np_then (np_blk (np_then (np_blk (np_then (np_then (np_blk (np_then np_body)))))))))))))) rfl ?_
                                    refine a_skip 31 rfl (by decide +kernel) (np_then (np_then (np_blk (np_then (np_then (np_blk (np_then (np_blk (np_then (np_blk (np_then (np_then (np_blk (np_then np_body)))))))))))))) rfl ?_
                                    refine a_skip 32 rfl (by decide +kernel) (np_then (np_then (np_blk (np_then (np_then (np_blk (np_then (np_blk (np_then (np_blk (np_then (np_then (np_blk (np_then np_body)))))))))))))) rfl ?_
                                    refine a_skip 33 rfl (by decide +kernel) (np_then (np_then (np_blk (np_then (np_then (np_blk (np_then (np_blk (np_then (np_blk (np_then (np_then (np_blk (np_then np_body)))))))))))))) rfl ?_
                                    refine a_skip 34 rfl (by decide +kernel) (np_then (np_then (np_blk (np_then (np_then (np_blk (np_then (np_blk (np_then (np_blk (np_then (np_then (np_blk (np_then np_body)))))))))))))) rfl ?_
                                    refine a_skip 35 rfl (by decide +kernel) (np_then (np_then (np_blk (np_then (np_then (np_blk (np_then (np_blk (np_then (np_blk (np_then (np_then (np_blk (np_then np_body)))))))))))))) rfl ?_
                                    refine a_skip 36 rfl (by decide +kernel) (np_then (np_then (np_blk (np_then (np_then (np_blk (np_then (np_blk (np_then (np_blk (np_then (np_then (np_blk (np_then np_body)))))))))))))) rfl ?_
                                    refine a_skip 37 rfl (by decide +kernel) (np_then (np_then (np_blk (np_then (np_then (np_blk (np_then (np_blk (np_then (np_blk (np_then (np_then (np_blk (np_then np_body)))))))))))))) rfl ?_
                                    refine a_skip 38 rfl (by decide +kernel) (np_then (np_then (np_blk (np_then (np_then (np_blk (np_then (np_blk (np_then (np_blk (np_then (np_then (np_blk (np_then np_body)))))))))))))) rfl ?_
                                    refine a_takeP 39 rfl (by decide +kernel) (np_then (np_then (np_blk (np_then (np_then (np_blk (np_then (np_blk (np_then (np_blk (np_then (np_then (np_blk (np_then np_body)))))))))))))) rfl (y_pick rfl rfl) ?_
                                    refine a_takeP 40 rfl (by decide +kernel) (np_then (np_then (np_blk (np_then (np_then (np_blk (np_then (np_blk (np_then (np_blk (np_then (np_then (np_blk (np_then np_body)))))))))))))) rfl (y_move rfl) ?_
                                    refine a_skip 41 rfl (by decide +kernel) (np_then (np_then (np_blk (np_then (np_then (np_blk (np_then (np_blk (np_then (np_blk (np_then (np_then (np_blk (np_then np_body)))))))))))))) rfl ?_
                                    refine a_skip 42 rfl (by decide +kernel) (np_then (np_then (np_blk (np_then (np_then (np_blk (np_then (np_blk (np_then (np_blk (np_then (np_then (np_blk (np_then np_body)))))))))))))) rfl ?_
                                    refine a_skip 43 rfl (by decide +kernel) (np_then (np_then (np_blk (np_then (np_then (np_blk (np_then (np_blk (np_then (np_blk (np_then (np_then (np_blk (np_then np_body)))))))))))))) rfl ?_
                                    refine a_skip 44 rfl (by decide +kernel) (np_then (np_then (np_blk (np_then (np_then (np_blk (np_then (np_blk (np_then (np_blk (np_then (np_then (np_blk (np_then np_body)))))))))))))) rfl ?_
                                    refine a_skip 45 rfl (by decide +kernel) (np_then (np_then (np_blk (np_then (np_then (np_blk (np_then (np_blk (np_then (np_blk (np_then (np_then (np_blk (np_then np_body)))))))))))))) rfl ?_
                                    refine a_takeP 46 rfl (by decide +kernel) (np_then (np_then (np_blk (np_then (np_then (np_blk (np_then (np_blk (np_then (np_blk (np_then (np_then (np_blk (np_then np_body)))))))))))))) rfl (y_pick rfl rfl) ?_
                                    refine a_takeP 47 rfl (by decide +kernel) (np_then (np_then (np_blk (np_then (np_then (np_blk (np_then (np_blk (np_then (np_blk (np_then (np_then (np_blk (np_then np_body)))))))))))))) rfl (y_move rfl) ?_
                                    refine a_skip 48 rfl (by decide +kernel) (np_then (np_then (np_blk (np_then (np_then (np_blk (np_then (np_blk (np_then (np_blk (np_then (np_then (np_blk (np_then np_body)))))))))))))) rfl ?_
                                    refine a_skip 49 rfl (by decide +kernel) (np_then (np_then (np_blk (np_then (np_then (np_blk (np_then (np_blk (np_then (np_blk (np_then (np_then (np_blk (np_then np_body)))))))))))))) rfl ?_
                                    refine a_takeP 50 rfl (by decide +kernel) (np_then (np_then (np_blk (np_then (np_then (np_blk (np_then (np_blk (np_then (np_blk (np_then (np_then (np_blk (np_then np_body)))))))))))))) rfl (y_pick rfl rfl) ?_
                                    refine a_done (by decide +kernel) ?_
                                    refine q_then ?_
                                    refine c_t rfl rfl ?_
                                    refine c_seq ?_
                                    refine c_region ?_
                                    refine s_p rfl (y_assign rfl) ?_
                                    refine s_nil (q_then ?_)
                                    refine c_ret (q_then_ret (q_blk_ret (q_then_ret (q_then_ret (q_blk_ret (q_then_ret (q_blk_ret (q_then_ret (q_blk_ret (q_then_ret (q_then_ret (q_blk_ret (q_then_ret ?_)))))))))))))
                                    exact q_ret Try.results8 (rv_tmp rfl rv_nil) ⟨_, rfl, H⟩
                                  · refine a_takeP 11 rfl (by decide +kernel) (np_then (np_then (np_blk (np_then (np_then (np_blk (np_then (np_blk (np_then (np_blk (np_then (np_then (np_blk (np_then np_body)))))))))))))) rfl (yF (y_lss rfl rfl) c_89) ?_
                                    refine a_takeP 12 rfl (by decide +kernel) (np_then (np_then (np_blk (np_then (np_then (np_blk (np_then (np_blk (np_then (np_blk (np_then (np_then (np_blk (np_then np_body)))))))))))))) rfl (y_pick rfl rfl) ?_
                                    refine a_takeP 13 rfl (by decide +kernel) (np_then (np_then (np_blk (np_then (np_then (np_blk (np_then (np_blk (np_then (np_blk (np_then (np_then (np_blk (np_then np_body)))))))))))))) rfl (y_move rfl) ?_
                                    refine a_takeP 14 rfl (by decide +kernel) (np_then (np_then (np_blk (np_then (np_then (np_blk (np_then (np_blk (np_then (np_blk (np_then (np_then (np_blk (np_then np_body)))))))))))))) rfl (y_fa rfl rfl) ?_
                                    obtain ⟨t_40, ht_40, H⟩ := H
                                    refine a_take 15 rfl (by decide +kernel) (np_then (np_then (np_blk (np_then (np_then (np_blk (np_then (np_blk (np_then (np_blk (np_then (np_then (np_blk (np_then np_body)))))))))))))) rfl (y_ld rfl) (hc_V 4 rfl ht_40) ?_
                                    replace H := ite_e H
                                    rcases H with ⟨c_90, H⟩ | ⟨c_90, H⟩
                                    · refine a_takeP 16 rfl (by decide +kernel) (np_then (np_then (np_blk (np_then (np_then (np_blk (np_then (np_blk (np_then (np_blk (np_then (np_then (np_blk (np_then np_body)))))))))))))) rfl (yT (y_gtr rfl rfl) c_90) ?_
                                      refine a_takeP 17 rfl (by decide +kernel) (np_then (np_then (np_blk (np_then (np_then (np_blk (np_then (np_blk (np_then (np_blk (np_then (np_then (np_blk (np_then np_body)))))))))))))) rfl (y_pick rfl rfl) ?_
                                      refine a_takeP 18 rfl (by decide +kernel) (np_then (np_then (np_blk (np_then (np_then (np_blk (np_then (np_blk (np_then (np_blk (np_then (np_then (np_blk (np_then np_body)))))))))))))) rfl (y_move rfl) ?_
                                      refine a_skip 19 rfl (by decide +kernel) (np_then (np_then (np_blk (np_then (np_then (np_blk (np_then (np_blk (np_then (np_blk (np_then (np_then (np_blk (np_then np_body)))))))))))))) rfl ?_
                                      refine a_skip 20 rfl (by decide +kernel) (np_then (np_then (np_blk (np_then (np_then (np_blk (np_then (np_blk (np_then (np_blk (np_then (np_then (np_blk (np_then np_body)))))))))))))) rfl ?_
                                      refine a_skip 21 rfl (by decide +kernel) (np_then (np_then (np_blk (np_then (np_then (np_blk (np_then (np_blk (np_then (np_blk (np_then (np_then (np_blk (np_then np_body)))))))))))))) rfl ?_
                                      refine a_skip 22 rfl (by decide +kernel) (np_then (np_then (np_blk (np_then (np_then (np_blk (np_then (np_blk (np_then (np_blk (np_then (np_then (np_blk (np_then np_body)))))))))))))) rfl ?_
                                      refine a_skip 23 rfl (by decide +kernel) (np_then (np_then (np_blk (np_then (np_then (np_blk (np_then (np_blk (np_then (np_blk (np_then (np_then (np_blk (np_then np_body)))))))))))))) rfl ?_
                                      refine a_skip 24 rfl (by decide +kernel) (np_then (np_then (np_blk (np_then (np_then (np_blk (np_then (np_blk (np_then (np_blk (np_then (np_then (np_blk (np_then np_body)))))))))))))) rfl ?_
                                      refine a_skip 25 rfl (by decide +kernel) (np_then (np_then (np_blk (np_then (np_then (np_blk (np_then (np_blk (np_then (np_blk (np_then (np_then (np_blk (np_then np_body)))))))))))))) rfl ?_
                                      refine a_skip 26 rfl (by decide +kernel) (np_then (np_then (np_blk (np_then (np_then (np_blk (np_then (np_blk (np_then (np_blk (np_then (np_then (np_blk (np_then np_body)))))))))))))) rfl ?_
                                      refine a_takeP 27 rfl (by decide +kernel) (np_then (np_then (np_blk (np_then (np_then (np_blk (np_then (np_blk (np_then (np_blk (np_then (np_then (np_blk (np_then np_body)))))))))))))) rfl (y_pick rfl rfl) ?_
                                      refine a_takeP 28 rfl (by decide +kernel) (np_then (np_then (np_blk (np_then (np_then (np_blk (np_then (np_blk (np_then (np_blk (np_then (np_then (np_blk (np_then np_body)))))))))))))) rfl (y_move rfl) ?_
                                      refine a_skip 29 rfl (by decide +kernel) (np_then (np_then (np_blk (np_then (np_then (np_blk (np_then (np_blk (np_then (np_blk (np_then (np_then (np_blk (np_then np_body)))))))))))))) rfl ?_
                                      refine a_skip 30 rfl (by decide +kernel) (np_then (np_then (np_blk (np_then (np_then (np_blk (np_then (np_blk (np_then (np_blk (np_then (np_then (np_blk (np_then np_body)))))))))))))) rfl ?_
                                      refine a_skip 31 rfl (by decide +kernel) (np_then (np_then (np_blk (np_then (np_then (np_blk (np_then (np_blk (np_then (np_blk (np_then (np_then (np_blk (np_then np_body)))))))))))))) rfl ?_
                                      refine a_skip 32 rfl (by decide +kernel) (np_then (np_then (np_blk (np_then (np_then (np_blk (np_then (np_blk (np_then (np_blk (np_then (np_then (np_blk (np_then np_body)))))))))))))) rfl ?_
                                      refine a_skip 33 rfl (by decide +kernel) (np_then (np_then (np_blk (np_then (np_then (np_blk (np_then (np_blk (np_then (np_blk (np_then (np_then (np_blk (np_then np_body)))))))))))))) rfl ?_
                                      refine a_skip 34 rfl (by decide +kernel) (np_then (np_then (np_blk (np_then (np_then (np_blk (np_then (np_blk (np_then (np_blk (np_then (np_then (np_blk (np_then np_body)))))))))))))) rfl ?_
                                      refine a_skip 35 rfl (by decide +kernel) (np_then (np_then (np_blk (np_then (np_then (np_blk (np_then (np_blk (np_then (np_blk (np_then (np_then (np_blk (np_then np_body)))))))))))))) rfl ?_
                                      refine a_skip 36 rfl (by decide +kernel) (np_then (np_then (np_blk (np_then (np_then (np_blk (np_then (np_blk (np_then (np_blk (np_then (np_then (np_blk (np_then np_body)))))))))))))) rfl ?_
                                      refine a_skip 37 rfl (by decide +kernel) (np_then (np_then (np_blk (np_then (np_then (np_blk (np_then (np_blk (np_then (np_blk (np_then (np_then (np_blk (np_then np_body)))))))))))))) rfl ?_
                                      refine a_skip 38 rfl (by decide +kernel) (np_then (np_then (np_blk (np_then (np_then (np_blk (np_then (np_blk (np_then (np_blk (np_then (np_then (np_blk (np_then np_body)))))))))))))) rfl ?_
                                      refine a_takeP 39 rfl (by decide +kernel) (np_then (np_then (np_blk (np_then (np_then (np_blk (np_then (np_blk (np_then (np_blk (np_then (np_then (np_blk (np_then np_body)))))))))))))) rfl (y_pick rfl rfl) ?_
                                      refine a_takeP 40 rfl (by decide +kernel) (np_then (np_then (np_blk (np_then (np_then (np_blk (np_then (np_blk (np_then (np_blk (np_then (np_then (np_blk (np_then np_body)))))))))))))) rfl (y_move rfl) ?_
                                      refine a_skip 41 rfl (by decide +kernel) (np_then (np_then (np_blk (np_then (np_then (np_blk (np_then (np_blk (np_then (np_blk (np_then (np_then (np_blk (np_then np_body)))))))))))))) rfl ?_
                                      refine a_skip 42 rfl (by decide +kernel) (np_then (np_then (np_blk (np_then (np_then (np_blk (np_then (np_blk (np_then (np_blk (np_then (np_then (np_blk (np_then np_body)))))))))))))) rfl ?_
                                      refine a_skip 43 rfl (by decide +kernel) (np_then (np_then (np_blk (np_then (np_then (np_blk (np_then (np_blk (np_then (np_blk (np_then (np_then (np_blk (np_then np_body)))))))))))))) rfl ?_
                                      refine a_skip 44 rfl (by decide +kernel) (np_then (np_then (np_blk (np_then (np_then (np_blk (np_then (np_blk (np_then (np_blk (np_then (np_then (np_blk (np_then np_body)))))))))))))) rfl ?_
                                      refine a_skip 45 rfl (by decide +kernel) (np_then (np_then (np_blk (np_then (np_then (np_blk (np_then (np_blk (np_then (np_blk (np_then (np_then (np_blk (np_then np_body)))))))))))))) rfl ?_
                                      refine a_takeP 46 rfl (by decide +kernel) (np_then (np_then (np_blk (np_then (np_then (np_blk (np_then (np_blk (np_then (np_blk (np_then (np_then (np_blk (np_then np_body)))))))))))))) rfl (y_pick rfl rfl) ?_
                                      refine a_takeP 47 rfl (by decide +kernel) (np_then (np_then (np_blk (np_then (np_then (np_blk (np_then (np_blk (np_then (np_blk (np_then (np_then (np_blk (np_then np_body)))))))))))))) rfl (y_move rfl) ?_
                                      refine a_skip 48 rfl (by decide +kernel) (np_then (np_then (np_blk (np_then (np_then (np_blk (np_then (np_blk (np_then (np_blk (np_then (np_then (np_blk (np_then np_body)))))))))))))) rfl ?_
                                      refine a_skip 49 rfl (by decide +kernel) (np_then (np_then (np_blk (np_then (np_then (np_blk (np_then (np_blk (np_then (np_blk (np_then (np_then (np_blk (np_then np_body)))))))))))))) rfl ?_
                                      refine a_takeP 50 rfl (by decide +kernel) (np_then (np_then (np_blk (np_then (np_then (np_blk (np_then (np_blk (np_then (np_blk (np_then (np_then (np_blk (np_then np_body)))))))))))))) rfl (y_pick rfl rfl) ?_
                                      refine a_done (by decide +kernel) ?_
                                      refine q_then ?_
                                      refine c_t rfl rfl ?_
                                      refine c_seq ?_
                                      refine c_region ?_
                                      refine s_p rfl (y_assign rfl) ?_
                                      refine s_nil (q_then ?_)
                                      refine c_ret (q_then_ret (q_blk_ret (q_then_ret (q_then_ret (q_blk_ret (q_then_ret (q_blk_ret (q_then_ret (q_blk_ret (q_then_ret (q_then_ret (q_blk_ret (q_then_ret ?_)))))))))))))
                                      exact q_ret Try.results8 (rv_tmp rfl rv_nil) ⟨_, rfl, H⟩
                                    · refine a_takeP 16 rfl (by decide +kernel) (np_then (np_then (np_blk (np_then (np_then (np_blk (np_then (np_blk (np_then (np_blk (np_then (np_then (np_blk (np_then np_body)))))))))))))) rfl (yF (y_gtr rfl rfl) c_90) ?_
                                      refine a_takeP 17 rfl (by decide +kernel) (np_then (np_then (np_blk (np_then (np_then (np_blk (np_then (np_blk (np_then (np_blk (np_then (np_then (np_blk (np_then np_body)))))))))))))) rfl (y_pick rfl rfl) ?_
                                      refine a_takeP 18 rfl (by decide +kernel) (np_then (np_then (np_blk (np_then (np_then (np_blk (np_then (np_blk (np_then (np_blk (np_then (np_then (np_blk (np_then np_body)))))))))))))) rfl (y_move rfl) ?_
                                      refine a_takeP 19 rfl (by decide +kernel) (np_then (np_then (np_blk (np_then (np_then (np_blk (np_then (np_blk (np_then (np_blk (np_then (np_then (np_blk (np_then np_body)))))))))))))) rfl (y_fa rfl rfl) ?_
                                      obtain ⟨t_41, ht_41, H⟩ := H
                                      refine a_take 20 rfl (by decide +kernel) (np_then (np_then (np_blk (np_then (np_then (np_blk (np_then (np_blk (np_then (np_blk (np_then (np_then (np_blk (np_then np_body)))))))))))))) rfl (y_ld rfl) (hc_V 4 rfl ht_41) ?_
                                      refine a_takeP 21 rfl (by decide +kernel) (np_then (np_then (np_blk (np_then (np_then (np_blk (np_then (np_blk (np_then (np_blk (np_then (np_then (np_blk (np_then np_body)))))))))))))) rfl (y_fa rfl rfl) ?_
                                      obtain ⟨t_42, ht_42, H⟩ := H
                                      refine a_take 22 rfl (by decide +kernel) (np_then (np_then (np_blk (np_then (np_then (np_blk (np_then (np_blk (np_then (np_blk (np_then (np_then (np_blk (np_then np_body)))))))))))))) rfl (y_ld rfl) (hc_V 4 rfl ht_42) ?_
                                      obtain ⟨c_91, c_92, H⟩ := H
                                      refine a_takeP 23 rfl (by decide +kernel) (np_then (np_then (np_blk (np_then (np_then (np_blk (np_then (np_blk (np_then (np_blk (np_then (np_then (np_blk (np_then np_body)))))))))))))) rfl (y_ixA rfl rfl c_91 c_92 rfl) ?_
                                      obtain ⟨c_93, c_94, H⟩ := H
                                      refine a_takeP 24 rfl (by decide +kernel) (np_then (np_then (np_blk (np_then (np_then (np_blk (np_then (np_blk (np_then (np_blk (np_then (np_then (np_blk (np_then np_body)))))))))))))) rfl (y_ixA rfl rfl c_93 c_94 rfl) ?_
                                      obtain ⟨t_43, ht_43, H⟩ := H
                                      replace H := ib_e H
                                      rcases H with ⟨rfl, H⟩ | ⟨rfl, H⟩
                                      · refine a_take 25 rfl (by decide +kernel) (np_then (np_then (np_blk (np_then (np_then (np_blk (np_then (np_blk (np_then (np_blk (np_then (np_then (np_blk (np_then np_body)))))))))))))) rfl (y_ld rfl) (hc_V 0 rfl ht_43) ?_
                                        refine a_takeP 26 rfl (by decide +kernel) (np_then (np_then (np_blk (np_then (np_then (np_blk (np_then (np_blk (np_then (np_blk (np_then (np_then (np_blk (np_then np_body)))))))))))))) rfl (yB (y_not rfl) rfl) ?_
                                        refine a_takeP 27 rfl (by decide +kernel) (np_then (np_then (np_blk (np_then (np_then (np_blk (np_then (np_blk (np_then (np_blk (np_then (np_then (np_blk (np_then np_body)))))))))))))) rfl (y_pick rfl rfl) ?_
                                        refine a_takeP 28 rfl (by decide +kernel) (np_then (np_then (np_blk (np_then (np_then (np_blk (np_then (np_blk (np_then (np_blk (np_then (np_then (np_blk (np_then np_body)))))))))))))) rfl (y_move rfl) ?_
                                        refine a_takeP 29 rfl (by decide +kernel) (np_then (np_then (np_blk (np_then (np_then (np_blk (np_then (np_blk (np_then (np_blk (np_then (np_then (np_blk (np_then np_body)))))))))))))) rfl (y_fa rfl rfl) ?_
                                        obtain ⟨t_44, ht_44, H⟩ := H
                                        refine a_take 30 rfl (by decide +kernel) (np_then (np_then (np_blk (np_then (np_then (np_blk (np_then (np_blk (np_then (np_blk (np_then (np_then (np_blk (np_then np_body)))))))))))))) rfl (y_ld rfl) (hc_V 4 rfl ht_44) ?_
                                        refine a_takeP 31 rfl (by decide +kernel) (np_then (np_then (np_blk (np_then (np_then (np_blk (np_then (np_blk (np_then (np_blk (np_then (np_then (np_blk (np_then np_body)))))))))))))) rfl (y_fa rfl rfl) ?_
                                        obtain ⟨t_45, ht_45, H⟩ := H
                                        refine a_take 32 rfl (by decide +kernel) (np_then (np_then (np_blk (np_then (np_then (np_blk (np_then (np_blk (np_then (np_blk (np_then (np_then (np_blk (np_then np_body)))))))))))))) rfl (y_ld rfl) (hc_V 4 rfl ht_45) ?_
                                        obtain ⟨c_95, c_96, H⟩ := H
                                        refine a_takeP 33 rfl (by decide +kernel) (np_then (np_then (np_blk (np_then (np_then (np_blk (np_then (np_blk (np_then (np_blk (np_then (np_then (np_blk (np_then np_body)))))))))))))) rfl (y_ixA rfl rfl c_95 c_96 rfl) ?_
                                        obtain ⟨c_97, c_98, H⟩ := H
                                        refine a_takeP 34 rfl (by decide +kernel) (np_then (np_then (np_blk (np_then (np_then (np_blk (np_then (np_blk (np_then (np_blk (np_then (np_then (np_blk (np_then np_body)))))))))))))) rfl (y_ixA rfl rfl c_97 c_98 rfl) ?_
                                        obtain ⟨t_46, ht_46, H⟩ := H
                                        refine a_take 35 rfl (by decide +kernel) (np_then (np_then (np_blk (np_then (np_then (np_blk (np_then (np_blk (np_then (np_blk (np_then (np_then (np_blk (np_then np_body)))))))))))))) rfl (y_ld rfl) (hc_V 1 rfl ht_46) ?_
                                        refine a_takeP 36 rfl (by decide +kernel) (np_then (np_then (np_blk (np_then (np_then (np_blk (np_then (np_blk (np_then (np_blk (np_then (np_then (np_blk (np_then np_body)))))))))))))) rfl (y_fa rfl rfl) ?_
                                        obtain ⟨t_47, ht_47, H⟩ := H
                                        refine a_take 37 rfl (by decide +kernel) (np_then (np_then (np_blk (np_then (np_then (np_blk (np_then (np_blk (np_then (np_blk (np_then (np_then (np_blk (np_then np_body)))))))))))))) rfl (y_ld rfl) (hc_V 4 rfl ht_47) ?_
                                        replace H := ite_e H
                                        rcases H with ⟨c_99, H⟩ | ⟨c_99, H⟩
                                        · refine a_takeP 38 rfl (by decide +kernel) (np_then (np_then (np_blk (np_then (np_then (np_blk (np_then (np_blk (np_then (np_blk (np_then (np_then (np_blk (np_then np_body)))))))))))))) rfl (yT (y_neq rfl rfl) c_99) ?_
                                          refine a_takeP 39 rfl (by decide +kernel) (np_then (np_then (np_blk (np_then (np_then (np_blk (np_then (np_blk (np_then (np_blk (np_then (np_then (np_blk (np_then np_body)))))))))))))) rfl (y_pick rfl rfl) ?_
                                          refine a_takeP 40 rfl (by decide +kernel) (np_then (np_then (np_blk (np_then (np_then (np_blk (np_then (np_blk (np_then (np_blk (np_then (np_then (np_blk (np_then np_body)))))))))))))) rfl (y_move rfl) ?_
                                          refine a_skip 41 rfl (by decide +kernel) (np_then (np_then (np_blk (np_then (np_then (np_blk (np_then (np_blk (np_then (np_blk (np_then (np_then (np_blk (np_then np_body)))))))))))))) rfl ?_
                                          refine a_skip 42 rfl (by decide +kernel) (np_then (np_then (np_blk (np_then (np_then (np_blk (np_then (np_blk (np_then (np_blk (np_then (np_then (np_blk (np_then np_body)))))))))))))) rfl ?_
                                          refine a_skip 43 rfl (by decide +kernel) (np_then (np_then (np_blk (np_then (np_then (np_blk (np_then (np_blk (np_then (np_blk (np_then (np_then (np_blk (np_then np_body)))))))))))))) rfl ?_
                                          refine a_skip 44 rfl (by decide +kernel) (np_then (np_then (np_blk (np_then (np_then (np_blk (np_then (np_blk (np_then (np_blk (np_then (np_then (np_blk (np_then np_body)))))))))))))) rfl ?_
                                          refine a_skip 45 rfl (by decide +kernel) (np_then (np_then (np_blk (np_then (np_then (np_blk (np_then (np_blk (np_then (np_blk (np_then (np_then (np_blk (np_then np_body)))))))))))))) rfl ?_
                                          refine a_takeP 46 rfl (by decide +kernel) (np_then (np_then (np_blk (np_then (np_then (np_blk (np_then (np_blk (np_then (np_blk (np_then (np_then (np_blk (np_then np_body)))))))))))))) rfl (y_pick rfl rfl) ?_
                                          refine a_takeP 47 rfl (by decide +kernel) (np_then (np_then (np_blk (np_then (np_then (np_blk (np_then (np_blk (np_then (np_blk (np_then (np_then (np_blk (np_then np_body)))))))))))))) rfl (y_move rfl) ?_
                                          refine a_skip 48 rfl (by decide +kernel) (np_then (np_then (np_blk (np_then (np_then (np_blk (np_then (np_blk (np_then (np_blk (np_then (np_then (np_blk (np_then np_body)))))))))))))) rfl ?_
                                          refine a_skip 49 rfl (by decide +kernel) (np_then (np_then (np_blk (np_then (np_then (np_blk (np_then (np_blk (np_then (np_blk (np_then (np_then (np_blk (np_then np_body)))))))))))))) rfl ?_
                                          refine a_takeP 50 rfl (by decide +kernel) (np_then (np_then (np_blk (np_then (np_then (np_blk (np_then (np_blk (np_then (np_blk (np_then (np_then (np_blk (np_then np_body)))))))))))))) rfl (y_pick rfl rfl) ?_
                                          refine a_done (by decide +kernel) ?_
                                          refine q_then ?_
                                          refine c_t rfl rfl ?_
                                          refine c_seq ?_
                                          refine c_region ?_
                                          refine s_p rfl (y_assign rfl) ?_
                                          refine s_nil (q_then ?_)
                                          refine c_ret (q_then_ret (q_blk_ret (q_then_ret (q_then_ret (q_blk_ret (q_then_ret (q_blk_ret (q_then_ret (q_blk_ret (q_then_ret (q_then_ret (q_blk_ret (q_then_ret ?_)))))))))))))
                                          exact q_ret Try.results8 (rv_tmp rfl rv_nil) ⟨_, rfl, H⟩
                                        · refine a_takeP 38 rfl (by decide +kernel) (np_then (np_then (np_blk (np_then (np_then (np_blk (np_then (np_blk (np_then (np_blk (np_then (np_then (np_blk (np_then np_body)))))))))))))) rfl (yF (y_neq rfl rfl) c_99) ?_
                                          refine a_takeP 39 rfl (by decide +kernel) (np_then (np_then (np_blk (np_then (np_then (np_blk (np_then (np_blk (np_then (np_blk (np_then (np_then (np_blk (np_then np_body)))))))))))))) rfl (y_pick rfl rfl) ?_
                                          refine a_takeP 40 rfl (by decide +kernel) (np_then (np_then (np_blk (np_then (np_then (np_blk (np_then (np_blk (np_then (np_blk (np_then (np_then (np_blk (np_then np_body)))))))))))))) rfl (y_move rfl) ?_
                                          refine a_takeP 41 rfl (by decide +kernel) (np_then (np_then (np_blk (np_then (np_then (np_blk (np_then (np_blk (np_then (np_blk (np_then (np_then (np_blk (np_then np_body)))))))))))))) rfl (y_fa rfl rfl) ?_
                                          obtain ⟨t_48, ht_48, H⟩ := H
                                          refine a_take 42 rfl (by decide +kernel) (np_then (np_then (np_blk (np_then (np_then (np_blk (np_then (np_blk (np_then (np_blk (np_then (np_then (np_blk (np_then np_body)))))))))))))) rfl (y_ld rfl) (hc_V 4 rfl ht_48) ?_
                                          refine a_takeP 43 rfl (by decide +kernel) (np_then (np_then (np_blk (np_then (np_then (np_blk (np_then (np_blk (np_then (np_blk (np_then (np_then (np_blk (np_then np_body)))))))))))))) rfl (y_fa rfl rfl) ?_
                                          obtain ⟨t_49, ht_49, H⟩ := H
                                          refine a_take 44 rfl (by decide +kernel) (np_then (np_then (np_blk (np_then (np_then (np_blk (np_then (np_blk (np_then (np_blk (np_then (np_then (np_blk (np_then np_body)))))))))))))) rfl (y_ld rfl) (hc_V 2 rfl ht_49) ?_
                                          replace H := ite_e H
                                          rcases H with ⟨c_100, H⟩ | ⟨c_100, H⟩
                                          · refine a_takeP 45 rfl (by decide +kernel) (np_then (np_then (np_blk (np_then (np_then (np_blk (np_then (np_blk (np_then (np_blk (np_then (np_then (np_blk (np_then np_body)))))))))))))) rfl (yT (y_gtr rfl rfl) c_100) ?_
                                            refine a_takeP 46 rfl (by decide +kernel) (np_then (np_then (np_blk (np_then (np_then (np_blk (np_then (np_blk (np_then (np_blk (np_then (np_then (np_blk (np_then np_body)))))))))))))) rfl (y_pick rfl rfl) ?_
                                            refine a_takeP 47 rfl (by decide +kernel) (np_then (np_then (np_blk (np_then (np_then (np_blk (np_then (np_blk (np_then (np_blk (np_then (np_then (np_blk (np_then np_body)))))))))))))) rfl (y_move rfl) ?_
                                            refine a_skip 48 rfl (by decide +kernel) (np_then (np_then (np_blk (np_then (np_then (np_blk (np_then (np_blk (np_then (np_blk (np_then (np_then (np_blk (np_then np_body)))))))))))))) rfl ?_
                                            refine a_skip 49 rfl (by decide +kernel) (np_then (np_then (np_blk (np_then (np_then (np_blk (np_then (np_blk (np_then (np_blk (np_then (np_then (np_blk (np_then np_body)))))))))))))) rfl ?_
                                            refine a_takeP 50 rfl (by decide +kernel) (np_then (np_then (np_blk (np_then (np_then (np_blk (np_then (np_blk (np_then (np_blk (np_then (np_then (np_blk (np_then np_body)))))))))))))) rfl (y_pick rfl rfl) ?_
                                            refine a_done (by decide +kernel) ?_
                                            refine q_then ?_
                                            refine c_t rfl rfl ?_
                                            refine c_seq ?_
                                            refine c_region ?_
                                            refine s_p rfl (y_assign rfl) ?_
                                            refine s_nil (q_then ?_)
                                            refine c_ret (q_then_ret (q_blk_ret (q_then_ret (q_then_ret (q_blk_ret (q_then_ret (q_blk_ret (q_then_ret (q_blk_ret (q_then_ret (q_then_ret (q_blk_ret (q_then_ret ?_)))))))))))))
                                            exact q_ret Try.results8 (rv_tmp rfl rv_nil) ⟨_, rfl, H⟩
                                          · refine a_takeP 45 rfl (by decide +kernel) (np_then (np_then (np_blk (np_then (np_then (np_blk (np_then (np_blk (np_then (np_blk (np_then (np_then (np_blk (np_then np_body)))))))))))))) rfl (yF (y_gtr rfl rfl) c_100) ?_
                                            refine a_takeP 46 rfl (by decide +kernel) (np_then (np_then (np_blk (np_then (np_then (np_blk (np_then (np_blk (np_then (np_blk (np_then (np_then (np_blk (np_then np_body)))))))))))))) rfl (y_pick rfl rfl) ?_
                                            refine a_takeP 47 rfl (by decide +kernel) (np_then (np_then (np_blk (np_then (np_then (np_blk (np_then (np_blk (np_then (np_blk (np_then (np_then (np_blk (np_then np_body)))))))))))))) rfl (y_move rfl) ?_
                                            replace H := ite_e H
                                            rcases H with ⟨c_101, H⟩ | ⟨c_101, H⟩
                                            · refine a_takeP 48 rfl (by decide +kernel) (np_then (np_then (np_blk (np_then (np_then (np_blk (np_then (np_blk (np_then (np_blk (np_then (np_then (np_blk (np_then np_body)))))))))))))) rfl (y_moveB rfl c_101) ?_
                                              refine a_takeP 49 rfl (by decide +kernel) (np_then (np_then (np_blk (np_then (np_then (np_blk (np_then (np_blk (np_then (np_blk (np_then (np_then (np_blk (np_then np_body)))))))))))))) rfl (yB (y_not rfl) rfl) ?_
                                              refine a_takeP 50 rfl (by decide +kernel) (np_then (np_then (np_blk (np_then (np_then (np_blk (np_then (np_blk (np_then (np_blk (np_then (np_then (np_blk (np_then np_body)))))))))))))) rfl (y_pick rfl rfl) ?_
                                              refine a_done (by decide +kernel) ?_
                                              refine q_then ?_
                                              refine c_f rfl rfl ?_
                                              refine c_skip ?_
                                              exact hJx_14 () _ _ _ _ [0, 0, 0, 0, 0] H rfl ⟨rfl, rfl, rfl, rfl, rfl, rfl, rfl, rfl, rfl, rfl, rfl, True.intro⟩ rfl
                                            · refine a_takeP 48 rfl (by decide +kernel) (np_then (np_then (np_blk (np_then (np_then (np_blk (np_then (np_blk (np_then (np_blk (np_then (np_then (np_blk (np_then np_body)))))))))))))) rfl (y_moveB rfl (bf_of c_101)) ?_
                                              refine a_takeP 49 rfl (by decide +kernel) (np_then (np_then (np_blk (np_then (np_then (np_blk (np_then (np_blk (np_then (np_blk (np_then (np_then (np_blk (np_then np_body)))))))))))))) rfl (yB (y_not rfl) rfl) ?_
                                              refine a_takeP 50 rfl (by decide +kernel) (np_then (np_then (np_blk (np_then (np_then (np_blk (np_then (np_blk (np_then (np_blk (np_then (np_then (np_blk (np_then np_body)))))))))))))) rfl (y_pick rfl rfl) ?_
                                              refine a_done (by decide +kernel) ?_
                                              refine q_then ?_
                                              refine c_t rfl rfl ?_
                                              refine c_seq ?_
                                              refine c_region ?_
                                              refine s_p rfl (y_assign rfl) ?_
                                              refine s_nil (q_then ?_)
                                              refine c_ret (q_then_ret (q_blk_ret (q_then_ret (q_then_ret (q_blk_ret (q_then_ret (q_blk_ret (q_then_ret (q_blk_ret (q_then_ret (q_then_ret (q_blk_ret (q_then_ret ?_)))))))))))))
                                              exact q_ret Try.results8 (rv_tmp rfl rv_nil) ⟨_, rfl, H⟩
                                      · refine a_take 25 rfl (by decide +kernel) (np_then (np_then (np_blk (np_then (np_then (np_blk (np_then (np_blk (np_then (np_blk (np_then (np_then (np_blk (np_then np_body)))))))))))))) rfl (y_ld rfl) (hc_V 0 rfl ht_43) ?_
                                        refine a_takeP 26 rfl (by decide +kernel) (np_then (np_then (np_blk (np_then (np_then (np_blk (np_then (np_blk (np_then (np_blk (np_then (np_then (np_blk (np_then np_body)))))))))))))) rfl (yB (y_not rfl) rfl) ?_
                                        refine a_takeP 27 rfl (by decide +kernel) (np_then (np_then (np_blk (np_then (np_then (np_blk (np_then (np_blk (np_then (np_blk (np_then (np_then (np_blk (np_then np_body)))))))))))))) rfl (y_pick rfl rfl) ?_
                                        refine a_takeP 28 rfl (by decide +kernel) (np_then (np_then (np_blk (np_then (np_then (np_blk (np_then (np_blk (np_then (np_blk (np_then (np_then (np_blk (np_then np_body)))))))))))))) rfl (y_move rfl) ?_
                                        refine a_skip 29 rfl (by decide +kernel) (np_then (np_then (np_blk (np_then (np_then (np_blk (np_then (np_blk (np_then (np_blk (np_then (np_then (np_blk (np_then np_body)))))))))))))) rfl ?_
                                        refine a_skip 30 rfl (by decide +kernel) (np_then (np_then (np_blk (np_then (np_then (np_blk (np_then (np_blk (np_then (np_blk (np_then (np_then (np_blk (np_then np_body)))))))))))))) rfl ?_
                                        refine a_skip 31 rfl (by decide +kernel) (np_then (np_then (np_blk (np_then (np_then (np_blk (np_then (np_blk (np_then (np_blk (np_then (np_then (np_blk (np_then np_body)))))))))))))) rfl ?_
                                        refine a_skip 32 rfl (by decide +kernel) (np_then (np_then (np_blk (np_then (np_then (np_blk (np_then (np_blk (np_then (np_blk (np_then (np_then (np_blk (np_then np_body)))))))))))))) rfl ?_
                                        refine a_skip 33 rfl (by decide +kernel) (np_then (np_then (np_blk (np_then (np_then (np_blk (np_then (np_blk (np_then (np_blk (np_then (np_then (np_blk (np_then np_body)))))))))))))) rfl ?_
                                        refine a_skip 34 rfl (by decide +kernel) (np_then (np_then (np_blk (np_then (np_then (np_blk (np_then (np_blk (np_then (np_blk (np_then (np_then (np_blk (np_then np_body)))))))))))))) rfl ?_
                                        refine a_skip 35 rfl (by decide +kernel) (np_then (np_then (np_blk (np_then (np_then (np_blk (np_then (np_blk (np_then (np_blk (np_then (np_then (np_blk (np_then np_body)))))))))))))) rfl ?_
                                        refine a_skip 36 rfl (by decide +kernel) (np_then (np_then (np_blk (np_then (np_then (np_blk (np_then (np_blk (np_then (np_blk (np_then (np_then (np_blk (np_then np_body)))))))))))))) rfl ?_
                                        refine a_skip 37 rfl (by decide +kernel) (np_then (np_then (np_blk (np_then (np_then (np_blk (np_then (np_blk (np_then (np_blk (np_then (np_then (np_blk (np_then np_body)))))))))))))) rfl ?_
                                        refine a_skip 38 rfl (by decide +kernel) (np_then (np_then (np_blk (np_then (np_then (np_blk (np_then (np_blk (np_then (np_blk (np_then (np_then (np_blk (np_then np_body)))))))))))))) rfl ?_
                                        refine a_takeP 39 rfl (by decide +kernel) (np_then (np_then (np_blk (np_then (np_then (np_blk (np_then (np_blk (np_then (np_blk (np_then (np_then (np_blk (np_then np_body)))))))))))))) rfl (y_pick rfl rfl) ?_
                                        refine a_takeP 40 rfl (by decide +kernel) (np_then (np_then (np_blk (np_then (np_then (np_blk (np_then (np_blk (np_then (np_blk (np_then (np_then (np_blk (np_then np_body)))))))))))))) rfl (y_move rfl) ?_
                                        refine a_skip 41 rfl (by decide +kernel) (np_then (np_then (np_blk (np_then (np_then (np_blk (np_then (np_blk (np_then (np_blk (np_then (np_then (np_blk (np_then np_body)))))))))))))) rfl ?_
                                        refine a_skip 42 rfl (by decide +kernel) (np_then (np_then (np_blk (np_then (np_then (np_blk (np_then (np_blk (np_then (np_blk (np_then (np_then (np_blk (np_then np_body)))))))))))))) rfl ?_
                                        refine a_skip 43 rfl (by decide +kernel) (np_then (np_then (np_blk (np_then (np_then (np_blk (np_then (np_blk (np_then (np_blk (np_then (np_then (np_blk (np_then np_body)))))))))))))) rfl ?_
                                        refine a_skip 44 rfl (by decide +kernel) (np_then (np_then (np_blk (np_then (np_then (np_blk (np_then (np_blk (np_then (np_blk (np_then (np_then (np_blk (np_then np_body)))))))))))))) rfl ?_
                                        refine a_skip 45 rfl (by decide +kernel) (np_then (np_then (np_blk (np_then (np_then (np_blk (np_then (np_blk (np_then (np_blk (np_then (np_then (np_blk (np_then np_body)))))))))))))) rfl ?_
                                        refine a_takeP 46 rfl (by decide +kernel) (np_then (np_then (np_blk (np_then (np_then (np_blk (np_then (np_blk (np_then (np_blk (np_then (np_then (np_blk (np_then np_body)))))))))))))) rfl (y_pick rfl rfl) ?_
                                        refine a_takeP 47 rfl (by decide +kernel) (np_then (np_then (np_blk (np_then (np_then (np_blk (np_then (np_blk (np_then (np_blk (np_then (np_then (np_blk (np_then np_body)))))))))))))) rfl (y_move rfl) ?_
                                        refine a_skip 48 rfl (by decide +kernel) (np_then (np_then (np_blk (np_then (np_then (np_blk (np_then (np_blk (np_then (np_blk (np_then (np_then (np_blk (np_then np_body)))))))))))))) rfl ?_
                                        refine a_skip 49 rfl (by decide +kernel) (np_then (np_then (np_blk (np_then (np_then (np_blk (np_then (np_blk (np_then (np_blk (np_then (np_then (np_blk (np_then np_body)))))))))))))) rfl ?_
                                        refine a_takeP 50 rfl (by decide +kernel) (np_then (np_then (np_blk (np_then (np_then (np_blk (np_then (np_blk (np_then (np_blk (np_then (np_then (np_blk (np_then np_body)))))))))))))) rfl (y_pick rfl rfl) ?_
                                        refine a_done (by decide +kernel) ?_
                                        refine q_then ?_
                                        refine c_t rfl rfl ?_
                                        refine c_seq ?_
                                        refine c_region ?_
                                        refine s_p rfl (y_assign rfl) ?_
                                        refine s_nil (q_then ?_)
                                        refine c_ret (q_then_ret (q_blk_ret (q_then_ret (q_then_ret (q_blk_ret (q_then_ret (q_blk_ret (q_then_ret (q_blk_ret (q_then_ret (q_then_ret (q_blk_ret (q_then_ret ?_)))))))))))))
                                        exact q_ret Try.results8 (rv_tmp rfl rv_nil) ⟨_, rfl, H⟩
                          · clear H
                            intro Jx_15 hJx_15 H
                            refine c_region ?_
                            refine s_p rfl (y_fa rfl rfl) ?_
                            obtain ⟨t_50, ht_50, H⟩ := H
                            refine s_v rfl (y_ld rfl) (hc_V 4 rfl ht_50) ?_
                            refine s_p rfl (y_fa rfl rfl) ?_
                            obtain ⟨t_51, ht_51, H⟩ := H
                            refine s_v rfl (y_ld rfl) (hc_V 3 rfl ht_51) ?_
                            replace H := ite_e H
                            rcases H with ⟨c_102, H⟩ | ⟨c_102, H⟩
                            · refine s_p rfl (yT (y_gtr rfl rfl) c_102) ?_
                              refine s_p rfl (y_move rfl) ?_
                              refine s_skip rfl ?_
                              refine s_skip rfl ?_
                              refine s_skip rfl ?_
                              refine s_skip rfl ?_
                              refine s_skip rfl ?_
                              refine s_skip rfl ?_
                              refine s_skip rfl ?_
                              refine s_skip rfl ?_
                              refine s_skip rfl ?_
                              refine s_skip rfl ?_
                              refine s_skip rfl ?_
                              refine s_skip rfl ?_
                              refine s_skip rfl ?_
                              refine s_skip rfl ?_
                              refine s_skip rfl ?_
                              refine s_skip rfl ?_
                              refine s_skip rfl ?_
                              refine s_skip rfl ?_
                              refine s_skip rfl ?_
                              refine s_skip rfl ?_
                              refine s_skip rfl ?_
                              refine s_skip rfl ?_
                              refine s_skip rfl ?_
                              refine s_skip rfl ?_
                              refine s_skip rfl ?_
                              refine s_skip rfl ?_
                              refine s_p rfl (y_pick rfl rfl) ?_
                              refine s_p rfl (y_assign rfl) ?_
                              refine s_nil ?_
                              exact hJx_15 true _ _ _ _ [0, 0, 0, 0, 0] H rfl ⟨rfl, rfl, rfl, rfl, rfl, rfl, rfl, rfl, rfl, rfl, rfl, rfl, True.intro⟩ rfl
                            · refine s_p rfl (yF (y_gtr rfl rfl) c_102) ?_
                              refine s_p rfl (y_move rfl) ?_
                              refine s_p rfl (y_fa rfl rfl) ?_
                              obtain ⟨t_52, ht_52, H⟩ := H
                              refine s_v rfl (y_ld rfl) (hc_V 4 rfl ht_52) ?_
                              refine s_p rfl (y_fa rfl rfl) ?_
                              obtain ⟨t_53, ht_53, H⟩ := H
                              refine s_v rfl (y_ld rfl) (hc_V 3 rfl ht_53) ?_
                              replace H := ite_e H
                              rcases H with ⟨c_103, H⟩ | ⟨c_103, H⟩
                              · refine s_p rfl (yT (y_eql rfl rfl) c_103) ?_
                                refine s_p rfl (y_move rfl) ?_
                                refine s_p rfl (y_fa rfl rfl) ?_
                                obtain ⟨t_54, ht_54, H⟩ := H
                                refine s_v rfl (y_ld rfl) (hc_V 4 rfl ht_54) ?_
                                refine s_p rfl (y_fa rfl rfl) ?_
                                obtain ⟨t_55, ht_55, H⟩ := H
                                refine s_v rfl (y_ld rfl) (hc_V 3 rfl ht_55) ?_
                                replace H := ite_e H
                                rcases H with ⟨c_104, H⟩ | ⟨c_104, H⟩
                                · refine s_p rfl (yT (y_gtr rfl rfl) c_104) ?_
                                  refine s_p rfl (y_move rfl) ?_
                                  refine s_skip rfl ?_
                                  refine s_skip rfl ?_
                                  refine s_skip rfl ?_
                                  refine s_skip rfl ?_
                                  refine s_skip rfl ?_
                                  refine s_skip rfl ?_
                                  refine s_skip rfl ?_
                                  refine s_skip rfl ?_
                                  refine s_skip rfl ?_
                                  refine s_skip rfl ?_
                                  refine s_skip rfl ?_
                                  refine s_skip rfl ?_
                                  refine s_p rfl (y_pick rfl rfl) ?_
                                  refine s_p rfl (y_pick rfl rfl) ?_
                                  refine s_p rfl (y_pick rfl rfl) ?_
                                  refine s_p rfl (y_assign rfl) ?_
                                  refine s_nil ?_
                                  exact hJx_15 true _ _ _ _ [0, 0, 0, 0, 0] H rfl ⟨rfl, rfl, rfl, rfl, rfl, rfl, rfl, rfl, rfl, rfl, rfl, rfl, True.intro⟩ rfl
                                · refine s_p rfl (yF (y_gtr rfl rfl) c_104) ?_
                                  refine s_p rfl (y_move rfl) ?_
                                  refine s_p rfl (y_fa rfl rfl) ?_
                                  obtain ⟨t_56, ht_56, H⟩ := H
                                  refine s_v rfl (y_ld rfl) (hc_V 4 rfl ht_56) ?_
                                  refine s_p rfl (y_fa rfl rfl) ?_
                                  obtain ⟨t_57, ht_57, H⟩ := H
                                  refine s_v rfl (y_ld rfl) (hc_V 3 rfl ht_57) ?_
                                  replace H := ite_e H
                                  rcases H with ⟨c_105, H⟩ | ⟨c_105, H⟩
                                  · refine s_p rfl (yT (y_eql rfl rfl) c_105) ?_
                                    refine s_p rfl (y_move rfl) ?_
                                    refine s_p rfl (y_fa rfl rfl) ?_
                                    obtain ⟨t_58, ht_58, H⟩ := H
                                    refine s_v rfl (y_ld rfl) (hc_V 4 rfl ht_58) ?_
                                    refine s_p rfl (y_fa rfl rfl) ?_
                                    obtain ⟨t_59, ht_59, H⟩ := H
                                    refine s_v rfl (y_ld rfl) (hc_V 3 rfl ht_59) ?_
                                    replace H := ite_e H
                                    rcases H with ⟨c_106, H⟩ | ⟨c_106, H⟩
                                    · refine s_p rfl (yT (y_gtr rfl rfl) c_106) ?_
                                      refine s_p rfl (y_pick rfl rfl) ?_
                                      refine s_p rfl (y_pick rfl rfl) ?_
                                      refine s_p rfl (y_pick rfl rfl) ?_
                                      refine s_p rfl (y_pick rfl rfl) ?_
                                      refine s_p rfl (y_assign rfl) ?_
                                      refine s_nil ?_
                                      exact hJx_15 true _ _ _ _ [0, 0, 0, 0, 0] H rfl ⟨rfl, rfl, rfl, rfl, rfl, rfl, rfl, rfl, rfl, rfl, rfl, rfl, True.intro⟩ rfl
                                    · refine s_p rfl (yF (y_gtr rfl rfl) c_106) ?_
                                      refine s_p rfl (y_pick rfl rfl) ?_
                                      refine s_p rfl (y_pick rfl rfl) ?_
                                      refine s_p rfl (y_pick rfl rfl) ?_
                                      refine s_p rfl (y_pick rfl rfl) ?_
                                      refine s_p rfl (y_assign rfl) ?_
                                      refine s_nil ?_
                                      exact hJx_15 false _ _ _ _ [0, 0, 0, 0, 0] H rfl ⟨rfl, rfl, rfl, rfl, rfl, rfl, rfl, rfl, rfl, rfl, rfl, rfl, True.intro⟩ rfl
                                  · refine s_p rfl (yF (y_eql rfl rfl) c_105) ?_
                                    refine s_p rfl (y_move rfl) ?_
                                    refine s_skip rfl ?_
                                    refine s_skip rfl ?_
                                    refine s_skip rfl ?_
                                    refine s_skip rfl ?_
                                    refine s_skip rfl ?_
                                    refine s_p rfl (y_pick rfl rfl) ?_
                                    refine s_p rfl (y_pick rfl rfl) ?_
                                    refine s_p rfl (y_pick rfl rfl) ?_
                                    refine s_p rfl (y_pick rfl rfl) ?_
                                    refine s_p rfl (y_assign rfl) ?_
                                    refine s_nil ?_
                                    exact hJx_15 false _ _ _ _ [0, 0, 0, 0, 0] H rfl ⟨rfl, rfl, rfl, rfl, rfl, rfl, rfl, rfl, rfl, rfl, rfl, rfl, True.intro⟩ rfl
                              · refine s_p rfl (yF (y_eql rfl rfl) c_103) ?_
                                refine s_p rfl (y_move rfl) ?_
                                refine s_skip rfl ?_
                                refine s_skip rfl ?_
                                refine s_skip rfl ?_
                                refine s_skip rfl ?_
                                refine s_skip rfl ?_
                                refine s_skip rfl ?_
                                refine s_skip rfl ?_
                                refine s_skip rfl ?_
                                refine s_skip rfl ?_
                                refine s_skip rfl ?_
                                refine s_skip rfl ?_
                                refine s_skip rfl ?_
                                refine s_skip rfl ?_
                                refine s_skip rfl ?_
                                refine s_skip rfl ?_
                                refine s_skip rfl ?_
                                refine s_skip rfl ?_
                                refine s_skip rfl ?_
                                refine s_skip rfl ?_
                                refine s_p rfl (y_pick rfl rfl) ?_
                                refine s_p rfl (y_pick rfl rfl) ?_
                                refine s_p rfl (y_assign rfl) ?_
                                refine s_nil ?_
                                exact hJx_15 false _ _ _ _ [0, 0, 0, 0, 0] H rfl ⟨rfl, rfl, rfl, rfl, rfl, rfl, rfl, rfl, rfl, rfl, rfl, rfl, True.intro⟩ rfl
                      · clear H
                        intro Jx_16 hJx_16 H
                        refine c_seq ?_
                        refine c_region ?_
                        refine s_p rfl (y_move rfl) ?_
                        refine s_p rfl (y_move rfl) ?_
                        refine s_p rfl (y_len rfl) ?_
                        replace H := ite_e H
                        rcases H with ⟨c_107, H⟩ | ⟨c_107, H⟩
                        · refine s_p rfl (yT (y_lss rfl rfl) c_107) ?_
                          refine s_nil (q_then ?_)
                          refine c_t rfl rfl ?_
                          refine c_skip ?_
                          exact hJx_16 () _ _ _ _ [0, 0, 0, 0] H rfl ⟨rfl, rfl, rfl, rfl, rfl, rfl, rfl, rfl, rfl, rfl, True.intro⟩ rfl
                        · refine s_p rfl (yF (y_lss rfl rfl) c_107) ?_
                          refine s_nil (q_then ?_)
                          refine c_f rfl rfl ?_
                          refine c_exit (q_then_exit (q_then_exit (q_blk_out ?_)))
                          exact hJx_12 onx_4 _ _ _ _ [0, 0, 0] H rfl ⟨rfl, rfl, rfl, rfl, rfl, rfl, True.intro⟩ rfl
                  · refine s_p rfl (yF (y_eql rfl rfl) c_67) ?_
                    refine s_p rfl (y_assign rfl) ?_
                    refine s_nil (q_then ?_)
                    refine c_f rfl rfl ?_
                    refine c_seq ?_
                    refine c_region ?_
                    replace H := ite_e H
                    rcases H with ⟨c_108, H⟩ | ⟨c_108, H⟩
                    · refine s_p rfl (yT (y_eql rfl rfl) c_108) ?_
                      refine s_p rfl (y_assign rfl) ?_
                      refine s_nil (q_then ?_)
                      refine c_t rfl rfl ?_
                      refine c_seq ?_
                      refine c_region ?_
                      refine s_p rfl (y_move rfl) ?_
                      refine s_p rfl (y_fa rfl rfl) ?_
                      obtain ⟨t_60, ht_60, H⟩ := H
                      refine s_v rfl (y_ld rfl) (hc_V 2 rfl ht_60) ?_
                      refine s_call rfl rfl H fun rv Sx_32 H2 => ?_
                      clear H
                      obtain ⟨rfl, H⟩ := H2
                      refine s_nil (q_then ?_)
                      refine c_seq ?_
                      refine c_region ?_
                      refine s_p rfl (y_assign rfl) ?_
                      refine s_nil (q_then ?_)
                      refine c_block ?_
                      refine c_loop (fun z => ⟨435, [(0, .slice (some ⟨b_3, o, none⟩) n n_1), (3, .pointer (some ⟨b, 0, none⟩)), (4, .pointer (some ⟨b_1, 0, none⟩)), (5, .pointer (some ⟨b_2, 0, none⟩)), (6, .int .i64 i), (7, .pointer (some ⟨b_4, 0, none⟩)), (17, .int .i64 z.1)]⟩) (fun z => [⟨b_1, 99, onx⟩, ⟨b_2, 101, z.2⟩, ⟨b_4, 103, t⟩]) (0, atx) (idx := [0, 0, 0]) H rfl ⟨rfl, rfl, rfl, rfl, rfl, rfl, rfl, True.intro⟩ rfl ?_
                      clear H
                      rintro Xx_7 hXx_7 ⟨v_2, atx_3⟩ Sx_33 H
                      obtain ⟨hatx_3, H⟩ := H
                      refine c_join2 H (fun (J : Mem → Prop) (z : Unit) S => J S) (fun z => ⟨435, [(0, .slice (some ⟨b_3, o, none⟩) n n_1), (3, .pointer (some ⟨b, 0, none⟩)), (4, .pointer (some ⟨b_1, 0, none⟩)), (5, .pointer (some ⟨b_2, 0, none⟩)), (6, .int .i64 i), (7, .pointer (some ⟨b_4, 0, none⟩)), (17, .int .i64 v_2)]⟩) (fun z => [⟨b_1, 99, onx⟩, ⟨b_2, 101, atx_3⟩, ⟨b_4, 103, t⟩]) ?_ ?_
                      · clear H
                        rintro _ Sx_34 H
                        refine c_join2 H (fun (J : List Value → Mem → Prop) (z : List Value) S => J z S) (fun z => ⟨435, [(0, .slice (some ⟨b_3, o, none⟩) n n_1), (3, .pointer (some ⟨b, 0, none⟩)), (4, .pointer (some ⟨b_1, 0, none⟩)), (5, .pointer (some ⟨b_2, 0, none⟩)), (6, .int .i64 i), (7, .pointer (some ⟨b_4, 0, none⟩)), (17, .int .i64 v_2)]⟩) (fun z => [⟨b_1, 99, onx⟩, ⟨b_2, 101, z⟩, ⟨b_4, 103, t⟩]) ?_ ?_
                        · clear H
                          rintro atx_4 Sx_35 H
                          obtain ⟨hatx_4, H⟩ := H
                          refine c_region ?_
                          refine s_p rfl (y_move rfl) ?_
                          refine s_p rfl (y_add rfl rfl) ?_
                          refine s_p rfl (y_assign rfl) ?_
                          refine s_nil ?_
                          exact hXx_7 (IntKind.i64.wrap (v_2 + 1), atx_4) _ _ _ _ [0, 0, 0] H rfl ⟨rfl, rfl, rfl, rfl, rfl, rfl, rfl, True.intro⟩ rfl
                        · clear H
                          intro Jx_17 hJx_17 H
                          refine c_block ?_
                          refine c_seq ?_
                          refine c_region ?_
                          refine s_p rfl (y_assign rfl) ?_
                          refine s_nil (q_then ?_)
                          refine c_block ?_
                          refine c_loop (fun z => ⟨435, [(0, .slice (some ⟨b_3, o, none⟩) n n_1), (3, .pointer (some ⟨b, 0, none⟩)), (4, .pointer (some ⟨b_1, 0, none⟩)), (5, .pointer (some ⟨b_2, 0, none⟩)), (6, .int .i64 i), (7, .pointer (some ⟨b_4, 0, none⟩)), (17, .int .i64 v_2), (18, .int .i64 z.1)]⟩) (fun z => [⟨b_1, 99, onx⟩, ⟨b_2, 101, z.2⟩, ⟨b_4, 103, t⟩]) (0, atx_3) (idx := [0, 0, 0]) H rfl ⟨rfl, rfl, rfl, rfl, rfl, rfl, rfl, rfl, True.intro⟩ rfl ?_
                          clear H
                          rintro Xx_8 hXx_8 ⟨s_2, atx_5⟩ Sx_36 H
                          obtain ⟨hatx_5, H⟩ := H
                          refine c_join2 H (fun (J : Mem → Prop) (z : Unit) S => J S) (fun z => ⟨435, [(0, .slice (some ⟨b_3, o, none⟩) n n_1), (3, .pointer (some ⟨b, 0, none⟩)), (4, .pointer (some ⟨b_1, 0, none⟩)), (5, .pointer (some ⟨b_2, 0, none⟩)), (6, .int .i64 i), (7, .pointer (some ⟨b_4, 0, none⟩)), (17, .int .i64 v_2), (18, .int .i64 s_2)]⟩) (fun z => [⟨b_1, 99, onx⟩, ⟨b_2, 101, atx_5⟩, ⟨b_4, 103, t⟩]) ?_ ?_
                          · clear H
                            rintro _ Sx_37 H
                            refine c_seq ?_
                            refine c_block ?_
                            refine c_seq ?_
                            refine c_drawn (by kernel_rfl) ?_
                            refine a_takeP 0 rfl (by decide +kernel) (np_then (np_blk (np_then (np_then (np_blk (np_blk (np_then (np_then (np_blk (np_blk (np_then (np_blk (np_then (np_then (np_blk (np_then np_body)))))))))))))))) rfl (y_move rfl) ?_
                            refine a_takeP 1 rfl (by decide +kernel) (np_then (np_blk (np_then (np_then (np_blk (np_blk (np_then (np_then (np_blk (np_blk (np_then (np_blk (np_then (np_then (np_blk (np_then np_body)))))))))))))))) rfl (y_move rfl) ?_
                            obtain ⟨c_109, c_110, H⟩ := H
                            refine a_takeP 2 rfl (by decide +kernel) (np_then (np_blk (np_then (np_then (np_blk (np_blk (np_then (np_then (np_blk (np_blk (np_then (np_blk (np_then (np_then (np_blk (np_then np_body)))))))))))))))) rfl (y_ixA rfl rfl c_109 c_110 rfl) ?_
                            obtain ⟨c_111, c_112, H⟩ := H
                            refine a_takeP 3 rfl (by decide +kernel) (np_then (np_blk (np_then (np_then (np_blk (np_blk (np_then (np_then (np_blk (np_blk (np_then (np_blk (np_then (np_then (np_blk (np_then np_body)))))))))))))))) rfl (y_ixA rfl rfl c_111 c_112 rfl) ?_
                            obtain ⟨t_61, ht_61, H⟩ := H
                            refine a_take 4 rfl (by decide +kernel) (np_then (np_blk (np_then (np_then (np_blk (np_blk (np_then (np_then (np_blk (np_blk (np_then (np_blk (np_then (np_then (np_blk (np_then np_body)))))))))))))))) rfl (y_ld rfl) (hc_V 1 rfl ht_61) ?_
                            refine a_takeP 5 rfl (by decide +kernel) (np_then (np_blk (np_then (np_then (np_blk (np_blk (np_then (np_then (np_blk (np_blk (np_then (np_blk (np_then (np_then (np_blk (np_then np_body)))))))))))))))) rfl (y_fa rfl rfl) ?_
                            obtain ⟨t_62, ht_62, H⟩ := H
                            refine a_take 6 rfl (by decide +kernel) (np_then (np_blk (np_then (np_then (np_blk (np_blk (np_then (np_then (np_blk (np_blk (np_then (np_blk (np_then (np_then (np_blk (np_then np_body)))))))))))))))) rfl (y_ld rfl) (hc_V 2 rfl ht_62) ?_
                            refine a_takeP 7 rfl (by decide +kernel) (np_then (np_blk (np_then (np_then (np_blk (np_blk (np_then (np_then (np_blk (np_blk (np_then (np_blk (np_then (np_then (np_blk (np_then np_body)))))))))))))))) rfl (y_add rfl rfl) ?_
                            refine a_takeP 8 rfl (by decide +kernel) (np_then (np_blk (np_then (np_then (np_blk (np_blk (np_then (np_then (np_blk (np_blk (np_then (np_blk (np_then (np_then (np_blk (np_then np_body)))))))))))))))) rfl (y_assign rfl) ?_
                            refine a_done (by decide +kernel) ?_
                            refine q_then ?_
                            refine c_join2 H (fun (J : Int → Mem → Prop) (z : Int) S => J z S) (fun z => ⟨435, [(0, .slice (some ⟨b_3, o, none⟩) n n_1), (3, .pointer (some ⟨b, 0, none⟩)), (4, .pointer (some ⟨b_1, 0, none⟩)), (5, .pointer (some ⟨b_2, 0, none⟩)), (6, .int .i64 i), (7, .pointer (some ⟨b_4, 0, none⟩)), (17, .int .i64 v_2), (18, .int .i64 s_2), (19, .int .u64 z)]⟩) (fun z => [⟨b_1, 99, onx⟩, ⟨b_2, 101, atx_5⟩, ⟨b_4, 103, t⟩]) ?_ ?_
                            · clear H
                              rintro x Sx_38 H
                              refine c_region ?_
                              refine s_p rfl (y_move rfl) ?_
                              refine s_p rfl (y_move rfl) ?_
                              refine s_p rfl (y_move rfl) ?_
                              obtain ⟨c_113, c_114, H⟩ := H
                              refine s_p rfl (y_ixA rfl rfl c_113 c_114 rfl) ?_
                              obtain ⟨c_115, c_116, H⟩ := H
                              refine s_p rfl (y_ixA rfl rfl c_115 c_116 rfl) ?_
                              refine s_stV (sz := 1) (vs := [.int .u64 x]) 1 rfl rfl rfl rfl rfl rfl (fit_of hatx_5 (by omega)) rfl ?_
                              refine s_nil (q_blk (q_then ?_))
                              refine c_region ?_
                              refine s_p rfl (y_move rfl) ?_
                              refine s_p rfl (y_add rfl rfl) ?_
                              refine s_p rfl (y_assign rfl) ?_
                              refine s_nil ?_
                              exact hXx_8 (IntKind.i64.wrap (s_2 + 1), spl atx_5 (0 + v_2.toNat * 3 + s_2.toNat * 1) ([.int .u64 x])) _ _ _ _ [0, 0, 0] H rfl ⟨rfl, rfl, rfl, rfl, rfl, rfl, rfl, rfl, True.intro⟩ rfl
                            · clear H
                              intro Jx_18 hJx_18 H
                              refine c_seq ?_
                              refine c_region ?_
                              refine s_p rfl (y_move rfl) ?_
                              refine s_p rfl (y_fa rfl rfl) ?_
                              obtain ⟨t_63, ht_63, H⟩ := H
                              refine s_v rfl (y_ld rfl) (hc_V 2 rfl ht_63) ?_
                              replace H := ite_e H
                              rcases H with ⟨c_117, H⟩ | ⟨c_117, H⟩
                              · refine s_p rfl (yT (y_lss rfl rfl) c_117) ?_
                                refine s_nil (q_then ?_)
                                refine c_t rfl rfl ?_
                                refine c_region ?_
                                refine s_p rfl (y_assign rfl) ?_
                                refine s_nil ?_
                                exact hJx_18 18446744073709551615 _ _ _ _ [0, 0, 0] H rfl ⟨rfl, rfl, rfl, rfl, rfl, rfl, rfl, rfl, rfl, True.intro⟩ rfl
                              · refine s_p rfl (yF (y_lss rfl rfl) c_117) ?_
                                refine s_nil (q_then ?_)
                                refine c_f rfl rfl ?_
                                refine c_skip ?_
                                exact hJx_18 (IntKind.u64.wrap (t_61 + t_62)) _ _ _ _ [0, 0, 0] H rfl ⟨rfl, rfl, rfl, rfl, rfl, rfl, rfl, rfl, rfl, True.intro⟩ rfl
                          · clear H
                            intro Jx_19 hJx_19 H
                            refine c_seq ?_
                            refine c_region ?_
                            refine s_p rfl (y_move rfl) ?_
                            replace H := ite_e H
                            rcases H with ⟨c_118, H⟩ | ⟨c_118, H⟩
                            · refine s_p rfl (yT (y_lss rfl rfl) c_118) ?_
                              refine s_nil (q_then ?_)
                              refine c_t rfl rfl ?_
                              refine c_skip ?_
                              exact hJx_19 () _ _ _ _ [0, 0, 0] H rfl ⟨rfl, rfl, rfl, rfl, rfl, rfl, rfl, rfl, True.intro⟩ rfl
                            · refine s_p rfl (yF (y_lss rfl rfl) c_118) ?_
                              refine s_nil (q_then ?_)
                              refine c_f rfl rfl ?_
                              refine c_exit (q_then_exit (q_then_exit (q_blk_out (q_blk ?_))))
                              exact hJx_17 atx_5 _ _ _ _ [0, 0, 0] H rfl ⟨rfl, rfl, rfl, rfl, rfl, rfl, rfl, True.intro⟩ rfl
                      · clear H
                        intro Jx_20 hJx_20 H
                        refine c_seq ?_
                        refine c_region ?_
                        refine s_p rfl (y_move rfl) ?_
                        replace H := ite_e H
                        rcases H with ⟨c_119, H⟩ | ⟨c_119, H⟩
                        · refine s_p rfl (yT (y_lss rfl rfl) c_119) ?_
                          refine s_nil (q_then ?_)
                          refine c_t rfl rfl ?_
                          refine c_skip ?_
                          exact hJx_20 () _ _ _ _ [0, 0, 0] H rfl ⟨rfl, rfl, rfl, rfl, rfl, rfl, rfl, True.intro⟩ rfl
                        · refine s_p rfl (yF (y_lss rfl rfl) c_119) ?_
                          refine s_nil (q_then ?_)
                          refine c_f rfl rfl ?_
                          refine c_exit (q_then_exit (q_then_exit (q_blk_out (q_blk ?_))))
                          exact hJx_8 (onx, atx_3) _ _ _ _ [0, 0] H rfl ⟨rfl, rfl, rfl, rfl, rfl, True.intro⟩ rfl
                    · refine s_p rfl (yF (y_eql rfl rfl) c_108) ?_
                      refine s_p rfl (y_assign rfl) ?_
                      refine s_nil (q_then ?_)
                      refine c_f rfl rfl ?_
                      refine c_seq ?_
                      refine c_region ?_
                      refine s_p rfl (y_move rfl) ?_
                      refine s_p rfl (y_fa rfl rfl) ?_
                      obtain ⟨t_64, ht_64, H⟩ := H
                      refine s_v rfl (y_ld rfl) (hc_V 2 rfl ht_64) ?_
                      refine s_p rfl (y_fa rfl rfl) ?_
                      obtain ⟨t_65, ht_65, H⟩ := H
                      refine s_v rfl (y_ld rfl) (hc_V 2 rfl ht_65) ?_
                      refine s_p rfl (y_fa rfl rfl) ?_
                      obtain ⟨t_66, ht_66, H⟩ := H
                      refine s_v rfl (y_ld rfl) (hc_V 2 rfl ht_66) ?_
                      refine s_call rfl rfl H fun rv Sx_39 H2 => ?_
                      clear H
                      obtain ⟨t_67, rfl, H⟩ := H2
                      refine s_p rfl (y_assign rfl) ?_
                      refine s_nil (q_then ?_)
                      refine c_join2 H (fun (J : Mem → Prop) (z : Unit) S => J S) (fun z => ⟨435, [(0, .slice (some ⟨b_3, o, none⟩) n n_1), (3, .pointer (some ⟨b, 0, none⟩)), (4, .pointer (some ⟨b_1, 0, none⟩)), (5, .pointer (some ⟨b_2, 0, none⟩)), (6, .int .i64 i), (7, .pointer (some ⟨b_4, 0, none⟩)), (8, .bool here)]⟩) (fun z => [⟨b_1, 99, onx⟩, ⟨b_2, 101, atx⟩, ⟨b_4, 103, t⟩]) ?_ ?_
                      · clear H
                        rintro _ Sx_40 H
                        refine c_seq ?_
                        refine c_region ?_
                        replace H := ite_e H
                        rcases H with ⟨c_120, H⟩ | ⟨c_120, H⟩
                        · refine s_p rfl (y_moveB rfl c_120) ?_
                          refine s_nil (q_then ?_)
                          refine c_t rfl rfl ?_
                          refine c_seq ?_
                          refine c_drawn (by kernel_rfl) ?_
                          refine a_takeP 0 rfl (by decide +kernel) (np_then (np_blk (np_then (np_blk (np_then (np_then (np_blk (np_then np_body)))))))) rfl (y_fa rfl rfl) ?_
                          obtain ⟨t_68, ht_68, H⟩ := H
                          refine a_take 1 rfl (by decide +kernel) (np_then (np_blk (np_then (np_blk (np_then (np_then (np_blk (np_then np_body)))))))) rfl (y_ld rfl) (hc_V 2 rfl ht_68) ?_
                          refine a_takeP 2 rfl (by decide +kernel) (np_then (np_blk (np_then (np_blk (np_then (np_then (np_blk (np_then np_body)))))))) rfl (y_fa rfl rfl) ?_
                          obtain ⟨t_69, ht_69, H⟩ := H
                          refine a_take 3 rfl (by decide +kernel) (np_then (np_blk (np_then (np_blk (np_then (np_then (np_blk (np_then np_body)))))))) rfl (y_ld rfl) (hc_V 2 rfl ht_69) ?_
                          obtain ⟨c_121, c_122, H⟩ := H
                          refine a_takeP 4 rfl (by decide +kernel) (np_then (np_blk (np_then (np_blk (np_then (np_then (np_blk (np_then np_body)))))))) rfl (y_ixA rfl rfl c_121 c_122 rfl) ?_
                          obtain ⟨c_123, c_124, H⟩ := H
                          refine a_takeP 5 rfl (by decide +kernel) (np_then (np_blk (np_then (np_blk (np_then (np_then (np_blk (np_then np_body)))))))) rfl (y_ixA rfl rfl c_123 c_124 rfl) ?_
                          refine a_step 6 (by decide +kernel) rfl ?_
                          refine s_stV (sz := 1) (vs := [.bool true]) 0 rfl rfl rfl rfl rfl rfl (fit_of honx (by omega)) rfl ?_
                          refine s_nil (q_any ac_nil ?_)
                          refine a_done (by decide +kernel) ?_
                          refine q_then ?_
                          refine c_drawn (by kernel_rfl) ?_
                          refine a_takeP 0 rfl (by decide +kernel) (np_blk (np_then (np_blk (np_then (np_then (np_blk (np_then np_body))))))) rfl (y_fa rfl rfl) ?_
                          obtain ⟨t_70, ht_70, H⟩ := H
                          refine a_take 1 rfl (by decide +kernel) (np_blk (np_then (np_blk (np_then (np_then (np_blk (np_then np_body))))))) rfl (y_ld rfl) (hc_V 2 rfl ht_70) ?_
                          refine a_takeP 2 rfl (by decide +kernel) (np_blk (np_then (np_blk (np_then (np_then (np_blk (np_then np_body))))))) rfl (y_fa rfl rfl) ?_
                          obtain ⟨t_71, ht_71, H⟩ := H
                          refine a_take 3 rfl (by decide +kernel) (np_blk (np_then (np_blk (np_then (np_then (np_blk (np_then np_body))))))) rfl (y_ld rfl) (hc_V 2 rfl ht_71) ?_
                          refine a_takeP 4 rfl (by decide +kernel) (np_blk (np_then (np_blk (np_then (np_then (np_blk (np_then np_body))))))) rfl (y_fa rfl rfl) ?_
                          obtain ⟨t_72, ht_72, H⟩ := H
                          refine a_take 5 rfl (by decide +kernel) (np_blk (np_then (np_blk (np_then (np_then (np_blk (np_then np_body))))))) rfl (y_ld rfl) (hc_V 2 rfl ht_72) ?_
                          obtain ⟨c_125, c_126, H⟩ := H
                          refine a_takeP 6 rfl (by decide +kernel) (np_blk (np_then (np_blk (np_then (np_then (np_blk (np_then np_body))))))) rfl (y_ixA rfl rfl c_125 c_126 rfl) ?_
                          obtain ⟨c_127, c_128, H⟩ := H
                          refine a_takeP 7 rfl (by decide +kernel) (np_blk (np_then (np_blk (np_then (np_then (np_blk (np_then np_body))))))) rfl (y_ixA rfl rfl c_127 c_128 rfl) ?_
                          refine a_step 8 (by decide +kernel) rfl ?_
                          refine s_stV (sz := 1) (vs := [.int .u64 t_72]) 1 rfl rfl rfl rfl rfl rfl (fit_of hatx (by omega)) rfl ?_
                          refine s_nil (q_any ac_nil ?_)
                          refine a_done (by decide +kernel) ?_
                          refine q_blk ?_
                          exact hJx_8 (spl onx (0 + t_68.toNat * 3 + t_69.toNat * 1) ([.bool true]), spl atx (0 + t_70.toNat * 3 + t_71.toNat * 1) ([.int .u64 t_72])) _ _ _ _ [0, 0] H rfl ⟨rfl, rfl, rfl, rfl, rfl, True.intro⟩ rfl
                        · refine s_p rfl (y_moveB rfl (bf_of c_120)) ?_
                          refine s_nil (q_then ?_)
                          refine c_f rfl rfl ?_
                          refine c_skip (q_blk ?_)
                          exact hJx_8 (onx, atx) _ _ _ _ [0, 0] H rfl ⟨rfl, rfl, rfl, rfl, rfl, True.intro⟩ rfl
                      · clear H
                        intro Jx_21 hJx_21 H
                        refine c_seq ?_
                        refine c_region ?_
                        refine s_p rfl (y_move rfl) ?_
                        refine s_p rfl (y_move rfl) ?_
                        refine s_p rfl (y_eql rfl rfl) ?_
                        replace H := ite_e H
                        rcases H with ⟨c_129, H⟩ | ⟨c_129, H⟩
                        · refine s_p rfl (yT (y_neB rfl rfl) c_129) ?_
                          refine s_p rfl (y_move rfl) ?_
                          refine s_skip rfl ?_
                          refine s_skip rfl ?_
                          refine s_skip rfl ?_
                          refine s_skip rfl ?_
                          refine s_skip rfl ?_
                          refine s_skip rfl ?_
                          refine s_p rfl (y_pick rfl rfl) ?_
                          refine s_nil (q_then ?_)
                          refine c_t rfl rfl ?_
                          refine c_seq ?_
                          refine c_region ?_
                          refine s_p rfl (y_assign rfl) ?_
                          refine s_nil (q_then ?_)
                          refine c_ret (q_then_ret (q_blk_ret (q_then_ret (q_blk_ret (q_then_ret (q_then_ret (q_blk_ret (q_then_ret ?_))))))))
                          exact q_ret Try.results8 (rv_tmp rfl rv_nil) ⟨_, rfl, H⟩
                        · refine s_p rfl (yF (y_neB rfl rfl) c_129) ?_
                          refine s_p rfl (y_move rfl) ?_
                          replace H := ite_e H
                          rcases H with ⟨c_130, H⟩ | ⟨c_130, H⟩
                          · refine s_p rfl (y_moveB rfl c_130) ?_
                            refine s_p rfl (yB (y_not rfl) rfl) ?_
                            refine s_p rfl (y_move rfl) ?_
                            refine s_skip rfl ?_
                            refine s_skip rfl ?_
                            refine s_p rfl (y_pick rfl rfl) ?_
                            refine s_p rfl (y_pick rfl rfl) ?_
                            refine s_nil (q_then ?_)
                            refine c_f rfl rfl ?_
                            refine c_skip ?_
                            exact hJx_21 () _ _ _ _ [0, 0, 0] H rfl ⟨rfl, rfl, rfl, rfl, rfl, rfl, rfl, True.intro⟩ rfl
                          · refine s_p rfl (y_moveB rfl (bf_of c_130)) ?_
                            refine s_p rfl (yB (y_not rfl) rfl) ?_
                            refine s_p rfl (y_move rfl) ?_
                            refine s_p rfl (y_move rfl) ?_
                            replace H := ite_e H
                            rcases H with ⟨c_131, H⟩ | ⟨c_131, H⟩
                            · refine s_p rfl (yT (y_neq rfl rfl) c_131) ?_
                              refine s_p rfl (y_pick rfl rfl) ?_
                              refine s_p rfl (y_pick rfl rfl) ?_
                              refine s_nil (q_then ?_)
                              refine c_t rfl rfl ?_
                              refine c_seq ?_
                              refine c_region ?_
                              refine s_p rfl (y_assign rfl) ?_
                              refine s_nil (q_then ?_)
                              refine c_ret (q_then_ret (q_blk_ret (q_then_ret (q_blk_ret (q_then_ret (q_then_ret (q_blk_ret (q_then_ret ?_))))))))
                              exact q_ret Try.results8 (rv_tmp rfl rv_nil) ⟨_, rfl, H⟩
                            · refine s_p rfl (yF (y_neq rfl rfl) c_131) ?_
                              refine s_p rfl (y_pick rfl rfl) ?_
                              refine s_p rfl (y_pick rfl rfl) ?_
                              refine s_nil (q_then ?_)
                              refine c_f rfl rfl ?_
                              refine c_skip ?_
                              exact hJx_21 () _ _ _ _ [0, 0, 0] H rfl ⟨rfl, rfl, rfl, rfl, rfl, rfl, rfl, True.intro⟩ rfl
          · clear H
            intro Jx_22 hJx_22 H
            refine c_region ?_
            refine s_p rfl (y_fa rfl rfl) ?_
            obtain ⟨t_73, ht_73, H⟩ := H
            refine s_v rfl (y_ld rfl) (hc_V 2 rfl ht_73) ?_
            replace H := ite_e H
            rcases H with ⟨c_132, H⟩ | ⟨c_132, H⟩
            · refine s_p rfl (yT (y_geq rfl rfl) c_132) ?_
              refine s_p rfl (y_move rfl) ?_
              refine s_p rfl (y_fa rfl rfl) ?_
              obtain ⟨t_74, ht_74, H⟩ := H
              refine s_v rfl (y_ld rfl) (hc_V 2 rfl ht_74) ?_
              replace H := ite_e H
              rcases H with ⟨c_133, H⟩ | ⟨c_133, H⟩
              · refine s_p rfl (yT (y_lss rfl rfl) c_133) ?_
                refine s_p rfl (y_pick rfl rfl) ?_
                refine s_p rfl (y_move rfl) ?_
                refine s_p rfl (y_fa rfl rfl) ?_
                obtain ⟨t_75, ht_75, H⟩ := H
                refine s_v rfl (y_ld rfl) (hc_V 2 rfl ht_75) ?_
                replace H := ite_e H
                rcases H with ⟨c_134, H⟩ | ⟨c_134, H⟩
                · refine s_p rfl (yT (y_geq rfl rfl) c_134) ?_
                  refine s_p rfl (y_pick rfl rfl) ?_
                  refine s_p rfl (y_move rfl) ?_
                  refine s_p rfl (y_fa rfl rfl) ?_
                  obtain ⟨t_76, ht_76, H⟩ := H
                  refine s_v rfl (y_ld rfl) (hc_V 2 rfl ht_76) ?_
                  replace H := ite_e H
                  rcases H with ⟨c_135, H⟩ | ⟨c_135, H⟩
                  · refine s_p rfl (yT (y_lss rfl rfl) c_135) ?_
                    refine s_p rfl (y_pick rfl rfl) ?_
                    refine s_p rfl (y_assign rfl) ?_
                    refine s_nil ?_
                    exact hJx_22 true _ _ _ _ [0, 0, 0] H rfl ⟨rfl, rfl, rfl, rfl, rfl, rfl, rfl, True.intro⟩ rfl
                  · refine s_p rfl (yF (y_lss rfl rfl) c_135) ?_
                    refine s_p rfl (y_pick rfl rfl) ?_
                    refine s_p rfl (y_assign rfl) ?_
                    refine s_nil ?_
                    exact hJx_22 false _ _ _ _ [0, 0, 0] H rfl ⟨rfl, rfl, rfl, rfl, rfl, rfl, rfl, True.intro⟩ rfl
                · refine s_p rfl (yF (y_geq rfl rfl) c_134) ?_
                  refine s_p rfl (y_pick rfl rfl) ?_
                  refine s_p rfl (y_move rfl) ?_
                  refine s_skip rfl ?_
                  refine s_skip rfl ?_
                  refine s_skip rfl ?_
                  refine s_p rfl (y_pick rfl rfl) ?_
                  refine s_p rfl (y_assign rfl) ?_
                  refine s_nil ?_
                  exact hJx_22 false _ _ _ _ [0, 0, 0] H rfl ⟨rfl, rfl, rfl, rfl, rfl, rfl, rfl, True.intro⟩ rfl
              · refine s_p rfl (yF (y_lss rfl rfl) c_133) ?_
                refine s_p rfl (y_pick rfl rfl) ?_
                refine s_p rfl (y_move rfl) ?_
                refine s_skip rfl ?_
                refine s_skip rfl ?_
                refine s_skip rfl ?_
                refine s_p rfl (y_pick rfl rfl) ?_
                refine s_p rfl (y_move rfl) ?_
                refine s_skip rfl ?_
                refine s_skip rfl ?_
                refine s_skip rfl ?_
                refine s_p rfl (y_pick rfl rfl) ?_
                refine s_p rfl (y_assign rfl) ?_
                refine s_nil ?_
                exact hJx_22 false _ _ _ _ [0, 0, 0] H rfl ⟨rfl, rfl, rfl, rfl, rfl, rfl, rfl, True.intro⟩ rfl
            · refine s_p rfl (yF (y_geq rfl rfl) c_132) ?_
              refine s_p rfl (y_move rfl) ?_
              refine s_skip rfl ?_
              refine s_skip rfl ?_
              refine s_skip rfl ?_
              refine s_p rfl (y_pick rfl rfl) ?_
              refine s_p rfl (y_move rfl) ?_
              refine s_skip rfl ?_
              refine s_skip rfl ?_
              refine s_skip rfl ?_
              refine s_p rfl (y_pick rfl rfl) ?_
              refine s_p rfl (y_move rfl) ?_
              refine s_skip rfl ?_
              refine s_skip rfl ?_
              refine s_skip rfl ?_
              refine s_p rfl (y_pick rfl rfl) ?_
              refine s_p rfl (y_assign rfl) ?_
              refine s_nil ?_
              exact hJx_22 false _ _ _ _ [0, 0, 0] H rfl ⟨rfl, rfl, rfl, rfl, rfl, rfl, rfl, True.intro⟩ rfl
      · clear H
        intro Jx_23 hJx_23 H
        refine c_seq ?_
        refine c_region ?_
        refine s_p rfl (y_move rfl) ?_
        refine s_p rfl (y_move rfl) ?_
        refine s_p rfl (y_len rfl) ?_
        replace H := ite_e H
        rcases H with ⟨c_136, H⟩ | ⟨c_136, H⟩
        · refine s_p rfl (yT (y_lss rfl rfl) c_136) ?_
          refine s_nil (q_then ?_)
          refine c_t rfl rfl ?_
          refine c_skip ?_
          exact hJx_23 () _ _ _ _ [0, 0] H rfl ⟨rfl, rfl, rfl, rfl, rfl, True.intro⟩ rfl
        · refine s_p rfl (yF (y_lss rfl rfl) c_136) ?_
          refine s_nil (q_then ?_)
          refine c_f rfl rfl ?_
          refine c_exit (q_then_exit (q_then_exit (q_blk_out ?_)))
          exact hJx () _ _ _ _ [] H rfl True.intro rfl
  · clear H
    intro Jx_24 hJx_24 H
    refine c_seq ?_
    refine c_region ?_
    refine s_call rfl rfl H fun rv Sx_41 H2 => ?_
    clear H
    obtain ⟨t_77, rfl, H⟩ := H2
    replace H := ib_e H
    rcases H with ⟨rfl, H⟩ | ⟨rfl, H⟩
    · skip
      refine s_p rfl (yB (y_not rfl) rfl) ?_
      refine s_p rfl (y_move rfl) ?_
      refine s_p rfl (y_move rfl) ?_
      refine s_p rfl (y_len rfl) ?_
      replace H := ite_e H
      rcases H with ⟨c_137, H⟩ | ⟨c_137, H⟩
      · refine s_p rfl (yT (y_gtr rfl rfl) c_137) ?_
        refine s_p rfl (y_pick rfl rfl) ?_
        refine s_nil (q_then ?_)
        refine c_t rfl rfl ?_
        refine c_seq ?_
        refine c_region ?_
        refine s_call rfl rfl H fun rv Sx_42 H2 => ?_
        clear H
        obtain ⟨t_78, rfl, H⟩ := H2
        refine s_p rfl (y_assign rfl) ?_
        refine s_nil (q_then ?_)
        refine c_ret (q_then_ret ?_)
        exact q_ret Try.results8 (rv_tmp rfl rv_nil) ⟨_, rfl, H⟩
      · refine s_p rfl (yF (y_gtr rfl rfl) c_137) ?_
        refine s_p rfl (y_pick rfl rfl) ?_
        refine s_nil (q_then ?_)
        refine c_f rfl rfl ?_
        refine c_skip ?_
        exact hJx_24 () _ _ _ _ [] H rfl ⟨rfl, True.intro⟩ rfl
    · skip
      refine s_p rfl (yB (y_not rfl) rfl) ?_
      refine s_p rfl (y_move rfl) ?_
      refine s_skip rfl ?_
      refine s_skip rfl ?_
      refine s_skip rfl ?_
      refine s_p rfl (y_pick rfl rfl) ?_
      refine s_nil (q_then ?_)
      refine c_t rfl rfl ?_
      refine c_seq ?_
      refine c_region ?_
      refine s_call rfl rfl H fun rv Sx_43 H2 => ?_
      clear H
      obtain ⟨t_79, rfl, H⟩ := H2
      refine s_p rfl (y_assign rfl) ?_
      refine s_nil (q_then ?_)
      refine c_ret (q_then_ret ?_)
      exact q_ret Try.results8 (rv_tmp rfl rv_nil) ⟨_, rfl, H⟩
end Go.Proofs.Ytpilffakhkagjaa
