/- PRINTED BY pt.py: functions. -/
import Derived.Test.YtpilffakhkagjaaDoorPtS
namespace Go.Proofs.YtpilffakhkagjaaDoor
open Go Go.Pt
attribute [local irreducible] Code.wp Back bodyPost wpList FR WL WC WQ WA AW Tr Yc HC AllC
set_option maxRecDepth 20000
set_option maxHeartbeats 4000000
set_option linter.unusedVariables false
def b_hermitcrabref01_Right (S : Mem) (code : Int) (a : Int) (b : Int) (c : Int) (n : Int) (Q : Bool → Mem → Prop) : Prop :=
  jn (fun (Sx : Mem) =>
      hermitcrabref01_Fields Sx code fun t Sx_1 =>
      jn (fun (Sx_2 : Mem) =>
          if code ≠ 18 then
            if code ≠ 19 then
              Q true Sx_2
            else
            if 0 ≤ n then
              Q (decide (n < 9)) Sx_2
            else
            Q false Sx_2
          else
          if 0 ≤ n then
            Q (decide (n < 9)) Sx_2
          else
          Q false Sx_2) fun Jx =>
      if 15 < a then
        Q false Sx_1
      else
      if 15 < b then
        Q false Sx_1
      else
      if 15 < c then
        Q false Sx_1
      else
      if Int.tmod t 2 = 0 then
        if 0 < a then
          Q false Sx_1
        else
        if Int.tmod (IntKind.i64.wrap (Int.tdiv t 2)) 2 = 0 then
          if 0 < b then
            Q false Sx_1
          else
          if Int.tmod (IntKind.i64.wrap (Int.tdiv t 4)) 2 = 0 then
            if 0 < c then
              Q false Sx_1
            else
            if IntKind.i64.wrap (Int.tdiv t 8) = 0 then
              if n ≠ 0 then
                Q false Sx_1
              else
              Jx Sx_1
            else
            Jx Sx_1
          else
          if IntKind.i64.wrap (Int.tdiv t 8) = 0 then
            if n ≠ 0 then
              Q false Sx_1
            else
            Jx Sx_1
          else
          Jx Sx_1
        else
        if Int.tmod (IntKind.i64.wrap (Int.tdiv t 4)) 2 = 0 then
          if 0 < c then
            Q false Sx_1
          else
          if IntKind.i64.wrap (Int.tdiv t 8) = 0 then
            if n ≠ 0 then
              Q false Sx_1
            else
            Jx Sx_1
          else
          Jx Sx_1
        else
        if IntKind.i64.wrap (Int.tdiv t 8) = 0 then
          if n ≠ 0 then
            Q false Sx_1
          else
          Jx Sx_1
        else
        Jx Sx_1
      else
      if Int.tmod (IntKind.i64.wrap (Int.tdiv t 2)) 2 = 0 then
        if 0 < b then
          Q false Sx_1
        else
        if Int.tmod (IntKind.i64.wrap (Int.tdiv t 4)) 2 = 0 then
          if 0 < c then
            Q false Sx_1
          else
          if IntKind.i64.wrap (Int.tdiv t 8) = 0 then
            if n ≠ 0 then
              Q false Sx_1
            else
            Jx Sx_1
          else
          Jx Sx_1
        else
        if IntKind.i64.wrap (Int.tdiv t 8) = 0 then
          if n ≠ 0 then
            Q false Sx_1
          else
          Jx Sx_1
        else
        Jx Sx_1
      else
      if Int.tmod (IntKind.i64.wrap (Int.tdiv t 4)) 2 = 0 then
        if 0 < c then
          Q false Sx_1
        else
        if IntKind.i64.wrap (Int.tdiv t 8) = 0 then
          if n ≠ 0 then
            Q false Sx_1
          else
          Jx Sx_1
        else
        Jx Sx_1
      else
      if IntKind.i64.wrap (Int.tdiv t 8) = 0 then
        if n ≠ 0 then
          Q false Sx_1
        else
        Jx Sx_1
      else
      Jx Sx_1) fun Jx_1 =>
  if 23 ≤ code then
    Q false S
  else
  Jx_1 S
theorem t_hermitcrabref01_Right {S : Mem} {code : Int} {a : Int} {b : Int} {c : Int} {n : Int} {Q : Bool → Mem → Prop} (H : b_hermitcrabref01_Right S code a b c n Q) : hermitcrabref01_Right S code a b c n Q := by
  unfold b_hermitcrabref01_Right at H
  refine Tr.intro Tryd.func7 rfl Tryd.ntmps7 rfl fun w0 => ?_
  refine c_seq ?_
  refine c_region ?_
  refine s_p rfl (y_assign rfl) ?_
  refine s_nil (q_then ?_)
  refine c_join2 H (fun (J : Mem → Prop) (z : Unit) S => J S) (fun z => ⟨78, [(0, .int .u8 code), (1, .int .u8 a), (2, .int .u8 b), (3, .int .u8 c), (4, .int .i16 n)]⟩) (fun z => []) ?_ ?_
  · clear H
    rintro _ Sx H
    refine c_seq ?_
    refine c_region ?_
    refine s_p rfl (y_move rfl) ?_
    refine s_call rfl rfl H fun rv Sx_1 H2 => ?_
    clear H
    obtain ⟨t, rfl, H⟩ := H2
    refine s_p rfl (y_assign rfl) ?_
    refine s_nil (q_then ?_)
    refine c_join2 H (fun (J : Mem → Prop) (z : Unit) S => J S) (fun z => ⟨78, [(0, .int .u8 code), (4, .int .i16 n)]⟩) (fun z => []) ?_ ?_
    · clear H
      rintro _ Sx_2 H
      refine c_seq ?_
      refine c_region ?_
      refine s_p rfl (y_move rfl) ?_
      replace H := ite_e H
      rcases H with ⟨c_1, H⟩ | ⟨c_1, H⟩
      · refine s_p rfl (yT (y_neq rfl rfl) c_1) ?_
        refine s_p rfl (y_move rfl) ?_
        refine s_p rfl (y_move rfl) ?_
        replace H := ite_e H
        rcases H with ⟨c_2, H⟩ | ⟨c_2, H⟩
        · refine s_p rfl (yT (y_neq rfl rfl) c_2) ?_
          refine s_p rfl (y_pick rfl rfl) ?_
          refine s_p rfl (y_move rfl) ?_
          refine s_skip rfl ?_
          refine s_skip rfl ?_
          refine s_skip rfl ?_
          refine s_skip rfl ?_
          refine s_skip rfl ?_
          refine s_skip rfl ?_
          refine s_p rfl (y_pick rfl rfl) ?_
          refine s_p rfl (y_assign rfl) ?_
          refine s_nil (q_then ?_)
          refine c_ret ?_
          exact q_ret Tryd.results7 (rv_tmp rfl rv_nil) ⟨_, rfl, H⟩
        · refine s_p rfl (yF (y_neq rfl rfl) c_2) ?_
          refine s_p rfl (y_pick rfl rfl) ?_
          refine s_p rfl (y_move rfl) ?_
          refine s_p rfl (y_move rfl) ?_
          replace H := ite_e H
          rcases H with ⟨c_3, H⟩ | ⟨c_3, H⟩
          · refine s_p rfl (yT (y_geq rfl rfl) c_3) ?_
            refine s_p rfl (y_move rfl) ?_
            refine s_p rfl (y_move rfl) ?_
            refine s_p rfl (y_lss rfl rfl) ?_
            refine s_p rfl (y_pick rfl rfl) ?_
            refine s_p rfl (y_pick rfl rfl) ?_
            refine s_p rfl (y_assign rfl) ?_
            refine s_nil (q_then ?_)
            refine c_ret ?_
            exact q_ret Tryd.results7 (rv_tmp rfl rv_nil) ⟨_, rfl, H⟩
          · refine s_p rfl (yF (y_geq rfl rfl) c_3) ?_
            refine s_p rfl (y_move rfl) ?_
            refine s_skip rfl ?_
            refine s_skip rfl ?_
            refine s_p rfl (y_pick rfl rfl) ?_
            refine s_p rfl (y_pick rfl rfl) ?_
            refine s_p rfl (y_assign rfl) ?_
            refine s_nil (q_then ?_)
            refine c_ret ?_
            exact q_ret Tryd.results7 (rv_tmp rfl rv_nil) ⟨_, rfl, H⟩
      · refine s_p rfl (yF (y_neq rfl rfl) c_1) ?_
        refine s_p rfl (y_move rfl) ?_
        refine s_skip rfl ?_
        refine s_skip rfl ?_
        refine s_p rfl (y_pick rfl rfl) ?_
        refine s_p rfl (y_move rfl) ?_
        refine s_p rfl (y_move rfl) ?_
        replace H := ite_e H
        rcases H with ⟨c_4, H⟩ | ⟨c_4, H⟩
        · refine s_p rfl (yT (y_geq rfl rfl) c_4) ?_
          refine s_p rfl (y_move rfl) ?_
          refine s_p rfl (y_move rfl) ?_
          refine s_p rfl (y_lss rfl rfl) ?_
          refine s_p rfl (y_pick rfl rfl) ?_
          refine s_p rfl (y_pick rfl rfl) ?_
          refine s_p rfl (y_assign rfl) ?_
          refine s_nil (q_then ?_)
          refine c_ret ?_
          exact q_ret Tryd.results7 (rv_tmp rfl rv_nil) ⟨_, rfl, H⟩
        · refine s_p rfl (yF (y_geq rfl rfl) c_4) ?_
          refine s_p rfl (y_move rfl) ?_
          refine s_skip rfl ?_
          refine s_skip rfl ?_
          refine s_p rfl (y_pick rfl rfl) ?_
          refine s_p rfl (y_pick rfl rfl) ?_
          refine s_p rfl (y_assign rfl) ?_
          refine s_nil (q_then ?_)
          refine c_ret ?_
          exact q_ret Tryd.results7 (rv_tmp rfl rv_nil) ⟨_, rfl, H⟩
    · clear H
      intro Jx hJx H
      refine c_seq ?_
      refine c_region ?_
      refine s_p rfl (y_move rfl) ?_
      replace H := ite_e H
      rcases H with ⟨c_5, H⟩ | ⟨c_5, H⟩
      · refine s_p rfl (yT (y_gtr rfl rfl) c_5) ?_
        refine s_p rfl (y_move rfl) ?_
        refine s_skip rfl ?_
        refine s_skip rfl ?_
        refine s_p rfl (y_pick rfl rfl) ?_
        refine s_p rfl (y_move rfl) ?_
        refine s_skip rfl ?_
        refine s_skip rfl ?_
        refine s_p rfl (y_pick rfl rfl) ?_
        refine s_p rfl (y_move rfl) ?_
        refine s_skip rfl ?_
        refine s_skip rfl ?_
        refine s_skip rfl ?_
        refine s_skip rfl ?_
        refine s_skip rfl ?_
        refine s_skip rfl ?_
        refine s_skip rfl ?_
        refine s_p rfl (y_pick rfl rfl) ?_
        refine s_p rfl (y_move rfl) ?_
        refine s_skip rfl ?_
        refine s_skip rfl ?_
        refine s_skip rfl ?_
        refine s_skip rfl ?_
        refine s_skip rfl ?_
        refine s_skip rfl ?_
        refine s_skip rfl ?_
        refine s_skip rfl ?_
        refine s_p rfl (y_pick rfl rfl) ?_
        refine s_p rfl (y_move rfl) ?_
        refine s_skip rfl ?_
        refine s_skip rfl ?_
        refine s_skip rfl ?_
        refine s_skip rfl ?_
        refine s_skip rfl ?_
        refine s_skip rfl ?_
        refine s_skip rfl ?_
        refine s_skip rfl ?_
        refine s_p rfl (y_pick rfl rfl) ?_
        refine s_p rfl (y_move rfl) ?_
        refine s_skip rfl ?_
        refine s_skip rfl ?_
        refine s_skip rfl ?_
        refine s_skip rfl ?_
        refine s_skip rfl ?_
        refine s_skip rfl ?_
        refine s_skip rfl ?_
        refine s_p rfl (y_pick rfl rfl) ?_
        refine s_nil (q_then ?_)
        refine c_t rfl rfl ?_
        refine c_seq ?_
        refine c_region ?_
        refine s_p rfl (y_assign rfl) ?_
        refine s_nil (q_then ?_)
        refine c_ret (q_then_ret ?_)
        exact q_ret Tryd.results7 (rv_tmp rfl rv_nil) ⟨_, rfl, H⟩
      · refine s_p rfl (yF (y_gtr rfl rfl) c_5) ?_
        refine s_p rfl (y_move rfl) ?_
        refine s_p rfl (y_move rfl) ?_
        replace H := ite_e H
        rcases H with ⟨c_6, H⟩ | ⟨c_6, H⟩
        · refine s_p rfl (yT (y_gtr rfl rfl) c_6) ?_
          refine s_p rfl (y_pick rfl rfl) ?_
          refine s_p rfl (y_move rfl) ?_
          refine s_skip rfl ?_
          refine s_skip rfl ?_
          refine s_p rfl (y_pick rfl rfl) ?_
          refine s_p rfl (y_move rfl) ?_
          refine s_skip rfl ?_
          refine s_skip rfl ?_
          refine s_skip rfl ?_
          refine s_skip rfl ?_
          refine s_skip rfl ?_
          refine s_skip rfl ?_
          refine s_skip rfl ?_
          refine s_p rfl (y_pick rfl rfl) ?_
          refine s_p rfl (y_move rfl) ?_
          refine s_skip rfl ?_
          refine s_skip rfl ?_
          refine s_skip rfl ?_
          refine s_skip rfl ?_
          refine s_skip rfl ?_
          refine s_skip rfl ?_
          refine s_skip rfl ?_
          refine s_skip rfl ?_
          refine s_p rfl (y_pick rfl rfl) ?_
          refine s_p rfl (y_move rfl) ?_
          refine s_skip rfl ?_
          refine s_skip rfl ?_
          refine s_skip rfl ?_
          refine s_skip rfl ?_
          refine s_skip rfl ?_
          refine s_skip rfl ?_
          refine s_skip rfl ?_
          refine s_skip rfl ?_
          refine s_p rfl (y_pick rfl rfl) ?_
          refine s_p rfl (y_move rfl) ?_
          refine s_skip rfl ?_
          refine s_skip rfl ?_
          refine s_skip rfl ?_
          refine s_skip rfl ?_
          refine s_skip rfl ?_
          refine s_skip rfl ?_
          refine s_skip rfl ?_
          refine s_p rfl (y_pick rfl rfl) ?_
          refine s_nil (q_then ?_)
          refine c_t rfl rfl ?_
          refine c_seq ?_
          refine c_region ?_
          refine s_p rfl (y_assign rfl) ?_
          refine s_nil (q_then ?_)
          refine c_ret (q_then_ret ?_)
          exact q_ret Tryd.results7 (rv_tmp rfl rv_nil) ⟨_, rfl, H⟩
        · refine s_p rfl (yF (y_gtr rfl rfl) c_6) ?_
          refine s_p rfl (y_pick rfl rfl) ?_
          refine s_p rfl (y_move rfl) ?_
          refine s_p rfl (y_move rfl) ?_
          replace H := ite_e H
          rcases H with ⟨c_7, H⟩ | ⟨c_7, H⟩
          · refine s_p rfl (yT (y_gtr rfl rfl) c_7) ?_
            refine s_p rfl (y_pick rfl rfl) ?_
            refine s_p rfl (y_move rfl) ?_
            refine s_skip rfl ?_
            refine s_skip rfl ?_
            refine s_skip rfl ?_
            refine s_skip rfl ?_
            refine s_skip rfl ?_
            refine s_skip rfl ?_
            refine s_skip rfl ?_
            refine s_p rfl (y_pick rfl rfl) ?_
            refine s_p rfl (y_move rfl) ?_
            refine s_skip rfl ?_
            refine s_skip rfl ?_
            refine s_skip rfl ?_
            refine s_skip rfl ?_
            refine s_skip rfl ?_
            refine s_skip rfl ?_
            refine s_skip rfl ?_
            refine s_skip rfl ?_
            refine s_p rfl (y_pick rfl rfl) ?_
            refine s_p rfl (y_move rfl) ?_
            refine s_skip rfl ?_
            refine s_skip rfl ?_
            refine s_skip rfl ?_
            refine s_skip rfl ?_
            refine s_skip rfl ?_
            refine s_skip rfl ?_
            refine s_skip rfl ?_
            refine s_skip rfl ?_
            refine s_p rfl (y_pick rfl rfl) ?_
            refine s_p rfl (y_move rfl) ?_
            refine s_skip rfl ?_
            refine s_skip rfl ?_
            refine s_skip rfl ?_
            refine s_skip rfl ?_
            refine s_skip rfl ?_
            refine s_skip rfl ?_
            refine s_skip rfl ?_
            refine s_p rfl (y_pick rfl rfl) ?_
            refine s_nil (q_then ?_)
            refine c_t rfl rfl ?_
            refine c_seq ?_
            refine c_region ?_
            refine s_p rfl (y_assign rfl) ?_
            refine s_nil (q_then ?_)
            refine c_ret (q_then_ret ?_)
            exact q_ret Tryd.results7 (rv_tmp rfl rv_nil) ⟨_, rfl, H⟩
          · refine s_p rfl (yF (y_gtr rfl rfl) c_7) ?_
            refine s_p rfl (y_pick rfl rfl) ?_
            refine s_p rfl (y_move rfl) ?_
            refine s_p rfl (y_move rfl) ?_
            refine s_p rfl (y_rem rfl rfl (by decide)) ?_
            replace H := ite_e H
            rcases H with ⟨c_8, H⟩ | ⟨c_8, H⟩
            · refine s_p rfl (yT (y_eql rfl rfl) c_8) ?_
              refine s_p rfl (y_move rfl) ?_
              refine s_p rfl (y_move rfl) ?_
              replace H := ite_e H
              rcases H with ⟨c_9, H⟩ | ⟨c_9, H⟩
              · refine s_p rfl (yT (y_gtr rfl rfl) c_9) ?_
                refine s_p rfl (y_pick rfl rfl) ?_
                refine s_p rfl (y_pick rfl rfl) ?_
                refine s_p rfl (y_move rfl) ?_
                refine s_skip rfl ?_
                refine s_skip rfl ?_
                refine s_skip rfl ?_
                refine s_skip rfl ?_
                refine s_skip rfl ?_
                refine s_skip rfl ?_
                refine s_skip rfl ?_
                refine s_skip rfl ?_
                refine s_p rfl (y_pick rfl rfl) ?_
                refine s_p rfl (y_move rfl) ?_
                refine s_skip rfl ?_
                refine s_skip rfl ?_
                refine s_skip rfl ?_
                refine s_skip rfl ?_
                refine s_skip rfl ?_
                refine s_skip rfl ?_
                refine s_skip rfl ?_
                refine s_skip rfl ?_
                refine s_p rfl (y_pick rfl rfl) ?_
                refine s_p rfl (y_move rfl) ?_
                refine s_skip rfl ?_
                refine s_skip rfl ?_
                refine s_skip rfl ?_
                refine s_skip rfl ?_
                refine s_skip rfl ?_
                refine s_skip rfl ?_
                refine s_skip rfl ?_
                refine s_p rfl (y_pick rfl rfl) ?_
                refine s_nil (q_then ?_)
                refine c_t rfl rfl ?_
                refine c_seq ?_
                refine c_region ?_
                refine s_p rfl (y_assign rfl) ?_
                refine s_nil (q_then ?_)
                refine c_ret (q_then_ret ?_)
                exact q_ret Tryd.results7 (rv_tmp rfl rv_nil) ⟨_, rfl, H⟩
              · refine s_p rfl (yF (y_gtr rfl rfl) c_9) ?_
                refine s_p rfl (y_pick rfl rfl) ?_
                refine s_p rfl (y_pick rfl rfl) ?_
                refine s_p rfl (y_move rfl) ?_
                refine s_p rfl (y_move rfl) ?_
                refine s_p rfl (y_quo rfl rfl (by decide)) ?_
                refine s_p rfl (y_rem rfl rfl (by decide)) ?_
                replace H := ite_e H
                rcases H with ⟨c_10, H⟩ | ⟨c_10, H⟩
                · refine s_p rfl (yT (y_eql rfl rfl) c_10) ?_
                  refine s_p rfl (y_move rfl) ?_
                  refine s_p rfl (y_move rfl) ?_
                  replace H := ite_e H
                  rcases H with ⟨c_11, H⟩ | ⟨c_11, H⟩
                  · refine s_p rfl (yT (y_gtr rfl rfl) c_11) ?_
                    refine s_p rfl (y_pick rfl rfl) ?_
                    refine s_p rfl (y_pick rfl rfl) ?_
                    refine s_p rfl (y_move rfl) ?_
                    refine s_skip rfl ?_
                    refine s_skip rfl ?_
                    refine s_skip rfl ?_
                    refine s_skip rfl ?_
                    refine s_skip rfl ?_
                    refine s_skip rfl ?_
                    refine s_skip rfl ?_
                    refine s_skip rfl ?_
                    refine s_p rfl (y_pick rfl rfl) ?_
                    refine s_p rfl (y_move rfl) ?_
                    refine s_skip rfl ?_
                    refine s_skip rfl ?_
                    refine s_skip rfl ?_
                    refine s_skip rfl ?_
                    refine s_skip rfl ?_
                    refine s_skip rfl ?_
                    refine s_skip rfl ?_
                    refine s_p rfl (y_pick rfl rfl) ?_
                    refine s_nil (q_then ?_)
                    refine c_t rfl rfl ?_
                    refine c_seq ?_
                    refine c_region ?_
                    refine s_p rfl (y_assign rfl) ?_
                    refine s_nil (q_then ?_)
                    refine c_ret (q_then_ret ?_)
                    exact q_ret Tryd.results7 (rv_tmp rfl rv_nil) ⟨_, rfl, H⟩
                  · refine s_p rfl (yF (y_gtr rfl rfl) c_11) ?_
                    refine s_p rfl (y_pick rfl rfl) ?_
                    refine s_p rfl (y_pick rfl rfl) ?_
                    refine s_p rfl (y_move rfl) ?_
                    refine s_p rfl (y_move rfl) ?_
                    refine s_p rfl (y_quo rfl rfl (by decide)) ?_
                    refine s_p rfl (y_rem rfl rfl (by decide)) ?_
                    replace H := ite_e H
                    rcases H with ⟨c_12, H⟩ | ⟨c_12, H⟩
                    · refine s_p rfl (yT (y_eql rfl rfl) c_12) ?_
                      refine s_p rfl (y_move rfl) ?_
                      refine s_p rfl (y_move rfl) ?_
                      replace H := ite_e H
                      rcases H with ⟨c_13, H⟩ | ⟨c_13, H⟩
                      · refine s_p rfl (yT (y_gtr rfl rfl) c_13) ?_
                        refine s_p rfl (y_pick rfl rfl) ?_
                        refine s_p rfl (y_pick rfl rfl) ?_
                        refine s_p rfl (y_move rfl) ?_
                        refine s_skip rfl ?_
                        refine s_skip rfl ?_
                        refine s_skip rfl ?_
                        refine s_skip rfl ?_
                        refine s_skip rfl ?_
                        refine s_skip rfl ?_
                        refine s_skip rfl ?_
                        refine s_p rfl (y_pick rfl rfl) ?_
                        refine s_nil (q_then ?_)
                        refine c_t rfl rfl ?_
                        refine c_seq ?_
                        refine c_region ?_
                        refine s_p rfl (y_assign rfl) ?_
                        refine s_nil (q_then ?_)
                        refine c_ret (q_then_ret ?_)
                        exact q_ret Tryd.results7 (rv_tmp rfl rv_nil) ⟨_, rfl, H⟩
                      · refine s_p rfl (yF (y_gtr rfl rfl) c_13) ?_
                        refine s_p rfl (y_pick rfl rfl) ?_
                        refine s_p rfl (y_pick rfl rfl) ?_
                        refine s_p rfl (y_move rfl) ?_
                        refine s_p rfl (y_move rfl) ?_
                        refine s_p rfl (y_quo rfl rfl (by decide)) ?_
                        replace H := ite_e H
                        rcases H with ⟨c_14, H⟩ | ⟨c_14, H⟩
                        · refine s_p rfl (yT (y_eql rfl rfl) c_14) ?_
                          refine s_p rfl (y_move rfl) ?_
                          refine s_p rfl (y_move rfl) ?_
                          replace H := ite_e H
                          rcases H with ⟨c_15, H⟩ | ⟨c_15, H⟩
                          · refine s_p rfl (yT (y_neq rfl rfl) c_15) ?_
                            refine s_p rfl (y_pick rfl rfl) ?_
                            refine s_p rfl (y_pick rfl rfl) ?_
                            refine s_nil (q_then ?_)
                            refine c_t rfl rfl ?_
                            refine c_seq ?_
                            refine c_region ?_
                            refine s_p rfl (y_assign rfl) ?_
                            refine s_nil (q_then ?_)
                            refine c_ret (q_then_ret ?_)
                            exact q_ret Tryd.results7 (rv_tmp rfl rv_nil) ⟨_, rfl, H⟩
                          · refine s_p rfl (yF (y_neq rfl rfl) c_15) ?_
                            refine s_p rfl (y_pick rfl rfl) ?_
                            refine s_p rfl (y_pick rfl rfl) ?_
                            refine s_nil (q_then ?_)
                            refine c_f rfl rfl ?_
                            refine c_skip ?_
                            exact hJx () _ _ _ _ [] H rfl ⟨rfl, rfl, True.intro⟩ rfl
                        · refine s_p rfl (yF (y_eql rfl rfl) c_14) ?_
                          refine s_p rfl (y_move rfl) ?_
                          refine s_skip rfl ?_
                          refine s_skip rfl ?_
                          refine s_p rfl (y_pick rfl rfl) ?_
                          refine s_p rfl (y_pick rfl rfl) ?_
                          refine s_nil (q_then ?_)
                          refine c_f rfl rfl ?_
                          refine c_skip ?_
                          exact hJx () _ _ _ _ [] H rfl ⟨rfl, rfl, True.intro⟩ rfl
                    · refine s_p rfl (yF (y_eql rfl rfl) c_12) ?_
                      refine s_p rfl (y_move rfl) ?_
                      refine s_skip rfl ?_
                      refine s_skip rfl ?_
                      refine s_p rfl (y_pick rfl rfl) ?_
                      refine s_p rfl (y_pick rfl rfl) ?_
                      refine s_p rfl (y_move rfl) ?_
                      refine s_p rfl (y_move rfl) ?_
                      refine s_p rfl (y_quo rfl rfl (by decide)) ?_
                      replace H := ite_e H
                      rcases H with ⟨c_16, H⟩ | ⟨c_16, H⟩
                      · refine s_p rfl (yT (y_eql rfl rfl) c_16) ?_
                        refine s_p rfl (y_move rfl) ?_
                        refine s_p rfl (y_move rfl) ?_
                        replace H := ite_e H
                        rcases H with ⟨c_17, H⟩ | ⟨c_17, H⟩
                        · refine s_p rfl (yT (y_neq rfl rfl) c_17) ?_
                          refine s_p rfl (y_pick rfl rfl) ?_
                          refine s_p rfl (y_pick rfl rfl) ?_
                          refine s_nil (q_then ?_)
                          refine c_t rfl rfl ?_
                          refine c_seq ?_
                          refine c_region ?_
                          refine s_p rfl (y_assign rfl) ?_
                          refine s_nil (q_then ?_)
                          refine c_ret (q_then_ret ?_)
                          exact q_ret Tryd.results7 (rv_tmp rfl rv_nil) ⟨_, rfl, H⟩
                        · refine s_p rfl (yF (y_neq rfl rfl) c_17) ?_
                          refine s_p rfl (y_pick rfl rfl) ?_
                          refine s_p rfl (y_pick rfl rfl) ?_
                          refine s_nil (q_then ?_)
                          refine c_f rfl rfl ?_
                          refine c_skip ?_
                          exact hJx () _ _ _ _ [] H rfl ⟨rfl, rfl, True.intro⟩ rfl
                      · refine s_p rfl (yF (y_eql rfl rfl) c_16) ?_
                        refine s_p rfl (y_move rfl) ?_
                        refine s_skip rfl ?_
                        refine s_skip rfl ?_
                        refine s_p rfl (y_pick rfl rfl) ?_
                        refine s_p rfl (y_pick rfl rfl) ?_
                        refine s_nil (q_then ?_)
                        refine c_f rfl rfl ?_
                        refine c_skip ?_
                        exact hJx () _ _ _ _ [] H rfl ⟨rfl, rfl, True.intro⟩ rfl
                · refine s_p rfl (yF (y_eql rfl rfl) c_10) ?_
                  refine s_p rfl (y_move rfl) ?_
                  refine s_skip rfl ?_
                  refine s_skip rfl ?_
                  refine s_p rfl (y_pick rfl rfl) ?_
                  refine s_p rfl (y_pick rfl rfl) ?_
                  refine s_p rfl (y_move rfl) ?_
                  refine s_p rfl (y_move rfl) ?_
                  refine s_p rfl (y_quo rfl rfl (by decide)) ?_
                  refine s_p rfl (y_rem rfl rfl (by decide)) ?_
                  replace H := ite_e H
                  rcases H with ⟨c_18, H⟩ | ⟨c_18, H⟩
                  · refine s_p rfl (yT (y_eql rfl rfl) c_18) ?_
                    refine s_p rfl (y_move rfl) ?_
                    refine s_p rfl (y_move rfl) ?_
                    replace H := ite_e H
                    rcases H with ⟨c_19, H⟩ | ⟨c_19, H⟩
                    · refine s_p rfl (yT (y_gtr rfl rfl) c_19) ?_
                      refine s_p rfl (y_pick rfl rfl) ?_
                      refine s_p rfl (y_pick rfl rfl) ?_
                      refine s_p rfl (y_move rfl) ?_
                      refine s_skip rfl ?_
                      refine s_skip rfl ?_
                      refine s_skip rfl ?_
                      refine s_skip rfl ?_
                      refine s_skip rfl ?_
                      refine s_skip rfl ?_
                      refine s_skip rfl ?_
                      refine s_p rfl (y_pick rfl rfl) ?_
                      refine s_nil (q_then ?_)
                      refine c_t rfl rfl ?_
                      refine c_seq ?_
                      refine c_region ?_
                      refine s_p rfl (y_assign rfl) ?_
                      refine s_nil (q_then ?_)
                      refine c_ret (q_then_ret ?_)
                      exact q_ret Tryd.results7 (rv_tmp rfl rv_nil) ⟨_, rfl, H⟩
                    · refine s_p rfl (yF (y_gtr rfl rfl) c_19) ?_
                      refine s_p rfl (y_pick rfl rfl) ?_
                      refine s_p rfl (y_pick rfl rfl) ?_
                      refine s_p rfl (y_move rfl) ?_
                      refine s_p rfl (y_move rfl) ?_
                      refine s_p rfl (y_quo rfl rfl (by decide)) ?_
                      replace H := ite_e H
                      rcases H with ⟨c_20, H⟩ | ⟨c_20, H⟩
                      · refine s_p rfl (yT (y_eql rfl rfl) c_20) ?_
                        refine s_p rfl (y_move rfl) ?_
                        refine s_p rfl (y_move rfl) ?_
                        replace H := ite_e H
                        rcases H with ⟨c_21, H⟩ | ⟨c_21, H⟩
                        · refine s_p rfl (yT (y_neq rfl rfl) c_21) ?_
                          refine s_p rfl (y_pick rfl rfl) ?_
                          refine s_p rfl (y_pick rfl rfl) ?_
                          refine s_nil (q_then ?_)
                          refine c_t rfl rfl ?_
                          refine c_seq ?_
                          refine c_region ?_
                          refine s_p rfl (y_assign rfl) ?_
                          refine s_nil (q_then ?_)
                          refine c_ret (q_then_ret ?_)
                          exact q_ret Tryd.results7 (rv_tmp rfl rv_nil) ⟨_, rfl, H⟩
                        · refine s_p rfl (yF (y_neq rfl rfl) c_21) ?_
                          refine s_p rfl (y_pick rfl rfl) ?_
                          refine s_p rfl (y_pick rfl rfl) ?_
                          refine s_nil (q_then ?_)
                          refine c_f rfl rfl ?_
                          refine c_skip ?_
                          exact hJx () _ _ _ _ [] H rfl ⟨rfl, rfl, True.intro⟩ rfl
                      · refine s_p rfl (yF (y_eql rfl rfl) c_20) ?_
                        refine s_p rfl (y_move rfl) ?_
                        refine s_skip rfl ?_
                        refine s_skip rfl ?_
                        refine s_p rfl (y_pick rfl rfl) ?_
                        refine s_p rfl (y_pick rfl rfl) ?_
                        refine s_nil (q_then ?_)
                        refine c_f rfl rfl ?_
                        refine c_skip ?_
                        exact hJx () _ _ _ _ [] H rfl ⟨rfl, rfl, True.intro⟩ rfl
                  · refine s_p rfl (yF (y_eql rfl rfl) c_18) ?_
                    refine s_p rfl (y_move rfl) ?_
                    refine s_skip rfl ?_
                    refine s_skip rfl ?_
                    refine s_p rfl (y_pick rfl rfl) ?_
                    refine s_p rfl (y_pick rfl rfl) ?_
                    refine s_p rfl (y_move rfl) ?_
                    refine s_p rfl (y_move rfl) ?_
                    refine s_p rfl (y_quo rfl rfl (by decide)) ?_
                    replace H := ite_e H
                    rcases H with ⟨c_22, H⟩ | ⟨c_22, H⟩
                    · refine s_p rfl (yT (y_eql rfl rfl) c_22) ?_
                      refine s_p rfl (y_move rfl) ?_
                      refine s_p rfl (y_move rfl) ?_
                      replace H := ite_e H
                      rcases H with ⟨c_23, H⟩ | ⟨c_23, H⟩
                      · refine s_p rfl (yT (y_neq rfl rfl) c_23) ?_
                        refine s_p rfl (y_pick rfl rfl) ?_
                        refine s_p rfl (y_pick rfl rfl) ?_
                        refine s_nil (q_then ?_)
                        refine c_t rfl rfl ?_
                        refine c_seq ?_
                        refine c_region ?_
                        refine s_p rfl (y_assign rfl) ?_
                        refine s_nil (q_then ?_)
                        refine c_ret (q_then_ret ?_)
                        exact q_ret Tryd.results7 (rv_tmp rfl rv_nil) ⟨_, rfl, H⟩
                      · refine s_p rfl (yF (y_neq rfl rfl) c_23) ?_
                        refine s_p rfl (y_pick rfl rfl) ?_
                        refine s_p rfl (y_pick rfl rfl) ?_
                        refine s_nil (q_then ?_)
                        refine c_f rfl rfl ?_
                        refine c_skip ?_
                        exact hJx () _ _ _ _ [] H rfl ⟨rfl, rfl, True.intro⟩ rfl
                    · refine s_p rfl (yF (y_eql rfl rfl) c_22) ?_
                      refine s_p rfl (y_move rfl) ?_
                      refine s_skip rfl ?_
                      refine s_skip rfl ?_
                      refine s_p rfl (y_pick rfl rfl) ?_
                      refine s_p rfl (y_pick rfl rfl) ?_
                      refine s_nil (q_then ?_)
                      refine c_f rfl rfl ?_
                      refine c_skip ?_
                      exact hJx () _ _ _ _ [] H rfl ⟨rfl, rfl, True.intro⟩ rfl
            · refine s_p rfl (yF (y_eql rfl rfl) c_8) ?_
              refine s_p rfl (y_move rfl) ?_
              refine s_skip rfl ?_
              refine s_skip rfl ?_
              refine s_p rfl (y_pick rfl rfl) ?_
              refine s_p rfl (y_pick rfl rfl) ?_
              refine s_p rfl (y_move rfl) ?_
              refine s_p rfl (y_move rfl) ?_
              refine s_p rfl (y_quo rfl rfl (by decide)) ?_
              refine s_p rfl (y_rem rfl rfl (by decide)) ?_
              replace H := ite_e H
              rcases H with ⟨c_24, H⟩ | ⟨c_24, H⟩
              · refine s_p rfl (yT (y_eql rfl rfl) c_24) ?_
                refine s_p rfl (y_move rfl) ?_
                refine s_p rfl (y_move rfl) ?_
                replace H := ite_e H
                rcases H with ⟨c_25, H⟩ | ⟨c_25, H⟩
                · refine s_p rfl (yT (y_gtr rfl rfl) c_25) ?_
                  refine s_p rfl (y_pick rfl rfl) ?_
                  refine s_p rfl (y_pick rfl rfl) ?_
                  refine s_p rfl (y_move rfl) ?_
                  refine s_skip rfl ?_
                  refine s_skip rfl ?_
                  refine s_skip rfl ?_
                  refine s_skip rfl ?_
                  refine s_skip rfl ?_
                  refine s_skip rfl ?_
                  refine s_skip rfl ?_
                  refine s_skip rfl ?_
                  refine s_p rfl (y_pick rfl rfl) ?_
                  refine s_p rfl (y_move rfl) ?_
                  refine s_skip rfl ?_
                  refine s_skip rfl ?_
                  refine s_skip rfl ?_
                  refine s_skip rfl ?_
                  refine s_skip rfl ?_
                  refine s_skip rfl ?_
                  refine s_skip rfl ?_
                  refine s_p rfl (y_pick rfl rfl) ?_
                  refine s_nil (q_then ?_)
                  refine c_t rfl rfl ?_
                  refine c_seq ?_
                  refine c_region ?_
                  refine s_p rfl (y_assign rfl) ?_
                  refine s_nil (q_then ?_)
                  refine c_ret (q_then_ret ?_)
                  exact q_ret Tryd.results7 (rv_tmp rfl rv_nil) ⟨_, rfl, H⟩
                · refine s_p rfl (yF (y_gtr rfl rfl) c_25) ?_
                  refine s_p rfl (y_pick rfl rfl) ?_
                  refine s_p rfl (y_pick rfl rfl) ?_
                  refine s_p rfl (y_move rfl) ?_
                  refine s_p rfl (y_move rfl) ?_
                  refine s_p rfl (y_quo rfl rfl (by decide)) ?_
                  refine s_p rfl (y_rem rfl rfl (by decide)) ?_
                  replace H := ite_e H
                  rcases H with ⟨c_26, H⟩ | ⟨c_26, H⟩
                  · refine s_p rfl (yT (y_eql rfl rfl) c_26) ?_
                    refine s_p rfl (y_move rfl) ?_
                    refine s_p rfl (y_move rfl) ?_
                    replace H := ite_e H
                    rcases H with ⟨c_27, H⟩ | ⟨c_27, H⟩
                    · refine s_p rfl (yT (y_gtr rfl rfl) c_27) ?_
                      refine s_p rfl (y_pick rfl rfl) ?_
                      refine s_p rfl (y_pick rfl rfl) ?_
                      refine s_p rfl (y_move rfl) ?_
                      refine s_skip rfl ?_
                      refine s_skip rfl ?_
                      refine s_skip rfl ?_
                      refine s_skip rfl ?_
                      refine s_skip rfl ?_
                      refine s_skip rfl ?_
                      refine s_skip rfl ?_
                      refine s_p rfl (y_pick rfl rfl) ?_
                      refine s_nil (q_then ?_)
                      refine c_t rfl rfl ?_
                      refine c_seq ?_
                      refine c_region ?_
                      refine s_p rfl (y_assign rfl) ?_
                      refine s_nil (q_then ?_)
                      refine c_ret (q_then_ret ?_)
                      exact q_ret Tryd.results7 (rv_tmp rfl rv_nil) ⟨_, rfl, H⟩
                    · refine s_p rfl (yF (y_gtr rfl rfl) c_27) ?_
                      refine s_p rfl (y_pick rfl rfl) ?_
                      refine s_p rfl (y_pick rfl rfl) ?_
                      refine s_p rfl (y_move rfl) ?_
                      refine s_p rfl (y_move rfl) ?_
                      refine s_p rfl (y_quo rfl rfl (by decide)) ?_
                      replace H := ite_e H
                      rcases H with ⟨c_28, H⟩ | ⟨c_28, H⟩
                      · refine s_p rfl (yT (y_eql rfl rfl) c_28) ?_
                        refine s_p rfl (y_move rfl) ?_
                        refine s_p rfl (y_move rfl) ?_
                        replace H := ite_e H
                        rcases H with ⟨c_29, H⟩ | ⟨c_29, H⟩
                        · refine s_p rfl (yT (y_neq rfl rfl) c_29) ?_
                          refine s_p rfl (y_pick rfl rfl) ?_
                          refine s_p rfl (y_pick rfl rfl) ?_
                          refine s_nil (q_then ?_)
                          refine c_t rfl rfl ?_
                          refine c_seq ?_
                          refine c_region ?_
                          refine s_p rfl (y_assign rfl) ?_
                          refine s_nil (q_then ?_)
                          refine c_ret (q_then_ret ?_)
                          exact q_ret Tryd.results7 (rv_tmp rfl rv_nil) ⟨_, rfl, H⟩
                        · refine s_p rfl (yF (y_neq rfl rfl) c_29) ?_
                          refine s_p rfl (y_pick rfl rfl) ?_
                          refine s_p rfl (y_pick rfl rfl) ?_
                          refine s_nil (q_then ?_)
                          refine c_f rfl rfl ?_
                          refine c_skip ?_
                          exact hJx () _ _ _ _ [] H rfl ⟨rfl, rfl, True.intro⟩ rfl
                      · refine s_p rfl (yF (y_eql rfl rfl) c_28) ?_
                        refine s_p rfl (y_move rfl) ?_
                        refine s_skip rfl ?_
                        refine s_skip rfl ?_
                        refine s_p rfl (y_pick rfl rfl) ?_
                        refine s_p rfl (y_pick rfl rfl) ?_
                        refine s_nil (q_then ?_)
                        refine c_f rfl rfl ?_
                        refine c_skip ?_
                        exact hJx () _ _ _ _ [] H rfl ⟨rfl, rfl, True.intro⟩ rfl
                  · refine s_p rfl (yF (y_eql rfl rfl) c_26) ?_
                    refine s_p rfl (y_move rfl) ?_
                    refine s_skip rfl ?_
                    refine s_skip rfl ?_
                    refine s_p rfl (y_pick rfl rfl) ?_
                    refine s_p rfl (y_pick rfl rfl) ?_
                    refine s_p rfl (y_move rfl) ?_
                    refine s_p rfl (y_move rfl) ?_
                    refine s_p rfl (y_quo rfl rfl (by decide)) ?_
                    replace H := ite_e H
                    rcases H with ⟨c_30, H⟩ | ⟨c_30, H⟩
                    · refine s_p rfl (yT (y_eql rfl rfl) c_30) ?_
                      refine s_p rfl (y_move rfl) ?_
                      refine s_p rfl (y_move rfl) ?_
                      replace H := ite_e H
                      rcases H with ⟨c_31, H⟩ | ⟨c_31, H⟩
                      · refine s_p rfl (yT (y_neq rfl rfl) c_31) ?_
                        refine s_p rfl (y_pick rfl rfl) ?_
                        refine s_p rfl (y_pick rfl rfl) ?_
                        refine s_nil (q_then ?_)
                        refine c_t rfl rfl ?_
                        refine c_seq ?_
                        refine c_region ?_
                        refine s_p rfl (y_assign rfl) ?_
                        refine s_nil (q_then ?_)
                        refine c_ret (q_then_ret ?_)
                        exact q_ret Tryd.results7 (rv_tmp rfl rv_nil) ⟨_, rfl, H⟩
                      · refine s_p rfl (yF (y_neq rfl rfl) c_31) ?_
                        refine s_p rfl (y_pick rfl rfl) ?_
                        refine s_p rfl (y_pick rfl rfl) ?_
                        refine s_nil (q_then ?_)
                        refine c_f rfl rfl ?_
                        refine c_skip ?_
                        exact hJx () _ _ _ _ [] H rfl ⟨rfl, rfl, True.intro⟩ rfl
                    · refine s_p rfl (yF (y_eql rfl rfl) c_30) ?_
                      refine s_p rfl (y_move rfl) ?_
                      refine s_skip rfl ?_
                      refine s_skip rfl ?_
                      refine s_p rfl (y_pick rfl rfl) ?_
                      refine s_p rfl (y_pick rfl rfl) ?_
                      refine s_nil (q_then ?_)
                      refine c_f rfl rfl ?_
                      refine c_skip ?_
                      exact hJx () _ _ _ _ [] H rfl ⟨rfl, rfl, True.intro⟩ rfl
              · refine s_p rfl (yF (y_eql rfl rfl) c_24) ?_
                refine s_p rfl (y_move rfl) ?_
                refine s_skip rfl ?_
                refine s_skip rfl ?_
                refine s_p rfl (y_pick rfl rfl) ?_
                refine s_p rfl (y_pick rfl rfl) ?_
                refine s_p rfl (y_move rfl) ?_
                refine s_p rfl (y_move rfl) ?_
                refine s_p rfl (y_quo rfl rfl (by decide)) ?_
                refine s_p rfl (y_rem rfl rfl (by decide)) ?_
                replace H := ite_e H
                rcases H with ⟨c_32, H⟩ | ⟨c_32, H⟩
                · refine s_p rfl (yT (y_eql rfl rfl) c_32) ?_
                  refine s_p rfl (y_move rfl) ?_
                  refine s_p rfl (y_move rfl) ?_
                  replace H := ite_e H
                  rcases H with ⟨c_33, H⟩ | ⟨c_33, H⟩
                  · refine s_p rfl (yT (y_gtr rfl rfl) c_33) ?_
                    refine s_p rfl (y_pick rfl rfl) ?_
                    refine s_p rfl (y_pick rfl rfl) ?_
                    refine s_p rfl (y_move rfl) ?_
                    refine s_skip rfl ?_
                    refine s_skip rfl ?_
                    refine s_skip rfl ?_
                    refine s_skip rfl ?_
                    refine s_skip rfl ?_
                    refine s_skip rfl ?_
                    refine s_skip rfl ?_
                    refine s_p rfl (y_pick rfl rfl) ?_
                    refine s_nil (q_then ?_)
                    refine c_t rfl rfl ?_
                    refine c_seq ?_
                    refine c_region ?_
                    refine s_p rfl (y_assign rfl) ?_
                    refine s_nil (q_then ?_)
                    refine c_ret (q_then_ret ?_)
                    exact q_ret Tryd.results7 (rv_tmp rfl rv_nil) ⟨_, rfl, H⟩
                  · refine s_p rfl (yF (y_gtr rfl rfl) c_33) ?_
                    refine s_p rfl (y_pick rfl rfl) ?_
                    refine s_p rfl (y_pick rfl rfl) ?_
                    refine s_p rfl (y_move rfl) ?_
                    refine s_p rfl (y_move rfl) ?_
                    refine s_p rfl (y_quo rfl rfl (by decide)) ?_
                    replace H := ite_e H
                    rcases H with ⟨c_34, H⟩ | ⟨c_34, H⟩
                    · refine s_p rfl (yT (y_eql rfl rfl) c_34) ?_
                      refine s_p rfl (y_move rfl) ?_
                      refine s_p rfl (y_move rfl) ?_
                      replace H := ite_e H
                      rcases H with ⟨c_35, H⟩ | ⟨c_35, H⟩
                      · refine s_p rfl (yT (y_neq rfl rfl) c_35) ?_
                        refine s_p rfl (y_pick rfl rfl) ?_
                        refine s_p rfl (y_pick rfl rfl) ?_
                        refine s_nil (q_then ?_)
                        refine c_t rfl rfl ?_
                        refine c_seq ?_
                        refine c_region ?_
                        refine s_p rfl (y_assign rfl) ?_
                        refine s_nil (q_then ?_)
                        refine c_ret (q_then_ret ?_)
                        exact q_ret Tryd.results7 (rv_tmp rfl rv_nil) ⟨_, rfl, H⟩
                      · refine s_p rfl (yF (y_neq rfl rfl) c_35) ?_
                        refine s_p rfl (y_pick rfl rfl) ?_
                        refine s_p rfl (y_pick rfl rfl) ?_
                        refine s_nil (q_then ?_)
                        refine c_f rfl rfl ?_
                        refine c_skip ?_
                        exact hJx () _ _ _ _ [] H rfl ⟨rfl, rfl, True.intro⟩ rfl
                    · refine s_p rfl (yF (y_eql rfl rfl) c_34) ?_
                      refine s_p rfl (y_move rfl) ?_
                      refine s_skip rfl ?_
                      refine s_skip rfl ?_
                      refine s_p rfl (y_pick rfl rfl) ?_
                      refine s_p rfl (y_pick rfl rfl) ?_
                      refine s_nil (q_then ?_)
                      refine c_f rfl rfl ?_
                      refine c_skip ?_
                      exact hJx () _ _ _ _ [] H rfl ⟨rfl, rfl, True.intro⟩ rfl
                · refine s_p rfl (yF (y_eql rfl rfl) c_32) ?_
                  refine s_p rfl (y_move rfl) ?_
                  refine s_skip rfl ?_
                  refine s_skip rfl ?_
                  refine s_p rfl (y_pick rfl rfl) ?_
                  refine s_p rfl (y_pick rfl rfl) ?_
                  refine s_p rfl (y_move rfl) ?_
                  refine s_p rfl (y_move rfl) ?_
                  refine s_p rfl (y_quo rfl rfl (by decide)) ?_
                  replace H := ite_e H
                  rcases H with ⟨c_36, H⟩ | ⟨c_36, H⟩
                  · refine s_p rfl (yT (y_eql rfl rfl) c_36) ?_
                    refine s_p rfl (y_move rfl) ?_
                    refine s_p rfl (y_move rfl) ?_
                    replace H := ite_e H
                    rcases H with ⟨c_37, H⟩ | ⟨c_37, H⟩
                    · refine s_p rfl (yT (y_neq rfl rfl) c_37) ?_
                      refine s_p rfl (y_pick rfl rfl) ?_
                      refine s_p rfl (y_pick rfl rfl) ?_
                      refine s_nil (q_then ?_)
                      refine c_t rfl rfl ?_
                      refine c_seq ?_
                      refine c_region ?_
                      refine s_p rfl (y_assign rfl) ?_
                      refine s_nil (q_then ?_)
                      refine c_ret (q_then_ret ?_)
                      exact q_ret Tryd.results7 (rv_tmp rfl rv_nil) ⟨_, rfl, H⟩
                    · refine s_p rfl (yF (y_neq rfl rfl) c_37) ?_
                      refine s_p rfl (y_pick rfl rfl) ?_
                      refine s_p rfl (y_pick rfl rfl) ?_
                      refine s_nil (q_then ?_)
                      refine c_f rfl rfl ?_
                      refine c_skip ?_
                      exact hJx () _ _ _ _ [] H rfl ⟨rfl, rfl, True.intro⟩ rfl
                  · refine s_p rfl (yF (y_eql rfl rfl) c_36) ?_
                    refine s_p rfl (y_move rfl) ?_
                    refine s_skip rfl ?_
                    refine s_skip rfl ?_
                    refine s_p rfl (y_pick rfl rfl) ?_
                    refine s_p rfl (y_pick rfl rfl) ?_
                    refine s_nil (q_then ?_)
                    refine c_f rfl rfl ?_
                    refine c_skip ?_
                    exact hJx () _ _ _ _ [] H rfl ⟨rfl, rfl, True.intro⟩ rfl
  · clear H
    intro Jx_1 hJx_1 H
    refine c_seq ?_
    refine c_region ?_
    refine s_p rfl (y_move rfl) ?_
    replace H := ite_e H
    rcases H with ⟨c_38, H⟩ | ⟨c_38, H⟩
    · refine s_p rfl (yT (y_geq rfl rfl) c_38) ?_
      refine s_nil (q_then ?_)
      refine c_t rfl rfl ?_
      refine c_seq ?_
      refine c_region ?_
      refine s_p rfl (y_assign rfl) ?_
      refine s_nil (q_then ?_)
      refine c_ret (q_then_ret ?_)
      exact q_ret Tryd.results7 (rv_tmp rfl rv_nil) ⟨_, rfl, H⟩
    · refine s_p rfl (yF (y_geq rfl rfl) c_38) ?_
      refine s_nil (q_then ?_)
      refine c_f rfl rfl ?_
      refine c_skip ?_
      exact hJx_1 () _ _ _ _ [] H rfl ⟨rfl, rfl, rfl, rfl, rfl, True.intro⟩ rfl
def b_text_Show (S : Mem) (o : List Value) (Q : ByteArray → Mem → Prop) : Prop :=
  o.length = 5 ∧
  jn (fun (Sx : Mem) =>
      gI (nthL o 0) .u8 fun t =>
      0 ≤ t ∧ t < 23 ∧
      gS (Sx.cell 0 (0 + t.toNat * 1)) fun t_1 =>
      jn (fun (s : ByteArray) (Sx_1 : Mem) =>
          Q s Sx_1) fun Jx =>
      gI (nthL o 0) .u8 fun t_2 =>
      text_parts Sx t_2 fun t_3 Sx_2 =>
      lp (fun Xx (z : ByteArray × List Value) (Sx_3 : Mem) =>
          match z with
          | (s_1, v) =>
            v.length = 2 ∧
            gS (nthL v 0) fun s_2 =>
            gI (nthL v 1) .i64 fun p =>
            if Int.toNat p < ByteArray.size s_2 then
              if ((Utf8.decode s_2 (Int.toNat p)).1 : Int) = 97 then
                gI (nthL o 1) .u8 fun t_4 =>
                strconv_Itoa Sx_3 (IntKind.i64.wrap t_4) fun t_5 Sx_4 =>
                ByteArray.size (⟨#[32, 114]⟩) + ByteArray.size t_5 ≤ 9223372036854775807 ∧
                ByteArray.size s_1 + ByteArray.size ((⟨#[32, 114]⟩) ++ t_5) ≤ 9223372036854775807 ∧
                Xx (s_1 ++ ((⟨#[32, 114]⟩) ++ t_5), [.string s_2, .int .i64 ((Int.toNat p + (Utf8.decode s_2 (Int.toNat p)).2 : Nat) : Int)]) Sx_4
              else
              if ((Utf8.decode s_2 (Int.toNat p)).1 : Int) = 98 then
                gI (nthL o 2) .u8 fun t_6 =>
                strconv_Itoa Sx_3 (IntKind.i64.wrap t_6) fun t_7 Sx_5 =>
                ByteArray.size (⟨#[32, 114]⟩) + ByteArray.size t_7 ≤ 9223372036854775807 ∧
                ByteArray.size s_1 + ByteArray.size ((⟨#[32, 114]⟩) ++ t_7) ≤ 9223372036854775807 ∧
                Xx (s_1 ++ ((⟨#[32, 114]⟩) ++ t_7), [.string s_2, .int .i64 ((Int.toNat p + (Utf8.decode s_2 (Int.toNat p)).2 : Nat) : Int)]) Sx_5
              else
              if ((Utf8.decode s_2 (Int.toNat p)).1 : Int) = 99 then
                gI (nthL o 3) .u8 fun t_8 =>
                strconv_Itoa Sx_3 (IntKind.i64.wrap t_8) fun t_9 Sx_6 =>
                ByteArray.size (⟨#[32, 114]⟩) + ByteArray.size t_9 ≤ 9223372036854775807 ∧
                ByteArray.size s_1 + ByteArray.size ((⟨#[32, 114]⟩) ++ t_9) ≤ 9223372036854775807 ∧
                Xx (s_1 ++ ((⟨#[32, 114]⟩) ++ t_9), [.string s_2, .int .i64 ((Int.toNat p + (Utf8.decode s_2 (Int.toNat p)).2 : Nat) : Int)]) Sx_6
              else
              gI (nthL o 4) .i16 fun t_10 =>
              strconv_Itoa Sx_3 (IntKind.i64.wrap t_10) fun t_11 Sx_7 =>
              ByteArray.size (⟨#[32]⟩) + ByteArray.size t_11 ≤ 9223372036854775807 ∧
              ByteArray.size s_1 + ByteArray.size ((⟨#[32]⟩) ++ t_11) ≤ 9223372036854775807 ∧
              Xx (s_1 ++ ((⟨#[32]⟩) ++ t_11), [.string s_2, .int .i64 ((Int.toNat p + (Utf8.decode s_2 (Int.toNat p)).2 : Nat) : Int)]) Sx_7
            else
            Jx s_1 Sx_3) (t_1, [.string t_3, .int .i64 0]) Sx_2) fun Jx_1 =>
  code_Right S o fun t_12 Sx_8 =>
  if t_12 = true then
    Jx_1 Sx_8
  else
  Q (⟨#[]⟩) Sx_8
theorem t_text_Show {S : Mem} {o : List Value} {Q : ByteArray → Mem → Prop} (H : b_text_Show S o Q) : text_Show S o Q := by
  unfold b_text_Show at H
  refine Tr.intro Tryd.func8 rfl Tryd.ntmps8 rfl fun w0 => ?_
  obtain ⟨ho, H⟩ := H
  refine c_seq ?_
  refine c_region ?_
  refine s_box rfl rfl rfl fun b => ?_
  refine s_p rfl (y_assign rfl) ?_
  refine s_nil (q_then ?_)
  refine c_join2 H (fun (J : Mem → Prop) (z : Unit) S => J S) (fun z => ⟨56, [(1, .pointer (some ⟨b, 0, none⟩))]⟩) (fun z => [⟨b, 24, o⟩]) ?_ ?_
  · clear H
    rintro _ Sx H
    refine c_seq ?_
    refine c_region ?_
    refine s_p rfl (y_fa rfl rfl) ?_
    obtain ⟨t, ht, H⟩ := H
    refine s_v rfl (y_ld rfl) (hc_V 0 rfl ht) ?_
    obtain ⟨c, c_1, H⟩ := H
    refine s_p rfl (y_ixA rfl rfl c c_1 rfl) ?_
    obtain ⟨t_1, ht_1, H⟩ := H
    refine s_v rfl (y_ld rfl) (hc_S ht_1) ?_
    refine s_p rfl (y_assign rfl) ?_
    refine s_nil (q_then ?_)
    refine c_join2 H (fun (J : ByteArray → Mem → Prop) (z : ByteArray) S => J z S) (fun z => ⟨56, [(3, .string z)]⟩) (fun z => []) ?_ ?_
    · clear H
      rintro s Sx_1 H
      refine c_seq ?_
      refine c_region ?_
      refine s_p rfl (y_move rfl) ?_
      refine s_p rfl (y_assign rfl) ?_
      refine s_nil (q_then ?_)
      refine c_ret ?_
      exact q_ret Tryd.results8 (rv_tmp rfl rv_nil) ⟨_, rfl, H⟩
    · clear H
      intro Jx hJx H
      refine c_seq ?_
      refine c_region ?_
      refine s_p rfl (y_fa rfl rfl) ?_
      obtain ⟨t_2, ht_2, H⟩ := H
      refine s_v rfl (y_ld rfl) (hc_V 0 rfl ht_2) ?_
      refine s_call rfl rfl H fun rv Sx_2 H2 => ?_
      clear H
      obtain ⟨t_3, rfl, H⟩ := H2
      refine s_range rfl rfl fun b_1 => ?_
      refine s_nil (q_then ?_)
      refine c_block ?_
      refine c_loop (fun z => ⟨56, [(1, .pointer (some ⟨b, 0, none⟩)), (3, .string z.1), (16, .pointer (some ⟨b_1, 0, none⟩))]⟩) (fun z => [⟨b, 24, o⟩, ⟨b_1, itT, z.2⟩]) (t_1, [.string t_3, .int .i64 0]) (idx := [0, 0]) H rfl ⟨rfl, rfl, rfl, True.intro⟩ rfl ?_
      clear H
      rintro Xx hXx ⟨s_1, v⟩ Sx_3 H
      obtain ⟨hv, H⟩ := H
      refine c_seq ?_
      refine c_region ?_
      obtain ⟨s_2, hs_2, H⟩ := H
      obtain ⟨p, hp, H⟩ := H
      replace H := ite_e H
      rcases H with ⟨c_2, H⟩ | ⟨c_2, H⟩
      · refine s_nextT 1 rfl rfl rfl hs_2 hp c_2 ?_
        refine s_p rfl (y_extract rfl rfl) ?_
        refine s_nil (q_then ?_)
        refine c_seq ?_
        refine c_t rfl rfl ?_
        refine c_skip (q_then ?_)
        refine c_block ?_
        refine c_seq ?_
        refine c_region ?_
        refine s_p rfl (y_extract rfl rfl) ?_
        refine s_p rfl (y_assign rfl) ?_
        refine s_nil (q_then ?_)
        refine c_seq ?_
        refine c_region ?_
        refine s_p rfl (y_move rfl) ?_
        refine s_nil (q_then ?_)
        refine c_block ?_
        refine c_seq ?_
        refine c_region ?_
        replace H := ite_e H
        rcases H with ⟨c_3, H⟩ | ⟨c_3, H⟩
        · refine s_p rfl (yT (y_eql rfl rfl) c_3) ?_
          refine s_p rfl (y_assign rfl) ?_
          refine s_nil (q_then ?_)
          refine c_t rfl rfl ?_
          refine c_region ?_
          refine s_p rfl (y_move rfl) ?_
          refine s_p rfl (y_fa rfl rfl) ?_
          obtain ⟨t_4, ht_4, H⟩ := H
          refine s_v rfl (y_ld rfl) (hc_V 0 rfl ht_4) ?_
          refine s_p rfl (y_conv ⟨_, Tryd.underlying5⟩ rfl) ?_
          refine s_call rfl rfl H fun rv Sx_4 H2 => ?_
          clear H
          obtain ⟨t_5, rfl, H⟩ := H2
          obtain ⟨c_4, H⟩ := H
          refine s_p rfl (y_addS rfl rfl c_4) ?_
          obtain ⟨c_5, H⟩ := H
          refine s_p rfl (y_addS rfl rfl c_5) ?_
          refine s_p rfl (y_assign rfl) ?_
          refine s_nil (q_blk (q_blk ?_))
          exact hXx (s_1 ++ ((⟨#[32, 114]⟩) ++ t_5), [.string s_2, .int .i64 ((Int.toNat p + (Utf8.decode s_2 (Int.toNat p)).2 : Nat) : Int)]) _ _ _ _ [0, 0] H rfl ⟨rfl, rfl, rfl, True.intro⟩ rfl
        · refine s_p rfl (yF (y_eql rfl rfl) c_3) ?_
          refine s_p rfl (y_assign rfl) ?_
          refine s_nil (q_then ?_)
          refine c_f rfl rfl ?_
          refine c_seq ?_
          refine c_region ?_
          replace H := ite_e H
          rcases H with ⟨c_6, H⟩ | ⟨c_6, H⟩
          · refine s_p rfl (yT (y_eql rfl rfl) c_6) ?_
            refine s_p rfl (y_assign rfl) ?_
            refine s_nil (q_then ?_)
            refine c_t rfl rfl ?_
            refine c_region ?_
            refine s_p rfl (y_move rfl) ?_
            refine s_p rfl (y_fa rfl rfl) ?_
            obtain ⟨t_6, ht_6, H⟩ := H
            refine s_v rfl (y_ld rfl) (hc_V 0 rfl ht_6) ?_
            refine s_p rfl (y_conv ⟨_, Tryd.underlying5⟩ rfl) ?_
            refine s_call rfl rfl H fun rv Sx_5 H2 => ?_
            clear H
            obtain ⟨t_7, rfl, H⟩ := H2
            obtain ⟨c_7, H⟩ := H
            refine s_p rfl (y_addS rfl rfl c_7) ?_
            obtain ⟨c_8, H⟩ := H
            refine s_p rfl (y_addS rfl rfl c_8) ?_
            refine s_p rfl (y_assign rfl) ?_
            refine s_nil (q_blk (q_blk ?_))
            exact hXx (s_1 ++ ((⟨#[32, 114]⟩) ++ t_7), [.string s_2, .int .i64 ((Int.toNat p + (Utf8.decode s_2 (Int.toNat p)).2 : Nat) : Int)]) _ _ _ _ [0, 0] H rfl ⟨rfl, rfl, rfl, True.intro⟩ rfl
          · refine s_p rfl (yF (y_eql rfl rfl) c_6) ?_
            refine s_p rfl (y_assign rfl) ?_
            refine s_nil (q_then ?_)
            refine c_f rfl rfl ?_
            refine c_seq ?_
            refine c_region ?_
            replace H := ite_e H
            rcases H with ⟨c_9, H⟩ | ⟨c_9, H⟩
            · refine s_p rfl (yT (y_eql rfl rfl) c_9) ?_
              refine s_p rfl (y_assign rfl) ?_
              refine s_nil (q_then ?_)
              refine c_t rfl rfl ?_
              refine c_region ?_
              refine s_p rfl (y_move rfl) ?_
              refine s_p rfl (y_fa rfl rfl) ?_
              obtain ⟨t_8, ht_8, H⟩ := H
              refine s_v rfl (y_ld rfl) (hc_V 0 rfl ht_8) ?_
              refine s_p rfl (y_conv ⟨_, Tryd.underlying5⟩ rfl) ?_
              refine s_call rfl rfl H fun rv Sx_6 H2 => ?_
              clear H
              obtain ⟨t_9, rfl, H⟩ := H2
              obtain ⟨c_10, H⟩ := H
              refine s_p rfl (y_addS rfl rfl c_10) ?_
              obtain ⟨c_11, H⟩ := H
              refine s_p rfl (y_addS rfl rfl c_11) ?_
              refine s_p rfl (y_assign rfl) ?_
              refine s_nil (q_blk (q_blk ?_))
              exact hXx (s_1 ++ ((⟨#[32, 114]⟩) ++ t_9), [.string s_2, .int .i64 ((Int.toNat p + (Utf8.decode s_2 (Int.toNat p)).2 : Nat) : Int)]) _ _ _ _ [0, 0] H rfl ⟨rfl, rfl, rfl, True.intro⟩ rfl
            · refine s_p rfl (yF (y_eql rfl rfl) c_9) ?_
              refine s_p rfl (y_assign rfl) ?_
              refine s_nil (q_then ?_)
              refine c_f rfl rfl ?_
              refine c_region ?_
              refine s_p rfl (y_move rfl) ?_
              refine s_p rfl (y_fa rfl rfl) ?_
              obtain ⟨t_10, ht_10, H⟩ := H
              refine s_v rfl (y_ld rfl) (hc_V 0 rfl ht_10) ?_
              refine s_p rfl (y_conv ⟨_, Tryd.underlying22⟩ rfl) ?_
              refine s_call rfl rfl H fun rv Sx_7 H2 => ?_
              clear H
              obtain ⟨t_11, rfl, H⟩ := H2
              obtain ⟨c_12, H⟩ := H
              refine s_p rfl (y_addS rfl rfl c_12) ?_
              obtain ⟨c_13, H⟩ := H
              refine s_p rfl (y_addS rfl rfl c_13) ?_
              refine s_p rfl (y_assign rfl) ?_
              refine s_nil (q_blk (q_blk ?_))
              exact hXx (s_1 ++ ((⟨#[32]⟩) ++ t_11), [.string s_2, .int .i64 ((Int.toNat p + (Utf8.decode s_2 (Int.toNat p)).2 : Nat) : Int)]) _ _ _ _ [0, 0] H rfl ⟨rfl, rfl, rfl, True.intro⟩ rfl
      · refine s_nextE 1 rfl rfl rfl hs_2 hp c_2 ?_
        refine s_p rfl (y_extract rfl rfl) ?_
        refine s_nil (q_then ?_)
        refine c_seq ?_
        refine c_f rfl rfl ?_
        refine c_exit (q_then_exit (q_then_exit (q_blk_out ?_)))
        exact hJx s_1 _ _ _ _ [] H rfl ⟨rfl, True.intro⟩ rfl
  · clear H
    intro Jx_1 hJx_1 H
    refine c_seq ?_
    refine c_region ?_
    refine s_v rfl (y_ldA rfl ho) (hc_VP (k := 5) 0 rfl (lpart_all ho)) ?_
    refine s_call rfl rfl H fun rv Sx_8 H2 => ?_
    clear H
    obtain ⟨t_12, rfl, H⟩ := H2
    replace H := ib_e H
    rcases H with ⟨rfl, H⟩ | ⟨rfl, H⟩
    · skip
      refine s_p rfl (yB (y_not rfl) rfl) ?_
      refine s_nil (q_then ?_)
      refine c_f rfl rfl ?_
      refine c_skip ?_
      exact hJx_1 () _ _ _ _ [0] H rfl ⟨rfl, True.intro⟩ rfl
    · skip
      refine s_p rfl (yB (y_not rfl) rfl) ?_
      refine s_nil (q_then ?_)
      refine c_t rfl rfl ?_
      refine c_seq ?_
      refine c_region ?_
      refine s_p rfl (y_assign rfl) ?_
      refine s_nil (q_then ?_)
      refine c_ret (q_then_ret ?_)
      exact q_ret Tryd.results8 (rv_tmp rfl rv_nil) ⟨_, rfl, H⟩
def b_hermitcrablaw03_near (S : Mem) (o : List Value) (Q : List Value → Mem → Prop) : Prop :=
  o.length = 5 ∧
  gI (nthL o 0) .u8 fun t =>
  gI (nthL (spl o 0 ([.int .u8 (Int.tmod t 23)])) 0) .u8 fun t_1 =>
  hermitcrabref01_Fields S t_1 fun t_2 Sx =>
  gI (nthL (spl o 0 ([.int .u8 (Int.tmod t 23)])) 1) .u8 fun t_3 =>
  gI (nthL (spl (spl o 0 ([.int .u8 (Int.tmod t 23)])) 1 ([.int .u8 (IntKind.u8.wrap ((Int.tmod t_3 16) * (IntKind.u8.wrap (Int.tmod t_2 2))))])) 2) .u8 fun t_4 =>
  gI (nthL (spl (spl (spl o 0 ([.int .u8 (Int.tmod t 23)])) 1 ([.int .u8 (IntKind.u8.wrap ((Int.tmod t_3 16) * (IntKind.u8.wrap (Int.tmod t_2 2))))])) 2 ([.int .u8 (IntKind.u8.wrap ((Int.tmod t_4 16) * (IntKind.u8.wrap (Int.tmod (IntKind.i64.wrap (Int.tdiv t_2 2)) 2))))])) 3) .u8 fun t_5 =>
  jn (fun (o_1 : List Value) (Sx_1 : Mem) =>
      o_1.length = 5 ∧
      gI (nthL o_1 0) .u8 fun t_6 =>
      if t_6 = 18 then
        gI (nthL o_1 4) .i16 fun t_7 =>
        (spl o_1 4 ([.int .i16 (IntKind.i16.wrap (Int.tmod (IntKind.u16.wrap t_7) 9))])).all (·.oneCell') = true ∧
        Q (spl o_1 4 ([.int .i16 (IntKind.i16.wrap (Int.tmod (IntKind.u16.wrap t_7) 9))])) Sx_1
      else
      gI (nthL o_1 0) .u8 fun t_8 =>
      if t_8 = 19 then
        gI (nthL o_1 4) .i16 fun t_9 =>
        (spl o_1 4 ([.int .i16 (IntKind.i16.wrap (Int.tmod (IntKind.u16.wrap t_9) 9))])).all (·.oneCell') = true ∧
        Q (spl o_1 4 ([.int .i16 (IntKind.i16.wrap (Int.tmod (IntKind.u16.wrap t_9) 9))])) Sx_1
      else
      o_1.all (·.oneCell') = true ∧
      Q o_1 Sx_1) fun Jx =>
  if IntKind.i64.wrap (Int.tdiv t_2 8) = 0 then
    Jx (spl (spl (spl (spl (spl o 0 ([.int .u8 (Int.tmod t 23)])) 1 ([.int .u8 (IntKind.u8.wrap ((Int.tmod t_3 16) * (IntKind.u8.wrap (Int.tmod t_2 2))))])) 2 ([.int .u8 (IntKind.u8.wrap ((Int.tmod t_4 16) * (IntKind.u8.wrap (Int.tmod (IntKind.i64.wrap (Int.tdiv t_2 2)) 2))))])) 3 ([.int .u8 (IntKind.u8.wrap ((Int.tmod t_5 16) * (IntKind.u8.wrap (Int.tmod (IntKind.i64.wrap (Int.tdiv t_2 4)) 2))))])) 4 ([.int .i16 0])) Sx
  else
  Jx (spl (spl (spl (spl o 0 ([.int .u8 (Int.tmod t 23)])) 1 ([.int .u8 (IntKind.u8.wrap ((Int.tmod t_3 16) * (IntKind.u8.wrap (Int.tmod t_2 2))))])) 2 ([.int .u8 (IntKind.u8.wrap ((Int.tmod t_4 16) * (IntKind.u8.wrap (Int.tmod (IntKind.i64.wrap (Int.tdiv t_2 2)) 2))))])) 3 ([.int .u8 (IntKind.u8.wrap ((Int.tmod t_5 16) * (IntKind.u8.wrap (Int.tmod (IntKind.i64.wrap (Int.tdiv t_2 4)) 2))))])) Sx
theorem t_hermitcrablaw03_near {S : Mem} {o : List Value} {Q : List Value → Mem → Prop} (H : b_hermitcrablaw03_near S o Q) : hermitcrablaw03_near S o Q := by
  unfold b_hermitcrablaw03_near at H
  refine Tr.intro Tryd.func9 rfl Tryd.ntmps9 rfl fun w0 => ?_
  obtain ⟨ho, H⟩ := H
  refine c_seq ?_
  refine c_region ?_
  refine s_box rfl rfl rfl fun b => ?_
  refine s_alloc rfl fun b_1 => ?_
  refine s_nil (q_then ?_)
  refine c_seq ?_
  refine c_region ?_
  refine s_p rfl (y_fa rfl rfl) ?_
  obtain ⟨t, ht, H⟩ := H
  refine s_v rfl (y_ld rfl) (hc_V 0 rfl ht) ?_
  refine s_p rfl (y_rem rfl rfl (by decide)) ?_
  refine s_p rfl (y_fa rfl rfl) ?_
  refine s_stV (sz := 1) (vs := [.int .u8 (Int.tmod t 23)]) 0 rfl rfl rfl rfl rfl rfl (fit_of ho (by omega)) rfl ?_
  refine s_nil (q_then ?_)
  refine c_seq ?_
  refine c_region ?_
  refine s_p rfl (y_fa rfl rfl) ?_
  obtain ⟨t_1, ht_1, H⟩ := H
  refine s_v rfl (y_ld rfl) (hc_V 0 rfl ht_1) ?_
  refine s_call rfl rfl H fun rv Sx H2 => ?_
  clear H
  obtain ⟨t_2, rfl, H⟩ := H2
  refine s_p rfl (y_assign rfl) ?_
  refine s_nil (q_then ?_)
  refine c_seq ?_
  refine c_region ?_
  refine s_p rfl (y_fa rfl rfl) ?_
  obtain ⟨t_3, ht_3, H⟩ := H
  refine s_v rfl (y_ld rfl) (hc_V 0 rfl ht_3) ?_
  refine s_p rfl (y_rem rfl rfl (by decide)) ?_
  refine s_p rfl (y_move rfl) ?_
  refine s_p rfl (y_rem rfl rfl (by decide)) ?_
  refine s_p rfl (y_conv ⟨_, Tryd.underlying3⟩ rfl) ?_
  refine s_p rfl (y_mul rfl rfl) ?_
  refine s_p rfl (y_fa rfl rfl) ?_
  refine s_stV (sz := 1) (vs := [.int .u8 (IntKind.u8.wrap ((Int.tmod t_3 16) * (IntKind.u8.wrap (Int.tmod t_2 2))))]) 0 rfl rfl rfl rfl rfl rfl (fit_of (spl_ln ho (by have := True.intro; simp only [List.length_cons, List.length_nil]; omega)) (by omega)) rfl ?_
  refine s_nil (q_then ?_)
  refine c_seq ?_
  refine c_region ?_
  refine s_p rfl (y_fa rfl rfl) ?_
  obtain ⟨t_4, ht_4, H⟩ := H
  refine s_v rfl (y_ld rfl) (hc_V 0 rfl ht_4) ?_
  refine s_p rfl (y_rem rfl rfl (by decide)) ?_
  refine s_p rfl (y_move rfl) ?_
  refine s_p rfl (y_quo rfl rfl (by decide)) ?_
  refine s_p rfl (y_rem rfl rfl (by decide)) ?_
  refine s_p rfl (y_conv ⟨_, Tryd.underlying3⟩ rfl) ?_
  refine s_p rfl (y_mul rfl rfl) ?_
  refine s_p rfl (y_fa rfl rfl) ?_
  refine s_stV (sz := 1) (vs := [.int .u8 (IntKind.u8.wrap ((Int.tmod t_4 16) * (IntKind.u8.wrap (Int.tmod (IntKind.i64.wrap (Int.tdiv t_2 2)) 2))))]) 0 rfl rfl rfl rfl rfl rfl (fit_of (spl_ln (spl_ln ho (by have := True.intro; simp only [List.length_cons, List.length_nil]; omega)) (by have := True.intro; simp only [List.length_cons, List.length_nil]; omega)) (by omega)) rfl ?_
  refine s_nil (q_then ?_)
  refine c_seq ?_
  refine c_region ?_
  refine s_p rfl (y_fa rfl rfl) ?_
  obtain ⟨t_5, ht_5, H⟩ := H
  refine s_v rfl (y_ld rfl) (hc_V 0 rfl ht_5) ?_
  refine s_p rfl (y_rem rfl rfl (by decide)) ?_
  refine s_p rfl (y_move rfl) ?_
  refine s_p rfl (y_quo rfl rfl (by decide)) ?_
  refine s_p rfl (y_rem rfl rfl (by decide)) ?_
  refine s_p rfl (y_conv ⟨_, Tryd.underlying3⟩ rfl) ?_
  refine s_p rfl (y_mul rfl rfl) ?_
  refine s_p rfl (y_fa rfl rfl) ?_
  refine s_stV (sz := 1) (vs := [.int .u8 (IntKind.u8.wrap ((Int.tmod t_5 16) * (IntKind.u8.wrap (Int.tmod (IntKind.i64.wrap (Int.tdiv t_2 4)) 2))))]) 0 rfl rfl rfl rfl rfl rfl (fit_of (spl_ln (spl_ln (spl_ln ho (by have := True.intro; simp only [List.length_cons, List.length_nil]; omega)) (by have := True.intro; simp only [List.length_cons, List.length_nil]; omega)) (by have := True.intro; simp only [List.length_cons, List.length_nil]; omega)) (by omega)) rfl ?_
  refine s_nil (q_then ?_)
  refine c_join2 H (fun (J : List Value → Mem → Prop) (z : List Value) S => J z S) (fun z => ⟨56, [(1, .pointer (some ⟨b, 0, none⟩)), (2, .pointer (some ⟨b_1, 0, none⟩))]⟩) (fun z => [⟨b, 24, z⟩, ⟨b_1, 24, [.int .u8 0, .int .u8 0, .int .u8 0, .int .u8 0, .int .i16 0]⟩]) ?_ ?_
  · clear H
    rintro o_1 Sx_1 H
    obtain ⟨ho_1, H⟩ := H
    refine c_seq ?_
    refine c_seq ?_
    refine c_region ?_
    refine s_p rfl (y_fa rfl rfl) ?_
    obtain ⟨t_6, ht_6, H⟩ := H
    refine s_v rfl (y_ld rfl) (hc_V 0 rfl ht_6) ?_
    replace H := ite_e H
    rcases H with ⟨c, H⟩ | ⟨c, H⟩
    · refine s_p rfl (yT (y_eql rfl rfl) c) ?_
      refine s_p rfl (y_move rfl) ?_
      refine s_skip rfl ?_
      refine s_skip rfl ?_
      refine s_skip rfl ?_
      refine s_p rfl (y_pick rfl rfl) ?_
      refine s_nil (q_then ?_)
      refine c_t rfl rfl ?_
      refine c_region ?_
      refine s_p rfl (y_fa rfl rfl) ?_
      obtain ⟨t_7, ht_7, H⟩ := H
      refine s_v rfl (y_ld rfl) (hc_V 0 rfl ht_7) ?_
      refine s_p rfl (y_conv ⟨_, Tryd.underlying22⟩ rfl) ?_
      refine s_p rfl (y_rem rfl rfl (by decide)) ?_
      refine s_p rfl (y_conv ⟨_, Tryd.underlying52⟩ rfl) ?_
      refine s_p rfl (y_fa rfl rfl) ?_
      refine s_stV (sz := 1) (vs := [.int .i16 (IntKind.i16.wrap (Int.tmod (IntKind.u16.wrap t_7) 9))]) 0 rfl rfl rfl rfl rfl rfl (fit_of ho_1 (by omega)) rfl ?_
      refine s_nil (q_then ?_)
      refine c_seq ?_
      refine c_region ?_
      refine s_v rfl (y_ldA rfl (spl_ln ho_1 (by have := True.intro; simp only [List.length_cons, List.length_nil]; omega))) (hc_VP (k := 5) 0 rfl (lpart_all (spl_ln ho_1 (by have := True.intro; simp only [List.length_cons, List.length_nil]; omega)))) ?_
      obtain ⟨c_1, H⟩ := H
      refine s_stV_all 1 rfl rfl rfl rfl rfl (spl_ln ho_1 (by have := True.intro; simp only [List.length_cons, List.length_nil]; omega)) rfl c_1 ?_
      refine s_nil (q_then ?_)
      refine c_ret ?_
      exact q_ret Tryd.results9 (rv_cellA rfl (hc_VP (k := 5) 1 rfl (lpart_all (spl_ln ho_1 (by have := True.intro; simp only [List.length_cons, List.length_nil]; omega)))) (spl_ln ho_1 (by have := True.intro; simp only [List.length_cons, List.length_nil]; omega)) rv_nil) ⟨_, rfl, spl_ln ho_1 (by have := True.intro; simp only [List.length_cons, List.length_nil]; omega), H⟩
    · refine s_p rfl (yF (y_eql rfl rfl) c) ?_
      refine s_p rfl (y_move rfl) ?_
      refine s_p rfl (y_fa rfl rfl) ?_
      obtain ⟨t_8, ht_8, H⟩ := H
      refine s_v rfl (y_ld rfl) (hc_V 0 rfl ht_8) ?_
      replace H := ite_e H
      rcases H with ⟨c_2, H⟩ | ⟨c_2, H⟩
      · refine s_p rfl (yT (y_eql rfl rfl) c_2) ?_
        refine s_p rfl (y_pick rfl rfl) ?_
        refine s_nil (q_then ?_)
        refine c_t rfl rfl ?_
        refine c_region ?_
        refine s_p rfl (y_fa rfl rfl) ?_
        obtain ⟨t_9, ht_9, H⟩ := H
        refine s_v rfl (y_ld rfl) (hc_V 0 rfl ht_9) ?_
        refine s_p rfl (y_conv ⟨_, Tryd.underlying22⟩ rfl) ?_
        refine s_p rfl (y_rem rfl rfl (by decide)) ?_
        refine s_p rfl (y_conv ⟨_, Tryd.underlying52⟩ rfl) ?_
        refine s_p rfl (y_fa rfl rfl) ?_
        refine s_stV (sz := 1) (vs := [.int .i16 (IntKind.i16.wrap (Int.tmod (IntKind.u16.wrap t_9) 9))]) 0 rfl rfl rfl rfl rfl rfl (fit_of ho_1 (by omega)) rfl ?_
        refine s_nil (q_then ?_)
        refine c_seq ?_
        refine c_region ?_
        refine s_v rfl (y_ldA rfl (spl_ln ho_1 (by have := True.intro; simp only [List.length_cons, List.length_nil]; omega))) (hc_VP (k := 5) 0 rfl (lpart_all (spl_ln ho_1 (by have := True.intro; simp only [List.length_cons, List.length_nil]; omega)))) ?_
        obtain ⟨c_3, H⟩ := H
        refine s_stV_all 1 rfl rfl rfl rfl rfl (spl_ln ho_1 (by have := True.intro; simp only [List.length_cons, List.length_nil]; omega)) rfl c_3 ?_
        refine s_nil (q_then ?_)
        refine c_ret ?_
        exact q_ret Tryd.results9 (rv_cellA rfl (hc_VP (k := 5) 1 rfl (lpart_all (spl_ln ho_1 (by have := True.intro; simp only [List.length_cons, List.length_nil]; omega)))) (spl_ln ho_1 (by have := True.intro; simp only [List.length_cons, List.length_nil]; omega)) rv_nil) ⟨_, rfl, spl_ln ho_1 (by have := True.intro; simp only [List.length_cons, List.length_nil]; omega), H⟩
      · refine s_p rfl (yF (y_eql rfl rfl) c_2) ?_
        refine s_p rfl (y_pick rfl rfl) ?_
        refine s_nil (q_then ?_)
        refine c_f rfl rfl ?_
        refine c_skip (q_then ?_)
        refine c_seq ?_
        refine c_region ?_
        refine s_v rfl (y_ldA rfl ho_1) (hc_VP (k := 5) 0 rfl (lpart_all ho_1)) ?_
        obtain ⟨c_4, H⟩ := H
        refine s_stV_all 1 rfl rfl rfl rfl rfl ho_1 rfl c_4 ?_
        refine s_nil (q_then ?_)
        refine c_ret ?_
        exact q_ret Tryd.results9 (rv_cellA rfl (hc_VP (k := 5) 1 rfl (lpart_all ho_1)) ho_1 rv_nil) ⟨_, rfl, ho_1, H⟩
  · clear H
    intro Jx hJx H
    refine c_seq ?_
    refine c_region ?_
    refine s_p rfl (y_move rfl) ?_
    refine s_p rfl (y_quo rfl rfl (by decide)) ?_
    replace H := ite_e H
    rcases H with ⟨c_5, H⟩ | ⟨c_5, H⟩
    · refine s_p rfl (yT (y_eql rfl rfl) c_5) ?_
      refine s_nil (q_then ?_)
      refine c_t rfl rfl ?_
      refine c_region ?_
      refine s_p rfl (y_fa rfl rfl) ?_
      refine s_stV (sz := 1) (vs := [.int .i16 0]) 0 rfl rfl rfl rfl rfl rfl (fit_of (spl_ln (spl_ln (spl_ln (spl_ln ho (by have := True.intro; simp only [List.length_cons, List.length_nil]; omega)) (by have := True.intro; simp only [List.length_cons, List.length_nil]; omega)) (by have := True.intro; simp only [List.length_cons, List.length_nil]; omega)) (by have := True.intro; simp only [List.length_cons, List.length_nil]; omega)) (by omega)) rfl ?_
      refine s_nil ?_
      exact hJx (spl (spl (spl (spl (spl o 0 ([.int .u8 (Int.tmod t 23)])) 1 ([.int .u8 (IntKind.u8.wrap ((Int.tmod t_3 16) * (IntKind.u8.wrap (Int.tmod t_2 2))))])) 2 ([.int .u8 (IntKind.u8.wrap ((Int.tmod t_4 16) * (IntKind.u8.wrap (Int.tmod (IntKind.i64.wrap (Int.tdiv t_2 2)) 2))))])) 3 ([.int .u8 (IntKind.u8.wrap ((Int.tmod t_5 16) * (IntKind.u8.wrap (Int.tmod (IntKind.i64.wrap (Int.tdiv t_2 4)) 2))))])) 4 ([.int .i16 0])) _ _ _ _ [0, 0] H rfl ⟨rfl, rfl, True.intro⟩ rfl
    · refine s_p rfl (yF (y_eql rfl rfl) c_5) ?_
      refine s_nil (q_then ?_)
      refine c_f rfl rfl ?_
      refine c_skip ?_
      exact hJx (spl (spl (spl (spl o 0 ([.int .u8 (Int.tmod t 23)])) 1 ([.int .u8 (IntKind.u8.wrap ((Int.tmod t_3 16) * (IntKind.u8.wrap (Int.tmod t_2 2))))])) 2 ([.int .u8 (IntKind.u8.wrap ((Int.tmod t_4 16) * (IntKind.u8.wrap (Int.tmod (IntKind.i64.wrap (Int.tdiv t_2 2)) 2))))])) 3 ([.int .u8 (IntKind.u8.wrap ((Int.tmod t_5 16) * (IntKind.u8.wrap (Int.tmod (IntKind.i64.wrap (Int.tdiv t_2 4)) 2))))])) _ _ _ _ [0, 0] H rfl ⟨rfl, rfl, True.intro⟩ rfl
def b_hermitcrabref01_Text (S : Mem) (code : Int) (a : Int) (b : Int) (c : Int) (n : Int) (Q : ByteArray → Mem → Prop) : Prop :=
  hermitcrabref01_Name S code fun t Sx =>
  hermitcrabref01_Fields Sx code fun t_1 Sx_1 =>
  jn (fun (s : ByteArray) (Sx_2 : Mem) =>
      jn (fun (s_1 : ByteArray) (Sx_3 : Mem) =>
          jn (fun (s_2 : ByteArray) (Sx_4 : Mem) =>
              if IntKind.i64.wrap (Int.tdiv t_1 8) = 1 then
                hermitcrabref01_Num Sx_4 (IntKind.i64.wrap n) fun t_2 Sx_5 =>
                ByteArray.size (⟨#[32]⟩) + ByteArray.size t_2 ≤ 9223372036854775807 ∧
                ByteArray.size s_2 + ByteArray.size ((⟨#[32]⟩) ++ t_2) ≤ 9223372036854775807 ∧
                Q (s_2 ++ ((⟨#[32]⟩) ++ t_2)) Sx_5
              else
              Q s_2 Sx_4) fun Jx =>
          if Int.tmod (IntKind.i64.wrap (Int.tdiv t_1 4)) 2 = 1 then
            hermitcrabref01_Num Sx_3 (IntKind.i64.wrap c) fun t_3 Sx_6 =>
            ByteArray.size (⟨#[32, 114]⟩) + ByteArray.size t_3 ≤ 9223372036854775807 ∧
            ByteArray.size s_1 + ByteArray.size ((⟨#[32, 114]⟩) ++ t_3) ≤ 9223372036854775807 ∧
            Jx (s_1 ++ ((⟨#[32, 114]⟩) ++ t_3)) Sx_6
          else
          Jx s_1 Sx_3) fun Jx_1 =>
      if Int.tmod (IntKind.i64.wrap (Int.tdiv t_1 2)) 2 = 1 then
        hermitcrabref01_Num Sx_2 (IntKind.i64.wrap b) fun t_4 Sx_7 =>
        ByteArray.size (⟨#[32, 114]⟩) + ByteArray.size t_4 ≤ 9223372036854775807 ∧
        ByteArray.size s + ByteArray.size ((⟨#[32, 114]⟩) ++ t_4) ≤ 9223372036854775807 ∧
        Jx_1 (s ++ ((⟨#[32, 114]⟩) ++ t_4)) Sx_7
      else
      Jx_1 s Sx_2) fun Jx_2 =>
  if Int.tmod t_1 2 = 1 then
    hermitcrabref01_Num Sx_1 (IntKind.i64.wrap a) fun t_5 Sx_8 =>
    ByteArray.size (⟨#[32, 114]⟩) + ByteArray.size t_5 ≤ 9223372036854775807 ∧
    ByteArray.size t + ByteArray.size ((⟨#[32, 114]⟩) ++ t_5) ≤ 9223372036854775807 ∧
    Jx_2 (t ++ ((⟨#[32, 114]⟩) ++ t_5)) Sx_8
  else
  Jx_2 t Sx_1
theorem t_hermitcrabref01_Text {S : Mem} {code : Int} {a : Int} {b : Int} {c : Int} {n : Int} {Q : ByteArray → Mem → Prop} (H : b_hermitcrabref01_Text S code a b c n Q) : hermitcrabref01_Text S code a b c n Q := by
  unfold b_hermitcrabref01_Text at H
  refine Tr.intro Tryd.func12 rfl Tryd.ntmps12 rfl fun w0 => ?_
  refine c_seq ?_
  refine c_region ?_
  refine s_p rfl (y_assign rfl) ?_
  refine s_nil (q_then ?_)
  refine c_seq ?_
  refine c_region ?_
  refine s_p rfl (y_move rfl) ?_
  refine s_call rfl rfl H fun rv Sx H2 => ?_
  clear H
  obtain ⟨t, rfl, H⟩ := H2
  refine s_p rfl (y_assign rfl) ?_
  refine s_nil (q_then ?_)
  refine c_seq ?_
  refine c_region ?_
  refine s_p rfl (y_move rfl) ?_
  refine s_call rfl rfl H fun rv Sx_1 H2 => ?_
  clear H
  obtain ⟨t_1, rfl, H⟩ := H2
  refine s_p rfl (y_assign rfl) ?_
  refine s_nil (q_then ?_)
  refine c_join2 H (fun (J : ByteArray → Mem → Prop) (z : ByteArray) S => J z S) (fun z => ⟨56, [(2, .int .u8 b), (3, .int .u8 c), (4, .int .i16 n), (11, .string z), (12, .int .i64 t_1)]⟩) (fun z => []) ?_ ?_
  · clear H
    rintro s Sx_2 H
    refine c_join2 H (fun (J : ByteArray → Mem → Prop) (z : ByteArray) S => J z S) (fun z => ⟨56, [(3, .int .u8 c), (4, .int .i16 n), (11, .string z), (12, .int .i64 t_1)]⟩) (fun z => []) ?_ ?_
    · clear H
      rintro s_1 Sx_3 H
      refine c_join2 H (fun (J : ByteArray → Mem → Prop) (z : ByteArray) S => J z S) (fun z => ⟨56, [(4, .int .i16 n), (11, .string z), (12, .int .i64 t_1)]⟩) (fun z => []) ?_ ?_
      · clear H
        rintro s_2 Sx_4 H
        refine c_seq ?_
        refine c_seq ?_
        refine c_region ?_
        refine s_p rfl (y_move rfl) ?_
        refine s_p rfl (y_quo rfl rfl (by decide)) ?_
        replace H := ite_e H
        rcases H with ⟨c_1, H⟩ | ⟨c_1, H⟩
        · refine s_p rfl (yT (y_eql rfl rfl) c_1) ?_
          refine s_nil (q_then ?_)
          refine c_t rfl rfl ?_
          refine c_region ?_
          refine s_p rfl (y_move rfl) ?_
          refine s_p rfl (y_move rfl) ?_
          refine s_p rfl (y_conv ⟨_, Tryd.underlying22⟩ rfl) ?_
          refine s_call rfl rfl H fun rv Sx_5 H2 => ?_
          clear H
          obtain ⟨t_2, rfl, H⟩ := H2
          obtain ⟨c_2, H⟩ := H
          refine s_p rfl (y_addS rfl rfl c_2) ?_
          obtain ⟨c_3, H⟩ := H
          refine s_p rfl (y_addS rfl rfl c_3) ?_
          refine s_p rfl (y_assign rfl) ?_
          refine s_nil (q_then ?_)
          refine c_seq ?_
          refine c_region ?_
          refine s_p rfl (y_move rfl) ?_
          refine s_p rfl (y_assign rfl) ?_
          refine s_nil (q_then ?_)
          refine c_ret ?_
          exact q_ret Tryd.results12 (rv_tmp rfl rv_nil) ⟨_, rfl, H⟩
        · refine s_p rfl (yF (y_eql rfl rfl) c_1) ?_
          refine s_nil (q_then ?_)
          refine c_f rfl rfl ?_
          refine c_skip (q_then ?_)
          refine c_seq ?_
          refine c_region ?_
          refine s_p rfl (y_move rfl) ?_
          refine s_p rfl (y_assign rfl) ?_
          refine s_nil (q_then ?_)
          refine c_ret ?_
          exact q_ret Tryd.results12 (rv_tmp rfl rv_nil) ⟨_, rfl, H⟩
      · clear H
        intro Jx hJx H
        refine c_seq ?_
        refine c_region ?_
        refine s_p rfl (y_move rfl) ?_
        refine s_p rfl (y_quo rfl rfl (by decide)) ?_
        refine s_p rfl (y_rem rfl rfl (by decide)) ?_
        replace H := ite_e H
        rcases H with ⟨c_4, H⟩ | ⟨c_4, H⟩
        · refine s_p rfl (yT (y_eql rfl rfl) c_4) ?_
          refine s_nil (q_then ?_)
          refine c_t rfl rfl ?_
          refine c_region ?_
          refine s_p rfl (y_move rfl) ?_
          refine s_p rfl (y_move rfl) ?_
          refine s_p rfl (y_conv ⟨_, Tryd.underlying5⟩ rfl) ?_
          refine s_call rfl rfl H fun rv Sx_6 H2 => ?_
          clear H
          obtain ⟨t_3, rfl, H⟩ := H2
          obtain ⟨c_5, H⟩ := H
          refine s_p rfl (y_addS rfl rfl c_5) ?_
          obtain ⟨c_6, H⟩ := H
          refine s_p rfl (y_addS rfl rfl c_6) ?_
          refine s_p rfl (y_assign rfl) ?_
          refine s_nil ?_
          exact hJx (s_1 ++ ((⟨#[32, 114]⟩) ++ t_3)) _ _ _ _ [] H rfl ⟨rfl, rfl, rfl, True.intro⟩ rfl
        · refine s_p rfl (yF (y_eql rfl rfl) c_4) ?_
          refine s_nil (q_then ?_)
          refine c_f rfl rfl ?_
          refine c_skip ?_
          exact hJx s_1 _ _ _ _ [] H rfl ⟨rfl, rfl, rfl, True.intro⟩ rfl
    · clear H
      intro Jx_1 hJx_1 H
      refine c_seq ?_
      refine c_region ?_
      refine s_p rfl (y_move rfl) ?_
      refine s_p rfl (y_quo rfl rfl (by decide)) ?_
      refine s_p rfl (y_rem rfl rfl (by decide)) ?_
      replace H := ite_e H
      rcases H with ⟨c_7, H⟩ | ⟨c_7, H⟩
      · refine s_p rfl (yT (y_eql rfl rfl) c_7) ?_
        refine s_nil (q_then ?_)
        refine c_t rfl rfl ?_
        refine c_region ?_
        refine s_p rfl (y_move rfl) ?_
        refine s_p rfl (y_move rfl) ?_
        refine s_p rfl (y_conv ⟨_, Tryd.underlying5⟩ rfl) ?_
        refine s_call rfl rfl H fun rv Sx_7 H2 => ?_
        clear H
        obtain ⟨t_4, rfl, H⟩ := H2
        obtain ⟨c_8, H⟩ := H
        refine s_p rfl (y_addS rfl rfl c_8) ?_
        obtain ⟨c_9, H⟩ := H
        refine s_p rfl (y_addS rfl rfl c_9) ?_
        refine s_p rfl (y_assign rfl) ?_
        refine s_nil ?_
        exact hJx_1 (s ++ ((⟨#[32, 114]⟩) ++ t_4)) _ _ _ _ [] H rfl ⟨rfl, rfl, rfl, rfl, True.intro⟩ rfl
      · refine s_p rfl (yF (y_eql rfl rfl) c_7) ?_
        refine s_nil (q_then ?_)
        refine c_f rfl rfl ?_
        refine c_skip ?_
        exact hJx_1 s _ _ _ _ [] H rfl ⟨rfl, rfl, rfl, rfl, True.intro⟩ rfl
  · clear H
    intro Jx_2 hJx_2 H
    refine c_seq ?_
    refine c_region ?_
    refine s_p rfl (y_move rfl) ?_
    refine s_p rfl (y_rem rfl rfl (by decide)) ?_
    replace H := ite_e H
    rcases H with ⟨c_10, H⟩ | ⟨c_10, H⟩
    · refine s_p rfl (yT (y_eql rfl rfl) c_10) ?_
      refine s_nil (q_then ?_)
      refine c_t rfl rfl ?_
      refine c_region ?_
      refine s_p rfl (y_move rfl) ?_
      refine s_p rfl (y_move rfl) ?_
      refine s_p rfl (y_conv ⟨_, Tryd.underlying5⟩ rfl) ?_
      refine s_call rfl rfl H fun rv Sx_8 H2 => ?_
      clear H
      obtain ⟨t_5, rfl, H⟩ := H2
      obtain ⟨c_11, H⟩ := H
      refine s_p rfl (y_addS rfl rfl c_11) ?_
      obtain ⟨c_12, H⟩ := H
      refine s_p rfl (y_addS rfl rfl c_12) ?_
      refine s_p rfl (y_assign rfl) ?_
      refine s_nil ?_
      exact hJx_2 (t ++ ((⟨#[32, 114]⟩) ++ t_5)) _ _ _ _ [] H rfl ⟨rfl, rfl, rfl, rfl, rfl, True.intro⟩ rfl
    · refine s_p rfl (yF (y_eql rfl rfl) c_10) ?_
      refine s_nil (q_then ?_)
      refine c_f rfl rfl ?_
      refine c_skip ?_
      exact hJx_2 t _ _ _ _ [] H rfl ⟨rfl, rfl, rfl, rfl, rfl, True.intro⟩ rfl
def b_code_Decode (S : Mem) (w : Int) (Q : List Value → Bool → Mem → Prop) : Prop :=
  word_Field S (IntKind.u64.wrap w) 26 6 fun t Sx =>
  word_Field Sx (IntKind.u64.wrap w) 22 4 fun t_1 Sx_1 =>
  word_Field Sx_1 (IntKind.u64.wrap w) 18 4 fun t_2 Sx_2 =>
  jn (fun (o : List Value) (Sx_3 : Mem) =>
      o.length = 5 ∧
      code_Encode Sx_3 o fun t_3 t_4 Sx_4 =>
      if t_4 = true then
        if t_3 ≠ w then
          Q ([.int .u8 0, .int .u8 0, .int .u8 0, .int .u8 0, .int .i16 0]) false Sx_4
        else
        o.all (·.oneCell') = true ∧
        Q o true Sx_4
      else
      Q ([.int .u8 0, .int .u8 0, .int .u8 0, .int .u8 0, .int .i16 0]) false Sx_4) fun Jx =>
  code_fields Sx_2 (IntKind.u8.wrap t) fun t_5 Sx_5 =>
  gB (nthL t_5 2) fun t_6 =>
  if t_6 = true then
    word_Field Sx_5 (IntKind.u64.wrap w) 0 4 fun t_7 Sx_6 =>
    Jx ([.int .u8 (IntKind.u8.wrap t), .int .u8 (IntKind.u8.wrap t_1), .int .u8 (IntKind.u8.wrap t_2), .int .u8 (IntKind.u8.wrap t_7), .int .i16 0]) Sx_6
  else
  word_Field Sx_5 (IntKind.u64.wrap w) 0 16 fun t_8 Sx_7 =>
  Jx ([.int .u8 (IntKind.u8.wrap t), .int .u8 (IntKind.u8.wrap t_1), .int .u8 (IntKind.u8.wrap t_2), .int .u8 0, .int .i16 (IntKind.i16.wrap t_8)]) Sx_7
theorem t_code_Decode {S : Mem} {w : Int} {Q : List Value → Bool → Mem → Prop} (H : b_code_Decode S w Q) : code_Decode S w Q := by
  unfold b_code_Decode at H
  refine Tr.intro Tryd.func14 rfl Tryd.ntmps14 rfl fun w0 => ?_
  refine c_seq ?_
  refine c_region ?_
  refine s_alloc rfl fun b => ?_
  refine s_p rfl (y_assign rfl) ?_
  refine s_nil (q_then ?_)
  refine c_seq ?_
  refine c_region ?_
  refine s_p rfl (y_move rfl) ?_
  refine s_p rfl (y_conv ⟨_, Tryd.underlying37⟩ rfl) ?_
  refine s_p rfl (y_assign rfl) ?_
  refine s_nil (q_then ?_)
  refine c_seq ?_
  refine c_region ?_
  refine s_p rfl (y_move rfl) ?_
  refine s_call rfl rfl H fun rv Sx H2 => ?_
  clear H
  obtain ⟨t, rfl, H⟩ := H2
  refine s_p rfl (y_conv ⟨_, Tryd.underlying60⟩ rfl) ?_
  refine s_p rfl (y_move rfl) ?_
  refine s_call rfl rfl H fun rv Sx_1 H2 => ?_
  clear H
  obtain ⟨t_1, rfl, H⟩ := H2
  refine s_p rfl (y_conv ⟨_, Tryd.underlying60⟩ rfl) ?_
  refine s_p rfl (y_move rfl) ?_
  refine s_call rfl rfl H fun rv Sx_2 H2 => ?_
  clear H
  obtain ⟨t_2, rfl, H⟩ := H2
  refine s_p rfl (y_conv ⟨_, Tryd.underlying60⟩ rfl) ?_
  refine s_p rfl (y_build rfl rfl) ?_
  refine s_alloc rfl fun b_1 => ?_
  refine s_stV (sz := 5) (vs := [.int .u8 (IntKind.u8.wrap t), .int .u8 (IntKind.u8.wrap t_1), .int .u8 (IntKind.u8.wrap t_2), .int .u8 0, .int .i16 0]) 1 rfl rfl rfl rfl rfl rfl (Nat.le_of_ble_eq_true rfl) rfl ?_
  refine s_nil (q_then ?_)
  refine c_join2 H (fun (J : List Value → Mem → Prop) (z : List Value) S => J z S) (fun z => ⟨46, [(0, .int .u32 w), (2, .pointer (some ⟨b, 0, none⟩)), (5, .pointer (some ⟨b_1, 0, none⟩))]⟩) (fun z => [⟨b, 24, [.int .u8 0, .int .u8 0, .int .u8 0, .int .u8 0, .int .i16 0]⟩, ⟨b_1, 24, z⟩]) ?_ ?_
  · clear H
    rintro o Sx_3 H
    obtain ⟨ho, H⟩ := H
    refine c_seq ?_
    refine c_region ?_
    refine s_v rfl (y_ldA rfl ho) (hc_VP (k := 5) 1 rfl (lpart_all ho)) ?_
    refine s_call rfl rfl H fun rv Sx_4 H2 => ?_
    clear H
    obtain ⟨t_3, t_4, rfl, H⟩ := H2
    refine s_p rfl (y_move rfl) ?_
    refine s_p rfl (y_extract rfl rfl) ?_
    replace H := ite_e H
    rcases H with ⟨c, H⟩ | ⟨c, H⟩
    · refine s_p rfl (yB (y_extract rfl rfl) c) ?_
      refine s_p rfl (y_assign rfl) ?_
      refine s_p rfl (y_assign rfl) ?_
      refine s_nil (q_then ?_)
      refine c_seq ?_
      refine c_seq ?_
      refine c_region ?_
      refine s_p rfl (y_move rfl) ?_
      refine s_p rfl (yB (y_not rfl) rfl) ?_
      refine s_p rfl (y_move rfl) ?_
      refine s_p rfl (y_move rfl) ?_
      refine s_p rfl (y_move rfl) ?_
      replace H := ite_e H
      rcases H with ⟨c_1, H⟩ | ⟨c_1, H⟩
      · refine s_p rfl (yT (y_neq rfl rfl) c_1) ?_
        refine s_p rfl (y_pick rfl rfl) ?_
        refine s_nil (q_then ?_)
        refine c_t rfl rfl ?_
        refine c_seq ?_
        refine c_region ?_
        refine s_p rfl (y_build rfl rfl) ?_
        refine s_stV (sz := 5) (vs := [.int .u8 0, .int .u8 0, .int .u8 0, .int .u8 0, .int .i16 0]) 0 rfl rfl rfl rfl rfl rfl (Nat.le_of_ble_eq_true rfl) rfl ?_
        refine s_p rfl (y_assign rfl) ?_
        refine s_nil (q_then ?_)
        refine c_ret (q_then_ret ?_)
        exact q_ret Tryd.results14 (rv_cellA rfl (hc_VP (k := 5) 0 rfl rfl) rfl (rv_tmp rfl rv_nil)) ⟨_, _, rfl, rfl, H⟩
      · refine s_p rfl (yF (y_neq rfl rfl) c_1) ?_
        refine s_p rfl (y_pick rfl rfl) ?_
        refine s_nil (q_then ?_)
        refine c_f rfl rfl ?_
        refine c_skip (q_then ?_)
        refine c_seq ?_
        refine c_region ?_
        refine s_v rfl (y_ldA rfl ho) (hc_VP (k := 5) 1 rfl (lpart_all ho)) ?_
        obtain ⟨c_2, H⟩ := H
        refine s_stV_all 0 rfl rfl rfl rfl rfl ho rfl c_2 ?_
        refine s_p rfl (y_assign rfl) ?_
        refine s_nil (q_then ?_)
        refine c_ret ?_
        exact q_ret Tryd.results14 (rv_cellA rfl (hc_VP (k := 5) 0 rfl (lpart_all ho)) ho (rv_tmp rfl rv_nil)) ⟨_, _, rfl, ho, H⟩
    · refine s_p rfl (yB (y_extract rfl rfl) (bf_of c)) ?_
      refine s_p rfl (y_assign rfl) ?_
      refine s_p rfl (y_assign rfl) ?_
      refine s_nil (q_then ?_)
      refine c_seq ?_
      refine c_seq ?_
      refine c_region ?_
      refine s_p rfl (y_move rfl) ?_
      refine s_p rfl (yB (y_not rfl) rfl) ?_
      refine s_p rfl (y_move rfl) ?_
      refine s_skip rfl ?_
      refine s_skip rfl ?_
      refine s_skip rfl ?_
      refine s_p rfl (y_pick rfl rfl) ?_
      refine s_nil (q_then ?_)
      refine c_t rfl rfl ?_
      refine c_seq ?_
      refine c_region ?_
      refine s_p rfl (y_build rfl rfl) ?_
      refine s_stV (sz := 5) (vs := [.int .u8 0, .int .u8 0, .int .u8 0, .int .u8 0, .int .i16 0]) 0 rfl rfl rfl rfl rfl rfl (Nat.le_of_ble_eq_true rfl) rfl ?_
      refine s_p rfl (y_assign rfl) ?_
      refine s_nil (q_then ?_)
      refine c_ret (q_then_ret ?_)
      exact q_ret Tryd.results14 (rv_cellA rfl (hc_VP (k := 5) 0 rfl rfl) rfl (rv_tmp rfl rv_nil)) ⟨_, _, rfl, rfl, H⟩
  · clear H
    intro Jx hJx H
    refine c_seq ?_
    refine c_region ?_
    refine s_p rfl (y_fa rfl rfl) ?_
    refine s_v rfl (y_ld rfl) (hc_V 1 rfl rfl) ?_
    refine s_call rfl rfl H fun rv Sx_5 H2 => ?_
    clear H
    obtain ⟨t_5, rfl, ht_5, H⟩ := H2
    obtain ⟨t_6, ht_6, H⟩ := H
    replace H := ib_e H
    rcases H with ⟨rfl, H⟩ | ⟨rfl, H⟩
    · refine s_p rfl (y_field rfl ht_6) ?_
      refine s_nil (q_then ?_)
      refine c_t rfl rfl ?_
      refine c_region ?_
      refine s_p rfl (y_move rfl) ?_
      refine s_call rfl rfl H fun rv Sx_6 H2 => ?_
      clear H
      obtain ⟨t_7, rfl, H⟩ := H2
      refine s_p rfl (y_conv ⟨_, Tryd.underlying60⟩ rfl) ?_
      refine s_p rfl (y_fa rfl rfl) ?_
      refine s_stV (sz := 1) (vs := [.int .u8 (IntKind.u8.wrap t_7)]) 1 rfl rfl rfl rfl rfl rfl (Nat.le_of_ble_eq_true rfl) rfl ?_
      refine s_nil ?_
      exact hJx ([.int .u8 (IntKind.u8.wrap t), .int .u8 (IntKind.u8.wrap t_1), .int .u8 (IntKind.u8.wrap t_2), .int .u8 (IntKind.u8.wrap t_7), .int .i16 0]) _ _ _ _ [0, 0] H rfl ⟨rfl, rfl, rfl, True.intro⟩ rfl
    · refine s_p rfl (y_field rfl ht_6) ?_
      refine s_nil (q_then ?_)
      refine c_f rfl rfl ?_
      refine c_region ?_
      refine s_p rfl (y_move rfl) ?_
      refine s_call rfl rfl H fun rv Sx_7 H2 => ?_
      clear H
      obtain ⟨t_8, rfl, H⟩ := H2
      refine s_p rfl (y_conv ⟨_, Tryd.underlying60⟩ rfl) ?_
      refine s_p rfl (y_fa rfl rfl) ?_
      refine s_stV (sz := 1) (vs := [.int .i16 (IntKind.i16.wrap t_8)]) 1 rfl rfl rfl rfl rfl rfl (Nat.le_of_ble_eq_true rfl) rfl ?_
      refine s_nil ?_
      exact hJx ([.int .u8 (IntKind.u8.wrap t), .int .u8 (IntKind.u8.wrap t_1), .int .u8 (IntKind.u8.wrap t_2), .int .u8 0, .int .i16 (IntKind.i16.wrap t_8)]) _ _ _ _ [0, 0] H rfl ⟨rfl, rfl, rfl, True.intro⟩ rfl
def b_hermitcrabref01_Word (S : Mem) (code : Int) (a : Int) (b : Int) (c : Int) (n : Int) (Q : Int → Mem → Prop) : Prop :=
  hermitcrabref01_Fields S code fun t Sx =>
  if Int.tmod (IntKind.i64.wrap (Int.tdiv t 4)) 2 = 1 then
    Q (IntKind.u32.wrap ((IntKind.u32.wrap ((IntKind.u32.wrap ((IntKind.u32.wrap ((IntKind.u32.wrap code) * 67108864)) + (IntKind.u32.wrap ((IntKind.u32.wrap a) * 4194304)))) + (IntKind.u32.wrap ((IntKind.u32.wrap b) * 262144)))) + (IntKind.u32.wrap c))) Sx
  else
  Q (IntKind.u32.wrap ((IntKind.u32.wrap ((IntKind.u32.wrap ((IntKind.u32.wrap ((IntKind.u32.wrap code) * 67108864)) + (IntKind.u32.wrap ((IntKind.u32.wrap a) * 4194304)))) + (IntKind.u32.wrap ((IntKind.u32.wrap b) * 262144)))) + (IntKind.u32.wrap (IntKind.u16.wrap n)))) Sx
theorem t_hermitcrabref01_Word {S : Mem} {code : Int} {a : Int} {b : Int} {c : Int} {n : Int} {Q : Int → Mem → Prop} (H : b_hermitcrabref01_Word S code a b c n Q) : hermitcrabref01_Word S code a b c n Q := by
  unfold b_hermitcrabref01_Word at H
  refine Tr.intro Tryd.func16 rfl Tryd.ntmps16 rfl fun w0 => ?_
  refine c_seq ?_
  refine c_region ?_
  refine s_p rfl (y_assign rfl) ?_
  refine s_nil (q_then ?_)
  refine c_seq ?_
  refine c_region ?_
  refine s_p rfl (y_move rfl) ?_
  refine s_p rfl (y_conv ⟨_, Tryd.underlying5⟩ rfl) ?_
  refine s_p rfl (y_mul rfl rfl) ?_
  refine s_p rfl (y_move rfl) ?_
  refine s_p rfl (y_conv ⟨_, Tryd.underlying5⟩ rfl) ?_
  refine s_p rfl (y_mul rfl rfl) ?_
  refine s_p rfl (y_add rfl rfl) ?_
  refine s_p rfl (y_move rfl) ?_
  refine s_p rfl (y_conv ⟨_, Tryd.underlying5⟩ rfl) ?_
  refine s_p rfl (y_mul rfl rfl) ?_
  refine s_p rfl (y_add rfl rfl) ?_
  refine s_p rfl (y_assign rfl) ?_
  refine s_nil (q_then ?_)
  refine c_seq ?_
  refine c_seq ?_
  refine c_region ?_
  refine s_p rfl (y_move rfl) ?_
  refine s_call rfl rfl H fun rv Sx H2 => ?_
  clear H
  obtain ⟨t, rfl, H⟩ := H2
  refine s_p rfl (y_quo rfl rfl (by decide)) ?_
  refine s_p rfl (y_rem rfl rfl (by decide)) ?_
  replace H := ite_e H
  rcases H with ⟨c_1, H⟩ | ⟨c_1, H⟩
  · refine s_p rfl (yT (y_eql rfl rfl) c_1) ?_
    refine s_nil (q_then ?_)
    refine c_t rfl rfl ?_
    refine c_seq ?_
    refine c_region ?_
    refine s_p rfl (y_move rfl) ?_
    refine s_p rfl (y_move rfl) ?_
    refine s_p rfl (y_conv ⟨_, Tryd.underlying5⟩ rfl) ?_
    refine s_p rfl (y_add rfl rfl) ?_
    refine s_p rfl (y_assign rfl) ?_
    refine s_nil (q_then ?_)
    refine c_ret (q_then_ret ?_)
    exact q_ret Tryd.results16 (rv_tmp rfl rv_nil) ⟨_, rfl, H⟩
  · refine s_p rfl (yF (y_eql rfl rfl) c_1) ?_
    refine s_nil (q_then ?_)
    refine c_f rfl rfl ?_
    refine c_skip (q_then ?_)
    refine c_seq ?_
    refine c_region ?_
    refine s_p rfl (y_move rfl) ?_
    refine s_p rfl (y_move rfl) ?_
    refine s_p rfl (y_conv ⟨_, Tryd.underlying22⟩ rfl) ?_
    refine s_p rfl (y_conv ⟨_, Tryd.underlying52⟩ rfl) ?_
    refine s_p rfl (y_add rfl rfl) ?_
    refine s_p rfl (y_assign rfl) ?_
    refine s_nil (q_then ?_)
    refine c_ret ?_
    exact q_ret Tryd.results16 (rv_tmp rfl rv_nil) ⟨_, rfl, H⟩
def b_hermitcrabref01_Fields (S : Mem) (code : Int) (Q : Int → Mem → Prop) : Prop :=
  al S 3 ([.int .i64 0, .int .i64 9, .int .i64 9, .int .i64 7, .int .i64 7, .int .i64 7, .int .i64 7, .int .i64 7, .int .i64 7, .int .i64 7, .int .i64 7, .int .i64 11, .int .i64 11, .int .i64 11, .int .i64 11, .int .i64 11, .int .i64 11, .int .i64 11, .int .i64 9, .int .i64 9, .int .i64 8, .int .i64 0, .int .i64 0]) fun b Sx =>
  0 ≤ code ∧ code < 23 ∧
  gI (Sx.cell b (0 + code.toNat * 1)) .i64 fun t =>
  Q t Sx
theorem t_hermitcrabref01_Fields {S : Mem} {code : Int} {Q : Int → Mem → Prop} (H : b_hermitcrabref01_Fields S code Q) : hermitcrabref01_Fields S code Q := by
  unfold b_hermitcrabref01_Fields at H
  refine Tr.intro Tryd.func17 rfl Tryd.ntmps17 rfl fun w0 => ?_
  refine c_seq ?_
  refine c_region ?_
  refine s_p rfl (y_assign rfl) ?_
  refine s_nil (q_then ?_)
  refine c_seq ?_
  refine c_region ?_
  refine s_bs rfl rfl (by decide) rfl fun b => ?_
  refine s_pub 0 rfl fun hb => ?_
  replace H := H b hb
  refine s_p rfl (y_move rfl) ?_
  obtain ⟨c, c_1, H⟩ := H
  refine s_p rfl (y_ixL rfl rfl c c_1 rfl) ?_
  obtain ⟨t, ht, H⟩ := H
  refine s_v rfl (y_ld rfl) (hc_S ht) ?_
  refine s_p rfl (y_assign rfl) ?_
  refine s_nil (q_then ?_)
  refine c_ret ?_
  exact q_ret Tryd.results17 (rv_tmp rfl rv_nil) ⟨_, rfl, H⟩
def b_code_Right (S : Mem) (o : List Value) (Q : Bool → Mem → Prop) : Prop :=
  o.length = 5 ∧
  gI (nthL o 0) .u8 fun t =>
  code_fields S t fun t_1 Sx =>
  t_1.all (·.oneCell') = true ∧
  jn (fun (Sx_1 : Mem) =>
      gI (nthL o 0) .u8 fun t_2 =>
      if t_2 = 18 then
        gI (nthL o 4) .i16 fun t_3 =>
        if 0 ≤ t_3 then
          gI (nthL o 4) .i16 fun t_4 =>
          Q (decide (t_4 < 9)) Sx_1
        else
        Q false Sx_1
      else
      gI (nthL o 0) .u8 fun t_5 =>
      if t_5 = 19 then
        gI (nthL o 4) .i16 fun t_6 =>
        if 0 ≤ t_6 then
          gI (nthL o 4) .i16 fun t_7 =>
          Q (decide (t_7 < 9)) Sx_1
        else
        Q false Sx_1
      else
      Q true Sx_1) fun Jx =>
  gI (nthL o 0) .u8 fun t_8 =>
  if 23 ≤ t_8 then
    Q false Sx
  else
  gB (nthL t_1 0) fun t_9 =>
  gI (nthL o 1) .u8 fun t_10 =>
  cv Tryd.prog Sx (.func (.func 30) #[] #[]) [.bool t_9, .int .u8 t_10] fun rv Sx_2 => ∃ t_11 : Bool, rv = .bool t_11 ∧ 
  if t_11 = true then
    gB (nthL t_1 1) fun t_12 =>
    gI (nthL o 2) .u8 fun t_13 =>
    cv Tryd.prog Sx_2 (.func (.func 30) #[] #[]) [.bool t_12, .int .u8 t_13] fun rv Sx_3 => ∃ t_14 : Bool, rv = .bool t_14 ∧ 
    if t_14 = true then
      gB (nthL t_1 2) fun t_15 =>
      gI (nthL o 3) .u8 fun t_16 =>
      cv Tryd.prog Sx_3 (.func (.func 30) #[] #[]) [.bool t_15, .int .u8 t_16] fun rv Sx_4 => ∃ t_17 : Bool, rv = .bool t_17 ∧ 
      if t_17 = true then
        gB (nthL t_1 3) fun t_18 =>
        if t_18 = true then
          Jx Sx_4
        else
        gI (nthL o 4) .i16 fun t_19 =>
        if t_19 ≠ 0 then
          Q false Sx_4
        else
        Jx Sx_4
      else
      Q false Sx_4
    else
    Q false Sx_3
  else
  Q false Sx_2
theorem t_code_Right {S : Mem} {o : List Value} {Q : Bool → Mem → Prop} (H : b_code_Right S o Q) : code_Right S o Q := by
  unfold b_code_Right at H
  refine Tr.intro Tryd.func18 rfl Tryd.ntmps18 rfl fun w0 => ?_
  obtain ⟨ho, H⟩ := H
  refine c_seq ?_
  refine c_region ?_
  refine s_box rfl rfl rfl fun b => ?_
  refine s_p rfl (y_assign rfl) ?_
  refine s_nil (q_then ?_)
  refine c_seq ?_
  refine c_region ?_
  refine s_p rfl (y_fa rfl rfl) ?_
  obtain ⟨t, ht, H⟩ := H
  refine s_v rfl (y_ld rfl) (hc_V 0 rfl ht) ?_
  refine s_call rfl rfl H fun rv Sx H2 => ?_
  clear H
  obtain ⟨t_1, rfl, ht_1, H⟩ := H2
  refine s_alloc rfl fun b_1 => ?_
  obtain ⟨c, H⟩ := H
  refine s_stV_all 1 rfl rfl rfl rfl rfl ht_1 rfl c ?_
  refine s_nil (q_then ?_)
  refine c_seq ?_
  refine c_region ?_
  refine s_p rfl (y_assign rfl) ?_
  refine s_nil (q_then ?_)
  refine c_join2 H (fun (J : Mem → Prop) (z : Unit) S => J S) (fun z => ⟨64, [(1, .pointer (some ⟨b, 0, none⟩))]⟩) (fun z => [⟨b, 24, o⟩]) ?_ ?_
  · clear H
    rintro _ Sx_1 H
    refine c_seq ?_
    refine c_seq ?_
    refine c_region ?_
    refine s_p rfl (y_fa rfl rfl) ?_
    obtain ⟨t_2, ht_2, H⟩ := H
    refine s_v rfl (y_ld rfl) (hc_V 0 rfl ht_2) ?_
    replace H := ite_e H
    rcases H with ⟨c_1, H⟩ | ⟨c_1, H⟩
    · refine s_p rfl (yT (y_eql rfl rfl) c_1) ?_
      refine s_p rfl (y_move rfl) ?_
      refine s_skip rfl ?_
      refine s_skip rfl ?_
      refine s_skip rfl ?_
      refine s_p rfl (y_pick rfl rfl) ?_
      refine s_nil (q_then ?_)
      refine c_t rfl rfl ?_
      refine c_seq ?_
      refine c_region ?_
      refine s_p rfl (y_fa rfl rfl) ?_
      obtain ⟨t_3, ht_3, H⟩ := H
      refine s_v rfl (y_ld rfl) (hc_V 0 rfl ht_3) ?_
      replace H := ite_e H
      rcases H with ⟨c_2, H⟩ | ⟨c_2, H⟩
      · refine s_p rfl (yT (y_geq rfl rfl) c_2) ?_
        refine s_p rfl (y_move rfl) ?_
        refine s_p rfl (y_fa rfl rfl) ?_
        obtain ⟨t_4, ht_4, H⟩ := H
        refine s_v rfl (y_ld rfl) (hc_V 0 rfl ht_4) ?_
        refine s_p rfl (y_lss rfl rfl) ?_
        refine s_p rfl (y_pick rfl rfl) ?_
        refine s_p rfl (y_assign rfl) ?_
        refine s_nil (q_then ?_)
        refine c_ret (q_then_ret ?_)
        exact q_ret Tryd.results18 (rv_tmp rfl rv_nil) ⟨_, rfl, H⟩
      · refine s_p rfl (yF (y_geq rfl rfl) c_2) ?_
        refine s_p rfl (y_move rfl) ?_
        refine s_skip rfl ?_
        refine s_skip rfl ?_
        refine s_skip rfl ?_
        refine s_p rfl (y_pick rfl rfl) ?_
        refine s_p rfl (y_assign rfl) ?_
        refine s_nil (q_then ?_)
        refine c_ret (q_then_ret ?_)
        exact q_ret Tryd.results18 (rv_tmp rfl rv_nil) ⟨_, rfl, H⟩
    · refine s_p rfl (yF (y_eql rfl rfl) c_1) ?_
      refine s_p rfl (y_move rfl) ?_
      refine s_p rfl (y_fa rfl rfl) ?_
      obtain ⟨t_5, ht_5, H⟩ := H
      refine s_v rfl (y_ld rfl) (hc_V 0 rfl ht_5) ?_
      replace H := ite_e H
      rcases H with ⟨c_3, H⟩ | ⟨c_3, H⟩
      · refine s_p rfl (yT (y_eql rfl rfl) c_3) ?_
        refine s_p rfl (y_pick rfl rfl) ?_
        refine s_nil (q_then ?_)
        refine c_t rfl rfl ?_
        refine c_seq ?_
        refine c_region ?_
        refine s_p rfl (y_fa rfl rfl) ?_
        obtain ⟨t_6, ht_6, H⟩ := H
        refine s_v rfl (y_ld rfl) (hc_V 0 rfl ht_6) ?_
        replace H := ite_e H
        rcases H with ⟨c_4, H⟩ | ⟨c_4, H⟩
        · refine s_p rfl (yT (y_geq rfl rfl) c_4) ?_
          refine s_p rfl (y_move rfl) ?_
          refine s_p rfl (y_fa rfl rfl) ?_
          obtain ⟨t_7, ht_7, H⟩ := H
          refine s_v rfl (y_ld rfl) (hc_V 0 rfl ht_7) ?_
          refine s_p rfl (y_lss rfl rfl) ?_
          refine s_p rfl (y_pick rfl rfl) ?_
          refine s_p rfl (y_assign rfl) ?_
          refine s_nil (q_then ?_)
          refine c_ret (q_then_ret ?_)
          exact q_ret Tryd.results18 (rv_tmp rfl rv_nil) ⟨_, rfl, H⟩
        · refine s_p rfl (yF (y_geq rfl rfl) c_4) ?_
          refine s_p rfl (y_move rfl) ?_
          refine s_skip rfl ?_
          refine s_skip rfl ?_
          refine s_skip rfl ?_
          refine s_p rfl (y_pick rfl rfl) ?_
          refine s_p rfl (y_assign rfl) ?_
          refine s_nil (q_then ?_)
          refine c_ret (q_then_ret ?_)
          exact q_ret Tryd.results18 (rv_tmp rfl rv_nil) ⟨_, rfl, H⟩
      · refine s_p rfl (yF (y_eql rfl rfl) c_3) ?_
        refine s_p rfl (y_pick rfl rfl) ?_
        refine s_nil (q_then ?_)
        refine c_f rfl rfl ?_
        refine c_skip (q_then ?_)
        refine c_seq ?_
        refine c_region ?_
        refine s_p rfl (y_assign rfl) ?_
        refine s_nil (q_then ?_)
        refine c_ret ?_
        exact q_ret Tryd.results18 (rv_tmp rfl rv_nil) ⟨_, rfl, H⟩
  · clear H
    intro Jx hJx H
    refine c_seq ?_
    refine c_region ?_
    refine s_p rfl (y_fa rfl rfl) ?_
    obtain ⟨t_8, ht_8, H⟩ := H
    refine s_v rfl (y_ld rfl) (hc_V 0 rfl ht_8) ?_
    replace H := ite_e H
    rcases H with ⟨c_5, H⟩ | ⟨c_5, H⟩
    · refine s_p rfl (yT (y_geq rfl rfl) c_5) ?_
      refine s_p rfl (y_move rfl) ?_
      refine s_skip rfl ?_
      refine s_skip rfl ?_
      refine s_skip rfl ?_
      refine s_skip rfl ?_
      refine s_skip rfl ?_
      refine s_skip rfl ?_
      refine s_skip rfl ?_
      refine s_p rfl (y_pick rfl rfl) ?_
      refine s_p rfl (y_move rfl) ?_
      refine s_skip rfl ?_
      refine s_skip rfl ?_
      refine s_skip rfl ?_
      refine s_skip rfl ?_
      refine s_skip rfl ?_
      refine s_skip rfl ?_
      refine s_skip rfl ?_
      refine s_p rfl (y_pick rfl rfl) ?_
      refine s_p rfl (y_move rfl) ?_
      refine s_skip rfl ?_
      refine s_skip rfl ?_
      refine s_skip rfl ?_
      refine s_skip rfl ?_
      refine s_skip rfl ?_
      refine s_skip rfl ?_
      refine s_skip rfl ?_
      refine s_p rfl (y_pick rfl rfl) ?_
      refine s_p rfl (y_move rfl) ?_
      refine s_skip rfl ?_
      refine s_skip rfl ?_
      refine s_skip rfl ?_
      refine s_skip rfl ?_
      refine s_skip rfl ?_
      refine s_skip rfl ?_
      refine s_skip rfl ?_
      refine s_skip rfl ?_
      refine s_p rfl (y_pick rfl rfl) ?_
      refine s_nil (q_then ?_)
      refine c_t rfl rfl ?_
      refine c_seq ?_
      refine c_region ?_
      refine s_p rfl (y_assign rfl) ?_
      refine s_nil (q_then ?_)
      refine c_ret (q_then_ret ?_)
      exact q_ret Tryd.results18 (rv_tmp rfl rv_nil) ⟨_, rfl, H⟩
    · refine s_p rfl (yF (y_geq rfl rfl) c_5) ?_
      refine s_p rfl (y_move rfl) ?_
      refine s_p rfl (y_move rfl) ?_
      refine s_p rfl (y_fa rfl rfl) ?_
      obtain ⟨t_9, ht_9, H⟩ := H
      refine s_v rfl (y_ld rfl) (hc_V 1 rfl ht_9) ?_
      refine s_p rfl (y_fa rfl rfl) ?_
      obtain ⟨t_10, ht_10, H⟩ := H
      refine s_v rfl (y_ld rfl) (hc_V 0 rfl ht_10) ?_
      refine s_cv rfl rfl rfl H fun rv Sx_2 H2 => ?_
      clear H
      obtain ⟨t_11, rfl, H⟩ := H2
      replace H := ib_e H
      rcases H with ⟨rfl, H⟩ | ⟨rfl, H⟩
      · skip
        refine s_p rfl (yB (y_not rfl) rfl) ?_
        refine s_p rfl (y_pick rfl rfl) ?_
        refine s_p rfl (y_move rfl) ?_
        refine s_p rfl (y_move rfl) ?_
        refine s_p rfl (y_fa rfl rfl) ?_
        obtain ⟨t_12, ht_12, H⟩ := H
        refine s_v rfl (y_ld rfl) (hc_V 1 rfl ht_12) ?_
        refine s_p rfl (y_fa rfl rfl) ?_
        obtain ⟨t_13, ht_13, H⟩ := H
        refine s_v rfl (y_ld rfl) (hc_V 0 rfl ht_13) ?_
        refine s_cv rfl rfl rfl H fun rv Sx_3 H2 => ?_
        clear H
        obtain ⟨t_14, rfl, H⟩ := H2
        replace H := ib_e H
        rcases H with ⟨rfl, H⟩ | ⟨rfl, H⟩
        · skip
          refine s_p rfl (yB (y_not rfl) rfl) ?_
          refine s_p rfl (y_pick rfl rfl) ?_
          refine s_p rfl (y_move rfl) ?_
          refine s_p rfl (y_move rfl) ?_
          refine s_p rfl (y_fa rfl rfl) ?_
          obtain ⟨t_15, ht_15, H⟩ := H
          refine s_v rfl (y_ld rfl) (hc_V 1 rfl ht_15) ?_
          refine s_p rfl (y_fa rfl rfl) ?_
          obtain ⟨t_16, ht_16, H⟩ := H
          refine s_v rfl (y_ld rfl) (hc_V 0 rfl ht_16) ?_
          refine s_cv rfl rfl rfl H fun rv Sx_4 H2 => ?_
          clear H
          obtain ⟨t_17, rfl, H⟩ := H2
          replace H := ib_e H
          rcases H with ⟨rfl, H⟩ | ⟨rfl, H⟩
          · skip
            refine s_p rfl (yB (y_not rfl) rfl) ?_
            refine s_p rfl (y_pick rfl rfl) ?_
            refine s_p rfl (y_move rfl) ?_
            refine s_p rfl (y_fa rfl rfl) ?_
            obtain ⟨t_18, ht_18, H⟩ := H
            replace H := ib_e H
            rcases H with ⟨rfl, H⟩ | ⟨rfl, H⟩
            · refine s_v rfl (y_ld rfl) (hc_V 1 rfl ht_18) ?_
              refine s_p rfl (yB (y_not rfl) rfl) ?_
              refine s_p rfl (y_move rfl) ?_
              refine s_skip rfl ?_
              refine s_skip rfl ?_
              refine s_skip rfl ?_
              refine s_p rfl (y_pick rfl rfl) ?_
              refine s_p rfl (y_pick rfl rfl) ?_
              refine s_nil (q_then ?_)
              refine c_f rfl rfl ?_
              refine c_skip ?_
              exact hJx () _ _ _ _ [0] H rfl ⟨rfl, True.intro⟩ rfl
            · refine s_v rfl (y_ld rfl) (hc_V 1 rfl ht_18) ?_
              refine s_p rfl (yB (y_not rfl) rfl) ?_
              refine s_p rfl (y_move rfl) ?_
              refine s_p rfl (y_fa rfl rfl) ?_
              obtain ⟨t_19, ht_19, H⟩ := H
              refine s_v rfl (y_ld rfl) (hc_V 0 rfl ht_19) ?_
              replace H := ite_e H
              rcases H with ⟨c_6, H⟩ | ⟨c_6, H⟩
              · refine s_p rfl (yT (y_neq rfl rfl) c_6) ?_
                refine s_p rfl (y_pick rfl rfl) ?_
                refine s_p rfl (y_pick rfl rfl) ?_
                refine s_nil (q_then ?_)
                refine c_t rfl rfl ?_
                refine c_seq ?_
                refine c_region ?_
                refine s_p rfl (y_assign rfl) ?_
                refine s_nil (q_then ?_)
                refine c_ret (q_then_ret ?_)
                exact q_ret Tryd.results18 (rv_tmp rfl rv_nil) ⟨_, rfl, H⟩
              · refine s_p rfl (yF (y_neq rfl rfl) c_6) ?_
                refine s_p rfl (y_pick rfl rfl) ?_
                refine s_p rfl (y_pick rfl rfl) ?_
                refine s_nil (q_then ?_)
                refine c_f rfl rfl ?_
                refine c_skip ?_
                exact hJx () _ _ _ _ [0] H rfl ⟨rfl, True.intro⟩ rfl
          · skip
            refine s_p rfl (yB (y_not rfl) rfl) ?_
            refine s_p rfl (y_pick rfl rfl) ?_
            refine s_p rfl (y_move rfl) ?_
            refine s_skip rfl ?_
            refine s_skip rfl ?_
            refine s_skip rfl ?_
            refine s_skip rfl ?_
            refine s_skip rfl ?_
            refine s_skip rfl ?_
            refine s_skip rfl ?_
            refine s_skip rfl ?_
            refine s_p rfl (y_pick rfl rfl) ?_
            refine s_nil (q_then ?_)
            refine c_t rfl rfl ?_
            refine c_seq ?_
            refine c_region ?_
            refine s_p rfl (y_assign rfl) ?_
            refine s_nil (q_then ?_)
            refine c_ret (q_then_ret ?_)
            exact q_ret Tryd.results18 (rv_tmp rfl rv_nil) ⟨_, rfl, H⟩
        · skip
          refine s_p rfl (yB (y_not rfl) rfl) ?_
          refine s_p rfl (y_pick rfl rfl) ?_
          refine s_p rfl (y_move rfl) ?_
          refine s_skip rfl ?_
          refine s_skip rfl ?_
          refine s_skip rfl ?_
          refine s_skip rfl ?_
          refine s_skip rfl ?_
          refine s_skip rfl ?_
          refine s_skip rfl ?_
          refine s_p rfl (y_pick rfl rfl) ?_
          refine s_p rfl (y_move rfl) ?_
          refine s_skip rfl ?_
          refine s_skip rfl ?_
          refine s_skip rfl ?_
          refine s_skip rfl ?_
          refine s_skip rfl ?_
          refine s_skip rfl ?_
          refine s_skip rfl ?_
          refine s_skip rfl ?_
          refine s_p rfl (y_pick rfl rfl) ?_
          refine s_nil (q_then ?_)
          refine c_t rfl rfl ?_
          refine c_seq ?_
          refine c_region ?_
          refine s_p rfl (y_assign rfl) ?_
          refine s_nil (q_then ?_)
          refine c_ret (q_then_ret ?_)
          exact q_ret Tryd.results18 (rv_tmp rfl rv_nil) ⟨_, rfl, H⟩
      · skip
        refine s_p rfl (yB (y_not rfl) rfl) ?_
        refine s_p rfl (y_pick rfl rfl) ?_
        refine s_p rfl (y_move rfl) ?_
        refine s_skip rfl ?_
        refine s_skip rfl ?_
        refine s_skip rfl ?_
        refine s_skip rfl ?_
        refine s_skip rfl ?_
        refine s_skip rfl ?_
        refine s_skip rfl ?_
        refine s_p rfl (y_pick rfl rfl) ?_
        refine s_p rfl (y_move rfl) ?_
        refine s_skip rfl ?_
        refine s_skip rfl ?_
        refine s_skip rfl ?_
        refine s_skip rfl ?_
        refine s_skip rfl ?_
        refine s_skip rfl ?_
        refine s_skip rfl ?_
        refine s_p rfl (y_pick rfl rfl) ?_
        refine s_p rfl (y_move rfl) ?_
        refine s_skip rfl ?_
        refine s_skip rfl ?_
        refine s_skip rfl ?_
        refine s_skip rfl ?_
        refine s_skip rfl ?_
        refine s_skip rfl ?_
        refine s_skip rfl ?_
        refine s_skip rfl ?_
        refine s_p rfl (y_pick rfl rfl) ?_
        refine s_nil (q_then ?_)
        refine c_t rfl rfl ?_
        refine c_seq ?_
        refine c_region ?_
        refine s_p rfl (y_assign rfl) ?_
        refine s_nil (q_then ?_)
        refine c_ret (q_then_ret ?_)
        exact q_ret Tryd.results18 (rv_tmp rfl rv_nil) ⟨_, rfl, H⟩
def b_text_parts (S : Mem) (c : Int) (Q : ByteArray → Mem → Prop) : Prop :=
  jn (fun (Sx : Mem) =>
      Q (⟨#[97, 98, 99]⟩) Sx) fun Jx =>
  jn (fun (t : Bool) (Sx_1 : Mem) =>
      if t = true then
        Q (⟨#[]⟩) Sx_1
      else
      jn (fun (t_1 : Bool) (Sx_2 : Mem) =>
          if t_1 = true then
            Q (⟨#[97, 110]⟩) Sx_2
          else
          if c = 20 then
            Q (⟨#[110]⟩) Sx_2
          else
          jn (fun (t_2 : Bool) (Sx_3 : Mem) =>
              if t_2 = true then
                Q (⟨#[97, 98, 110]⟩) Sx_3
              else
              Jx Sx_3) fun Jx_1 =>
          if c = 11 then
            Jx_1 true Sx_2
          else
          if c = 12 then
            Jx_1 true Sx_2
          else
          if c = 13 then
            Jx_1 true Sx_2
          else
          if c = 14 then
            Jx_1 true Sx_2
          else
          if c = 15 then
            Jx_1 true Sx_2
          else
          if c = 16 then
            Jx_1 true Sx_2
          else
          if c = 17 then
            Jx_1 true Sx_2
          else
          Jx_1 false Sx_2) fun Jx_2 =>
      if c = 1 then
        Jx_2 true Sx_1
      else
      if c = 2 then
        Jx_2 true Sx_1
      else
      if c = 18 then
        Jx_2 true Sx_1
      else
      if c = 19 then
        Jx_2 true Sx_1
      else
      Jx_2 false Sx_1) fun Jx_3 =>
  if c = 0 then
    Jx_3 true S
  else
  if c = 21 then
    Jx_3 true S
  else
  if c = 22 then
    Jx_3 true S
  else
  Jx_3 false S
theorem t_text_parts {S : Mem} {c : Int} {Q : ByteArray → Mem → Prop} (H : b_text_parts S c Q) : text_parts S c Q := by
  unfold b_text_parts at H
  refine Tr.intro Tryd.func19 rfl Tryd.ntmps19 rfl fun w0 => ?_
  refine c_seq ?_
  refine c_region ?_
  refine s_p rfl (y_assign rfl) ?_
  refine s_nil (q_then ?_)
  refine c_join2 H (fun (J : Mem → Prop) (z : Unit) S => J S) (fun z => ⟨23, []⟩) (fun z => []) ?_ ?_
  · clear H
    rintro _ Sx H
    refine c_seq ?_
    refine c_region ?_
    refine s_p rfl (y_assign rfl) ?_
    refine s_nil (q_then ?_)
    refine c_ret ?_
    exact q_ret Tryd.results19 (rv_tmp rfl rv_nil) ⟨_, rfl, H⟩
  · clear H
    intro Jx hJx H
    refine c_seq ?_
    refine c_region ?_
    refine s_p rfl (y_move rfl) ?_
    refine s_nil (q_then ?_)
    refine c_block ?_
    refine c_join2 H (fun (J : Bool → Mem → Prop) (z : Bool) S => J z S) (fun z => ⟨23, [(3, .int .u8 c), (4, .bool z)]⟩) (fun z => []) ?_ ?_
    · clear H
      rintro t Sx_1 H
      replace H := ib_e H
      rcases H with ⟨c_1, H⟩ | ⟨c_1, H⟩
      · refine c_t rfl c_1 ?_
        refine c_seq ?_
        refine c_region ?_
        refine s_p rfl (y_assign rfl) ?_
        refine s_nil (q_then ?_)
        refine c_ret (q_blk_ret (q_then_ret ?_))
        exact q_ret Tryd.results19 (rv_tmp rfl rv_nil) ⟨_, rfl, H⟩
      · refine c_f rfl c_1 ?_
        refine c_join2 H (fun (J : Bool → Mem → Prop) (z : Bool) S => J z S) (fun z => ⟨23, [(3, .int .u8 c), (8, .bool z)]⟩) (fun z => []) ?_ ?_
        · clear H
          rintro t_1 Sx_2 H
          replace H := ib_e H
          rcases H with ⟨c_2, H⟩ | ⟨c_2, H⟩
          · refine c_t rfl c_2 ?_
            refine c_seq ?_
            refine c_region ?_
            refine s_p rfl (y_assign rfl) ?_
            refine s_nil (q_then ?_)
            refine c_ret (q_blk_ret (q_then_ret ?_))
            exact q_ret Tryd.results19 (rv_tmp rfl rv_nil) ⟨_, rfl, H⟩
          · refine c_f rfl c_2 ?_
            refine c_seq ?_
            refine c_region ?_
            replace H := ite_e H
            rcases H with ⟨c_3, H⟩ | ⟨c_3, H⟩
            · refine s_p rfl (yT (y_eql rfl rfl) c_3) ?_
              refine s_p rfl (y_assign rfl) ?_
              refine s_nil (q_then ?_)
              refine c_t rfl rfl ?_
              refine c_seq ?_
              refine c_region ?_
              refine s_p rfl (y_assign rfl) ?_
              refine s_nil (q_then ?_)
              refine c_ret (q_blk_ret (q_then_ret ?_))
              exact q_ret Tryd.results19 (rv_tmp rfl rv_nil) ⟨_, rfl, H⟩
            · refine s_p rfl (yF (y_eql rfl rfl) c_3) ?_
              refine s_p rfl (y_assign rfl) ?_
              refine s_nil (q_then ?_)
              refine c_f rfl rfl ?_
              refine c_join2 H (fun (J : Bool → Mem → Prop) (z : Bool) S => J z S) (fun z => ⟨23, [(15, .bool z)]⟩) (fun z => []) ?_ ?_
              · clear H
                rintro t_2 Sx_3 H
                replace H := ib_e H
                rcases H with ⟨c_4, H⟩ | ⟨c_4, H⟩
                · refine c_t rfl c_4 ?_
                  refine c_seq ?_
                  refine c_region ?_
                  refine s_p rfl (y_assign rfl) ?_
                  refine s_nil (q_then ?_)
                  refine c_ret (q_blk_ret (q_then_ret ?_))
                  exact q_ret Tryd.results19 (rv_tmp rfl rv_nil) ⟨_, rfl, H⟩
                · refine c_f rfl c_4 ?_
                  refine c_skip (q_blk ?_)
                  exact hJx () _ _ _ _ [] H rfl True.intro rfl
              · clear H
                intro Jx_1 hJx_1 H
                refine c_seq ?_
                refine c_region ?_
                replace H := ite_e H
                rcases H with ⟨c_5, H⟩ | ⟨c_5, H⟩
                · refine s_p rfl (yT (y_eql rfl rfl) c_5) ?_
                  refine s_p rfl (y_assign rfl) ?_
                  refine s_nil (q_then ?_)
                  refine c_t rfl rfl ?_
                  refine c_skip ?_
                  exact hJx_1 true _ _ _ _ [] H rfl ⟨rfl, True.intro⟩ rfl
                · refine s_p rfl (yF (y_eql rfl rfl) c_5) ?_
                  refine s_p rfl (y_assign rfl) ?_
                  refine s_nil (q_then ?_)
                  refine c_f rfl rfl ?_
                  refine c_seq ?_
                  refine c_region ?_
                  replace H := ite_e H
                  rcases H with ⟨c_6, H⟩ | ⟨c_6, H⟩
                  · refine s_p rfl (yT (y_eql rfl rfl) c_6) ?_
                    refine s_p rfl (y_assign rfl) ?_
                    refine s_nil (q_then ?_)
                    refine c_t rfl rfl ?_
                    refine c_skip ?_
                    exact hJx_1 true _ _ _ _ [] H rfl ⟨rfl, True.intro⟩ rfl
                  · refine s_p rfl (yF (y_eql rfl rfl) c_6) ?_
                    refine s_p rfl (y_assign rfl) ?_
                    refine s_nil (q_then ?_)
                    refine c_f rfl rfl ?_
                    refine c_seq ?_
                    refine c_region ?_
                    replace H := ite_e H
                    rcases H with ⟨c_7, H⟩ | ⟨c_7, H⟩
                    · refine s_p rfl (yT (y_eql rfl rfl) c_7) ?_
                      refine s_p rfl (y_assign rfl) ?_
                      refine s_nil (q_then ?_)
                      refine c_t rfl rfl ?_
                      refine c_skip ?_
                      exact hJx_1 true _ _ _ _ [] H rfl ⟨rfl, True.intro⟩ rfl
                    · refine s_p rfl (yF (y_eql rfl rfl) c_7) ?_
                      refine s_p rfl (y_assign rfl) ?_
                      refine s_nil (q_then ?_)
                      refine c_f rfl rfl ?_
                      refine c_seq ?_
                      refine c_region ?_
                      replace H := ite_e H
                      rcases H with ⟨c_8, H⟩ | ⟨c_8, H⟩
                      · refine s_p rfl (yT (y_eql rfl rfl) c_8) ?_
                        refine s_p rfl (y_assign rfl) ?_
                        refine s_nil (q_then ?_)
                        refine c_t rfl rfl ?_
                        refine c_skip ?_
                        exact hJx_1 true _ _ _ _ [] H rfl ⟨rfl, True.intro⟩ rfl
                      · refine s_p rfl (yF (y_eql rfl rfl) c_8) ?_
                        refine s_p rfl (y_assign rfl) ?_
                        refine s_nil (q_then ?_)
                        refine c_f rfl rfl ?_
                        refine c_seq ?_
                        refine c_region ?_
                        replace H := ite_e H
                        rcases H with ⟨c_9, H⟩ | ⟨c_9, H⟩
                        · refine s_p rfl (yT (y_eql rfl rfl) c_9) ?_
                          refine s_p rfl (y_assign rfl) ?_
                          refine s_nil (q_then ?_)
                          refine c_t rfl rfl ?_
                          refine c_skip ?_
                          exact hJx_1 true _ _ _ _ [] H rfl ⟨rfl, True.intro⟩ rfl
                        · refine s_p rfl (yF (y_eql rfl rfl) c_9) ?_
                          refine s_p rfl (y_assign rfl) ?_
                          refine s_nil (q_then ?_)
                          refine c_f rfl rfl ?_
                          refine c_seq ?_
                          refine c_region ?_
                          replace H := ite_e H
                          rcases H with ⟨c_10, H⟩ | ⟨c_10, H⟩
                          · refine s_p rfl (yT (y_eql rfl rfl) c_10) ?_
                            refine s_p rfl (y_assign rfl) ?_
                            refine s_nil (q_then ?_)
                            refine c_t rfl rfl ?_
                            refine c_skip ?_
                            exact hJx_1 true _ _ _ _ [] H rfl ⟨rfl, True.intro⟩ rfl
                          · refine s_p rfl (yF (y_eql rfl rfl) c_10) ?_
                            refine s_p rfl (y_assign rfl) ?_
                            refine s_nil (q_then ?_)
                            refine c_f rfl rfl ?_
                            refine c_region ?_
                            replace H := ite_e H
                            rcases H with ⟨c_11, H⟩ | ⟨c_11, H⟩
                            · refine s_p rfl (yT (y_eql rfl rfl) c_11) ?_
                              refine s_p rfl (y_assign rfl) ?_
                              refine s_nil ?_
                              exact hJx_1 true _ _ _ _ [] H rfl ⟨rfl, True.intro⟩ rfl
                            · refine s_p rfl (yF (y_eql rfl rfl) c_11) ?_
                              refine s_p rfl (y_assign rfl) ?_
                              refine s_nil ?_
                              exact hJx_1 false _ _ _ _ [] H rfl ⟨rfl, True.intro⟩ rfl
        · clear H
          intro Jx_2 hJx_2 H
          refine c_seq ?_
          refine c_region ?_
          replace H := ite_e H
          rcases H with ⟨c_12, H⟩ | ⟨c_12, H⟩
          · refine s_p rfl (yT (y_eql rfl rfl) c_12) ?_
            refine s_p rfl (y_assign rfl) ?_
            refine s_nil (q_then ?_)
            refine c_t rfl rfl ?_
            refine c_skip ?_
            exact hJx_2 true _ _ _ _ [] H rfl ⟨rfl, rfl, True.intro⟩ rfl
          · refine s_p rfl (yF (y_eql rfl rfl) c_12) ?_
            refine s_p rfl (y_assign rfl) ?_
            refine s_nil (q_then ?_)
            refine c_f rfl rfl ?_
            refine c_seq ?_
            refine c_region ?_
            replace H := ite_e H
            rcases H with ⟨c_13, H⟩ | ⟨c_13, H⟩
            · refine s_p rfl (yT (y_eql rfl rfl) c_13) ?_
              refine s_p rfl (y_assign rfl) ?_
              refine s_nil (q_then ?_)
              refine c_t rfl rfl ?_
              refine c_skip ?_
              exact hJx_2 true _ _ _ _ [] H rfl ⟨rfl, rfl, True.intro⟩ rfl
            · refine s_p rfl (yF (y_eql rfl rfl) c_13) ?_
              refine s_p rfl (y_assign rfl) ?_
              refine s_nil (q_then ?_)
              refine c_f rfl rfl ?_
              refine c_seq ?_
              refine c_region ?_
              replace H := ite_e H
              rcases H with ⟨c_14, H⟩ | ⟨c_14, H⟩
              · refine s_p rfl (yT (y_eql rfl rfl) c_14) ?_
                refine s_p rfl (y_assign rfl) ?_
                refine s_nil (q_then ?_)
                refine c_t rfl rfl ?_
                refine c_skip ?_
                exact hJx_2 true _ _ _ _ [] H rfl ⟨rfl, rfl, True.intro⟩ rfl
              · refine s_p rfl (yF (y_eql rfl rfl) c_14) ?_
                refine s_p rfl (y_assign rfl) ?_
                refine s_nil (q_then ?_)
                refine c_f rfl rfl ?_
                refine c_region ?_
                replace H := ite_e H
                rcases H with ⟨c_15, H⟩ | ⟨c_15, H⟩
                · refine s_p rfl (yT (y_eql rfl rfl) c_15) ?_
                  refine s_p rfl (y_assign rfl) ?_
                  refine s_nil ?_
                  exact hJx_2 true _ _ _ _ [] H rfl ⟨rfl, rfl, True.intro⟩ rfl
                · refine s_p rfl (yF (y_eql rfl rfl) c_15) ?_
                  refine s_p rfl (y_assign rfl) ?_
                  refine s_nil ?_
                  exact hJx_2 false _ _ _ _ [] H rfl ⟨rfl, rfl, True.intro⟩ rfl
    · clear H
      intro Jx_3 hJx_3 H
      refine c_seq ?_
      refine c_region ?_
      replace H := ite_e H
      rcases H with ⟨c_16, H⟩ | ⟨c_16, H⟩
      · refine s_p rfl (yT (y_eql rfl rfl) c_16) ?_
        refine s_p rfl (y_assign rfl) ?_
        refine s_nil (q_then ?_)
        refine c_t rfl rfl ?_
        refine c_skip ?_
        exact hJx_3 true _ _ _ _ [] H rfl ⟨rfl, rfl, True.intro⟩ rfl
      · refine s_p rfl (yF (y_eql rfl rfl) c_16) ?_
        refine s_p rfl (y_assign rfl) ?_
        refine s_nil (q_then ?_)
        refine c_f rfl rfl ?_
        refine c_seq ?_
        refine c_region ?_
        replace H := ite_e H
        rcases H with ⟨c_17, H⟩ | ⟨c_17, H⟩
        · refine s_p rfl (yT (y_eql rfl rfl) c_17) ?_
          refine s_p rfl (y_assign rfl) ?_
          refine s_nil (q_then ?_)
          refine c_t rfl rfl ?_
          refine c_skip ?_
          exact hJx_3 true _ _ _ _ [] H rfl ⟨rfl, rfl, True.intro⟩ rfl
        · refine s_p rfl (yF (y_eql rfl rfl) c_17) ?_
          refine s_p rfl (y_assign rfl) ?_
          refine s_nil (q_then ?_)
          refine c_f rfl rfl ?_
          refine c_region ?_
          replace H := ite_e H
          rcases H with ⟨c_18, H⟩ | ⟨c_18, H⟩
          · refine s_p rfl (yT (y_eql rfl rfl) c_18) ?_
            refine s_p rfl (y_assign rfl) ?_
            refine s_nil ?_
            exact hJx_3 true _ _ _ _ [] H rfl ⟨rfl, rfl, True.intro⟩ rfl
          · refine s_p rfl (yF (y_eql rfl rfl) c_18) ?_
            refine s_p rfl (y_assign rfl) ?_
            refine s_nil ?_
            exact hJx_3 false _ _ _ _ [] H rfl ⟨rfl, rfl, True.intro⟩ rfl
def b_hermitcrabref01_Name (S : Mem) (code : Int) (Q : ByteArray → Mem → Prop) : Prop :=
  al S 9 ([.string (⟨#[110, 111, 112]⟩), .string (⟨#[108, 105]⟩), .string (⟨#[108, 117]⟩), .string (⟨#[97, 100, 100]⟩), .string (⟨#[115, 117, 98]⟩), .string (⟨#[109, 117, 108]⟩), .string (⟨#[97, 110, 100]⟩), .string (⟨#[111, 114]⟩), .string (⟨#[120, 111, 114]⟩), .string (⟨#[115, 104, 108]⟩), .string (⟨#[115, 104, 114]⟩), .string (⟨#[97, 100, 100, 105]⟩), .string (⟨#[108, 100]⟩), .string (⟨#[115, 116]⟩), .string (⟨#[98, 101, 113]⟩), .string (⟨#[98, 110, 101]⟩), .string (⟨#[98, 108, 116]⟩), .string (⟨#[106, 97, 108]⟩), .string (⟨#[114, 100]⟩), .string (⟨#[119, 114]⟩), .string (⟨#[104, 118, 99]⟩), .string (⟨#[119, 102, 105]⟩), .string (⟨#[114, 101, 116]⟩)]) fun b Sx =>
  0 ≤ code ∧ code < 23 ∧
  gS (Sx.cell b (0 + code.toNat * 1)) fun t =>
  Q t Sx
theorem t_hermitcrabref01_Name {S : Mem} {code : Int} {Q : ByteArray → Mem → Prop} (H : b_hermitcrabref01_Name S code Q) : hermitcrabref01_Name S code Q := by
  unfold b_hermitcrabref01_Name at H
  refine Tr.intro Tryd.func24 rfl Tryd.ntmps24 rfl fun w0 => ?_
  refine c_seq ?_
  refine c_region ?_
  refine s_p rfl (y_assign rfl) ?_
  refine s_nil (q_then ?_)
  refine c_seq ?_
  refine c_region ?_
  refine s_bs rfl rfl (by decide) rfl fun b => ?_
  refine s_pub 0 rfl fun hb => ?_
  replace H := H b hb
  refine s_p rfl (y_move rfl) ?_
  obtain ⟨c, c_1, H⟩ := H
  refine s_p rfl (y_ixL rfl rfl c c_1 rfl) ?_
  obtain ⟨t, ht, H⟩ := H
  refine s_v rfl (y_ld rfl) (hc_S ht) ?_
  refine s_p rfl (y_assign rfl) ?_
  refine s_nil (q_then ?_)
  refine c_ret ?_
  exact q_ret Tryd.results24 (rv_tmp rfl rv_nil) ⟨_, rfl, H⟩
def b_hermitcrabref01_Num (S : Mem) (n : Int) (Q : ByteArray → Mem → Prop) : Prop :=
  jn (fun (Sx : Mem) =>
      jn (fun (Sx_1 : Mem) =>
          hermitcrabref01_Num Sx_1 (IntKind.i64.wrap (Int.tdiv n 10)) fun t Sx_2 =>
          ByteArray.size t + ByteArray.size (strOfNums [IntKind.u8.wrap (IntKind.i64.wrap (48 + (Int.tmod n 10)))]) ≤ 9223372036854775807 ∧
          Q (t ++ (strOfNums [IntKind.u8.wrap (IntKind.i64.wrap (48 + (Int.tmod n 10)))])) Sx_2) fun Jx =>
      if n < 10 then
        Q (strOfNums [IntKind.u8.wrap (IntKind.i64.wrap (48 + n))]) Sx
      else
      Jx Sx) fun Jx_1 =>
  if n < 0 then
    hermitcrabref01_Num S (IntKind.i64.wrap (0 - n)) fun t_1 Sx_3 =>
    ByteArray.size (⟨#[45]⟩) + ByteArray.size t_1 ≤ 9223372036854775807 ∧
    Q ((⟨#[45]⟩) ++ t_1) Sx_3
  else
  Jx_1 S
theorem t_hermitcrabref01_Num {S : Mem} {n : Int} {Q : ByteArray → Mem → Prop} (H : b_hermitcrabref01_Num S n Q) : hermitcrabref01_Num S n Q := by
  unfold b_hermitcrabref01_Num at H
  refine Tr.intro Tryd.func25 rfl Tryd.ntmps25 rfl fun w0 => ?_
  refine c_seq ?_
  refine c_region ?_
  refine s_p rfl (y_assign rfl) ?_
  refine s_nil (q_then ?_)
  refine c_join2 H (fun (J : Mem → Prop) (z : Unit) S => J S) (fun z => ⟨26, [(0, .int .i64 n)]⟩) (fun z => []) ?_ ?_
  · clear H
    rintro _ Sx H
    refine c_join2 H (fun (J : Mem → Prop) (z : Unit) S => J S) (fun z => ⟨26, [(0, .int .i64 n)]⟩) (fun z => []) ?_ ?_
    · clear H
      rintro _ Sx_1 H
      refine c_seq ?_
      refine c_drawn (by kernel_rfl) ?_
      refine a_takeP 0 rfl (by decide +kernel) (np_then np_body) rfl (y_move rfl) ?_
      refine a_takeP 1 rfl (by decide +kernel) (np_then np_body) rfl (y_quo rfl rfl (by decide)) ?_
      refine a_takeP 3 rfl (by decide +kernel) (np_then np_body) rfl (y_move rfl) ?_
      refine a_takeP 4 rfl (by decide +kernel) (np_then np_body) rfl (y_rem rfl rfl (by decide)) ?_
      refine a_takeP 5 rfl (by decide +kernel) (np_then np_body) rfl (y_add rfl rfl) ?_
      refine a_takeP 6 rfl (by decide +kernel) (np_then np_body) rfl (y_conv ⟨_, Tryd.underlying3⟩ rfl) ?_
      refine a_step2 2 7 (by decide +kernel) rfl rfl ?_ ?_
      · refine s_call rfl rfl H fun rv Sx_2 H2 => ?_
        clear H
        obtain ⟨t, rfl, H⟩ := H2
        refine s_nil (q_any ac_nil ?_)
        refine a_step 7 (by decide +kernel) rfl ?_
        refine s_bs rfl rfl (by decide) rfl fun b => ?_
        refine s_nil (q_any ac_nil ?_)
        refine a_take 8 rfl (by decide +kernel) (np_then np_body) rfl (y_bsV (xs := [IntKind.u8.wrap (IntKind.i64.wrap (48 + (Int.tmod n 10)))]) rfl rfl) (hc_VP (k := 1) 0 rfl rfl) ?_
        obtain ⟨c, H⟩ := H
        refine a_takeP 9 rfl (by decide +kernel) (np_then np_body) rfl (y_addS rfl rfl c) ?_
        refine a_takeP 10 rfl (by decide +kernel) (np_then np_body) rfl (y_assign rfl) ?_
        refine a_done (by decide +kernel) ?_
        refine q_then ?_
        refine c_ret ?_
        exact q_ret Tryd.results25 (rv_tmp rfl rv_nil) ⟨_, rfl, H⟩
      · refine s_bs rfl rfl (by decide) rfl fun b => ?_
        refine s_nil (q_any ac_nil ?_)
        refine a_take 8 rfl (by decide +kernel) (np_then np_body) rfl (y_bsV (xs := [IntKind.u8.wrap (IntKind.i64.wrap (48 + (Int.tmod n 10)))]) rfl rfl) (hc_VP (k := 1) 0 rfl rfl) ?_
        refine a_step 2 (by decide +kernel) rfl ?_
        refine s_call rfl rfl H fun rv Sx_2 H2 => ?_
        clear H
        obtain ⟨t, rfl, H⟩ := H2
        refine s_nil (q_any (ac_cons (hc_VP (k := 1) 0 rfl rfl) ac_nil) ?_)
        obtain ⟨c, H⟩ := H
        refine a_takeP 9 rfl (by decide +kernel) (np_then np_body) rfl (y_addS rfl rfl c) ?_
        refine a_takeP 10 rfl (by decide +kernel) (np_then np_body) rfl (y_assign rfl) ?_
        refine a_done (by decide +kernel) ?_
        refine q_then ?_
        refine c_ret ?_
        exact q_ret Tryd.results25 (rv_tmp rfl rv_nil) ⟨_, rfl, H⟩
    · clear H
      intro Jx hJx H
      refine c_seq ?_
      refine c_region ?_
      refine s_p rfl (y_move rfl) ?_
      replace H := ite_e H
      rcases H with ⟨c_1, H⟩ | ⟨c_1, H⟩
      · refine s_p rfl (yT (y_lss rfl rfl) c_1) ?_
        refine s_nil (q_then ?_)
        refine c_t rfl rfl ?_
        refine c_seq ?_
        refine c_region ?_
        refine s_p rfl (y_move rfl) ?_
        refine s_p rfl (y_add rfl rfl) ?_
        refine s_p rfl (y_conv ⟨_, Tryd.underlying3⟩ rfl) ?_
        refine s_bs rfl rfl (by decide) rfl fun b_1 => ?_
        refine s_v rfl (y_bsV (xs := [IntKind.u8.wrap (IntKind.i64.wrap (48 + n))]) rfl rfl) (hc_VP (k := 1) 0 rfl rfl) ?_
        refine s_p rfl (y_assign rfl) ?_
        refine s_nil (q_then ?_)
        refine c_ret (q_then_ret ?_)
        exact q_ret Tryd.results25 (rv_tmp rfl rv_nil) ⟨_, rfl, H⟩
      · refine s_p rfl (yF (y_lss rfl rfl) c_1) ?_
        refine s_nil (q_then ?_)
        refine c_f rfl rfl ?_
        refine c_skip ?_
        exact hJx () _ _ _ _ [] H rfl ⟨rfl, True.intro⟩ rfl
  · clear H
    intro Jx_1 hJx_1 H
    refine c_seq ?_
    refine c_region ?_
    refine s_p rfl (y_move rfl) ?_
    replace H := ite_e H
    rcases H with ⟨c_2, H⟩ | ⟨c_2, H⟩
    · refine s_p rfl (yT (y_lss rfl rfl) c_2) ?_
      refine s_nil (q_then ?_)
      refine c_t rfl rfl ?_
      refine c_seq ?_
      refine c_region ?_
      refine s_p rfl (y_move rfl) ?_
      refine s_p rfl (y_neg rfl) ?_
      refine s_call rfl rfl H fun rv Sx_3 H2 => ?_
      clear H
      obtain ⟨t_1, rfl, H⟩ := H2
      obtain ⟨c_3, H⟩ := H
      refine s_p rfl (y_addS rfl rfl c_3) ?_
      refine s_p rfl (y_assign rfl) ?_
      refine s_nil (q_then ?_)
      refine c_ret (q_then_ret ?_)
      exact q_ret Tryd.results25 (rv_tmp rfl rv_nil) ⟨_, rfl, H⟩
    · refine s_p rfl (yF (y_lss rfl rfl) c_2) ?_
      refine s_nil (q_then ?_)
      refine c_f rfl rfl ?_
      refine c_skip ?_
      exact hJx_1 () _ _ _ _ [] H rfl ⟨rfl, True.intro⟩ rfl
def b_word_Field (S : Mem) (w : Int) (atx : Int) (n : Int) (Q : Int → Mem → Prop) : Prop :=
  jn (fun (Sx : Mem) =>
      0 ≤ atx ∧
      if n < 64 then
        0 ≤ n ∧
        Q (iand .u64 (ishr .u64 w atx) (IntKind.u64.wrap ((ishl .u64 1 n) - 1))) Sx
      else
      Q (ishr .u64 w atx) Sx) fun Jx =>
  if atx < 0 then
    Q 0 S
  else
  if 63 < atx then
    Q 0 S
  else
  if n ≤ 0 then
    Q 0 S
  else
  Jx S
theorem t_word_Field {S : Mem} {w : Int} {atx : Int} {n : Int} {Q : Int → Mem → Prop} (H : b_word_Field S w atx n Q) : word_Field S w atx n Q := by
  unfold b_word_Field at H
  refine Tr.intro Tryd.func26 rfl Tryd.ntmps26 rfl fun w0 => ?_
  refine c_seq ?_
  refine c_region ?_
  refine s_p rfl (y_assign rfl) ?_
  refine s_nil (q_then ?_)
  refine c_join2 H (fun (J : Mem → Prop) (z : Unit) S => J S) (fun z => ⟨28, [(0, .int .u64 w), (1, .int .i64 atx), (2, .int .i64 n)]⟩) (fun z => []) ?_ ?_
  · clear H
    rintro _ Sx H
    refine c_seq ?_
    refine c_region ?_
    refine s_p rfl (y_move rfl) ?_
    refine s_p rfl (y_move rfl) ?_
    obtain ⟨c, H⟩ := H
    refine s_p rfl (y_shr rfl rfl c) ?_
    refine s_p rfl (y_assign rfl) ?_
    refine s_nil (q_then ?_)
    refine c_seq ?_
    refine c_seq ?_
    refine c_region ?_
    refine s_p rfl (y_move rfl) ?_
    replace H := ite_e H
    rcases H with ⟨c_1, H⟩ | ⟨c_1, H⟩
    · refine s_p rfl (yT (y_lss rfl rfl) c_1) ?_
      refine s_nil (q_then ?_)
      refine c_t rfl rfl ?_
      refine c_region ?_
      refine s_p rfl (y_move rfl) ?_
      refine s_p rfl (y_move rfl) ?_
      obtain ⟨c_2, H⟩ := H
      refine s_p rfl (y_shl rfl rfl c_2) ?_
      refine s_p rfl (y_sub rfl rfl) ?_
      refine s_p rfl (y_and rfl rfl) ?_
      refine s_p rfl (y_assign rfl) ?_
      refine s_nil (q_then ?_)
      refine c_seq ?_
      refine c_region ?_
      refine s_p rfl (y_move rfl) ?_
      refine s_p rfl (y_assign rfl) ?_
      refine s_nil (q_then ?_)
      refine c_ret ?_
      exact q_ret Tryd.results26 (rv_tmp rfl rv_nil) ⟨_, rfl, H⟩
    · refine s_p rfl (yF (y_lss rfl rfl) c_1) ?_
      refine s_nil (q_then ?_)
      refine c_f rfl rfl ?_
      refine c_skip (q_then ?_)
      refine c_seq ?_
      refine c_region ?_
      refine s_p rfl (y_move rfl) ?_
      refine s_p rfl (y_assign rfl) ?_
      refine s_nil (q_then ?_)
      refine c_ret ?_
      exact q_ret Tryd.results26 (rv_tmp rfl rv_nil) ⟨_, rfl, H⟩
  · clear H
    intro Jx hJx H
    refine c_seq ?_
    refine c_region ?_
    refine s_p rfl (y_move rfl) ?_
    replace H := ite_e H
    rcases H with ⟨c_3, H⟩ | ⟨c_3, H⟩
    · refine s_p rfl (yT (y_lss rfl rfl) c_3) ?_
      refine s_p rfl (y_move rfl) ?_
      refine s_skip rfl ?_
      refine s_skip rfl ?_
      refine s_p rfl (y_pick rfl rfl) ?_
      refine s_p rfl (y_move rfl) ?_
      refine s_skip rfl ?_
      refine s_skip rfl ?_
      refine s_p rfl (y_pick rfl rfl) ?_
      refine s_nil (q_then ?_)
      refine c_t rfl rfl ?_
      refine c_seq ?_
      refine c_region ?_
      refine s_p rfl (y_assign rfl) ?_
      refine s_nil (q_then ?_)
      refine c_ret (q_then_ret ?_)
      exact q_ret Tryd.results26 (rv_tmp rfl rv_nil) ⟨_, rfl, H⟩
    · refine s_p rfl (yF (y_lss rfl rfl) c_3) ?_
      refine s_p rfl (y_move rfl) ?_
      refine s_p rfl (y_move rfl) ?_
      replace H := ite_e H
      rcases H with ⟨c_4, H⟩ | ⟨c_4, H⟩
      · refine s_p rfl (yT (y_gtr rfl rfl) c_4) ?_
        refine s_p rfl (y_pick rfl rfl) ?_
        refine s_p rfl (y_move rfl) ?_
        refine s_skip rfl ?_
        refine s_skip rfl ?_
        refine s_p rfl (y_pick rfl rfl) ?_
        refine s_nil (q_then ?_)
        refine c_t rfl rfl ?_
        refine c_seq ?_
        refine c_region ?_
        refine s_p rfl (y_assign rfl) ?_
        refine s_nil (q_then ?_)
        refine c_ret (q_then_ret ?_)
        exact q_ret Tryd.results26 (rv_tmp rfl rv_nil) ⟨_, rfl, H⟩
      · refine s_p rfl (yF (y_gtr rfl rfl) c_4) ?_
        refine s_p rfl (y_pick rfl rfl) ?_
        refine s_p rfl (y_move rfl) ?_
        refine s_p rfl (y_move rfl) ?_
        replace H := ite_e H
        rcases H with ⟨c_5, H⟩ | ⟨c_5, H⟩
        · refine s_p rfl (yT (y_leq rfl rfl) c_5) ?_
          refine s_p rfl (y_pick rfl rfl) ?_
          refine s_nil (q_then ?_)
          refine c_t rfl rfl ?_
          refine c_seq ?_
          refine c_region ?_
          refine s_p rfl (y_assign rfl) ?_
          refine s_nil (q_then ?_)
          refine c_ret (q_then_ret ?_)
          exact q_ret Tryd.results26 (rv_tmp rfl rv_nil) ⟨_, rfl, H⟩
        · refine s_p rfl (yF (y_leq rfl rfl) c_5) ?_
          refine s_p rfl (y_pick rfl rfl) ?_
          refine s_nil (q_then ?_)
          refine c_f rfl rfl ?_
          refine c_skip ?_
          exact hJx () _ _ _ _ [] H rfl ⟨rfl, rfl, rfl, True.intro⟩ rfl
def b_code_fields (S : Mem) (code : Int) (Q : List Value → Mem → Prop) : Prop :=
  jn (fun (v : List Value) (Sx : Mem) =>
      v.length = 4 ∧
      Q ([.bool true, .bool true, .bool true, .bool false]) Sx) fun Jx =>
  jn (fun (t : Bool) (Sx_1 : Mem) =>
      if t = true then
        Q ([.bool false, .bool false, .bool false, .bool false]) Sx_1
      else
      jn (fun (t_1 : Bool) (Sx_2 : Mem) =>
          if t_1 = true then
            Q ([.bool true, .bool false, .bool false, .bool true]) Sx_2
          else
          if code = 20 then
            Q ([.bool false, .bool false, .bool false, .bool true]) Sx_2
          else
          jn (fun (t_2 : Bool) (Sx_3 : Mem) =>
              if t_2 = true then
                Q ([.bool true, .bool true, .bool false, .bool true]) Sx_3
              else
              Jx ([.bool false, .bool false, .bool false, .bool false]) Sx_3) fun Jx_1 =>
          if code = 11 then
            Jx_1 true Sx_2
          else
          if code = 12 then
            Jx_1 true Sx_2
          else
          if code = 13 then
            Jx_1 true Sx_2
          else
          if code = 14 then
            Jx_1 true Sx_2
          else
          if code = 15 then
            Jx_1 true Sx_2
          else
          if code = 16 then
            Jx_1 true Sx_2
          else
          if code = 17 then
            Jx_1 true Sx_2
          else
          Jx_1 false Sx_2) fun Jx_2 =>
      if code = 1 then
        Jx_2 true Sx_1
      else
      if code = 2 then
        Jx_2 true Sx_1
      else
      if code = 18 then
        Jx_2 true Sx_1
      else
      if code = 19 then
        Jx_2 true Sx_1
      else
      Jx_2 false Sx_1) fun Jx_3 =>
  if code = 0 then
    Jx_3 true S
  else
  if code = 21 then
    Jx_3 true S
  else
  if code = 22 then
    Jx_3 true S
  else
  Jx_3 false S
theorem t_code_fields {S : Mem} {code : Int} {Q : List Value → Mem → Prop} (H : b_code_fields S code Q) : code_fields S code Q := by
  unfold b_code_fields at H
  refine Tr.intro Tryd.func27 rfl Tryd.ntmps27 rfl fun w0 => ?_
  refine c_seq ?_
  refine c_region ?_
  refine s_alloc rfl fun b => ?_
  refine s_nil (q_then ?_)
  refine c_join2 H (fun (J : List Value → Mem → Prop) (z : List Value) S => J z S) (fun z => ⟨28, [(2, .pointer (some ⟨b, 0, none⟩))]⟩) (fun z => [⟨b, 63, z⟩]) ?_ ?_
  · clear H
    rintro v Sx H
    obtain ⟨hv, H⟩ := H
    refine c_seq ?_
    refine c_region ?_
    refine s_p rfl (y_build rfl rfl) ?_
    refine s_stV_all 0 rfl rfl rfl rfl rfl rfl hv rfl ?_
    refine s_nil (q_then ?_)
    refine c_ret ?_
    exact q_ret Tryd.results27 (rv_cellA rfl (hc_VP (k := 4) 0 rfl rfl) rfl rv_nil) ⟨_, rfl, rfl, H⟩
  · clear H
    intro Jx hJx H
    refine c_seq ?_
    refine c_region ?_
    refine s_p rfl (y_move rfl) ?_
    refine s_nil (q_then ?_)
    refine c_block ?_
    refine c_join2 H (fun (J : Bool → Mem → Prop) (z : Bool) S => J z S) (fun z => ⟨28, [(2, .pointer (some ⟨b, 0, none⟩)), (3, .int .u8 code), (4, .bool z)]⟩) (fun z => [⟨b, 63, [.bool false, .bool false, .bool false, .bool false]⟩]) ?_ ?_
    · clear H
      rintro t Sx_1 H
      replace H := ib_e H
      rcases H with ⟨c, H⟩ | ⟨c, H⟩
      · refine c_t rfl c ?_
        refine c_seq ?_
        refine c_region ?_
        refine s_p rfl (y_build rfl rfl) ?_
        refine s_stV (sz := 4) (vs := [.bool false, .bool false, .bool false, .bool false]) 0 rfl rfl rfl rfl rfl rfl (Nat.le_of_ble_eq_true rfl) rfl ?_
        refine s_nil (q_then ?_)
        refine c_ret (q_blk_ret (q_then_ret ?_))
        exact q_ret Tryd.results27 (rv_cellA rfl (hc_VP (k := 4) 0 rfl rfl) rfl rv_nil) ⟨_, rfl, rfl, H⟩
      · refine c_f rfl c ?_
        refine c_join2 H (fun (J : Bool → Mem → Prop) (z : Bool) S => J z S) (fun z => ⟨28, [(2, .pointer (some ⟨b, 0, none⟩)), (3, .int .u8 code), (9, .bool z)]⟩) (fun z => [⟨b, 63, [.bool false, .bool false, .bool false, .bool false]⟩]) ?_ ?_
        · clear H
          rintro t_1 Sx_2 H
          replace H := ib_e H
          rcases H with ⟨c_1, H⟩ | ⟨c_1, H⟩
          · refine c_t rfl c_1 ?_
            refine c_seq ?_
            refine c_region ?_
            refine s_p rfl (y_build rfl rfl) ?_
            refine s_stV (sz := 4) (vs := [.bool true, .bool false, .bool false, .bool true]) 0 rfl rfl rfl rfl rfl rfl (Nat.le_of_ble_eq_true rfl) rfl ?_
            refine s_nil (q_then ?_)
            refine c_ret (q_blk_ret (q_then_ret ?_))
            exact q_ret Tryd.results27 (rv_cellA rfl (hc_VP (k := 4) 0 rfl rfl) rfl rv_nil) ⟨_, rfl, rfl, H⟩
          · refine c_f rfl c_1 ?_
            refine c_seq ?_
            refine c_region ?_
            replace H := ite_e H
            rcases H with ⟨c_2, H⟩ | ⟨c_2, H⟩
            · refine s_p rfl (yT (y_eql rfl rfl) c_2) ?_
              refine s_p rfl (y_assign rfl) ?_
              refine s_nil (q_then ?_)
              refine c_t rfl rfl ?_
              refine c_seq ?_
              refine c_region ?_
              refine s_p rfl (y_build rfl rfl) ?_
              refine s_stV (sz := 4) (vs := [.bool false, .bool false, .bool false, .bool true]) 0 rfl rfl rfl rfl rfl rfl (Nat.le_of_ble_eq_true rfl) rfl ?_
              refine s_nil (q_then ?_)
              refine c_ret (q_blk_ret (q_then_ret ?_))
              exact q_ret Tryd.results27 (rv_cellA rfl (hc_VP (k := 4) 0 rfl rfl) rfl rv_nil) ⟨_, rfl, rfl, H⟩
            · refine s_p rfl (yF (y_eql rfl rfl) c_2) ?_
              refine s_p rfl (y_assign rfl) ?_
              refine s_nil (q_then ?_)
              refine c_f rfl rfl ?_
              refine c_join2 H (fun (J : Bool → Mem → Prop) (z : Bool) S => J z S) (fun z => ⟨28, [(2, .pointer (some ⟨b, 0, none⟩)), (18, .bool z)]⟩) (fun z => [⟨b, 63, [.bool false, .bool false, .bool false, .bool false]⟩]) ?_ ?_
              · clear H
                rintro t_2 Sx_3 H
                replace H := ib_e H
                rcases H with ⟨c_3, H⟩ | ⟨c_3, H⟩
                · refine c_t rfl c_3 ?_
                  refine c_seq ?_
                  refine c_region ?_
                  refine s_p rfl (y_build rfl rfl) ?_
                  refine s_stV (sz := 4) (vs := [.bool true, .bool true, .bool false, .bool true]) 0 rfl rfl rfl rfl rfl rfl (Nat.le_of_ble_eq_true rfl) rfl ?_
                  refine s_nil (q_then ?_)
                  refine c_ret (q_blk_ret (q_then_ret ?_))
                  exact q_ret Tryd.results27 (rv_cellA rfl (hc_VP (k := 4) 0 rfl rfl) rfl rv_nil) ⟨_, rfl, rfl, H⟩
                · refine c_f rfl c_3 ?_
                  refine c_skip (q_blk ?_)
                  exact hJx ([.bool false, .bool false, .bool false, .bool false]) _ _ _ _ [0] H rfl ⟨rfl, True.intro⟩ rfl
              · clear H
                intro Jx_1 hJx_1 H
                refine c_seq ?_
                refine c_region ?_
                replace H := ite_e H
                rcases H with ⟨c_4, H⟩ | ⟨c_4, H⟩
                · refine s_p rfl (yT (y_eql rfl rfl) c_4) ?_
                  refine s_p rfl (y_assign rfl) ?_
                  refine s_nil (q_then ?_)
                  refine c_t rfl rfl ?_
                  refine c_skip ?_
                  exact hJx_1 true _ _ _ _ [0] H rfl ⟨rfl, rfl, True.intro⟩ rfl
                · refine s_p rfl (yF (y_eql rfl rfl) c_4) ?_
                  refine s_p rfl (y_assign rfl) ?_
                  refine s_nil (q_then ?_)
                  refine c_f rfl rfl ?_
                  refine c_seq ?_
                  refine c_region ?_
                  replace H := ite_e H
                  rcases H with ⟨c_5, H⟩ | ⟨c_5, H⟩
                  · refine s_p rfl (yT (y_eql rfl rfl) c_5) ?_
                    refine s_p rfl (y_assign rfl) ?_
                    refine s_nil (q_then ?_)
                    refine c_t rfl rfl ?_
                    refine c_skip ?_
                    exact hJx_1 true _ _ _ _ [0] H rfl ⟨rfl, rfl, True.intro⟩ rfl
                  · refine s_p rfl (yF (y_eql rfl rfl) c_5) ?_
                    refine s_p rfl (y_assign rfl) ?_
                    refine s_nil (q_then ?_)
                    refine c_f rfl rfl ?_
                    refine c_seq ?_
                    refine c_region ?_
                    replace H := ite_e H
                    rcases H with ⟨c_6, H⟩ | ⟨c_6, H⟩
                    · refine s_p rfl (yT (y_eql rfl rfl) c_6) ?_
                      refine s_p rfl (y_assign rfl) ?_
                      refine s_nil (q_then ?_)
                      refine c_t rfl rfl ?_
                      refine c_skip ?_
                      exact hJx_1 true _ _ _ _ [0] H rfl ⟨rfl, rfl, True.intro⟩ rfl
                    · refine s_p rfl (yF (y_eql rfl rfl) c_6) ?_
                      refine s_p rfl (y_assign rfl) ?_
                      refine s_nil (q_then ?_)
                      refine c_f rfl rfl ?_
                      refine c_seq ?_
                      refine c_region ?_
                      replace H := ite_e H
                      rcases H with ⟨c_7, H⟩ | ⟨c_7, H⟩
                      · refine s_p rfl (yT (y_eql rfl rfl) c_7) ?_
                        refine s_p rfl (y_assign rfl) ?_
                        refine s_nil (q_then ?_)
                        refine c_t rfl rfl ?_
                        refine c_skip ?_
                        exact hJx_1 true _ _ _ _ [0] H rfl ⟨rfl, rfl, True.intro⟩ rfl
                      · refine s_p rfl (yF (y_eql rfl rfl) c_7) ?_
                        refine s_p rfl (y_assign rfl) ?_
                        refine s_nil (q_then ?_)
                        refine c_f rfl rfl ?_
                        refine c_seq ?_
                        refine c_region ?_
                        replace H := ite_e H
                        rcases H with ⟨c_8, H⟩ | ⟨c_8, H⟩
                        · refine s_p rfl (yT (y_eql rfl rfl) c_8) ?_
                          refine s_p rfl (y_assign rfl) ?_
                          refine s_nil (q_then ?_)
                          refine c_t rfl rfl ?_
                          refine c_skip ?_
                          exact hJx_1 true _ _ _ _ [0] H rfl ⟨rfl, rfl, True.intro⟩ rfl
                        · refine s_p rfl (yF (y_eql rfl rfl) c_8) ?_
                          refine s_p rfl (y_assign rfl) ?_
                          refine s_nil (q_then ?_)
                          refine c_f rfl rfl ?_
                          refine c_seq ?_
                          refine c_region ?_
                          replace H := ite_e H
                          rcases H with ⟨c_9, H⟩ | ⟨c_9, H⟩
                          · refine s_p rfl (yT (y_eql rfl rfl) c_9) ?_
                            refine s_p rfl (y_assign rfl) ?_
                            refine s_nil (q_then ?_)
                            refine c_t rfl rfl ?_
                            refine c_skip ?_
                            exact hJx_1 true _ _ _ _ [0] H rfl ⟨rfl, rfl, True.intro⟩ rfl
                          · refine s_p rfl (yF (y_eql rfl rfl) c_9) ?_
                            refine s_p rfl (y_assign rfl) ?_
                            refine s_nil (q_then ?_)
                            refine c_f rfl rfl ?_
                            refine c_region ?_
                            replace H := ite_e H
                            rcases H with ⟨c_10, H⟩ | ⟨c_10, H⟩
                            · refine s_p rfl (yT (y_eql rfl rfl) c_10) ?_
                              refine s_p rfl (y_assign rfl) ?_
                              refine s_nil ?_
                              exact hJx_1 true _ _ _ _ [0] H rfl ⟨rfl, rfl, True.intro⟩ rfl
                            · refine s_p rfl (yF (y_eql rfl rfl) c_10) ?_
                              refine s_p rfl (y_assign rfl) ?_
                              refine s_nil ?_
                              exact hJx_1 false _ _ _ _ [0] H rfl ⟨rfl, rfl, True.intro⟩ rfl
        · clear H
          intro Jx_2 hJx_2 H
          refine c_seq ?_
          refine c_region ?_
          replace H := ite_e H
          rcases H with ⟨c_11, H⟩ | ⟨c_11, H⟩
          · refine s_p rfl (yT (y_eql rfl rfl) c_11) ?_
            refine s_p rfl (y_assign rfl) ?_
            refine s_nil (q_then ?_)
            refine c_t rfl rfl ?_
            refine c_skip ?_
            exact hJx_2 true _ _ _ _ [0] H rfl ⟨rfl, rfl, rfl, True.intro⟩ rfl
          · refine s_p rfl (yF (y_eql rfl rfl) c_11) ?_
            refine s_p rfl (y_assign rfl) ?_
            refine s_nil (q_then ?_)
            refine c_f rfl rfl ?_
            refine c_seq ?_
            refine c_region ?_
            replace H := ite_e H
            rcases H with ⟨c_12, H⟩ | ⟨c_12, H⟩
            · refine s_p rfl (yT (y_eql rfl rfl) c_12) ?_
              refine s_p rfl (y_assign rfl) ?_
              refine s_nil (q_then ?_)
              refine c_t rfl rfl ?_
              refine c_skip ?_
              exact hJx_2 true _ _ _ _ [0] H rfl ⟨rfl, rfl, rfl, True.intro⟩ rfl
            · refine s_p rfl (yF (y_eql rfl rfl) c_12) ?_
              refine s_p rfl (y_assign rfl) ?_
              refine s_nil (q_then ?_)
              refine c_f rfl rfl ?_
              refine c_seq ?_
              refine c_region ?_
              replace H := ite_e H
              rcases H with ⟨c_13, H⟩ | ⟨c_13, H⟩
              · refine s_p rfl (yT (y_eql rfl rfl) c_13) ?_
                refine s_p rfl (y_assign rfl) ?_
                refine s_nil (q_then ?_)
                refine c_t rfl rfl ?_
                refine c_skip ?_
                exact hJx_2 true _ _ _ _ [0] H rfl ⟨rfl, rfl, rfl, True.intro⟩ rfl
              · refine s_p rfl (yF (y_eql rfl rfl) c_13) ?_
                refine s_p rfl (y_assign rfl) ?_
                refine s_nil (q_then ?_)
                refine c_f rfl rfl ?_
                refine c_region ?_
                replace H := ite_e H
                rcases H with ⟨c_14, H⟩ | ⟨c_14, H⟩
                · refine s_p rfl (yT (y_eql rfl rfl) c_14) ?_
                  refine s_p rfl (y_assign rfl) ?_
                  refine s_nil ?_
                  exact hJx_2 true _ _ _ _ [0] H rfl ⟨rfl, rfl, rfl, True.intro⟩ rfl
                · refine s_p rfl (yF (y_eql rfl rfl) c_14) ?_
                  refine s_p rfl (y_assign rfl) ?_
                  refine s_nil ?_
                  exact hJx_2 false _ _ _ _ [0] H rfl ⟨rfl, rfl, rfl, True.intro⟩ rfl
    · clear H
      intro Jx_3 hJx_3 H
      refine c_seq ?_
      refine c_region ?_
      replace H := ite_e H
      rcases H with ⟨c_15, H⟩ | ⟨c_15, H⟩
      · refine s_p rfl (yT (y_eql rfl rfl) c_15) ?_
        refine s_p rfl (y_assign rfl) ?_
        refine s_nil (q_then ?_)
        refine c_t rfl rfl ?_
        refine c_skip ?_
        exact hJx_3 true _ _ _ _ [0] H rfl ⟨rfl, rfl, rfl, True.intro⟩ rfl
      · refine s_p rfl (yF (y_eql rfl rfl) c_15) ?_
        refine s_p rfl (y_assign rfl) ?_
        refine s_nil (q_then ?_)
        refine c_f rfl rfl ?_
        refine c_seq ?_
        refine c_region ?_
        replace H := ite_e H
        rcases H with ⟨c_16, H⟩ | ⟨c_16, H⟩
        · refine s_p rfl (yT (y_eql rfl rfl) c_16) ?_
          refine s_p rfl (y_assign rfl) ?_
          refine s_nil (q_then ?_)
          refine c_t rfl rfl ?_
          refine c_skip ?_
          exact hJx_3 true _ _ _ _ [0] H rfl ⟨rfl, rfl, rfl, True.intro⟩ rfl
        · refine s_p rfl (yF (y_eql rfl rfl) c_16) ?_
          refine s_p rfl (y_assign rfl) ?_
          refine s_nil (q_then ?_)
          refine c_f rfl rfl ?_
          refine c_region ?_
          replace H := ite_e H
          rcases H with ⟨c_17, H⟩ | ⟨c_17, H⟩
          · refine s_p rfl (yT (y_eql rfl rfl) c_17) ?_
            refine s_p rfl (y_assign rfl) ?_
            refine s_nil ?_
            exact hJx_3 true _ _ _ _ [0] H rfl ⟨rfl, rfl, rfl, True.intro⟩ rfl
          · refine s_p rfl (yF (y_eql rfl rfl) c_17) ?_
            refine s_p rfl (y_assign rfl) ?_
            refine s_nil ?_
            exact hJx_3 false _ _ _ _ [0] H rfl ⟨rfl, rfl, rfl, True.intro⟩ rfl
def b_code_Encode (S : Mem) (o : List Value) (Q : Int → Bool → Mem → Prop) : Prop :=
  o.length = 5 ∧
  jn (fun (Sx : Mem) =>
      gI (nthL o 0) .u8 fun t =>
      word_With Sx 0 26 6 (IntKind.u64.wrap t) fun t_1 Sx_1 =>
      gI (nthL o 1) .u8 fun t_2 =>
      word_With Sx_1 t_1 22 4 (IntKind.u64.wrap t_2) fun t_3 Sx_2 =>
      gI (nthL o 2) .u8 fun t_4 =>
      word_With Sx_2 t_3 18 4 (IntKind.u64.wrap t_4) fun t_5 Sx_3 =>
      jn (fun (Sx_4 : Mem) =>
          gI (nthL o 4) .i16 fun t_6 =>
          word_With Sx_4 t_5 0 16 (IntKind.u64.wrap (IntKind.u16.wrap t_6)) fun t_7 Sx_5 =>
          Q (IntKind.u32.wrap t_7) true Sx_5) fun Jx =>
      gI (nthL o 0) .u8 fun t_8 =>
      code_fields Sx_3 t_8 fun t_9 Sx_6 =>
      gB (nthL t_9 2) fun t_10 =>
      if t_10 = true then
        gI (nthL o 3) .u8 fun t_11 =>
        word_With Sx_6 t_5 0 4 (IntKind.u64.wrap t_11) fun t_12 Sx_7 =>
        Q (IntKind.u32.wrap t_12) true Sx_7
      else
      Jx Sx_6) fun Jx_1 =>
  code_Right S o fun t_13 Sx_8 =>
  if t_13 = true then
    Jx_1 Sx_8
  else
  Q 0 false Sx_8
theorem t_code_Encode {S : Mem} {o : List Value} {Q : Int → Bool → Mem → Prop} (H : b_code_Encode S o Q) : code_Encode S o Q := by
  unfold b_code_Encode at H
  refine Tr.intro Tryd.func28 rfl Tryd.ntmps28 rfl fun w0 => ?_
  obtain ⟨ho, H⟩ := H
  refine c_seq ?_
  refine c_region ?_
  refine s_box rfl rfl rfl fun b => ?_
  refine s_p rfl (y_assign rfl) ?_
  refine s_p rfl (y_assign rfl) ?_
  refine s_nil (q_then ?_)
  refine c_join2 H (fun (J : Mem → Prop) (z : Unit) S => J S) (fun z => ⟨39, [(1, .pointer (some ⟨b, 0, none⟩))]⟩) (fun z => [⟨b, 24, o⟩]) ?_ ?_
  · clear H
    rintro _ Sx H
    refine c_seq ?_
    refine c_region ?_
    refine s_p rfl (y_fa rfl rfl) ?_
    obtain ⟨t, ht, H⟩ := H
    refine s_v rfl (y_ld rfl) (hc_V 0 rfl ht) ?_
    refine s_p rfl (y_conv ⟨_, Tryd.underlying5⟩ rfl) ?_
    refine s_call rfl rfl H fun rv Sx_1 H2 => ?_
    clear H
    obtain ⟨t_1, rfl, H⟩ := H2
    refine s_p rfl (y_assign rfl) ?_
    refine s_nil (q_then ?_)
    refine c_seq ?_
    refine c_region ?_
    refine s_p rfl (y_move rfl) ?_
    refine s_p rfl (y_fa rfl rfl) ?_
    obtain ⟨t_2, ht_2, H⟩ := H
    refine s_v rfl (y_ld rfl) (hc_V 0 rfl ht_2) ?_
    refine s_p rfl (y_conv ⟨_, Tryd.underlying5⟩ rfl) ?_
    refine s_call rfl rfl H fun rv Sx_2 H2 => ?_
    clear H
    obtain ⟨t_3, rfl, H⟩ := H2
    refine s_p rfl (y_assign rfl) ?_
    refine s_nil (q_then ?_)
    refine c_seq ?_
    refine c_region ?_
    refine s_p rfl (y_move rfl) ?_
    refine s_p rfl (y_fa rfl rfl) ?_
    obtain ⟨t_4, ht_4, H⟩ := H
    refine s_v rfl (y_ld rfl) (hc_V 0 rfl ht_4) ?_
    refine s_p rfl (y_conv ⟨_, Tryd.underlying5⟩ rfl) ?_
    refine s_call rfl rfl H fun rv Sx_3 H2 => ?_
    clear H
    obtain ⟨t_5, rfl, H⟩ := H2
    refine s_p rfl (y_assign rfl) ?_
    refine s_nil (q_then ?_)
    refine c_join2 H (fun (J : Mem → Prop) (z : Unit) S => J S) (fun z => ⟨39, [(1, .pointer (some ⟨b, 0, none⟩)), (4, .int .u64 t_5)]⟩) (fun z => [⟨b, 24, o⟩]) ?_ ?_
    · clear H
      rintro _ Sx_4 H
      refine c_seq ?_
      refine c_region ?_
      refine s_p rfl (y_move rfl) ?_
      refine s_p rfl (y_fa rfl rfl) ?_
      obtain ⟨t_6, ht_6, H⟩ := H
      refine s_v rfl (y_ld rfl) (hc_V 0 rfl ht_6) ?_
      refine s_p rfl (y_conv ⟨_, Tryd.underlying22⟩ rfl) ?_
      refine s_p rfl (y_conv ⟨_, Tryd.underlying52⟩ rfl) ?_
      refine s_call rfl rfl H fun rv Sx_5 H2 => ?_
      clear H
      obtain ⟨t_7, rfl, H⟩ := H2
      refine s_p rfl (y_conv ⟨_, Tryd.underlying60⟩ rfl) ?_
      refine s_p rfl (y_assign rfl) ?_
      refine s_p rfl (y_assign rfl) ?_
      refine s_nil (q_then ?_)
      refine c_ret ?_
      exact q_ret Tryd.results28 (rv_tmp rfl (rv_tmp rfl rv_nil)) ⟨_, _, rfl, H⟩
    · clear H
      intro Jx hJx H
      refine c_seq ?_
      refine c_region ?_
      refine s_p rfl (y_fa rfl rfl) ?_
      obtain ⟨t_8, ht_8, H⟩ := H
      refine s_v rfl (y_ld rfl) (hc_V 0 rfl ht_8) ?_
      refine s_call rfl rfl H fun rv Sx_6 H2 => ?_
      clear H
      obtain ⟨t_9, rfl, ht_9, H⟩ := H2
      obtain ⟨t_10, ht_10, H⟩ := H
      replace H := ib_e H
      rcases H with ⟨rfl, H⟩ | ⟨rfl, H⟩
      · refine s_p rfl (y_field rfl ht_10) ?_
        refine s_nil (q_then ?_)
        refine c_t rfl rfl ?_
        refine c_seq ?_
        refine c_region ?_
        refine s_p rfl (y_move rfl) ?_
        refine s_p rfl (y_fa rfl rfl) ?_
        obtain ⟨t_11, ht_11, H⟩ := H
        refine s_v rfl (y_ld rfl) (hc_V 0 rfl ht_11) ?_
        refine s_p rfl (y_conv ⟨_, Tryd.underlying5⟩ rfl) ?_
        refine s_call rfl rfl H fun rv Sx_7 H2 => ?_
        clear H
        obtain ⟨t_12, rfl, H⟩ := H2
        refine s_p rfl (y_conv ⟨_, Tryd.underlying60⟩ rfl) ?_
        refine s_p rfl (y_assign rfl) ?_
        refine s_p rfl (y_assign rfl) ?_
        refine s_nil (q_then ?_)
        refine c_ret (q_then_ret ?_)
        exact q_ret Tryd.results28 (rv_tmp rfl (rv_tmp rfl rv_nil)) ⟨_, _, rfl, H⟩
      · refine s_p rfl (y_field rfl ht_10) ?_
        refine s_nil (q_then ?_)
        refine c_f rfl rfl ?_
        refine c_skip ?_
        exact hJx () _ _ _ _ [0] H rfl ⟨rfl, rfl, True.intro⟩ rfl
  · clear H
    intro Jx_1 hJx_1 H
    refine c_seq ?_
    refine c_region ?_
    refine s_v rfl (y_ldA rfl ho) (hc_VP (k := 5) 0 rfl (lpart_all ho)) ?_
    refine s_call rfl rfl H fun rv Sx_8 H2 => ?_
    clear H
    obtain ⟨t_13, rfl, H⟩ := H2
    replace H := ib_e H
    rcases H with ⟨rfl, H⟩ | ⟨rfl, H⟩
    · skip
      refine s_p rfl (yB (y_not rfl) rfl) ?_
      refine s_nil (q_then ?_)
      refine c_f rfl rfl ?_
      refine c_skip ?_
      exact hJx_1 () _ _ _ _ [0] H rfl ⟨rfl, True.intro⟩ rfl
    · skip
      refine s_p rfl (yB (y_not rfl) rfl) ?_
      refine s_nil (q_then ?_)
      refine c_t rfl rfl ?_
      refine c_seq ?_
      refine c_region ?_
      refine s_p rfl (y_assign rfl) ?_
      refine s_p rfl (y_assign rfl) ?_
      refine s_nil (q_then ?_)
      refine c_ret (q_then_ret ?_)
      exact q_ret Tryd.results28 (rv_tmp rfl (rv_tmp rfl rv_nil)) ⟨_, _, rfl, H⟩
def b_code_Right_f1 (S : Mem) (isx : Bool) (r : Int) (Q : Bool → Mem → Prop) : Prop :=
  if r = 0 then
    Q true S
  else
  if isx = true then
    Q (decide (r < 16)) S
  else
  Q false S
theorem t_code_Right_f1 {S : Mem} {isx : Bool} {r : Int} {Q : Bool → Mem → Prop} (H : b_code_Right_f1 S isx r Q) : code_Right_f1 S isx r Q := by
  unfold b_code_Right_f1 at H
  refine Tr.intro Tryd.func30 rfl Tryd.ntmps30 rfl fun w0 => ?_
  refine c_seq ?_
  refine c_region ?_
  refine s_p rfl (y_assign rfl) ?_
  refine s_nil (q_then ?_)
  refine c_seq ?_
  refine c_region ?_
  refine s_p rfl (y_move rfl) ?_
  replace H := ite_e H
  rcases H with ⟨c, H⟩ | ⟨c, H⟩
  · refine s_p rfl (yT (y_eql rfl rfl) c) ?_
    refine s_p rfl (y_move rfl) ?_
    refine s_skip rfl ?_
    refine s_skip rfl ?_
    refine s_skip rfl ?_
    refine s_skip rfl ?_
    refine s_skip rfl ?_
    refine s_p rfl (y_pick rfl rfl) ?_
    refine s_p rfl (y_assign rfl) ?_
    refine s_nil (q_then ?_)
    refine c_ret ?_
    exact q_ret Tryd.results30 (rv_tmp rfl rv_nil) ⟨_, rfl, H⟩
  · refine s_p rfl (yF (y_eql rfl rfl) c) ?_
    refine s_p rfl (y_move rfl) ?_
    replace H := ite_e H
    rcases H with ⟨c_1, H⟩ | ⟨c_1, H⟩
    · refine s_p rfl (y_moveB rfl c_1) ?_
      refine s_p rfl (y_move rfl) ?_
      refine s_p rfl (y_move rfl) ?_
      refine s_p rfl (y_lss rfl rfl) ?_
      refine s_p rfl (y_pick rfl rfl) ?_
      refine s_p rfl (y_pick rfl rfl) ?_
      refine s_p rfl (y_assign rfl) ?_
      refine s_nil (q_then ?_)
      refine c_ret ?_
      exact q_ret Tryd.results30 (rv_tmp rfl rv_nil) ⟨_, rfl, H⟩
    · refine s_p rfl (y_moveB rfl (bf_of c_1)) ?_
      refine s_p rfl (y_move rfl) ?_
      refine s_skip rfl ?_
      refine s_skip rfl ?_
      refine s_p rfl (y_pick rfl rfl) ?_
      refine s_p rfl (y_pick rfl rfl) ?_
      refine s_p rfl (y_assign rfl) ?_
      refine s_nil (q_then ?_)
      refine c_ret ?_
      exact q_ret Tryd.results30 (rv_tmp rfl rv_nil) ⟨_, rfl, H⟩
def b_word_With (S : Mem) (w : Int) (atx : Int) (n : Int) (v : Int) (Q : Int → Mem → Prop) : Prop :=
  jn (fun (Sx : Mem) =>
      jn (fun (mask : Int) (Sx_1 : Mem) =>
          0 ≤ atx ∧
          0 ≤ atx ∧
          Q (ior .u64 (iandn .u64 w (ishl .u64 mask atx)) (ishl .u64 (iand .u64 v mask) atx)) Sx_1) fun Jx =>
      if n < 64 then
        0 ≤ n ∧
        Jx (IntKind.u64.wrap ((ishl .u64 1 n) - 1)) Sx
      else
      Jx 18446744073709551615 Sx) fun Jx_1 =>
  if atx < 0 then
    Q w S
  else
  if 63 < atx then
    Q w S
  else
  if n ≤ 0 then
    Q w S
  else
  Jx_1 S
theorem t_word_With {S : Mem} {w : Int} {atx : Int} {n : Int} {v : Int} {Q : Int → Mem → Prop} (H : b_word_With S w atx n v Q) : word_With S w atx n v Q := by
  unfold b_word_With at H
  refine Tr.intro Tryd.func36 rfl Tryd.ntmps36 rfl fun w0 => ?_
  refine c_seq ?_
  refine c_region ?_
  refine s_p rfl (y_assign rfl) ?_
  refine s_nil (q_then ?_)
  refine c_join2 H (fun (J : Mem → Prop) (z : Unit) S => J S) (fun z => ⟨37, [(0, .int .u64 w), (1, .int .i64 atx), (2, .int .i64 n), (3, .int .u64 v)]⟩) (fun z => []) ?_ ?_
  · clear H
    rintro _ Sx H
    refine c_seq ?_
    refine c_region ?_
    refine s_p rfl (y_assign rfl) ?_
    refine s_nil (q_then ?_)
    refine c_join2 H (fun (J : Int → Mem → Prop) (z : Int) S => J z S) (fun z => ⟨37, [(0, .int .u64 w), (1, .int .i64 atx), (3, .int .u64 v), (9, .int .u64 z)]⟩) (fun z => []) ?_ ?_
    · clear H
      rintro mask Sx_1 H
      refine c_seq ?_
      refine c_drawn (by kernel_rfl) ?_
      refine a_takeP 0 rfl (by decide +kernel) (np_then np_body) rfl (y_move rfl) ?_
      refine a_takeP 1 rfl (by decide +kernel) (np_then np_body) rfl (y_move rfl) ?_
      refine a_takeP 2 rfl (by decide +kernel) (np_then np_body) rfl (y_move rfl) ?_
      obtain ⟨c, H⟩ := H
      refine a_takeP 3 rfl (by decide +kernel) (np_then np_body) rfl (y_shl rfl rfl c) ?_
      refine a_takeP 4 rfl (by decide +kernel) (np_then np_body) rfl (y_andn rfl rfl) ?_
      refine a_takeP 5 rfl (by decide +kernel) (np_then np_body) rfl (y_move rfl) ?_
      refine a_takeP 6 rfl (by decide +kernel) (np_then np_body) rfl (y_move rfl) ?_
      refine a_takeP 7 rfl (by decide +kernel) (np_then np_body) rfl (y_and rfl rfl) ?_
      refine a_takeP 8 rfl (by decide +kernel) (np_then np_body) rfl (y_move rfl) ?_
      obtain ⟨c_1, H⟩ := H
      refine a_takeP 9 rfl (by decide +kernel) (np_then np_body) rfl (y_shl rfl rfl c_1) ?_
      refine a_takeP 10 rfl (by decide +kernel) (np_then np_body) rfl (y_or rfl rfl) ?_
      refine a_takeP 11 rfl (by decide +kernel) (np_then np_body) rfl (y_assign rfl) ?_
      refine a_done (by decide +kernel) ?_
      refine q_then ?_
      refine c_ret ?_
      exact q_ret Tryd.results36 (rv_tmp rfl rv_nil) ⟨_, rfl, H⟩
    · clear H
      intro Jx hJx H
      refine c_seq ?_
      refine c_region ?_
      refine s_p rfl (y_move rfl) ?_
      replace H := ite_e H
      rcases H with ⟨c_2, H⟩ | ⟨c_2, H⟩
      · refine s_p rfl (yT (y_lss rfl rfl) c_2) ?_
        refine s_nil (q_then ?_)
        refine c_t rfl rfl ?_
        refine c_region ?_
        refine s_p rfl (y_move rfl) ?_
        obtain ⟨c_3, H⟩ := H
        refine s_p rfl (y_shl rfl rfl c_3) ?_
        refine s_p rfl (y_sub rfl rfl) ?_
        refine s_p rfl (y_assign rfl) ?_
        refine s_nil ?_
        exact hJx (IntKind.u64.wrap ((ishl .u64 1 n) - 1)) _ _ _ _ [] H rfl ⟨rfl, rfl, rfl, rfl, True.intro⟩ rfl
      · refine s_p rfl (yF (y_lss rfl rfl) c_2) ?_
        refine s_nil (q_then ?_)
        refine c_f rfl rfl ?_
        refine c_skip ?_
        exact hJx 18446744073709551615 _ _ _ _ [] H rfl ⟨rfl, rfl, rfl, rfl, True.intro⟩ rfl
  · clear H
    intro Jx_1 hJx_1 H
    refine c_seq ?_
    refine c_region ?_
    refine s_p rfl (y_move rfl) ?_
    replace H := ite_e H
    rcases H with ⟨c_4, H⟩ | ⟨c_4, H⟩
    · refine s_p rfl (yT (y_lss rfl rfl) c_4) ?_
      refine s_p rfl (y_move rfl) ?_
      refine s_skip rfl ?_
      refine s_skip rfl ?_
      refine s_p rfl (y_pick rfl rfl) ?_
      refine s_p rfl (y_move rfl) ?_
      refine s_skip rfl ?_
      refine s_skip rfl ?_
      refine s_p rfl (y_pick rfl rfl) ?_
      refine s_nil (q_then ?_)
      refine c_t rfl rfl ?_
      refine c_seq ?_
      refine c_region ?_
      refine s_p rfl (y_move rfl) ?_
      refine s_p rfl (y_assign rfl) ?_
      refine s_nil (q_then ?_)
      refine c_ret (q_then_ret ?_)
      exact q_ret Tryd.results36 (rv_tmp rfl rv_nil) ⟨_, rfl, H⟩
    · refine s_p rfl (yF (y_lss rfl rfl) c_4) ?_
      refine s_p rfl (y_move rfl) ?_
      refine s_p rfl (y_move rfl) ?_
      replace H := ite_e H
      rcases H with ⟨c_5, H⟩ | ⟨c_5, H⟩
      · refine s_p rfl (yT (y_gtr rfl rfl) c_5) ?_
        refine s_p rfl (y_pick rfl rfl) ?_
        refine s_p rfl (y_move rfl) ?_
        refine s_skip rfl ?_
        refine s_skip rfl ?_
        refine s_p rfl (y_pick rfl rfl) ?_
        refine s_nil (q_then ?_)
        refine c_t rfl rfl ?_
        refine c_seq ?_
        refine c_region ?_
        refine s_p rfl (y_move rfl) ?_
        refine s_p rfl (y_assign rfl) ?_
        refine s_nil (q_then ?_)
        refine c_ret (q_then_ret ?_)
        exact q_ret Tryd.results36 (rv_tmp rfl rv_nil) ⟨_, rfl, H⟩
      · refine s_p rfl (yF (y_gtr rfl rfl) c_5) ?_
        refine s_p rfl (y_pick rfl rfl) ?_
        refine s_p rfl (y_move rfl) ?_
        refine s_p rfl (y_move rfl) ?_
        replace H := ite_e H
        rcases H with ⟨c_6, H⟩ | ⟨c_6, H⟩
        · refine s_p rfl (yT (y_leq rfl rfl) c_6) ?_
          refine s_p rfl (y_pick rfl rfl) ?_
          refine s_nil (q_then ?_)
          refine c_t rfl rfl ?_
          refine c_seq ?_
          refine c_region ?_
          refine s_p rfl (y_move rfl) ?_
          refine s_p rfl (y_assign rfl) ?_
          refine s_nil (q_then ?_)
          refine c_ret (q_then_ret ?_)
          exact q_ret Tryd.results36 (rv_tmp rfl rv_nil) ⟨_, rfl, H⟩
        · refine s_p rfl (yF (y_leq rfl rfl) c_6) ?_
          refine s_p rfl (y_pick rfl rfl) ?_
          refine s_nil (q_then ?_)
          refine c_f rfl rfl ?_
          refine c_skip ?_
          exact hJx_1 () _ _ _ _ [] H rfl ⟨rfl, rfl, rfl, rfl, True.intro⟩ rfl
end Go.Proofs.YtpilffakhkagjaaDoor
