/- Texts of this work,joined by program (pack.py): Psc,Zf,PtL,PtM,Jr. -/
import Derived.Test.YtabdpmnhjlmnlaaGreatDoorQAB
import Derived.Test.YtabdpmnhjlmnlaaGreatDoorQAI
import Derived.Test.YtabdpmnhjlmnlaaGreatDoorQAD
import Derived.Test.YtabdpmnhjlmnlaaGreatDoorQAE
import Derived.ProofKit
import Derived.OpenShut
import Derived.Test.YtabdpmnhjlmnlaaGreatDoorRows
import Derived.LaidMore
import Derived.Lay
import Derived.Lib.LaidU8
import Derived.Deep.Slices
import Derived.Stop.Joined
set_option linter.unusedVariables false
section
namespace Go.Proofs.YtabdpmnhjlmnlaaGreatDoor
open Go Go.Pt
attribute [local irreducible] Code.wp Back bodyPost wpList FR WL WC WQ WA AW Tr Yc HC AllC
set_option maxRecDepth 20000
set_option maxHeartbeats 4000000
set_option linter.unusedVariables false
def zZ (S:Mem) (frames:Int) (region:Int) (Q:Bool→Mem→Prop):Prop:=
 jn (fun (Sx:Mem)=>
 IntKind.i64.wrap (1+(IntKind.i64.wrap (Int.tmod frames 60)))≠0 ∧
 qz Sx 1 (IntKind.i64.wrap (1+(IntKind.i64.wrap (Int.tmod frames 60)))) (IntKind.i64.wrap (1+(Int.tmod (IntKind.i64.wrap region) (IntKind.i64.wrap (1+(IntKind.i64.wrap (Int.tmod frames 60))))))) (⟨none,0,0⟩) (⟨none,0,0⟩) fun t Sx_1=>
 jn (fun (Sx_2:Mem)=>
 qx Sx_2 t fun t_1 Sx_3=>
 if t_1=0 then
 nn t fun b o=>
 gP (Sx_3.cell b (o+1)) fun t_2=>
 gL (Sx_3.cell b (o+4)) fun t_3=>
 gP (Sx_3.cell b (o+3)) fun t_4=>
 wt Sx_3 (IntKind.i64.wrap ((IntKind.i64.wrap (1+(IntKind.i64.wrap (Int.tmod frames 60))))+1)) fun t_5 Sx_4=>
 Sx_4.cell b (o+3)=some (eP t_4) ∧
 Sx_4.cell b (o+4)=some (eL t_3) ∧
 Sx_4.cell b (o+1)=some (eP t_2) ∧
 qc Sx_4 t_5 t_2 t_3 t_4 fun t_6 Sx_5=>
 if t_6=1 then
 gP (Sx_5.cell b (o+1)) fun t_7=>
 gL (Sx_5.cell b (o+4)) fun t_8=>
 gP (Sx_5.cell b (o+3)) fun t_9=>
 qc Sx_5 none t_7 t_8 t_9 fun t_10 Sx_6=>
 if t_10=1 then
 gP (Sx_6.cell b o) fun t_11=>
 gL (Sx_6.cell b (o+4)) fun t_12=>
 gP (Sx_6.cell b (o+3)) fun t_13=>
 qc Sx_6 t_11 none t_12 t_13 fun t_14 Sx_7=>
 if t_14=1 then
 gP (Sx_7.cell b o) fun t_15=>
 gP (Sx_7.cell b (o+1)) fun t_16=>
 gL (Sx_7.cell b (o+4)) fun t_17=>
 qc Sx_7 t_15 t_16 t_17 none fun t_18 Sx_8=>
 if t_18=1 then
 gP (Sx_8.cell b o) fun t_19=>
 gL (Sx_8.cell b (o+4)) fun t_20=>
 gP (Sx_8.cell b (o+3)) fun t_21=>
 vi Sx_8 (IntKind.i64.wrap (1+(IntKind.i64.wrap (Int.tmod frames 60)))) fun t_22 Sx_9=>
 Sx_9.cell b (o+3)=some (eP t_21) ∧
 Sx_9.cell b (o+4)=some (eL t_20) ∧
 Sx_9.cell b o=some (eP t_19) ∧
 qc Sx_9 t_19 t_22 t_20 t_21 fun t_23 Sx_10=>
 if t_23=8 then
 gP (Sx_10.cell b o) fun t_24=>
 gP (Sx_10.cell b (o+1)) fun t_25=>
 gP (Sx_10.cell b (o+3)) fun t_26=>
 qc Sx_10 t_24 t_25 (⟨none,0,0⟩) t_26 fun t_27 Sx_11=>
 Q (decide (t_27=7)) Sx_11
 else
 Q false Sx_10
 else
 Q false Sx_8
 else
 Q false Sx_7
 else
 Q false Sx_6
 else
 Q false Sx_5
 else
 Q false Sx_3) fun Jx=>
 if t=none then
 Q false Sx_1
 else
 Jx Sx_1) fun Jx_1=>
 ya S fun t_28 Sx_12=>
 if t_28=true then
 Jx_1 Sx_12
 else
 Q false Sx_12
theorem xI {S:Mem} {frames:Int} {region:Int} {Q:Bool→Mem→Prop} (H:zZ S frames region Q):wl S frames region Q:=by
 unfold zZ at H
 exact Tr.intro Tryz.func13 E Tryz.ntmps13 E fun w0=>csr<|gv E E<|nx<|zo H (fun (J:Mem→Prop) (z:Unit) S=>J S) (fun z=>⟨126,[(0,.int .u8 frames),(1,.int .u8 region)]⟩) (fun z=>[]) (fun _ Sx H1=>csr<|mv E E<|s_p E (gn E E (by decide))<|s_p E (yl ⟨_,Tryz.underlying5⟩ E)<|s_p E (zU E E)<|gv E E<|nxr<|mv E E<|mv E E<|s_p E (yl ⟨_,Tryz.underlying5⟩ E)<|mv E E<|an H1 fun c H2=>s_p E (gn E E c)<|s_p E (zU E E)<|qW E E H2 fun t Sx_1 H3=>gv E E<|nx<|zo H3 (fun (J:Mem→Prop) (z:Unit) S=>J S) (fun z=>⟨126,[(5,.int .i64 (IntKind.i64.wrap (1+(IntKind.i64.wrap (Int.tmod frames 60))))),(6,eP t)]⟩) (fun z=>[]) (fun _ Sx_2 H4=>zx<|zY (by kernel_rfl)<|aTP 0 E (by decide +kernel) E (zj E)<|by exact zJ 1 (by decide +kernel) E<|by exact qW E E H4 fun t_1 Sx_3 H5=>zu<|zS zF<|iteK H5 (fun c_1 H6=>aTP 2 E (by decide +kernel) E (yT (xV E E) c_1)<|by exact aTP 3 E (by decide +kernel) E (zj E)<|by exact aTP 4 E (by decide +kernel) E (zj E)<|by exact aTP 5 E (by decide +kernel) E (zU E E)<|by exact aTP 7 E (by decide +kernel) E (zj E)<|by exact by obtain⟨b,o,rfl,H7⟩:=H6;exact aTP 8 E (by decide +kernel) E (qb E)<|by exact aTP 9 E (by decide +kernel) E (zD E E)<|by exact gx H7 fun t_2 ht_2 H8=>aT 10 E (by decide +kernel) E (zB E) (zV ht_2)<|by exact aTP 11 E (by decide +kernel) E (zj E)<|by exact aTP 12 E (by decide +kernel) E (qb E)<|by exact aTP 13 E (by decide +kernel) E (zD E E)<|by exact gx H8 fun t_3 ht_3 H9=>aT 14 E (by decide +kernel) E (zB E) (zV ht_3)<|by exact aTP 15 E (by decide +kernel) E (zj E)<|by exact aTP 16 E (by decide +kernel) E (qb E)<|by exact aTP 17 E (by decide +kernel) E (zD E E)<|by exact gx H9 fun t_4 ht_4 H10=>aT 18 E (by decide +kernel) E (zB E) (zV ht_4)<|by exact zJ 6 (by decide +kernel) E<|by exact qW E E H10 fun t_5 Sx_4 H11=>by obtain⟨k,H12⟩:=H11;exact by obtain⟨k_1,H13⟩:=H12;exact by obtain⟨k_2,H14⟩:=H13;exact zu<|zS (zy (zV k) (zy (zV k_1) (zy (zV k_2) zF)))<|zJ 19 (by decide +kernel) E<|by exact qW E E H14 fun t_6 Sx_5 H15=>zu<|zS zF<|iteK H15 (fun c_2 H16=>aTP 20 E (by decide +kernel) E (yT (xV E E) c_2)<|by exact aTP 21 E (by decide +kernel) E (zq E E)<|by exact aTP 22 E (by decide +kernel) E (zj E)<|by exact aTP 23 E (by decide +kernel) E (zj E)<|by exact aTP 24 E (by decide +kernel) E (qb E)<|by exact aTP 25 E (by decide +kernel) E (zD E E)<|by exact gx H16 fun t_7 ht_7 H17=>aT 26 E (by decide +kernel) E (zB E) (zV ht_7)<|by exact aTP 27 E (by decide +kernel) E (zj E)<|by exact aTP 28 E (by decide +kernel) E (qb E)<|by exact aTP 29 E (by decide +kernel) E (zD E E)<|by exact gx H17 fun t_8 ht_8 H18=>aT 30 E (by decide +kernel) E (zB E) (zV ht_8)<|by exact aTP 31 E (by decide +kernel) E (zj E)<|by exact aTP 32 E (by decide +kernel) E (qb E)<|by exact aTP 33 E (by decide +kernel) E (zD E E)<|by exact gx H18 fun t_9 ht_9 H19=>aT 34 E (by decide +kernel) E (zB E) (zV ht_9)<|by exact zJ 35 (by decide +kernel) E<|by exact qW E E H19 fun t_10 Sx_6 H20=>zu<|zS zF<|iteK H20 (fun c_3 H21=>aTP 36 E (by decide +kernel) E (yT (xV E E) c_3)<|by exact aTP 37 E (by decide +kernel) E (zq E E)<|by exact aTP 38 E (by decide +kernel) E (zj E)<|by exact aTP 39 E (by decide +kernel) E (zj E)<|by exact aTP 40 E (by decide +kernel) E (qb E)<|by exact aTP 41 E (by decide +kernel) E (zD E E)<|by exact gx H21 fun t_11 ht_11 H22=>aT 42 E (by decide +kernel) E (zB E) (zV ht_11)<|by exact aTP 43 E (by decide +kernel) E (zj E)<|by exact aTP 44 E (by decide +kernel) E (qb E)<|by exact aTP 45 E (by decide +kernel) E (zD E E)<|by exact gx H22 fun t_12 ht_12 H23=>aT 46 E (by decide +kernel) E (zB E) (zV ht_12)<|by exact aTP 47 E (by decide +kernel) E (zj E)<|by exact aTP 48 E (by decide +kernel) E (qb E)<|by exact aTP 49 E (by decide +kernel) E (zD E E)<|by exact gx H23 fun t_13 ht_13 H24=>aT 50 E (by decide +kernel) E (zB E) (zV ht_13)<|by exact zJ 51 (by decide +kernel) E<|by exact qW E E H24 fun t_14 Sx_7 H25=>zu<|zS zF<|iteK H25 (fun c_4 H26=>aTP 52 E (by decide +kernel) E (yT (xV E E) c_4)<|by exact aTP 53 E (by decide +kernel) E (zq E E)<|by exact aTP 54 E (by decide +kernel) E (zj E)<|by exact aTP 55 E (by decide +kernel) E (zj E)<|by exact aTP 56 E (by decide +kernel) E (qb E)<|by exact aTP 57 E (by decide +kernel) E (zD E E)<|by exact gx H26 fun t_15 ht_15 H27=>aT 58 E (by decide +kernel) E (zB E) (zV ht_15)<|by exact aTP 59 E (by decide +kernel) E (zj E)<|by exact aTP 60 E (by decide +kernel) E (qb E)<|by exact aTP 61 E (by decide +kernel) E (zD E E)<|by exact gx H27 fun t_16 ht_16 H28=>aT 62 E (by decide +kernel) E (zB E) (zV ht_16)<|by exact aTP 63 E (by decide +kernel) E (zj E)<|by exact aTP 64 E (by decide +kernel) E (qb E)<|by exact aTP 65 E (by decide +kernel) E (zD E E)<|by exact gx H28 fun t_17 ht_17 H29=>aT 66 E (by decide +kernel) E (zB E) (zV ht_17)<|by exact zJ 67 (by decide +kernel) E<|by exact qW E E H29 fun t_18 Sx_8 H30=>zu<|zS zF<|iteK H30 (fun c_5 H31=>aTP 68 E (by decide +kernel) E (yT (xV E E) c_5)<|by exact aTP 69 E (by decide +kernel) E (zq E E)<|by exact aTP 70 E (by decide +kernel) E (zj E)<|by exact aTP 71 E (by decide +kernel) E (zj E)<|by exact aTP 72 E (by decide +kernel) E (qb E)<|by exact aTP 73 E (by decide +kernel) E (zD E E)<|by exact gx H31 fun t_19 ht_19 H32=>aT 74 E (by decide +kernel) E (zB E) (zV ht_19)<|by exact aTP 75 E (by decide +kernel) E (zj E)<|by exact aTP 77 E (by decide +kernel) E (zj E)<|by exact aTP 78 E (by decide +kernel) E (qb E)<|by exact aTP 79 E (by decide +kernel) E (zD E E)<|by exact gx H32 fun t_20 ht_20 H33=>aT 80 E (by decide +kernel) E (zB E) (zV ht_20)<|by exact aTP 81 E (by decide +kernel) E (zj E)<|by exact aTP 82 E (by decide +kernel) E (qb E)<|by exact aTP 83 E (by decide +kernel) E (zD E E)<|by exact gx H33 fun t_21 ht_21 H34=>aT 84 E (by decide +kernel) E (zB E) (zV ht_21)<|by exact zJ 76 (by decide +kernel) E<|by exact qW E E H34 fun t_22 Sx_9 H35=>by obtain⟨k_3,H36⟩:=H35;exact by obtain⟨k_4,H37⟩:=H36;exact by obtain⟨k_5,H38⟩:=H37;exact zu<|zS (zy (zV k_3) (zy (zV k_4) (zy (zV k_5) zF)))<|zJ 85 (by decide +kernel) E<|by exact qW E E H38 fun t_23 Sx_10 H39=>zu<|zS zF<|iteK H39 (fun c_6 H40=>aTP 86 E (by decide +kernel) E (yT (xV E E) c_6)<|by exact aTP 87 E (by decide +kernel) E (zq E E)<|by exact aTP 88 E (by decide +kernel) E (zj E)<|by exact aTP 89 E (by decide +kernel) E (zj E)<|by exact aTP 90 E (by decide +kernel) E (qb E)<|by exact aTP 91 E (by decide +kernel) E (zD E E)<|by exact gx H40 fun t_24 ht_24 H41=>aT 92 E (by decide +kernel) E (zB E) (zV ht_24)<|by exact aTP 93 E (by decide +kernel) E (zj E)<|by exact aTP 94 E (by decide +kernel) E (qb E)<|by exact aTP 95 E (by decide +kernel) E (zD E E)<|by exact gx H41 fun t_25 ht_25 H42=>aT 96 E (by decide +kernel) E (zB E) (zV ht_25)<|by exact aTP 97 E (by decide +kernel) E (zj E)<|by exact aTP 98 E (by decide +kernel) E (qb E)<|by exact aTP 99 E (by decide +kernel) E (zD E E)<|by exact gx H42 fun t_26 ht_26 H43=>aT 100 E (by decide +kernel) E (zB E) (zV ht_26)<|by exact zJ 101 (by decide +kernel) E<|by exact qW E E H43 fun t_27 Sx_11 H44=>zu<|zS zF<|aTP 102 E (by decide +kernel) E (xV E E)<|by exact aTP 103 E (by decide +kernel) E (zq E E)<|by exact aTP 104 E (by decide +kernel) E (zW E)<|by exact zE (by decide +kernel)<|by exact zk<|zm<|zl Tryz.results13 (zf E zi) ⟨_,E,H44⟩) fun c_6 H40=>aTP 86 E (by decide +kernel) E (yF (xV E E) c_6)<|by exact aTP 87 E (by decide +kernel) E (zq E E)<|by exact aTP 88 E (by decide +kernel) E (zj E)<|by exact zd 89 E (by decide +kernel) (za zb) E<|by exact zd 90 E (by decide +kernel) (za zb) E<|by exact zd 91 E (by decide +kernel) (za zb) E<|by exact zd 92 E (by decide +kernel) (za zb) E<|by exact zd 93 E (by decide +kernel) (za zb) E<|by exact zd 94 E (by decide +kernel) (za zb) E<|by exact zd 95 E (by decide +kernel) (za zb) E<|by exact zd 96 E (by decide +kernel) (za zb) E<|by exact zd 97 E (by decide +kernel) (za zb) E<|by exact zd 98 E (by decide +kernel) (za zb) E<|by exact zd 99 E (by decide +kernel) (za zb) E<|by exact zd 100 E (by decide +kernel) (za zb) E<|by exact zd 101 E (by decide +kernel) (za zb) E<|by exact zd 102 E (by decide +kernel) (za zb) E<|by exact aTP 103 E (by decide +kernel) E (zq E E)<|by exact aTP 104 E (by decide +kernel) E (zW E)<|by exact zE (by decide +kernel)<|by exact zk<|zm<|zl Tryz.results13 (zf E zi) ⟨_,E,H40⟩) fun c_5 H31=>aTP 68 E (by decide +kernel) E (yF (xV E E) c_5)<|by exact aTP 69 E (by decide +kernel) E (zq E E)<|by exact aTP 70 E (by decide +kernel) E (zj E)<|by exact zd 71 E (by decide +kernel) (za zb) E<|by exact zd 72 E (by decide +kernel) (za zb) E<|by exact zd 73 E (by decide +kernel) (za zb) E<|by exact zd 74 E (by decide +kernel) (za zb) E<|by exact zd 75 E (by decide +kernel) (za zb) E<|by exact zd 76 E (by decide +kernel) (za zb) E<|by exact zd 77 E (by decide +kernel) (za zb) E<|by exact zd 78 E (by decide +kernel) (za zb) E<|by exact zd 79 E (by decide +kernel) (za zb) E<|by exact zd 80 E (by decide +kernel) (za zb) E<|by exact zd 81 E (by decide +kernel) (za zb) E<|by exact zd 82 E (by decide +kernel) (za zb) E<|by exact zd 83 E (by decide +kernel) (za zb) E<|by exact zd 84 E (by decide +kernel) (za zb) E<|by exact zd 85 E (by decide +kernel) (za zb) E<|by exact zd 86 E (by decide +kernel) (za zb) E<|by exact aTP 87 E (by decide +kernel) E (zq E E)<|by exact aTP 88 E (by decide +kernel) E (zj E)<|by exact zd 89 E (by decide +kernel) (za zb) E<|by exact zd 90 E (by decide +kernel) (za zb) E<|by exact zd 91 E (by decide +kernel) (za zb) E<|by exact zd 92 E (by decide +kernel) (za zb) E<|by exact zd 93 E (by decide +kernel) (za zb) E<|by exact zd 94 E (by decide +kernel) (za zb) E<|by exact zd 95 E (by decide +kernel) (za zb) E<|by exact zd 96 E (by decide +kernel) (za zb) E<|by exact zd 97 E (by decide +kernel) (za zb) E<|by exact zd 98 E (by decide +kernel) (za zb) E<|by exact zd 99 E (by decide +kernel) (za zb) E<|by exact zd 100 E (by decide +kernel) (za zb) E<|by exact zd 101 E (by decide +kernel) (za zb) E<|by exact zd 102 E (by decide +kernel) (za zb) E<|by exact aTP 103 E (by decide +kernel) E (zq E E)<|by exact aTP 104 E (by decide +kernel) E (zW E)<|by exact zE (by decide +kernel)<|by exact zk<|zm<|zl Tryz.results13 (zf E zi) ⟨_,E,H31⟩) fun c_4 H26=>aTP 52 E (by decide +kernel) E (yF (xV E E) c_4)<|by exact aTP 53 E (by decide +kernel) E (zq E E)<|by exact aTP 54 E (by decide +kernel) E (zj E)<|by exact zd 55 E (by decide +kernel) (za zb) E<|by exact zd 56 E (by decide +kernel) (za zb) E<|by exact zd 57 E (by decide +kernel) (za zb) E<|by exact zd 58 E (by decide +kernel) (za zb) E<|by exact zd 59 E (by decide +kernel) (za zb) E<|by exact zd 60 E (by decide +kernel) (za zb) E<|by exact zd 61 E (by decide +kernel) (za zb) E<|by exact zd 62 E (by decide +kernel) (za zb) E<|by exact zd 63 E (by decide +kernel) (za zb) E<|by exact zd 64 E (by decide +kernel) (za zb) E<|by exact zd 65 E (by decide +kernel) (za zb) E<|by exact zd 66 E (by decide +kernel) (za zb) E<|by exact zd 67 E (by decide +kernel) (za zb) E<|by exact zd 68 E (by decide +kernel) (za zb) E<|by exact aTP 69 E (by decide +kernel) E (zq E E)<|by exact aTP 70 E (by decide +kernel) E (zj E)<|by exact zd 71 E (by decide +kernel) (za zb) E<|by exact zd 72 E (by decide +kernel) (za zb) E<|by exact zd 73 E (by decide +kernel) (za zb) E<|by exact zd 74 E (by decide +kernel) (za zb) E<|by exact zd 75 E (by decide +kernel) (za zb) E<|by exact zd 76 E (by decide +kernel) (za zb) E<|by exact zd 77 E (by decide +kernel) (za zb) E<|by exact zd 78 E (by decide +kernel) (za zb) E<|by exact zd 79 E (by decide +kernel) (za zb) E<|by exact zd 80 E (by decide +kernel) (za zb) E<|by exact zd 81 E (by decide +kernel) (za zb) E<|by exact zd 82 E (by decide +kernel) (za zb) E<|by exact zd 83 E (by decide +kernel) (za zb) E<|by exact zd 84 E (by decide +kernel) (za zb) E<|by exact zd 85 E (by decide +kernel) (za zb) E<|by exact zd 86 E (by decide +kernel) (za zb) E<|by exact aTP 87 E (by decide +kernel) E (zq E E)<|by exact aTP 88 E (by decide +kernel) E (zj E)<|by exact zd 89 E (by decide +kernel) (za zb) E<|by exact zd 90 E (by decide +kernel) (za zb) E<|by exact zd 91 E (by decide +kernel) (za zb) E<|by exact zd 92 E (by decide +kernel) (za zb) E<|by exact zd 93 E (by decide +kernel) (za zb) E<|by exact zd 94 E (by decide +kernel) (za zb) E<|by exact zd 95 E (by decide +kernel) (za zb) E<|by exact zd 96 E (by decide +kernel) (za zb) E<|by exact zd 97 E (by decide +kernel) (za zb) E<|by exact zd 98 E (by decide +kernel) (za zb) E<|by exact zd 99 E (by decide +kernel) (za zb) E<|by exact zd 100 E (by decide +kernel) (za zb) E<|by exact zd 101 E (by decide +kernel) (za zb) E<|by exact zd 102 E (by decide +kernel) (za zb) E<|by exact aTP 103 E (by decide +kernel) E (zq E E)<|by exact aTP 104 E (by decide +kernel) E (zW E)<|by exact zE (by decide +kernel)<|by exact zk<|zm<|zl Tryz.results13 (zf E zi) ⟨_,E,H26⟩) fun c_3 H21=>aTP 36 E (by decide +kernel) E (yF (xV E E) c_3)<|by exact aTP 37 E (by decide +kernel) E (zq E E)<|by exact aTP 38 E (by decide +kernel) E (zj E)<|by exact zd 39 E (by decide +kernel) (za zb) E<|by exact zd 40 E (by decide +kernel) (za zb) E<|by exact zd 41 E (by decide +kernel) (za zb) E<|by exact zd 42 E (by decide +kernel) (za zb) E<|by exact zd 43 E (by decide +kernel) (za zb) E<|by exact zd 44 E (by decide +kernel) (za zb) E<|by exact zd 45 E (by decide +kernel) (za zb) E<|by exact zd 46 E (by decide +kernel) (za zb) E<|by exact zd 47 E (by decide +kernel) (za zb) E<|by exact zd 48 E (by decide +kernel) (za zb) E<|by exact zd 49 E (by decide +kernel) (za zb) E<|by exact zd 50 E (by decide +kernel) (za zb) E<|by exact zd 51 E (by decide +kernel) (za zb) E<|by exact zd 52 E (by decide +kernel) (za zb) E<|by exact aTP 53 E (by decide +kernel) E (zq E E)<|by exact aTP 54 E (by decide +kernel) E (zj E)<|by exact zd 55 E (by decide +kernel) (za zb) E<|by exact zd 56 E (by decide +kernel) (za zb) E<|by exact zd 57 E (by decide +kernel) (za zb) E<|by exact zd 58 E (by decide +kernel) (za zb) E<|by exact zd 59 E (by decide +kernel) (za zb) E<|by exact zd 60 E (by decide +kernel) (za zb) E<|by exact zd 61 E (by decide +kernel) (za zb) E<|by exact zd 62 E (by decide +kernel) (za zb) E<|by exact zd 63 E (by decide +kernel) (za zb) E<|by exact zd 64 E (by decide +kernel) (za zb) E<|by exact zd 65 E (by decide +kernel) (za zb) E<|by exact zd 66 E (by decide +kernel) (za zb) E<|by exact zd 67 E (by decide +kernel) (za zb) E<|by exact zd 68 E (by decide +kernel) (za zb) E<|by exact aTP 69 E (by decide +kernel) E (zq E E)<|by exact aTP 70 E (by decide +kernel) E (zj E)<|by exact zd 71 E (by decide +kernel) (za zb) E<|by exact zd 72 E (by decide +kernel) (za zb) E<|by exact zd 73 E (by decide +kernel) (za zb) E<|by exact zd 74 E (by decide +kernel) (za zb) E<|by exact zd 75 E (by decide +kernel) (za zb) E<|by exact zd 76 E (by decide +kernel) (za zb) E<|by exact zd 77 E (by decide +kernel) (za zb) E<|by exact zd 78 E (by decide +kernel) (za zb) E<|by exact zd 79 E (by decide +kernel) (za zb) E<|by exact zd 80 E (by decide +kernel) (za zb) E<|by exact zd 81 E (by decide +kernel) (za zb) E<|by exact zd 82 E (by decide +kernel) (za zb) E<|by exact zd 83 E (by decide +kernel) (za zb) E<|by exact zd 84 E (by decide +kernel) (za zb) E<|by exact zd 85 E (by decide +kernel) (za zb) E<|by exact zd 86 E (by decide +kernel) (za zb) E<|by exact aTP 87 E (by decide +kernel) E (zq E E)<|by exact aTP 88 E (by decide +kernel) E (zj E)<|by exact zd 89 E (by decide +kernel) (za zb) E<|by exact zd 90 E (by decide +kernel) (za zb) E<|by exact zd 91 E (by decide +kernel) (za zb) E<|by exact zd 92 E (by decide +kernel) (za zb) E<|by exact zd 93 E (by decide +kernel) (za zb) E<|by exact zd 94 E (by decide +kernel) (za zb) E<|by exact zd 95 E (by decide +kernel) (za zb) E<|by exact zd 96 E (by decide +kernel) (za zb) E<|by exact zd 97 E (by decide +kernel) (za zb) E<|by exact zd 98 E (by decide +kernel) (za zb) E<|by exact zd 99 E (by decide +kernel) (za zb) E<|by exact zd 100 E (by decide +kernel) (za zb) E<|by exact zd 101 E (by decide +kernel) (za zb) E<|by exact zd 102 E (by decide +kernel) (za zb) E<|by exact aTP 103 E (by decide +kernel) E (zq E E)<|by exact aTP 104 E (by decide +kernel) E (zW E)<|by exact zE (by decide +kernel)<|by exact zk<|zm<|zl Tryz.results13 (zf E zi) ⟨_,E,H21⟩) fun c_2 H16=>aTP 20 E (by decide +kernel) E (yF (xV E E) c_2)<|by exact aTP 21 E (by decide +kernel) E (zq E E)<|by exact aTP 22 E (by decide +kernel) E (zj E)<|by exact zd 23 E (by decide +kernel) (za zb) E<|by exact zd 24 E (by decide +kernel) (za zb) E<|by exact zd 25 E (by decide +kernel) (za zb) E<|by exact zd 26 E (by decide +kernel) (za zb) E<|by exact zd 27 E (by decide +kernel) (za zb) E<|by exact zd 28 E (by decide +kernel) (za zb) E<|by exact zd 29 E (by decide +kernel) (za zb) E<|by exact zd 30 E (by decide +kernel) (za zb) E<|by exact zd 31 E (by decide +kernel) (za zb) E<|by exact zd 32 E (by decide +kernel) (za zb) E<|by exact zd 33 E (by decide +kernel) (za zb) E<|by exact zd 34 E (by decide +kernel) (za zb) E<|by exact zd 35 E (by decide +kernel) (za zb) E<|by exact zd 36 E (by decide +kernel) (za zb) E<|by exact aTP 37 E (by decide +kernel) E (zq E E)<|by exact aTP 38 E (by decide +kernel) E (zj E)<|by exact zd 39 E (by decide +kernel) (za zb) E<|by exact zd 40 E (by decide +kernel) (za zb) E<|by exact zd 41 E (by decide +kernel) (za zb) E<|by exact zd 42 E (by decide +kernel) (za zb) E<|by exact zd 43 E (by decide +kernel) (za zb) E<|by exact zd 44 E (by decide +kernel) (za zb) E<|by exact zd 45 E (by decide +kernel) (za zb) E<|by exact zd 46 E (by decide +kernel) (za zb) E<|by exact zd 47 E (by decide +kernel) (za zb) E<|by exact zd 48 E (by decide +kernel) (za zb) E<|by exact zd 49 E (by decide +kernel) (za zb) E<|by exact zd 50 E (by decide +kernel) (za zb) E<|by exact zd 51 E (by decide +kernel) (za zb) E<|by exact zd 52 E (by decide +kernel) (za zb) E<|by exact aTP 53 E (by decide +kernel) E (zq E E)<|by exact aTP 54 E (by decide +kernel) E (zj E)<|by exact zd 55 E (by decide +kernel) (za zb) E<|by exact zd 56 E (by decide +kernel) (za zb) E<|by exact zd 57 E (by decide +kernel) (za zb) E<|by exact zd 58 E (by decide +kernel) (za zb) E<|by exact zd 59 E (by decide +kernel) (za zb) E<|by exact zd 60 E (by decide +kernel) (za zb) E<|by exact zd 61 E (by decide +kernel) (za zb) E<|by exact zd 62 E (by decide +kernel) (za zb) E<|by exact zd 63 E (by decide +kernel) (za zb) E<|by exact zd 64 E (by decide +kernel) (za zb) E<|by exact zd 65 E (by decide +kernel) (za zb) E<|by exact zd 66 E (by decide +kernel) (za zb) E<|by exact zd 67 E (by decide +kernel) (za zb) E<|by exact zd 68 E (by decide +kernel) (za zb) E<|by exact aTP 69 E (by decide +kernel) E (zq E E)<|by exact aTP 70 E (by decide +kernel) E (zj E)<|by exact zd 71 E (by decide +kernel) (za zb) E<|by exact zd 72 E (by decide +kernel) (za zb) E<|by exact zd 73 E (by decide +kernel) (za zb) E<|by exact zd 74 E (by decide +kernel) (za zb) E<|by exact zd 75 E (by decide +kernel) (za zb) E<|by exact zd 76 E (by decide +kernel) (za zb) E<|by exact zd 77 E (by decide +kernel) (za zb) E<|by exact zd 78 E (by decide +kernel) (za zb) E<|by exact zd 79 E (by decide +kernel) (za zb) E<|by exact zd 80 E (by decide +kernel) (za zb) E<|by exact zd 81 E (by decide +kernel) (za zb) E<|by exact zd 82 E (by decide +kernel) (za zb) E<|by exact zd 83 E (by decide +kernel) (za zb) E<|by exact zd 84 E (by decide +kernel) (za zb) E<|by exact zd 85 E (by decide +kernel) (za zb) E<|by exact zd 86 E (by decide +kernel) (za zb) E<|by exact aTP 87 E (by decide +kernel) E (zq E E)<|by exact aTP 88 E (by decide +kernel) E (zj E)<|by exact zd 89 E (by decide +kernel) (za zb) E<|by exact zd 90 E (by decide +kernel) (za zb) E<|by exact zd 91 E (by decide +kernel) (za zb) E<|by exact zd 92 E (by decide +kernel) (za zb) E<|by exact zd 93 E (by decide +kernel) (za zb) E<|by exact zd 94 E (by decide +kernel) (za zb) E<|by exact zd 95 E (by decide +kernel) (za zb) E<|by exact zd 96 E (by decide +kernel) (za zb) E<|by exact zd 97 E (by decide +kernel) (za zb) E<|by exact zd 98 E (by decide +kernel) (za zb) E<|by exact zd 99 E (by decide +kernel) (za zb) E<|by exact zd 100 E (by decide +kernel) (za zb) E<|by exact zd 101 E (by decide +kernel) (za zb) E<|by exact zd 102 E (by decide +kernel) (za zb) E<|by exact aTP 103 E (by decide +kernel) E (zq E E)<|by exact aTP 104 E (by decide +kernel) E (zW E)<|by exact zE (by decide +kernel)<|by exact zk<|zm<|zl Tryz.results13 (zf E zi) ⟨_,E,H16⟩) fun c_1 H6=>aTP 2 E (by decide +kernel) E (yF (xV E E) c_1)<|by exact aTP 3 E (by decide +kernel) E (zj E)<|by exact zd 4 E (by decide +kernel) (za zb) E<|by exact zd 5 E (by decide +kernel) (za zb) E<|by exact zd 6 E (by decide +kernel) (za zb) E<|by exact zd 7 E (by decide +kernel) (za zb) E<|by exact zd 8 E (by decide +kernel) (za zb) E<|by exact zd 9 E (by decide +kernel) (za zb) E<|by exact zd 10 E (by decide +kernel) (za zb) E<|by exact zd 11 E (by decide +kernel) (za zb) E<|by exact zd 12 E (by decide +kernel) (za zb) E<|by exact zd 13 E (by decide +kernel) (za zb) E<|by exact zd 14 E (by decide +kernel) (za zb) E<|by exact zd 15 E (by decide +kernel) (za zb) E<|by exact zd 16 E (by decide +kernel) (za zb) E<|by exact zd 17 E (by decide +kernel) (za zb) E<|by exact zd 18 E (by decide +kernel) (za zb) E<|by exact zd 19 E (by decide +kernel) (za zb) E<|by exact zd 20 E (by decide +kernel) (za zb) E<|by exact aTP 21 E (by decide +kernel) E (zq E E)<|by exact aTP 22 E (by decide +kernel) E (zj E)<|by exact zd 23 E (by decide +kernel) (za zb) E<|by exact zd 24 E (by decide +kernel) (za zb) E<|by exact zd 25 E (by decide +kernel) (za zb) E<|by exact zd 26 E (by decide +kernel) (za zb) E<|by exact zd 27 E (by decide +kernel) (za zb) E<|by exact zd 28 E (by decide +kernel) (za zb) E<|by exact zd 29 E (by decide +kernel) (za zb) E<|by exact zd 30 E (by decide +kernel) (za zb) E<|by exact zd 31 E (by decide +kernel) (za zb) E<|by exact zd 32 E (by decide +kernel) (za zb) E<|by exact zd 33 E (by decide +kernel) (za zb) E<|by exact zd 34 E (by decide +kernel) (za zb) E<|by exact zd 35 E (by decide +kernel) (za zb) E<|by exact zd 36 E (by decide +kernel) (za zb) E<|by exact aTP 37 E (by decide +kernel) E (zq E E)<|by exact aTP 38 E (by decide +kernel) E (zj E)<|by exact zd 39 E (by decide +kernel) (za zb) E<|by exact zd 40 E (by decide +kernel) (za zb) E<|by exact zd 41 E (by decide +kernel) (za zb) E<|by exact zd 42 E (by decide +kernel) (za zb) E<|by exact zd 43 E (by decide +kernel) (za zb) E<|by exact zd 44 E (by decide +kernel) (za zb) E<|by exact zd 45 E (by decide +kernel) (za zb) E<|by exact zd 46 E (by decide +kernel) (za zb) E<|by exact zd 47 E (by decide +kernel) (za zb) E<|by exact zd 48 E (by decide +kernel) (za zb) E<|by exact zd 49 E (by decide +kernel) (za zb) E<|by exact zd 50 E (by decide +kernel) (za zb) E<|by exact zd 51 E (by decide +kernel) (za zb) E<|by exact zd 52 E (by decide +kernel) (za zb) E<|by exact aTP 53 E (by decide +kernel) E (zq E E)<|by exact aTP 54 E (by decide +kernel) E (zj E)<|by exact zd 55 E (by decide +kernel) (za zb) E<|by exact zd 56 E (by decide +kernel) (za zb) E<|by exact zd 57 E (by decide +kernel) (za zb) E<|by exact zd 58 E (by decide +kernel) (za zb) E<|by exact zd 59 E (by decide +kernel) (za zb) E<|by exact zd 60 E (by decide +kernel) (za zb) E<|by exact zd 61 E (by decide +kernel) (za zb) E<|by exact zd 62 E (by decide +kernel) (za zb) E<|by exact zd 63 E (by decide +kernel) (za zb) E<|by exact zd 64 E (by decide +kernel) (za zb) E<|by exact zd 65 E (by decide +kernel) (za zb) E<|by exact zd 66 E (by decide +kernel) (za zb) E<|by exact zd 67 E (by decide +kernel) (za zb) E<|by exact zd 68 E (by decide +kernel) (za zb) E<|by exact aTP 69 E (by decide +kernel) E (zq E E)<|by exact aTP 70 E (by decide +kernel) E (zj E)<|by exact zd 71 E (by decide +kernel) (za zb) E<|by exact zd 72 E (by decide +kernel) (za zb) E<|by exact zd 73 E (by decide +kernel) (za zb) E<|by exact zd 74 E (by decide +kernel) (za zb) E<|by exact zd 75 E (by decide +kernel) (za zb) E<|by exact zd 76 E (by decide +kernel) (za zb) E<|by exact zd 77 E (by decide +kernel) (za zb) E<|by exact zd 78 E (by decide +kernel) (za zb) E<|by exact zd 79 E (by decide +kernel) (za zb) E<|by exact zd 80 E (by decide +kernel) (za zb) E<|by exact zd 81 E (by decide +kernel) (za zb) E<|by exact zd 82 E (by decide +kernel) (za zb) E<|by exact zd 83 E (by decide +kernel) (za zb) E<|by exact zd 84 E (by decide +kernel) (za zb) E<|by exact zd 85 E (by decide +kernel) (za zb) E<|by exact zd 86 E (by decide +kernel) (za zb) E<|by exact aTP 87 E (by decide +kernel) E (zq E E)<|by exact aTP 88 E (by decide +kernel) E (zj E)<|by exact zd 89 E (by decide +kernel) (za zb) E<|by exact zd 90 E (by decide +kernel) (za zb) E<|by exact zd 91 E (by decide +kernel) (za zb) E<|by exact zd 92 E (by decide +kernel) (za zb) E<|by exact zd 93 E (by decide +kernel) (za zb) E<|by exact zd 94 E (by decide +kernel) (za zb) E<|by exact zd 95 E (by decide +kernel) (za zb) E<|by exact zd 96 E (by decide +kernel) (za zb) E<|by exact zd 97 E (by decide +kernel) (za zb) E<|by exact zd 98 E (by decide +kernel) (za zb) E<|by exact zd 99 E (by decide +kernel) (za zb) E<|by exact zd 100 E (by decide +kernel) (za zb) E<|by exact zd 101 E (by decide +kernel) (za zb) E<|by exact zd 102 E (by decide +kernel) (za zb) E<|by exact aTP 103 E (by decide +kernel) E (zq E E)<|by exact aTP 104 E (by decide +kernel) E (zW E)<|by exact zE (by decide +kernel)<|by exact zk<|zm<|zl Tryz.results13 (zf E zi) ⟨_,E,H6⟩) (fun Jx hJx H45=>csr<|mv E E<|iteK H45 (fun c_7 H46=>s_p E (yT (qH (p:=t) E E) c_7)<|nx<|c_t E E<|csr<|gv E E<|nx<|zm<|ze<|zl Tryz.results13 (zf E zi) ⟨_,E,H46⟩) fun c_7 H46=>s_p E (yF (qH (p:=t) E E) c_7)<|nx<|cfs E E<|hJx () _ _ _ _ [] H46 E ⟨E,E,True.intro⟩ E)) (fun Jx_1 hJx_1 H47=>csr<|qW E E H47 fun t_28 Sx_12 H48=>by have H49:=vY H48;rcases H49 with ⟨rfl,H50⟩ | ⟨rfl,H50⟩;exact (s_p E (yB (qt E) E)<|nx<|cfs E E<|hJx_1 () _ _ _ _ [] H50 E ⟨E,E,True.intro⟩ E);exact (s_p E (yB (qt E) E)<|nx<|c_t E E<|csr<|gv E E<|nx<|zm<|ze<|zl Tryz.results13 (zf E zi) ⟨_,E,H50⟩))
end Go.Proofs.YtabdpmnhjlmnlaaGreatDoor
end
section
namespace Go.Proofs.YtabdpmnhjlmnlaaGreatDoor
open Go Go.Pt Go.Cr Go.Hp
section
variable {S S' S0 S1:Mem} {ρ ρ' ρ0:Rho} {R:Nat→Prop} {h:Nat} {A:Ad} {C:Cst} {W:Wd} {φ:Nat→Nat→Nat}
theorem ge {m p s:Pt} {gs:Sl} (h:m=none∨p=none∨s=none) {Q:Int→Mem→Prop} (hQ:Q 1 S):qc S m p gs s Q:=by
 apply xD
 unfold ye
 refine qC (fun _=>True) trivial fun J2 _=>?_
 by_cases h1:m=none
 ·rw[if_pos h1];exact hQ
 ·rw[if_neg h1]
  by_cases h2:p=none
  ·rw[if_pos h2];exact hQ
  ·rw[if_neg h2]
   rw[if_pos (by rcases h with h | h | h;exact absurd h h1;exact absurd h h2;exact h)]
   exact hQ
theorem zaU (hc:CrabA S ρ h A C) {m p N:Nat} {d:Nat→List Int} (hm:StoreD S ρ' m N d) (hN:N≠C.N) {gs:Sl} {Q:Int→Mem→Prop} (hQ:Q 1 S):qc S (some (m,0)) (some (p,0)) gs (some (A.t,0)) Q:=by
 apply xD
 unfold ye
 refine qC (fun _=>True) trivial fun J2 _=>?_
 obtain⟨rs,ho,hrn,_⟩:=hc.ownL
 rw[if_neg (by simp),if_neg (by simp),if_neg (by simp),yo,qT hc.t74,if_neg (by simp),qT hc.t74,yo,wb ho]
 refine framesD hm ?_
 refine⟨ho,hc.t74,hc.t74,?_⟩
 rw[hrn,if_pos (by omega)]
 exact hQ
theorem fk (hgl:Gl S) {frames region:Int} (hf:0≤frames∧frames≤255) (hr:0≤region∧region≤255):zZ S frames region fun r S'=>r=true∧Keeps S S' []:=by
 unfold zZ
 have e0:Int.tmod frames 60=frames%60:=Int.tmod_eq_emod_of_nonneg hf.1
 obtain⟨a,ha,ha1,ha6⟩:∃ a:Nat,(a:Int)=1+frames%60∧1≤a∧a≤60:=⟨(1+frames%60).toNat,by omega,by omega,by omega⟩
 have e1:IntKind.i64.wrap (1+(IntKind.i64.wrap (Int.tmod frames 60)))=(a:Int):=by
  rw[e0,w64 (x:=frames%60) (by omega) (by omega),w64 (by omega) (by omega),ha]
 have e2:Int.tmod (IntKind.i64.wrap region) (a:Int)=region%a:=by
  rw[w64 (by omega) (by omega)];exact Int.tmod_eq_emod_of_nonneg hr.1
 have hm:0≤region%(a:Int)∧region%(a:Int)<a:=⟨Int.emod_nonneg _ (by omega),Int.emod_lt_of_pos _ (by omega)⟩
 obtain⟨r,hr1,hr2,hr3⟩:∃ r:Nat,(r:Int)=1+region%(a:Int)∧1≤r∧r≤a:=⟨(1+region%(a:Int)).toNat,by omega,by omega,by omega⟩
 have e3:IntKind.i64.wrap (1+(Int.tmod (IntKind.i64.wrap region) (a:Int)))=(r:Int):=by rw[e2,w64 (by omega) (by omega),hr1]
 rw[e1,e3]
 refine qC (fun J=>∀ S1,Keeps S S1 []→J S1) (fun S1 hk1=>?_) fun J hJ=>?_
 ·refine⟨by omega,?_⟩
  have hgl1:Gl S1:=by
   obtain⟨t,k,hl⟩:=hgl
   refine⟨t,k,?_⟩
   rw[hk1 0 (by rw[hl];simp) (by simp)];exact hl
  have hbad:¬badNew 1 a r:=by unfold badNew;omega
  refine zbZ hgl1 hbad fun S2 ρ h A l u m hc ht hl=>?_
  have hrel:=zcy hbad ht hl
  have hN:(cstN 1 (a:Int).toNat l u).N=a:=by show (a:Int).toNat=a;omega
  have hll:l.length=r:=by omega
  have hNl:Nl (cstN 1 (a:Int).toNat l u) _ _:=⟨hrel,fun _=>rfl⟩
  have hk2:=hk1.trans (kB m)
  generalize hC:cstN 1 (a:Int).toNat l u=C at hc hNl hN
  have hreg:C.region=l:=by rw[←hC];rfl
  refine qC (fun J=>J S2) ?_ fun J hJ=>by rw[if_neg (by simp)];exact hJ
  apply yE
  unfold ql
  rw[yo,qT hc.c0,qT hc.c1,wb hc.c4,qT hc.c3]
  refine zbv hc hNl fun S3 hk3=>?_
  have hc3:=hc.keeps hk3
  dsimp only
  rw[if_pos rfl,yo,qT hc3.c1,wb hc3.c4,qT hc3.c3,w64 (by omega) (by omega)]
  refine ko (N:=a+1) rg0 (by omega) (by omega) fun m4 S4 ρ4 mv4 hst4=>?_
  have hk4:=hk3.trans (kB mv4)
  have hc4:=hc.keeps hk4
  refine⟨hc4.c3,hc4.c4,hc4.c1,?_⟩
  refine zaU hc4 hst4 (by omega) ?_
  rw[if_pos rfl,qT hc4.c1,wb hc4.c4,qT hc4.c3]
  refine ge (.inl rfl) ?_
  rw[if_pos rfl,qT hc4.c0,wb hc4.c4,qT hc4.c3]
  refine ge (.inr (.inl rfl)) ?_
  rw[if_pos rfl,qT hc4.c0,qT hc4.c1,wb hc4.c4]
  refine ge (.inr (.inr rfl)) ?_
  rw[if_pos rfl,qT hc4.c0,wb hc4.c4,qT hc4.c3]
  refine jf (N:=a) rg0 (by omega) (by omega) fun p5 S5 ρ5 mv5 hp5=>?_
  have hk5:=hk4.trans (kB mv5)
  have hc5:=hc.keeps hk5
  refine⟨hc5.c3,hc5.c4,hc5.c0,?_⟩
  have hmem:∃ f,f<C.N∧(C.own f).kind=1:=by
   obtain⟨f,hf⟩:=List.exists_mem_of_length_pos (l:=l) (by omega)
   exact⟨f,(hNl.rel.hyp.2 f).1 (by rw[hreg];exact hf)⟩
  refine gf hc5 (n:=0) (e:=8) (by decide) (fun i hi=>absurd hi (by omega)) (fun _ S6 hk6 K hK=>?_) (fun _=>by decide) fun S6 hk6=>?_
  ·have hp6:PoolP S6 ρ5 p5 C.N (fun _=>false) (-1):=by rw[hN];exact hp5.keep (Mv.keeps (R:=fun _=>False) mv5.rg hk6) id id id
   refine wX (hc5.keeps hk6) hp6 (fun hall=>?_) fun _=>hK _ Keeps.refl
   obtain⟨f,h1,h2⟩:=hmem
   have:=(hall f h1).1
   rw[h2] at this
   simp at this
  ·rw[if_pos (by decide)]
   have hk6':=hk5.trans hk6
   have hc6:=hc.keeps hk6'
   rw[qT hc6.c0,qT hc6.c1,qT hc6.c3]
   refine gf hc6 (n:=1) (e:=7) (by decide) (fun i hi S7 hk7 K hK=>?_) (fun _ S7 hk7 K hK=>?_) (fun _=>by decide) fun S7 hk7=>?_
   ·have:i=0:=by omega
    subst this
    have hc7:=hc6.keeps hk7
    exact wX hc7 hc7.pl (fun _=>hK _ Keeps.refl) fun h=>absurd hNl.frames h
   ·refine fZ (ρ':=ρ) (l:=[]) (r:=0) (hc6.keeps hk7) Rw.nil (fun f hf=>by cases hf) (by decide) ?_
    have hcn:=hNl.rel.cHyp (n:=0)
    rw[hreg] at hcn
    rw[if_neg (by rw[hcn,hll];simp;omega)]
    exact hK _ Keeps.refl
   ·exact⟨by decide,hk2.trans (hk6'.trans hk7)⟩
 ·refine awake21 hgl fun S1 hk1=>?_
  rw[if_pos rfl]
  exact hJ S1 hk1
end
end Go.Proofs.YtabdpmnhjlmnlaaGreatDoor
end
section
namespace Go.Pt
open Go Go.RowKit Go.ChangeShapes
def memOf (W:World):Mem:=fun b=>match W.heap[b]? with
 | some (.cells c t fr)=>some ⟨t,c.toList,fr⟩
 | _=>none
theorem zbn (W:World):St W (memOf W) (memOf W) [] W:=by
 refine⟨rfl,rfl,rfl,Nat.le_refl _,fun _ _ _=>rfl,fun b k h=>?_,by simp,by simp,fun b h1 h2=>(h2 h1).elim,fun _ h=>h⟩
 unfold memOf at h
 split at h
 ·rename_i c t fr hh
  cases h
  simpa using hh
 ·cases h
theorem zaV {P:Program} {f:FuncId} {args:List Value} {W:World} {u:Value} (h:Tr P f (memOf W) args (fun v S'=>v=u∧Keeps (memOf W) S' [])) :
  Calls P f args.toArray W fun e W'=>e=.returned u∧Below W.heap.size W W':=by
 refine (h W (zbn W)).mono ?_
 rintro e W' ⟨v,S',rfl,⟨rfl,hk⟩,hS⟩
 refine⟨rfl,hS.os,hS.tape,hS.output,hS.size,fun k hlt=>?_⟩
 cases hm:memOf W k with
 | none=>exact hS.frame k hlt hm
 | some q=>
  have e1:=hS.mem k q (hk.get hm (by simp))
  have e2:=(zbn W).mem k q hm
  rw[e1,e2]
def BytesIn (S:Mem) (l:Sl):Prop:=∀ i:Nat,i<l.n→∃ b o z,l.p=some (b,o)∧S.cell b (o+i)=some (.int .u8 z)∧0≤z∧z≤255
theorem BytesIn.keep {S S':Mem} {l:Sl} (h:BytesIn S l) (hk:Keeps S S' []):BytesIn S' l:=fun i hi=>by
 obtain⟨b,o,z,h1,h2,h3⟩:=h i hi
 obtain⟨k,h4,h5⟩:=zbw h2
 exact⟨b,o,z,h1,by rw[qE (hk.get h4 (by simp))];exact h5,h3⟩
end Go.Pt
end
section
namespace Go.Pt
open Go Go.RowKit Go.ChangeShapes
def NumsIn (S:Mem) (l:Sl):Prop:=∀ i:Nat,i<l.n→∃ b o z,l.p=some (b,o)∧S.cell b (o+i)=some (.int .u64 z)∧0≤z∧z≤18446744073709551615
theorem NumsIn.keep {S S':Mem} {l:Sl} (h:NumsIn S l) (hk:Keeps S S' []):NumsIn S' l:=fun i hi=>by
 obtain⟨b,o,z,h1,h2,h3⟩:=h i hi
 obtain⟨k,h4,h5⟩:=zbw h2
 exact⟨b,o,z,h1,by rw[qE (hk.get h4 (by simp))];exact h5,h3⟩
end Go.Pt
end
section
namespace Go.Pt
open Go Go.RowKit Go.ChangeShapes Go.WideShapes Go.ChangeAt Go.Lib
theorem zaL {H:Type} {enc:TypeId×Value→H} {a:Assume} {C:Checked} {os:Os} {f:FuncId} {fn:Func} {s:ChangeSpec} {conds:List PathCond} {apart fresh handsOn again:Bool} {X:World→Array Value→Prop}
  (hX:∀ (w w':World) (args:Array Value),w.heap=w'.heap→X w args→X w' args) (own:ownKnob C.prog.godebug=none) (started:os.Started) (noInit:C.prog.inits.idxOf? f=none) (hfn:C.prog.funcs[f]? = some fn)
  (witness:∃ (w:World) (tape:Tape) (i:Input),w.os=os∧(w.forCall tape i).Shaped C.prog∧i.vars=[]∧Input.okWide C.prog (w.forCall tape i) .any w.heap.size f i ∧
   ((s.pre enc C.prog fn conds apart (w.forCall tape i).memory i.args∧X (w.forCall tape i).memory i.args)∧sizedMet enc C.prog fn (OpenSpec.ofChange s) apart (w.forCall tape i).memory i.args)∧a.holds C.prog (lone (Frame.enter C.prog f i.args .normal) [] (w.forCall tape i)))
  (law:∀ (W:World) (base:Nat) (args:Array Value) (ds gs:List (DataW H)) (before:List MemPlace),(∀ (j:Nat) t v,fn.params[j]? = some t→args[j]? = some v→Value.okWide C.prog W .any base t v) →
   DataW.Whole enc C.prog fn.params.toList s.vars apart W args.toList ds gs before→X W args→W.ShapedOpen C.prog →
   Calls C.prog f args W fun e W'=>∃ v,e=.returned v∧s.post enc C.prog fn apart fresh handsOn again W args v W') :
  ReturnsInHanded a C os f .any (fun w args=>(s.pre enc C.prog fn conds apart w args∧X w args)∧sizedMet enc C.prog fn (OpenSpec.ofChange s) apart w args) (s.post enc C.prog fn apart fresh handsOn again):=
 returnsInHanded_of_calls own started noInit witness fun w tape i _ hsh _ hok hpre _=>by
  obtain⟨_,_,_,g,hg,_,_,_,_,hval⟩:=hok
  obtain rfl:g=fn:=Option.some.inj (hg.symm.trans hfn)
  obtain⟨⟨⟨ds,gs,before,hw,_⟩,hx⟩,_⟩:=hpre
  refine (law (w.forCall tape i) w.heap.size i.args ds gs before hval (DataW.Whole.of_heap (w':=w.forCall tape i) (by rfl) hw) (hX _ _ _ (by rfl) hx) hsh).mono fun e W' h=>?_
  obtain⟨v,rfl,hp⟩:=h
  exact ChangeSpec.post_blind hp
theorem yA {a b:Bool} (h:a=true) (k:b=true):(a && b)=true:=by rw[h,k];rfl
end Go.Pt
namespace Go.Proofs.YtabdpmnhjlmnlaaGreatDoor
open Go Go.Pt Go.RowKit Go.Lib Go.Cr Go.ChangeShapes Go.WideShapes
set_option maxRecDepth 10000
theorem zdM {W:World} {P:Program} {n:String} {g:Nat} {cs:Array Value} (hg:P.globalNamed n=some g) (h:W.var? P n=some cs):∃ t fr,memOf W g=some ⟨t,cs.toList,fr⟩:=by
 unfold World.var? at h
 rw[hg] at h
 simp only[Option.bind_some] at h
 split at h
 ·rename_i c t fr hh
  cases h
  exact⟨t,fr,by unfold memOf;rw[hh]⟩
 ·cases h
theorem gl_of_laid {W:World} (h:laidMetH Tryz.prog Rows.crabBeginsRow.laid W):Gl (memOf W):=by
 rw[MakeChecks.laidMetH_plain _ _ _ (by kernel_rfl)] at h
 have hp : VarReads Tryz.prog W "math/bits.deBruijn64tab" Rows.laid_math_bits_deBruijn64tab := laidMet.reads h (by simp [Rows.crabBeginsRow])
 obtain⟨g,t,cs,fuel,p,hg,ht,hv,hd⟩:=hp
 obtain rfl := Option.some.inj ((show Tryz.prog.globalNamed "math/bits.deBruijn64tab" = some 0 by kernel_rfl).symm.trans hg)
 obtain rfl:=Option.some.inj ((show (Tryz.prog.globals[0]?).map (·.type)=some 337 by kernel_rfl).symm.trans ht)
 obtain⟨t',fr,hm⟩:=zdM hg hv
 have e:(Rows.laid_math_bits_deBruijn64tab:DataW Unit)=tabData .u8 (deBruijn64tab.map fun (n:Nat)=>(n:Int)):=by kernel_rfl
 rw[e] at hd
 have hcs:=cells_of_tab Tryz.underlying337 Tryz.underlying5 (by kernel_rfl) (by kernel_rfl) hd
 rw[hcs,List.map_map] at hm
 exact⟨t',fr,hm⟩
end Go.Proofs.YtabdpmnhjlmnlaaGreatDoor
end
