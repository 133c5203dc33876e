/- Texts of this work,joined by program (pack.py). -/
import Derived.Test.YtabdpmnhjlmnlaaGreatDoorQBC
import Derived.Test.YtabdpmnhjlmnlaaGreatDoorQBD
import Derived.Test.YtabdpmnhjlmnlaaGreatDoorQBK
set_option linter.unusedVariables false
namespace Go.Proofs.YtabdpmnhjlmnlaaGreatDoor
section
open Go Go.Pt Go.Proofs.Tryz
attribute [local irreducible] lt WD WN Code.wp Back bodyPost wpList FR WL WC WQ WA AW Tr Yc HC AllC
set_option maxRecDepth 20000
set_option maxHeartbeats 4000000
def xo (S:Mem) (s:List Value) (m:Pt) (time:Int) (me:Int) (Q:List Value→Int→Int→Mem→Prop):Prop:=
 s.length=26 ∧
 jn (fun (v:List Value) (Sx:Mem)=>
 v.length=26 ∧
 jn (fun (s_1:List Value) (v_1:List Value) (Sx_1:Mem)=>
 s_1.length=26 ∧
 v_1.length=26 ∧
 jn (fun (w:Int) (ok:Bool) (Sx_2:Mem)=>
 if ok=true then
 jn (fun (n:Int) (c_1:Int) (Sx_3:Mem)=>
 jn (fun (v_2:List Value) (Sx_4:Mem)=>
 v_2.length=26 ∧
 0≤IntKind.u8.wrap (Int.tmod (IntKind.u64.wrap (Int.tdiv w 4194304)) 16)∧IntKind.u8.wrap (Int.tmod (IntKind.u64.wrap (Int.tdiv w 4194304)) 16)<16 ∧
 gI (nthL s_1 (0+(IntKind.u8.wrap (Int.tmod (IntKind.u64.wrap (Int.tdiv w 4194304)) 16)).toNat*1)) .u64 fun t=>
 0≤IntKind.u8.wrap (Int.tmod (IntKind.u64.wrap (Int.tdiv w 262144)) 16)∧IntKind.u8.wrap (Int.tmod (IntKind.u64.wrap (Int.tdiv w 262144)) 16)<16 ∧
 gI (nthL s_1 (0+(IntKind.u8.wrap (Int.tmod (IntKind.u64.wrap (Int.tdiv w 262144)) 16)).toNat*1)) .u64 fun t_1=>
 0≤c_1∧c_1<16 ∧
 gI (nthL s_1 (0+c_1.toNat*1)) .u64 fun t_2=>
 gI (nthL s_1 16) .u64 fun t_3=>
 jn (fun (next:Int) (s_2:List Value) (v_3:List Value) (Sx_5:Mem)=>
 s_2.length=26 ∧
 v_3.length=26 ∧
 (spl s_2 16 ([.int .u64 next])).all (·.oneCell')=true ∧
 Q (spl s_2 16 ([.int .u64 next])) 0 0 Sx_5) fun Jx=>
 if IntKind.u8.wrap (IntKind.u64.wrap (Int.tdiv w 67108864))=1 then
 0≤IntKind.u8.wrap (Int.tmod (IntKind.u64.wrap (Int.tdiv w 4194304)) 16)∧IntKind.u8.wrap (Int.tmod (IntKind.u64.wrap (Int.tdiv w 4194304)) 16)<16 ∧
 Jx (IntKind.u64.wrap (t_3+4)) (spl s_1 (0+(IntKind.u8.wrap (Int.tmod (IntKind.u64.wrap (Int.tdiv w 4194304)) 16)).toNat*1) ([.int .u64 (IntKind.u64.wrap (IntKind.i64.wrap n))])) v_2 Sx_4
 else
 if IntKind.u8.wrap (IntKind.u64.wrap (Int.tdiv w 67108864))=2 then
 0≤IntKind.u8.wrap (Int.tmod (IntKind.u64.wrap (Int.tdiv w 4194304)) 16)∧IntKind.u8.wrap (Int.tmod (IntKind.u64.wrap (Int.tdiv w 4194304)) 16)<16 ∧
 Jx (IntKind.u64.wrap (t_3+4)) (spl s_1 (0+(IntKind.u8.wrap (Int.tmod (IntKind.u64.wrap (Int.tdiv w 4194304)) 16)).toNat*1) ([.int .u64 (IntKind.u64.wrap ((Int.tmod t 65536)+(IntKind.u64.wrap ((IntKind.u64.wrap (IntKind.i64.wrap n))*65536))))])) v_2 Sx_4
 else
 if IntKind.u8.wrap (IntKind.u64.wrap (Int.tdiv w 67108864))=3 then
 0≤IntKind.u8.wrap (Int.tmod (IntKind.u64.wrap (Int.tdiv w 4194304)) 16)∧IntKind.u8.wrap (Int.tmod (IntKind.u64.wrap (Int.tdiv w 4194304)) 16)<16 ∧
 Jx (IntKind.u64.wrap (t_3+4)) (spl s_1 (0+(IntKind.u8.wrap (Int.tmod (IntKind.u64.wrap (Int.tdiv w 4194304)) 16)).toNat*1) ([.int .u64 (IntKind.u64.wrap (t_1+t_2))])) v_2 Sx_4
 else
 if IntKind.u8.wrap (IntKind.u64.wrap (Int.tdiv w 67108864))=4 then
 0≤IntKind.u8.wrap (Int.tmod (IntKind.u64.wrap (Int.tdiv w 4194304)) 16)∧IntKind.u8.wrap (Int.tmod (IntKind.u64.wrap (Int.tdiv w 4194304)) 16)<16 ∧
 Jx (IntKind.u64.wrap (t_3+4)) (spl s_1 (0+(IntKind.u8.wrap (Int.tmod (IntKind.u64.wrap (Int.tdiv w 4194304)) 16)).toNat*1) ([.int .u64 (IntKind.u64.wrap (t_1-t_2))])) v_2 Sx_4
 else
 if IntKind.u8.wrap (IntKind.u64.wrap (Int.tdiv w 67108864))=5 then
 0≤IntKind.u8.wrap (Int.tmod (IntKind.u64.wrap (Int.tdiv w 4194304)) 16)∧IntKind.u8.wrap (Int.tmod (IntKind.u64.wrap (Int.tdiv w 4194304)) 16)<16 ∧
 Jx (IntKind.u64.wrap (t_3+4)) (spl s_1 (0+(IntKind.u8.wrap (Int.tmod (IntKind.u64.wrap (Int.tdiv w 4194304)) 16)).toNat*1) ([.int .u64 (IntKind.u64.wrap (t_1*t_2))])) v_2 Sx_4
 else
 if IntKind.u8.wrap (IntKind.u64.wrap (Int.tdiv w 67108864))=6 then
 0≤IntKind.u8.wrap (Int.tmod (IntKind.u64.wrap (Int.tdiv w 4194304)) 16)∧IntKind.u8.wrap (Int.tmod (IntKind.u64.wrap (Int.tdiv w 4194304)) 16)<16 ∧
 Jx (IntKind.u64.wrap (t_3+4)) (spl s_1 (0+(IntKind.u8.wrap (Int.tmod (IntKind.u64.wrap (Int.tdiv w 4194304)) 16)).toNat*1) ([.int .u64 (iand .u64 t_1 t_2)])) v_2 Sx_4
 else
 if IntKind.u8.wrap (IntKind.u64.wrap (Int.tdiv w 67108864))=7 then
 0≤IntKind.u8.wrap (Int.tmod (IntKind.u64.wrap (Int.tdiv w 4194304)) 16)∧IntKind.u8.wrap (Int.tmod (IntKind.u64.wrap (Int.tdiv w 4194304)) 16)<16 ∧
 Jx (IntKind.u64.wrap (t_3+4)) (spl s_1 (0+(IntKind.u8.wrap (Int.tmod (IntKind.u64.wrap (Int.tdiv w 4194304)) 16)).toNat*1) ([.int .u64 (ior .u64 t_1 t_2)])) v_2 Sx_4
 else
 if IntKind.u8.wrap (IntKind.u64.wrap (Int.tdiv w 67108864))=8 then
 0≤IntKind.u8.wrap (Int.tmod (IntKind.u64.wrap (Int.tdiv w 4194304)) 16)∧IntKind.u8.wrap (Int.tmod (IntKind.u64.wrap (Int.tdiv w 4194304)) 16)<16 ∧
 Jx (IntKind.u64.wrap (t_3+4)) (spl s_1 (0+(IntKind.u8.wrap (Int.tmod (IntKind.u64.wrap (Int.tdiv w 4194304)) 16)).toNat*1) ([.int .u64 (ixor .u64 t_1 t_2)])) v_2 Sx_4
 else
 if IntKind.u8.wrap (IntKind.u64.wrap (Int.tdiv w 67108864))=9 then
 0≤Int.tmod t_2 64 ∧
 0≤IntKind.u8.wrap (Int.tmod (IntKind.u64.wrap (Int.tdiv w 4194304)) 16)∧IntKind.u8.wrap (Int.tmod (IntKind.u64.wrap (Int.tdiv w 4194304)) 16)<16 ∧
 Jx (IntKind.u64.wrap (t_3+4)) (spl s_1 (0+(IntKind.u8.wrap (Int.tmod (IntKind.u64.wrap (Int.tdiv w 4194304)) 16)).toNat*1) ([.int .u64 (ishl .u64 t_1 (Int.tmod t_2 64))])) v_2 Sx_4
 else
 if IntKind.u8.wrap (IntKind.u64.wrap (Int.tdiv w 67108864))=10 then
 0≤Int.tmod t_2 64 ∧
 0≤IntKind.u8.wrap (Int.tmod (IntKind.u64.wrap (Int.tdiv w 4194304)) 16)∧IntKind.u8.wrap (Int.tmod (IntKind.u64.wrap (Int.tdiv w 4194304)) 16)<16 ∧
 Jx (IntKind.u64.wrap (t_3+4)) (spl s_1 (0+(IntKind.u8.wrap (Int.tmod (IntKind.u64.wrap (Int.tdiv w 4194304)) 16)).toNat*1) ([.int .u64 (ishr .u64 t_1 (Int.tmod t_2 64))])) v_2 Sx_4
 else
 if IntKind.u8.wrap (IntKind.u64.wrap (Int.tdiv w 67108864))=11 then
 0≤IntKind.u8.wrap (Int.tmod (IntKind.u64.wrap (Int.tdiv w 4194304)) 16)∧IntKind.u8.wrap (Int.tmod (IntKind.u64.wrap (Int.tdiv w 4194304)) 16)<16 ∧
 Jx (IntKind.u64.wrap (t_3+4)) (spl s_1 (0+(IntKind.u8.wrap (Int.tmod (IntKind.u64.wrap (Int.tdiv w 4194304)) 16)).toNat*1) ([.int .u64 (IntKind.u64.wrap (t_1+(IntKind.u64.wrap (IntKind.i64.wrap n))))])) v_2 Sx_4
 else
 if IntKind.u8.wrap (IntKind.u64.wrap (Int.tdiv w 67108864))=12 then
 qR Sx_4 s_1 m (IntKind.u64.wrap (t_1+(IntKind.u64.wrap (IntKind.i64.wrap n)))) 8 fun t_4 t_5 Sx_6=>
 if t_5=true then
 0≤IntKind.u8.wrap (Int.tmod (IntKind.u64.wrap (Int.tdiv w 4194304)) 16)∧IntKind.u8.wrap (Int.tmod (IntKind.u64.wrap (Int.tdiv w 4194304)) 16)<16 ∧
 Jx (IntKind.u64.wrap (t_3+4)) (spl s_1 (0+(IntKind.u8.wrap (Int.tmod (IntKind.u64.wrap (Int.tdiv w 4194304)) 16)).toNat*1) ([.int .u64 t_4])) v_2 Sx_6
 else
 zz Sx_6 s_1 3 (IntKind.u64.wrap (t_1+(IntKind.u64.wrap (IntKind.i64.wrap n)))) fun t_6 t_7 t_8 Sx_7=>
 t_6.all (·.oneCell')=true ∧
 Q t_6 t_7 t_8 Sx_7
 else
 if IntKind.u8.wrap (IntKind.u64.wrap (Int.tdiv w 67108864))=13 then
 yI Sx_4 s_1 m (IntKind.u64.wrap (t_1+(IntKind.u64.wrap (IntKind.i64.wrap n)))) t fun t_9 Sx_8=>
 if t_9=true then
 Jx (IntKind.u64.wrap (t_3+4)) s_1 v_2 Sx_8
 else
 zz Sx_8 s_1 4 (IntKind.u64.wrap (t_1+(IntKind.u64.wrap (IntKind.i64.wrap n)))) fun t_10 t_11 t_12 Sx_9=>
 t_10.all (·.oneCell')=true ∧
 Q t_10 t_11 t_12 Sx_9
 else
 if IntKind.u8.wrap (IntKind.u64.wrap (Int.tdiv w 67108864))=14 then
 if t=t_1 then
 gI (nthL s_1 16) .u64 fun t_13=>
 Jx (IntKind.u64.wrap (t_13+(IntKind.u64.wrap (4*(IntKind.u64.wrap (IntKind.i64.wrap n)))))) s_1 v_2 Sx_4
 else
 Jx (IntKind.u64.wrap (t_3+4)) s_1 v_2 Sx_4
 else
 if IntKind.u8.wrap (IntKind.u64.wrap (Int.tdiv w 67108864))=15 then
 if t≠t_1 then
 gI (nthL s_1 16) .u64 fun t_14=>
 Jx (IntKind.u64.wrap (t_14+(IntKind.u64.wrap (4*(IntKind.u64.wrap (IntKind.i64.wrap n)))))) s_1 v_2 Sx_4
 else
 Jx (IntKind.u64.wrap (t_3+4)) s_1 v_2 Sx_4
 else
 if IntKind.u8.wrap (IntKind.u64.wrap (Int.tdiv w 67108864))=16 then
 if IntKind.i64.wrap t<IntKind.i64.wrap t_1 then
 gI (nthL s_1 16) .u64 fun t_15=>
 Jx (IntKind.u64.wrap (t_15+(IntKind.u64.wrap (4*(IntKind.u64.wrap (IntKind.i64.wrap n)))))) s_1 v_2 Sx_4
 else
 Jx (IntKind.u64.wrap (t_3+4)) s_1 v_2 Sx_4
 else
 if IntKind.u8.wrap (IntKind.u64.wrap (Int.tdiv w 67108864))=17 then
 gI (nthL s_1 16) .u64 fun t_16=>
 0≤IntKind.u8.wrap (Int.tmod (IntKind.u64.wrap (Int.tdiv w 4194304)) 16)∧IntKind.u8.wrap (Int.tmod (IntKind.u64.wrap (Int.tdiv w 4194304)) 16)<16 ∧
 Jx (IntKind.u64.wrap (t_1+(IntKind.u64.wrap (IntKind.i64.wrap n)))) (spl s_1 (0+(IntKind.u8.wrap (Int.tmod (IntKind.u64.wrap (Int.tdiv w 4194304)) 16)).toNat*1) ([.int .u64 (IntKind.u64.wrap (t_16+4))])) v_2 Sx_4
 else
 if IntKind.u8.wrap (IntKind.u64.wrap (Int.tdiv w 67108864))=18 then
 jn (fun (openx:Int) (Sx_10:Mem)=>
 gI (nthL s_1 17) .u64 fun t_17=>
 gI (nthL s_1 18) .u64 fun t_18=>
 gI (nthL s_1 19) .u64 fun t_19=>
 gI (nthL s_1 20) .u64 fun t_20=>
 gI (nthL s_1 21) .u64 fun t_21=>
 gI (nthL s_1 25) .u32 fun t_22=>
 al Sx_10 39 ([.int .u64 t_17,.int .u64 t_18,.int .u64 t_19,.int .u64 t_20,.int .u64 t_21,.int .u64 (IntKind.u64.wrap t_22),.int .u64 openx,.int .u64 time,.int .u64 (IntKind.u64.wrap me)]) fun b_2 Sx_11=>
 0≤n∧n<9 ∧
 gI (Sx_11.cell b_2 (0+n.toNat*1)) .u64 fun t_23=>
 0≤IntKind.u8.wrap (Int.tmod (IntKind.u64.wrap (Int.tdiv w 4194304)) 16)∧IntKind.u8.wrap (Int.tmod (IntKind.u64.wrap (Int.tdiv w 4194304)) 16)<16 ∧
 Jx (IntKind.u64.wrap (t_3+4)) (spl s_1 (0+(IntKind.u8.wrap (Int.tmod (IntKind.u64.wrap (Int.tdiv w 4194304)) 16)).toNat*1) ([.int .u64 t_23])) v_2 Sx_11) fun Jx_1=>
 gB (nthL s_1 22) fun t_24=>
 if t_24=true then
 Jx_1 1 Sx_4
 else
 Jx_1 0 Sx_4
 else
 if IntKind.u8.wrap (IntKind.u64.wrap (Int.tdiv w 67108864))=19 then
 if n=0 then
 Jx (IntKind.u64.wrap (t_3+4)) (spl s_1 17 ([.int .u64 t])) v_2 Sx_4
 else
 if n=1 then
 Jx (IntKind.u64.wrap (t_3+4)) (spl s_1 18 ([.int .u64 t])) v_2 Sx_4
 else
 if n=2 then
 Jx (IntKind.u64.wrap (t_3+4)) (spl s_1 19 ([.int .u64 t])) v_2 Sx_4
 else
 if n=3 then
 Jx (IntKind.u64.wrap (t_3+4)) (spl s_1 20 ([.int .u64 t])) v_2 Sx_4
 else
 if n=4 then
 Jx (IntKind.u64.wrap (t_3+4)) (spl s_1 21 ([.int .u64 t])) v_2 Sx_4
 else
 if n=5 then
 Jx (IntKind.u64.wrap (t_3+4)) (spl s_1 25 ([.int .u32 (IntKind.u32.wrap (Int.tmod t 256))])) v_2 Sx_4
 else
 if n=6 then
 Jx (IntKind.u64.wrap (t_3+4)) (spl s_1 22 ([.bool (decide (Int.tmod t 2=1))])) v_2 Sx_4
 else
 gI (nthL s_1 16) .u64 fun t_25=>
 zz Sx_4 s_1 1 t_25 fun t_26 t_27 t_28 Sx_12=>
 t_26.all (·.oneCell')=true ∧
 Q t_26 t_27 t_28 Sx_12
 else
 if IntKind.u8.wrap (IntKind.u64.wrap (Int.tdiv w 67108864))=20 then
 (spl s_1 16 ([.int .u64 (IntKind.u64.wrap (t_3+4))])).all (·.oneCell')=true ∧
 Q (spl s_1 16 ([.int .u64 (IntKind.u64.wrap (t_3+4))])) 2 (IntKind.u64.wrap (IntKind.i64.wrap n)) Sx_4
 else
 if IntKind.u8.wrap (IntKind.u64.wrap (Int.tdiv w 67108864))=21 then
 gI (nthL (spl s_1 16 ([.int .u64 (IntKind.u64.wrap (t_3+4))])) 24) .u32 fun t_29=>
 gI (nthL (spl s_1 16 ([.int .u64 (IntKind.u64.wrap (t_3+4))])) 25) .u32 fun t_30=>
 if iand .u32 t_29 t_30=0 then
 (spl (spl s_1 16 ([.int .u64 (IntKind.u64.wrap (t_3+4))])) 23 ([.int .u8 1])).all (·.oneCell')=true ∧
 Q (spl (spl s_1 16 ([.int .u64 (IntKind.u64.wrap (t_3+4))])) 23 ([.int .u8 1])) 3 0 Sx_4
 else
 (spl s_1 16 ([.int .u64 (IntKind.u64.wrap (t_3+4))])).all (·.oneCell')=true ∧
 Q (spl s_1 16 ([.int .u64 (IntKind.u64.wrap (t_3+4))])) 0 0 Sx_4
 else
 if IntKind.u8.wrap (IntKind.u64.wrap (Int.tdiv w 67108864))=22 then
 gI (nthL s_1 19) .u64 fun t_31=>
 (spl (spl s_1 16 ([.int .u64 t_31])) 22 ([.bool true])).all (·.oneCell')=true ∧
 Q (spl (spl s_1 16 ([.int .u64 t_31])) 22 ([.bool true])) 0 0 Sx_4
 else
 Jx (IntKind.u64.wrap (t_3+4)) s_1 v_2 Sx_4) fun Jx_2=>
 xI Sx_3 (IntKind.u8.wrap (IntKind.u64.wrap (Int.tdiv w 67108864))) (IntKind.u8.wrap (Int.tmod (IntKind.u64.wrap (Int.tdiv w 4194304)) 16)) (IntKind.u8.wrap (Int.tmod (IntKind.u64.wrap (Int.tdiv w 262144)) 16)) c_1 n fun t_32 Sx_13=>
 if t_32=true then
 wo Sx_13 (IntKind.u8.wrap (IntKind.u64.wrap (Int.tdiv w 67108864))) (IntKind.u8.wrap (Int.tmod (IntKind.u64.wrap (Int.tdiv w 4194304)) 16)) (IntKind.u8.wrap (Int.tmod (IntKind.u64.wrap (Int.tdiv w 262144)) 16)) c_1 n fun t_33 Sx_14=>
 if t_33≠IntKind.u32.wrap w then
 zz Sx_14 s_1 1 w fun t_34 t_35 t_36 Sx_15=>
 t_34.all (·.oneCell')=true ∧
 Q t_34 t_35 t_36 Sx_15
 else
 Jx_2 v_1 Sx_14
 else
 zz Sx_13 s_1 1 w fun t_37 t_38 t_39 Sx_16=>
 t_37.all (·.oneCell')=true ∧
 Q t_37 t_38 t_39 Sx_16) fun Jx_3=>
 if IntKind.u8.wrap (IntKind.u64.wrap (Int.tdiv w 67108864))<23 then
 qF Sx_2 (IntKind.u8.wrap (IntKind.u64.wrap (Int.tdiv w 67108864))) fun t_40 Sx_17=>
 if Int.tmod (IntKind.i64.wrap (Int.tdiv t_40 4)) 2=1 then
 Jx_3 0 (IntKind.u8.wrap (Int.tmod w 16)) Sx_17
 else
 Jx_3 (IntKind.i16.wrap (IntKind.u16.wrap (Int.tmod w 65536))) 0 Sx_17
 else
 Jx_3 (IntKind.i16.wrap (IntKind.u16.wrap (Int.tmod w 65536))) 0 Sx_2
 else
 gI (nthL s_1 16) .u64 fun t_41=>
 zz Sx_2 s_1 2 t_41 fun t_42 t_43 t_44 Sx_18=>
 t_42.all (·.oneCell')=true ∧
 Q t_42 t_43 t_44 Sx_18) fun Jx_4=>
 gI (nthL s_1 16) .u64 fun t_45=>
 qR Sx_1 s_1 m t_45 4 fun t_46 t_47 Sx_19=>
 if t_47=true then
 Jx_4 t_46 true Sx_19
 else
 Jx_4 t_46 false Sx_19) fun Jx_5=>
 wj Sx s fun t_48 Sx_20=>
 if 0≤t_48 then
 gI (nthL s 24) .u32 fun t_49=>
 0≤t_48 ∧
 zz Sx_20 (spl s 24 ([.int .u32 (IntKind.u32.wrap (t_49-(ishl .u32 1 t_48)))])) (IntKind.u64.wrap (16+(IntKind.u64.wrap t_48))) 0 fun t_50 t_51 t_52 Sx_21=>
 t_50.all (·.oneCell')=true ∧
 Q t_50 t_51 t_52 Sx_21
 else
 Jx_5 s v Sx_20) fun Jx_6=>
 gI (nthL s 23) .u8 fun t_53=>
 if t_53≠0 then
 s.all (·.oneCell')=true ∧
 Q s 5 0 S
 else
 Jx_6 z43 S
theorem fV {S:Mem} {s:List Value} {m:Pt} {time:Int} {me:Int} {Q:List Value→Int→Int→Mem→Prop} (H:xo S s m time me Q):wh S s m time me Q:=by
 unfold xo at H
 exact Tr.intro func64 E ntmps64 E fun w0=>an H fun hs H1=>csr<|gu E E E fun b=>by refine qk E fun b_1=>?_;exact gv E E<|gv E E<|nx<|zp H1 (fun (J:List Value→Mem→Prop) (z:List Value) S=>J z S) (fun z=>⟨411,[(1,eP m),(2,.int .u64 time),(3,.int .i64 me),(4,.pointer (some ⟨b,0,none⟩)),(8,.pointer (some ⟨b_1,0,none⟩))]⟩) (fun z=>[⟨b,43,s⟩,⟨b_1,43,z⟩]) (fun v Sx H2=>an H2 fun hv H3=>zp H3 (fun (J:List Value→List Value→Mem→Prop) (z:List Value×List Value) S=>J z.1 z.2 S) (fun z=>⟨411,[(1,eP m),(2,.int .u64 time),(3,.int .i64 me),(4,.pointer (some ⟨b,0,none⟩)),(8,.pointer (some ⟨b_1,0,none⟩))]⟩) (fun z=>[⟨b,43,z.1⟩,⟨b_1,43,z.2⟩]) (by rintro⟨s_1,v_1⟩ Sx_1 H4;exact an H4 fun hs_1 H5=>an H5 fun hv_1 H6=>zp H6 (fun (J:Int→Bool→Mem→Prop) (z:Int×Bool) S=>J z.1 z.2 S) (fun z=>⟨411,[(1,eP m),(2,.int .u64 time),(3,.int .i64 me),(4,.pointer (some ⟨b,0,none⟩)),(8,.pointer (some ⟨b_1,0,none⟩)),(12,.int .u64 z.1),(13,.bool z.2)]⟩) (fun z=>[⟨b,43,s_1⟩,⟨b_1,43,v_1⟩]) (by rintro⟨w,ok⟩ Sx_2 H7;exact zO<|csr<|iteK H7 (fun c H8=>s_p E (jb E c)<|s_p E (yB (qC E) E)<|nx<|cfs E E<|zC<|csr<|mv E E<|s_p E (zcN E E (by decide))<|s_p E (qJ ⟨_,underlying39⟩ E)<|gv E E<|nxr<|mv E E<|s_p E (zcN E E (by decide))<|s_p E (zbc E E (by decide))<|s_p E (qJ ⟨_,underlying39⟩ E)<|gv E E<|nxr<|mv E E<|s_p E (zcN E E (by decide))<|s_p E (zbc E E (by decide))<|s_p E (qJ ⟨_,underlying39⟩ E)<|gv E E<|nxr<|mv E E<|s_p E (zbc E E (by decide))<|s_p E (qJ ⟨_,underlying39⟩ E)<|s_p E (qJ ⟨_,underlying166⟩ E)<|gv E E<|nxr<|gv E E<|nx<|zp H8 (fun (J:Int→Int→Mem→Prop) (z:Int×Int) S=>J z.1 z.2 S) (fun z=>⟨411,[(1,eP m),(2,.int .u64 time),(3,.int .i64 me),(4,.pointer (some ⟨b,0,none⟩)),(8,.pointer (some ⟨b_1,0,none⟩)),(12,.int .u64 w),(14,.int .u8 (IntKind.u8.wrap (IntKind.u64.wrap (Int.tdiv w 67108864)))),(15,.int .u8 (IntKind.u8.wrap (Int.tmod (IntKind.u64.wrap (Int.tdiv w 4194304)) 16))),(16,.int .u8 (IntKind.u8.wrap (Int.tmod (IntKind.u64.wrap (Int.tdiv w 262144)) 16))),(17,.int .i16 z.1),(18,.int .u8 z.2)]⟩) (fun z=>[⟨b,43,s_1⟩,⟨b_1,43,v_1⟩]) (by rintro⟨n,c_1⟩ Sx_3 H9;exact zp H9 (fun (J:List Value→Mem→Prop) (z:List Value) S=>J z S) (fun z=>⟨411,[(1,eP m),(2,.int .u64 time),(3,.int .i64 me),(4,.pointer (some ⟨b,0,none⟩)),(8,.pointer (some ⟨b_1,0,none⟩)),(14,.int .u8 (IntKind.u8.wrap (IntKind.u64.wrap (Int.tdiv w 67108864)))),(15,.int .u8 (IntKind.u8.wrap (Int.tmod (IntKind.u64.wrap (Int.tdiv w 4194304)) 16))),(16,.int .u8 (IntKind.u8.wrap (Int.tmod (IntKind.u64.wrap (Int.tdiv w 262144)) 16))),(17,.int .i16 n),(18,.int .u8 c_1)]⟩) (fun z=>[⟨b,43,s_1⟩,⟨b_1,43,z⟩]) (fun v_2 Sx_4 H10=>an H10 fun hv_2 H11=>csr<|mv E E<|s_p E (qJ ⟨_,underlying54⟩ E)<|s_p E (qJ ⟨_,underlying2⟩ E)<|gv E E<|nxr<|mv E E<|s_p E (zv E E)<|an2 H11 fun c_2 c_3 H12=>s_p E (qb E E c_2 c_3 E)<|gx H12 fun t ht H13=>s_v E (zF E) (qm 0 E ht)<|gv E E<|nxr<|mv E E<|s_p E (zv E E)<|an2 H13 fun c_4 c_5 H14=>s_p E (qb E E c_4 c_5 E)<|gx H14 fun t_1 ht_1 H15=>s_v E (zF E) (qm 0 E ht_1)<|gv E E<|nxr<|mv E E<|s_p E (zv E E)<|an2 H15 fun c_6 c_7 H16=>s_p E (qb E E c_6 c_7 E)<|gx H16 fun t_2 ht_2 H17=>s_v E (zF E) (qm 0 E ht_2)<|gv E E<|nxr<|s_p E (zv E E)<|gx H17 fun t_3 ht_3 H18=>s_v E (zF E) (qm 0 E ht_3)<|s_p E (qy E E)<|gv E E<|nx<|zp H18 (fun (J:Int→List Value→List Value→Mem→Prop) (z:Int×List Value×List Value) S=>J z.1 z.2.1 z.2.2 S) (fun z=>⟨411,[(4,.pointer (some ⟨b,0,none⟩)),(8,.pointer (some ⟨b_1,0,none⟩)),(23,.int .u64 z.1)]⟩) (fun z=>[⟨b,43,z.2.1⟩,⟨b_1,43,z.2.2⟩]) (by exact by rintro⟨next,s_2,v_3⟩ Sx_5 H19;exact an H19 fun hs_2 H20=>an H20 fun hv_3 H21=>csr<|mv E E<|s_p E (zv E E)<|qu (sz:=1) (vs:=[.int .u64 next]) 0 E E E E E E (zY hs_2 (by omega)) E<|nxr<|by refine s_v E (qa E (zq hs_2 (by have:=True.intro;(try simp only[List.length_cons,List.length_nil]);omega))) (zx (k:=26) 0 E (ze (zq hs_2 (by have:=True.intro;(try simp only[List.length_cons,List.length_nil]);omega)))) ?_;exact an H21 fun c_8 H22=>zl 1 E E E E E (zq hs_2 (by have:=True.intro;(try simp only[List.length_cons,List.length_nil]);omega)) hv_3 c_8<|gv E E<|gv E E<|nx<|zo<|zn results64 (zr E (zx (k:=26) 1 E (ze (zq hs_2 (by have:=True.intro;(try simp only[List.length_cons,List.length_nil]);omega)))) (zq hs_2 (by have:=True.intro;(try simp only[List.length_cons,List.length_nil]);omega)) (zd E (zd E zg))) ⟨_,_,_,E,zq hs_2 (by have:=True.intro;(try simp only[List.length_cons,List.length_nil]);omega),H22⟩) (by exact fun Jx hJx H23=>csr<|mv E E<|nx<|zE<|csr<|iteK H23 (fun c_9 H24=>ceT E E E (c_9)<|gv E E<|nx<|ctr E E<|mv E E<|mv E E<|s_p E (zv E E)<|an2 H24 fun c_10 c_11 H25=>s_p E (qb E E c_10 c_11 E)<|qu (sz:=1) (vs:=[.int .u64 (IntKind.u64.wrap (IntKind.i64.wrap n))]) 0 E E E E E E (zY hs_1 (by omega)) E<|zu<|zX<|hJx (IntKind.u64.wrap (t_3+4),spl s_1 (0+(IntKind.u8.wrap (Int.tmod (IntKind.u64.wrap (Int.tdiv w 4194304)) 16)).toNat*1) ([.int .u64 (IntKind.u64.wrap (IntKind.i64.wrap n))]),v_2) _ _ _ _ [0,0] H25 E ⟨E,E,E,True.intro⟩ E) fun c_9 H24=>ceF E E E (c_9)<|gv E E<|nx<|c_f E E<|csr<|iteK H24 (fun c_12 H26=>ceT E E E (c_12)<|gv E E<|nx<|ctr E E<|mv E E<|mv E E<|s_p E (zbc E E (by decide))<|mv E E<|s_p E (zca E E)<|s_p E (qy E E)<|s_p E (zv E E)<|an2 H26 fun c_13 c_14 H27=>s_p E (qb E E c_13 c_14 E)<|qu (sz:=1) (vs:=[.int .u64 (IntKind.u64.wrap ((Int.tmod t 65536)+(IntKind.u64.wrap ((IntKind.u64.wrap (IntKind.i64.wrap n))*65536))))]) 0 E E E E E E (zY hs_1 (by omega)) E<|zu<|zX<|hJx (IntKind.u64.wrap (t_3+4),spl s_1 (0+(IntKind.u8.wrap (Int.tmod (IntKind.u64.wrap (Int.tdiv w 4194304)) 16)).toNat*1) ([.int .u64 (IntKind.u64.wrap ((Int.tmod t 65536)+(IntKind.u64.wrap ((IntKind.u64.wrap (IntKind.i64.wrap n))*65536))))]),v_2) _ _ _ _ [0,0] H27 E ⟨E,E,E,True.intro⟩ E) fun c_12 H26=>ceF E E E (c_12)<|gv E E<|nx<|c_f E E<|csr<|iteK H26 (fun c_15 H28=>ceT E E E (c_15)<|gv E E<|nx<|ctr E E<|mv E E<|mv E E<|mv E E<|s_p E (qy E E)<|s_p E (zv E E)<|an2 H28 fun c_16 c_17 H29=>s_p E (qb E E c_16 c_17 E)<|qu (sz:=1) (vs:=[.int .u64 (IntKind.u64.wrap (t_1+t_2))]) 0 E E E E E E (zY hs_1 (by omega)) E<|zu<|zX<|hJx (IntKind.u64.wrap (t_3+4),spl s_1 (0+(IntKind.u8.wrap (Int.tmod (IntKind.u64.wrap (Int.tdiv w 4194304)) 16)).toNat*1) ([.int .u64 (IntKind.u64.wrap (t_1+t_2))]),v_2) _ _ _ _ [0,0] H29 E ⟨E,E,E,True.intro⟩ E) fun c_15 H28=>ceF E E E (c_15)<|gv E E<|nx<|c_f E E<|csr<|iteK H28 (fun c_18 H30=>ceT E E E (c_18)<|gv E E<|nx<|ctr E E<|mv E E<|mv E E<|mv E E<|s_p E (zgv E E)<|s_p E (zv E E)<|an2 H30 fun c_19 c_20 H31=>s_p E (qb E E c_19 c_20 E)<|qu (sz:=1) (vs:=[.int .u64 (IntKind.u64.wrap (t_1-t_2))]) 0 E E E E E E (zY hs_1 (by omega)) E<|zu<|zX<|hJx (IntKind.u64.wrap (t_3+4),spl s_1 (0+(IntKind.u8.wrap (Int.tmod (IntKind.u64.wrap (Int.tdiv w 4194304)) 16)).toNat*1) ([.int .u64 (IntKind.u64.wrap (t_1-t_2))]),v_2) _ _ _ _ [0,0] H31 E ⟨E,E,E,True.intro⟩ E) fun c_18 H30=>ceF E E E (c_18)<|gv E E<|nx<|c_f E E<|csr<|iteK H30 (fun c_21 H32=>ceT E E E (c_21)<|gv E E<|nx<|ctr E E<|mv E E<|mv E E<|mv E E<|s_p E (zca E E)<|s_p E (zv E E)<|an2 H32 fun c_22 c_23 H33=>s_p E (qb E E c_22 c_23 E)<|by exact qu (sz:=1) (vs:=[.int .u64 (IntKind.u64.wrap (t_1*t_2))]) 0 E E E E E E (zY hs_1 (by omega)) E<|zu<|zX<|hJx (IntKind.u64.wrap (t_3+4),spl s_1 (0+(IntKind.u8.wrap (Int.tmod (IntKind.u64.wrap (Int.tdiv w 4194304)) 16)).toNat*1) ([.int .u64 (IntKind.u64.wrap (t_1*t_2))]),v_2) _ _ _ _ [0,0] H33 E ⟨E,E,E,True.intro⟩ E) fun c_21 H32=>ceF E E E (c_21)<|gv E E<|nx<|c_f E E<|csr<|iteK H32 (fun c_24 H34=>ceT E E E (c_24)<|gv E E<|nx<|ctr E E<|by exact mv E E<|mv E E<|mv E E<|s_p E (zjL E E)<|s_p E (zv E E)<|an2 H34 fun c_25 c_26 H35=>s_p E (qb E E c_25 c_26 E)<|qu (sz:=1) (vs:=[.int .u64 (iand .u64 t_1 t_2)]) 0 E E E E E E (zY hs_1 (by omega)) E<|zu<|zX<|hJx (IntKind.u64.wrap (t_3+4),spl s_1 (0+(IntKind.u8.wrap (Int.tmod (IntKind.u64.wrap (Int.tdiv w 4194304)) 16)).toNat*1) ([.int .u64 (iand .u64 t_1 t_2)]),v_2) _ _ _ _ [0,0] H35 E ⟨E,E,E,True.intro⟩ E) fun c_24 H34=>ceF E E E (c_24)<|gv E E<|nx<|c_f E E<|zO<|by exact zw<|iteK H34 (fun c_27 H36=>ceT E E E (c_27)<|gv E E<|nx<|ctr E E<|mv E E<|mv E E<|mv E E<|s_p E (zra E E)<|s_p E (zv E E)<|an2 H36 fun c_28 c_29 H37=>s_p E (qb E E c_28 c_29 E)<|qu (sz:=1) (vs:=[.int .u64 (ior .u64 t_1 t_2)]) 0 E E E E E E (zY hs_1 (by omega)) E<|zu<|zX<|hJx (IntKind.u64.wrap (t_3+4),spl s_1 (0+(IntKind.u8.wrap (Int.tmod (IntKind.u64.wrap (Int.tdiv w 4194304)) 16)).toNat*1) ([.int .u64 (ior .u64 t_1 t_2)]),v_2) _ _ _ _ [0,0] H37 E ⟨E,E,E,True.intro⟩ E) fun c_27 H36=>ceF E E E (c_27)<|gv E E<|nx<|c_f E E<|csr<|iteK H36 (fun c_30 H38=>ceT E E E (c_30)<|gv E E<|nx<|ctr E E<|mv E E<|mv E E<|mv E E<|s_p E (zpl E E)<|s_p E (zv E E)<|an2 H38 fun c_31 c_32 H39=>s_p E (qb E E c_31 c_32 E)<|qu (sz:=1) (vs:=[.int .u64 (ixor .u64 t_1 t_2)]) 0 E E E E E E (zY hs_1 (by omega)) E<|zu<|zX<|hJx (IntKind.u64.wrap (t_3+4),spl s_1 (0+(IntKind.u8.wrap (Int.tmod (IntKind.u64.wrap (Int.tdiv w 4194304)) 16)).toNat*1) ([.int .u64 (ixor .u64 t_1 t_2)]),v_2) _ _ _ _ [0,0] H39 E ⟨E,E,E,True.intro⟩ E) fun c_30 H38=>ceF E E E (c_30)<|gv E E<|nx<|c_f E E<|csr<|iteK H38 (fun c_33 H40=>ceT E E E (c_33)<|gv E E<|nx<|ctr E E<|mv E E<|mv E E<|mv E E<|s_p E (zbc E E (by decide))<|an H40 fun c_34 H41=>s_p E (zmE E E c_34)<|s_p E (zv E E)<|an2 H41 fun c_35 c_36 H42=>s_p E (qb E E c_35 c_36 E)<|qu (sz:=1) (vs:=[.int .u64 (ishl .u64 t_1 (Int.tmod t_2 64))]) 0 E E E E E E (zY hs_1 (by omega)) E<|zu<|zX<|hJx (IntKind.u64.wrap (t_3+4),spl s_1 (0+(IntKind.u8.wrap (Int.tmod (IntKind.u64.wrap (Int.tdiv w 4194304)) 16)).toNat*1) ([.int .u64 (ishl .u64 t_1 (Int.tmod t_2 64))]),v_2) _ _ _ _ [0,0] H42 E ⟨E,E,E,True.intro⟩ E) fun c_33 H40=>ceF E E E (c_33)<|gv E E<|nx<|c_f E E<|csr<|iteK H40 (fun c_37 H43=>ceT E E E (c_37)<|gv E E<|nx<|ctr E E<|mv E E<|mv E E<|mv E E<|s_p E (zbc E E (by decide))<|an H43 fun c_38 H44=>s_p E (zpp E E c_38)<|s_p E (zv E E)<|an2 H44 fun c_39 c_40 H45=>s_p E (qb E E c_39 c_40 E)<|qu (sz:=1) (vs:=[.int .u64 (ishr .u64 t_1 (Int.tmod t_2 64))]) 0 E E E E E E (zY hs_1 (by omega)) E<|zu<|zX<|hJx (IntKind.u64.wrap (t_3+4),spl s_1 (0+(IntKind.u8.wrap (Int.tmod (IntKind.u64.wrap (Int.tdiv w 4194304)) 16)).toNat*1) ([.int .u64 (ishr .u64 t_1 (Int.tmod t_2 64))]),v_2) _ _ _ _ [0,0] H45 E ⟨E,E,E,True.intro⟩ E) fun c_37 H43=>ceF E E E (c_37)<|gv E E<|nx<|c_f E E<|csr<|iteK H43 (fun c_41 H46=>ceT E E E (c_41)<|gv E E<|nx<|ctr E E<|mv E E<|mv E E<|mv E E<|s_p E (qy E E)<|s_p E (zv E E)<|an2 H46 fun c_42 c_43 H47=>s_p E (qb E E c_42 c_43 E)<|qu (sz:=1) (vs:=[.int .u64 (IntKind.u64.wrap (t_1+(IntKind.u64.wrap (IntKind.i64.wrap n))))]) 0 E E E E E E (zY hs_1 (by omega)) E<|zu<|zX<|hJx (IntKind.u64.wrap (t_3+4),spl s_1 (0+(IntKind.u8.wrap (Int.tmod (IntKind.u64.wrap (Int.tdiv w 4194304)) 16)).toNat*1) ([.int .u64 (IntKind.u64.wrap (t_1+(IntKind.u64.wrap (IntKind.i64.wrap n))))]),v_2) _ _ _ _ [0,0] H47 E ⟨E,E,E,True.intro⟩ E) fun c_41 H46=>ceF E E E (c_41)<|gv E E<|nx<|c_f E E<|csr<|iteK H46 (fun c_44 H48=>ceT E E E (c_44)<|gv E E<|nx<|c_t E E<|csr<|by refine s_v E (qa E hs_1) (zx (k:=26) 0 E (ze hs_1)) ?_;exact mv E E<|mv E E<|mv E E<|s_p E (qy E E)<|zhi E E H48 fun t_4 t_5 Sx_6 H49=>mv E E<|s_p E (zj E E)<|iteK H49 (fun c_45 H50=>s_p E (yB (zj E E) c_45)<|gv E E<|gv E E<|nx<|zO<|csr<|mv E E<|s_p E (yB (qC E) E)<|nx<|cfs E E<|zC<|zw<|mv E E<|mv E E<|s_p E (zv E E)<|an2 H50 fun c_46 c_47 H51=>s_p E (qb E E c_46 c_47 E)<|qu (sz:=1) (vs:=[.int .u64 t_4]) 0 E E E E E E (zY hs_1 (by omega)) E<|zu<|zX<|hJx (IntKind.u64.wrap (t_3+4),spl s_1 (0+(IntKind.u8.wrap (Int.tmod (IntKind.u64.wrap (Int.tdiv w 4194304)) 16)).toNat*1) ([.int .u64 t_4]),v_2) _ _ _ _ [0,0] H51 E ⟨E,E,E,True.intro⟩ E) fun c_45 H50=>s_p E (yB (zj E E) (zac c_45))<|gv E E<|gv E E<|nx<|zO<|csr<|mv E E<|s_p E (yB (qC E) E)<|nx<|c_t E E<|csr<|by refine s_v E (qa E hs_1) (zx (k:=26) 0 E (ze hs_1)) ?_;exact mv E E<|mv E E<|s_p E (qy E E)<|qP E E H50 fun rv Sx_7 H52=>by obtain⟨t_6,t_7,t_8,rfl,ht_6,H53⟩:=H52;exact s_p E (zj E E)<|s_p E (zj E E)<|s_p E (zj E E)<|an H53 fun c_48 H54=>zl 1 E E E E E ht_6 hv_2 c_48<|gv E E<|gv E E<|nx<|zo<|zb<|zh<|zb<|zn results64 (zr E (zx (k:=26) 1 E (ze ht_6)) ht_6 (zd E (zd E zg))) ⟨_,_,_,E,ht_6,H54⟩) fun c_44 H48=>ceF E E E (c_44)<|gv E E<|nx<|c_f E E<|csr<|iteK H48 (fun c_49 H55=>ceT E E E (c_49)<|gv E E<|nx<|c_t E E<|zO<|by exact zw<|by refine s_v E (qa E hs_1) (zx (k:=26) 0 E (ze hs_1)) ?_;exact mv E E<|mv E E<|mv E E<|s_p E (qy E E)<|mv E E<|vv E E H55 fun t_9 Sx_8 H56=>by have H57:=zbG H56;rcases H57 with ⟨rfl,H58⟩ | ⟨rfl,H58⟩;exact (s_p E (yB (qC E) E)<|nx<|cfs E E<|zX<|hJx (IntKind.u64.wrap (t_3+4),s_1,v_2) _ _ _ _ [0,0] H58 E ⟨E,E,E,True.intro⟩ E);exact (s_p E (yB (qC E) E)<|nx<|c_t E E<|csr<|by refine s_v E (qa E hs_1) (zx (k:=26) 0 E (ze hs_1)) ?_;exact mv E E<|mv E E<|s_p E (qy E E)<|qP E E H58 fun rv Sx_9 H59=>by obtain⟨t_10,t_11,t_12,rfl,ht_10,H60⟩:=H59;exact s_p E (zj E E)<|s_p E (zj E E)<|s_p E (zj E E)<|an H60 fun c_50 H61=>zl 1 E E E E E ht_10 hv_2 c_50<|gv E E<|gv E E<|nx<|zo<|zh<|zb<|zn results64 (zr E (zx (k:=26) 1 E (ze ht_10)) ht_10 (zd E (zd E zg))) ⟨_,_,_,E,ht_10,H61⟩)) fun c_49 H55=>ceF E E E (c_49)<|gv E E<|nx<|c_f E E<|zO<|by exact zw<|iteK H55 (fun c_51 H62=>ceT E E E (c_51)<|gv E E<|nx<|c_t E E<|csr<|mv E E<|mv E E<|iteK H62 (fun c_52 H63=>ceT E E E (c_52)<|nx<|ctr E E<|s_p E (zv E E)<|gx H63 fun t_13 ht_13 H64=>s_v E (zF E) (qm 0 E ht_13)<|mv E E<|s_p E (zca E E)<|s_p E (qy E E)<|gv E E<|zu<|zX<|hJx (IntKind.u64.wrap (t_13+(IntKind.u64.wrap (4*(IntKind.u64.wrap (IntKind.i64.wrap n))))),s_1,v_2) _ _ _ _ [0,0] H64 E ⟨E,E,E,True.intro⟩ E) fun c_52 H63=>ceF E E E (c_52)<|nx<|cfs E E<|zX<|hJx (IntKind.u64.wrap (t_3+4),s_1,v_2) _ _ _ _ [0,0] H63 E ⟨E,E,E,True.intro⟩ E) fun c_51 H62=>ceF E E E (c_51)<|gv E E<|nx<|c_f E E<|csr<|iteK H62 (fun c_53 H65=>ceT E E E (c_53)<|gv E E<|nx<|c_t E E<|csr<|mv E E<|mv E E<|iteK H65 (fun c_54 H66=>s_p E (yT (qw E E) c_54)<|nx<|ctr E E<|s_p E (zv E E)<|gx H66 fun t_14 ht_14 H67=>s_v E (zF E) (qm 0 E ht_14)<|mv E E<|s_p E (zca E E)<|s_p E (qy E E)<|gv E E<|zu<|zX<|hJx (IntKind.u64.wrap (t_14+(IntKind.u64.wrap (4*(IntKind.u64.wrap (IntKind.i64.wrap n))))),s_1,v_2) _ _ _ _ [0,0] H67 E ⟨E,E,E,True.intro⟩ E) fun c_54 H66=>s_p E (yF (qw E E) c_54)<|nx<|cfs E E<|zX<|hJx (IntKind.u64.wrap (t_3+4),s_1,v_2) _ _ _ _ [0,0] H66 E ⟨E,E,E,True.intro⟩ E) fun c_53 H65=>ceF E E E (c_53)<|gv E E<|nx<|c_f E E<|csr<|iteK H65 (fun c_55 H68=>ceT E E E (c_55)<|gv E E<|nx<|c_t E E<|csr<|mv E E<|s_p E (qJ ⟨_,underlying39⟩ E)<|mv E E<|s_p E (qJ ⟨_,underlying39⟩ E)<|iteK H68 (fun c_56 H69=>s_p E (yT (zQ E E) c_56)<|nx<|ctr E E<|s_p E (zv E E)<|gx H69 fun t_15 ht_15 H70=>s_v E (zF E) (qm 0 E ht_15)<|mv E E<|s_p E (zca E E)<|s_p E (qy E E)<|gv E E<|zu<|zX<|hJx (IntKind.u64.wrap (t_15+(IntKind.u64.wrap (4*(IntKind.u64.wrap (IntKind.i64.wrap n))))),s_1,v_2) _ _ _ _ [0,0] H70 E ⟨E,E,E,True.intro⟩ E) fun c_56 H69=>s_p E (yF (zQ E E) c_56)<|nx<|cfs E E<|zX<|hJx (IntKind.u64.wrap (t_3+4),s_1,v_2) _ _ _ _ [0,0] H69 E ⟨E,E,E,True.intro⟩ E) fun c_55 H68=>ceF E E E (c_55)<|gv E E<|nx<|c_f E E<|csr<|iteK H68 (fun c_57 H71=>ceT E E E (c_57)<|gv E E<|nx<|c_t E E<|csr<|mv E E<|s_p E (zv E E)<|gx H71 fun t_16 ht_16 H72=>s_v E (zF E) (qm 0 E ht_16)<|s_p E (qy E E)<|s_p E (zv E E)<|an2 H72 fun c_58 c_59 H73=>s_p E (qb E E c_58 c_59 E)<|qu (sz:=1) (vs:=[.int .u64 (IntKind.u64.wrap (t_16+4))]) 0 E E E E E E (zY hs_1 (by omega)) E<|nx<|zw<|mv E E<|mv E E<|s_p E (qy E E)<|gv E E<|zu<|zX<|hJx (IntKind.u64.wrap (t_1+(IntKind.u64.wrap (IntKind.i64.wrap n))),spl s_1 (0+(IntKind.u8.wrap (Int.tmod (IntKind.u64.wrap (Int.tdiv w 4194304)) 16)).toNat*1) ([.int .u64 (IntKind.u64.wrap (t_16+4))]),v_2) _ _ _ _ [0,0] H73 E ⟨E,E,E,True.intro⟩ E) fun c_57 H71=>ceF E E E (c_57)<|gv E E<|nx<|c_f E E<|csr<|iteK H71 (fun c_60 H74=>ceT E E E (c_60)<|gv E E<|nx<|c_t E E<|csr<|gv E E<|nx<|zp H74 (fun (J:Int→Mem→Prop) (z:Int) S=>J z S) (fun z=>⟨411,[(2,.int .u64 time),(3,.int .i64 me),(4,.pointer (some ⟨b,0,none⟩)),(8,.pointer (some ⟨b_1,0,none⟩)),(15,.int .u8 (IntKind.u8.wrap (Int.tmod (IntKind.u64.wrap (Int.tdiv w 4194304)) 16))),(17,.int .i16 n),(23,.int .u64 (IntKind.u64.wrap (t_3+4))),(26,.int .u64 z)]⟩) (fun z=>[⟨b,43,s_1⟩,⟨b_1,43,v_2⟩]) (fun openx Sx_10 H75=>zw<|mv E E<|s_p E (zv E E)<|gx H75 fun t_17 ht_17 H76=>s_v E (zF E) (qm 0 E ht_17)<|s_p E (zv E E)<|gx H76 fun t_18 ht_18 H77=>s_v E (zF E) (qm 0 E ht_18)<|s_p E (zv E E)<|by exact gx H77 fun t_19 ht_19 H78=>s_v E (zF E) (qm 0 E ht_19)<|s_p E (zv E E)<|gx H78 fun t_20 ht_20 H79=>s_v E (zF E) (qm 0 E ht_20)<|s_p E (zv E E)<|gx H79 fun t_21 ht_21 H80=>s_v E (zF E) (qm 0 E ht_21)<|s_p E (zv E E)<|gx H80 fun t_22 ht_22 H81=>s_v E (zF E) (qm 0 E ht_22)<|s_p E (qJ ⟨_,underlying41⟩ E)<|mv E E<|mv E E<|mv E E<|s_p E (qJ ⟨_,underlying3⟩ E)<|zkR E E (by decide) E fun b_2=>zgJ 2 E fun hb_2=>have H82:=H81 b_2 hb_2;mv E E<|an2 H82 fun c_61 c_62 H83=>s_p E (vx E E c_61 c_62 E)<|gx H83 fun t_23 ht_23 H84=>s_v E (zF E) (qh ht_23)<|s_p E (zv E E)<|an2 H84 fun c_63 c_64 H85=>s_p E (qb E E c_63 c_64 E)<|qu (sz:=1) (vs:=[.int .u64 t_23]) 0 E E E E E E (zY hs_1 (by omega)) E<|zu<|zX<|hJx (IntKind.u64.wrap (t_3+4),spl s_1 (0+(IntKind.u8.wrap (Int.tmod (IntKind.u64.wrap (Int.tdiv w 4194304)) 16)).toNat*1) ([.int .u64 t_23]),v_2) _ _ _ _ [0,0] H85 E ⟨E,E,E,True.intro⟩ E) (fun Jx_1 hJx_1 H86=>csr<|s_p E (zv E E)<|gx H86 fun t_24 ht_24 H87=>by have H88:=zbG H87;rcases H88 with ⟨rfl,H89⟩ | ⟨rfl,H89⟩;exact (s_v E (zF E) (qm 0 E ht_24)<|nx<|ctr E E<|gv E E<|zu<|hJx_1 1 _ _ _ _ [0,0] H89 E ⟨E,E,E,E,E,E,E,E,True.intro⟩ E);exact (s_v E (zF E) (qm 0 E ht_24)<|nx<|cfs E E<|hJx_1 0 _ _ _ _ [0,0] H89 E ⟨E,E,E,E,E,E,E,E,True.intro⟩ E))) fun c_60 H74=>ceF E E E (c_60)<|gv E E<|nx<|c_f E E<|csr<|iteK H74 (fun c_65 H90=>ceT E E E (c_65)<|gv E E<|nx<|c_t E E<|csr<|mv E E<|nx<|zE<|csr<|iteK H90 (fun c_66 H91=>by exact ceT E E E (c_66)<|gv E E<|nx<|ctr E E<|mv E E<|s_p E (zv E E)<|qu (sz:=1) (vs:=[.int .u64 t]) 0 E E E E E E (zY hs_1 (by omega)) E<|zu<|zX<|zX<|hJx (IntKind.u64.wrap (t_3+4),spl s_1 17 ([.int .u64 t]),v_2) _ _ _ _ [0,0] H91 E ⟨E,E,E,True.intro⟩ E) fun c_66 H91=>by exact ceF E E E (c_66)<|gv E E<|nx<|c_f E E<|csr<|iteK H91 (fun c_67 H92=>ceT E E E (c_67)<|gv E E<|nx<|ctr E E<|mv E E<|s_p E (zv E E)<|qu (sz:=1) (vs:=[.int .u64 t]) 0 E E E E E E (zY hs_1 (by omega)) E<|zu<|zX<|zX<|hJx (IntKind.u64.wrap (t_3+4),spl s_1 18 ([.int .u64 t]),v_2) _ _ _ _ [0,0] H92 E ⟨E,E,E,True.intro⟩ E) fun c_67 H92=>ceF E E E (c_67)<|gv E E<|nx<|c_f E E<|csr<|iteK H92 (fun c_68 H93=>ceT E E E (c_68)<|gv E E<|nx<|ctr E E<|mv E E<|s_p E (zv E E)<|qu (sz:=1) (vs:=[.int .u64 t]) 0 E E E E E E (zY hs_1 (by omega)) E<|zu<|zX<|zX<|hJx (IntKind.u64.wrap (t_3+4),spl s_1 19 ([.int .u64 t]),v_2) _ _ _ _ [0,0] H93 E ⟨E,E,E,True.intro⟩ E) fun c_68 H93=>ceF E E E (c_68)<|gv E E<|nx<|c_f E E<|csr<|iteK H93 (fun c_69 H94=>ceT E E E (c_69)<|gv E E<|nx<|ctr E E<|mv E E<|s_p E (zv E E)<|qu (sz:=1) (vs:=[.int .u64 t]) 0 E E E E E E (zY hs_1 (by omega)) E<|zu<|zX<|zX<|hJx (IntKind.u64.wrap (t_3+4),spl s_1 20 ([.int .u64 t]),v_2) _ _ _ _ [0,0] H94 E ⟨E,E,E,True.intro⟩ E) fun c_69 H94=>ceF E E E (c_69)<|gv E E<|nx<|c_f E E<|csr<|iteK H94 (fun c_70 H95=>ceT E E E (c_70)<|gv E E<|nx<|ctr E E<|mv E E<|s_p E (zv E E)<|qu (sz:=1) (vs:=[.int .u64 t]) 0 E E E E E E (zY hs_1 (by omega)) E<|zu<|zX<|zX<|hJx (IntKind.u64.wrap (t_3+4),spl s_1 21 ([.int .u64 t]),v_2) _ _ _ _ [0,0] H95 E ⟨E,E,E,True.intro⟩ E) fun c_70 H95=>ceF E E E (c_70)<|gv E E<|nx<|c_f E E<|csr<|iteK H95 (fun c_71 H96=>ceT E E E (c_71)<|gv E E<|nx<|ctr E E<|mv E E<|s_p E (zbc E E (by decide))<|s_p E (qJ ⟨_,underlying39⟩ E)<|s_p E (zv E E)<|qu (sz:=1) (vs:=[.int .u32 (IntKind.u32.wrap (Int.tmod t 256))]) 0 E E E E E E (zY hs_1 (by omega)) E<|zu<|zX<|zX<|hJx (IntKind.u64.wrap (t_3+4),spl s_1 25 ([.int .u32 (IntKind.u32.wrap (Int.tmod t 256))]),v_2) _ _ _ _ [0,0] H96 E ⟨E,E,E,True.intro⟩ E) fun c_71 H96=>ceF E E E (c_71)<|gv E E<|nx<|c_f E E<|csr<|iteK H96 (fun c_72 H97=>ceT E E E (c_72)<|gv E E<|nx<|ctr E E<|mv E E<|s_p E (zbc E E (by decide))<|by exact s_p E (zeu E E)<|s_p E (zv E E)<|qu (sz:=1) (vs:=[.bool (decide (Int.tmod t 2=1))]) 0 E E E E E E (zY hs_1 (by omega)) E<|zu<|zX<|zX<|hJx (IntKind.u64.wrap (t_3+4),spl s_1 22 ([.bool (decide (Int.tmod t 2=1))]),v_2) _ _ _ _ [0,0] H97 E ⟨E,E,E,True.intro⟩ E) fun c_72 H97=>ceF E E E (c_72)<|gv E E<|nx<|c_f E E<|csr<|by refine s_v E (qa E hs_1) (zx (k:=26) 0 E (ze hs_1)) ?_;exact s_p E (zv E E)<|gx H97 fun t_25 ht_25 H98=>s_v E (zF E) (qm 0 E ht_25)<|qP E E H98 fun rv Sx_12 H99=>by obtain⟨t_26,t_27,t_28,rfl,ht_26,H100⟩:=H99;exact s_p E (zj E E)<|s_p E (zj E E)<|s_p E (zj E E)<|an H100 fun c_73 H101=>zl 1 E E E E E ht_26 hv_2 c_73<|gv E E<|gv E E<|nx<|zo<|zh<|zh<|zb<|zn results64 (zr E (zx (k:=26) 1 E (ze ht_26)) ht_26 (zd E (zd E zg))) ⟨_,_,_,E,ht_26,H101⟩) fun c_65 H90=>ceF E E E (c_65)<|gv E E<|nx<|c_f E E<|csr<|iteK H90 (fun c_74 H102=>ceT E E E (c_74)<|gv E E<|nx<|c_t E E<|zO<|by exact zw<|mv E E<|s_p E (zv E E)<|qu (sz:=1) (vs:=[.int .u64 (IntKind.u64.wrap (t_3+4))]) 0 E E E E E E (zY hs_1 (by omega)) E<|nxr<|by refine s_v E (qa E (zq hs_1 (by have:=True.intro;(try simp only[List.length_cons,List.length_nil]);omega))) (zx (k:=26) 0 E (ze (zq hs_1 (by have:=True.intro;(try simp only[List.length_cons,List.length_nil]);omega)))) ?_;exact mv E E<|an H102 fun c_75 H103=>zl 1 E E E E E (zq hs_1 (by have:=True.intro;(try simp only[List.length_cons,List.length_nil]);omega)) hv_2 c_75<|gv E E<|gv E E<|nx<|zo<|zh<|zb<|zn results64 (zr E (zx (k:=26) 1 E (ze (zq hs_1 (by have:=True.intro;(try simp only[List.length_cons,List.length_nil]);omega)))) (zq hs_1 (by have:=True.intro;(try simp only[List.length_cons,List.length_nil]);omega)) (zd E (zd E zg))) ⟨_,_,_,E,zq hs_1 (by have:=True.intro;(try simp only[List.length_cons,List.length_nil]);omega),H103⟩) fun c_74 H102=>ceF E E E (c_74)<|gv E E<|nx<|c_f E E<|zO<|by exact zw<|iteK H102 (fun c_76 H104=>ceT E E E (c_76)<|gv E E<|nx<|c_t E E<|csr<|mv E E<|s_p E (zv E E)<|qu (sz:=1) (vs:=[.int .u64 (IntKind.u64.wrap (t_3+4))]) 0 E E E E E E (zY hs_1 (by omega)) E<|nx<|zO<|csr<|s_p E (zv E E)<|gx H104 fun t_29 ht_29 H105=>s_v E (zF E) (qm 0 E ht_29)<|s_p E (zv E E)<|gx H105 fun t_30 ht_30 H106=>s_v E (zF E) (qm 0 E ht_30)<|s_p E (zjL E E)<|iteK H106 (fun c_77 H107=>ceT E E E (c_77)<|nx<|c_t E E<|csr<|s_p E (zv E E)<|qu (sz:=1) (vs:=[.int .u8 1]) 0 E E E E E E (zY (zq hs_1 (by have:=True.intro;(try simp only[List.length_cons,List.length_nil]);omega)) (by omega)) E<|nxr<|by refine s_v E (qa E (zq (zq hs_1 (by have:=True.intro;(try simp only[List.length_cons,List.length_nil]);omega)) (by have:=True.intro;(try simp only[List.length_cons,List.length_nil]);omega))) (zx (k:=26) 0 E (ze (zq (zq hs_1 (by have:=True.intro;(try simp only[List.length_cons,List.length_nil]);omega)) (by have:=True.intro;(try simp only[List.length_cons,List.length_nil]);omega)))) ?_;exact an H107 fun c_78 H108=>zl 1 E E E E E (zq (zq hs_1 (by have:=True.intro;(try simp only[List.length_cons,List.length_nil]);omega)) (by have:=True.intro;(try simp only[List.length_cons,List.length_nil]);omega)) hv_2 c_78<|gv E E<|gv E E<|nx<|zo<|zb<|zh<|zb<|zn results64 (zr E (zx (k:=26) 1 E (ze (zq (zq hs_1 (by have:=True.intro;(try simp only[List.length_cons,List.length_nil]);omega)) (by have:=True.intro;(try simp only[List.length_cons,List.length_nil]);omega)))) (zq (zq hs_1 (by have:=True.intro;(try simp only[List.length_cons,List.length_nil]);omega)) (by have:=True.intro;(try simp only[List.length_cons,List.length_nil]);omega)) (zd E (zd E zg))) ⟨_,_,_,E,zq (zq hs_1 (by have:=True.intro;(try simp only[List.length_cons,List.length_nil]);omega)) (by have:=True.intro;(try simp only[List.length_cons,List.length_nil]);omega),H108⟩) fun c_77 H107=>ceF E E E (c_77)<|nx<|cfs E E<|zC<|csr<|by refine s_v E (qa E (zq hs_1 (by have:=True.intro;(try simp only[List.length_cons,List.length_nil]);omega))) (zx (k:=26) 0 E (ze (zq hs_1 (by have:=True.intro;(try simp only[List.length_cons,List.length_nil]);omega)))) ?_;exact an H107 fun c_79 H109=>zl 1 E E E E E (zq hs_1 (by have:=True.intro;(try simp only[List.length_cons,List.length_nil]);omega)) hv_2 c_79<|gv E E<|gv E E<|nx<|zo<|zh<|zb<|zn results64 (zr E (zx (k:=26) 1 E (ze (zq hs_1 (by have:=True.intro;(try simp only[List.length_cons,List.length_nil]);omega)))) (zq hs_1 (by have:=True.intro;(try simp only[List.length_cons,List.length_nil]);omega)) (zd E (zd E zg))) ⟨_,_,_,E,zq hs_1 (by have:=True.intro;(try simp only[List.length_cons,List.length_nil]);omega),H109⟩) fun c_76 H104=>ceF E E E (c_76)<|gv E E<|nx<|c_f E E<|csr<|iteK H104 (fun c_80 H110=>ceT E E E (c_80)<|gv E E<|nx<|c_t E E<|csr<|s_p E (zv E E)<|gx H110 fun t_31 ht_31 H111=>s_v E (zF E) (qm 0 E ht_31)<|s_p E (zv E E)<|qu (sz:=1) (vs:=[.int .u64 t_31]) 0 E E E E E E (zY hs_1 (by omega)) E<|nxr<|s_p E (zv E E)<|qu (sz:=1) (vs:=[.bool true]) 0 E E E E E E (zY (zq hs_1 (by have:=True.intro;(try simp only[List.length_cons,List.length_nil]);omega)) (by omega)) E<|nxr<|by refine s_v E (qa E (zq (zq hs_1 (by have:=True.intro;(try simp only[List.length_cons,List.length_nil]);omega)) (by have:=True.intro;(try simp only[List.length_cons,List.length_nil]);omega))) (zx (k:=26) 0 E (ze (zq (zq hs_1 (by have:=True.intro;(try simp only[List.length_cons,List.length_nil]);omega)) (by have:=True.intro;(try simp only[List.length_cons,List.length_nil]);omega)))) ?_;exact an H111 fun c_81 H112=>zl 1 E E E E E (zq (zq hs_1 (by have:=True.intro;(try simp only[List.length_cons,List.length_nil]);omega)) (by have:=True.intro;(try simp only[List.length_cons,List.length_nil]);omega)) hv_2 c_81<|gv E E<|gv E E<|nx<|zo<|zh<|zb<|zn results64 (zr E (zx (k:=26) 1 E (ze (zq (zq hs_1 (by have:=True.intro;(try simp only[List.length_cons,List.length_nil]);omega)) (by have:=True.intro;(try simp only[List.length_cons,List.length_nil]);omega)))) (zq (zq hs_1 (by have:=True.intro;(try simp only[List.length_cons,List.length_nil]);omega)) (by have:=True.intro;(try simp only[List.length_cons,List.length_nil]);omega)) (zd E (zd E zg))) ⟨_,_,_,E,zq (zq hs_1 (by have:=True.intro;(try simp only[List.length_cons,List.length_nil]);omega)) (by have:=True.intro;(try simp only[List.length_cons,List.length_nil]);omega),H112⟩) fun c_80 H110=>ceF E E E (c_80)<|gv E E<|nx<|cfs E E<|zX<|hJx (IntKind.u64.wrap (t_3+4),s_1,v_2) _ _ _ _ [0,0] H110 E ⟨E,E,E,True.intro⟩ E)) (fun Jx_2 hJx_2 H113=>csr<|mv E E<|mv E E<|mv E E<|mv E E<|mv E E<|vv E E H113 fun t_32 Sx_13 H114=>by have H115:=zbG H114;rcases H115 with ⟨rfl,H116⟩ | ⟨rfl,H116⟩;exact (s_p E (yB (qC E) E)<|mv E E<|mv E E<|mv E E<|mv E E<|mv E E<|mv E E<|vv E E H116 fun t_33 Sx_14 H117=>mv E E<|s_p E (qJ ⟨_,underlying39⟩ E)<|iteK H117 (fun c_82 H118=>s_p E (yT (qw E E) c_82)<|pk E E E<|nx<|c_t E E<|csr<|by refine s_v E (qa E hs_1) (zx (k:=26) 0 E (ze hs_1)) ?_;exact mv E E<|qP E E H118 fun rv Sx_15 H119=>by obtain⟨t_34,t_35,t_36,rfl,ht_34,H120⟩:=H119;exact s_p E (zj E E)<|s_p E (zj E E)<|s_p E (zj E E)<|an H120 fun c_83 H121=>zl 1 E E E E E ht_34 hv_1 c_83<|gv E E<|gv E E<|nx<|zo<|zb<|zn results64 (zr E (zx (k:=26) 1 E (ze ht_34)) ht_34 (zd E (zd E zg))) ⟨_,_,_,E,ht_34,H121⟩) fun c_82 H118=>s_p E (yF (qw E E) c_82)<|pk E E E<|nx<|cfs E E<|hJx_2 v_1 _ _ _ _ [0,0] H118 E ⟨E,E,E,E,E,E,E,E,E,E,True.intro⟩ E);exact (s_p E (yB (qC E) E)<|mv E E<|sk8 E E E E E E E E<|zG E<|pk E E E<|nx<|c_t E E<|csr<|by refine s_v E (qa E hs_1) (zx (k:=26) 0 E (ze hs_1)) ?_;exact mv E E<|qP E E H116 fun rv Sx_16 H122=>by obtain⟨t_37,t_38,t_39,rfl,ht_37,H123⟩:=H122;exact s_p E (zj E E)<|s_p E (zj E E)<|s_p E (zj E E)<|an H123 fun c_84 H124=>zl 1 E E E E E ht_37 hv_1 c_84<|gv E E<|gv E E<|nx<|zo<|zb<|zn results64 (zr E (zx (k:=26) 1 E (ze ht_37)) ht_37 (zd E (zd E zg))) ⟨_,_,_,E,ht_37,H124⟩))) (fun Jx_3 hJx_3 H125=>csr<|mv E E<|by exact iteK H125 (fun c_85 H126=>s_p E (yT (zQ E E) c_85)<|mv E E<|mv E E<|vv E E H126 fun t_40 Sx_17 H127=>s_p E (zcN E E (by decide))<|s_p E (zbc E E (by decide))<|iteK H127 (fun c_86 H128=>ceT E E E (c_86)<|pk E E E<|nx<|c_t E E<|csr<|mv E E<|s_p E (zbc E E (by decide))<|s_p E (qJ ⟨_,underlying39⟩ E)<|gv E E<|nx<|zw<|gv E E<|zu<|hJx_3 (0,IntKind.u8.wrap (Int.tmod w 16)) _ _ _ _ [0,0] H128 E ⟨E,E,E,E,E,E,E,E,E,E,E,True.intro⟩ E) fun c_86 H128=>ceF E E E (c_86)<|pk E E E<|nx<|cfs E E<|hJx_3 (IntKind.i16.wrap (IntKind.u16.wrap (Int.tmod w 65536)),0) _ _ _ _ [0,0] H128 E ⟨E,E,E,E,E,E,E,E,E,E,E,True.intro⟩ E) fun c_85 H126=>s_p E (yF (zQ E E) c_85)<|mv E E<|sk4 E E E E<|zG E<|pk E E E<|nx<|cfs E E<|hJx_3 (IntKind.i16.wrap (IntKind.u16.wrap (Int.tmod w 65536)),0) _ _ _ _ [0,0] H126 E ⟨E,E,E,E,E,E,E,E,E,E,E,True.intro⟩ E)) fun c H8=>s_p E (jb E (zac c))<|s_p E (yB (qC E) E)<|nx<|c_t E E<|csr<|by refine s_v E (qa E hs_1) (zx (k:=26) 0 E (ze hs_1)) ?_;exact s_p E (zv E E)<|gx H8 fun t_41 ht_41 H129=>s_v E (zF E) (qm 0 E ht_41)<|qP E E H129 fun rv Sx_18 H130=>by obtain⟨t_42,t_43,t_44,rfl,ht_42,H131⟩:=H130;exact s_p E (zj E E)<|s_p E (zj E E)<|s_p E (zj E E)<|an H131 fun c_87 H132=>zl 1 E E E E E ht_42 hv_1 c_87<|gv E E<|gv E E<|nx<|zo<|zb<|zn results64 (zr E (zx (k:=26) 1 E (ze ht_42)) ht_42 (zd E (zd E zg))) ⟨_,_,_,E,ht_42,H132⟩) (fun Jx_4 hJx_4 H133=>zw<|by refine s_v E (qa E hs_1) (zx (k:=26) 0 E (ze hs_1)) ?_;exact mv E E<|s_p E (zv E E)<|gx H133 fun t_45 ht_45 H134=>s_v E (zF E) (qm 0 E ht_45)<|zhi E E H134 fun t_46 t_47 Sx_19 H135=>mv E E<|s_p E (zj E E)<|iteK H135 (fun c_88 H136=>s_p E (yB (zj E E) c_88)<|gv E E<|gv E E<|zu<|hJx_4 (t_46,true) _ _ _ _ [0,0] H136 E ⟨E,E,E,E,E,E,E,True.intro⟩ E) fun c_88 H136=>s_p E (yB (zj E E) (zac c_88))<|gv E E<|gv E E<|zu<|hJx_4 (t_46,false) _ _ _ _ [0,0] H136 E ⟨E,E,E,E,E,E,E,True.intro⟩ E)) (fun Jx_5 hJx_5 H137=>csr<|by refine s_v E (qa E hs) (zx (k:=26) 0 E (ze hs)) ?_;exact vv E E H137 fun t_48 Sx_20 H138=>gv E E<|nxr<|mv E E<|iteK H138 (fun c_89 H139=>s_p E (yT (wP E E) c_89)<|nx<|c_t E E<|zO<|qc (by kernel_rfl)<|a_takeP 0 E (by decide +kernel) (za (za zc)) E (zv E E)<|by exact gx H139 fun t_49 ht_49 H140=>qp 1 E (by decide +kernel) (za (za zc)) E (zF E) (qm 0 E ht_49)<|by exact a_takeP 2 E (by decide +kernel) (za (za zc)) E (zt E)<|by exact an H140 fun c_90 H141=>a_takeP 3 E (by decide +kernel) (za (za zc)) E (zmE E E c_90)<|by exact a_takeP 4 E (by decide +kernel) (za (za zc)) E (zgv E E)<|by exact a_takeP 5 E (by decide +kernel) (za (za zc)) E (zv E E)<|by exact zH 6 (by decide +kernel) E<|by exact qu (sz:=1) (vs:=[.int .u32 (IntKind.u32.wrap (t_49-(ishl .u32 1 t_48)))]) 0 E E E E E E (zY hs (by omega)) E<|zu<|qf zD<|qi (by decide +kernel)<|by exact zC<|csr<|by refine s_v E (qa E (zq hs (by have:=True.intro;(try simp only[List.length_cons,List.length_nil]);omega))) (zx (k:=26) 0 E (ze (zq hs (by have:=True.intro;(try simp only[List.length_cons,List.length_nil]);omega)))) ?_;exact mv E E<|s_p E (qJ ⟨_,underlying3⟩ E)<|s_p E (qy E E)<|qP E E H141 fun rv Sx_21 H142=>by obtain⟨t_50,t_51,t_52,rfl,ht_50,H143⟩:=H142;exact s_p E (zj E E)<|s_p E (zj E E)<|s_p E (zj E E)<|an H143 fun c_91 H144=>zl 1 E E E E E ht_50 hv c_91<|gv E E<|gv E E<|nx<|zo<|zb<|zn results64 (zr E (zx (k:=26) 1 E (ze ht_50)) ht_50 (zd E (zd E zg))) ⟨_,_,_,E,ht_50,H144⟩) fun c_89 H139=>s_p E (yF (wP E E) c_89)<|nx<|cfs E E<|hJx_5 (s,v) _ _ _ _ [0,0] H139 E ⟨E,E,E,E,E,True.intro⟩ E)) (fun Jx_6 hJx_6 H145=>csr<|s_p E (zv E E)<|gx H145 fun t_53 ht_53 H146=>s_v E (zF E) (qm 0 E ht_53)<|iteK H146 (fun c_92 H147=>s_p E (yT (qw E E) c_92)<|nx<|c_t E E<|csr<|by refine s_v E (qa E hs) (zx (k:=26) 0 E (ze hs)) ?_;exact an H147 fun c_93 H148=>zl 1 E E E E E hs zcM c_93<|gv E E<|gv E E<|nx<|zo<|zb<|zn results64 (zr E (zx (k:=26) 1 E (ze hs)) hs (zd E (zd E zg))) ⟨_,_,_,E,hs,H148⟩) fun c_92 H147=>s_p E (yF (qw E E) c_92)<|nx<|cfs E E<|hJx_6 z43 _ _ _ _ [0,0] H147 E ⟨E,E,E,E,E,True.intro⟩ E)
def xq (S:Mem) (s:List Value) (Q:Int→Mem→Prop):Prop:=
 s.length=26 ∧
 jn (fun (Sx:Mem)=>
 Q (-1) Sx) fun Jx=>
 lp (fun Xx (i:Int) (Sx_1:Mem)=>
 jn (fun (Sx_2:Mem)=>
 gI (nthL s 24) .u32 fun t=>
 0≤i ∧
 if Int.tmod (ishr .u32 t i) 2=1 then
 gI (nthL s 25) .u32 fun t_1=>
 0≤i ∧
 if Int.tmod (ishr .u32 t_1 i) 2=1 then
 Q i Sx_2
 else
 Xx (IntKind.i64.wrap (i+1)) Sx_2
 else
 Xx (IntKind.i64.wrap (i+1)) Sx_2) fun Jx_1=>
 if i<8 then
 gB (nthL s 22) fun t_2=>
 if t_2=true then
 Jx_1 Sx_1
 else
 Jx Sx_1
 else
 Jx Sx_1) 0 S
theorem fX {S:Mem} {s:List Value} {Q:Int→Mem→Prop} (H:xq S s Q):wj S s Q:=by
 unfold xq at H
 have:=dj1 7 []
 have:=dj (α:=Int) 3 [1] (fun z=>[(3,.int .i64 z)]) (fun _=>[(0,none)])
 have:=dj (α:=Unit) 5 [1,3] (fun _=>[]) (fun _=>[(0,none)])
 exact Tr.intro func126 E ntmps126 E fun w0=>go results126 H
def yj (S:Mem) (s:List Value) (cause:Int) (addr:Int) (Q:List Value→Int→Int→Mem→Prop):Prop:=
 s.length=26 ∧
 wl S s cause addr fun t Sx=>
 t.all (·.oneCell')=true ∧
 gI (nthL t 23) .u8 fun t_1=>
 if t_1=2 then
 t.all (·.oneCell')=true ∧
 Q t 4 cause Sx
 else
 t.all (·.oneCell')=true ∧
 Q t 1 cause Sx
theorem jS {S:Mem} {s:List Value} {cause:Int} {addr:Int} {Q:List Value→Int→Int→Mem→Prop} (H:yj S s cause addr Q):zz S s cause addr Q:=by
 unfold yj at H
 exact Tr.intro func127 E ntmps127 E fun w0=>go results127 H
def xS (S:Mem) (s:List Value) (m:Pt) (addr:Int) (n:Int) (Q:Int→Bool→Mem→Prop):Prop:=
 s.length=26 ∧
 jn (fun (page:Int) (off:Int) (ok:Bool) (Sx:Mem)=>
 jn (fun (Sx_1:Mem)=>
 ym Sx_1 m page off n fun t t_1 Sx_2=>
 if t_1=true then
 qE Sx_2 t fun t_2 Sx_3=>
 Q t_2 true Sx_3
 else
 qE Sx_2 t fun t_3 Sx_4=>
 Q t_3 false Sx_4) fun Jx=>
 if ok=true then
 n≠0 ∧
 if Int.tmod off n≠0 then
 Q 0 false Sx
 else
 Jx Sx
 else
 Q 0 false Sx) fun Jx_1=>
 yf S s m addr false fun t_4 t_5 t_6 Sx_5=>
 if t_6=true then
 Jx_1 t_4 t_5 true Sx_5
 else
 Jx_1 t_4 t_5 false Sx_5
theorem zan {S:Mem} {s:List Value} {m:Pt} {addr:Int} {n:Int} {Q:Int→Bool→Mem→Prop} (H:xS S s m addr n Q):qR S s m addr n Q:=by
 unfold xS at H
 have:=dj1 5 [1,3,10,11]
 have:=dj0 (α:=Int×Int×Bool×Unit) 3 [1,3] (fun z=>[(10,.int .i64 z.1),(11,.int .i64 z.2.1),(12,.bool z.2.2.1)])
 exact Tr.intro func128 E ntmps128 E fun w0=>go results128 H
def xR (S:Mem) (s:List Value) (m:Pt) (addr:Int) (w:Int) (Q:Bool→Mem→Prop):Prop:=
 s.length=26 ∧
 jn (fun (page:Int) (off:Int) (ok:Bool) (Sx:Mem)=>
 jn (fun (Sx_1:Mem)=>
 jn (fun (Sx_2:Mem)=>
 Q true Sx_2) fun Jx=>
 lp (fun Xx (i:Int) (Sx_3:Mem)=>
 jn (fun (Sx_4:Mem)=>
 nn m fun b_1 o=>
 0≤page∧page<32 ∧
 gL (Sx_4.cell b_1 (o+page.toNat*1)) fun t=>
 0≤IntKind.i64.wrap (8*i) ∧
 sl t fun b_2 o_1 n n_1=>
 0≤IntKind.i64.wrap (off+i)∧IntKind.i64.wrap (off+i)<((n:Nat):Int) ∧
 pt Sx_4 b_2 (o_1+(IntKind.i64.wrap (off+i)).toNat*1) 1 ([.int .u8 (IntKind.u8.wrap (ishr .u64 w (IntKind.i64.wrap (8*i))))]) fun Sx_5=>
 Xx (IntKind.i64.wrap (i+1)) Sx_5) fun Jx_1=>
 if i<8 then
 Jx_1 Sx_3
 else
 Jx Sx_3) 0 Sx_1) fun Jx_2=>
 if ok=true then
 if Int.tmod off 8≠0 then
 Q false Sx
 else
 nn m fun b_3 o_2=>
 0≤page∧page<32 ∧
 gL (Sx.cell b_3 (o_2+page.toNat*1)) fun t_1=>
 if (t_1.n:Int)=0 then
 Q false Sx
 else
 0≤page∧page<32 ∧
 gB (Sx.cell b_3 (o_2+32+page.toNat*1)) fun t_2=>
 if t_2=true then
 Jx_2 Sx
 else
 Q false Sx
 else
 Q false Sx) fun Jx_3=>
 yf S s m addr true fun t_3 t_4 t_5 Sx_6=>
 if t_5=true then
 Jx_3 t_3 t_4 true Sx_6
 else
 Jx_3 t_3 t_4 false Sx_6
theorem zam {S:Mem} {s:List Value} {m:Pt} {addr:Int} {w:Int} {Q:Bool→Mem→Prop} (H:xR S s m addr w Q):yI S s m addr w Q:=by
 unfold xR at H
 have:=dj1 9 []
 have:=dj0 (α:=Int) 6 [1,3,9,10] (fun z=>[(12,.int .i64 z)])
 have:=dj1 8 [1,3,9,10,12]
 have:=dj1 5 [1,3,9,10]
 have:=dj0 (α:=Int×Int×Bool×Unit) 3 [1,3] (fun z=>[(9,.int .i64 z.1),(10,.int .i64 z.2.1),(11,.bool z.2.2.1)])
 exact Tr.intro func130 E ntmps130 E fun w0=>go results130 H
def xm (S:Mem) (s:List Value) (Q:List Value→Mem→Prop):Prop:=
 s.length=26 ∧
 gI (nthL s 23) .u8 fun t=>
 if t=1 then
 gI (nthL s 24) .u32 fun t_1=>
 gI (nthL s 25) .u32 fun t_2=>
 if 0<iand .u32 t_1 t_2 then
 (spl s 23 ([.int .u8 0])).all (·.oneCell')=true ∧
 Q (spl s 23 ([.int .u8 0])) S
 else
 s.all (·.oneCell')=true ∧
 Q s S
 else
 s.all (·.oneCell')=true ∧
 Q s S
theorem fU {S:Mem} {s:List Value} {Q:List Value→Mem→Prop} (H:xm S s Q):wg S s Q:=by
 unfold xm at H
 exact Tr.intro func119 E ntmps119 E fun w0=>an H fun hs H1=>csr<|gu E E E fun b=>by refine qk E fun b_1=>?_;exact nx<|zO<|csr<|s_p E (zv E E)<|gx H1 fun t ht H2=>s_v E (zF E) (qm 0 E ht)<|iteK H2 (fun c H3=>ceT E E E (c)<|mv E E<|s_p E (zv E E)<|gx H3 fun t_1 ht_1 H4=>s_v E (zF E) (qm 0 E ht_1)<|s_p E (zv E E)<|gx H4 fun t_2 ht_2 H5=>s_v E (zF E) (qm 0 E ht_2)<|s_p E (zjL E E)<|iteK H5 (fun c_1 H6=>s_p E (yT (qT E E) c_1)<|pk E E E<|nx<|ctr E E<|s_p E (zv E E)<|qu (sz:=1) (vs:=[.int .u8 0]) 0 E E E E E E (zY hs (by omega)) E<|nxr<|by refine s_v E (qa E (zq hs (by have:=True.intro;(try simp only[List.length_cons,List.length_nil]);omega))) (zx (k:=26) 0 E (ze (zq hs (by have:=True.intro;(try simp only[List.length_cons,List.length_nil]);omega)))) ?_;exact an H6 fun c_2 H7=>zl 1 E E E E E (zq hs (by have:=True.intro;(try simp only[List.length_cons,List.length_nil]);omega)) zcM c_2<|nx<|zo<|zn results119 (zr E (zx (k:=26) 1 E (ze (zq hs (by have:=True.intro;(try simp only[List.length_cons,List.length_nil]);omega)))) (zq hs (by have:=True.intro;(try simp only[List.length_cons,List.length_nil]);omega)) zg) ⟨_,E,zq hs (by have:=True.intro;(try simp only[List.length_cons,List.length_nil]);omega),H7⟩) fun c_1 H6=>s_p E (yF (qT E E) c_1)<|pk E E E<|nx<|cfs E E<|zC<|csr<|by refine s_v E (qa E hs) (zx (k:=26) 0 E (ze hs)) ?_;exact an H6 fun c_3 H8=>zl 1 E E E E E hs zcM c_3<|nx<|zo<|zn results119 (zr E (zx (k:=26) 1 E (ze hs)) hs zg) ⟨_,E,hs,H8⟩) fun c H3=>ceF E E E (c)<|mv E E<|sk4 E E E E<|sk2 E E<|pk E E E<|nx<|cfs E E<|zC<|csr<|by refine s_v E (qa E hs) (zx (k:=26) 0 E (ze hs)) ?_;exact an H3 fun c_4 H9=>zl 1 E E E E E hs zcM c_4<|nx<|zo<|zn results119 (zr E (zx (k:=26) 1 E (ze hs)) hs zg) ⟨_,E,hs,H9⟩
def yQ (S:Mem) (s:List Value) (m:Pt) (addr:Int) (write:Bool) (Q:Int→Int→Bool→Mem→Prop):Prop:=
 s.length=26 ∧
 jn (fun (Sx:Mem)=>
 jn (fun (Sx_1:Mem)=>
 jn (fun (Sx_2:Mem)=>
 jn (fun (p:Sl) (ok:Bool) (Sx_3:Mem)=>
 if ok=true then
 qE Sx_3 p fun t Sx_4=>
 jn (fun (Sx_5:Mem)=>
 Q (IntKind.i64.wrap (IntKind.u64.wrap (Int.tdiv t 256))) (IntKind.i64.wrap (Int.tmod addr 256)) true Sx_5) fun Jx=>
 if Int.tmod t 2=0 then
 Q 0 0 false Sx_4
 else
 if write=true then
 if Int.tmod (IntKind.u64.wrap (Int.tdiv t 2)) 2=0 then
 Q 0 0 false Sx_4
 else
 if 31<IntKind.u64.wrap (Int.tdiv t 256) then
 Q 0 0 false Sx_4
 else
 Jx Sx_4
 else
 if 31<IntKind.u64.wrap (Int.tdiv t 256) then
 Q 0 0 false Sx_4
 else
 Jx Sx_4
 else
 Q 0 0 false Sx_3) fun Jx_1=>
 gI (nthL s 17) .u64 fun t_1=>
 ym Sx_2 m (IntKind.i64.wrap (IntKind.u64.wrap (Int.tdiv t_1 256))) (IntKind.i64.wrap (8*(IntKind.i64.wrap (IntKind.u64.wrap (Int.tdiv addr 256))))) 8 fun t_2 t_3 Sx_6=>
 if t_3=true then
 Jx_1 t_2 true Sx_6
 else
 Jx_1 t_2 false Sx_6) fun Jx_2=>
 gI (nthL s 17) .u64 fun t_4=>
 if 31<IntKind.u64.wrap (Int.tdiv t_4 256) then
 Q 0 0 false Sx_1
 else
 Jx_2 Sx_1) fun Jx_3=>
 gI (nthL s 17) .u64 fun t_5=>
 if t_5=0 then
 Q (IntKind.i64.wrap (IntKind.u64.wrap (Int.tdiv addr 256))) (IntKind.i64.wrap (Int.tmod addr 256)) true Sx
 else
 Jx_3 Sx) fun Jx_4=>
 if 31<IntKind.u64.wrap (Int.tdiv addr 256) then
 Q 0 0 false S
 else
 Jx_4 S
theorem gT {S:Mem} {s:List Value} {m:Pt} {addr:Int} {write:Bool} {Q:Int→Int→Bool→Mem→Prop} (H:yQ S s m addr write Q):yf S s m addr write Q:=by
 unfold yQ at H
 exact Tr.intro func196 E ntmps196 E fun w0=>an H fun hs H1=>csr<|gu E E E fun b=>gv E E<|gv E E<|gv E E<|nxr<|mv E E<|s_p E (zcN E E (by decide))<|gv E E<|nxr<|mv E E<|s_p E (zbc E E (by decide))<|s_p E (qJ ⟨_,underlying39⟩ E)<|gv E E<|nx<|zp H1 (fun (J:Mem→Prop) (z:Unit) S=>J S) (fun z=>⟨70,[(1,eP m),(3,.bool write),(4,.pointer (some ⟨b,0,none⟩)),(11,.int .u64 (IntKind.u64.wrap (Int.tdiv addr 256))),(12,.int .i64 (IntKind.i64.wrap (Int.tmod addr 256)))]⟩) (fun z=>[⟨b,43,s⟩]) (fun _ Sx H2=>zp H2 (fun (J:Mem→Prop) (z:Unit) S=>J S) (fun z=>⟨70,[(1,eP m),(3,.bool write),(4,.pointer (some ⟨b,0,none⟩)),(11,.int .u64 (IntKind.u64.wrap (Int.tdiv addr 256))),(12,.int .i64 (IntKind.i64.wrap (Int.tmod addr 256)))]⟩) (fun z=>[⟨b,43,s⟩]) (fun _ Sx_1 H3=>zp H3 (fun (J:Mem→Prop) (z:Unit) S=>J S) (fun z=>⟨70,[(1,eP m),(3,.bool write),(4,.pointer (some ⟨b,0,none⟩)),(11,.int .u64 (IntKind.u64.wrap (Int.tdiv addr 256))),(12,.int .i64 (IntKind.i64.wrap (Int.tmod addr 256)))]⟩) (fun z=>[⟨b,43,s⟩]) (fun _ Sx_2 H4=>zp H4 (fun (J:Sl→Bool→Mem→Prop) (z:Sl×Bool) S=>J z.1 z.2 S) (fun z=>⟨70,[(3,.bool write),(12,.int .i64 (IntKind.i64.wrap (Int.tmod addr 256))),(13,eL z.1),(14,.bool z.2)]⟩) (fun z=>[]) (by rintro⟨p,ok⟩ Sx_3 H5;exact zO<|csr<|iteK H5 (fun c H6=>s_p E (jb E c)<|s_p E (yB (qC E) E)<|nx<|cfs E E<|zC<|csr<|mv E E<|vv E E H6 fun t Sx_4 H7=>gv E E<|nx<|zp H7 (fun (J:Mem→Prop) (z:Unit) S=>J S) (fun z=>⟨70,[(12,.int .i64 (IntKind.i64.wrap (Int.tmod addr 256))),(15,.int .u64 t)]⟩) (fun z=>[]) (fun _ Sx_5 H8=>csr<|mv E E<|s_p E (zcN E E (by decide))<|s_p E (qJ ⟨_,underlying39⟩ E)<|mv E E<|gv E E<|gv E E<|gv E E<|nx<|zo<|zn results196 (zd E (zd E (zd E zg))) ⟨_,_,_,E,H8⟩) (fun Jx hJx H9=>csr<|mv E E<|s_p E (zbc E E (by decide))<|iteK H9 (fun c_1 H10=>ceT E E E (c_1)<|mv E E<|sk4 E E E E<|sk2 E E<|zG E<|pk E E E<|mv E E<|sk2 E E<|zG E<|pk E E E<|nx<|c_t E E<|csr<|gv E E<|gv E E<|gv E E<|nx<|zo<|zb<|zn results196 (zd E (zd E (zd E zg))) ⟨_,_,_,E,H10⟩) fun c_1 H10=>ceF E E E (c_1)<|mv E E<|iteK H10 (fun c_2 H11=>s_p E (jb E c_2)<|mv E E<|mv E E<|s_p E (zcN E E (by decide))<|s_p E (zbc E E (by decide))<|iteK H11 (fun c_3 H12=>ceT E E E (c_3)<|pk E E E<|pk E E E<|mv E E<|sk2 E E<|zG E<|pk E E E<|nx<|c_t E E<|csr<|gv E E<|gv E E<|gv E E<|nx<|zo<|zb<|zn results196 (zd E (zd E (zd E zg))) ⟨_,_,_,E,H12⟩) fun c_3 H12=>ceF E E E (c_3)<|pk E E E<|pk E E E<|mv E E<|mv E E<|s_p E (zcN E E (by decide))<|iteK H12 (fun c_4 H13=>s_p E (yT (qT E E) c_4)<|pk E E E<|nx<|c_t E E<|csr<|gv E E<|gv E E<|gv E E<|nx<|zo<|zb<|by exact zn results196 (zd E (zd E (zd E zg))) ⟨_,_,_,E,H13⟩) fun c_4 H13=>s_p E (yF (qT E E) c_4)<|pk E E E<|nx<|cfs E E<|hJx () _ _ _ _ [] H13 E ⟨E,E,True.intro⟩ E) fun c_2 H11=>s_p E (jb E (zac c_2))<|mv E E<|sk4 E E E E<|pk E E E<|pk E E E<|mv E E<|mv E E<|s_p E (zcN E E (by decide))<|iteK H11 (fun c_5 H14=>s_p E (yT (qT E E) c_5)<|pk E E E<|nx<|c_t E E<|csr<|gv E E<|gv E E<|gv E E<|nx<|zo<|zb<|zn results196 (zd E (zd E (zd E zg))) ⟨_,_,_,E,H14⟩) fun c_5 H14=>s_p E (yF (qT E E) c_5)<|pk E E E<|nx<|cfs E E<|hJx () _ _ _ _ [] H14 E ⟨E,E,True.intro⟩ E)) fun c H6=>s_p E (jb E (zac c))<|s_p E (yB (qC E) E)<|nx<|c_t E E<|csr<|gv E E<|gv E E<|gv E E<|nx<|zo<|zb<|zn results196 (zd E (zd E (zd E zg))) ⟨_,_,_,E,H6⟩) (fun Jx_1 hJx_1 H15=>zw<|mv E E<|s_p E (zv E E)<|gx H15 fun t_1 ht_1 H16=>s_v E (zF E) (qm 0 E ht_1)<|s_p E (zcN E E (by decide))<|s_p E (qJ ⟨_,underlying39⟩ E)<|mv E E<|s_p E (qJ ⟨_,underlying39⟩ E)<|s_p E (zca E E)<|zhi E E H16 fun t_2 t_3 Sx_6 H17=>mv E E<|s_p E (zj E E)<|iteK H17 (fun c_6 H18=>s_p E (yB (zj E E) c_6)<|gv E E<|gv E E<|zu<|hJx_1 (t_2,true) _ _ _ _ [] H18 E ⟨E,E,E,E,True.intro⟩ E) fun c_6 H18=>s_p E (yB (zj E E) (zac c_6))<|gv E E<|gv E E<|zu<|hJx_1 (t_2,false) _ _ _ _ [] H18 E ⟨E,E,E,E,True.intro⟩ E)) (fun Jx_2 hJx_2 H19=>csr<|s_p E (zv E E)<|gx H19 fun t_4 ht_4 H20=>s_v E (zF E) (qm 0 E ht_4)<|s_p E (zcN E E (by decide))<|iteK H20 (fun c_7 H21=>s_p E (yT (qT E E) c_7)<|nx<|c_t E E<|csr<|gv E E<|gv E E<|gv E E<|nx<|zo<|zb<|zn results196 (zd E (zd E (zd E zg))) ⟨_,_,_,E,H21⟩) fun c_7 H21=>s_p E (yF (qT E E) c_7)<|nx<|cfs E E<|hJx_2 () _ _ _ _ [0] H21 E ⟨E,E,E,E,E,True.intro⟩ E)) (fun Jx_3 hJx_3 H22=>csr<|s_p E (zv E E)<|gx H22 fun t_5 ht_5 H23=>s_v E (zF E) (qm 0 E ht_5)<|iteK H23 (fun c_8 H24=>ceT E E E (c_8)<|nx<|c_t E E<|csr<|mv E E<|s_p E (qJ ⟨_,underlying39⟩ E)<|mv E E<|gv E E<|gv E E<|gv E E<|nx<|zo<|zb<|zn results196 (zd E (zd E (zd E zg))) ⟨_,_,_,E,H24⟩) fun c_8 H24=>ceF E E E (c_8)<|nx<|cfs E E<|hJx_3 () _ _ _ _ [0] H24 E ⟨E,E,E,E,E,True.intro⟩ E)) (fun Jx_4 hJx_4 H25=>csr<|mv E E<|iteK H25 (fun c_9 H26=>s_p E (yT (qT E E) c_9)<|nx<|c_t E E<|csr<|gv E E<|gv E E<|gv E E<|nx<|zo<|zb<|zn results196 (zd E (zd E (zd E zg))) ⟨_,_,_,E,H26⟩) fun c_9 H26=>s_p E (yF (qT E E) c_9)<|nx<|cfs E E<|hJx_4 () _ _ _ _ [0] H26 E ⟨E,E,E,E,E,True.intro⟩ E)
def xp (S:Mem) (m:Pt) (page:Int) (off:Int) (n:Int) (Q:Sl→Bool→Mem→Prop):Prop:=
 jn (fun (Sx:Mem)=>
 nn m fun b o=>
 0≤page∧page<32 ∧
 gL (Sx.cell b (o+page.toNat*1)) fun t=>
 (0:Int)≤off∧(off:Int)≤IntKind.i64.wrap (off+n)∧IntKind.i64.wrap (off+n)≤(t.c:Int) ∧
 lt (slc 1 t off (IntKind.i64.wrap (off+n))) fun t_1=>
 Q t_1 true Sx) fun Jx=>
 if page<0 then
 Q (⟨none,0,0⟩) false S
 else
 if 31<page then
 Q (⟨none,0,0⟩) false S
 else
 nn m fun b_1 o_1=>
 0≤page∧page<32 ∧
 gL (S.cell b_1 (o_1+page.toNat*1)) fun t_2=>
 if (t_2.n:Int)=0 then
 Q (⟨none,0,0⟩) false S
 else
 Jx S
theorem fW {S:Mem} {m:Pt} {page:Int} {off:Int} {n:Int} {Q:Sl→Bool→Mem→Prop} (H:xp S m page off n Q):ym S m page off n Q:=by
 unfold xp at H
 exact Tr.intro func197 E ntmps197 E fun w0=>csr<|gv E E<|gv E E<|nx<|zp H (fun (J:Mem→Prop) (z:Unit) S=>J S) (fun z=>⟨37,[(0,eP m),(1,.int .i64 page),(2,.int .i64 off),(3,.int .i64 n)]⟩) (fun z=>[]) (fun _ Sx H1=>csr<|mv E E<|mv E E<|by obtain⟨b,o,rfl,H2⟩:=H1;exact s_p E (qt E)<|s_p E (zv E E)<|an2 H2 fun c c_1 H3=>s_p E (qb E E c c_1 E)<|gx H3 fun t ht H4=>s_v E (zF E) (qh ht)<|mv E E<|mv E E<|mv E E<|s_p E (qy E E)<|an3 H4 fun c_2 c_3 c_4 H5=>by obtain⟨t_1,et_1,H6⟩:=zkT H5;exact s_p E (eqv (zdP (a:=off) (b:=IntKind.i64.wrap (off+n)) E E E c_2 c_3 c_4) (congrArg eL et_1))<|gv E E<|gv E E<|nx<|zo<|zn results197 (zd E (zd E zg)) ⟨_,_,E,H6⟩) (fun Jx hJx H7=>csr<|mv E E<|iteK H7 (fun c_5 H8=>s_p E (yT (zQ E E) c_5)<|mv E E<|sk2 E E<|pk E E E<|mv E E<|sk8 E E E E E E E E<|pk E E E<|nx<|c_t E E<|csr<|gv E E<|gv E E<|nx<|zo<|zb<|zn results197 (zd E (zd E zg)) ⟨_,_,E,H8⟩) fun c_5 H8=>s_p E (yF (zQ E E) c_5)<|mv E E<|mv E E<|iteK H8 (fun c_6 H9=>s_p E (yT (qT E E) c_6)<|pk E E E<|mv E E<|sk8 E E E E E E E E<|pk E E E<|nx<|c_t E E<|csr<|gv E E<|gv E E<|nx<|zo<|zb<|zn results197 (zd E (zd E zg)) ⟨_,_,E,H9⟩) fun c_6 H9=>s_p E (yF (qT E E) c_6)<|pk E E E<|mv E E<|mv E E<|mv E E<|by obtain⟨b_1,o_1,rfl,H10⟩:=H9;exact s_p E (qt E)<|s_p E (zv E E)<|an2 H10 fun c_7 c_8 H11=>s_p E (qb E E c_7 c_8 E)<|gx H11 fun t_2 ht_2 H12=>s_v E (zF E) (qh ht_2)<|s_p E (vX E)<|iteK H12 (fun c_9 H13=>ceT E E E (c_9)<|pk E E E<|nx<|c_t E E<|csr<|gv E E<|gv E E<|nx<|zo<|zb<|zn results197 (zd E (zd E zg)) ⟨_,_,E,H13⟩) fun c_9 H13=>ceF E E E (c_9)<|pk E E E<|nx<|cfs E E<|hJx () _ _ _ _ [] H13 E ⟨E,E,E,E,True.intro⟩ E)
def yw (S:Mem) (p:Sl) (Q:Int→Mem→Prop):Prop:=
 jn (fun (w:Int) (Sx:Mem)=>
 Q w Sx) fun Jx=>
 lp (fun Xx (z:Int×Int) (Sx_1:Mem)=>
 match z with
 | (w_1,i)=>
 if 0≤i then
 sl p fun b o n n_1=>
 0≤i∧i<((n:Nat):Int) ∧
 gI (Sx_1.cell b (o+i.toNat*1)) .u8 fun t=>
 Xx (IntKind.u64.wrap ((IntKind.u64.wrap (256*w_1))+(IntKind.u64.wrap t)),IntKind.i64.wrap (i-1)) Sx_1
 else
 Jx w_1 Sx_1) (0,IntKind.i64.wrap ((p.n:Int)-1)) S
theorem gn {S:Mem} {p:Sl} {Q:Int→Mem→Prop} (H:yw S p Q):qE S p Q:=by
 unfold yw at H
 have:=dj0 (α:=Int×Unit) 7 [] (fun z=>[(3,.int .u64 z.1)])
 have:=dj0 (α:=Int×Int) 4 [0] (fun z=>[(3,.int .u64 z.1),(4,.int .i64 z.2)])
 exact Tr.intro func198 E ntmps198 E fun w0=>go results198 H
end
end Go.Proofs.YtabdpmnhjlmnlaaGreatDoor
section
namespace Go.Cr
open Go Go.Pt
structure RM (S:Mem) (b o:Nat) (A:Nat→Nat) (g:GM):Prop where
 pg:∀ p f w,g.map p=some (f,w)→S.cell b (o+p)=some (eL ⟨some (A f,0),256,256⟩)∧S.cell b (o+32+p)=some (.bool w)∧S (A f)=some (bw 5 (bL (g.dat f)))
 no:∀ p,p<32→g.map p=none→∃ sl:Sl,S.cell b (o+p)=some (eL sl)∧sl.n=0
structure RBus (m:Pt) (I:Mem→Rho→GM→Prop) (R:Nat→Prop):Prop where
 rg:∀ {S ρ g},I S ρ g→∀ b r,ρ b=some r→S b≠none
 ok:∀ {S ρ g},I S ρ g→g.Ok
 kp:∀ {S ρ g S'},I S ρ g→Keeps S S' []→I S' ρ g
 at_:∀ {S ρ g},I S ρ g→∃ b o A,m=some (b,o)∧RM S b o A g ∧
  ∀ p f,g.map p=some (f,true)→∀ off l,off+l.length≤256→Byt l→A f≠b∧I (S.set (A f) (bw 5 (bL ((wrB g f off l).dat f)))) ρ (wrB g f off l)∧Mv S ρ (S.set (A f) (bw 5 (bL ((wrB g f off l).dat f)))) ρ R
theorem By.nil {S:Mem}:By S ⟨none,0,0⟩ []:=⟨rfl,Nat.le_refl _,fun _ h=>by simp at h,.inl rfl⟩
end Go.Cr
namespace Go.Proofs.YtabdpmnhjlmnlaaGreatDoor
open Go Go.Pt Go.Cr
section
variable {S:Mem}
theorem zbE {p:Sl} {xs:List Int} (hp:By S p xs) (h8:xs.length≤8) {Q:Int→Mem→Prop} (hQ:Q (num xs) S):qE S p Q:=by
 apply gn
 unfold yw
 have hlen:=hp.len
 refine zI (fun j=>j (num xs) S) hQ fun Jx hJ=>?_
 rw[w64 (by omega) (by omega)]
 refine zM (fun (z:Int×Int) S'=>∃ i:Nat,z=(num (xs.drop i),(i:Int)-1)∧i≤xs.length∧S'=S) (fun z=>(z.2+1).toNat) ?_ ⟨xs.length,by rw[List.drop_length,hlen];rfl,Nat.le_refl _,rfl⟩
 rintro X z S' ⟨i,rfl,hi,rfl⟩ ih
 dsimp only at ih ⊢
 by_cases h0:i=0
 ·subst h0
  rw[if_neg (by omega)]
  exact hJ
 ·rw[if_pos (by omega)]
  obtain⟨j,rfl⟩:∃ j,i=j+1:=⟨i-1,by omega⟩
  rcases hp.lie with hz | ⟨b,o,hpp,hc⟩
  ·omega
  have hjl:j<xs.length:=by omega
  have hx:=hp.bd _ (List.getElem_mem hjl)
  obtain⟨pp,pn,pc⟩:=p
  simp only at hpp hlen
  subst hpp
  rw[jH]
  refine⟨by omega,by omega,?_⟩
  rw[show o+(((j+1:Nat):Int)-1).toNat*1=o+j by omega,zB (hc j hjl)]
  have hb:=zcC (l:=xs.drop (j+1)) fun y hy=>hp.bd y (List.mem_of_mem_drop hy)
  have hb2:=zcC (l:=xs.drop j) fun y hy=>hp.bd y (List.mem_of_mem_drop hy)
  have e:num (xs.drop j)=xs[j]+256*num (xs.drop (j+1)):=by
   rw[List.drop_eq_getElem_cons hjl];rfl
  have hpw:(256:Int) ^ (xs.drop j).length≤256 ^ 8:=by
   rw[pow256,pow256]
   exact Int.ofNat_le.2 (Nat.pow_le_pow_right (by decide) (by simp only[List.length_drop];omega))
  have h64:(256:Int) ^ 8=18446744073709551616:=by decide
  rw[e] at hb2
  rw[wu64 (x:=xs[j]) (by omega) (by omega),wu64 (x:=256*num (xs.drop (j+1))) (by omega) (by omega),wu64 (x:=256*num (xs.drop (j+1))+xs[j]) (by omega) (by omega),w64 (x:=((j+1:Nat):Int)-1-1) (by omega) (by omega)]
  refine ih _ S' ⟨j,?_,by omega,rfl⟩ (by dsimp only;omega)
  rw[e]
  congr 1
  ·omega
  ·omega
variable {m:Pt} {I:Mem→Rho→GM→Prop} {R:Nat→Prop} {ρ:Rho} {g:GM} {s:Seat}
theorem zfZ (hB:RBus m I R) (hi:I S ρ g) {page off n:Nat} (hpg:page≤31) (ho:off+n≤256) (h0:0<n) {Q:Sl→Bool→Mem→Prop}
  (hQ:match ldB g page off n with | some l=>∀ sl,By S sl l→Q sl true S | none=>Q ⟨none,0,0⟩ false S):ym S m page off n Q:=by
 obtain⟨b,o,A,rfl,hM,_⟩:=hB.at_ hi
 apply fW
 unfold xp
 simp only[jn]
 rw[if_neg (by omega),if_neg (by omega),zV]
 refine⟨by omega,by omega,?_⟩
 rw[show o+(page:Int).toNat*1=o+page by omega]
 unfold ldB at hQ
 cases hm:g.map page with
 | none=>
  rw[hm] at hQ
  obtain⟨sl,h1,h2⟩:=hM.no page (by omega) hm
  rw[wc h1,if_pos (by omega)]
  exact hQ
 | some q=>
  obtain⟨f,w⟩:=q
  rw[hm] at hQ
  obtain⟨h1,_,h3⟩:=hM.pg page f w hm
  have hlf:=(hB.ok hi).len page f w hm
  have hbf:=(hB.ok hi).byt page f w hm
  rw[wc h1,if_neg (by show ¬((256:Nat):Int)=0;decide),zV]
  refine⟨by omega,by omega,?_⟩
  rw[show o+(page:Int).toNat*1=o+page by omega,wc h1,w64 (by omega) (by omega)]
  refine⟨by omega,by omega,by show (off:Int)+n≤256;omega,?_⟩
  refine hQ _ ⟨?_,?_,fun x hx=>hbf x (List.mem_of_mem_drop (List.mem_of_mem_take hx)),.inr ⟨A f,off,?_,fun i hi'=>?_⟩⟩
  ·simp only[slc,List.length_take,List.length_drop];omega
  ·simp only[slc];omega
  ·simp only[slc];rw[if_neg (by omega)];simp
  ·simp only[List.length_take,List.length_drop] at hi'
   rw[qo h3,zK]
   simp only[bL,List.getElem?_map]
   rw[List.getElem?_eq_getElem (by omega)]
   simp
end
end Go.Proofs.YtabdpmnhjlmnlaaGreatDoor
end
section
namespace Go.Cr
open Go Go.Pt
theorem zlU:∀ m:Fin 256,∀ i:Fin 8,m.1/2 ^ i.1%2=1→(∀ j:Fin 8,j.1<i.1→m.1/2 ^ j.1%2≠1)→low m.1=i.1:=by decide +kernel
theorem znk:∀ m:Fin 256,(∀ j:Fin 8,m.1/2 ^ j.1%2≠1)→m.1=0:=by decide +kernel
theorem znE {a b i:Nat} (h1:a/2 ^ i%2=1) (h2:b/2 ^ i%2=1):(a &&& b)/2 ^ i%2=1:=by
 have:(a &&& b).testBit i=true:=by
  rw[Nat.testBit_and,Nat.testBit_eq_decide_div_mod_eq,Nat.testBit_eq_decide_div_mod_eq,decide_eq_true h1,decide_eq_true h2];rfl
 rw[Nat.testBit_eq_decide_div_mod_eq] at this
 exact of_decide_eq_true this
theorem zgl {a s:Nat} (hs:s≤31):ishr .u32 (a:Int) (s:Int)=((a/2 ^ s:Nat):Int):=by
 unfold ishr
 have e:min ((s:Int)).toNat IntKind.u32.bits=s:=by
  show min ((s:Int)).toNat 32=s
  simp;omega
 rw[e]
 have e2:((2:Int) ^ s)=((2 ^ s:Nat):Int):=by push_cast;rfl
 rw[e2,Int.fdiv_eq_ediv_of_nonneg _ (Int.natCast_nonneg _)]
 exact (Int.natCast_ediv _ _).symm
theorem Seat.L_one (s:Seat):s.L.all (·.oneCell')=true:=by
 unfold Seat.L
 rw[List.all_append,List.all_map]
 have:(s.R.all ((fun x:Value=>x.oneCell') ∘ Value.int .u64))=true:=List.all_eq_true.2 fun _ _=>rfl
 rw[this];rfl
theorem ziv {d l:List Int} {off i:Nat} (hi:i<l.length) (hd:off+l.length≤d.length) :
  spl (bL (d.take off++l.take i++d.drop (off+i))) (off+i) [.int .u8 l[i]]=bL (d.take off++l.take (i+1)++d.drop (off+(i+1))):=by
 have e1:bL (d.take off++l.take i++d.drop (off+i))=bL (d.take off++l.take i)++bL (d.drop (off+i)):=by simp[bL]
 have hA:(bL (d.take off++l.take i)).length=off+i:=by simp[bL];omega
 have h:=zL (B:=bL (d.drop (off+i))) (v:=[.int .u8 l[i]]) (j:=0) hA
 rw[Nat.add_zero] at h
 rw[e1,h,List.drop_eq_getElem_cons (show off+i<d.length by omega),List.take_succ_eq_append_getElem hi]
 unfold bL
 simp only[List.map_append,List.map_cons,List.map_nil,spl,List.append_assoc,List.cons_append,List.nil_append,Nat.add_assoc]
 cases List.map (Value.int .u8) (List.drop (off+(i+1)) d) <;> rfl
end Go.Cr
namespace Go.Proofs.YtabdpmnhjlmnlaaGreatDoor
open Go Go.Pt Go.Cr
section
variable {m:Pt} {I:Mem→Rho→GM→Prop} {R:Nat→Prop} {S:Mem} {ρ:Rho} {g:GM} {s:Seat}
theorem zeY (hB:RBus m I R) (hi:I S ρ g) (hs:s.Ok) {addr:Int} (ha:W64 addr) {wr:Bool} {Q:Int→Int→Bool→Mem→Prop}
  (hQ:match place s g addr wr with | some q=>Q q.1 q.2 true S | none=>Q 0 0 false S):yf S s.L m addr wr Q:=by
 have hl:=hs.len
 have hbase:=hs.base
 apply gT
 unfold yQ
 refine⟨Seat.L_len hl,?_⟩
 simp only[jn]
 rw[td ha.1,wu64 (x:=addr/256) (by omega) (by omega),tm ha.1]
 unfold place at hQ
 by_cases h1:31<addr/256
 ·rw[if_pos h1] at hQ ⊢;exact hQ
 rw[if_neg h1] at hQ ⊢
 rw[zB (Seat.g17 hl)]
 by_cases h2:s.base=0
 ·rw[if_pos h2] at hQ ⊢
  rw[w64 (by omega) (by omega),w64 (by omega) (by omega)]
  have e1:(((addr/256).toNat:Nat):Int)=addr/256:=by omega
  have e2:(((addr%256).toNat:Nat):Int)=addr%256:=by omega
  simp only[e1,e2] at hQ
  exact hQ
 rw[if_neg h2] at hQ ⊢
 rw[zB (Seat.g17 hl),td hbase.1,wu64 (x:=s.base/256) (by omega) (by omega)]
 by_cases h3:31<s.base/256
 ·rw[if_pos h3] at hQ ⊢;exact hQ
 rw[if_neg h3] at hQ ⊢
 rw[zB (Seat.g17 hl),td hbase.1,wu64 (x:=s.base/256) (by omega) (by omega),w64 (x:=s.base/256) (by omega) (by omega),w64 (x:=addr/256) (by omega) (by omega),w64 (x:=8*(addr/256)) (by omega) (by omega)]
 have e1:s.base/256=(((s.base/256).toNat:Nat):Int):=by omega
 have e2:8*(addr/256)=(((8*(addr/256)).toNat:Nat):Int):=by omega
 rw[e1,e2]
 refine zfZ hB hi (n:=8) (by omega) (by omega) (by decide) ?_
 cases hd:ldB g (s.base/256).toNat (8*(addr/256)).toNat 8 with
 | none=>
  rw[hd] at hQ
  dsimp only
  rw[if_neg (by decide)];exact hQ
 | some p=>
  rw[hd] at hQ
  dsimp only at hQ ⊢
  intro sl hby
  obtain⟨hp8,hpb⟩:=zdk (hB.ok hi) hd (by omega)
  rw[if_pos rfl]
  refine zbE hby (by omega) ?_
  have hn:=zcC hpb
  rw[hp8] at hn
  rw[tm (by omega),td (by omega),td (by omega),wu64 (x:=num p/2) (by omega) (by omega),wu64 (x:=num p/256) (by omega) (by omega),tm (by omega)]
  by_cases k1:num p%2=0
  ·rw[if_pos k1]
   rw[if_pos (.inl k1)] at hQ;exact hQ
  rw[if_neg k1]
  have fin:(wr=true→num p/2%2≠0)→(if 31<num p/256 then Q 0 0 false S else Q (IntKind.i64.wrap (num p/256)) (IntKind.i64.wrap (addr%256)) true S):=fun hw=>by
   by_cases k3:31<num p/256
   ·rw[if_pos k3]
    rw[if_pos (.inr (.inr k3))] at hQ;exact hQ
   ·rw[if_neg k3]
    rw[if_neg (by
     rintro (h | ⟨h,h'⟩ | h)
     ·exact k1 h
     ·exact hw h h'
     ·exact k3 h)] at hQ
    rw[w64 (by omega) (by omega),w64 (by omega) (by omega)]
    have e1:(((num p/256).toNat:Nat):Int)=num p/256:=by omega
    have e2:(((addr%256).toNat:Nat):Int)=addr%256:=by omega
    simp only[e1,e2] at hQ
    exact hQ
  cases wr with
  | false=>rw[if_neg (by decide)];exact fin fun h=>by cases h
  | true=>
   rw[if_pos rfl]
   by_cases k2:num p/2%2=0
   ·rw[if_pos k2]
    rw[if_pos (.inr (.inl ⟨rfl,k2⟩))] at hQ;exact hQ
   ·rw[if_neg k2];exact fin fun _=>k2
theorem zhF (hB:RBus m I R) (hi:I S ρ g) (hs:s.Ok) {addr:Int} (ha:W64 addr) {n:Nat} (hn:n=4∨n=8) {Q:Int→Bool→Mem→Prop}
  (hQ:match getW s g addr n with | some w=>Q w true S | none=>∀ x,Q x false S):qR S s.L m addr n Q:=by
 have hl:=hs.len
 apply zan
 unfold xS
 refine⟨Seat.L_len hl,?_⟩
 refine zI (fun J=>match place s g addr false with | some q=>J q.1 q.2 true S | none=>∀ x y,J x y false S) ?_ fun J hJ=>?_
 rotate_left
 ·refine zeY hB hi hs ha ?_
  cases hp:place s g addr false with
  | none=>rw[hp] at hJ;dsimp only at hJ ⊢;rw[if_neg (by decide)];exact hJ _ _
  | some q=>rw[hp] at hJ;dsimp only at hJ ⊢;rw[if_pos rfl];exact hJ
 unfold getW at hQ
 cases hp:place s g addr false with
 | none=>
  rw[hp] at hQ
  dsimp only
  intro x y
  simp only[jn]
  rw[if_neg (by decide)]
  exact hQ _
 | some q=>
  rw[hp] at hQ
  dsimp only at hQ ⊢
  simp only[jn]
  have hpb:=zcB (hB.ok hi) ha hp
  rw[if_pos trivial,tm (by omega)]
  refine⟨by omega,?_⟩
  have e:((q.2:Nat):Int)%(n:Int)=addr%(n:Int):=by
   rw[hpb.2.1]
   rcases hn with rfl | rfl <;> omega
  rw[e]
  by_cases h1:addr%(n:Int)≠0
  ·rw[if_pos h1] at hQ ⊢;exact hQ _
  rw[if_neg h1] at hQ ⊢
  refine zfZ hB hi hpb.1 (by rcases hn with rfl | rfl <;> omega) (by omega) ?_
  cases hd:ldB g q.1 q.2 n with
  | none=>
   rw[hd] at hQ
   dsimp only
   rw[if_neg (by decide)]
   exact zbE By.nil (by simp) (hQ _)
  | some l=>
   rw[hd] at hQ
   dsimp only
   intro sl hby
   obtain⟨hp8,_⟩:=zdk (hB.ok hi) hd (by rcases hn with rfl | rfl <;> omega)
   rw[if_pos rfl]
   exact zbE hby (by omega) hQ
theorem vz {S:Mem} (hl:s.R.length=16) {cause addr:Int} {Q:List Value→Int→Int→Mem→Prop} (hQ:Q (s.trap cause addr).L (if (s.trap cause addr).st=2 then 4 else 1) cause S):zz S s.L cause addr Q:=by
 have hl':(s.trap cause addr).R.length=16:=by unfold Seat.trap;split <;> exact hl
 apply jS
 unfold yj
 refine⟨Seat.L_len hl,?_⟩
 have key:wl S s.L cause addr fun t Sx=>t=(s.trap cause addr).L∧Sx=S:=by
  apply fY
  unfold xr
  refine⟨Seat.L_len hl,?_⟩
  simp only[jn]
  rw[zB (Seat.g18 hl)]
  unfold Seat.trap
  by_cases hv:s.vec=0
  ·rw[if_pos hv,if_pos hv,Seat.s23 hl]
   exact⟨Seat.L_one _,rfl,trivial⟩
  ·rw[if_neg hv,if_neg hv]
   refine⟨Seat.L_len hl,rfl,?_⟩
   rw[zB (Seat.g16 hl),Seat.s19 hl,Seat.s20 (s:={ s with epc:=s.pc }) hl,Seat.s21 (s:={ s with epc:=s.pc,cause:=cause }) hl]
   rw[zB (Seat.g18 (s:={ s with epc:=s.pc,cause:=cause,addr:=addr }) hl),Seat.s16 (s:={ s with epc:=s.pc,cause:=cause,addr:=addr }) hl,Seat.s22 (s:={ s with epc:=s.pc,cause:=cause,addr:=addr,pc:=s.vec }) hl]
   exact⟨Seat.L_one _,rfl,trivial⟩
 refine Tr.mono key ?_
 rintro v S' ⟨r,rfl,h1,rfl,rfl⟩
 refine⟨_,rfl,h1,Seat.L_one _,?_⟩
 rw[zB (Seat.g23 hl')]
 by_cases h2:(s.trap cause addr).st=2
 ·rw[if_pos h2] at hQ ⊢;exact⟨Seat.L_one _,hQ⟩
 ·rw[if_neg h2] at hQ ⊢;exact⟨Seat.L_one _,hQ⟩
end
end Go.Proofs.YtabdpmnhjlmnlaaGreatDoor
end
section
namespace Go.Cr
open Go Go.Pt
theorem zkN (w:Int) {i:Nat} (h:i<(bytes8 w).length):(bytes8 w)[i]=w/2 ^ (8*i)%256:=by simp[bytes8]
end Go.Cr
namespace Go.Proofs.YtabdpmnhjlmnlaaGreatDoor
open Go Go.Pt Go.Cr
section
variable {m:Pt} {I:Mem→Rho→GM→Prop} {R:Nat→Prop} {S:Mem} {ρ:Rho} {g:GM} {s:Seat}
theorem zlw (hB:RBus m I R) (hi:I S ρ g) (hs:s.Ok) {addr w:Int} (ha:W64 addr) (hw:W64 w) {Q:Bool→Mem→Prop}
  (hQ:match putW s g addr w with | some g'=>∀ S1,Mv S ρ S1 ρ R→I S1 ρ g'→Q true S1 | none=>Q false S):yI S s.L m addr w Q:=by
 have hl:=hs.len
 apply zam
 unfold xR
 refine⟨Seat.L_len hl,?_⟩
 refine zI (fun J=>match place s g addr true with | some q=>J q.1 q.2 true S | none=>∀ x y,J x y false S) ?_ fun J hJ=>?_
 rotate_left
 ·refine zeY hB hi hs ha ?_
  cases hp:place s g addr true with
  | none=>rw[hp] at hJ;dsimp only at hJ ⊢;rw[if_neg (by decide)];exact hJ _ _
  | some q=>rw[hp] at hJ;dsimp only at hJ ⊢;rw[if_pos rfl];exact hJ
 unfold putW at hQ
 cases hp:place s g addr true with
 | none=>
  rw[hp] at hQ
  dsimp only
  intro x y
  simp only[jn]
  rw[if_neg (by decide)]
  exact hQ
 | some q=>
  rw[hp] at hQ
  dsimp only at hQ ⊢
  have hpb:=zcB (hB.ok hi) ha hp
  obtain⟨b,o,A,rfl,hM,hwr⟩:=hB.at_ hi
  refine zI (fun J=>(∃ f,g.map q.1=some (f,true)∧addr%8=0)→J S) ?_ fun J hJ=>?_
  rotate_left
  ·rw[if_pos rfl,tm (by omega)]
   have e:((q.2:Nat):Int)%8=addr%8:=by rw[hpb.2.1];omega
   rw[e]
   by_cases h1:addr%8≠0
   ·rw[if_pos h1] at hQ ⊢;exact hQ
   rw[if_neg h1] at hQ ⊢
   rw[zV]
   refine⟨by omega,by omega,?_⟩
   rw[show o+(q.1:Int).toNat*1=o+q.1 by omega,show o+32+(q.1:Int).toNat*1=o+32+q.1 by omega]
   cases hg:g.map q.1 with
   | none=>
    rw[hg] at hQ
    obtain⟨sl,k1,k2⟩:=hM.no q.1 (by omega) hg
    rw[wc k1,if_pos (by omega)];exact hQ
   | some fw=>
    obtain⟨f,wr⟩:=fw
    rw[hg] at hQ hJ
    obtain⟨k1,k2,k3⟩:=hM.pg q.1 f wr hg
    rw[wc k1,if_neg (by show ¬((256:Nat):Int)=0;decide)]
    refine⟨by omega,by omega,?_⟩
    rw[fM k2]
    cases wr with
    | true=>rw[if_pos rfl];exact hJ ⟨f,rfl,by omega⟩
    | false=>rw[if_neg (by decide)];exact hQ
  rintro⟨f,hg,h8⟩
  rw[if_neg (by omega),hg] at hQ
  dsimp only at hQ
  obtain⟨k1,k2,k3⟩:=hM.pg q.1 f true hg
  have hdl:=(hB.ok hi).len q.1 f true hg
  have hb8:=xe w
  obtain⟨hne,hI,hm⟩:=hwr q.1 f hg q.2 (bytes8 w) (by omega) (vF w)
  have hq:=hQ _ hm hI
  refine zI (fun J=>J (S.set (A f) (bw 5 (bL ((wrB g f q.2 (bytes8 w)).dat f))))) hq fun J hJ=>?_
  refine zM (fun (z:Int) S'=>∃ i:Nat,z=i∧i≤8∧S'=S.set (A f) (bw 5 (bL ((g.dat f).take q.2++(bytes8 w).take i++(g.dat f).drop (q.2+i))))) (fun z=>8-z.toNat) ?_
   ⟨0,rfl,by omega,by rw[List.take_zero,List.append_nil,Nat.add_zero,List.take_append_drop];exact (zcu k3).symm⟩
  rintro X z S' ⟨i,rfl,hi8,rfl⟩ ih
  refine zI (fun J=>i<8→J (S.set (A f) (bw 5 (bL ((g.dat f).take q.2++(bytes8 w).take i++(g.dat f).drop (q.2+i)))))) ?_ fun J1 hJ1=>?_
  rotate_left
  ·by_cases hlt:(i:Int)<8
   ·rw[if_pos hlt];exact hJ1 (by omega)
   ·rw[if_neg hlt]
    have:i=8:=by omega
    subst this
    have e:(g.dat f).take q.2++(bytes8 w).take 8++(g.dat f).drop (q.2+8)=(wrB g f q.2 (bytes8 w)).dat f:=by
     have ht:(bytes8 w).take 8=bytes8 w:=List.take_of_length_le (by omega)
     simp only[wrB,if_true]
     rw[hb8,ht]
    rw[e];exact hJ
  intro hlt
  rw[zV]
  refine⟨by omega,by omega,?_⟩
  have hcb:(S.set (A f) (bw 5 (bL ((g.dat f).take q.2++(bytes8 w).take i++(g.dat f).drop (q.2+i))))).cell b (o+q.1)=some (eL ⟨some (A f,0),256,256⟩):=by
   simp only[Mem.cell,qe hne.symm];exact k1
  rw[show o+(q.1:Int).toNat*1=o+q.1 by omega,wc hcb,w64 (x:=8*(i:Int)) (by omega) (by omega),w64 (x:=(q.2:Int)+i) (by omega) (by omega)]
  refine⟨by omega,?_⟩
  rw[jH]
  refine⟨by omega,by omega,?_⟩
  rw[show 0+((q.2:Int)+i).toNat*1=q.2+i by omega,w64 (x:=(i:Int)+1) (by omega) (by omega)]
  refine zkS (t:=5) zy (by simp[bL];omega) ?_
  obtain⟨mm,hmm⟩:∃ k:Nat,w=k:=⟨w.toNat,by omega⟩
  have ev:IntKind.u8.wrap (ishr .u64 w (8*(i:Int)))=(bytes8 w)[i]'(by omega):=by
   rw[zkN,hmm,show 8*(i:Int)=((8*i:Nat):Int) by omega,vV (by omega),znI,Int.natCast_ediv];rfl
  rw[ev,set_set,ziv (by omega) (by omega)]
  exact ih _ _ ⟨i+1,by omega,by omega,rfl⟩ (by omega)
theorem zkj {S:Mem} (hs:s.Ok) {Q:Int→Mem→Prop} (hQ:match nextL s with | some n=>Q n S | none=>Q (-1) S):wj S s.L Q:=by
 have hl:=hs.len
 apply fX
 unfold xq
 refine⟨Seat.L_len hl,?_⟩
 obtain⟨k,e,hk,hk2⟩:=Seat.may_nat hs
 have hpend:=hs.pend
 have hmask:=hs.mask
 have ep:s.pend=((s.pend.toNat:Nat):Int):=by omega
 have em:s.mask=((s.mask.toNat:Nat):Int):=by omega
 refine zI (fun J=>nextL s=none→J S) (fun h=>by rw[h] at hQ;exact hQ) fun J0 hJ0=>?_
 refine zM (fun (z:Int) S'=>∃ i:Nat,z=i∧i≤8∧S'=S∧∀ j,j<i→k/2 ^ j%2≠1) (fun z=>8-z.toNat) ?_ ⟨0,rfl,by omega,rfl,fun j hj=>by omega⟩
 rintro X z S' ⟨i,rfl,hi8,rfl,hno⟩ ih
 refine zI (fun J=>i<8→s.opn=true→J S') ?_ fun J1 hJ1=>?_
 rotate_left
 ·by_cases hlt:(i:Int)<8
  ·rw[if_pos hlt,fM (Seat.g22 hl)]
   by_cases ho:s.opn=true
   ·rw[if_pos ho];exact hJ1 (by omega) ho
   ·rw[if_neg ho];exact hJ0 (by unfold nextL;rw[if_neg (fun h=>ho h.1)])
  ·rw[if_neg hlt]
   refine hJ0 ?_
   have h0:k=0:=znk ⟨k,by omega⟩ fun j=>hno j.1 (by have:=j.2;omega)
   unfold nextL
   rw[if_neg (fun h=>h.2 (by rw[e,h0];rfl))]
 intro hlt ho
 rw[zB (Seat.g24 hl)]
 refine⟨by omega,?_⟩
 rw[w64 (x:=(i:Int)+1) (by omega) (by omega)]
 have b1:Int.tmod (ishr .u32 s.pend (i:Int)) 2=((s.pend.toNat/2 ^ i%2:Nat):Int):=by
  rw[ep,zgl (by omega),tm (Int.natCast_nonneg _),Int.toNat_natCast];rfl
 have b2:Int.tmod (ishr .u32 s.mask (i:Int)) 2=((s.mask.toNat/2 ^ i%2:Nat):Int):=by
  rw[em,zgl (by omega),tm (Int.natCast_nonneg _),Int.toNat_natCast];rfl
 rw[b1]
 have next:k/2 ^ i%2≠1→X ((i:Int)+1) S':=fun h=>ih _ _ ⟨i+1,by omega,by omega,rfl,fun j hj=>by
  by_cases hji:j=i
  ·rw[hji];exact h
  ·exact hno j (by omega)⟩ (by omega)
 by_cases h1:s.pend.toNat/2 ^ i%2=1
 ·rw[if_pos (by omega),zB (Seat.g25 hl)]
  refine⟨by omega,?_⟩
  rw[b2]
  by_cases h2:s.mask.toNat/2 ^ i%2=1
  ·rw[if_pos (by omega)]
   have hb:k/2 ^ i%2=1:=by rw[hk];exact znE h1 h2
   have hlow:low k=i:=zlU ⟨k,by omega⟩ ⟨i,hlt⟩ hb fun j hj=>hno j.1 hj
   have hn:nextL s=some i:=by
    unfold nextL
    rw[if_pos ⟨ho,fun h0=>by
     rw[e] at h0
     have:k=0:=by omega
     rw[this,Nat.zero_div] at hb
     omega⟩,e,Int.toNat_natCast,hlow]
   rw[hn] at hQ;exact hQ
  ·rw[if_neg (by omega)]
   exact next fun hb=>h2 (by rw[hk] at hb;exact (zjb hb).2)
 ·rw[if_neg (by omega)]
  exact next fun hb=>h1 (by rw[hk] at hb;exact (zjb hb).1)
end
end Go.Proofs.YtabdpmnhjlmnlaaGreatDoor
end
