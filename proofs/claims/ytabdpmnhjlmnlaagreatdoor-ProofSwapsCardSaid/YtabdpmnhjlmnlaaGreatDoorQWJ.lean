/- Texts of this work,joined by program (pack.py): Psb,PsZ,Zh,PtL,PtM,Jr. -/
import Derived.Test.YtabdpmnhjlmnlaaGreatDoorQWB
import Derived.Test.YtabdpmnhjlmnlaaGreatDoorQWI
import Derived.Test.YtabdpmnhjlmnlaaGreatDoorQWD
import Derived.Test.YtabdpmnhjlmnlaaGreatDoorQWE
import Derived.ProofKit
import Derived.OpenShut
import Derived.Test.YtabdpmnhjlmnlaaGreatDoorRows
import Derived.LaidMore
import Derived.Lay
import Derived.Lib.LaidU8
import Derived.Deep.Slices
import Derived.Stop.Joined
set_option linter.unusedVariables false
section
namespace Go.Proofs.YtabdpmnhjlmnlaaGreatDoor
open Go Go.Pt
attribute [local irreducible] Code.wp Back bodyPost wpList FR WL WC WQ WA AW Tr Yc HC AllC
set_option maxRecDepth 20000
set_option maxHeartbeats 4000000
set_option linter.unusedVariables false
def qb (S:Mem) (form:Int) (a:Int) (b:Int) (Q:Bool→Mem→Prop):Prop:=
 jn (fun (Sx:Mem)=>
 kH Sx (IntKind.i64.wrap (1+(IntKind.i64.wrap (Int.tmod form 2)))) 64 4 fun t t_1 Sx_1=>
 jn (fun (Sx_2:Mem)=>
 qP Sx_2 t 1 8 8 (⟨none,0,0⟩) fun t_2 t_3 Sx_3=>
 jn (fun (Sx_4:Mem)=>
 nn t fun b_1 o=>
 gP (Sx_4.cell b_1 (o+3)) fun t_4=>
 nn t_4 fun b_2 o_1=>
 0≤t_2∧t_2<6 ∧
 gA (Sx_4.part b_2 (o_1+2+t_2.toNat*12+2) 2) fun t_5=>
 t_5.all (·.oneCell')=true ∧
 gP (Sx_4.cell b_1 o) fun t_6=>
 qn Sx_4 t_5 t_6 (IntKind.i64.wrap (Int.tmod a 8)) fun t_7 t_8 Sx_5=>
 t_7.all (·.oneCell')=true ∧
 gP (Sx_5.cell b_1 o) fun t_9=>
 qn Sx_5 t_5 t_9 (IntKind.i64.wrap (Int.tmod b 8)) fun t_10 t_11 Sx_6=>
 t_10.all (·.oneCell')=true ∧
 gP (Sx_6.cell b_1 o) fun t_12=>
 gI (nthL t_10 1) .i64 fun t_13=>
 qX Sx_6 t_5 t_12 (IntKind.i64.wrap (Int.tmod a 8)) t_13 true fun t_14 Sx_7=>
 gP (Sx_7.cell b_1 o) fun t_15=>
 gI (nthL t_7 1) .i64 fun t_16=>
 qX Sx_7 t_5 t_15 (IntKind.i64.wrap (Int.tmod b 8)) t_16 true fun t_17 Sx_8=>
 jn (fun (want:Int) (Sx_9:Mem)=>
 gP (Sx_9.cell b_1 o) fun t_18=>
 gP (Sx_9.cell b_1 (o+1)) fun t_19=>
 gL (Sx_9.cell b_1 (o+4)) fun t_20=>
 gP (Sx_9.cell b_1 (o+3)) fun t_21=>
 yX Sx_9 t_18 t_19 t_20 t_21 fun t_22 Sx_10=>
 if t_22=want then
 kX Sx_10 none none fun t_23 Sx_11=>
 Q t_23 Sx_11
 else
 Q false Sx_10) fun Jx=>
 if IntKind.i64.wrap (Int.tmod a 8)=IntKind.i64.wrap (Int.tmod b 8) then
 Jx 0 Sx_8
 else
 Jx 11 Sx_8) fun Jx_1=>
 if t_3≠0 then
 Q false Sx_3
 else
 Jx_1 Sx_3) fun Jx_2=>
 if t_1≠0 then
 Q false Sx_1
 else
 Jx_2 Sx_1) fun Jx_3=>
 yc S fun t_24 Sx_12=>
 if t_24=true then
 Jx_3 Sx_12
 else
 Q false Sx_12
theorem xD {S:Mem} {form:Int} {a:Int} {b:Int} {Q:Bool→Mem→Prop} (H:qb S form a b Q):xV S form a b Q:=by
 unfold qb at H
 exact Tr.intro Tryz.func14 E Tryz.ntmps14 E fun w0=>csr<|gv E E<|nx<|zo H (fun (J:Mem→Prop) (z:Unit) S=>J S) (fun z=>⟨119,[(0,.int .u8 form),(1,.int .u8 a),(2,.int .u8 b)]⟩) (fun z=>[]) (fun _ Sx H1=>csr<|mv E E<|s_p E (jG E E (by decide))<|s_p E (yf ⟨_,Tryz.underlying5⟩ E)<|s_p E (zZ E E)<|zax E E H1 fun t t_1 Sx_1 H2=>mv E E<|s_p E (zl E E)<|s_p E (zl E E)<|gv E E<|gv E E<|nx<|zo H2 (fun (J:Mem→Prop) (z:Unit) S=>J S) (fun z=>⟨119,[(1,.int .u8 a),(2,.int .u8 b),(7,eP t)]⟩) (fun z=>[]) (fun _ Sx_2 H3=>csr<|mv E E<|zax E E H3 fun t_2 t_3 Sx_3 H4=>mv E E<|s_p E (zl E E)<|s_p E (zl E E)<|gv E E<|gv E E<|nx<|zo H4 (fun (J:Mem→Prop) (z:Unit) S=>J S) (fun z=>⟨119,[(1,.int .u8 a),(2,.int .u8 b),(7,eP t),(9,.int .i64 t_2)]⟩) (fun z=>[]) (fun _ Sx_4 H5=>csr<|mv E E<|s_p E (jG E E (by decide))<|s_p E (yf ⟨_,Tryz.underlying5⟩ E)<|gv E E<|nxr<|mv E E<|s_p E (jG E E (by decide))<|s_p E (yf ⟨_,Tryz.underlying5⟩ E)<|gv E E<|nx<|zy<|by exact zs<|mv E E<|by obtain⟨b_1,o,rfl,H6⟩:=H5;exact s_p E (zY E)<|s_p E (zF E E)<|gx H6 fun t_4 ht_4 H7=>s_v E (zE E) (zT ht_4)<|mv E E<|by obtain⟨b_2,o_1,rfl,H8⟩:=H7;exact s_p E (zY E)<|s_p E (zF E E)<|an2 H8 fun c c_1 H9=>s_p E (jl E E c c_1 E)<|s_p E (zF E E)<|gx H9 fun t_5 ht_5 H10=>by refine s_v E (qa E (zr ht_5)) (yo ht_5) ?_;exact by refine zM E fun b_3=>?_;exact an H10 fun c_2 H11=>zz 0 E E E E E (zr ht_5) E c_2<|nx<|zy<|zL (by kernel_rfl)<|by refine aT 0 E (by decide +kernel) E (qa E (zr ht_5)) (zX (k:=2) 0 E (zw (zr ht_5))) ?_;exact aTP 1 E (by decide +kernel) E (zh E)<|by exact aTP 2 E (by decide +kernel) E (zY E)<|by exact aTP 3 E (by decide +kernel) E (zF E E)<|by exact gx H11 fun t_6 ht_6 H12=>aT 4 E (by decide +kernel) E (zE E) (zT ht_6)<|by exact aTP 5 E (by decide +kernel) E (zh E)<|by exact vf 6 10 (by decide +kernel) E E (qM E E H12 fun rv Sx_5 H13=>by obtain⟨t_7,t_8,rfl,ht_7,H14⟩:=H13;exact zq<|zK zx<|aTP 7 E (by decide +kernel) E (zh E)<|by exact aTP 8 E (by decide +kernel) E (zl E E)<|by exact aTP 9 E (by decide +kernel) E (zl E E)<|by exact zH 10 (by decide +kernel) E<|by exact by refine zM E fun b_4=>?_;exact zq<|zK zx<|zH 11 (by decide +kernel) E<|by exact an H14 fun c_3 H15=>zz 1 E E E E E ht_7 E c_3<|zq<|zK zx<|aTP 12 E (by decide +kernel) E (zN E)<|by exact zB (by decide +kernel)<|by exact zk<|zy<|zL (by kernel_rfl)<|by refine aT 0 E (by decide +kernel) E (qa E (zr ht_5)) (zX (k:=2) 0 E (zw (zr ht_5))) ?_;exact aTP 1 E (by decide +kernel) E (zh E)<|by exact aTP 2 E (by decide +kernel) E (zY E)<|by exact aTP 3 E (by decide +kernel) E (zF E E)<|by exact gx H15 fun t_9 ht_9 H16=>aT 4 E (by decide +kernel) E (zE E) (zT ht_9)<|by exact aTP 5 E (by decide +kernel) E (zh E)<|by exact vf 6 10 (by decide +kernel) E E (qM E E H16 fun rv Sx_6 H17=>by obtain⟨t_10,t_11,rfl,ht_10,H18⟩:=H17;exact zq<|zK zx<|aTP 7 E (by decide +kernel) E (zh E)<|by exact aTP 8 E (by decide +kernel) E (zl E E)<|by exact aTP 9 E (by decide +kernel) E (zl E E)<|by exact zH 10 (by decide +kernel) E<|by exact by refine zM E fun b_5=>?_;exact zq<|zK zx<|zH 11 (by decide +kernel) E<|by exact an H18 fun c_4 H19=>zz 2 E E E E E ht_10 E c_4<|zq<|zK zx<|aTP 12 E (by decide +kernel) E (zN E)<|by exact zB (by decide +kernel)<|by exact zk<|zy<|zL (by kernel_rfl)<|by refine aT 0 E (by decide +kernel) E (qa E (zr ht_5)) (zX (k:=2) 0 E (zw (zr ht_5))) ?_;exact aTP 1 E (by decide +kernel) E (zh E)<|by exact aTP 2 E (by decide +kernel) E (zY E)<|by exact aTP 3 E (by decide +kernel) E (zF E E)<|by exact gx H19 fun t_12 ht_12 H20=>aT 4 E (by decide +kernel) E (zE E) (zT ht_12)<|by exact aTP 5 E (by decide +kernel) E (zh E)<|by exact aTP 6 E (by decide +kernel) E (zF E E)<|by exact gx H20 fun t_13 ht_13 H21=>aT 7 E (by decide +kernel) E (zE E) (zO 2 E ht_13)<|by exact zH 8 (by decide +kernel) E<|by exact qE E E H21 fun t_14 Sx_7 H22=>zq<|zK zx<|zB (by decide +kernel)<|by exact zk<|zy<|zL (by kernel_rfl)<|by refine aT 0 E (by decide +kernel) E (qa E (zr ht_5)) (zX (k:=2) 0 E (zw (zr ht_5))) ?_;exact aTP 1 E (by decide +kernel) E (zh E)<|by exact aTP 2 E (by decide +kernel) E (zY E)<|by exact aTP 3 E (by decide +kernel) E (zF E E)<|by exact gx H22 fun t_15 ht_15 H23=>aT 4 E (by decide +kernel) E (zE E) (zT ht_15)<|by exact aTP 5 E (by decide +kernel) E (zh E)<|by exact aTP 6 E (by decide +kernel) E (zF E E)<|by exact gx H23 fun t_16 ht_16 H24=>aT 7 E (by decide +kernel) E (zE E) (zO 1 E ht_16)<|by exact zH 8 (by decide +kernel) E<|by exact qE E E H24 fun t_17 Sx_8 H25=>zq<|zK zx<|zB (by decide +kernel)<|by exact zk<|csr<|gv E E<|nx<|zo H25 (fun (J:Int→Mem→Prop) (z:Int) S=>J z S) (fun z=>⟨119,[(7,.pointer (some ⟨b_1,o,none⟩)),(18,.int .i64 z)]⟩) (fun z=>[]) (fun want Sx_9 H26=>zy<|zL (by kernel_rfl)<|aTP 0 E (by decide +kernel) E (zh E)<|by exact aTP 1 E (by decide +kernel) E (zY E)<|by exact aTP 2 E (by decide +kernel) E (zF E E)<|by exact gx H26 fun t_18 ht_18 H27=>aT 3 E (by decide +kernel) E (zE E) (zT ht_18)<|by exact aTP 4 E (by decide +kernel) E (zh E)<|by exact aTP 5 E (by decide +kernel) E (zY E)<|by exact aTP 6 E (by decide +kernel) E (zF E E)<|by exact gx H27 fun t_19 ht_19 H28=>aT 7 E (by decide +kernel) E (zE E) (zT ht_19)<|by exact aTP 8 E (by decide +kernel) E (zh E)<|by exact aTP 9 E (by decide +kernel) E (zY E)<|by exact aTP 10 E (by decide +kernel) E (zF E E)<|by exact gx H28 fun t_20 ht_20 H29=>aT 11 E (by decide +kernel) E (zE E) (zT ht_20)<|by exact aTP 12 E (by decide +kernel) E (zh E)<|by exact aTP 13 E (by decide +kernel) E (zY E)<|by exact aTP 14 E (by decide +kernel) E (zF E E)<|by exact gx H29 fun t_21 ht_21 H30=>aT 15 E (by decide +kernel) E (zE E) (zT ht_21)<|by exact aTP 17 E (by decide +kernel) E (zh E)<|by exact zH 16 (by decide +kernel) E<|by exact qE E E H30 fun t_22 Sx_10 H31=>zq<|zK zx<|iteK H31 (fun c_5 H32=>aTP 18 E (by decide +kernel) E (yT (wO E E) c_5)<|by exact aTP 19 E (by decide +kernel) E (zh E)<|by exact aTP 20 E (by decide +kernel) E (zt E E)<|by exact aTP 21 E (by decide +kernel) E (zh E)<|by exact zH 22 (by decide +kernel) E<|by exact qE E E H32 fun t_23 Sx_11 H33=>zq<|zK zx<|aTP 23 E (by decide +kernel) E (zt E E)<|by exact aTP 24 E (by decide +kernel) E (zN E)<|by exact zB (by decide +kernel)<|by exact zk<|zn<|zm Tryz.results14 (zf E zi) ⟨_,E,H33⟩) fun c_5 H32=>aTP 18 E (by decide +kernel) E (yF (wO E E) c_5)<|by exact aTP 19 E (by decide +kernel) E (zh E)<|by exact aTP 20 E (by decide +kernel) E (zt E E)<|by exact aTP 21 E (by decide +kernel) E (zh E)<|by exact ze 22 E (by decide +kernel) (za zc) E<|by exact aTP 23 E (by decide +kernel) E (zt E E)<|by exact aTP 24 E (by decide +kernel) E (zN E)<|by exact zB (by decide +kernel)<|by exact zk<|zn<|zm Tryz.results14 (zf E zi) ⟨_,E,H32⟩) (fun Jx hJx H34=>csr<|mv E E<|mv E E<|iteK H34 (fun c_6 H35=>ceT E E E (c_6)<|nx<|ctr E E<|gv E E<|zq<|hJx 0 _ _ _ _ [] H35 E ⟨E,E,True.intro⟩ E) fun c_6 H35=>ceF E E E (c_6)<|nx<|cfs E E<|hJx 11 _ _ _ _ [] H35 E ⟨E,E,True.intro⟩ E)) (by refine zM E fun b_5=>?_;exact zq<|zK (zC (zT ht_9) (zC (zX (k:=2) 0 E (zw (zr ht_5))) zx))<|zH 6 (by decide +kernel) E<|by exact qM E E H16 fun rv Sx_6 H36=>by obtain⟨t_10,t_11,rfl,ht_10,H37⟩:=H36;exact zq<|zK zx<|aTP 7 E (by decide +kernel) E (zh E)<|by exact aTP 8 E (by decide +kernel) E (zl E E)<|by exact aTP 9 E (by decide +kernel) E (zl E E)<|by exact zH 11 (by decide +kernel) E<|by exact an H37 fun c_4 H38=>zz 2 E E E E E ht_10 E c_4<|zq<|zK zx<|aTP 12 E (by decide +kernel) E (zN E)<|by exact zB (by decide +kernel)<|by exact zk<|zy<|zL (by kernel_rfl)<|by refine aT 0 E (by decide +kernel) E (qa E (zr ht_5)) (zX (k:=2) 0 E (zw (zr ht_5))) ?_;exact aTP 1 E (by decide +kernel) E (zh E)<|by exact aTP 2 E (by decide +kernel) E (zY E)<|by exact aTP 3 E (by decide +kernel) E (zF E E)<|by exact gx H38 fun t_12 ht_12 H39=>aT 4 E (by decide +kernel) E (zE E) (zT ht_12)<|by exact aTP 5 E (by decide +kernel) E (zh E)<|by exact aTP 6 E (by decide +kernel) E (zF E E)<|by exact gx H39 fun t_13 ht_13 H40=>aT 7 E (by decide +kernel) E (zE E) (zO 2 E ht_13)<|by exact zH 8 (by decide +kernel) E<|by exact qE E E H40 fun t_14 Sx_7 H41=>zq<|zK zx<|zB (by decide +kernel)<|by exact zk<|zy<|zL (by kernel_rfl)<|by refine aT 0 E (by decide +kernel) E (qa E (zr ht_5)) (zX (k:=2) 0 E (zw (zr ht_5))) ?_;exact aTP 1 E (by decide +kernel) E (zh E)<|by exact aTP 2 E (by decide +kernel) E (zY E)<|by exact aTP 3 E (by decide +kernel) E (zF E E)<|by exact gx H41 fun t_15 ht_15 H42=>aT 4 E (by decide +kernel) E (zE E) (zT ht_15)<|by exact aTP 5 E (by decide +kernel) E (zh E)<|by exact aTP 6 E (by decide +kernel) E (zF E E)<|by exact gx H42 fun t_16 ht_16 H43=>aT 7 E (by decide +kernel) E (zE E) (zO 1 E ht_16)<|by exact zH 8 (by decide +kernel) E<|by exact qE E E H43 fun t_17 Sx_8 H44=>zq<|zK zx<|zB (by decide +kernel)<|by exact zk<|csr<|gv E E<|nx<|zo H44 (fun (J:Int→Mem→Prop) (z:Int) S=>J z S) (fun z=>⟨119,[(7,.pointer (some ⟨b_1,o,none⟩)),(18,.int .i64 z)]⟩) (fun z=>[]) (fun want Sx_9 H45=>zy<|zL (by kernel_rfl)<|aTP 0 E (by decide +kernel) E (zh E)<|by exact aTP 1 E (by decide +kernel) E (zY E)<|by exact aTP 2 E (by decide +kernel) E (zF E E)<|by exact gx H45 fun t_18 ht_18 H46=>aT 3 E (by decide +kernel) E (zE E) (zT ht_18)<|by exact aTP 4 E (by decide +kernel) E (zh E)<|by exact aTP 5 E (by decide +kernel) E (zY E)<|by exact aTP 6 E (by decide +kernel) E (zF E E)<|by exact gx H46 fun t_19 ht_19 H47=>aT 7 E (by decide +kernel) E (zE E) (zT ht_19)<|by exact aTP 8 E (by decide +kernel) E (zh E)<|by exact aTP 9 E (by decide +kernel) E (zY E)<|by exact aTP 10 E (by decide +kernel) E (zF E E)<|by exact gx H47 fun t_20 ht_20 H48=>aT 11 E (by decide +kernel) E (zE E) (zT ht_20)<|by exact aTP 12 E (by decide +kernel) E (zh E)<|by exact aTP 13 E (by decide +kernel) E (zY E)<|by exact aTP 14 E (by decide +kernel) E (zF E E)<|by exact gx H48 fun t_21 ht_21 H49=>aT 15 E (by decide +kernel) E (zE E) (zT ht_21)<|by exact aTP 17 E (by decide +kernel) E (zh E)<|by exact zH 16 (by decide +kernel) E<|by exact qE E E H49 fun t_22 Sx_10 H50=>zq<|zK zx<|iteK H50 (fun c_5 H51=>aTP 18 E (by decide +kernel) E (yT (wO E E) c_5)<|by exact aTP 19 E (by decide +kernel) E (zh E)<|by exact aTP 20 E (by decide +kernel) E (zt E E)<|by exact aTP 21 E (by decide +kernel) E (zh E)<|by exact zH 22 (by decide +kernel) E<|by exact qE E E H51 fun t_23 Sx_11 H52=>zq<|zK zx<|aTP 23 E (by decide +kernel) E (zt E E)<|by exact aTP 24 E (by decide +kernel) E (zN E)<|by exact zB (by decide +kernel)<|by exact zk<|zn<|zm Tryz.results14 (zf E zi) ⟨_,E,H52⟩) fun c_5 H51=>aTP 18 E (by decide +kernel) E (yF (wO E E) c_5)<|by exact aTP 19 E (by decide +kernel) E (zh E)<|by exact aTP 20 E (by decide +kernel) E (zt E E)<|by exact aTP 21 E (by decide +kernel) E (zh E)<|by exact ze 22 E (by decide +kernel) (za zc) E<|by exact aTP 23 E (by decide +kernel) E (zt E E)<|by exact aTP 24 E (by decide +kernel) E (zN E)<|by exact zB (by decide +kernel)<|by exact zk<|zn<|zm Tryz.results14 (zf E zi) ⟨_,E,H51⟩) (fun Jx hJx H53=>csr<|mv E E<|mv E E<|iteK H53 (fun c_6 H54=>ceT E E E (c_6)<|nx<|ctr E E<|gv E E<|zq<|hJx 0 _ _ _ _ [] H54 E ⟨E,E,True.intro⟩ E) fun c_6 H54=>ceF E E E (c_6)<|nx<|cfs E E<|hJx 11 _ _ _ _ [] H54 E ⟨E,E,True.intro⟩ E))) (by refine zM E fun b_4=>?_;exact zq<|zK (zC (zT ht_6) (zC (zX (k:=2) 0 E (zw (zr ht_5))) zx))<|zH 6 (by decide +kernel) E<|by exact qM E E H12 fun rv Sx_5 H55=>by obtain⟨t_7,t_8,rfl,ht_7,H56⟩:=H55;exact zq<|zK zx<|aTP 7 E (by decide +kernel) E (zh E)<|by exact aTP 8 E (by decide +kernel) E (zl E E)<|by exact aTP 9 E (by decide +kernel) E (zl E E)<|by exact zH 11 (by decide +kernel) E<|by exact an H56 fun c_3 H57=>zz 1 E E E E E ht_7 E c_3<|zq<|zK zx<|aTP 12 E (by decide +kernel) E (zN E)<|by exact zB (by decide +kernel)<|by exact zk<|zy<|zL (by kernel_rfl)<|by refine aT 0 E (by decide +kernel) E (qa E (zr ht_5)) (zX (k:=2) 0 E (zw (zr ht_5))) ?_;exact aTP 1 E (by decide +kernel) E (zh E)<|by exact aTP 2 E (by decide +kernel) E (zY E)<|by exact aTP 3 E (by decide +kernel) E (zF E E)<|by exact gx H57 fun t_9 ht_9 H58=>aT 4 E (by decide +kernel) E (zE E) (zT ht_9)<|by exact aTP 5 E (by decide +kernel) E (zh E)<|by exact vf 6 10 (by decide +kernel) E E (qM E E H58 fun rv Sx_6 H59=>by obtain⟨t_10,t_11,rfl,ht_10,H60⟩:=H59;exact zq<|zK zx<|aTP 7 E (by decide +kernel) E (zh E)<|by exact aTP 8 E (by decide +kernel) E (zl E E)<|by exact aTP 9 E (by decide +kernel) E (zl E E)<|by exact zH 10 (by decide +kernel) E<|by exact by refine zM E fun b_5=>?_;exact zq<|zK zx<|zH 11 (by decide +kernel) E<|by exact an H60 fun c_4 H61=>zz 2 E E E E E ht_10 E c_4<|zq<|zK zx<|aTP 12 E (by decide +kernel) E (zN E)<|by exact zB (by decide +kernel)<|by exact zk<|zy<|zL (by kernel_rfl)<|by refine aT 0 E (by decide +kernel) E (qa E (zr ht_5)) (zX (k:=2) 0 E (zw (zr ht_5))) ?_;exact aTP 1 E (by decide +kernel) E (zh E)<|by exact aTP 2 E (by decide +kernel) E (zY E)<|by exact aTP 3 E (by decide +kernel) E (zF E E)<|by exact gx H61 fun t_12 ht_12 H62=>aT 4 E (by decide +kernel) E (zE E) (zT ht_12)<|by exact aTP 5 E (by decide +kernel) E (zh E)<|by exact aTP 6 E (by decide +kernel) E (zF E E)<|by exact gx H62 fun t_13 ht_13 H63=>aT 7 E (by decide +kernel) E (zE E) (zO 2 E ht_13)<|by exact zH 8 (by decide +kernel) E<|by exact qE E E H63 fun t_14 Sx_7 H64=>zq<|zK zx<|zB (by decide +kernel)<|by exact zk<|zy<|zL (by kernel_rfl)<|by refine aT 0 E (by decide +kernel) E (qa E (zr ht_5)) (zX (k:=2) 0 E (zw (zr ht_5))) ?_;exact aTP 1 E (by decide +kernel) E (zh E)<|by exact aTP 2 E (by decide +kernel) E (zY E)<|by exact aTP 3 E (by decide +kernel) E (zF E E)<|by exact gx H64 fun t_15 ht_15 H65=>aT 4 E (by decide +kernel) E (zE E) (zT ht_15)<|by exact aTP 5 E (by decide +kernel) E (zh E)<|by exact aTP 6 E (by decide +kernel) E (zF E E)<|by exact gx H65 fun t_16 ht_16 H66=>aT 7 E (by decide +kernel) E (zE E) (zO 1 E ht_16)<|by exact zH 8 (by decide +kernel) E<|by exact qE E E H66 fun t_17 Sx_8 H67=>zq<|zK zx<|zB (by decide +kernel)<|by exact zk<|csr<|gv E E<|nx<|zo H67 (fun (J:Int→Mem→Prop) (z:Int) S=>J z S) (fun z=>⟨119,[(7,.pointer (some ⟨b_1,o,none⟩)),(18,.int .i64 z)]⟩) (fun z=>[]) (fun want Sx_9 H68=>zy<|zL (by kernel_rfl)<|aTP 0 E (by decide +kernel) E (zh E)<|by exact aTP 1 E (by decide +kernel) E (zY E)<|by exact aTP 2 E (by decide +kernel) E (zF E E)<|by exact gx H68 fun t_18 ht_18 H69=>aT 3 E (by decide +kernel) E (zE E) (zT ht_18)<|by exact aTP 4 E (by decide +kernel) E (zh E)<|by exact aTP 5 E (by decide +kernel) E (zY E)<|by exact aTP 6 E (by decide +kernel) E (zF E E)<|by exact gx H69 fun t_19 ht_19 H70=>aT 7 E (by decide +kernel) E (zE E) (zT ht_19)<|by exact aTP 8 E (by decide +kernel) E (zh E)<|by exact aTP 9 E (by decide +kernel) E (zY E)<|by exact aTP 10 E (by decide +kernel) E (zF E E)<|by exact gx H70 fun t_20 ht_20 H71=>aT 11 E (by decide +kernel) E (zE E) (zT ht_20)<|by exact aTP 12 E (by decide +kernel) E (zh E)<|by exact aTP 13 E (by decide +kernel) E (zY E)<|by exact aTP 14 E (by decide +kernel) E (zF E E)<|by exact gx H71 fun t_21 ht_21 H72=>aT 15 E (by decide +kernel) E (zE E) (zT ht_21)<|by exact aTP 17 E (by decide +kernel) E (zh E)<|by exact zH 16 (by decide +kernel) E<|by exact qE E E H72 fun t_22 Sx_10 H73=>zq<|zK zx<|iteK H73 (fun c_5 H74=>aTP 18 E (by decide +kernel) E (yT (wO E E) c_5)<|by exact aTP 19 E (by decide +kernel) E (zh E)<|by exact aTP 20 E (by decide +kernel) E (zt E E)<|by exact aTP 21 E (by decide +kernel) E (zh E)<|by exact zH 22 (by decide +kernel) E<|by exact qE E E H74 fun t_23 Sx_11 H75=>zq<|zK zx<|aTP 23 E (by decide +kernel) E (zt E E)<|by exact aTP 24 E (by decide +kernel) E (zN E)<|by exact zB (by decide +kernel)<|by exact zk<|zn<|zm Tryz.results14 (zf E zi) ⟨_,E,H75⟩) fun c_5 H74=>aTP 18 E (by decide +kernel) E (yF (wO E E) c_5)<|by exact aTP 19 E (by decide +kernel) E (zh E)<|by exact aTP 20 E (by decide +kernel) E (zt E E)<|by exact aTP 21 E (by decide +kernel) E (zh E)<|by exact ze 22 E (by decide +kernel) (za zc) E<|by exact aTP 23 E (by decide +kernel) E (zt E E)<|by exact aTP 24 E (by decide +kernel) E (zN E)<|by exact zB (by decide +kernel)<|by exact zk<|zn<|zm Tryz.results14 (zf E zi) ⟨_,E,H74⟩) (fun Jx hJx H76=>csr<|mv E E<|mv E E<|iteK H76 (fun c_6 H77=>ceT E E E (c_6)<|nx<|ctr E E<|gv E E<|zq<|hJx 0 _ _ _ _ [] H77 E ⟨E,E,True.intro⟩ E) fun c_6 H77=>ceF E E E (c_6)<|nx<|cfs E E<|hJx 11 _ _ _ _ [] H77 E ⟨E,E,True.intro⟩ E)) (by refine zM E fun b_5=>?_;exact zq<|zK (zC (zT ht_9) (zC (zX (k:=2) 0 E (zw (zr ht_5))) zx))<|zH 6 (by decide +kernel) E<|by exact qM E E H58 fun rv Sx_6 H78=>by obtain⟨t_10,t_11,rfl,ht_10,H79⟩:=H78;exact zq<|zK zx<|aTP 7 E (by decide +kernel) E (zh E)<|by exact aTP 8 E (by decide +kernel) E (zl E E)<|by exact aTP 9 E (by decide +kernel) E (zl E E)<|by exact zH 11 (by decide +kernel) E<|by exact an H79 fun c_4 H80=>zz 2 E E E E E ht_10 E c_4<|zq<|zK zx<|aTP 12 E (by decide +kernel) E (zN E)<|by exact zB (by decide +kernel)<|by exact zk<|zy<|zL (by kernel_rfl)<|by refine aT 0 E (by decide +kernel) E (qa E (zr ht_5)) (zX (k:=2) 0 E (zw (zr ht_5))) ?_;exact aTP 1 E (by decide +kernel) E (zh E)<|by exact aTP 2 E (by decide +kernel) E (zY E)<|by exact aTP 3 E (by decide +kernel) E (zF E E)<|by exact gx H80 fun t_12 ht_12 H81=>aT 4 E (by decide +kernel) E (zE E) (zT ht_12)<|by exact aTP 5 E (by decide +kernel) E (zh E)<|by exact aTP 6 E (by decide +kernel) E (zF E E)<|by exact gx H81 fun t_13 ht_13 H82=>aT 7 E (by decide +kernel) E (zE E) (zO 2 E ht_13)<|by exact zH 8 (by decide +kernel) E<|by exact qE E E H82 fun t_14 Sx_7 H83=>zq<|zK zx<|zB (by decide +kernel)<|by exact zk<|zy<|zL (by kernel_rfl)<|by refine aT 0 E (by decide +kernel) E (qa E (zr ht_5)) (zX (k:=2) 0 E (zw (zr ht_5))) ?_;exact aTP 1 E (by decide +kernel) E (zh E)<|by exact aTP 2 E (by decide +kernel) E (zY E)<|by exact aTP 3 E (by decide +kernel) E (zF E E)<|by exact gx H83 fun t_15 ht_15 H84=>aT 4 E (by decide +kernel) E (zE E) (zT ht_15)<|by exact aTP 5 E (by decide +kernel) E (zh E)<|by exact aTP 6 E (by decide +kernel) E (zF E E)<|by exact gx H84 fun t_16 ht_16 H85=>aT 7 E (by decide +kernel) E (zE E) (zO 1 E ht_16)<|by exact zH 8 (by decide +kernel) E<|by exact qE E E H85 fun t_17 Sx_8 H86=>zq<|zK zx<|zB (by decide +kernel)<|by exact zk<|csr<|gv E E<|nx<|zo H86 (fun (J:Int→Mem→Prop) (z:Int) S=>J z S) (fun z=>⟨119,[(7,.pointer (some ⟨b_1,o,none⟩)),(18,.int .i64 z)]⟩) (fun z=>[]) (fun want Sx_9 H87=>zy<|zL (by kernel_rfl)<|aTP 0 E (by decide +kernel) E (zh E)<|by exact aTP 1 E (by decide +kernel) E (zY E)<|by exact aTP 2 E (by decide +kernel) E (zF E E)<|by exact gx H87 fun t_18 ht_18 H88=>aT 3 E (by decide +kernel) E (zE E) (zT ht_18)<|by exact aTP 4 E (by decide +kernel) E (zh E)<|by exact aTP 5 E (by decide +kernel) E (zY E)<|by exact aTP 6 E (by decide +kernel) E (zF E E)<|by exact gx H88 fun t_19 ht_19 H89=>aT 7 E (by decide +kernel) E (zE E) (zT ht_19)<|by exact aTP 8 E (by decide +kernel) E (zh E)<|by exact aTP 9 E (by decide +kernel) E (zY E)<|by exact aTP 10 E (by decide +kernel) E (zF E E)<|by exact gx H89 fun t_20 ht_20 H90=>aT 11 E (by decide +kernel) E (zE E) (zT ht_20)<|by exact aTP 12 E (by decide +kernel) E (zh E)<|by exact aTP 13 E (by decide +kernel) E (zY E)<|by exact aTP 14 E (by decide +kernel) E (zF E E)<|by exact gx H90 fun t_21 ht_21 H91=>aT 15 E (by decide +kernel) E (zE E) (zT ht_21)<|by exact aTP 17 E (by decide +kernel) E (zh E)<|by exact zH 16 (by decide +kernel) E<|by exact qE E E H91 fun t_22 Sx_10 H92=>zq<|zK zx<|iteK H92 (fun c_5 H93=>aTP 18 E (by decide +kernel) E (yT (wO E E) c_5)<|by exact aTP 19 E (by decide +kernel) E (zh E)<|by exact aTP 20 E (by decide +kernel) E (zt E E)<|by exact aTP 21 E (by decide +kernel) E (zh E)<|by exact zH 22 (by decide +kernel) E<|by exact qE E E H93 fun t_23 Sx_11 H94=>zq<|zK zx<|aTP 23 E (by decide +kernel) E (zt E E)<|by exact aTP 24 E (by decide +kernel) E (zN E)<|by exact zB (by decide +kernel)<|by exact zk<|zn<|zm Tryz.results14 (zf E zi) ⟨_,E,H94⟩) fun c_5 H93=>aTP 18 E (by decide +kernel) E (yF (wO E E) c_5)<|by exact aTP 19 E (by decide +kernel) E (zh E)<|by exact aTP 20 E (by decide +kernel) E (zt E E)<|by exact aTP 21 E (by decide +kernel) E (zh E)<|by exact ze 22 E (by decide +kernel) (za zc) E<|by exact aTP 23 E (by decide +kernel) E (zt E E)<|by exact aTP 24 E (by decide +kernel) E (zN E)<|by exact zB (by decide +kernel)<|by exact zk<|zn<|zm Tryz.results14 (zf E zi) ⟨_,E,H93⟩) (fun Jx hJx H95=>csr<|mv E E<|mv E E<|iteK H95 (fun c_6 H96=>ceT E E E (c_6)<|nx<|ctr E E<|gv E E<|zq<|hJx 0 _ _ _ _ [] H96 E ⟨E,E,True.intro⟩ E) fun c_6 H96=>ceF E E E (c_6)<|nx<|cfs E E<|hJx 11 _ _ _ _ [] H96 E ⟨E,E,True.intro⟩ E)))) (fun Jx_1 hJx_1 H97=>csr<|mv E E<|iteK H97 (fun c_7 H98=>s_p E (yT (zJ E E) c_7)<|nx<|c_t E E<|csr<|gv E E<|nx<|zn<|zd<|zm Tryz.results14 (zf E zi) ⟨_,E,H98⟩) fun c_7 H98=>s_p E (yF (zJ E E) c_7)<|nx<|cfs E E<|hJx_1 () _ _ _ _ [] H98 E ⟨E,E,E,E,True.intro⟩ E)) (fun Jx_2 hJx_2 H99=>csr<|mv E E<|iteK H99 (fun c_8 H100=>s_p E (yT (zJ E E) c_8)<|nx<|c_t E E<|csr<|gv E E<|nx<|zn<|zd<|zm Tryz.results14 (zf E zi) ⟨_,E,H100⟩) fun c_8 H100=>s_p E (yF (zJ E E) c_8)<|nx<|cfs E E<|hJx_2 () _ _ _ _ [] H100 E ⟨E,E,E,True.intro⟩ E)) (fun Jx_3 hJx_3 H101=>csr<|qE E E H101 fun t_24 Sx_12 H102=>by have H103:=vP H102;rcases H103 with ⟨rfl,H104⟩ | ⟨rfl,H104⟩;exact (s_p E (yB (qo E) E)<|nx<|cfs E E<|hJx_3 () _ _ _ _ [] H104 E ⟨E,E,E,True.intro⟩ E);exact (s_p E (yB (qo E) E)<|nx<|c_t E E<|csr<|gv E E<|nx<|zn<|zd<|zm Tryz.results14 (zf E zi) ⟨_,E,H104⟩))
end Go.Proofs.YtabdpmnhjlmnlaaGreatDoor
end
section
namespace Go.Proofs.YtabdpmnhjlmnlaaGreatDoor
open Go Go.Pt
attribute [local irreducible] Code.wp Back bodyPost wpList FR WL WC WQ WA AW Tr Yc HC AllC
set_option maxRecDepth 20000
set_option maxHeartbeats 4000000
set_option linter.unusedVariables false
def ve (S:Mem) (a:Pt) (b:Pt) (Q:Bool→Mem→Prop):Prop:=
 jn (fun (Sx:Mem)=>
 jn (fun (Sx_1:Mem)=>
 nn a fun b_1 o=>
 gA (Sx_1.part b_1 (o+75) 96) fun t=>
 nn b fun b_2 o_1=>
 gA (Sx_1.part b_2 (o_1+75) 96) fun t_1=>
 fits ck72 t=true ∧
 fits ck72 t_1=true ∧
 if (eqL t t_1)=true then
 gA (Sx_1.part b_1 (o+172) 18) fun t_2=>
 gA (Sx_1.part b_2 (o_1+172) 18) fun t_3=>
 fits [.i .i64,.i .i64,.i .i64,.i .i64,.i .i64,.i .i64,.i .i64,.i .i64,.i .i64,.i .i64,.i .i64,.i .i64,.i .i64,.i .i64,.i .i64,.i .i64,.i .i64,.i .i64] t_2=true ∧
 fits [.i .i64,.i .i64,.i .i64,.i .i64,.i .i64,.i .i64,.i .i64,.i .i64,.i .i64,.i .i64,.i .i64,.i .i64,.i .i64,.i .i64,.i .i64,.i .i64,.i .i64,.i .i64] t_3=true ∧
 if (eqL t_2 t_3)=true then
 gP (Sx_1.cell b_1 (o+74)) fun t_4=>
 nn t_4 fun b_3 o_2=>
 gL (Sx_1.cell b_3 o_2) fun t_5=>
 gP (Sx_1.cell b_2 (o_1+74)) fun t_6=>
 nn t_6 fun b_4 o_3=>
 gL (Sx_1.cell b_4 o_3) fun t_7=>
 qj Sx_1 t_5 t_7 (.func (.func 114) #[] #[]) fun t_8 Sx_2=>
 Sx_2.cell b_2 (o_1+74)=some (.pointer (some ⟨b_4,o_3,none⟩)) ∧
 Sx_2.cell b_1 (o+74)=some (.pointer (some ⟨b_3,o_2,none⟩)) ∧
 Sx_2.part b_2 (o_1+172) 18=some t_3 ∧
 Sx_2.part b_1 (o+172) 18=some t_2 ∧
 Sx_2.part b_2 (o_1+75) 96=some t_1 ∧
 Sx_2.part b_1 (o+75) 96=some t ∧
 Q t_8 Sx_2
 else
 Q false Sx_1
 else
 Q false Sx_1) fun Jx=>
 lp (fun Xx (t_9:Int) (Sx_3:Mem)=>
 if t_9<6 then
 nn a fun b_5 o_4=>
 0≤t_9∧t_9<6 ∧
 gA (Sx_3.part b_5 (o_4+2+t_9.toNat*12) 12) fun t_10=>
 nn b fun b_6 o_5=>
 0≤t_9∧t_9<6 ∧
 gA (Sx_3.part b_6 (o_5+2+t_9.toNat*12) 12) fun t_11=>
 zan Sx_3 t_10 t_11 fun t_12 Sx_4=>
 if t_12=true then
 Xx (IntKind.i64.wrap (t_9+1)) Sx_4
 else
 Q false Sx_4
 else
 Jx Sx_3) 0 Sx) fun Jx_1=>
 if a=none then
 if a=none then
 Q (decide (b=none)) S
 else
 Q false S
 else
 if b=none then
 if a=none then
 Q (decide (b=none)) S
 else
 Q false S
 else
 Jx_1 S
theorem fV {S:Mem} {a:Pt} {b:Pt} {Q:Bool→Mem→Prop} (H:ve S a b Q):kX S a b Q:=by
 unfold ve at H
 exact Tr.intro Tryz.func54 E Tryz.ntmps54 E fun w0=>csr<|gv E E<|nx<|zo H (fun (J:Mem→Prop) (z:Unit) S=>J S) (fun z=>⟨73,[(0,eP a),(1,eP b)]⟩) (fun z=>[]) (fun _ Sx H1=>zo H1 (fun (J:Mem→Prop) (z:Unit) S=>J S) (fun z=>⟨73,[(0,eP a),(1,eP b)]⟩) (fun z=>[]) (fun _ Sx_1 H2=>zy<|zL (by kernel_rfl)<|aTP 0 E (by decide +kernel) E (zh E)<|by exact by obtain⟨b_1,o,rfl,H3⟩:=H2;exact aTP 1 E (by decide +kernel) E (zY E)<|by exact aTP 2 E (by decide +kernel) E (zF E E)<|by exact gx H3 fun t ht H4=>by refine aT 3 E (by decide +kernel) E (qa E (zr ht)) (yo ht) ?_;exact aTP 4 E (by decide +kernel) E (zh E)<|by exact by obtain⟨b_2,o_1,rfl,H5⟩:=H4;exact aTP 5 E (by decide +kernel) E (zY E)<|by exact aTP 6 E (by decide +kernel) E (zF E E)<|by exact gx H5 fun t_1 ht_1 H6=>by refine aT 7 E (by decide +kernel) E (qa E (zr ht_1)) (yo ht_1) ?_;exact an H6 fun c H7=>an H7 fun c_1 H8=>iteK H8 (fun c_2 H9=>aTP 8 E (by decide +kernel) E (yB (zdt E E c c_1) c_2)<|by exact aTP 9 E (by decide +kernel) E (zh E)<|by exact aTP 10 E (by decide +kernel) E (zh E)<|by exact aTP 11 E (by decide +kernel) E (zY E)<|by exact aTP 12 E (by decide +kernel) E (zF E E)<|by exact gx H9 fun t_2 ht_2 H10=>by refine aT 13 E (by decide +kernel) E (qa E (zr ht_2)) (yo ht_2) ?_;exact aTP 14 E (by decide +kernel) E (zh E)<|by exact aTP 15 E (by decide +kernel) E (zY E)<|by exact aTP 16 E (by decide +kernel) E (zF E E)<|by exact gx H10 fun t_3 ht_3 H11=>by refine aT 17 E (by decide +kernel) E (qa E (zr ht_3)) (yo ht_3) ?_;exact an H11 fun c_3 H12=>an H12 fun c_4 H13=>iteK H13 (fun c_5 H14=>aTP 18 E (by decide +kernel) E (yB (zdt E E c_3 c_4) c_5)<|by exact aTP 19 E (by decide +kernel) E (zt E E)<|by exact aTP 20 E (by decide +kernel) E (zh E)<|by exact aTP 21 E (by decide +kernel) E (zh E)<|by exact aTP 22 E (by decide +kernel) E (zY E)<|by exact aTP 23 E (by decide +kernel) E (zF E E)<|by exact gx H14 fun t_4 ht_4 H15=>aT 24 E (by decide +kernel) E (zE E) (zT ht_4)<|by exact by obtain⟨b_3,o_2,rfl,H16⟩:=H15;exact aTP 25 E (by decide +kernel) E (zY E)<|by exact aTP 26 E (by decide +kernel) E (zF E E)<|by exact gx H16 fun t_5 ht_5 H17=>aT 27 E (by decide +kernel) E (zE E) (zT ht_5)<|by exact aTP 28 E (by decide +kernel) E (zh E)<|by exact aTP 29 E (by decide +kernel) E (zY E)<|by exact aTP 30 E (by decide +kernel) E (zF E E)<|by exact gx H17 fun t_6 ht_6 H18=>aT 31 E (by decide +kernel) E (zE E) (zT ht_6)<|by exact by obtain⟨b_4,o_3,rfl,H19⟩:=H18;exact aTP 32 E (by decide +kernel) E (zY E)<|by exact aTP 33 E (by decide +kernel) E (zF E E)<|by exact gx H19 fun t_7 ht_7 H20=>aT 34 E (by decide +kernel) E (zE E) (zT ht_7)<|by exact zH 35 (by decide +kernel) E<|by exact qE E E H20 fun t_8 Sx_2 H21=>by obtain⟨k,H22⟩:=H21;exact by obtain⟨k_1,H23⟩:=H22;exact by obtain⟨k_2,H24⟩:=H23;exact by obtain⟨k_3,H25⟩:=H24;exact by obtain⟨k_4,H26⟩:=H25;exact by obtain⟨k_5,H27⟩:=H26;exact zq<|zK (zC (zT k) (zC (zT k_1) (zC (yo k_2) (zC (yo k_3) (zC (yo k_4) (zC (yo k_5) zx))))))<|aTP 36 E (by decide +kernel) E (zt E E)<|by exact aTP 37 E (by decide +kernel) E (zN E)<|by exact zB (by decide +kernel)<|by exact zk<|zn<|zm Tryz.results54 (zf E zi) ⟨_,E,H27⟩) fun c_5 H14=>aTP 18 E (by decide +kernel) E (yB (zdt E E c_3 c_4) (zaw c_5))<|by exact aTP 19 E (by decide +kernel) E (zt E E)<|by exact aTP 20 E (by decide +kernel) E (zh E)<|by exact ze 21 E (by decide +kernel) (za zc) E<|by exact ze 22 E (by decide +kernel) (za zc) E<|by exact ze 23 E (by decide +kernel) (za zc) E<|by exact ze 24 E (by decide +kernel) (za zc) E<|by exact ze 25 E (by decide +kernel) (za zc) E<|by exact ze 26 E (by decide +kernel) (za zc) E<|by exact ze 27 E (by decide +kernel) (za zc) E<|by exact ze 28 E (by decide +kernel) (za zc) E<|by exact ze 29 E (by decide +kernel) (za zc) E<|by exact ze 30 E (by decide +kernel) (za zc) E<|by exact ze 31 E (by decide +kernel) (za zc) E<|by exact ze 32 E (by decide +kernel) (za zc) E<|by exact ze 33 E (by decide +kernel) (za zc) E<|by exact ze 34 E (by decide +kernel) (za zc) E<|by exact ze 35 E (by decide +kernel) (za zc) E<|by exact aTP 36 E (by decide +kernel) E (zt E E)<|by exact aTP 37 E (by decide +kernel) E (zN E)<|by exact zB (by decide +kernel)<|by exact zk<|zn<|zm Tryz.results54 (zf E zi) ⟨_,E,H14⟩) fun c_2 H9=>aTP 8 E (by decide +kernel) E (yB (zdt E E c c_1) (zaw c_2))<|by exact aTP 9 E (by decide +kernel) E (zh E)<|by exact ze 10 E (by decide +kernel) (za zc) E<|by exact ze 11 E (by decide +kernel) (za zc) E<|by exact ze 12 E (by decide +kernel) (za zc) E<|by exact ze 13 E (by decide +kernel) (za zc) E<|by exact ze 14 E (by decide +kernel) (za zc) E<|by exact ze 15 E (by decide +kernel) (za zc) E<|by exact ze 16 E (by decide +kernel) (za zc) E<|by exact ze 17 E (by decide +kernel) (za zc) E<|by exact ze 18 E (by decide +kernel) (za zc) E<|by exact aTP 19 E (by decide +kernel) E (zt E E)<|by exact aTP 20 E (by decide +kernel) E (zh E)<|by exact ze 21 E (by decide +kernel) (za zc) E<|by exact ze 22 E (by decide +kernel) (za zc) E<|by exact ze 23 E (by decide +kernel) (za zc) E<|by exact ze 24 E (by decide +kernel) (za zc) E<|by exact ze 25 E (by decide +kernel) (za zc) E<|by exact ze 26 E (by decide +kernel) (za zc) E<|by exact ze 27 E (by decide +kernel) (za zc) E<|by exact ze 28 E (by decide +kernel) (za zc) E<|by exact ze 29 E (by decide +kernel) (za zc) E<|by exact ze 30 E (by decide +kernel) (za zc) E<|by exact ze 31 E (by decide +kernel) (za zc) E<|by exact ze 32 E (by decide +kernel) (za zc) E<|by exact ze 33 E (by decide +kernel) (za zc) E<|by exact ze 34 E (by decide +kernel) (za zc) E<|by exact ze 35 E (by decide +kernel) (za zc) E<|by exact aTP 36 E (by decide +kernel) E (zt E E)<|by exact aTP 37 E (by decide +kernel) E (zN E)<|by exact zB (by decide +kernel)<|by exact zk<|zn<|zm Tryz.results54 (zf E zi) ⟨_,E,H9⟩) (fun Jx hJx H28=>csr<|mv E E<|nx<|zu<|qg (fun z=>⟨73,[(0,eP a),(1,eP b),(18,.int .i64 z)]⟩) (fun z=>[]) 0 (idx:=[]) H28 E ⟨E,E,E,True.intro⟩ E<|fun Xx hXx t_9 Sx_3 H29=>csr<|iteK H29 (fun c_6 H30=>s_p E (yT (zD E E) c_6)<|nx<|zy<|c_t E E<|qe<|zk<|zy<|zu<|csr<|mv E E<|gv E E<|nx<|zy<|zL (by kernel_rfl)<|a_takeP 0 E (by decide +kernel) (za (zb (za (za (zb (za zc)))))) E (zh E)<|by exact a_takeP 1 E (by decide +kernel) (za (zb (za (za (zb (za zc)))))) E (zh E)<|by exact by obtain⟨b_5,o_4,rfl,H31⟩:=H30;exact a_takeP 2 E (by decide +kernel) (za (zb (za (za (zb (za zc)))))) E (zY E)<|by exact a_takeP 3 E (by decide +kernel) (za (zb (za (za (zb (za zc)))))) E (zF E E)<|by exact an2 H31 fun c_7 c_8 H32=>a_takeP 4 E (by decide +kernel) (za (zb (za (za (zb (za zc)))))) E (jl E E c_7 c_8 E)<|by exact gx H32 fun t_10 ht_10 H33=>by refine zG 5 E (by decide +kernel) (za (zb (za (za (zb (za zc)))))) E (qa E (zr ht_10)) (yo ht_10) ?_;exact a_takeP 6 E (by decide +kernel) (za (zb (za (za (zb (za zc)))))) E (zh E)<|by exact a_takeP 7 E (by decide +kernel) (za (zb (za (za (zb (za zc)))))) E (zh E)<|by exact by obtain⟨b_6,o_5,rfl,H34⟩:=H33;exact a_takeP 8 E (by decide +kernel) (za (zb (za (za (zb (za zc)))))) E (zY E)<|by exact a_takeP 9 E (by decide +kernel) (za (zb (za (za (zb (za zc)))))) E (zF E E)<|by exact an2 H34 fun c_9 c_10 H35=>a_takeP 10 E (by decide +kernel) (za (zb (za (za (zb (za zc)))))) E (jl E E c_9 c_10 E)<|by exact gx H35 fun t_11 ht_11 H36=>by refine zG 11 E (by decide +kernel) (za (zb (za (za (zb (za zc)))))) E (qa E (zr ht_11)) (yo ht_11) ?_;exact zH 12 (by decide +kernel) E<|by exact qE E E H36 fun t_12 Sx_4 H37=>by have H38:=vP H37;rcases H38 with ⟨rfl,H39⟩ | ⟨rfl,H39⟩;exact (zq<|zK zx<|a_takeP 13 E (by decide +kernel) (za (zb (za (za (zb (za zc)))))) E (yB (qo E) E)<|by exact zB (by decide +kernel)<|by exact zk<|cfs E E<|zS<|zk<|zs<|s_p E (zZ E E)<|mv E E<|zq<|hXx (IntKind.i64.wrap (t_9+1)) _ _ _ _ [] H39 E ⟨E,E,E,True.intro⟩ E);exact (zq<|zK zx<|a_takeP 13 E (by decide +kernel) (za (zb (za (za (zb (za zc)))))) E (yB (qo E) E)<|by exact zB (by decide +kernel)<|by exact zk<|c_t E E<|csr<|gv E E<|nx<|zn<|zj<|zd<|zd<|zj<|zd<|zm Tryz.results54 (zf E zi) ⟨_,E,H39⟩)) fun c_6 H30=>s_p E (yF (zD E E) c_6)<|nx<|zy<|c_f E E<|zV<|zg<|zg<|zA<|hJx () _ _ _ _ [] H30 E ⟨E,E,True.intro⟩ E)) (fun Jx_1 hJx_1 H40=>csr<|mv E E<|iteK H40 (fun c_11 H41=>s_p E (yT (qk (p:=a) E E) c_11)<|mv E E<|sk2 E E<|pk E E E<|nx<|c_t E E<|csr<|mv E E<|iteK H41 (fun c_12 H42=>s_p E (yT (qk (p:=a) E E) c_12)<|mv E E<|mv E E<|s_p E (qk (p:=b) E E)<|pk E E E<|gv E E<|nx<|zn<|zd<|zm Tryz.results54 (zf E zi) ⟨_,E,H42⟩) fun c_12 H42=>s_p E (yF (qk (p:=a) E E) c_12)<|mv E E<|sk2 E E<|pk E E E<|gv E E<|nx<|zn<|zd<|zm Tryz.results54 (zf E zi) ⟨_,E,H42⟩) fun c_11 H41=>s_p E (yF (qk (p:=a) E E) c_11)<|mv E E<|mv E E<|iteK H41 (fun c_13 H43=>s_p E (yT (qk (p:=b) E E) c_13)<|pk E E E<|nx<|c_t E E<|csr<|mv E E<|iteK H43 (fun c_14 H44=>s_p E (yT (qk (p:=a) E E) c_14)<|mv E E<|mv E E<|s_p E (qk (p:=b) E E)<|pk E E E<|gv E E<|nx<|zn<|zd<|zm Tryz.results54 (zf E zi) ⟨_,E,H44⟩) fun c_14 H44=>s_p E (yF (qk (p:=a) E E) c_14)<|mv E E<|sk2 E E<|pk E E E<|gv E E<|nx<|zn<|zd<|zm Tryz.results54 (zf E zi) ⟨_,E,H44⟩) fun c_13 H43=>s_p E (yF (qk (p:=b) E E) c_13)<|pk E E E<|nx<|cfs E E<|hJx_1 () _ _ _ _ [] H43 E ⟨E,E,True.intro⟩ E)
end Go.Proofs.YtabdpmnhjlmnlaaGreatDoor
end
section
namespace Go.Proofs.YtabdpmnhjlmnlaaGreatDoor
open Go Go.Pt Go.Cr Go.Hp
theorem zfM {form w:Int} {f:Nat} {b:Bool} (h:unp form w=some (f,b)):pk form f b=w:=by
 unfold unp at h
 by_cases h0:w=0
 ·rw[if_pos h0] at h;cases h
 ·rw[if_neg h0] at h
  have key:∀ (x:Nat) (y:Bool),(if pk form x y=w then some (x,y) else none)=some (f,b)→pk form f b=w:=fun x y h=>by
   by_cases e:pk form x y=w
   ·rw[if_pos e] at h;cases h;exact e
   ·rw[if_neg e] at h;cases h
  exact key _ _ h
section
variable {S S' S0 S1:Mem} {ρ ρ' ρ0:Rho} {R:Nat→Prop} {h:Nat} {A:Ad} {C:Cst} {W:Wd} {φ:Nat→Nat→Nat}
def w8:Wd:=((W0 60).create 1 8 8 []).2.2
theorem zbl {Q:Bool→Mem→Prop} (hQ:Q true S):kX S none none Q:=by
 apply fV
 unfold ve
 refine qO (fun _=>True) trivial fun _ _=>?_
 rw[if_pos rfl,if_pos rfl]
 simpa using hQ
theorem gy (hgl:Gl S) {form a b:Int} (hf:0≤form∧form≤255) (ha:0≤a∧a≤255) (hb:0≤b∧b≤255):qb S form a b fun r S'=>r=true∧Keeps S S' []:=by
 unfold qb
 have ef:∃ fo:Int,IntKind.i64.wrap (1+(IntKind.i64.wrap (Int.tmod form 2)))=fo∧(fo=1∨fo=2):=by
  have:Int.tmod form 2=form%2:=Int.tmod_eq_emod_of_nonneg hf.1
  refine⟨_,rfl,?_⟩
  rw[this,w64 (x:=form%2) (by omega) (by omega),w64 (by omega) (by omega)]
  omega
 obtain⟨fo,ef,hfo⟩:=ef
 obtain⟨p,ep,hp⟩:∃ p:Nat,IntKind.i64.wrap (Int.tmod a 8)=(p:Int)∧p<8:=by
  have:Int.tmod a 8=a%8:=Int.tmod_eq_emod_of_nonneg ha.1
  refine⟨(a%8).toNat,?_,by omega⟩
  rw[this,w64 (by omega) (by omega)];omega
 obtain⟨q,eq,hq⟩:∃ q:Nat,IntKind.i64.wrap (Int.tmod b 8)=(q:Int)∧q<8:=by
  have:Int.tmod b 8=b%8:=Int.tmod_eq_emod_of_nonneg hb.1
  refine⟨(b%8).toNat,?_,by omega⟩
  rw[this,w64 (by omega) (by omega)];omega
 rw[ef,ep,eq]
 refine qO (fun J=>∀ S1,Keeps S S1 []→J S1) (fun S1 hk1=>?_) fun J hJ=>?_
 ·have hgl1:Gl S1:=by
   obtain⟨t,k,hl⟩:=hgl
   refine⟨t,k,?_⟩
   rw[hk1 0 (by rw[hl];simp) (by simp)];exact hl
  refine zfp hgl1 (fun h=>absurd h (by unfold badNew;omega)) fun _ S2 h l2=>?_
  refine qO (fun J=>J S2) ?_ fun J hJ=>by rw[if_neg (fun e=>e rfl)];exact hJ
  refine zbB (xs:=[]) l2 ⟨Keeps.refl,Row.nil,fun x hx=>(by cases hx),fun b o e=>(by cases e)⟩ (by decide) fun S3 l3=>?_
  have l3:Lv S1 rho0 h S3 w8:=l3
  rw[show ((W0 (64-4)).create 1 8 8 []).1=0 from rfl,show ((W0 (64-4)).create 1 8 8 []).2.1=0 from rfl]
  refine qO (fun J=>J S3) ?_ fun J hJ=>by rw[if_neg (fun e=>e rfl)];exact hJ
  have hk3:=hk1.trans l3.keeps
  obtain⟨ρ,A,C,φ,m3,hc,hr⟩:=l3
  have hNl:Nl C w8 φ:=⟨hr,fun _=>rfl⟩
  have hon:(w8.vm 0).on=true:=rfl
  have hN:=hc.st.lim
  have own:∀ i,i<8→w8.own 0 i=some (pageB [] i):=fun i hi=>by
   show (if (i:Int)<8 then some (pageB [] i) else none)=_
   rw[if_pos (by omega)]
  have wk:∀ i,i<8→C.walk 0 (i:Nat)=some (φ 0 i,true):=fun i hi=>by
   rw[hr.walk hon (by omega),hNl.where0,own i hi,if_pos (show (some (pageB [] i)).isSome=true from rfl)];rfl
  have pgk:∀ i,i<8→φ 0 i<C.N∧C.own (φ 0 i)=⟨3,0,i,0⟩:=fun i hi=>by
   have h1:=hr.pg 0 i _ (own i hi)
   rw[lent0 hNl.ls] at h1
   exact⟨h1.1,h1.2.1⟩
  have g:=hr.gt hon
  have fr0:=(hc.vs 0 (by decide)).fr.row
  rw[yv,yt hc.c3,yv]
  refine⟨by decide,by decide,?_⟩
  rw[gf (hc.vtab (n:=0) (by decide) (by decide))]
  refine⟨by unfold tbL eL;rfl,?_⟩
  rw[yt hc.c0]
  have hfp:=pgk p hp
  have hfq:=pgk q hq
  have e1:walkC C.dat C.N (C.tf 0) (C.fr 0) p=some (φ 0 p,true):=wk p hp
  have e2:walkC C.dat C.N (C.tf 0) (C.fr 0) q=some (φ 0 q,true):=wk q hq
  refine walkD hc.st fr0 (fun f w S4 hw hk4=>?_) fun e S4 hw=>by rw[e1] at hw;cases hw
  rw[e1] at hw
  simp only[Option.some.injEq,Prod.mk.injEq] at hw
  obtain⟨rfl,rfl⟩:=hw
  have hc4:=hc.keeps hk4
  refine⟨rfl,?_⟩
  rw[yt hc4.c0]
  refine walkD hc4.st (rowK fr0 hk4) (fun f w S5 hw hk5=>?_) fun e S5 hw=>by rw[e2] at hw;cases hw
  rw[e2] at hw
  simp only[Option.some.injEq,Prod.mk.injEq] at hw
  obtain⟨rfl,rfl⟩:=hw
  have hk45:=hk4.trans hk5
  have hc5:=hc.keeps hk45
  refine⟨rfl,?_⟩
  rw[yt hc5.c0,qW (show nthL (enL (φ 0 q) true) 1=some (.int .i64 (φ 0 q:Nat)) from rfl)]
  refine mapD hc5.st hc5.rg (rowK fr0 hk45) hfq.1 fun _ S6 m6 hs6=>?_
  have hc6:=hc5.setStore m6 hs6
  have w1:W64 (pk (C.tf 0) (φ 0 q) true):=(zey (by omega)).1
  have w2:W64 (pk (C.tf 0) (φ 0 p) true):=(zey (by omega)).1
  have g1:=g.set (p:=p) (by omega) w1
  have g2:=g1.1.set (p:=q) (by omega) w2
  rw[yt hc6.c0,qW (show nthL (enL (φ 0 p) true) 1=some (.int .i64 (φ 0 p:Nat)) from rfl)]
  refine mapD hc6.st hc6.rg (hc6.vs 0 (by decide)).fr.row hfp.1 fun _ S7 m7 hs7=>?_
  have hk7:Keeps S1 S7 []:=zaj (((m3.then hk45).trans (m6.mono fun r e=>by show r<110;omega)).trans (m7.mono (R':=Rc) fun r e=>by show r<110;omega))
  obtain⟨d,hd⟩:∃ d,d=setC (setC C.dat C.N (C.tf 0) (C.fr 0) p (pk (C.tf 0) (φ 0 q) true)) C.N (C.tf 0) (C.fr 0) q (pk (C.tf 0) (φ 0 p) true):=⟨_,rfl⟩
  have hc7:CrabA S7 ρ h A { C with dat:=d }:=by subst hd;exact hc6.setStore m7 hs7
  rw[←hd] at g2
  refine qO (fun J=>J (if p=q then 0 else 11) S7) ?_ fun J hJ=>?_
  ·rw[yt hc7.c0,yt hc7.c1,wK hc7.c4,yt hc7.c3]
   by_cases hpq:p=q
   ·subst hpq
    have ed:d=C.dat:=by
     have hld:=zfM (by rw[g.walk (by omega)] at e1;exact e1)
     have hbt:=(hr.len _ (g.lt (p/8+1) (by omega))).2
     rw[hd,g.same (by omega) hbt hld.symm,g.same (by omega) hbt hld.symm]
    rw[ed] at hc7
    rw[if_pos rfl]
    refine zbC hc7 hNl fun S8 hk8=>?_
    dsimp only
    rw[if_pos rfl]
    refine zbl ?_
    exact⟨rfl,hk1.trans (hk7.trans hk8)⟩
   ·rw[if_neg hpq]
    refine zav hc7 (n:=3) (e:=11) (by decide) (fun i hi S8 hk8 K hK=>?_) (fun _ S8 hk8 K hK=>?_) (fun _=>by decide) fun S8 hk8=>?_
    ·have hc8:=hc7.keeps hk8
     match i,hi with
     | 0,_=>exact ji hc8 hc8.pl (fun _=>hK _ Keeps.refl) fun h=>absurd hNl.frames h
     | 1,_=>exact zae hc8 hc8.gs (fun f hf=>(hr.hyp.2 f).1 hf) (hNl.rlen hN) (by rw[if_pos hr.cHyp];exact hK _ Keeps.refl)
     | 2,_=>exact jh hc8 ⟨hr.tb.on,hr.tb.off,hr.tb.row⟩ (hK _ Keeps.refl)
    ·have hbad:∃ f,f<C.N∧(C.own f).kind=3∧Cst.walk { C with dat:=d } (C.own f).vm.toNat (C.own f).page≠some (f,true):=by
      refine⟨φ 0 p,hfp.1,by rw[hfp.2],?_⟩
      rw[hfp.2]
      have e3:=g2.2 p (by omega)
      rw[if_neg hpq,g1.2 p (by omega),if_pos rfl,zcy (by omega)] at e3
      show walkC d C.N (C.tf 0) (C.fr 0) (p:Int)≠_
      rw[e3]
      intro e
      simp only[Option.some.injEq,Prod.mk.injEq,and_true] at e
      have:=hfp.2
      rw[←e,hfq.2] at this
      simp only[Ow.mk.injEq] at this
      omega
     exact jV (hc7.keeps hk8) hNl.there hNl.cls (fun _ S9 hk9=>hK S9 hk9) (fun hall=>absurd hall fun hall=>by obtain⟨f,h1,h2,h3⟩:=hbad;exact h3 (hall f h1 h2)) fun hall=>absurd hall fun hall=>by obtain⟨f,h1,h2,h3⟩:=hbad;exact h3 (hall f h1 h2)
    ·dsimp only
     rw[if_pos (by decide)]
     refine zbl ?_
     exact⟨rfl,hk1.trans (hk7.trans hk8)⟩
  ·by_cases hpq:p=q
   ·rw[if_pos (by omega)];rw[if_pos hpq] at hJ;exact hJ
   ·rw[if_neg (by omega)];rw[if_neg hpq] at hJ;exact hJ
 ·refine awake21 hgl fun S1 hk1=>?_
  rw[if_pos rfl]
  exact hJ S1 hk1
end
end Go.Proofs.YtabdpmnhjlmnlaaGreatDoor
end
section
namespace Go.Pt
open Go Go.RowKit Go.ChangeShapes
def memOf (W:World):Mem:=fun b=>match W.heap[b]? with
 | some (.cells c t fr)=>some ⟨t,c.toList,fr⟩
 | _=>none
theorem zbt (W:World):St W (memOf W) (memOf W) [] W:=by
 refine⟨rfl,rfl,rfl,Nat.le_refl _,fun _ _ _=>rfl,fun b k h=>?_,by simp,by simp,fun b h1 h2=>(h2 h1).elim,fun _ h=>h⟩
 unfold memOf at h
 split at h
 ·rename_i c t fr hh
  cases h
  simpa using hh
 ·cases h
theorem zbd {P:Program} {f:FuncId} {args:List Value} {W:World} {u:Value} (h:Tr P f (memOf W) args (fun v S'=>v=u∧Keeps (memOf W) S' [])) :
  Calls P f args.toArray W fun e W'=>e=.returned u∧Below W.heap.size W W':=by
 refine (h W (zbt W)).mono ?_
 rintro e W' ⟨v,S',rfl,⟨rfl,hk⟩,hS⟩
 refine⟨rfl,hS.os,hS.tape,hS.output,hS.size,fun k hlt=>?_⟩
 cases hm:memOf W k with
 | none=>exact hS.frame k hlt hm
 | some q=>
  have e1:=hS.mem k q (hk.get hm (by simp))
  have e2:=(zbt W).mem k q hm
  rw[e1,e2]
def BytesIn (S:Mem) (l:Sl):Prop:=∀ i:Nat,i<l.n→∃ b o z,l.p=some (b,o)∧S.cell b (o+i)=some (.int .u8 z)∧0≤z∧z≤255
theorem BytesIn.keep {S S':Mem} {l:Sl} (h:BytesIn S l) (hk:Keeps S S' []):BytesIn S' l:=fun i hi=>by
 obtain⟨b,o,z,h1,h2,h3⟩:=h i hi
 obtain⟨k,h4,h5⟩:=zbD h2
 exact⟨b,o,z,h1,by rw[qB (hk.get h4 (by simp))];exact h5,h3⟩
end Go.Pt
end
section
namespace Go.Pt
open Go Go.RowKit Go.ChangeShapes
def NumsIn (S:Mem) (l:Sl):Prop:=∀ i:Nat,i<l.n→∃ b o z,l.p=some (b,o)∧S.cell b (o+i)=some (.int .u64 z)∧0≤z∧z≤18446744073709551615
theorem NumsIn.keep {S S':Mem} {l:Sl} (h:NumsIn S l) (hk:Keeps S S' []):NumsIn S' l:=fun i hi=>by
 obtain⟨b,o,z,h1,h2,h3⟩:=h i hi
 obtain⟨k,h4,h5⟩:=zbD h2
 exact⟨b,o,z,h1,by rw[qB (hk.get h4 (by simp))];exact h5,h3⟩
end Go.Pt
end
section
namespace Go.Pt
open Go Go.RowKit Go.ChangeShapes Go.WideShapes Go.ChangeAt Go.Lib
theorem zaV {H:Type} {enc:TypeId×Value→H} {a:Assume} {C:Checked} {os:Os} {f:FuncId} {fn:Func} {s:ChangeSpec} {conds:List PathCond} {apart fresh handsOn again:Bool} {X:World→Array Value→Prop}
  (hX:∀ (w w':World) (args:Array Value),w.heap=w'.heap→X w args→X w' args) (own:ownKnob C.prog.godebug=none) (started:os.Started) (noInit:C.prog.inits.idxOf? f=none) (hfn:C.prog.funcs[f]? = some fn)
  (witness:∃ (w:World) (tape:Tape) (i:Input),w.os=os∧(w.forCall tape i).Shaped C.prog∧i.vars=[]∧Input.okWide C.prog (w.forCall tape i) .any w.heap.size f i ∧
   ((s.pre enc C.prog fn conds apart (w.forCall tape i).memory i.args∧X (w.forCall tape i).memory i.args)∧sizedMet enc C.prog fn (OpenSpec.ofChange s) apart (w.forCall tape i).memory i.args)∧a.holds C.prog (lone (Frame.enter C.prog f i.args .normal) [] (w.forCall tape i)))
  (law:∀ (W:World) (base:Nat) (args:Array Value) (ds gs:List (DataW H)) (before:List MemPlace),(∀ (j:Nat) t v,fn.params[j]? = some t→args[j]? = some v→Value.okWide C.prog W .any base t v) →
   DataW.Whole enc C.prog fn.params.toList s.vars apart W args.toList ds gs before→X W args→W.ShapedOpen C.prog →
   Calls C.prog f args W fun e W'=>∃ v,e=.returned v∧s.post enc C.prog fn apart fresh handsOn again W args v W') :
  ReturnsInHanded a C os f .any (fun w args=>(s.pre enc C.prog fn conds apart w args∧X w args)∧sizedMet enc C.prog fn (OpenSpec.ofChange s) apart w args) (s.post enc C.prog fn apart fresh handsOn again):=
 returnsInHanded_of_calls own started noInit witness fun w tape i _ hsh _ hok hpre _=>by
  obtain⟨_,_,_,g,hg,_,_,_,_,hval⟩:=hok
  obtain rfl:g=fn:=Option.some.inj (hg.symm.trans hfn)
  obtain⟨⟨⟨ds,gs,before,hw,_⟩,hx⟩,_⟩:=hpre
  refine (law (w.forCall tape i) w.heap.size i.args ds gs before hval (DataW.Whole.of_heap (w':=w.forCall tape i) (by rfl) hw) (hX _ _ _ (by rfl) hx) hsh).mono fun e W' h=>?_
  obtain⟨v,rfl,hp⟩:=h
  exact ChangeSpec.post_blind hp
theorem yC {a b:Bool} (h:a=true) (k:b=true):(a && b)=true:=by rw[h,k];rfl
end Go.Pt
namespace Go.Proofs.YtabdpmnhjlmnlaaGreatDoor
open Go Go.Pt Go.RowKit Go.Lib Go.Cr Go.ChangeShapes Go.WideShapes
set_option maxRecDepth 10000
theorem zdT {W:World} {P:Program} {n:String} {g:Nat} {cs:Array Value} (hg:P.globalNamed n=some g) (h:W.var? P n=some cs):∃ t fr,memOf W g=some ⟨t,cs.toList,fr⟩:=by
 unfold World.var? at h
 rw[hg] at h
 simp only[Option.bind_some] at h
 split at h
 ·rename_i c t fr hh
  cases h
  exact⟨t,fr,by unfold memOf;rw[hh]⟩
 ·cases h
theorem gl_of_laid {W:World} (h:laidMetH Tryz.prog Rows.crabBeginsRow.laid W):Gl (memOf W):=by
 rw[MakeChecks.laidMetH_plain _ _ _ (by kernel_rfl)] at h
 have hp : VarReads Tryz.prog W "math/bits.deBruijn64tab" Rows.laid_math_bits_deBruijn64tab := laidMet.reads h (by simp [Rows.crabBeginsRow])
 obtain⟨g,t,cs,fuel,p,hg,ht,hv,hd⟩:=hp
 obtain rfl := Option.some.inj ((show Tryz.prog.globalNamed "math/bits.deBruijn64tab" = some 0 by kernel_rfl).symm.trans hg)
 obtain rfl:=Option.some.inj ((show (Tryz.prog.globals[0]?).map (·.type)=some 337 by kernel_rfl).symm.trans ht)
 obtain⟨t',fr,hm⟩:=zdT hg hv
 have e:(Rows.laid_math_bits_deBruijn64tab:DataW Unit)=tabData .u8 (deBruijn64tab.map fun (n:Nat)=>(n:Int)):=by kernel_rfl
 rw[e] at hd
 have hcs:=cells_of_tab Tryz.underlying337 Tryz.underlying5 (by kernel_rfl) (by kernel_rfl) hd
 rw[hcs,List.map_map] at hm
 exact⟨t',fr,hm⟩
end Go.Proofs.YtabdpmnhjlmnlaaGreatDoor
end
