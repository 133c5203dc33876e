/- Texts of this work,joined by program (pack.py). -/
import Derived.Test.YthaiblbnpcgjpaaGreatDoorQAC
import Derived.Test.YthaiblbnpcgjpaaGreatDoorQAD
import Derived.Test.YthaiblbnpcgjpaaGreatDoorQAL
import Derived.Test.YthaiblbnpcgjpaaGreatDoorQAM
set_option linter.unusedVariables false
namespace Go.Proofs.YthaiblbnpcgjpaaGreatDoor
section
open Go Go.Pt Go.Proofs.Tryz
attribute [local irreducible] lt WD WN Code.wp Back bodyPost wpList FR WL WC WQ WA AW Tr Yc HC AllC
set_option maxRecDepth 20000
set_option maxHeartbeats 4000000
def wF (S:Mem) (h:Pt) (seats:Int) (quota:Int) (pages:Int) (image:Sl) (Q:Int→Int→Mem→Prop):Prop:=
 zav S seats quota fun t t_1 Sx=>
 t.all (·.oneCell')=true ∧
 jn (fun (Sx_1:Mem)=>
 jn (fun (n:Int) (Sx_2:Mem)=>
 jn (fun (Sx_3:Mem)=>
 nn h fun b_1 o=>
 gP (Sx_3.cell b_1 (o+1)) fun t_2=>
 xA Sx_3 t_2 (IntKind.i64.wrap (5+pages)) fun t_3 t_4 Sx_4=>
 jn (fun (Sx_5:Mem)=>
 jn (fun (Sx_6:Mem)=>
 gP (Sx_6.cell b_1 o) fun t_5=>
 gP (Sx_6.cell b_1 (o+3)) fun t_6=>
 nn t_6 fun b_2 o_1=>
 gI (Sx_6.cell b_2 o_1) .i64 fun t_7=>
 (0:Int)≤5∧5≤(t_3.c:Int) ∧
 lt (slc 1 t_3 0 5) fun t_8=>
 zan Sx_6 t_5 t_7 t_8 fun t_9 t_10 Sx_7=>
 Sx_7.cell b_1 (o+3)=some (.pointer (some ⟨b_2,o_1,none⟩)) ∧
 t_9.all (·.oneCell')=true ∧
 gP (Sx_7.cell b_1 (o+3)) fun t_11=>
 nn t_11 fun b_3 o_2=>
 gI (Sx_7.cell b_3 (o_2+1)) .u64 fun t_12=>
 gP (Sx_7.cell b_1 (o+3)) fun t_13=>
 nn t_13 fun b_4 o_3=>
 0≤n∧n<6 ∧
 (spl (spl t 2 t_9) 5 ([.int .u64 t_12])).all (·.oneCell')=true ∧
 pt Sx_7 b_4 (o_3+2+n.toNat*12) 12 (spl (spl t 2 t_9) 5 ([.int .u64 t_12])) fun Sx_8=>
 0≤n∧n<6 ∧
 pt Sx_8 b_1 (o+5+n.toNat*1) 1 ([.slice (none) 0 0]) fun Sx_9=>
 jn (fun (Sx_10:Mem)=>
 Q n 0 Sx_10) fun Jx=>
 (0:Int)≤5∧(5:Int)≤(t_3.n:Int)∧(t_3.n:Int)≤(t_3.c:Int) ∧
 lt (slc 1 t_3 5 (t_3.n:Int)) fun t_14=>
 lp (fun Xx (t_15:Int) (Sx_11:Mem)=>
 if t_15<(t_14.n:Int) then
 sl t_14 fun b_5 o_4 n_1 n_2=>
 0≤t_15∧t_15<((n_1:Nat):Int) ∧
 gI (Sx_11.cell b_5 (o_4+t_15.toNat*1)) .i64 fun t_16=>
 crab_Crab_own Sx_11 (some (b_1,o)) n t_15 t_16 fun Sx_12=>
 if IntKind.i64.wrap (256*t_15)<(image.n:Int) then
 gP (Sx_12.cell b_1 o) fun t_17=>
 (0:Int)≤IntKind.i64.wrap (256*t_15)∧(IntKind.i64.wrap (256*t_15):Int)≤(if (image.n:Int)<IntKind.i64.wrap ((IntKind.i64.wrap (256*t_15))+256) then (image.n:Int) else IntKind.i64.wrap ((IntKind.i64.wrap (256*t_15))+256))∧(if (image.n:Int)<IntKind.i64.wrap ((IntKind.i64.wrap (256*t_15))+256) then (image.n:Int) else IntKind.i64.wrap ((IntKind.i64.wrap (256*t_15))+256))≤(image.c:Int) ∧
 lt (slc 1 image (IntKind.i64.wrap (256*t_15)) (if (image.n:Int)<IntKind.i64.wrap ((IntKind.i64.wrap (256*t_15))+256) then (image.n:Int) else IntKind.i64.wrap ((IntKind.i64.wrap (256*t_15))+256))) fun t_18=>
 qg Sx_12 t_17 t_16 0 t_18 fun t_19 Sx_13=>
 Xx (IntKind.i64.wrap (t_15+1)) Sx_13
 else
 Xx (IntKind.i64.wrap (t_15+1)) Sx_12
 else
 Jx Sx_11) 0 Sx_9) fun Jx_1=>
 (0:Int)≤5∧5≤(t_3.c:Int) ∧
 lt (slc 1 t_3 0 5) fun t_20=>
 lp (fun Xx_1 (t_21:Int) (Sx_14:Mem)=>
 if t_21<(t_20.n:Int) then
 sl t_20 fun b_6 o_5 n_3 n_4=>
 0≤t_21∧t_21<((n_3:Nat):Int) ∧
 gI (Sx_14.cell b_6 (o_5+t_21.toNat*1)) .i64 fun t_22=>
 gP (Sx_14.cell b_1 (o+3)) fun t_23=>
 nn t_23 fun b_7 o_6=>
 gP (Sx_14.cell b_7 (o_6+74)) fun t_24=>
 yg Sx_14 t_24 t_22 n fun t_25 Sx_15=>
 Xx_1 (IntKind.i64.wrap (t_21+1)) Sx_15
 else
 Jx_1 Sx_14) 0 Sx_5) fun Jx_2=>
 if t_4≠0 then
 Q 0 t_4 Sx_4
 else
 Jx_2 Sx_4) fun Jx_3=>
 if n=6 then
 Q 0 2 Sx_2
 else
 Jx_3 Sx_2) fun Jx_4=>
 lp (fun Xx_2 (n_5:Int) (Sx_16:Mem)=>
 if n_5<6 then
 nn h fun b_8 o_7=>
 gP (Sx_16.cell b_8 (o_7+3)) fun t_26=>
 nn t_26 fun b_9 o_8=>
 0≤n_5∧n_5<6 ∧
 gB (Sx_16.cell b_9 (o_8+2+n_5.toNat*12)) fun t_27=>
 if t_27=true then
 Xx_2 (IntKind.i64.wrap (n_5+1)) Sx_16
 else
 Jx_4 n_5 Sx_16
 else
 Jx_4 n_5 Sx_16) 0 Sx_1) fun Jx_5=>
 if h=none then
 Q 0 2 Sx
 else
 if t_1≠0 then
 Q 0 t_1 Sx
 else
 if pages<1 then
 Q 0 1 Sx
 else
 if quota<pages then
 Q 0 1 Sx
 else
 if IntKind.i64.wrap (256*pages)<(image.n:Int) then
 Q 0 6 Sx
 else
 Jx_5 Sx
theorem zbZ {S:Mem} {h:Pt} {seats:Int} {quota:Int} {pages:Int} {image:Sl} {Q:Int→Int→Mem→Prop} (H:wF S h seats quota pages image Q):yD S h seats quota pages image Q:=by
 unfold wF at H
 exact Tr.intro func27 E ntmps27 E fun w0=>csr<|gv E E<|gv E E<|nxr<|mv E E<|mv E E<|qz E E H fun rv Sx H1=>by obtain⟨t,t_1,rfl,ht,H2⟩:=H1;exact mv E E<|s_p E (zk E E)<|s_p E (zk E E)<|by refine zX E fun b=>?_;exact an H2 fun c H3=>zn 0 E E E E E ht E c<|gv E E<|nx<|zy H3 (fun (J:Mem→Prop) (z:Unit) S=>J S) (fun z=>⟨172,[(0,eP h),(3,.int .i64 pages),(4,eL image),(12,.pointer (some ⟨b,0,none⟩))]⟩) (fun z=>[⟨b,47,t⟩]) (fun _ Sx_1 H4=>csr<|gv E E<|nx<|zy H4 (fun (J:Int→Mem→Prop) (z:Int) S=>J z S) (fun z=>⟨172,[(0,eP h),(3,.int .i64 pages),(4,eL image),(12,.pointer (some ⟨b,0,none⟩)),(14,.int .i64 z)]⟩) (fun z=>[⟨b,47,t⟩]) (fun n Sx_2 H5=>zy H5 (fun (J:Mem→Prop) (z:Unit) S=>J S) (fun z=>⟨172,[(0,eP h),(3,.int .i64 pages),(4,eL image),(12,.pointer (some ⟨b,0,none⟩)),(14,.int .i64 n)]⟩) (fun z=>[⟨b,47,t⟩]) (fun _ Sx_3 H6=>csr<|mv E E<|by obtain⟨b_1,o,rfl,H7⟩:=H6;exact s_p E (qx E)<|s_p E (zA E E)<|gx H7 fun t_2 ht_2 H8=>s_v E (zG E) (qh ht_2)<|mv E E<|s_p E (qZ E E)<|ziz E E H8 fun t_3 t_4 Sx_4 H9=>mv E E<|s_p E (zk E E)<|s_p E (zk E E)<|gv E E<|gv E E<|nx<|zy H9 (fun (J:Mem→Prop) (z:Unit) S=>J S) (fun z=>⟨172,[(0,.pointer (some ⟨b_1,o,none⟩)),(4,eL image),(12,.pointer (some ⟨b,0,none⟩)),(14,.int .i64 n),(15,eL t_3)]⟩) (fun z=>[⟨b,47,t⟩]) (fun _ Sx_5 H10=>zy H10 (fun (J:Mem→Prop) (z:Unit) S=>J S) (fun z=>⟨172,[(0,.pointer (some ⟨b_1,o,none⟩)),(4,eL image),(12,.pointer (some ⟨b,0,none⟩)),(14,.int .i64 n),(15,eL t_3)]⟩) (fun z=>[⟨b,47,t⟩]) (fun _ Sx_6 H11=>qb<|qa (by kernel_rfl)<|aTP 0 E (by decide +kernel) E (zp E)<|by exact aTP 1 E (by decide +kernel) E (qx E)<|by exact aTP 2 E (by decide +kernel) E (zA E E)<|by exact gx H11 fun t_5 ht_5 H12=>aT 3 E (by decide +kernel) E (zG E) (qh ht_5)<|by exact aTP 4 E (by decide +kernel) E (zp E)<|by exact aTP 5 E (by decide +kernel) E (qx E)<|by exact aTP 6 E (by decide +kernel) E (zA E E)<|by exact gx H12 fun t_6 ht_6 H13=>aT 7 E (by decide +kernel) E (zG E) (qh ht_6)<|by exact by obtain⟨b_2,o_1,rfl,H14⟩:=H13;exact aTP 8 E (by decide +kernel) E (qx E)<|by exact aTP 9 E (by decide +kernel) E (zA E E)<|by exact gx H14 fun t_7 ht_7 H15=>aT 10 E (by decide +kernel) E (zG E) (qh ht_7)<|by exact aTP 11 E (by decide +kernel) E (zp E)<|by exact an2 H15 fun c_2 c_3 H16=>by obtain⟨t_8,et_8,H17⟩:=zmG H16;exact aTP 12 E (by decide +kernel) E (eqv (zft (a:=0) (b:=5) E E E (by decide) c_2 c_3) (congrArg eL et_8))<|by exact zw 13 (by decide +kernel) E<|by exact qz E E H17 fun rv Sx_7 H18=>by obtain⟨t_9,t_10,rfl,ht_9,H19⟩:=H18;exact by obtain⟨k,H20⟩:=H19;exact zr<|zH (zj (qh k) zq)<|aTP 14 E (by decide +kernel) E (zp E)<|by exact aTP 15 E (by decide +kernel) E (zk E E)<|by exact aTP 16 E (by decide +kernel) E (zk E E)<|by exact aTP 17 E (by decide +kernel) E (zA E E)<|by exact zw 18 (by decide +kernel) E<|by exact an H20 fun c_4 H21=>wX (sz:=2) (vs:=t_9) 0 E E E E E ht_9 (wR ht (by omega)) c_4<|zr<|zH zq<|zW (by decide +kernel)<|by exact zB<|csr<|mv E E<|s_p E (qx E)<|s_p E (zA E E)<|gx H21 fun t_11 ht_11 H22=>s_v E (zG E) (qh ht_11)<|by obtain⟨b_3,o_2,rfl,H23⟩:=H22;exact s_p E (qx E)<|s_p E (zA E E)<|gx H23 fun t_12 ht_12 H24=>s_v E (zG E) (qh ht_12)<|s_p E (zA E E)<|wX (sz:=1) (vs:=[.int .u64 t_12]) 0 E E E E E E (wR (qn ht (by have:=ht_9;(try simp only[List.length_cons,List.length_nil]);omega)) (by omega)) E<|nx<|qb<|qa (by kernel_rfl)<|aTP 0 E (by decide +kernel) E (zp E)<|by exact aTP 1 E (by decide +kernel) E (qx E)<|by exact aTP 2 E (by decide +kernel) E (zA E E)<|by exact gx H24 fun t_13 ht_13 H25=>aT 3 E (by decide +kernel) E (zG E) (qh ht_13)<|by exact aTP 4 E (by decide +kernel) E (zp E)<|by exact aTP 5 E (by decide +kernel) E (zp E)<|by exact aTP 6 E (by decide +kernel) E (zp E)<|by exact by refine aT 7 E (by decide +kernel) E (qk E (qn (qn ht (by have:=ht_9;(try simp only[List.length_cons,List.length_nil]);omega)) (by have:=True.intro;(try simp only[List.length_cons,List.length_nil]);omega))) (zD (k:=12) 0 E (ze (qn (qn ht (by have:=ht_9;(try simp only[List.length_cons,List.length_nil]);omega)) (by have:=True.intro;(try simp only[List.length_cons,List.length_nil]);omega)))) ?_;exact by obtain⟨b_4,o_3,rfl,H26⟩:=H25;exact aTP 8 E (by decide +kernel) E (qx E)<|by exact aTP 9 E (by decide +kernel) E (zA E E)<|by exact an2 H26 fun c_5 c_6 H27=>aTP 10 E (by decide +kernel) E (wO E E c_5 c_6 E)<|by exact aTP 12 E (by decide +kernel) E (qx E)<|by exact aTP 13 E (by decide +kernel) E (zA E E)<|by exact zw 11 (by decide +kernel) E<|by exact an H27 fun c_7 H28=>an H28 fun c_8 H29=>vD E E E E (qn (qn ht (by have:=ht_9;(try simp only[List.length_cons,List.length_nil]);omega)) (by have:=True.intro;(try simp only[List.length_cons,List.length_nil]);omega)) c_8 c_7<|zr<|zH zq<|an2 H29 fun c_9 c_10 H30=>aTP 14 E (by decide +kernel) E (wO E E c_9 c_10 E)<|by exact zw 15 (by decide +kernel) E<|by exact an H30 fun c_11 H31=>vD E E E E E c_11 E<|zr<|zH zq<|zW (by decide +kernel)<|by exact zB<|zy H31 (fun (J:Mem→Prop) (z:Unit) S=>J S) (fun z=>⟨172,[(14,.int .i64 n)]⟩) (fun z=>[]) (fun _ Sx_10 H32=>csr<|mv E E<|gv E E<|gv E E<|nx<|zu<|zt results27 (zf E (zf E zi)) ⟨_,_,E,H32⟩) (fun Jx hJx H33=>csr<|mv E E<|an3 H33 fun c_12 c_13 c_14 H34=>by obtain⟨t_14,et_14,H35⟩:=zmG H34;exact s_p E (eqv (zft (a:=5) (b:=(t_3.n:Int)) E E E c_12 c_13 c_14) (congrArg eL et_14))<|s_p E (jJ E)<|mv E E<|nx<|zK<|xC (fun z=>⟨172,[(0,.pointer (some ⟨b_1,o,none⟩)),(4,eL image),(14,.int .i64 n),(138,eL t_14),(139,.int .i64 (t_14.n:Int)),(140,.int .i64 z)]⟩) (fun z=>[]) 0 (idx:=[]) H35 E ⟨E,E,E,E,E,E,True.intro⟩ E<|fun Xx hXx t_15 Sx_11 H36=>csr<|iteK H36 (fun c_15 H37=>s_p E (yT (qq E E) c_15)<|nx<|qb<|c_t E E<|yV<|zB<|qb<|zK<|csr<|mv E E<|by obtain⟨b_5,o_4,n_1,n_2,rfl,H38⟩:=H37;exact an2 H38 fun c_16 c_17 H39=>s_p E (gn E E c_16 c_17 E)<|gx H39 fun t_16 ht_16 H40=>s_v E (zG E) (qh ht_16)<|gv E E<|gv E E<|nxr<|mv E E<|mv E E<|mv E E<|mv E E<|zlu E E H40 fun Sx_12 H41=>nxr<|mv E E<|s_p E (zkV E E)<|gv E E<|nxr<|mv E E<|mv E E<|s_p E (jJ E)<|iteK H41 (fun c_18 H42=>s_p E (yT (qq E E) c_18)<|nx<|c_t E E<|qa (by kernel_rfl)<|a_takeP 0 E (by decide +kernel) (zc (za (za (zc (za zb))))) E (zp E)<|by exact a_takeP 1 E (by decide +kernel) (zc (za (za (zc (za zb))))) E (qx E)<|by exact a_takeP 2 E (by decide +kernel) (zc (za (za (zc (za zb))))) E (zA E E)<|by exact gx H42 fun t_17 ht_17 H43=>zY 3 E (by decide +kernel) (zc (za (za (zc (za zb))))) E (zG E) (qh ht_17)<|by exact a_takeP 4 E (by decide +kernel) (zc (za (za (zc (za zb))))) E (zp E)<|by exact a_takeP 5 E (by decide +kernel) (zc (za (za (zc (za zb))))) E (zp E)<|by exact a_takeP 6 E (by decide +kernel) (zc (za (za (zc (za zb))))) E (zp E)<|by exact a_takeP 7 E (by decide +kernel) (zc (za (za (zc (za zb))))) E (zp E)<|by exact a_takeP 8 E (by decide +kernel) (zc (za (za (zc (za zb))))) E (qZ E E)<|by exact a_takeP 9 E (by decide +kernel) (zc (za (za (zc (za zb))))) E (zp E)<|by exact a_takeP 10 E (by decide +kernel) (zc (za (za (zc (za zb))))) E (jJ E)<|by exact a_takeP 11 E (by decide +kernel) (zc (za (za (zc (za zb))))) E (zog E E)<|by exact an3 H43 fun c_19 c_20 c_21 H44=>by obtain⟨t_18,et_18,H45⟩:=zmG H44;exact a_takeP 12 E (by decide +kernel) (zc (za (za (zc (za zb))))) E (eqv (zft (a:=IntKind.i64.wrap (256*t_15)) (b:=(if (image.n:Int)<IntKind.i64.wrap ((IntKind.i64.wrap (256*t_15))+256) then (image.n:Int) else IntKind.i64.wrap ((IntKind.i64.wrap (256*t_15))+256))) E E E c_19 c_20 c_21) (congrArg eL et_18))<|by exact zw 13 (by decide +kernel) E<|by exact kq E E H45 fun t_19 Sx_13 H46=>zr<|zH zq<|zW (by decide +kernel)<|by exact qr<|zB<|zE<|s_p E (qZ E E)<|mv E E<|zr<|hXx (IntKind.i64.wrap (t_15+1)) _ _ _ _ [] H46 E ⟨E,E,E,E,E,E,True.intro⟩ E) fun c_18 H42=>s_p E (yF (qq E E) c_18)<|nx<|cfs E E<|qr<|zB<|zE<|s_p E (qZ E E)<|mv E E<|zr<|hXx (IntKind.i64.wrap (t_15+1)) _ _ _ _ [] H42 E ⟨E,E,E,E,E,E,True.intro⟩ E) fun c_15 H37=>s_p E (yF (qq E E) c_15)<|nx<|qb<|c_f E E<|qY<|zm<|zm<|zV<|hJx () _ _ _ _ [] H37 E ⟨E,True.intro⟩ E)) (fun Jx_1 hJx_1 H47=>csr<|mv E E<|an2 H47 fun c_23 c_24 H48=>by obtain⟨t_20,et_20,H49⟩:=zmG H48;exact s_p E (eqv (zft (a:=0) (b:=5) E E E (by decide) c_23 c_24) (congrArg eL et_20))<|s_p E (jJ E)<|mv E E<|nx<|zK<|xC (fun z=>⟨172,[(0,.pointer (some ⟨b_1,o,none⟩)),(4,eL image),(12,.pointer (some ⟨b,0,none⟩)),(14,.int .i64 n),(15,eL t_3),(80,eL t_20),(81,.int .i64 (t_20.n:Int)),(82,.int .i64 z)]⟩) (fun z=>[⟨b,47,t⟩]) 0 (idx:=[0]) H49 E ⟨E,E,E,E,E,E,E,E,True.intro⟩ E<|fun Xx_1 hXx_1 t_21 Sx_14 H50=>csr<|iteK H50 (fun c_25 H51=>s_p E (yT (qq E E) c_25)<|nx<|qb<|c_t E E<|yV<|zB<|qb<|zK<|csr<|by obtain⟨b_6,o_5,n_3,n_4,rfl,H52⟩:=H51;exact an2 H52 fun c_26 c_27 H53=>s_p E (gn E E c_26 c_27 E)<|gx H53 fun t_22 ht_22 H54=>s_v E (zG E) (qh ht_22)<|gv E E<|nx<|zE<|mv E E<|s_p E (qx E)<|s_p E (zA E E)<|gx H54 fun t_23 ht_23 H55=>s_v E (zG E) (qh ht_23)<|by obtain⟨b_7,o_6,rfl,H56⟩:=H55;exact s_p E (qx E)<|s_p E (zA E E)<|gx H56 fun t_24 ht_24 H57=>s_v E (zG E) (qh ht_24)<|mv E E<|mv E E<|kq E E H57 fun t_25 Sx_15 H58=>zr<|qr<|zB<|zE<|s_p E (qZ E E)<|mv E E<|zr<|hXx_1 (IntKind.i64.wrap (t_21+1)) _ _ _ _ [0] H58 E ⟨E,E,E,E,E,E,E,E,True.intro⟩ E) fun c_25 H51=>s_p E (yF (qq E E) c_25)<|nx<|qb<|c_f E E<|qY<|zm<|zm<|zV<|hJx_1 () _ _ _ _ [0] H51 E ⟨E,E,E,E,E,True.intro⟩ E)) (fun Jx_2 hJx_2 H59=>csr<|mv E E<|iteK H59 (fun c_28 H60=>s_p E (yT (qt E E) c_28)<|nx<|c_t E E<|csr<|mv E E<|gv E E<|gv E E<|nx<|zu<|zd<|zt results27 (zf E (zf E zi)) ⟨_,_,E,H60⟩) fun c_28 H60=>s_p E (yF (qt E E) c_28)<|nx<|cfs E E<|hJx_2 () _ _ _ _ [0] H60 E ⟨E,E,E,E,E,True.intro⟩ E)) (fun Jx_3 hJx_3 H61=>csr<|mv E E<|iteK H61 (fun c_29 H62=>ceT E E E (c_29)<|nx<|c_t E E<|csr<|gv E E<|gv E E<|nx<|zu<|zd<|zt results27 (zf E (zf E zi)) ⟨_,_,E,H62⟩) fun c_29 H62=>ceF E E E (c_29)<|nx<|cfs E E<|hJx_3 () _ _ _ _ [0] H62 E ⟨E,E,E,E,E,True.intro⟩ E)) (fun Jx_4 hJx_4 H63=>zK<|xC (fun z=>⟨172,[(0,eP h),(3,.int .i64 pages),(4,eL image),(12,.pointer (some ⟨b,0,none⟩)),(14,.int .i64 z)]⟩) (fun z=>[⟨b,47,t⟩]) 0 (idx:=[0]) H63 E ⟨E,E,E,E,E,True.intro⟩ E<|fun Xx_2 hXx_2 n_5 Sx_16 H64=>qb<|csr<|mv E E<|iteK H64 (fun c_30 H65=>s_p E (yT (qq E E) c_30)<|mv E E<|mv E E<|by obtain⟨b_8,o_7,rfl,H66⟩:=H65;exact s_p E (qx E)<|s_p E (zA E E)<|gx H66 fun t_26 ht_26 H67=>s_v E (zG E) (qh ht_26)<|mv E E<|by obtain⟨b_9,o_8,rfl,H68⟩:=H67;exact s_p E (qx E)<|s_p E (zA E E)<|an2 H68 fun c_31 c_32 H69=>s_p E (wO E E c_31 c_32 E)<|s_p E (zA E E)<|gx H69 fun t_27 ht_27 H70=>by have H71:=zfs H70;rcases H71 with ⟨rfl,H72⟩ | ⟨rfl,H72⟩;exact (s_v E (zG E) (qh ht_27)<|pk E E E<|nx<|c_t E E<|yV<|zB<|zK<|zE<|mv E E<|s_p E (qZ E E)<|gv E E<|zr<|qr<|hXx_2 (IntKind.i64.wrap (n_5+1)) _ _ _ _ [0] H72 E ⟨E,E,E,E,E,True.intro⟩ E);exact (s_v E (zG E) (qh ht_27)<|pk E E E<|nx<|c_f E E<|qY<|zm<|zm<|zV<|hJx_4 n_5 _ _ _ _ [0] H72 E ⟨E,E,E,E,E,True.intro⟩ E)) fun c_30 H65=>s_p E (yF (qq E E) c_30)<|mv E E<|sk8 E E E E E E E E<|sk2 E E<|pk E E E<|nx<|c_f E E<|qY<|zm<|zm<|zV<|hJx_4 n_5 _ _ _ _ [0] H65 E ⟨E,E,E,E,E,True.intro⟩ E)) (fun Jx_5 hJx_5 H73=>zK<|csr<|mv E E<|iteK H73 (fun c_33 H74=>s_p E (yT (wP (p:=h) E E) c_33)<|gv E E<|nx<|c_t E E<|csr<|gv E E<|gv E E<|nx<|zu<|zo<|zd<|zt results27 (zf E (zf E zi)) ⟨_,_,E,H74⟩) fun c_33 H74=>s_p E (yF (wP (p:=h) E E) c_33)<|gv E E<|nx<|c_f E E<|csr<|mv E E<|iteK H74 (fun c_34 H75=>s_p E (yT (qt E E) c_34)<|gv E E<|nx<|c_t E E<|csr<|mv E E<|gv E E<|gv E E<|nx<|zu<|zo<|zd<|zt results27 (zf E (zf E zi)) ⟨_,_,E,H75⟩) fun c_34 H75=>s_p E (yF (qt E E) c_34)<|gv E E<|nx<|c_f E E<|csr<|mv E E<|iteK H75 (fun c_35 H76=>s_p E (yT (qq E E) c_35)<|mv E E<|sk2 E E<|zF E<|pk E E E<|gv E E<|nx<|c_t E E<|csr<|gv E E<|gv E E<|nx<|zu<|zo<|zd<|zt results27 (zf E (zf E zi)) ⟨_,_,E,H76⟩) fun c_35 H76=>s_p E (yF (qq E E) c_35)<|mv E E<|mv E E<|mv E E<|iteK H76 (fun c_36 H77=>s_p E (yT (jZ E E) c_36)<|pk E E E<|gv E E<|nx<|c_t E E<|csr<|gv E E<|gv E E<|nx<|zu<|zo<|zd<|zt results27 (zf E (zf E zi)) ⟨_,_,E,H77⟩) fun c_36 H77=>s_p E (yF (jZ E E) c_36)<|pk E E E<|gv E E<|nx<|c_f E E<|csr<|mv E E<|s_p E (jJ E)<|mv E E<|s_p E (zkV E E)<|iteK H77 (fun c_37 H78=>s_p E (yT (jZ E E) c_37)<|gv E E<|nx<|c_t E E<|qb<|by exact zE<|gv E E<|gv E E<|nx<|zu<|zo<|zd<|zt results27 (zf E (zf E zi)) ⟨_,_,E,H78⟩) fun c_37 H78=>s_p E (yF (jZ E E) c_37)<|gv E E<|nx<|cfs E E<|qr<|by exact hJx_5 () _ _ _ _ [0] H78 E ⟨E,E,E,E,True.intro⟩ E)
def zdq (S:Mem) (form:Int) (frames:Int) (region:Int) (Q:Pt→Int→Mem→Prop):Prop:=
 jn (fun (Sx:Mem)=>
 fI Sx frames fun t Sx_1=>
 zcl Sx_1 frames fun t_1 Sx_2=>
 zcq Sx_2 form frames fun t_2 Sx_3=>
 al Sx_3 39 ([eP t,eP t_1,.slice (none) 0 0,eP t_2,.slice (none) 0 0,.slice (none) 0 0,.slice (none) 0 0,.slice (none) 0 0,.slice (none) 0 0,.slice (none) 0 0,.slice (none) 0 0]) fun b Sx_4=>
 gP (Sx_4.cell b 1) fun t_3=>
 xA Sx_4 t_3 region fun t_4 t_5 Sx_5=>
 pt Sx_5 b 4 1 ([eL t_4]) fun Sx_6=>
 jn (fun (Sx_7:Mem)=>
 Q (some (b,0)) 0 Sx_7) fun Jx=>
 gL (Sx_6.cell b 4) fun t_6=>
 lp (fun Xx (t_7:Int) (Sx_8:Mem)=>
 if t_7<(t_6.n:Int) then
 sl t_6 fun b_1 o n n_1=>
 0≤t_7∧t_7<((n:Nat):Int) ∧
 gI (Sx_8.cell b_1 (o+t_7.toNat*1)) .i64 fun t_8=>
 gP (Sx_8.cell b 3) fun t_9=>
 nn t_9 fun b_2 o_1=>
 gP (Sx_8.cell b_2 (o_1+74)) fun t_10=>
 yg Sx_8 t_10 t_8 (-1) fun t_11 Sx_9=>
 Xx (IntKind.i64.wrap (t_7+1)) Sx_9
 else
 Jx Sx_8) 0 Sx_6) fun Jx_1=>
 if frames<1 then
 Q none 1 S
 else
 if 512<frames then
 Q none 1 S
 else
 if region<1 then
 Q none 1 S
 else
 if frames<region then
 Q none 1 S
 else
 if form≠1 then
 if form≠2 then
 Q none 1 S
 else
 Jx_1 S
 else
 Jx_1 S
theorem zkb {S:Mem} {form:Int} {frames:Int} {region:Int} {Q:Pt→Int→Mem→Prop} (H:zdq S form frames region Q):zct S form frames region Q:=by
 unfold zdq at H
 exact Tr.intro func48 E ntmps48 E fun w0=>csr<|gv E E<|gv E E<|nx<|zy H (fun (J:Mem→Prop) (z:Unit) S=>J S) (fun z=>⟨75,[(0,.int .i64 form),(1,.int .i64 frames),(2,.int .i64 region)]⟩) (fun z=>[]) (fun _ Sx H1=>csr<|mv E E<|kq E E H1 fun t Sx_1 H2=>mv E E<|kq E E H2 fun t_1 Sx_2 H3=>mv E E<|mv E E<|kq E E H3 fun t_2 Sx_3 H4=>s_p E (ql E E)<|by exact jM E E E fun b=>zmR 0 E fun hb=>have H5:=H4 b hb;gv E E<|nxr<|mv E E<|mv E E<|s_p E (qx E)<|s_p E (zA E E)<|gx H5 fun t_3 ht_3 H6=>s_v E (zG E) (qh ht_3)<|mv E E<|ziz E E H6 fun t_4 t_5 Sx_5 H7=>mv E E<|s_p E (zk E E)<|s_p E (zk E E)<|s_p E (qx E)<|s_p E (zA E E)<|an H7 fun c H8=>vD E E E E E c E<|nx<|zy H8 (fun (J:Mem→Prop) (z:Unit) S=>J S) (fun z=>⟨75,[(8,.pointer (some ⟨b,0,none⟩))]⟩) (fun z=>[]) (fun _ Sx_7 H9=>csr<|mv E E<|gv E E<|gv E E<|nx<|zu<|zt results48 (zf E (zf E zi)) ⟨_,_,E,H9⟩) (fun Jx hJx H10=>csr<|mv E E<|s_p E (qx E)<|s_p E (zA E E)<|gx H10 fun t_6 ht_6 H11=>s_v E (zG E) (qh ht_6)<|s_p E (jJ E)<|mv E E<|nx<|zK<|xC (fun z=>⟨75,[(8,.pointer (some ⟨b,0,none⟩)),(58,eL t_6),(59,.int .i64 (t_6.n:Int)),(60,.int .i64 z)]⟩) (fun z=>[]) 0 (idx:=[]) H11 E ⟨E,E,E,E,True.intro⟩ E<|fun Xx hXx t_7 Sx_8 H12=>csr<|iteK H12 (fun c_1 H13=>s_p E (yT (qq E E) c_1)<|nx<|qb<|c_t E E<|yV<|zB<|qb<|zK<|qb<|by exact zE<|by obtain⟨b_1,o,n,n_1,rfl,H14⟩:=H13;exact an2 H14 fun c_2 c_3 H15=>s_p E (gn E E c_2 c_3 E)<|gx H15 fun t_8 ht_8 H16=>s_v E (zG E) (qh ht_8)<|gv E E<|nx<|zE<|mv E E<|s_p E (qx E)<|s_p E (zA E E)<|gx H16 fun t_9 ht_9 H17=>s_v E (zG E) (qh ht_9)<|by obtain⟨b_2,o_1,rfl,H18⟩:=H17;exact s_p E (qx E)<|s_p E (zA E E)<|gx H18 fun t_10 ht_10 H19=>s_v E (zG E) (qh ht_10)<|mv E E<|kq E E H19 fun t_11 Sx_9 H20=>zr<|qr<|zB<|zE<|s_p E (qZ E E)<|mv E E<|zr<|hXx (IntKind.i64.wrap (t_7+1)) _ _ _ _ [] H20 E ⟨E,E,E,E,True.intro⟩ E) fun c_1 H13=>s_p E (yF (qq E E) c_1)<|nx<|qb<|c_f E E<|qY<|zm<|zm<|zV<|hJx () _ _ _ _ [] H13 E ⟨E,True.intro⟩ E)) (fun Jx_1 hJx_1 H21=>csr<|mv E E<|iteK H21 (fun c_4 H22=>s_p E (yT (qq E E) c_4)<|mv E E<|sk2 E E<|pk E E E<|mv E E<|sk2 E E<|pk E E E<|mv E E<|sk2 E E<|zF E<|pk E E E<|mv E E<|sk4 E E E E<|sk2 E E<|pk E E E<|nx<|c_t E E<|csr<|gv E E<|gv E E<|nx<|zu<|zd<|zt results48 (zf E (zf E zi)) ⟨_,_,E,H22⟩) fun c_4 H22=>s_p E (yF (qq E E) c_4)<|mv E E<|mv E E<|iteK H22 (fun c_5 H23=>s_p E (yT (jZ E E) c_5)<|pk E E E<|mv E E<|sk2 E E<|pk E E E<|mv E E<|sk2 E E<|zF E<|pk E E E<|mv E E<|sk4 E E E E<|sk2 E E<|pk E E E<|nx<|c_t E E<|csr<|gv E E<|gv E E<|nx<|zu<|zd<|zt results48 (zf E (zf E zi)) ⟨_,_,E,H23⟩) fun c_5 H23=>s_p E (yF (jZ E E) c_5)<|pk E E E<|mv E E<|mv E E<|iteK H23 (fun c_6 H24=>s_p E (yT (qq E E) c_6)<|pk E E E<|mv E E<|sk2 E E<|zF E<|pk E E E<|mv E E<|sk4 E E E E<|sk2 E E<|pk E E E<|nx<|c_t E E<|csr<|gv E E<|gv E E<|nx<|zu<|zd<|zt results48 (zf E (zf E zi)) ⟨_,_,E,H24⟩) fun c_6 H24=>s_p E (yF (qq E E) c_6)<|pk E E E<|mv E E<|mv E E<|mv E E<|iteK H24 (fun c_7 H25=>s_p E (yT (jZ E E) c_7)<|pk E E E<|mv E E<|sk4 E E E E<|sk2 E E<|pk E E E<|nx<|c_t E E<|csr<|gv E E<|gv E E<|nx<|zu<|zd<|zt results48 (zf E (zf E zi)) ⟨_,_,E,H25⟩) fun c_7 H25=>s_p E (yF (jZ E E) c_7)<|pk E E E<|mv E E<|mv E E<|iteK H25 (fun c_8 H26=>s_p E (yT (qt E E) c_8)<|mv E E<|mv E E<|iteK H26 (fun c_9 H27=>s_p E (yT (qt E E) c_9)<|pk E E E<|pk E E E<|nx<|c_t E E<|csr<|gv E E<|gv E E<|nx<|zu<|zd<|zt results48 (zf E (zf E zi)) ⟨_,_,E,H27⟩) fun c_9 H27=>s_p E (yF (qt E E) c_9)<|pk E E E<|pk E E E<|nx<|cfs E E<|hJx_1 () _ _ _ _ [] H27 E ⟨E,E,E,True.intro⟩ E) fun c_8 H26=>s_p E (yF (qt E E) c_8)<|mv E E<|sk2 E E<|pk E E E<|pk E E E<|nx<|cfs E E<|hJx_1 () _ _ _ _ [] H26 E ⟨E,E,E,True.intro⟩ E)
def fb (S:Mem) (Q:List Value→Mem→Prop):Prop:=
 jn (fun (d:List Value) (Sx:Mem)=>
 d.length=4 ∧
 d.all (·.oneCell')=true ∧
 Q d Sx) fun Jx=>
 lp (fun Xx (z:Int×List Value) (Sx_1:Mem)=>
 match z with
 | (t,d_1)=>
 d_1.length=4 ∧
 if t<4 then
 al Sx_1 5 (zrep 256 [.int .u8 0]) fun b_2 Sx_2=>
 0≤t∧t<4 ∧
 Xx (IntKind.i64.wrap (t+1),spl d_1 (0+t.toNat*1) ([.slice (some ⟨b_2,0,none⟩) 256 256])) Sx_2
 else
 Jx d_1 Sx_1) (0,[.slice (none) 0 0,.slice (none) 0 0,.slice (none) 0 0,.slice (none) 0 0]) S
theorem zgo {S:Mem} {Q:List Value→Mem→Prop} (H:fb S Q):zbo S Q:=by
 unfold fb at H
 exact Tr.intro func126 E ntmps126 E fun w0=>csr<|by refine zX E fun b=>?_;exact nxr<|by refine zX E fun b_1=>?_;exact nx<|zy H (fun (J:List Value→Mem→Prop) (z:List Value) S=>J z S) (fun z=>⟨11,[(0,.pointer (some ⟨b,0,none⟩)),(1,.pointer (some ⟨b_1,0,none⟩))]⟩) (fun z=>[⟨b,44,[.slice (none) 0 0,.slice (none) 0 0,.slice (none) 0 0,.slice (none) 0 0]⟩,⟨b_1,44,z⟩]) (fun d Sx H1=>an H1 fun hd H2=>csr<|by refine s_v E (qk E hd) (zD (k:=4) 1 E (ze hd)) ?_;exact an H2 fun c H3=>zn 0 E E E E E hd E c<|nx<|zu<|zt results126 (zv E (zD (k:=4) 0 E (ze hd)) hd zi) ⟨_,E,hd,H3⟩) (fun Jx hJx H4=>csr<|mv E E<|nx<|zK<|xC (fun z=>⟨11,[(0,.pointer (some ⟨b,0,none⟩)),(1,.pointer (some ⟨b_1,0,none⟩)),(3,.int .i64 z.1)]⟩) (fun z=>[⟨b,44,[.slice (none) 0 0,.slice (none) 0 0,.slice (none) 0 0,.slice (none) 0 0]⟩,⟨b_1,44,z.2⟩]) (0,[.slice (none) 0 0,.slice (none) 0 0,.slice (none) 0 0,.slice (none) 0 0]) (idx:=[0,0]) H4 E ⟨E,E,E,True.intro⟩ E<|by rintro Xx hXx ⟨t,d_1⟩ Sx_1 H5;exact an H5 fun hd_1 H6=>csr<|iteK H6 (fun c_1 H7=>s_p E (yT (qq E E) c_1)<|nx<|qb<|c_t E E<|yV<|zB<|qb<|zK<|csr<|mv E E<|gv E E<|nx<|zE<|mv E E<|zrv E E E (by decide) (by decide) (by decide) (by decide) fun b_2=>zmR 2 E fun hb_2=>have H8:=H7 b_2 hb_2;an2 H8 fun c_2 c_3 H9=>s_p E (wO E E c_2 c_3 E)<|wX (sz:=1) (vs:=[.slice (some ⟨b_2,0,none⟩) 256 256]) 1 E E E E E E (wR hd_1 (by omega)) E<|zr<|qr<|zB<|zE<|s_p E (qZ E E)<|mv E E<|zr<|hXx (IntKind.i64.wrap (t+1),spl d_1 (0+t.toNat*1) ([.slice (some ⟨b_2,0,none⟩) 256 256])) _ _ _ _ [0,0] H9 E ⟨E,E,E,True.intro⟩ E) fun c_1 H7=>s_p E (yF (qq E E) c_1)<|nx<|qb<|c_f E E<|qY<|zm<|zm<|zV<|hJx d_1 _ _ _ _ [0,0] H7 E ⟨E,E,True.intro⟩ E)
def jI (S:Mem) (seats:Int) (quota:Int) (Q:List Value→Int→Mem→Prop):Prop:=
 jn (fun (v:List Value) (Sx:Mem)=>
 v.length=12 ∧
 zbo Sx fun t Sx_1=>
 (spl (spl (spl ([.bool false,.slice (none) 0 0,.int .i64 0,.slice (none) 0 0,.int .i64 0,.int .u64 0,.slice (none) 0 0,.slice (none) 0 0,.slice (none) 0 0,.slice (none) 0 0,.slice (none) 0 0,.int .u32 0]) 0 [.bool true]) 4 [.int .i64 quota]) 7 t).all (·.oneCell')=true ∧
 jn (fun (v_1:List Value) (Sx_2:Mem)=>
 v_1.length=12 ∧
 v_1.all (·.oneCell')=true ∧
 Q v_1 0 Sx_2) fun Jx=>
 lp (fun Xx (z:Int×List Value) (Sx_3:Mem)=>
 match z with
 | (t_1,v_2)=>
 v_2.length=12 ∧
 if t_1<seats then
 gL (nthL v_2 1) fun t_2=>
 zjo Sx_3 fun t_3 Sx_4=>
 t_3.all (·.oneCell')=true ∧
 ap Sx_4 66 26 192 z66 t_2 1 t_3 fun t_4 Sx_5=>
 Xx (IntKind.i64.wrap (t_1+1),spl v_2 1 ([eL t_4])) Sx_5
 else
 Jx v_2 Sx_3) (0,spl (spl (spl ([.bool false,.slice (none) 0 0,.int .i64 0,.slice (none) 0 0,.int .i64 0,.int .u64 0,.slice (none) 0 0,.slice (none) 0 0,.slice (none) 0 0,.slice (none) 0 0,.slice (none) 0 0,.int .u32 0]) 0 [.bool true]) 4 [.int .i64 quota]) 7 t) Sx_1) fun Jx_1=>
 if seats<1 then
 Q ([.bool false,.slice (none) 0 0,.int .i64 0,.slice (none) 0 0,.int .i64 0,.int .u64 0,.slice (none) 0 0,.slice (none) 0 0,.slice (none) 0 0,.slice (none) 0 0,.slice (none) 0 0,.int .u32 0]) 1 S
 else
 if 3<seats then
 Q ([.bool false,.slice (none) 0 0,.int .i64 0,.slice (none) 0 0,.int .i64 0,.int .u64 0,.slice (none) 0 0,.slice (none) 0 0,.slice (none) 0 0,.slice (none) 0 0,.slice (none) 0 0,.int .u32 0]) 1 S
 else
 if quota<1 then
 Q ([.bool false,.slice (none) 0 0,.int .i64 0,.slice (none) 0 0,.int .i64 0,.int .u64 0,.slice (none) 0 0,.slice (none) 0 0,.slice (none) 0 0,.slice (none) 0 0,.slice (none) 0 0,.int .u32 0]) 1 S
 else
 if 32<quota then
 Q ([.bool false,.slice (none) 0 0,.int .i64 0,.slice (none) 0 0,.int .i64 0,.int .u64 0,.slice (none) 0 0,.slice (none) 0 0,.slice (none) 0 0,.slice (none) 0 0,.slice (none) 0 0,.int .u32 0]) 1 S
 else
 Jx_1 ([.bool false,.slice (none) 0 0,.int .i64 0,.slice (none) 0 0,.int .i64 0,.int .u64 0,.slice (none) 0 0,.slice (none) 0 0,.slice (none) 0 0,.slice (none) 0 0,.slice (none) 0 0,.int .u32 0]) S
theorem zdv {S:Mem} {seats:Int} {quota:Int} {Q:List Value→Int→Mem→Prop} (H:jI S seats quota Q):zav S seats quota Q:=by
 unfold jI at H
 exact Tr.intro func65 E ntmps65 E fun w0=>csr<|by refine zX E fun b=>?_;exact gv E E<|nx<|zy H (fun (J:List Value→Mem→Prop) (z:List Value) S=>J z S) (fun z=>⟨36,[(0,.int .i64 seats),(1,.int .i64 quota),(4,.pointer (some ⟨b,0,none⟩))]⟩) (fun z=>[⟨b,47,z⟩]) (fun v Sx H1=>an H1 fun hv H2=>csr<|mv E E<|qz E E H2 fun rv Sx_1 H3=>by obtain⟨t,rfl,ht,H4⟩:=H3;exact s_p E (ql E (yC (off:=0) (size:=1) E E (wR (n:=12) E (by decide)) (yC (off:=4) (size:=1) E E (wR (n:=12) (ge (m:=1) E E (by decide)) (by decide)) (yC (off:=7) (size:=4) E ht (wR (n:=12) (ge (m:=1) (ge (m:=1) E E (by decide)) E (by decide)) (by decide)) zei))))<|by exact by refine zX E fun b_1=>?_;exact an H4 fun c H5=>zn 1 E E E E E (ge (m:=4) (ge (m:=1) (ge (m:=1) E E (by decide)) E (by decide)) ht (by decide)) E c<|nx<|zy H5 (fun (J:List Value→Mem→Prop) (z:List Value) S=>J z S) (fun z=>⟨36,[(4,.pointer (some ⟨b,0,none⟩)),(6,.pointer (some ⟨b_1,0,none⟩))]⟩) (fun z=>[⟨b,47,v⟩,⟨b_1,47,z⟩]) (fun v_1 Sx_2 H6=>an H6 fun hv_1 H7=>csr<|by refine s_v E (qk E hv_1) (zD (k:=12) 1 E (ze hv_1)) ?_;exact an H7 fun c_1 H8=>zn 0 E E E E E hv_1 hv c_1<|gv E E<|nx<|zu<|zt results65 (zv E (zD (k:=12) 0 E (ze hv_1)) hv_1 (zf E zi)) ⟨_,_,E,hv_1,H8⟩) (fun Jx hJx H9=>csr<|mv E E<|mv E E<|nx<|zK<|xC (fun z=>⟨36,[(4,.pointer (some ⟨b,0,none⟩)),(6,.pointer (some ⟨b_1,0,none⟩)),(25,.int .i64 seats),(26,.int .i64 z.1)]⟩) (fun z=>[⟨b,47,v⟩,⟨b_1,47,z.2⟩]) (0,spl (spl (spl ([.bool false,.slice (none) 0 0,.int .i64 0,.slice (none) 0 0,.int .i64 0,.int .u64 0,.slice (none) 0 0,.slice (none) 0 0,.slice (none) 0 0,.slice (none) 0 0,.slice (none) 0 0,.int .u32 0]) 0 [.bool true]) 4 [.int .i64 quota]) 7 t) (idx:=[0,0]) H9 E ⟨E,E,E,E,True.intro⟩ E<|by rintro Xx hXx ⟨t_1,v_2⟩ Sx_3 H10;exact an H10 fun hv_2 H11=>csr<|iteK H11 (fun c_2 H12=>s_p E (yT (qq E E) c_2)<|nx<|qb<|c_t E E<|yV<|zB<|qb<|zK<|qa (by kernel_rfl)<|a_takeP 0 E (by decide +kernel) (zc (za (za (zc (za zb))))) E (zA E E)<|by exact gx H12 fun t_2 ht_2 H13=>zY 1 E (by decide +kernel) (zc (za (za (zc (za zb))))) E (zG E) (zR 1 E ht_2)<|by exact zw 2 (by decide +kernel) E<|by exact qz E E H13 fun rv Sx_4 H14=>by obtain⟨t_3,rfl,ht_3,H15⟩:=H14;exact zr<|zH (zj (zR 1 E ht_2) zq)<|zw 3 (by decide +kernel) E<|by exact zjr E E (by decide) (jD (size:=26) E ht_3) fun b_2=>zr<|zH (zj (zR 1 E ht_2) zq)<|zw 4 (by decide +kernel) E<|by exact an H15 fun c_3 H16=>gf (sx:=t_2) (vs:=t_3) E E E (zgS 2 E (ze ht_3)) ht_3 c_3 (by decide) H16 fun t_4 Sx_5 H17=>zr<|zH zq<|a_takeP 5 E (by decide +kernel) (zc (za (za (zc (za zb))))) E (zA E E)<|by exact zw 6 (by decide +kernel) E<|by exact wX (sz:=1) (vs:=[eL t_4]) 1 E E E E E E (wR hv_2 (by omega)) E<|zr<|zH zq<|zW (by decide +kernel)<|by exact qr<|zB<|zE<|s_p E (qZ E E)<|mv E E<|zr<|hXx (IntKind.i64.wrap (t_1+1),spl v_2 1 ([eL t_4])) _ _ _ _ [0,0] H17 E ⟨E,E,E,E,True.intro⟩ E) fun c_2 H12=>s_p E (yF (qq E E) c_2)<|nx<|qb<|c_f E E<|qY<|zm<|zm<|zV<|hJx v_2 _ _ _ _ [0,0] H12 E ⟨E,E,True.intro⟩ E)) (fun Jx_1 hJx_1 H18=>csr<|mv E E<|iteK H18 (fun c_4 H19=>s_p E (yT (qq E E) c_4)<|mv E E<|sk2 E E<|pk E E E<|mv E E<|sk2 E E<|pk E E E<|mv E E<|sk2 E E<|pk E E E<|nx<|c_t E E<|csr<|s_p E (ql E E)<|by exact wX (sz:=12) (vs:=[.bool false,.slice (none) 0 0,.int .i64 0,.slice (none) 0 0,.int .i64 0,.int .u64 0,.slice (none) 0 0,.slice (none) 0 0,.slice (none) 0 0,.slice (none) 0 0,.slice (none) 0 0,.int .u32 0]) 0 E E E E E E (Nat.le_of_ble_eq_true E) E<|gv E E<|nx<|zu<|zd<|zt results65 (zv E (zD (k:=12) 0 E E) E (zf E zi)) ⟨_,_,E,E,H19⟩) fun c_4 H19=>s_p E (yF (qq E E) c_4)<|mv E E<|mv E E<|iteK H19 (fun c_5 H20=>s_p E (yT (jZ E E) c_5)<|pk E E E<|mv E E<|sk2 E E<|pk E E E<|mv E E<|sk2 E E<|pk E E E<|nx<|c_t E E<|csr<|s_p E (ql E E)<|by exact wX (sz:=12) (vs:=[.bool false,.slice (none) 0 0,.int .i64 0,.slice (none) 0 0,.int .i64 0,.int .u64 0,.slice (none) 0 0,.slice (none) 0 0,.slice (none) 0 0,.slice (none) 0 0,.slice (none) 0 0,.int .u32 0]) 0 E E E E E E (Nat.le_of_ble_eq_true E) E<|gv E E<|nx<|zu<|zd<|zt results65 (zv E (zD (k:=12) 0 E E) E (zf E zi)) ⟨_,_,E,E,H20⟩) fun c_5 H20=>s_p E (yF (jZ E E) c_5)<|pk E E E<|mv E E<|mv E E<|iteK H20 (fun c_6 H21=>s_p E (yT (qq E E) c_6)<|pk E E E<|mv E E<|sk2 E E<|pk E E E<|nx<|c_t E E<|csr<|s_p E (ql E E)<|by exact wX (sz:=12) (vs:=[.bool false,.slice (none) 0 0,.int .i64 0,.slice (none) 0 0,.int .i64 0,.int .u64 0,.slice (none) 0 0,.slice (none) 0 0,.slice (none) 0 0,.slice (none) 0 0,.slice (none) 0 0,.int .u32 0]) 0 E E E E E E (Nat.le_of_ble_eq_true E) E<|gv E E<|nx<|zu<|zd<|zt results65 (zv E (zD (k:=12) 0 E E) E (zf E zi)) ⟨_,_,E,E,H21⟩) fun c_6 H21=>s_p E (yF (qq E E) c_6)<|pk E E E<|mv E E<|mv E E<|iteK H21 (fun c_7 H22=>s_p E (yT (jZ E E) c_7)<|pk E E E<|nx<|c_t E E<|csr<|s_p E (ql E E)<|by exact wX (sz:=12) (vs:=[.bool false,.slice (none) 0 0,.int .i64 0,.slice (none) 0 0,.int .i64 0,.int .u64 0,.slice (none) 0 0,.slice (none) 0 0,.slice (none) 0 0,.slice (none) 0 0,.slice (none) 0 0,.int .u32 0]) 0 E E E E E E (Nat.le_of_ble_eq_true E) E<|gv E E<|nx<|zu<|zd<|zt results65 (zv E (zD (k:=12) 0 E E) E (zf E zi)) ⟨_,_,E,E,H22⟩) fun c_7 H22=>s_p E (yF (jZ E E) c_7)<|pk E E E<|nx<|cfs E E<|hJx_1 ([.bool false,.slice (none) 0 0,.int .i64 0,.slice (none) 0 0,.int .i64 0,.int .u64 0,.slice (none) 0 0,.slice (none) 0 0,.slice (none) 0 0,.slice (none) 0 0,.slice (none) 0 0,.int .u32 0]) _ _ _ _ [0] H22 E ⟨E,E,E,True.intro⟩ E)
def zbH (S:Mem) (form:Int) (frames:Int) (Q:Pt→Mem→Prop):Prop:=
 zeT S frames fun t Sx=>
 al Sx 122 ([.slice (none) 0 0]) fun b Sx_1=>
 al Sx_1 58 (spl (spl (spl z58 0 [.int .i64 form]) 74 [eP t]) 171 [.pointer (some ⟨b,0,none⟩)]) fun b_1 Sx_2=>
 Q (some (b_1,0)) Sx_2
theorem ziu {S:Mem} {form:Int} {frames:Int} {Q:Pt→Mem→Prop} (H:zbH S form frames Q):zcq S form frames Q:=by
 unfold zbH at H
 exact Tr.intro func35 E ntmps35 E fun w0=>go results35 H
def zdm (S:Mem) (Q:List Value→Mem→Prop):Prop:=
 Q ([.int .u64 0,.int .u64 0,.int .u64 0,.int .u64 0,.int .u64 0,.int .u64 0,.int .u64 0,.int .u64 0,.int .u64 0,.int .u64 0,.int .u64 0,.int .u64 0,.int .u64 0,.int .u64 0,.int .u64 0,.int .u64 0,.int .u64 0,.int .u64 0,.int .u64 0,.int .u64 0,.int .u64 0,.int .u64 0,.bool false,.int .u8 0,.int .u32 0,.int .u32 0]) S
theorem zjX {S:Mem} {Q:List Value→Mem→Prop} (H:zdm S Q):zjo S Q:=by
 unfold zdm at H
 exact Tr.intro func127 E ntmps127 E fun w0=>go results127 H
end
end Go.Proofs.YthaiblbnpcgjpaaGreatDoor
namespace Go.Cr
section
open Go Go.Pt
def clrD (d:Nat→List Int) (fr:List Nat):Nat→List Int:=fr.foldl (fun d f=>upd d f noughts) d
def rootD (d:Nat→List Int) (form:Int) (r:Nat) (fr:List Nat):Nat→Nat→List Int
 | 0=>d
 | i+1=>wr (rootD d form r fr i) r (8*i) (bytes8 (pk form (fr.getD (i+1) 0) true))
def makeD (d:Nat→List Int) (form:Int) (fr:List Nat):Nat→List Int:=rootD (clrD d fr) form (fr.getD 0 0) fr 4
theorem zek:∀ {fr:List Nat} {d:Nat→List Int} {x:Nat},clrD d fr x=if x∈fr then noughts else d x
 | [],d,x=>by simp[clrD]
 | f :: fr,d,x=>by
  unfold clrD
  rw[List.foldl_cons]
  have:=zek (fr:=fr) (d:=upd d f noughts) (x:=x)
  unfold clrD at this
  rw[this]
  by_cases e:x∈fr
  ·rw[if_pos e,if_pos (List.mem_cons_of_mem _ e)]
  ·rw[if_neg e]
   by_cases e2:x=f
   ·subst e2;rw[zl,if_pos List.mem_cons_self]
   ·rw[zh e2,if_neg (by simp[e,e2])]
theorem gD {d:Nat→List Int} {form:Int} {r x:Nat} {fr:List Nat} (h:x≠r):∀ {i:Nat},rootD d form r fr i x=d x
 | 0=>rfl
 | i+1=>by rw[rootD,zpX h,gD h]
theorem zeP {d:Nat→List Int} {form:Int} {r:Nat} {fr:List Nat} (h:(d r).length=256∧Byt (d r)):∀ {i:Nat},i≤31→(rootD d form r fr i r).length=256∧Byt (rootD d form r fr i r)
 | 0,_=>h
 | i+1,hi=>by
  have ih:=zeP (form:=form) (fr:=fr) h (i:=i) (by omega)
  rw[rootD]
  exact⟨by rw[zjh (by rw[ih.1,xf];omega)];exact ih.1,zji (kJ _) ih.2⟩
theorem zjw {d:Nat→List Int} {form:Int} {r:Nat} {fr:List Nat} (h:(d r).length=256∧Byt (d r)) (hf:∀ f∈fr,f≤65535):∀ {i j:Nat},i≤31→j<i→ld (rootD d form r fr i) r j=pk form (fr.getD (j+1) 0) true
 | 0,j,_,hj=>by omega
 | i+1,j,hi,hj=>by
  have ih:=zeP (form:=form) (fr:=fr) h (i:=i) (by omega)
  have h6:fr.getD (i+1) 0≤65535:=by
   rw[List.getD_eq_getElem?_getD]
   cases hq:fr[i+1]? with
   | none=>exact Nat.zero_le _
   | some x=>exact hf x (List.mem_of_getElem? hq)
  rw[rootD,zqt ih.1 (by omega) (by omega) (zpi h6).1]
  by_cases e:j=i
  ·rw[if_pos ⟨rfl,e⟩,e]
  ·rw[if_neg (fun h=>e h.2)]
   exact zjw h hf (by omega) (by omega)
theorem zkx {d:Nat→List Int} {f i:Nat} (h:d f=noughts):ld d f i=0:=by
 unfold ld
 rw[h]
 have key:∀ l:List Int,(∀ x∈l,x=0)→num l=0:=by
  intro l
  induction l with
  | nil=>intro _;rfl
  | cons x l ih=>
   intro hl
   simp only[num]
   rw[hl x (by simp),ih fun y hy=>hl y (by simp[hy])];rfl
 exact key _ fun x hx=>zeU (List.mem_of_mem_drop (List.mem_of_mem_take hx))
def keepL (own:Nat→Ow) (n:Nat) (l:List Nat):Nat→Ow:=l.foldl (fun o f=>keepC o f n) own
theorem zhJ {n:Nat}:∀ {l:List Nat} {own:Nat→Ow} {x:Nat},(∀ f∈l,(own f).kind=0)→l.Nodup→keepL own n l x=if x∈l then ⟨2,n,0,0⟩ else own x
 | [],own,x,_,_=>by simp[keepL]
 | f :: l,own,x,h,hn=>by
  obtain⟨h1,h2⟩:=List.nodup_cons.1 hn
  have e0:keepC own f n=upd own f ⟨2,n,0,0⟩:=by
   unfold keepC
   rw[if_pos (h f (by simp)),if_pos (by omega)]
  have ih:=zhJ (n:=n) (l:=l) (own:=keepC own f n) (x:=x) (fun g hg=>by
   rw[e0,zh (fun e=>by subst e;exact h1 hg)];exact h g (by simp[hg])) h2
  unfold keepL at ih ⊢
  rw[List.foldl_cons,ih]
  by_cases e:x∈l
  ·rw[if_pos e,if_pos (List.mem_cons_of_mem _ e)]
  ·rw[if_neg e,e0]
   by_cases e2:x=f
   ·subst e2;rw[zl,if_pos List.mem_cons_self]
   ·rw[zh e2,if_neg (by simp[e,e2])]
def Wd.newV (W:Wd) (n:Nat) (seats quota:Int):Wd:=
 { W with free:=W.free-5,vm:=upd W.vm n (mkV seats quota),time:=upd W.time n 0,ev:=upd W.ev n [] }
section
variable {C:Cst} {W:Wd} {φ:Nat→Nat→Nat}
theorem zoI (h:WOk W) {n:Nat} (hn:n<6) (hoff:(W.vm n).on=false) {seats quota:Int} (hs:1≤seats∧seats≤3) (hq:1≤quota∧quota≤32):WOk (W.newV n seats quota):=by
 have vn:(W.newV n seats quota).vm n=mkV seats quota:=zl
 have vo:∀ i,i≠n→(W.newV n seats quota).vm i=W.vm i:=fun i e=>zh e
 have h0:=h.off n hoff
 have on_of:∀ i,(W.vm i).on=true→i≠n:=fun i hi e=>by subst e;rw[hoff] at hi;cases hi
 refine { h with off:=fun i hi=>?_,six:=fun i hi=>?_,seats:=fun i hi=>?_,ok:=fun i s hs'=>?_,keys:=fun i=>?_,disk:=fun i j hi=>?_,quota:=fun i=>?_,bells:=fun i k hk=>?_,pg:=fun i p l hl=>?_,most:=fun i=>?_,lsr:=fun i hi=>?_,alarm:=fun i k w hw=>?_ }
 ·have e:i≠n:=fun e=>by subst e;rw[vn] at hi;cases hi
  rw[vo i e] at hi ⊢;exact h.off i hi
 ·rw[vo i (by omega)];exact h.six i hi
 ·by_cases e:i=n
  ·subst e;rw[vn]
   show 1≤(List.replicate seats.toNat seat0).length∧_
   rw[List.length_replicate]
   exact⟨by omega,by show (List.replicate seats.toNat seat0).length≤3;rw[List.length_replicate];omega⟩
  ·rw[vo i e] at hi ⊢;exact h.seats i hi
 ·by_cases e:i=n
  ·subst e;rw[vn] at hs'
   rw[List.eq_of_mem_replicate hs'];exact zjp
  ·rw[vo i e] at hs';exact h.ok i s hs'
 ·by_cases e:i=n
  ·subst e;rw[vn];exact⟨Nat.zero_le _,fun x hx=>by cases hx⟩
  ·rw[vo i e];exact h.keys i
 ·by_cases e:i=n
  ·subst e;rw[vn];exact⟨qX,fun x hx=>xK hx⟩
  ·rw[vo i e] at hi ⊢;exact h.disk i j hi
 ·by_cases e:i=n
  ·subst e;rw[vn];exact⟨show 0≤quota by omega,hq.2⟩
  ·rw[vo i e];exact h.quota i
 ·by_cases e:i=n
  ·subst e;rw[vn] at hk;cases hk
  ·rw[vo i e] at hk
   obtain⟨a,b,c,d⟩:=h.bells i k hk
   have hkn:=on_of k b
   rw[vo i e,vo k hkn];exact⟨a,b,c,d⟩
 ·obtain⟨a,b⟩:=h.pg i p l hl
  rw[vo i (on_of i a)];exact⟨a,b⟩
 ·by_cases e:i=n
  ·subst e
   have:(W.newV i seats quota).pages i=0:=xe fun p _=>by
    show (W.own i p).isSome=false
    rw[h0.2.1];rfl
   rw[this,vn];show (0:Int)≤quota;omega
  ·rw[vo i e];exact h.most i
 ·obtain⟨a,b,c,d⟩:=h.lsr i hi
  have e1:(W.newV n seats quota).ls i=W.ls i:=rfl
  rw[e1,vo _ (on_of _ b),vo _ (on_of _ c)];exact⟨a,b,c,d⟩
 ·have hw':W.alarm i k=some w:=hw
  have e:i≠n:=fun e=>by subst e;rw[h0.2.2] at hw';cases hw'
  rw[vo i e];exact h.alarm i k w hw'
theorem Rel.newV (h:Rel C W φ) {n:Nat} (hn:n<6) (hoff:(W.vm n).on=false) {seats quota:Int} (hs:1≤seats∧seats≤3) (hq:1≤quota∧quota≤32) {l:List Nat} {u:Nat→Bool} (ht:takeN C.N 5 C.used=some (l,u)) :
  Rel { C with used:=u,own:=keepL C.own n l,dat:=makeD C.dat C.form l,vm:=upd C.vm n (mkV seats quota),tf:=upd C.tf n C.form,fr:=upd C.fr n l,late:=upd C.late n C.now,ev:=upd C.ev n [] } (W.newV n seats quota) φ:=by
 obtain⟨hl5,hnd,hfree,hu,hcnt⟩:=xU ht
 have hk0:∀ f∈l,(C.own f).kind=0:=fun f hf=>by
  have h1:=hfree f hf
  have:=h.used f h1.1
  rw[h1.2] at this
  have h2:=of_decide_eq_false this.symm
  exact Classical.byContradiction fun h3=>h2 h3
 have hown:∀ x,keepL C.own n l x=if x∈l then ⟨2,n,0,0⟩ else C.own x:=fun x=>zhJ hk0 hnd
 have hN:=h.N
 have hmem:∀ j,j<5→l.getD j 0∈l:=fun j hj=>zgP (by omega)
 have h0:=h.wk.off n hoff
 have ht0:=h.off n hoff
 have vo:∀ i,i≠n→(W.newV n seats quota).vm i=W.vm i:=fun i e=>zh e
 have vn:(W.newV n seats quota).vm n=mkV seats quota:=zl
 have hr:l.getD 0 0∈l:=hmem 0 (by decide)
 have hinj:∀ j,j<5→j≠0→l.getD j 0≠l.getD 0 0:=fun j hj hj0 e=>by
  rw[List.getD_eq_getElem?_getD,List.getD_eq_getElem?_getD,List.getElem?_eq_getElem (by omega),List.getElem?_eq_getElem (by omega)] at e
  exact hj0 ((List.getElem_inj hnd).1 e)
 have hclr:∀ x,x∈l→clrD C.dat l x=noughts:=fun x hx=>by rw[zek,if_pos hx]
 have hnb:noughts.length=256∧Byt noughts:=⟨qX,fun x hx=>xK hx⟩
 have hdn:∀ x,x∉l→makeD C.dat C.form l x=C.dat x:=fun x hx=>by
  unfold makeD
  rw[gD (fun e=>hx (by rw[e];exact hr)),zek,if_neg hx]
 have hlen:∀ f,f<C.N→(makeD C.dat C.form l f).length=256∧Byt (makeD C.dat C.form l f):=fun f hf=>by
  by_cases e:f=l.getD 0 0
  ·unfold makeD
   rw[e]
   exact zeP (by rw[hclr _ hr];exact hnb) (by decide)
  ·unfold makeD
   rw[gD e,zek]
   split
   ·exact hnb
   ·exact h.len f hf
 have hnl:∀ f,(C.own f).kind≠0→f∉l:=fun f hf hm=>hf (hk0 f hm)
 have fr_of:∀ m j,(W.vm m).on=true→j<5→(C.fr m).getD j 0∉l:=fun m j hm hj=>hnl _ (by rw[(h.frN hm hj).2];exact show (2:Int)≠0 by decide)
 have on_of:∀ i,(W.vm i).on=true→i≠n:=fun i hi e=>by subst e;rw[hoff] at hi;cases hi
 have ldn:∀ x i,x∉l→ld (makeD C.dat C.form l) x i=ld C.dat x i:=fun x i hx=>by unfold ld;rw[hdn x hx]
 have hroot:∀ m j,((W.newV n seats quota).vm m).on=true→j<4→unp C.form (ld (makeD C.dat C.form l) ((upd C.fr n l m).getD 0 0) j)=some ((upd C.fr n l m).getD (j+1) 0,true):=fun m j hm hj=>by
  by_cases e:m=n
  ·subst e
   rw[zl]
   have e1:ld (makeD C.dat C.form l) (l.getD 0 0) j=pk C.form (l.getD (j+1) 0) true:=zjw (by rw[hclr _ hr];exact hnb) (fun f hf=>by have:=(hfree f hf).1;omega) (by decide) hj
   rw[e1,zhc (by have:=(hfree _ (hmem (j+1) (by omega))).1;omega)]
  ·rw[vo m e] at hm
   rw[zh e,ldn _ _ (fr_of m 0 hm (by decide))]
   exact h.root m j hm hj
 have hwhere:∀ m p,(W.newV n seats quota).where_ m p=W.where_ m p:=fun m p=>rfl
 have hwn:∀ p,W.where_ n p=none:=fun p=>by
  unfold Wd.where_
  rw[h0.2.1]
  cases hf:leaseAt W.ls n p with
  | none=>rfl
  | some j=>
   obtain⟨_,h1,h2,_⟩:=qR hf
   have:=(h.wk.lsr j h1).2.2.1
   rw[h2,hoff] at this;cases this
 have hleaf:∀ m p,((W.newV n seats quota).vm m).on=true→p<32→LW C.form (ld (makeD C.dat C.form l) ((upd C.fr n l m).getD (p/8+1) 0) (p%8)) ((W.where_ m p).map fun q=>(φ q.1 q.2.1,q.2.2)):=fun m p hm hp=>by
  by_cases e:m=n
  ·subst e
   rw[zl,hwn]
   have e1:makeD C.dat C.form l (l.getD (p/8+1) 0)=noughts:=by
    unfold makeD
    rw[gD (hinj _ (by omega) (by omega)),hclr _ (hmem _ (by omega))]
   rw[zkx e1];exact⟨zbM,fun _=>rfl⟩
  ·rw[vo m e] at hm
   rw[zh e,ldn _ _ (fr_of m _ hm (by omega))]
   exact h.leaf m p hm hp
 exact { h with
  wk:=zoI h.wk hn hoff hs hq
  vm:=by show upd C.vm n _=upd W.vm n _;rw[h.vm]
  ev:=by show upd C.ev n _=upd W.ev n _;rw[h.ev]
  time:=fun i hi=>by
   show 0≤upd C.late n C.now i∧upd C.late n C.now i≤C.now∧upd W.time n 0 i=C.now-upd C.late n C.now i
   have hnow:=h.now
   by_cases e:i=n
   ·subst e;rw[zl,zl];omega
   ·rw[vo i e] at hi
    rw[zh e,zh e];exact h.time i hi
  alm:=fun i k=>by
   show C.alm i k=(W.alarm i k).map fun w=>min (w+upd C.late n C.now i) most64
   by_cases e:i=n
   ·subst e
    rw[h.alm i k,h0.2.2];rfl
   ·rw[zh e];exact h.alm i k
  free:=by
   show W.free-5=(count (fun f=>! u f) C.N:Int)
   have:=h.free
   omega
  used:=fun f hf=>by
   show u f=decide ((keepL C.own n l f).kind≠0)
   rw[hu,hown]
   by_cases e:f∈l
   ·rw[if_pos e];simp[e]
   ·rw[if_neg e,h.used f hf];simp[e]
  own0:=fun f hf hk=>by
   have hk':(keepL C.own n l f).kind=0:=hk
   show keepL C.own n l f=ow0
   rw[hown] at hk' ⊢
   by_cases e:f∈l
   ·rw[if_pos e] at hk';cases hk'
   ·rw[if_neg e] at hk' ⊢;exact h.own0 f hf hk'
  kind:=fun f hf=>by
   show 0≤(keepL C.own n l f).kind∧(keepL C.own n l f).kind≤3
   rw[hown]
   split
   ·exact⟨show (0:Int)≤2 by decide,show (2:Int)≤3 by decide⟩
   ·exact h.kind f hf
  len:=hlen
  off:=fun i hi=>by
   have e:i≠n:=fun e=>by subst e;rw[vn] at hi;cases hi
   rw[vo i e] at hi
   show upd C.fr n l i=[]∧upd C.tf n C.form i=0∧upd C.late n C.now i=0
   rw[zh e,zh e,zh e];exact h.off i hi
  tab:=fun i hi=>by
   show upd C.tf n C.form i=C.form∧(upd C.fr n l i).length=5∧(upd C.fr n l i).Nodup
   by_cases e:i=n
   ·subst e;rw[zl,zl];exact⟨rfl,hl5,hnd⟩
   ·rw[vo i e] at hi
    rw[zh e,zh e];exact h.tab i hi
  tabf:=fun m f hm=>by
   have hm':f∈upd C.fr n l m:=hm
   show f<C.N∧keepL C.own n l f=⟨2,m,0,0⟩
   rw[hown]
   by_cases e:m=n
   ·subst e
    rw[zl] at hm'
    rw[if_pos hm'];exact⟨(hfree f hm').1,rfl⟩
   ·rw[zh e] at hm'
    have:=h.tabf m f hm'
    rw[if_neg (hnl f (by rw[this.2];exact show (2:Int)≠0 by decide))];exact this
  tabk:=fun f hf h2=>by
   have h2':(keepL C.own n l f).kind=2:=h2
   rw[hown] at h2'
   by_cases e:f∈l
   ·exact⟨n,by show f∈upd C.fr n l n;rw[zl];exact e⟩
   ·rw[if_neg e] at h2'
    obtain⟨m,hm⟩:=h.tabk f hf h2'
    have hmn:m≠n:=fun e2=>by subst e2;rw[ht0.1] at hm;cases hm
    exact⟨m,by show f∈upd C.fr n l m;rw[zh hmn];exact hm⟩
  root:=hroot
  leaf:=hleaf
  pg:=fun m p l2 hl2=>by
   have h3:=h.pg m p l2 hl2
   have hnm:φ m p∉l:=hnl _ (by rw[h3.2.1];exact show (3:Int)≠0 by decide)
   refine⟨h3.1,?_,?_⟩
   ·show keepL C.own n l (φ m p)=_
    rw[hown,if_neg hnm];exact h3.2.1
   ·show makeD C.dat C.form l (φ m p)=l2
    rw[hdn _ hnm];exact h3.2.2
  pgk:=fun f hf h3=>by
   have h3':(keepL C.own n l f).kind=3:=h3
   rw[hown] at h3'
   by_cases e:f∈l
   ·rw[if_pos e] at h3';cases h3'
   ·rw[if_neg e] at h3';exact h.pgk f hf h3'
  hyp:=⟨h.hyp.1,fun f=>by
   show _↔f<C.N∧(keepL C.own n l f).kind=1
   rw[hown]
   by_cases e:f∈l
   ·rw[if_pos e,h.hyp.2 f,hk0 f e]
    exact⟨fun h=>(by cases h.2),fun h=>(by cases h.2)⟩
   ·rw[if_neg e];exact h.hyp.2 f⟩
  cache:=fun r hr'=>by
   obtain⟨m,h1,h2,h3⟩:=h.cache r hr'
   have hmn:=on_of m h2
   refine⟨m,h1,by rw[vo m hmn];exact h2,?_⟩
   show walkC (makeD C.dat C.form l) C.N (upd C.tf n C.form m) (upd C.fr n l m) r.page=_
   rw[zh hmn,zh hmn,←h3]
   by_cases hp:r.page<0∨31<r.page
   ·rw[zed hp]
    unfold walkC Go.Cr.leafC
    rw[if_pos hp]
   ·obtain⟨q,hq⟩:∃ q:Nat,r.page=q:=⟨r.page.toNat,by omega⟩
    have hf:=(h.tab m h2).1
    have hr2:=fun j hj=>hroot m j (by rw[vo m hmn];exact h2) hj
    simp only[zh hmn] at hr2
    have hl2:=(hleaf m q (by rw[vo m hmn];exact h2) (by omega)).1
    rw[zh hmn] at hl2
    rw[hq,zla (h.tab m h2).2.1 (fun j hj=>(h.frN h2 hj).1) (fun j hj=>by rw[hf];exact hr2 j hj) (by omega),hf,hl2,h.walk h2 (by omega)] }
def partB (img:List Int) (p:Nat):List Int:=(img.drop (256*p)).take 256
theorem zfT (img:List Int) (p:Nat):spB noughts 0 (partB img p)=pageB img p:=by
 unfold spB pageB fit256 partB
 rw[List.take_zero,List.nil_append,Nat.zero_add]
 congr 1
 unfold noughts
 rw[List.drop_replicate]
 congr 1
 rw[List.length_take];omega
theorem zkn {img:List Int} {p:Nat} (h:img.length≤256*p):pageB img p=noughts:=by
 unfold pageB fit256
 rw[List.drop_of_length_le h];rfl
theorem znc {img:List Int} (hb:Byt img) (p:Nat):(pageB img p).length=256∧Byt (pageB img p):=by
 refine⟨zkC _,fun x hx=>?_⟩
 unfold pageB fit256 at hx
 rcases List.mem_append.1 hx with h | h
 ·exact hb x (List.mem_of_mem_drop (List.mem_of_mem_take h))
 ·rw[List.eq_of_mem_replicate h];decide
theorem zlq {n p:Nat} {o o':Option (List Int)}:(W.setO n p o).setO n p o'=W.setO n p o':=by
 have e:upd (W.setO n p o).own n (upd ((W.setO n p o).own n) p o')=upd W.own n (upd (W.own n) p o'):=by
  show upd (upd W.own n (upd (W.own n) p o)) n (upd ((upd W.own n (upd (W.own n) p o)) n) p o')=_
  rw[gq,zl,gq]
 exact congrArg (fun x=>({ W with own:=x }:Wd)) e
theorem Rel.page (h:Rel C W φ) {n p f:Nat} {img:List Int} (hb:Byt img) (hon:(W.vm n).on=true) (hp:p<32) (hno:W.where_ n p=none) (hq:(W.pages n:Int)<(W.vm n).quota) (hf:firstOff C.used C.N=some f) :
  Rel { C with dat:=(if 256*p<img.length then wr (setC (upd C.dat f noughts) C.N (C.tf n) (C.fr n) p (pk (C.tf n) f true)) f 0 (partB img p) else setC (upd C.dat f noughts) C.N (C.tf n) (C.fr n) p (pk (C.tf n) f true)),cache:=dropC C.cache n p,own:=donC C.own f n p,used:=upd C.used f true } { W.setO n p (some (pageB img p)) with free:=W.free-1 } (upφ φ n p f):=by
 have hg:=h.get (l:=noughts) ⟨qX,fun x hx=>xK hx⟩ hon hp hno hq hf true rfl
 by_cases hl:256*p<img.length
 ·rw[if_pos hl]
  have ho:({ W.setO n p (some noughts) with free:=W.free-1 }:Wd).own n p=some noughts:=by
   show (W.setO n p (some noughts)).own n p=_
   rw[setO_own,if_pos ⟨rfl,rfl⟩]
  have h2:=hg.setO (l':=spB noughts 0 (partB img p)) ho (by rw[zfT];exact znc hb p)
  have hpg:=hg.pg n p noughts ho
  have eφ:upφ φ n p f n p=f:=by unfold upφ;rw[if_pos ⟨rfl,rfl⟩]
  rw[eφ] at h2 hpg
  have ed:(setC (upd C.dat f noughts) C.N (C.tf n) (C.fr n) p (pk (C.tf n) f true)) f=noughts:=hpg.2.2
  have ew:wr (setC (upd C.dat f noughts) C.N (C.tf n) (C.fr n) p (pk (C.tf n) f true)) f 0 (partB img p)=upd (setC (upd C.dat f noughts) C.N (C.tf n) (C.fr n) p (pk (C.tf n) f true)) f (spB noughts 0 (partB img p)):=by unfold wr;rw[ed]
  rw[ew]
  have eo:({ W.setO n p (some noughts) with free:=W.free-1 }:Wd).setO n p (some (spB noughts 0 (partB img p))) = { W.setO n p (some (pageB img p)) with free:=W.free-1 }:=by
   have:=zlq (W:=W) (n:=n) (p:=p) (o:=some noughts) (o':=some (spB noughts 0 (partB img p)))
   rw[zfT] at this ⊢
   exact congrArg (fun w=>({ w with free:=W.free-1 }:Wd)) this
  rw[eo] at h2
  exact h2
 ·rw[if_neg hl,zkn (by omega)]
  exact hg
def Wd.newP (W:Wd) (n:Nat) (seats quota:Int) (img:List Int) (i:Nat):Wd:=
 { W.newV n seats quota with free:=W.free-5-i,own:=upd W.own n fun p=>if p<i then some (pageB img p) else W.own n p }
theorem zlK {n:Nat} {seats quota:Int} {img:List Int}:W.newP n seats quota img 0=W.newV n seats quota:=by
 have e:upd W.own n (fun p=>if p<0 then some (pageB img p) else W.own n p)=W.own:=by
  have:(fun p=>if p<0 then some (pageB img p) else W.own n p)=W.own n:=by funext p;rw[if_neg (by omega)]
  rw[this,xV]
 unfold Wd.newP
 rw[e]
 show ({ W.newV n seats quota with free:=W.free-5-((0:Nat):Int),own:=W.own }:Wd)=_
 have:W.free-5-((0:Nat):Int)=W.free-5:=by omega
 rw[this];rfl
theorem zlL {n:Nat} {seats quota:Int} {img:List Int} {i:Nat}:({ (W.newP n seats quota img i).setO n i (some (pageB img i)) with free:=(W.newP n seats quota img i).free-1 }:Wd)=W.newP n seats quota img (i+1):=by
 have e:upd (W.newP n seats quota img i).own n (upd ((W.newP n seats quota img i).own n) i (some (pageB img i)))=(W.newP n seats quota img (i+1)).own:=by
  show upd (upd W.own n _) n (upd ((upd W.own n _) n) i (some (pageB img i)))=upd W.own n _
  rw[gq,zl]
  congr 1
  funext p
  unfold upd
  by_cases h1:p=i
  ·rw[if_pos h1,if_pos (by omega),h1]
  ·rw[if_neg h1]
   show (if p<i then some (pageB img p) else W.own n p)=_
   by_cases h2:p<i
   ·rw[if_pos h2,if_pos (by omega)]
   ·rw[if_neg h2,if_neg (by omega)]
 have ef:(W.newP n seats quota img i).free-1=(W.newP n seats quota img (i+1)).free:=by
  show W.free-5-(i:Int)-1=W.free-5-((i+1:Nat):Int)
  omega
 have key:∀ (a b:Int) (o o':Nat→Nat→Option (List Int)),a=b→o=o'→({ W.newV n seats quota with free:=a,own:=o }:Wd) = { W.newV n seats quota with free:=b,own:=o' }:=by
  rintro a b o o' rfl rfl;rfl
 exact key _ _ _ _ ef e
theorem zkr (h:WOk W) {n:Nat} (hoff:(W.vm n).on=false) {seats quota:Int} {img:List Int} {i p:Nat} (hp:i≤p):(W.newP n seats quota img i).where_ n p=none:=by
 have h0:=h.off n hoff
 apply zaT
 ·show upd W.own n _ n p=none
  rw[zl,if_neg (by omega)];exact h0.2.1 p
 ·show leaseAt W.ls n p=none
  cases hf:leaseAt W.ls n p with
  | none=>rfl
  | some j=>
   obtain⟨_,h1,h2,_⟩:=qR hf
   have:=(h.lsr j h1).2.2.1
   rw[h2,hoff] at this;cases this
theorem zks (h:WOk W) {n:Nat} (hoff:(W.vm n).on=false) {seats quota:Int} {img:List Int} {i:Nat}:(W.newP n seats quota img i).pages n≤i:=by
 have h0:=h.off n hoff
 have key:∀ m,count (fun p=>((W.newP n seats quota img i).own n p).isSome) m≤min i m:=by
  intro m
  induction m with
  | zero=>simp[count]
  | succ m ih=>
   rw[qG]
   by_cases e:m<i
   ·have:(((W.newP n seats quota img i).own n m).isSome).toNat≤1:=Bool.toNat_le _
    omega
   ·have:((W.newP n seats quota img i).own n m).isSome=false:=by
     show (upd W.own n _ n m).isSome=false
     rw[zl,if_neg e,h0.2.1];rfl
    rw[this]
    have:Bool.toNat false=0:=rfl
    omega
 have:=key 32
 exact Nat.le_trans this (Nat.min_le_left _ _)
end
end
end Go.Cr
namespace Go.Proofs.YthaiblbnpcgjpaaGreatDoor
section
open Go Go.Pt Go.Cr Go.Hp
abbrev pg (b:Nat):Sl:=⟨some (b,0),256,256⟩
structure Pages (S S':Mem) (bs:List Nat):Prop where
 nodup:bs.Nodup
 at_:∀ b∈bs,S b=none∧S' b=some (bw 5 (bL noughts))
 keep:Keeps S S' []
def nilS:Value:=.slice none 0 0
theorem znY:zrep 256 [Value.int .u8 0]=bL noughts:=by
 rw[zgl];rfl
section
variable {S:Mem}
theorem zkP {Q:List Value→Mem→Prop} (hQ:∀ b0 b1 b2 b3 S',Pages S S' [b0,b1,b2,b3]→Q [eL (pg b0),eL (pg b1),eL (pg b2),eL (pg b3)] S'):zbo S Q:=by
 apply zgo
 unfold fb
 simp only[jn]
 refine zC (fun (z:Int×List Value) S'=>∃ bs:List Nat,z=((bs.length:Int),bs.map (fun b=>eL (pg b))++List.replicate (4-bs.length) nilS)∧bs.length≤4∧Pages S S' bs) (fun z=>(4-z.1).toNat) ?_ ⟨[],rfl,by simp,by simp,by simp,Keeps.refl⟩
 rintro X z S' ⟨bs,rfl,hl,hP⟩ ih
 dsimp only at ih ⊢
 have hlen:(bs.map (fun b=>eL (pg b))++List.replicate (4-bs.length) nilS).length=4:=by simp;omega
 refine⟨hlen,?_⟩
 by_cases hlt:(bs.length:Int)<4
 ·rw[if_pos hlt]
  intro b hb
  refine⟨by omega,hlt,?_⟩
  rw[w64 (by omega) (by omega),znY]
  have hbS:=zgQ hP.keep hb
  have hnb:b∉bs:=fun h=>by have:=(hP.at_ b h).2;rw[hb] at this;cases this
  refine ih _ _ ⟨bs++[b],?_,by simp;omega,⟨?_,?_,hP.keep.new hb⟩⟩ (by simp only;omega)
  ·have e:spl (bs.map (fun b=>eL (pg b))++List.replicate (4-bs.length) nilS) (0+(bs.length:Int).toNat*1) [.slice (some ⟨b,0,none⟩) 256 256]=(bs++[b]).map (fun b=>eL (pg b))++List.replicate (4-(bs++[b]).length) nilS:=by
    rw[show 0+(bs.length:Int).toNat*1=bs.length by omega,xi _ _ _ (by rw[hlen];omega)]
    rw[List.take_left' (by simp),←List.drop_drop,List.drop_left' (by simp),show 4-bs.length=(4-(bs++[b]).length)+1 by simp;omega,List.replicate_succ]
    simp
    rfl
   rw[e];simp
  ·rw[List.nodup_append]
   exact⟨hP.nodup,by simp,fun x hx y hy e=>by simp at hy;subst hy;subst e;exact hnb hx⟩
  ·intro x hx
   rcases List.mem_append.1 hx with hx | hx
   ·have hxb:x≠b:=fun e=>hnb (e ▸ hx)
    exact⟨(hP.at_ x hx).1,by rw[zO hxb];exact (hP.at_ x hx).2⟩
   ·rw[List.mem_singleton] at hx;subst hx;exact⟨hbS,zz⟩
 ·rw[if_neg hlt]
  have h4:bs.length=4:=by omega
  match bs,h4 with
  | [b0,b1,b2,b3],_=>exact⟨rfl,rfl,hQ b0 b1 b2 b3 S' hP⟩
structure Made (S S':Mem) (n:Nat) (ss:Sl) (bs:List Nat):Prop where
 pages:Pages S S' bs
 row:Row S' 26 ss ((List.replicate n seat0).flatMap Seat.L)
 fresh:∀ x o,ss.p=some (x,o)→S x=none∧x∉bs
def mk12 (ss:Sl) (quota:Int) (b0 b1 b2 b3:Nat):List Value:=[.bool true,eL ss,.int .i64 0,.slice none 0 0,.int .i64 quota,.int .u64 0,.slice none 0 0,eL (pg b0),eL (pg b1),eL (pg b2),eL (pg b3),.int .u32 0]
theorem zqk:∀ n,∀ s∈List.replicate n seat0,s.Ok:=fun n s hs=>by rw[List.eq_of_mem_replicate hs];exact zjp
theorem zql (n:Nat):((List.replicate n seat0).flatMap Seat.L).length=n*26:=by rw[zfO (zqk n),List.length_replicate]
theorem zlR {n:Nat} {quota:Int} (h1:1≤n) (h2:n≤3) (h3:1≤quota) (h4:quota≤32) {Q:List Value→Int→Mem→Prop}
  (hQ:∀ ss b0 b1 b2 b3 S',Made S S' n ss [b0,b1,b2,b3]→Q (mk12 ss quota b0 b1 b2 b3) 0 S'):zav S n quota Q:=by
 apply zdv
 unfold jI
 simp only[jn]
 rw[if_neg (by omega),if_neg (by omega),if_neg (by omega),if_neg (by omega)]
 refine⟨rfl,zkP fun b0 b1 b2 b3 S1 hP=>⟨rfl,?_⟩⟩
 refine zC (fun (z:Int×List Value) S'=>∃ (k:Nat) (ss:Sl),z=((k:Int),mk12 ss quota b0 b1 b2 b3)∧k≤n∧Made S S' k ss [b0,b1,b2,b3]) (fun z=>(n-z.1).toNat) ?_
  ⟨0,⟨none,0,0⟩,rfl,by omega,hP,Row.nil,fun x o h=>by cases h⟩
 rintro X z S2 ⟨k,ss,rfl,hk,hM⟩ ih
 dsimp only at ih ⊢
 refine⟨rfl,?_⟩
 by_cases hlt:(k:Int)<(n:Int)
 ·rw[if_pos hlt,wj (show nthL (mk12 ss quota b0 b1 b2 b3) 1=some (eL ss) from rfl)]
  apply zjX
  unfold zdm
  refine⟨rfl,?_⟩
  have hsn:ss.n=k:=by
   have:=hM.row.len
   rw[zql] at this;omega
  refine wS hM.row rfl (by decide) (by kernel_rfl) (by omega) fun s' S3 b q e1 e2 e3 e4 e5=>?_
  have hb:S b=none∧b∉[b0,b1,b2,b3]:=by
   rcases e3 with e3 | e3
   ·exact hM.fresh b 0 e3
   ·refine⟨zgQ hM.pages.keep e3,fun hm=>?_⟩
    have:=(hM.pages.at_ b hm).2
    rw[e3] at this;cases this
  rw[w64 (by omega) (by omega)]
  refine ih _ _ ⟨k+1,s',?_,by omega,⟨⟨hM.pages.nodup,fun x hx=>⟨(hM.pages.at_ x hx).1,?_⟩,?_⟩,?_,?_⟩⟩ (by simp only;omega)
  ·have:spl (mk12 ss quota b0 b1 b2 b3) 1 [eL s']=mk12 s' quota b0 b1 b2 b3:=rfl
   rw[this];simp
  ·rw[e4,zO (fun e=>by subst e;exact hb.2 hx)];exact (hM.pages.at_ x hx).2
  ·rw[e4];exact hM.pages.keep.fresh hb.1
  ·have e:(List.replicate (k+1) seat0).flatMap Seat.L=(List.replicate k seat0).flatMap Seat.L++seat0.L:=by
    rw[List.replicate_succ',List.flatMap_append];simp
   rw[e];exact e5
  ·intro x o hx;rw[e2] at hx;cases hx;exact hb
 ·rw[if_neg hlt]
  have:k=n:=by omega
  subst this
  exact⟨rfl,rfl,hQ ss b0 b1 b2 b3 S2 hM⟩
theorem znm {seats quota:Int} (h:seats<1∨3<seats∨quota<1∨32<quota) {Q:List Value→Int→Mem→Prop} (hQ:∀ t,t.all (·.oneCell')=true→Q t 1 S):zav S seats quota Q:=by
 apply zdv
 unfold jI
 simp only[jn]
 by_cases h1:seats<1
 ·rw[if_pos h1];exact hQ _ rfl
 rw[if_neg h1]
 by_cases h2:3<seats
 ·rw[if_pos h2];exact hQ _ rfl
 rw[if_neg h2]
 by_cases h3:quota<1
 ·rw[if_pos h3];exact hQ _ rfl
 rw[if_neg h3,if_pos (by omega)]
 exact hQ _ rfl
variable {ρ:Rho} {m N:Nat} {d:Nat→List Int}
theorem zku (h:StoreD S ρ m N d) (hg:∀ b r,ρ b=some r→S b≠none) {form:Int} (hform:form=1∨form=2) {l:List Nat} {t:Sl} {r c:Nat} (hr:r≠2) (hrow:Rw S ρ r 1 t (nL l)) (hc:t.p=some (c,0)) (h5:5≤l.length) (hl:∀ f∈l,f<N) {Q:List Value→Int→Mem→Prop}
  (hQ:∀ t' S',Mv S ρ S' ρ (· = 2)→StoreD S' ρ m N (makeD d form (l.take 5))→Row S' 1 t' (nL (l.take 5))→(∀ b o,t'.p=some (b,o)→S b=none∧ρ b=none)→Q (tbL form t') 0 S'):zan S (some (m,0)) form ⟨some (c,0),5,t.c⟩ Q:=by
 have hN:=h.lim
 have htn:=hrow.n (by decide) (gg l)
 have hcap:=hrow.row.cap
 have hget:∀ {S':Mem},Rw S' ρ r 1 t (nL l)→∀ i (hi:i<l.length) {x:Nat},x=i→S'.cell c x=some (.int .i64 (l[i]:Nat)):=fun hr i hi x hx=>by
  rw[hr.cell hc i (by rw[gg];omega) hx];exact zjF hi
 apply zhg
 unfold zab
 refine zZ (fun J=>J [.int .i64 0,.slice none 0 0] S) ?_ fun J hJ=>?_
 rotate_left
 ·rw[if_neg (by simp)]
  by_cases h1:form=1
  ·rw[if_neg (fun h=>h h1)];exact hJ
  ·rw[if_pos h1,if_neg (by omega)];exact hJ
 refine⟨rfl,?_⟩
 simp only[jn]
 refine zC (fun (z:Int×List Value) S'=>∃ (i:Nat) (v:List Value),z=((i:Int),v)∧v.length=2∧i≤5∧Mv S ρ S' ρ (· = 2)∧StoreD S' ρ m N (clrD d (l.take i))∧Rw S' ρ r 1 t (nL l)) (fun z=>5-z.1.toNat) ?_ ⟨0,_,rfl,rfl,by omega,Mv.refl hg,h,hrow⟩
 rintro X z S1 ⟨i,v,rfl,hv,hi,m1,hs1,hr1⟩ ih
 dsimp only at ih ⊢
 refine⟨hv,?_⟩
 by_cases hlt:(i:Int)<((5:Nat):Int)
 ·rw[if_pos hlt,fi]
  refine⟨by omega,hlt,?_⟩
  have hil:i<l.length:=by omega
  rw[Int.toNat_natCast,zx (hget hr1 i hil (by omega))]
  refine clearD hs1 m1.rg (hl _ (List.getElem_mem hil)) fun S2 m2 hs2=>?_
  rw[if_neg (by decide),w64 (by omega) (by omega)]
  refine ih _ S2 ⟨i+1,v,rfl,hv,by omega,m1.trans m2,?_,hr1.keep m2 hr⟩ (by dsimp only;omega)
  have e:clrD d (l.take (i+1))=upd (clrD d (l.take i)) l[i] noughts:=by
   unfold clrD
   rw[List.take_succ_eq_append_getElem hil,List.foldl_append];rfl
  rw[e];exact hs2
 ·rw[if_neg hlt]
  have h5i:i=5:=by omega
  subst h5i
  refine⟨hv,by decide,by decide,by show ((5:Nat):Int)≤(t.c:Int);omega,?_⟩
  have es:slc 1 ⟨some (c,0),5,t.c⟩ 1 ((5:Nat):Int)=⟨some (c,1),4,t.c-1⟩:=by
   unfold slc
   have e1:(1:Int).toNat=1:=rfl
   simp only[e1]
   rw[if_neg (by omega)];rfl
  show lp _ 0 S1
  refine zC (fun (z:Int) S'=>∃ i:Nat,z=(i:Int)∧i≤4∧Mv S ρ S' ρ (· = 2)∧StoreD S' ρ m N (rootD (clrD d (l.take 5)) form ((l.take 5).getD 0 0) (l.take 5) i)∧Rw S' ρ r 1 t (nL l)) (fun z=>4-z.toNat) ?_ ⟨0,rfl,by omega,m1,hs1,hr1⟩
  rintro Y z S2 ⟨j,rfl,hj,m2,hs2,hr2⟩ ih2
  rw[es]
  have e0:(l.take 5).getD 0 0=l[0]:=by rw[List.getD_eq_getElem?_getD,List.getElem?_take,if_pos (by decide),List.getElem?_eq_getElem (by omega)];rfl
  by_cases hlt2:(j:Int)<((4:Nat):Int)
  ·rw[if_pos hlt2,fi]
   have hjl:j+1<l.length:=by omega
   refine⟨by omega,hlt2,?_⟩
   rw[Int.toNat_natCast,zx (hget hr2 (j+1) hjl (by omega)),fi]
   refine⟨by decide,?_⟩
   rw[zx (hget hr2 0 (by omega) rfl)]
   have hf1:=hl _ (List.getElem_mem hjl)
   have hf0:=hl _ (List.getElem_mem (show 0<l.length by omega))
   refine zcO (by omega) ?_
   refine⟨hget hr2 0 (by omega) rfl,?_⟩
   refine saveD hs2 m2.rg (by omega) (zpi (by omega)).1 fun e S3 m3 hs3=>?_
   rw[if_pos hf0] at hs3
   rw[w64 (by omega) (by omega)]
   refine ih2 _ S3 ⟨j+1,rfl,by omega,m2.trans m3,?_,hr2.keep m3 hr⟩ (by omega)
   have e1:(l.take 5).getD (j+1) 0=l[j+1]:=by rw[List.getD_eq_getElem?_getD,List.getElem?_take,if_pos (by omega),List.getElem?_eq_getElem (by omega)];rfl
   rw[rootD,e1,e0]
   rw[e0] at hs3
   exact hs3
  ·rw[if_neg hlt2]
   have:j=4:=by omega
   subst this
   have hnl5:(nL (l.take 5)).length=5:=by rw[gg,List.length_take];omega
   refine⟨nL (l.take 5),.inr ⟨c,0,rfl,?_⟩,?_,?_⟩
   ·show S2.part c 0 (5*1)=_
    rw[hr2.part hc 0 (by rw[gg];omega) rfl]
    have e:nL l=nL (l.take 5)++nL (l.drop 5):=by unfold nL;rw[←List.map_append,List.take_append_drop]
    have e2:5*1=(nL (l.take 5)).length:=by rw[hnl5]
    rw[e,e2,kF (by omega),ze rfl]
   ·unfold nL;rw[List.all_map];exact List.all_eq_true.2 fun x _=>rfl
   ·refine znX (m:=5) (by rw[hnl5]) rfl (by decide) fun t' S3 _ hrow3 hk3 hf3=>?_
    refine hQ t' S3 (m2.trans (Mv.keeps m2.rg hk3)) (hs2.keeps hk3) hrow3 fun b o hb=>?_
    have hb2:=hf3 b o hb
    refine⟨?_,?_⟩
    ·cases hs:S b with
     | none=>rfl
     | some k=>exact absurd hb2 (m2.al b (by rw[hs];simp))
    ·cases hq:ρ b with
     | none=>rfl
     | some q=>exact absurd hb2 (m2.rg b q hq)
end
end
end Go.Proofs.YthaiblbnpcgjpaaGreatDoor
section
namespace Go.Cr
open Go Go.Pt
theorem zep {N:Nat}:∀ {i k:Nat} {u u':Nat→Bool} {l:List Nat},takeN N (i+k) u=some (l,u')→∃ u1,takeN N i u=some (l.take i,u1)∧takeN N k u1=some (l.drop i,u')
 | 0,k,u,u',l,h=>by
  rw[Nat.zero_add] at h
  exact⟨u,by simp[takeN],by simpa using h⟩
 | i+1,k,u,u',l,h=>by
  rw[show i+1+k=(i+k)+1 by omega] at h
  simp only[takeN] at h
  cases h1:firstOff u N with
  | none=>rw[h1] at h;cases h
  | some f=>
   rw[h1] at h
   dsimp only at h
   cases h2:takeN N (i+k) (upd u f true) with
   | none=>rw[h2] at h;cases h
   | some q=>
    obtain⟨l2,u2⟩:=q
    rw[h2] at h
    simp only[Option.some.injEq,Prod.mk.injEq] at h
    obtain⟨rfl,rfl⟩:=h
    obtain⟨u1,h3,h4⟩:=zep h2
    refine⟨u1,?_,by simpa using h4⟩
    have e:takeN N (i+1) u=(match firstOff u N with
     | none=>none
     | some f=>match takeN N i (upd u f true) with
      | none=>none
      | some (l,u')=>some (f :: l,u')):=rfl
    rw[e]
    simp only[h1,h3]
    rfl
theorem zjT {N k:Nat} {u u':Nat→Bool} {f:Nat} {l:List Nat} (h:takeN N (k+1) u=some (f :: l,u')):firstOff u N=some f∧takeN N k (upd u f true)=some (l,u'):=by
 simp only[takeN] at h
 cases h1:firstOff u N with
 | none=>rw[h1] at h;cases h
 | some g=>
  rw[h1] at h
  dsimp only at h
  cases h2:takeN N k (upd u g true) with
  | none=>rw[h2] at h;cases h
  | some q=>
   obtain⟨l2,u2⟩:=q
   rw[h2] at h
   simp only[Option.some.injEq,Prod.mk.injEq,List.cons.injEq] at h
   obtain⟨⟨rfl,rfl⟩,rfl⟩:=h
   exact⟨rfl,h2⟩
end Go.Cr
namespace Go.Proofs.YthaiblbnpcgjpaaGreatDoor
open Go Go.Pt Go.Cr Go.Hp
structure ImgAt (S:Mem) (ρ:Rho) (s:Sl) (xs:List Int):Prop where
 len:xs.length=s.n
 cap:s.n≤s.c
 byt:Byt xs
 lie:xs=[]∨∃ b o,s.p=some (b,o)∧S.part b o xs.length=some (bL xs)∧ρ b=none∧S b≠none
section
variable {S S':Mem} {ρ ρ':Rho} {R:Nat→Prop} {h:Nat} {A:Ad} {C:Cst} {W:Wd} {φ:Nat→Nat→Nat}
theorem ImgAt.mv {s:Sl} {xs:List Int} (hi:ImgAt S ρ s xs) (m:Mv S ρ S' ρ' R):ImgAt S' ρ' s xs:=by
 refine⟨hi.len,hi.cap,hi.byt,hi.lie.imp id fun⟨b,o,h1,h2,h3,h4⟩=>?_⟩
 have e:S' b=S b:=m.kp b h4 fun r e=>by rw[h3] at e;cases e
 refine⟨b,o,h1,?_,?_,by rw[e];exact h4⟩
 ·obtain⟨k,e1,e2⟩:=zhy h2
  rw[yp (by rw[e];exact e1)];exact e2
 ·cases hq:ρ' b with
  | none=>rfl
  | some r=>have:=m.old b r hq h4;rw[h3] at this;cases this
theorem kH {r size:Nat} {t:Sl} {l:List Value} (m:Mv S ρ S' ρ' R) (hrow:Row S' size t l) (hf:∀ b o,t.p=some (b,o)→S b=none∧ρ' b=none) (h0:S 0≠none) :
  ∃ ρ'',Mv S ρ S' ρ'' R∧Wide S' ρ' ρ''∧Rw S' ρ'' r size t l∧∀ x,(∀ o,t.p≠some (x,o))→ρ'' x=ρ' x:=by
 rcases hrow.lie with ⟨h1,_⟩ | ⟨b,k,h1,h2,_⟩
 ·exact⟨ρ',m,⟨fun _ _ h=>h,m.rg,fun h=>h⟩,⟨hrow,fun b o h=>by rw[h1] at h;cases h⟩,fun _ _=>rfl⟩
 ·obtain⟨hb,hb2⟩:=hf b 0 h1
  have hs:S' b≠none:=by rw[h2];simp
  refine⟨ρ'.upd b r,⟨fun x q e=>?_,fun x q e hx=>?_,m.kp,m.al,fun x q e=>?_⟩,⟨fun x q e=>?_,fun x q e=>?_,fun e=>?_⟩,⟨hrow,fun b' o h=>by rw[h1] at h;cases h;exact yL⟩,fun x hx=>?_⟩
  ·rw[ye (fun e2=>by have:=m.ext x q e;rw[e2,hb2] at this;cases this)];exact m.ext x q e
  ·rw[ye (fun e2=>hx (by rw[e2];exact hb))] at e;exact m.old x q e hx
  ·by_cases e2:x=b
   ·rw[e2];exact hs
   ·rw[ye e2] at e;exact m.rg x q e
  ·rw[ye (fun e2=>by rw[e2,hb2] at e;cases e)];exact e
  ·by_cases e2:x=b
   ·rw[e2];exact hs
   ·rw[ye e2] at e;exact m.rg x q e
  ·rw[ye (fun e2=>h0 (by rw[e2];exact hb))];exact e
  ·exact ye fun e=>hx 0 (by rw[e];exact h1)
theorem Wide.trans {ρ'':Rho} (h1:Wide S ρ ρ') (h2:Wide S ρ' ρ''):Wide S ρ ρ'':=⟨fun b r e=>h2.ext b r (h1.ext b r e),h2.rg,fun e=>h2.g0 (h1.g0 e)⟩
theorem zju {b:Nat} (hb:S b=some (bw 5 (bL noughts))):Row S 1 (pg b) (bL noughts):=by
 have hl:(bL noughts).length=256:=by unfold bL;rw[List.length_map];exact qX
 refine⟨by rw[hl];rfl,Nat.le_refl _,.inr ⟨b,_,rfl,hb,rfl,?_,?_⟩⟩
 ·show (bL noughts).length=256*1;rw[hl]
 ·show (bL noughts).take (256*1)=_
  exact List.take_of_length_le (by rw[hl];decide)
theorem pagesLoop {n:Nat} (hn:n<6) {seats quota:Int} (hwk:WOk W) (hoff:(W.vm n).on=false) {pages:Nat} (hp:pages≤32) (hpq:(pages:Int)≤quota) {img:Sl} {xs:List Int} {t:Sl} {l:List Nat} {c:Nat} {u:Nat→Bool} (hll:l.length=5+pages) (hlN:∀ f∈l,f<C.N)
  (hcC:CrabA S ρ h A C) (hu:C.used=u) {u0:Nat→Bool} (htk:takeN C.N pages u0=some (l.drop 5,u)) (hrel:Rel { C with used:=u0 } (W.newV n seats quota) φ)
  (hrow:Rw S ρ 102 1 t (nL l)) (hc:t.p=some (c,0)) (himg:ImgAt S ρ img xs) (hil:(xs.length:Int)≤1000000) {Q:Mem→Prop}
  (hQ:∀ S',After h A C S ρ (W.newP n seats quota xs pages) S'→Q S') :
  lp (fun (Xx:Int→Mem→Prop) (t_15:Int) (Sx_11:Mem)=>
   if t_15<((slc 1 t 5 (t.n:Int)).n:Int) then
    sl (slc 1 t 5 (t.n:Int)) fun b_5 o_4 n_1 n_2=>
    0≤t_15∧t_15<((n_1:Nat):Int) ∧
    gI (Sx_11.cell b_5 (o_4+t_15.toNat*1)) .i64 fun t_16=>
    crab_Crab_own Sx_11 (some (h,0)) n t_15 t_16 fun Sx_12=>
    if IntKind.i64.wrap (256*t_15)<(img.n:Int) then
     gP (Sx_12.cell h 0) fun t_17=>
     (0:Int)≤IntKind.i64.wrap (256*t_15)∧(IntKind.i64.wrap (256*t_15):Int)≤(if (img.n:Int)<IntKind.i64.wrap ((IntKind.i64.wrap (256*t_15))+256) then (img.n:Int) else IntKind.i64.wrap ((IntKind.i64.wrap (256*t_15))+256))∧(if (img.n:Int)<IntKind.i64.wrap ((IntKind.i64.wrap (256*t_15))+256) then (img.n:Int) else IntKind.i64.wrap ((IntKind.i64.wrap (256*t_15))+256))≤(img.c:Int) ∧
     lt (slc 1 img (IntKind.i64.wrap (256*t_15)) (if (img.n:Int)<IntKind.i64.wrap ((IntKind.i64.wrap (256*t_15))+256) then (img.n:Int) else IntKind.i64.wrap ((IntKind.i64.wrap (256*t_15))+256))) fun t_18=>
     qg Sx_12 t_17 t_16 0 t_18 fun t_19 Sx_13=>
     Xx (IntKind.i64.wrap (t_15+1)) Sx_13
    else
    Xx (IntKind.i64.wrap (t_15+1)) Sx_12
   else Q Sx_11) 0 S:=by
 have htn:=hrow.n (by decide) (gg l)
 have hcap:=hrow.row.cap
 have es:slc 1 t 5 (t.n:Int)=if t.c=5 then ⟨some (c,0),pages,t.c-5⟩ else ⟨some (c,5),pages,t.c-5⟩:=by
  unfold slc
  rw[hc]
  have e1:(5:Int).toNat=5:=rfl
  have e2:((t.n:Int)-5).toNat=pages:=by omega
  rw[e1,e2]
  split <;> rfl
 have hN:=hcC.st.lim
 refine zC (fun (z:Int) S'=>∃ (i:Nat) (ρ':Rho) (A':Ad) (C':Cst) (φ':Nat→Nat→Nat) (ui:Nat→Bool),z=(i:Int)∧i≤pages∧Mv S ρ S' ρ' Rc∧CrabA S' ρ' h A' C'∧C'.used=u∧Kp C C'∧A'.t=A.t∧A'.m=A.m∧A'.x=A.x∧takeN C.N (pages-i) ui=some (l.drop (5+i),u)∧Rel { C' with used:=ui } (W.newP n seats quota xs i) φ'∧Rw S' ρ' 102 1 t (nL l)) (fun z=>pages-z.toNat) ?_
  ⟨0,ρ,A,C,φ,u0,rfl,by omega,Mv.refl hcC.rg,hcC,hu,Kp.refl,rfl,rfl,rfl,by simpa using htk,by rw[zlK];exact hrel,hrow⟩
 rintro X z S1 ⟨i,ρ1,A1,C1,φ1,ui,rfl,hi,m1,hc1,hu1,kp1',ht1,hm1,hx1,htk1,hr1,hrow1⟩ ih
 by_cases hlt:(i:Int)<((slc 1 t 5 (t.n:Int)).n:Int)
 ·rw[if_pos hlt]
  have hip:i<pages:=by rw[es] at hlt;split at hlt <;> (dsimp only at hlt;omega)
  have htc:¬t.c=5:=by omega
  rw[if_neg htc] at es
  rw[es,fi]
  refine⟨by omega,by omega,?_⟩
  have h5i:5+i<l.length:=by omega
  rw[Int.toNat_natCast,zx (by rw[hrow1.cell hc (5+i) (by rw[gg];omega) (by omega)];exact zjF h5i)]
  have hdrop:l.drop (5+i)=l[5+i] :: l.drop (5+(i+1)):=by rw[List.drop_eq_getElem_cons h5i];rfl
  rw[show pages-i=(pages-(i+1))+1 by omega,hdrop] at htk1
  obtain⟨hff,htk2⟩:=zjT htk1
  have hfN:l[5+i]<C1.N:=by rw[kp1'.N];exact hlN _ (List.getElem_mem h5i)
  have hcs:=hr1.csize
  have hcs':C1.cache.length≤100:=by have:C1.cache.length≤8:=hcs;omega
  have hon:((W.newP n seats quota xs i).vm n).on=true:=by
   show (upd W.vm n _ n).on=true
   rw[zl];rfl
  have hq:((W.newP n seats quota xs i).vm n).quota=quota:=by
   show (upd W.vm n _ n).quota=_
   rw[zl];rfl
  have hpg:=zks hwk hoff (seats:=seats) (quota:=quota) (img:=xs) (i:=i)
  have hrp:=hr1.page (n:=n) (p:=i) (f:=l[5+i]) himg.byt hon (by omega) (zkr hwk hoff (Nat.le_refl i)) (by rw[hq];omega) (by show firstOff ui C1.N=_;rw[kp1'.N];exact hff)
  rw[zlL] at hrp
  refine zjA hc1 hn (by omega) hfN hcs' fun S2 ρ2 cs m2 hc2=>?_
  have hrow2:Rw S2 ρ2 102 1 t (nL l):=hrow1.keep m2 (by decide)
  have m12:Mv S ρ S2 ρ2 Rc:=m1.trans (m2.mono fun r hr=>by unfold Rc;omega)
  have himg2:=himg.mv m12
  have hlen:=himg.len
  have hicap:=himg.cap
  rw[w64 (x:=256*(i:Int)) (by omega) (by omega),w64 (x:=256*(i:Int)+256) (by omega) (by omega),w64 (x:=(i:Int)+1) (by omega) (by omega)]
  by_cases hat:256*(i:Int)<(img.n:Int)
  ·rw[if_pos hat,zS hc2.c0]
   have hpl:(partB xs i).length=min 256 (xs.length-256*i):=by unfold partB;rw[List.length_take,List.length_drop]
   rw[if_pos (by omega)] at hrp
   generalize hmx:(if (img.n:Int)<256*(i:Int)+256 then (img.n:Int) else 256*(i:Int)+256)=mx
   have hmx2:mx=256*(i:Int)+(partB xs i).length:=by
    rw[←hmx,hpl]
    split <;> omega
   refine⟨by omega,by omega,by omega,?_⟩
   rcases himg2.lie with h0 | ⟨b,o,hb1,hb2,hb3,hb4⟩
   ·rw[h0] at hlen;simp at hlen;omega
   have eimg:slc 1 img (256*(i:Int)) mx=⟨some (b,o+256*i),(partB xs i).length,img.c-256*i⟩:=by
    unfold slc
    rw[hb1]
    have e1:(256*(i:Int)).toNat=256*i:=by omega
    have e2:(mx-256*(i:Int)).toNat=(partB xs i).length:=by omega
    rw[e1,e2,if_neg (by omega)]
    simp
   show qg S2 (some (A1.m,0)) l[5+i] 0 (slc 1 img (256*(i:Int)) mx) _
   rw[eimg]
   have hpart:S2.part b (o+256*i) ((partB xs i).length*1)=some (bL (partB xs i)):=by
    obtain⟨k,e1,e2⟩:=zhy hb2
    have e3:=qE e2
    rw[yp e1,qA (by omega)]
    refine congrArg some ?_
    have e4:(k.cs.drop o).take xs.length=bL xs:=e3.2.1
    unfold partB
    have e5:bL ((xs.drop (256*i)).take 256)=((bL xs).drop (256*i)).take 256:=by unfold bL;rw[List.map_take,List.map_drop]
    rw[e5,←e4]
    apply List.ext_getElem?
    intro j
    simp only[List.getElem?_take,List.getElem?_drop,List.length_take,List.length_drop,Nat.mul_one]
    by_cases hj:j<min 256 (xs.length-256*i)
    ·rw[if_pos hj,if_pos (by omega),if_pos (by omega)]
     exact congrArg (fun x=>k.cs[x]?) (by omega)
    ·rw[if_neg hj]
     by_cases hj2:j<256
     ·rw[if_pos hj2,if_neg (by omega)]
     ·rw[if_neg hj2]
   have hbp:Byt (partB xs i):=fun x hx=>himg.byt x (List.mem_of_mem_drop (List.mem_of_mem_take hx))
   refine writeD hc2.st hc2.rg (off:=0) hfN ⟨b,_,rfl,hpart⟩ rfl (fun e=>by rw[e] at hpl;simp at hpl;omega) (by omega) hbp fun S3 m3 hs3=>?_
   have hc3:=hc2.setStore m3 hs3
   refine ih _ S3 ⟨i+1,ρ2,{ A1 with cs:=cs },_,_,upd ui l[5+i] true,rfl,by omega,m12.trans (m3.mono fun r hr=>by unfold Rc;omega),hc3,hu1,kp1'.trans kp1,ht1,hm1,hx1,?_,hrp,hrow2.keep m3 (by decide)⟩ (by omega)
   rw[show pages-(i+1)=pages-(i+1) from rfl]
   exact htk2
  ·rw[if_neg hat]
   rw[if_neg (by omega)] at hrp
   exact ih _ S2 ⟨i+1,ρ2,{ A1 with cs:=cs },_,_,upd ui l[5+i] true,rfl,by omega,m12,hc2,hu1,kp1'.trans kp1,ht1,hm1,hx1,htk2,hrp,hrow2⟩ (by omega)
 ·rw[if_neg hlt]
  have hie:i=pages:=by rw[es] at hlt;split at hlt <;> (dsimp only at hlt;omega)
  subst hie
  rw[Nat.sub_self] at htk1
  simp only[takeN,Option.some.injEq,Prod.mk.injEq] at htk1
  have hr2:Rel C1 (W.newP n seats quota xs i) φ1:=by
   have e:({ C1 with used:=ui }:Cst)=C1:=by rw[htk1.2,←hu1]
   rw[e] at hr1;exact hr1
  exact hQ S1 ⟨ρ1,A1,C1,φ1,m1,hc1,hr2,kp1',ht1,fun j=>by rw[hx1]⟩
end
end Go.Proofs.YthaiblbnpcgjpaaGreatDoor
end
namespace Go.Proofs.YthaiblbnpcgjpaaGreatDoor
section
open Go Go.Pt Go.Cr Go.Hp
structure Kc (C C':Cst):Prop where
 N:C'.N=C.N
 form:C'.form=C.form
 region:C'.region=C.region
 turns:C'.turns=C.turns
 now:C'.now=C.now
theorem Kc.refl {C:Cst}:Kc C C:=⟨rfl,rfl,rfl,rfl,rfl⟩
theorem Kc.trans {C C' C'':Cst} (h:Kc C C') (k:Kc C' C''):Kc C C'':=⟨k.N.trans h.N,k.form.trans h.form,k.region.trans h.region,k.turns.trans h.turns,k.now.trans h.now⟩
theorem Kp.kc {C C':Cst} (h:Kp C C'):Kc C C':=⟨h.N,h.form,h.region,h.turns,h.now⟩
def Aft (h:Nat) (C:Cst) (S:Mem) (ρ:Rho) (W':Wd) (S':Mem):Prop:=∃ ρ' A' C' φ',Mv S ρ S' ρ' Rc∧CrabA S' ρ' h A' C'∧Rel C' W' φ'∧Kc C C'
section
variable {S S':Mem} {ρ ρ':Rho} {R:Nat→Prop} {h:Nat} {A:Ad} {C:Cst} {W:Wd} {φ:Nat→Nat→Nat}
theorem After.aft {W':Wd} (hA:After h A C S ρ W' S'):Aft h C S ρ W' S':=by
 obtain⟨ρ',A',C',φ',m,hc,hr,kp,_⟩:=hA
 exact⟨ρ',A',C',φ',m,hc,hr,kp.kc⟩
theorem ziI (hwk:WOk W) {n:Nat} (hoff:(W.vm n).on=false) {seats quota:Int} {xs:List Int} {pages:Nat}:W.newP n seats quota xs pages = { W with free:=W.free-(5+(pages:Int)),vm:=upd W.vm n (mkV seats quota),time:=upd W.time n 0,ev:=upd W.ev n [],own:=upd W.own n fun p=>if (p:Int)<pages then some (pageB xs p) else none }:=by
 have h0:=(hwk.off n hoff).2.1
 have key:∀ (a b:Int) (o o':Nat→Nat→Option (List Int)),a=b→o=o'→({ W.newV n seats quota with free:=a,own:=o }:Wd) = { W.newV n seats quota with free:=b,own:=o' }:=by
  rintro a b o o' rfl rfl;rfl
 refine key _ _ _ _ (by omega) ?_
 congr 1
 funext p
 by_cases e:p<pages
 ·rw[if_pos e,if_pos (by omega)]
 ·rw[if_neg e,if_neg (by omega)];exact h0 p
theorem slc5 {t:Sl} {c:Nat} (hc:t.p=some (c,0)) (h:5≤t.c):slc 1 t 0 5=⟨some (c,0),5,t.c⟩:=by
 unfold slc
 rw[hc]
 have e1:(0:Int).toNat=0:=rfl
 have e2:((5:Int)-0).toNat=5:=rfl
 rw[e1,e2,if_neg (by omega)]
 simp
theorem zeg {w:Nat} {s:Sl} {l:List Value} (h:Row S w s l) (m:Mv S ρ S' ρ' R) (hr:∀ b o,s.p=some (b,o)→ρ b=none):Row S' w s l:=
 h.keep fun b hb=>by
  rcases h.lie with ⟨h1,_⟩ | ⟨b',k,h1,h2,_⟩
  ·rw[h1] at hb;cases hb
  ·rw[h1] at hb;cases hb
   exact m.kp b (by rw[h2];simp) fun r e=>by rw[hr b 0 h1] at e;cases e
theorem give6 {n w1:Nat} {ss t:Sl} {b0 b1 b2 b3:Nat} {L1 L2:List Value} (m:Mv S ρ S' ρ' R) (h0:S 0≠none) (hs:Row S' w1 ss L1) (hsf:∀ b o,ss.p=some (b,o)→S b=none∧ρ' b=none) (ht:Row S' 1 t L2) (htf:∀ b o,t.p=some (b,o)→S b=none∧ρ' b=none)
  (hb:∀ b∈[b0,b1,b2,b3],S b=none∧ρ' b=none∧S' b=some (bw 5 (bL noughts))) (hnd:[b0,b1,b2,b3].Nodup) (hsb:∀ b o,ss.p=some (b,o)→b∉[b0,b1,b2,b3]) (htb:∀ b o,t.p=some (b,o)→b∉[b0,b1,b2,b3]) (hst:∀ b o o',ss.p=some (b,o)→t.p≠some (b,o')) :
  ∃ ρ'',Mv S ρ S' ρ'' R∧Wide S' ρ' ρ''∧Rw S' ρ'' (30+n) w1 ss L1∧Rw S' ρ'' (40+n) 1 t L2∧Rw S' ρ'' (60+4*n+0) 1 (pg b0) (bL noughts)∧Rw S' ρ'' (60+4*n+1) 1 (pg b1) (bL noughts)∧Rw S' ρ'' (60+4*n+2) 1 (pg b2) (bL noughts)∧Rw S' ρ'' (60+4*n+3) 1 (pg b3) (bL noughts):=by
 simp only[List.nodup_cons,List.mem_cons,List.not_mem_nil,or_false,not_or,not_false_eq_true,List.nodup_nil,and_true] at hnd
 obtain⟨⟨n01,n02,n03⟩,⟨n12,n13⟩,n23⟩:=hnd
 have B0:=hb b0 (by simp)
 have B1:=hb b1 (by simp)
 have B2:=hb b2 (by simp)
 have B3:=hb b3 (by simp)
 have pgne:∀ {a b:Nat},a≠b→∀ o,(pg a).p≠some (b,o):=fun h o e=>by cases e;exact h rfl
 obtain⟨ρ1,m1,w1',r1,k1⟩:=kH (r:=60+4*n+0) m (zju B0.2.2) (fun b o e=>by cases e;exact⟨B0.1,B0.2.1⟩) h0
 obtain⟨ρ2,m2,w2,r2,k2⟩:=kH (r:=60+4*n+1) m1 (zju B1.2.2) (fun b o e=>by cases e;exact⟨B1.1,by rw[k1 _ (pgne n01)];exact B1.2.1⟩) h0
 obtain⟨ρ3,m3,w3,r3,k3⟩:=kH (r:=60+4*n+2) m2 (zju B2.2.2) (fun b o e=>by cases e;exact⟨B2.1,by rw[k2 _ (pgne n12),k1 _ (pgne n02)];exact B2.2.1⟩) h0
 obtain⟨ρ4,m4,w4,r4,k4⟩:=kH (r:=60+4*n+3) m3 (zju B3.2.2) (fun b o e=>by cases e;exact⟨B3.1,by rw[k3 _ (pgne n23),k2 _ (pgne n13),k1 _ (pgne n03)];exact B3.2.1⟩) h0
 have kk:∀ x,x∉[b0,b1,b2,b3]→ρ4 x=ρ' x:=fun x hx=>by
  simp only[List.mem_cons,List.not_mem_nil,or_false,not_or] at hx
  rw[k4 _ (pgne (Ne.symm hx.2.2.2)),k3 _ (pgne (Ne.symm hx.2.2.1)),k2 _ (pgne (Ne.symm hx.2.1)),k1 _ (pgne (Ne.symm hx.1))]
 obtain⟨ρ5,m5,w5,r5,k5⟩:=kH (r:=30+n) m4 hs (fun b o e=>⟨(hsf b o e).1,by rw[kk b (hsb b o e)];exact (hsf b o e).2⟩) h0
 obtain⟨ρ6,m6,w6,r6,k6⟩:=kH (r:=40+n) m5 ht (fun b o e=>⟨(htf b o e).1,by rw[k5 b fun o' e'=>hst b o' o e' e,kk b (htb b o e)];exact (htf b o e).2⟩) h0
 have w56:=Wide.trans w5 w6
 have w46:=Wide.trans w4 w56
 have w36:=Wide.trans w3 w46
 have w26:=Wide.trans w2 w36
 exact⟨ρ6,m6,Wide.trans w1' w26,wRw w6 r5,r6,wRw w26 r1,wRw w36 r2,wRw w46 r3,wRw w56 r4⟩
set_option maxHeartbeats 1000000 in
theorem zfl (hc:CrabA S ρ h A C) (hr:Rel C W φ) {seats quota pages:Int} {img:Sl} {xs:List Int} (himg:ImgAt S ρ img xs) (hil:xs.length≤1000000) {Q:Int→Int→Mem→Prop}
  (hQ:∀ S',Aft h C S ρ (W.create seats quota pages xs).2.2 S'→Q (W.create seats quota pages xs).1 (W.create seats quota pages xs).2.1 S'):yD S (some (h,0)) seats quota pages img Q:=by
 have hlen:=himg.len
 apply zbZ
 unfold wF
 unfold Wd.create at hQ
 by_cases hbad:seats<1∨3<seats∨quota<1∨32<quota
 ·rw[if_pos (by omega)] at hQ
  refine znm hbad fun t ht=>⟨ht,?_⟩
  simp only[jn]
  rw[if_neg (by simp),if_pos (by decide)]
  exact hQ S (After.here hc hr).aft
 obtain⟨sn,rfl⟩:∃ m:Nat,seats=m:=⟨seats.toNat,by omega⟩
 refine zlR (by omega) (by omega) (by omega) (by omega) fun ss b0 b1 b2 b3 S1 hM=>?_
 have hk1:=hM.pages.keep
 have hc1:=hc.keeps hk1
 refine⟨rfl,?_⟩
 refine zZ (fun J=>¬(pages<1∨quota<pages)→¬256*pages<xs.length→J S1) ?_ fun J hJ=>?_
 rotate_left
 ·rw[if_neg (by simp),if_neg (by decide)]
  by_cases hp1:pages<1
  ·rw[if_pos (by omega)] at hQ
   rw[if_pos hp1];exact hQ S1 (After.keeps hc hr hk1).aft
  rw[if_neg hp1]
  by_cases hp2:quota<pages
  ·rw[if_pos (by omega)] at hQ
   rw[if_pos hp2];exact hQ S1 (After.keeps hc hr hk1).aft
  rw[if_neg hp2,w64 (by omega) (by omega)]
  by_cases hp3:256*pages<xs.length
  ·rw[if_neg (by omega),if_pos hp3] at hQ
   rw[if_pos (by omega)];exact hQ S1 (After.keeps hc hr hk1).aft
  ·rw[if_neg (by omega)]
   exact hJ (by omega) hp3
 intro hp12 hp3
 rw[if_neg (by omega),if_neg hp3] at hQ
 obtain⟨pn,rfl⟩:∃ m:Nat,pages=m:=⟨pages.toNat,by omega⟩
 have hvm:C.vm=W.vm:=hr.vm
 refine zZ (fun J=>(∀ n:Nat,firstOff (fun n=>(W.vm n).on) 6=some n→J n S1)∧(firstOff (fun n=>(W.vm n).on) 6=none→J 6 S1)) ?_ fun J hJ=>?_
 rotate_left
 ·refine zC (fun (z:Int) S'=>∃ i:Nat,z=(i:Int)∧i≤6∧S'=S1∧∀ j,j<i→(W.vm j).on=true) (fun z=>6-z.toNat) ?_ ⟨0,rfl,by omega,rfl,fun _ h=>by omega⟩
  rintro X z S' ⟨i,rfl,hi,rfl,hall⟩ ih
  by_cases hlt:(i:Int)<6
  ·rw[if_pos hlt,zL,zS hc1.c3,zL]
   refine⟨by omega,hlt,?_⟩
   rw[Int.toNat_natCast,fo (hc1.vcell (n:=i) (j:=0) (by omega) (by decide) (by omega)),hvm]
   cases hon:(W.vm i).on with
   | true=>
    rw[if_pos rfl,w64 (by omega) (by omega)]
    refine ih _ _ ⟨i+1,rfl,by omega,rfl,fun j hj=>?_⟩ (by omega)
    by_cases e:j=i
    ·subst e;exact hon
    ·exact hall j (by omega)
   | false=>
    rw[if_neg (by decide)]
    exact hJ.1 i (gK (by omega) hon hall)
  ·rw[if_neg hlt]
   have:i=6:=by omega
   subst this
   refine hJ.2 ?_
   cases hf:firstOff (fun n=>(W.vm n).on) 6 with
   | none=>rfl
   | some g=>
    obtain⟨a,b,_⟩:=qd hf
    rw[hall g a] at b;cases b
 constructor
 rotate_left
 ·intro hnone
  rw[hnone] at hQ
  simp only[jn]
  rw[if_pos trivial]
  exact hQ S1 (After.keeps hc hr hk1).aft
 intro n hfirst
 rw[hfirst] at hQ
 dsimp only at hQ
 obtain⟨hn,hoff,_⟩:=qd hfirst
 simp only[jn]
 rw[if_neg (by omega),zL,zS hc1.c1,w64 (by omega) (by omega)]
 have hleft:=hr.left
 have hfree:=hr.free
 have e5:5+(pn:Int)=((5+pn:Nat):Int):=by omega
 rw[e5]
 refine zho hc1.pl hc1.rg (by omega) (n:=5+pn) (by omega) (r:=102) ⟨by decide,by decide,by decide⟩ (fun l u hnl htk t S2 ρ2 m2 hp2 hrow2=>?_) fun hbad2 S2 ρ2 left' m2 hl' _ hp2=>?_
 rotate_left
 ·have hfull:W.free<5+(pn:Int):=by
   rcases hbad2 with e | e
   ·omega
   ·have:=ga.1 e;omega
  rw[if_pos hfull] at hQ
  rw[if_pos (by decide)]
  have hc2:=hc1.setPool m2 (fun r hr=>hr.elim .inl fun h=>.inr (by omega)) hp2
  have e1:left'=C.left:=by rw[hl' hleft,hleft]
  rw[e1] at hc2
  exact hQ S2 ⟨ρ2,A,C,φ,(Mv.keeps hc.rg hk1).trans (m2.mono fun r hr=>by unfold R345 at hr;unfold Rc;omega),hc2,hr,Kc.refl⟩
 have hroom:¬W.free<5+(pn:Int):=by
  intro hlt
  have:=ga (N:=C.N) (k:=5+pn) (u:=C.used)
  rw[htk] at this
  exact absurd (this.2 (by omega)) (by simp)
 rw[if_neg hroom] at hQ
 rw[if_neg (by decide)]
 have hlv:leftN C.left (5+pn)=C.left:=by unfold leftN;rw[if_pos (by omega),hleft]
 rw[hlv] at hp2
 have hc2:=hc1.setPool m2 (fun r hr=>hr.elim .inl fun h=>.inr (by omega)) hp2
 obtain⟨hll,hlnd,hlfree,_,_⟩:=xU htk
 have htn:=hrow2.n (by decide) (gg l)
 have htcap:=hrow2.row.cap
 obtain⟨c,ec1,ec2⟩:=hrow2.sl (by rw[gg];omega)
 obtain⟨u5,htk5,htkp⟩:=zep (i:=5) (k:=pn) htk
 have hl5len:(l.take 5).length=5:=by rw[List.length_take];omega
 have hs5:=slc5 ec2 (by omega)
 refine⟨by decide,by omega,?_⟩
 rw[hs5]
 show lp _ 0 S2
 refine zC (fun (z:Int) S'=>∃ i:Nat,z=(i:Int)∧i≤5∧Mv S2 ρ2 S' ρ2 (· = 9)∧CrabA S' ρ2 h A { C with used:=u,own:=Cr.keepL C.own n (l.take i) }∧Rw S' ρ2 102 1 t (nL l)) (fun z=>5-z.toNat) ?_ ⟨0,rfl,by omega,Mv.refl hc2.rg,hc2,hrow2⟩
 rintro X z S3 ⟨i,rfl,hi,m3,hc3,hrow3⟩ ih
 by_cases hlt:(i:Int)<((5:Nat):Int)
 ·rw[if_pos hlt,fi]
  refine⟨by omega,hlt,?_⟩
  have hil2:i<l.length:=by omega
  rw[Int.toNat_natCast,zx (by rw[hrow3.cell ec2 i (by rw[gg];omega) (by omega)];exact zjF hil2),zS hc3.c3,zL,zS hc3.t74]
  refine zgc hc3.ow hc3.rg (hlfree _ (List.getElem_mem hil2)).1 (by omega) fun e S4 m4 hs4=>?_
  rw[w64 (by omega) (by omega)]
  refine ih _ S4 ⟨i+1,rfl,by omega,m3.trans m4,?_,hrow3.keep m4 (by decide)⟩ (by omega)
  have e1:Cr.keepL C.own n (l.take (i+1))=keepC (Cr.keepL C.own n (l.take i)) l[i] n:=by
   unfold Cr.keepL
   rw[List.take_succ_eq_append_getElem hil2,List.foldl_append];rfl
  rw[e1]
  exact hc3.setOwn m4 hs4
 rw[if_neg hlt]
 have hi5:i=5:=by omega
 subst hi5
 rw[zS hc3.c0,zS hc3.c3,zL,zx hc3.tform]
 refine⟨by decide,by omega,?_⟩
 show zan S3 (some (A.m,0)) C.form ⟨some (c,0),5,t.c⟩ _
 refine zku hc3.st hc3.rg hr.form (by decide) hrow3 ec2 (by omega) (fun f hf=>(hlfree f hf).1) fun t' S4 m4 hs4 hrow4 hfr4=>?_
 have hc4:=hc3.setStore m4 hs4
 have hrow4l:=hrow3.keep m4 (by decide)
 refine⟨hc4.c3,rfl,?_⟩
 rw[zS hc4.c3,zL,zx hc4.tnow,zS hc4.c3,zL]
 refine⟨by omega,by omega,rfl,?_⟩
 have mS12:Mv S1 ρ S4 ρ2 Rc:=(m2.mono fun r hr=>by unfold R345 at hr;unfold Rc;omega).trans ((m3.mono fun r hr=>by unfold Rc;omega).trans (m4.mono fun r hr=>by unfold Rc;omega))
 have mS:Mv S ρ S4 ρ2 Rc:=(Mv.keeps hc.rg hk1).trans mS12
 have hnorole:∀ b,S b=none→ρ b=none:=fun b hb=>by
  cases hq:ρ b with
  | none=>rfl
  | some r=>exact absurd hb (hc.rg b r hq)
 have hnew:∀ b,S b=none→S1 b≠none→ρ2 b=none∧S4 b=S1 b:=fun b hb hb1=>by
  refine⟨?_,mS12.kp b hb1 fun r e=>by rw[hnorole b hb] at e;cases e⟩
  cases hq:ρ2 b with
  | none=>rfl
  | some r=>have:=mS12.old b r hq hb1;rw[hnorole b hb] at this;cases this
 have hss:∀ b o,ss.p=some (b,o)→S1 b≠none:=fun b o e=>by
  rcases hM.row.lie with ⟨h1,_⟩ | ⟨b',k,h1,h2,_⟩
  ·rw[h1] at e;cases e
  ·rw[h1] at e;cases e;rw[h2];simp
 have hS3grow:∀ b,S1 b≠none→S3 b≠none:=fun b hb=>m3.al b (m2.al b hb)
 obtain⟨ρ5,m5,w5,g1,g2,g3,g4,g5,g6⟩:=give6 (n:=n) mS (zcX hc.gl) (zeg hM.row mS12 fun b o e=>hnorole b (hM.fresh b o e).1) (fun b o e=>⟨(hM.fresh b o e).1,(hnew b (hM.fresh b o e).1 (hss b o e)).1⟩) hrow4 (fun b o e=>⟨by
   cases hs:S b with
   | none=>rfl
   | some k=>exact absurd (hfr4 b o e).1 (hS3grow b (by rw[hk1 b (by rw[hs];simp) (by simp),hs];simp)),(hfr4 b o e).2⟩)
  (fun b hb=>by
   obtain⟨h1,h2⟩:=hM.pages.at_ b hb
   have:=hnew b h1 (by rw[h2];simp)
   exact⟨h1,this.1,by rw[this.2];exact h2⟩) hM.pages.nodup (fun b o e=>(hM.fresh b o e).2)
  (fun b o e hb=>by
   have h1:=(hfr4 b o e).1
   exact hS3grow b (by rw[(hM.pages.at_ b hb).2];simp) h1)
  (fun b o o' e e'=>by
   have h1:=(hfr4 b o' e').1
   exact hS3grow b (hss b o e) h1)
 have hc5:=CrabA.wide w5 hc4
 have hrow5:=wRw w5 hrow4l
 generalize hdd:(fun j:Nat=>if j=0 then pg b0 else if j=1 then pg b1 else if j=2 then pg b2 else pg b3)=dd
 have hd0:dd 0=pg b0:=by rw[←hdd];rfl
 have hd1:dd 1=pg b1:=by rw[←hdd];rfl
 have hd2:dd 2=pg b2:=by rw[←hdd];rfl
 have hd3:dd 3=pg b3:=by rw[←hdd];rfl
 have hvn:VmP S4 ρ5 n ⟨ss,t',⟨none,0,0⟩,dd⟩ (mkV sn quota) (l.take 5):=⟨g1,zqk _,g2,Rw.nil,fun j hj=>by
  match j,hj with
  | 0,_=>show Rw _ _ _ _ (dd 0) _;rw[hd0];exact g3
  | 1,_=>show Rw _ _ _ _ (dd 1) _;rw[hd1];exact g4
  | 2,_=>show Rw _ _ _ _ (dd 2) _;rw[hd2];exact g5
  | 3,_=>show Rw _ _ _ _ (dd 3) _;rw[hd3];exact g6⟩
 have hcells:spl (spl (mk12 ss quota b0 b1 b2 b3) 2 (tbL C.form t')) 5 [.int .u64 C.now]=vmC ⟨ss,t',⟨none,0,0⟩,dd⟩ (mkV sn quota) C.form C.now:=by
  unfold vmC
  simp only[hd0,hd1,hd2,hd3]
  rfl
 rw[Int.toNat_natCast]
 show pt S4 A.t (0+2+n*12) 12 (spl (spl (mk12 ss quota b0 b1 b2 b3) 2 (tbL C.form t')) 5 [.int .u64 C.now]) _
 rw[hcells]
 refine zdc hc5 (j:=0) (vs:=vmC ⟨ss,t',⟨none,0,0⟩,dd⟩ (mkV sn quota) C.form C.now) (tf':=C.form) (late':=C.now) hn (by omega) rfl (by rw[zii];decide) (zgu (by rw[zii,zii])) hvn fun S6 m6 hc6=>?_
 refine⟨by omega,by omega,?_⟩
 refine hc6.hd.pt hc6.rg (vs:=[eL ⟨none,0,0⟩]) (5+n) rfl (by rw[gG];simp;omega) (by omega) fun S7 m7 h7=>?_
 rw[zmg hn] at h7
 have hc7:=hc6.setEv m7 (fun r hr=>.inl hr) (es:=upd A.es n ⟨none,0,0⟩) (ev:=upd C.ev n []) h7 fun i hi=>by
  by_cases e:i=n
  ·subst e;rw[zl,zl];exact Rw.nil
  ·rw[zh e,zh e];exact (hc6.ev i hi).keep m7 (by omega)
 have hrow7:=(hrow5.keep m6 (by decide)).keep m7 (by decide)
 have m57:Mv S ρ S7 ρ5 Rc:=m5.trans ((m6.mono fun r hr=>by unfold Rc;omega).trans (m7.mono fun r hr=>by unfold Rc;omega))
 have hrel0:=hr.newV (seats:=sn) (quota:=quota) hn hoff (by omega) (by omega) htk5
 have himg7:=himg.mv m57
 refine⟨by decide,by omega,by omega,?_⟩
 have hloop:=pagesLoop (C:={ C with used:=u,own:=Cr.keepL C.own n (l.take 5),dat:=makeD C.dat C.form (l.take 5),vm:=upd C.vm n (mkV sn quota),tf:=upd C.tf n C.form,late:=upd C.late n C.now,fr:=upd C.fr n (l.take 5),ev:=upd C.ev n [] }) (W:=W) (pages:=pn) (seats:=sn) (quota:=quota) (t:=t) (l:=l) (c:=c) (u:=u) (u0:=u5) (xs:=xs) (img:=img) (h:=h) hn hr.wk hoff (by omega) (by omega) hll (fun f hf=>(hlfree f hf).1) hc7 rfl htkp hrel0 hrow7 ec2 himg7 (by omega) (Q:=fun Sx=>Q n 0 Sx) fun S8 hA8=>?_
 ·exact hloop
 ·rw[ziI hr.wk hoff] at hA8
  obtain⟨ρ8,A8,C8,φ8,m8,hc8,hr8,kp8,_⟩:=hA8
  exact hQ S8 ⟨ρ8,A8,C8,φ8,m57.trans m8,hc8,hr8,⟨kp8.N,kp8.form,kp8.region,kp8.turns,kp8.now⟩⟩
end
end
end Go.Proofs.YthaiblbnpcgjpaaGreatDoor
