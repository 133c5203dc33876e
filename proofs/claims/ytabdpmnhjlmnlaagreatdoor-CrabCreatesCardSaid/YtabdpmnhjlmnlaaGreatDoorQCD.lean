/- Texts of this work,joined by program (pack.py): PsM. -/
import Derived.Test.YtabdpmnhjlmnlaaGreatDoorQCC
set_option linter.unusedVariables false
section
namespace Go.Proofs.YtabdpmnhjlmnlaaGreatDoor
open Go Go.Pt
attribute [local irreducible] Code.wp Back bodyPost wpList FR WL WC WQ WA AW Tr Yc HC AllC
set_option maxRecDepth 20000
set_option maxHeartbeats 4000000
set_option linter.unusedVariables false
def kS (S:Mem) (h:Pt) (vm:Int) (n:Int) (Q:Int→Mem→Prop):Prop:=
 jn (fun (Sx:Mem)=>
 nn h fun b o=>
 gP (Sx.cell b (o+3)) fun t=>
 qN Sx t vm n fun t_1 Sx_1=>
 nn t_1 fun b_1 o_1=>
 gI (Sx_1.cell b_1 (o_1+16)) .u64 fun t_2=>
 gP (Sx_1.cell b (o+3)) fun t_3=>
 vv Sx_1 t_3 vm fun t_4 Sx_2=>
 zfW Sx_2 (some (b_1,o_1)) (.iface 173 (valL ([.pointer (some ⟨b,o,none⟩),.int .i64 vm]))) t_4 n fun t_5 Sx_3=>
 t_5.all (·.oneCell')=true ∧
 jn (fun (Sx_4:Mem)=>
 gA (Sx_4.part b_1 o_1 26) fun t_6=>
 zej Sx_4 t_5 n t_2 t_6 fun t_7 Sx_5=>
 yN Sx_5 (some (b,o)) vm t_7 fun Sx_6=>
 gI (nthL t_5 0) .u8 fun t_8=>
 if t_8=2 then
 gI (nthL t_5 1) .u64 fun t_9=>
 jt Sx_6 (some (b,o)) vm n t_9 fun Sx_7=>
 Q 0 Sx_7
 else
 Q 0 Sx_6) fun Jx=>
 gI (nthL t_5 0) .u8 fun t_10=>
 if t_10=5 then
 Q 10 Sx_3
 else
 Jx Sx_3) fun Jx_1=>
 if h=none then
 Q 2 S
 else
 nn h fun b_3 o_2=>
 gP (S.cell b_3 (o_2+3)) fun t_11=>
 qN S t_11 vm n fun t_12 Sx_8=>
 if t_12=none then
 Q 2 Sx_8
 else
 Jx_1 Sx_8
theorem zdB {S:Mem} {h:Pt} {vm:Int} {n:Int} {Q:Int→Mem→Prop} (H:kS S h vm n Q):wo S h vm n Q:=by
 unfold kS at H
 exact Tr.intro Tryz.func31 E Tryz.ntmps31 E fun w0=>csr<|gv E E<|nx<|zn H (fun (J:Mem→Prop) (z:Unit) S=>J S) (fun z=>⟨68,[(0,eP h),(1,.int .i64 vm),(2,.int .i64 n)]⟩) (fun z=>[]) (fun _ Sx H1=>csr<|mv E E<|by obtain⟨b,o,rfl,H2⟩:=H1;exact s_p E (zJ E)<|s_p E (zv E E)<|gx H2 fun t ht H3=>s_v E (zz E) (zH ht)<|mv E E<|mv E E<|qC E E H3 fun t_1 Sx_1 H4=>gv E E<|nxr<|mv E E<|by obtain⟨b_1,o_1,rfl,H5⟩:=H4;exact s_p E (zJ E)<|s_p E (zv E E)<|gx H5 fun t_2 ht_2 H6=>s_v E (zz E) (zH ht_2)<|gv E E<|nxr<|mv E E<|mv E E<|mv E E<|s_p E (zF E E)<|by exact s_p E (jK E)<|mv E E<|s_p E (zJ E)<|s_p E (zv E E)<|gx H6 fun t_3 ht_3 H7=>s_v E (zz E) (zH ht_3)<|mv E E<|qC E E H7 fun t_4 Sx_2 H8=>mv E E<|qr E E H8 fun rv Sx_3 H9=>by obtain⟨t_5,rfl,ht_5,H10⟩:=H9;exact by refine zL E fun b_2=>?_;exact an H10 fun c H11=>zp 0 E E E E E ht_5 E c<|nx<|zn H11 (fun (J:Mem→Prop) (z:Unit) S=>J S) (fun z=>⟨68,[(0,.pointer (some ⟨b,o,none⟩)),(1,.int .i64 vm),(2,.int .i64 n),(7,.pointer (some ⟨b_1,o_1,none⟩)),(8,.int .u64 t_2),(9,.pointer (some ⟨b_2,0,none⟩))]⟩) (fun z=>[⟨b_2,48,t_5⟩]) (fun _ Sx_4 H12=>zC<|zM (by kernel_rfl)<|aTP 0 E (by decide +kernel) E (zm E)<|by exact aTP 1 E (by decide +kernel) E (zm E)<|by exact by refine aT 2 E (by decide +kernel) E (zT E ht_5) (zE (k:=2) 0 E (zk ht_5)) ?_;exact aTP 3 E (by decide +kernel) E (zm E)<|by exact aTP 4 E (by decide +kernel) E (zm E)<|by exact aTP 5 E (by decide +kernel) E (zm E)<|by exact aTP 6 E (by decide +kernel) E (zJ E)<|by exact gx H12 fun t_6 ht_6 H13=>by refine aT 7 E (by decide +kernel) E (zT E (zG ht_6)) (yi ht_6) ?_;exact zB 8 (by decide +kernel) E<|by exact qr E E H13 fun rv Sx_5 H14=>by obtain⟨t_7,rfl,ht_7,H15⟩:=H14;exact zr<|zN zy<|zB 9 (by decide +kernel) E<|by exact fK E E H15 fun Sx_6 H16=>zr<|zN zy<|zK (by decide +kernel)<|by exact zt<|zC<|csr<|s_p E (zv E E)<|gx H16 fun t_8 ht_8 H17=>s_v E (zz E) (zW 0 E ht_8)<|iteK H17 (fun c_1 H18=>ceT E E E (c_1)<|nx<|ctr E E<|mv E E<|mv E E<|mv E E<|s_p E (zv E E)<|gx H18 fun t_9 ht_9 H19=>s_v E (zz E) (zW 0 E ht_9)<|fK E E H19 fun Sx_7 H20=>nxr<|gv E E<|nx<|zi<|zh Tryz.results31 (zd E ze) ⟨_,E,H20⟩) fun c_1 H18=>ceF E E E (c_1)<|nx<|cfs E E<|zt<|csr<|gv E E<|nx<|zi<|zh Tryz.results31 (zd E ze) ⟨_,E,H18⟩) (fun Jx hJx H21=>csr<|s_p E (zv E E)<|gx H21 fun t_10 ht_10 H22=>s_v E (zz E) (zW 0 E ht_10)<|iteK H22 (fun c_2 H23=>ceT E E E (c_2)<|nx<|c_t E E<|csr<|gv E E<|nx<|zi<|zb<|zh Tryz.results31 (zd E ze) ⟨_,E,H23⟩) fun c_2 H23=>ceF E E E (c_2)<|nx<|cfs E E<|hJx () _ _ _ _ [0] H23 E ⟨E,E,E,E,E,E,True.intro⟩ E)) (fun Jx_1 hJx_1 H24=>csr<|mv E E<|iteK H24 (fun c_3 H25=>s_p E (yT (qE (p:=h) E E) c_3)<|mv E E<|sk8 E E E E E E E E<|pk E E E<|nx<|c_t E E<|csr<|gv E E<|nx<|zi<|zb<|zh Tryz.results31 (zd E ze) ⟨_,E,H25⟩) fun c_3 H25=>s_p E (yF (qE (p:=h) E E) c_3)<|mv E E<|mv E E<|by obtain⟨b_3,o_2,rfl,H26⟩:=H25;exact s_p E (zJ E)<|s_p E (zv E E)<|gx H26 fun t_11 ht_11 H27=>s_v E (zz E) (zH ht_11)<|mv E E<|mv E E<|qC E E H27 fun t_12 Sx_8 H28=>iteK H28 (fun c_4 H29=>s_p E (yT (qE (p:=t_12) E E) c_4)<|pk E E E<|nx<|c_t E E<|csr<|gv E E<|nx<|zi<|zb<|zh Tryz.results31 (zd E ze) ⟨_,E,H29⟩) fun c_4 H29=>s_p E (yF (qE (p:=t_12) E E) c_4)<|pk E E E<|nx<|cfs E E<|hJx_1 () _ _ _ _ [] H29 E ⟨E,E,E,True.intro⟩ E)
def wC (S:Mem) (h:Pt) (vm:Int) (n:Int) (atx:Int) (Q:Int→Mem→Prop):Prop:=
 nn h fun b o=>
 gP (S.cell b (o+3)) fun t=>
 nn t fun b_1 o_1=>
 gA (S.part b_1 (o_1+75) 96) fun t_1=>
 wS S t_1 n vm atx fun t_2 t_3 Sx=>
 t_2.all (·.oneCell')=true ∧
 jn (fun (Sx_1:Mem)=>
 jn (fun (Sx_2:Mem)=>
 gP (Sx_2.cell b (o+3)) fun t_4=>
 0≤n∧n<16 ∧
 gI (nthL t_2 (0+n.toNat*6+1)) .i64 fun t_5=>
 nn t_4 fun b_3 o_2=>
 0≤t_5∧t_5<6 ∧
 gA (Sx_2.part b_3 (o_2+2+t_5.toNat*12+2) 2) fun t_6=>
 gP (Sx_2.cell b o) fun t_7=>
 0≤n∧n<16 ∧
 gI (nthL t_2 (0+n.toNat*6+2)) .i64 fun t_8=>
 qw Sx_2 t_6 t_7 t_8 fun t_9 t_10 Sx_3=>
 Sx_3.cell b (o+3)=some (.pointer (some ⟨b_3,o_2,none⟩)) ∧
 t_9.all (·.oneCell')=true ∧
 gP (Sx_3.cell b (o+3)) fun t_11=>
 nn t_11 fun b_5 o_3=>
 t_2.all (·.oneCell')=true ∧
 pt Sx_3 b_5 (o_3+75) 96 t_2 fun Sx_4=>
 gI (nthL t_9 1) .i64 fun t_12=>
 0≤n∧n<16 ∧
 gB (nthL t_2 (0+n.toNat*6+4)) fun t_13=>
 wl Sx_4 (some (b,o)) vm atx t_12 t_13 fun Sx_5=>
 Q 0 Sx_5) fun Jx=>
 gP (Sx_1.cell b (o+3)) fun t_14=>
 nn t_14 fun b_6 o_4=>
 0≤vm∧vm<6 ∧
 gA (Sx_1.part b_6 (o_4+2+vm.toNat*12+2) 2) fun t_15=>
 gP (Sx_1.cell b o) fun t_16=>
 qw Sx_1 t_15 t_16 atx fun t_17 t_18 Sx_6=>
 Sx_6.cell b (o+3)=some (.pointer (some ⟨b_6,o_4,none⟩)) ∧
 t_17.all (·.oneCell')=true ∧
 if t_18=0 then
 Q 8 Sx_6
 else
 Jx Sx_6) fun Jx_1=>
 if t_3≠0 then
 Q t_3 Sx
 else
 Jx_1 Sx
theorem zbk {S:Mem} {h:Pt} {vm:Int} {n:Int} {atx:Int} {Q:Int→Mem→Prop} (H:wC S h vm n atx Q):vw S h vm n atx Q:=by
 unfold wC at H
 exact Tr.intro Tryz.func207 E Tryz.ntmps207 E fun w0=>csr<|gv E E<|nxr<|mv E E<|by obtain⟨b,o,rfl,H1⟩:=H;exact s_p E (zJ E)<|s_p E (zv E E)<|gx H1 fun t ht H2=>s_v E (zz E) (zH ht)<|by obtain⟨b_1,o_1,rfl,H3⟩:=H2;exact s_p E (zJ E)<|s_p E (zv E E)<|gx H3 fun t_1 ht_1 H4=>by refine s_v E (zT E (zG ht_1)) (yi ht_1) ?_;exact mv E E<|mv E E<|mv E E<|qr E E H4 fun rv Sx H5=>by obtain⟨t_2,t_3,rfl,ht_2,H6⟩:=H5;exact mv E E<|s_p E (zg E E)<|s_p E (zg E E)<|by refine zL E fun b_2=>?_;exact an H6 fun c H7=>zp 0 E E E E E ht_2 yX c<|gv E E<|nx<|zn H7 (fun (J:Mem→Prop) (z:Unit) S=>J S) (fun z=>⟨95,[(0,.pointer (some ⟨b,o,none⟩)),(1,.int .i64 vm),(2,.int .i64 n),(3,.int .i64 atx),(9,.pointer (some ⟨b_2,0,none⟩))]⟩) (fun z=>[⟨b_2,72,t_2⟩]) (fun _ Sx_1 H8=>zn H8 (fun (J:Mem→Prop) (z:Unit) S=>J S) (fun z=>⟨95,[(0,.pointer (some ⟨b,o,none⟩)),(1,.int .i64 vm),(2,.int .i64 n),(3,.int .i64 atx),(9,.pointer (some ⟨b_2,0,none⟩))]⟩) (fun z=>[⟨b_2,72,t_2⟩]) (fun _ Sx_2 H9=>zC<|zM (by kernel_rfl)<|aTP 0 E (by decide +kernel) E (zm E)<|by exact aTP 1 E (by decide +kernel) E (zJ E)<|by exact aTP 2 E (by decide +kernel) E (zv E E)<|by exact gx H9 fun t_4 ht_4 H10=>aT 3 E (by decide +kernel) E (zz E) (zH ht_4)<|by exact aTP 4 E (by decide +kernel) E (zm E)<|by exact an2 H10 fun c_1 c_2 H11=>aTP 5 E (by decide +kernel) E (qv E E c_1 c_2 E)<|by exact aTP 6 E (by decide +kernel) E (zv E E)<|by exact gx H11 fun t_5 ht_5 H12=>aT 7 E (by decide +kernel) E (zz E) (zW 0 E ht_5)<|by exact by obtain⟨b_3,o_2,rfl,H13⟩:=H12;exact aTP 8 E (by decide +kernel) E (zJ E)<|by exact aTP 9 E (by decide +kernel) E (zv E E)<|by exact an2 H13 fun c_3 c_4 H14=>aTP 10 E (by decide +kernel) E (qv E E c_3 c_4 E)<|by exact aTP 11 E (by decide +kernel) E (zv E E)<|by exact gx H14 fun t_6 ht_6 H15=>by refine aT 12 E (by decide +kernel) E (zT E (zG ht_6)) (yi ht_6) ?_;exact aTP 13 E (by decide +kernel) E (zm E)<|by exact aTP 14 E (by decide +kernel) E (zJ E)<|by exact aTP 15 E (by decide +kernel) E (zv E E)<|by exact gx H15 fun t_7 ht_7 H16=>aT 16 E (by decide +kernel) E (zz E) (zH ht_7)<|by exact aTP 17 E (by decide +kernel) E (zm E)<|by exact an2 H16 fun c_5 c_6 H17=>aTP 18 E (by decide +kernel) E (qv E E c_5 c_6 E)<|by exact aTP 19 E (by decide +kernel) E (zv E E)<|by exact gx H17 fun t_8 ht_8 H18=>aT 20 E (by decide +kernel) E (zz E) (zW 0 E ht_8)<|by exact gp 21 25 (by decide +kernel) E E (qr E E H18 fun rv Sx_3 H19=>by obtain⟨t_9,t_10,rfl,ht_9,H20⟩:=H19;exact by obtain⟨k,H21⟩:=H20;exact zr<|zN (zx (zW 0 E ht_5) (zx (zH k) zy))<|aTP 22 E (by decide +kernel) E (zm E)<|by exact aTP 23 E (by decide +kernel) E (zg E E)<|by exact aTP 24 E (by decide +kernel) E (zg E E)<|by exact zB 25 (by decide +kernel) E<|by exact by refine zL E fun b_4=>?_;exact zr<|zN (zx (zW 0 E ht_5) (zx (zH k) zy))<|zB 26 (by decide +kernel) E<|by exact an H21 fun c_7 H22=>zp 1 E E E E E ht_9 E c_7<|zr<|zN zy<|aTP 27 E (by decide +kernel) E (zS E)<|by exact zK (by decide +kernel)<|by exact zt<|zC<|zM (by kernel_rfl)<|aTP 0 E (by decide +kernel) E (zm E)<|by exact aTP 1 E (by decide +kernel) E (zJ E)<|by exact aTP 2 E (by decide +kernel) E (zv E E)<|by exact gx H22 fun t_11 ht_11 H23=>aT 3 E (by decide +kernel) E (zz E) (zH ht_11)<|by exact by refine aT 4 E (by decide +kernel) E (zT E ht_2) (zE (k:=96) 0 E (zk ht_2)) ?_;exact by obtain⟨b_5,o_3,rfl,H24⟩:=H23;exact aTP 5 E (by decide +kernel) E (zJ E)<|by exact aTP 6 E (by decide +kernel) E (zv E E)<|by exact zB 7 (by decide +kernel) E<|by exact an H24 fun c_8 H25=>an H25 fun c_9 H26=>qo E E E E ht_2 c_9 c_8<|zr<|zN zy<|zK (by decide +kernel)<|by exact zt<|zC<|zM (by kernel_rfl)<|aTP 0 E (by decide +kernel) E (zm E)<|by exact aTP 1 E (by decide +kernel) E (zm E)<|by exact aTP 2 E (by decide +kernel) E (zm E)<|by exact aTP 3 E (by decide +kernel) E (zv E E)<|by exact gx H26 fun t_12 ht_12 H27=>aT 4 E (by decide +kernel) E (zz E) (zW 1 E ht_12)<|by exact aTP 5 E (by decide +kernel) E (zm E)<|by exact an2 H27 fun c_10 c_11 H28=>aTP 6 E (by decide +kernel) E (qv E E c_10 c_11 E)<|by exact aTP 7 E (by decide +kernel) E (zv E E)<|by exact gx H28 fun t_13 ht_13 H29=>aT 8 E (by decide +kernel) E (zz E) (zW 0 E ht_13)<|by exact zB 9 (by decide +kernel) E<|by exact fK E E H29 fun Sx_5 H30=>zr<|zN zy<|zK (by decide +kernel)<|by exact zt<|csr<|gv E E<|nx<|zi<|zh Tryz.results207 (zd E ze) ⟨_,E,H30⟩) (by refine zL E fun b_4=>?_;exact zr<|zN (zx (zW 0 E ht_8) (zx (zH ht_7) (zx (yi ht_6) (zx (zW 0 E ht_5) (zx (zH ht_4) zy)))))<|zB 21 (by decide +kernel) E<|by exact qr E E H18 fun rv Sx_3 H31=>by obtain⟨t_9,t_10,rfl,ht_9,H32⟩:=H31;exact by obtain⟨k,H33⟩:=H32;exact zr<|zN (zx (zW 0 E ht_5) (zx (zH k) zy))<|aTP 22 E (by decide +kernel) E (zm E)<|by exact aTP 23 E (by decide +kernel) E (zg E E)<|by exact aTP 24 E (by decide +kernel) E (zg E E)<|by exact zB 26 (by decide +kernel) E<|by exact an H33 fun c_7 H34=>zp 1 E E E E E ht_9 E c_7<|zr<|zN zy<|aTP 27 E (by decide +kernel) E (zS E)<|by exact zK (by decide +kernel)<|by exact zt<|zC<|zM (by kernel_rfl)<|aTP 0 E (by decide +kernel) E (zm E)<|by exact aTP 1 E (by decide +kernel) E (zJ E)<|by exact aTP 2 E (by decide +kernel) E (zv E E)<|by exact gx H34 fun t_11 ht_11 H35=>aT 3 E (by decide +kernel) E (zz E) (zH ht_11)<|by exact by refine aT 4 E (by decide +kernel) E (zT E ht_2) (zE (k:=96) 0 E (zk ht_2)) ?_;exact by obtain⟨b_5,o_3,rfl,H36⟩:=H35;exact aTP 5 E (by decide +kernel) E (zJ E)<|by exact aTP 6 E (by decide +kernel) E (zv E E)<|by exact zB 7 (by decide +kernel) E<|by exact an H36 fun c_8 H37=>an H37 fun c_9 H38=>qo E E E E ht_2 c_9 c_8<|zr<|zN zy<|zK (by decide +kernel)<|by exact zt<|zC<|zM (by kernel_rfl)<|aTP 0 E (by decide +kernel) E (zm E)<|by exact aTP 1 E (by decide +kernel) E (zm E)<|by exact aTP 2 E (by decide +kernel) E (zm E)<|by exact aTP 3 E (by decide +kernel) E (zv E E)<|by exact gx H38 fun t_12 ht_12 H39=>aT 4 E (by decide +kernel) E (zz E) (zW 1 E ht_12)<|by exact aTP 5 E (by decide +kernel) E (zm E)<|by exact an2 H39 fun c_10 c_11 H40=>aTP 6 E (by decide +kernel) E (qv E E c_10 c_11 E)<|by exact aTP 7 E (by decide +kernel) E (zv E E)<|by exact gx H40 fun t_13 ht_13 H41=>aT 8 E (by decide +kernel) E (zz E) (zW 0 E ht_13)<|by exact zB 9 (by decide +kernel) E<|by exact fK E E H41 fun Sx_5 H42=>zr<|zN zy<|zK (by decide +kernel)<|by exact zt<|csr<|gv E E<|nx<|zi<|zh Tryz.results207 (zd E ze) ⟨_,E,H42⟩)) (fun Jx hJx H43=>zC<|zM (by kernel_rfl)<|a_takeP 0 E (by decide +kernel) (za (za zc)) E (zm E)<|by exact a_takeP 1 E (by decide +kernel) (za (za zc)) E (zJ E)<|by exact a_takeP 2 E (by decide +kernel) (za (za zc)) E (zv E E)<|by exact gx H43 fun t_14 ht_14 H44=>zV 3 E (by decide +kernel) (za (za zc)) E (zz E) (zH ht_14)<|by exact a_takeP 4 E (by decide +kernel) (za (za zc)) E (zm E)<|by exact by obtain⟨b_6,o_4,rfl,H45⟩:=H44;exact a_takeP 5 E (by decide +kernel) (za (za zc)) E (zJ E)<|by exact a_takeP 6 E (by decide +kernel) (za (za zc)) E (zv E E)<|by exact an2 H45 fun c_12 c_13 H46=>a_takeP 7 E (by decide +kernel) (za (za zc)) E (qv E E c_12 c_13 E)<|by exact a_takeP 8 E (by decide +kernel) (za (za zc)) E (zv E E)<|by exact gx H46 fun t_15 ht_15 H47=>by refine zV 9 E (by decide +kernel) (za (za zc)) E (zT E (zG ht_15)) (yi ht_15) ?_;exact a_takeP 10 E (by decide +kernel) (za (za zc)) E (zm E)<|by exact a_takeP 11 E (by decide +kernel) (za (za zc)) E (zJ E)<|by exact a_takeP 12 E (by decide +kernel) (za (za zc)) E (zv E E)<|by exact gx H47 fun t_16 ht_16 H48=>zV 13 E (by decide +kernel) (za (za zc)) E (zz E) (zH ht_16)<|by exact a_takeP 14 E (by decide +kernel) (za (za zc)) E (zm E)<|by exact gp 15 19 (by decide +kernel) E E (qr E E H48 fun rv Sx_6 H49=>by obtain⟨t_17,t_18,rfl,ht_17,H50⟩:=H49;exact by obtain⟨k_1,H51⟩:=H50;exact zr<|zN (zx (zH k_1) zy)<|a_takeP 16 E (by decide +kernel) (za (za zc)) E (zm E)<|by exact a_takeP 17 E (by decide +kernel) (za (za zc)) E (zg E E)<|by exact a_takeP 18 E (by decide +kernel) (za (za zc)) E (zg E E)<|by exact zB 19 (by decide +kernel) E<|by exact by refine zL E fun b_7=>?_;exact zr<|zN (zx (zH k_1) zy)<|zB 20 (by decide +kernel) E<|by exact an H51 fun c_14 H52=>zp 1 E E E E E ht_17 E c_14<|zr<|zN zy<|a_takeP 21 E (by decide +kernel) (za (za zc)) E (zS E)<|by exact zK (by decide +kernel)<|by exact zt<|csr<|mv E E<|iteK H52 (fun c_15 H53=>ceT E E E (c_15)<|nx<|c_t E E<|csr<|gv E E<|nx<|zi<|zb<|zh Tryz.results207 (zd E ze) ⟨_,E,H53⟩) fun c_15 H53=>ceF E E E (c_15)<|nx<|cfs E E<|hJx () _ _ _ _ [0] H53 E ⟨E,E,E,E,E,True.intro⟩ E) (by refine zL E fun b_7=>?_;exact zr<|zN (zx (zH ht_16) (zx (yi ht_15) (zx (zH ht_14) zy)))<|zB 15 (by decide +kernel) E<|by exact qr E E H48 fun rv Sx_6 H54=>by obtain⟨t_17,t_18,rfl,ht_17,H55⟩:=H54;exact by obtain⟨k_1,H56⟩:=H55;exact zr<|zN (zx (zH k_1) zy)<|a_takeP 16 E (by decide +kernel) (za (za zc)) E (zm E)<|by exact a_takeP 17 E (by decide +kernel) (za (za zc)) E (zg E E)<|by exact a_takeP 18 E (by decide +kernel) (za (za zc)) E (zg E E)<|by exact zB 20 (by decide +kernel) E<|by exact an H56 fun c_14 H57=>zp 1 E E E E E ht_17 E c_14<|zr<|zN zy<|a_takeP 21 E (by decide +kernel) (za (za zc)) E (zS E)<|by exact zK (by decide +kernel)<|by exact zt<|csr<|mv E E<|iteK H57 (fun c_15 H58=>ceT E E E (c_15)<|nx<|c_t E E<|csr<|gv E E<|nx<|zi<|zb<|zh Tryz.results207 (zd E ze) ⟨_,E,H58⟩) fun c_15 H58=>ceF E E E (c_15)<|nx<|cfs E E<|hJx () _ _ _ _ [0] H58 E ⟨E,E,E,E,E,True.intro⟩ E))) (fun Jx_1 hJx_1 H59=>csr<|mv E E<|iteK H59 (fun c_16 H60=>s_p E (yT (zQ E E) c_16)<|nx<|c_t E E<|csr<|mv E E<|gv E E<|nx<|zi<|zb<|zh Tryz.results207 (zd E ze) ⟨_,E,H60⟩) fun c_16 H60=>s_p E (yF (zQ E E) c_16)<|nx<|cfs E E<|hJx_1 () _ _ _ _ [0] H60 E ⟨E,E,E,E,E,True.intro⟩ E)
def vO (S:Mem) (h:Pt) (vm:Int) (n:Int) (k:Int) (Q:Mem→Prop):Prop:=
 nn h fun b o=>
 gP (S.cell b (o+3)) fun t=>
 qN S t vm n fun t_1 Sx=>
 nn t_1 fun b_1 o_1=>
 gI (Sx.cell b_1 (o_1+1)) .u64 fun t_2=>
 gI (Sx.cell b_1 (o_1+2)) .u64 fun t_3=>
 gI (Sx.cell b_1 (o_1+3)) .u64 fun t_4=>
 fR Sx t_3 fun t_5 Sx_1=>
 Sx_1.cell b_1 (o_1+3)=some (.int .u64 t_4) ∧
 Sx_1.cell b_1 (o_1+1)=some (.int .u64 t_2) ∧
 fd Sx_1 (some (b,o)) vm n k t_2 t_5 (decide (t_4≠0)) fun t_6 t_7 Sx_2=>
 pt Sx_2 b_1 o_1 1 ([.int .u64 (IntKind.u64.wrap t_7)]) fun Sx_3=>
 pt Sx_3 b_1 (o_1+1) 1 ([.int .u64 t_6]) fun Sx_4=>
 yN Sx_4 (some (b,o)) vm ([.int .u8 2,.int .i64 n,.int .u64 (ior .u64 (ishl .u64 k 8) (IntKind.u64.wrap t_7)),.int .u64 t_6]) fun Sx_5=>
 Q Sx_5
theorem zdb {S:Mem} {h:Pt} {vm:Int} {n:Int} {k:Int} {Q:Mem→Prop} (H:vO S h vm n k Q):jt S h vm n k Q:=by
 unfold vO at H
 exact Tr.intro Tryz.func80 E Tryz.ntmps80 E fun w0=>csr<|mv E E<|by obtain⟨b,o,rfl,H1⟩:=H;exact s_p E (zJ E)<|s_p E (zv E E)<|gx H1 fun t ht H2=>s_v E (zz E) (zH ht)<|mv E E<|mv E E<|qC E E H2 fun t_1 Sx H3=>gv E E<|nx<|zC<|zM (by kernel_rfl)<|aTP 0 E (by decide +kernel) E (zm E)<|by exact by obtain⟨b_1,o_1,rfl,H4⟩:=H3;exact aTP 1 E (by decide +kernel) E (zJ E)<|by exact aTP 2 E (by decide +kernel) E (zv E E)<|by exact aTP 3 E (by decide +kernel) E (zjG (m:=1) E E (by decide) (by decide) (by decide))<|by exact gx H4 fun t_2 ht_2 H5=>aT 4 E (by decide +kernel) E (zz E) (zH ht_2)<|by exact aTP 5 E (by decide +kernel) E (zm E)<|by exact aTP 6 E (by decide +kernel) E (zJ E)<|by exact aTP 7 E (by decide +kernel) E (zv E E)<|by exact aTP 8 E (by decide +kernel) E (zjG (m:=2) E E (by decide) (by decide) (by decide))<|by exact gx H5 fun t_3 ht_3 H6=>aT 9 E (by decide +kernel) E (zz E) (zH ht_3)<|by exact aTP 11 E (by decide +kernel) E (zm E)<|by exact aTP 12 E (by decide +kernel) E (zJ E)<|by exact aTP 13 E (by decide +kernel) E (zv E E)<|by exact aTP 14 E (by decide +kernel) E (zjG (m:=3) E E (by decide) (by decide) (by decide))<|by exact gx H6 fun t_4 ht_4 H7=>aT 15 E (by decide +kernel) E (zz E) (zH ht_4)<|by exact zB 10 (by decide +kernel) E<|by exact qC E E H7 fun t_5 Sx_1 H8=>by obtain⟨k_1,H9⟩:=H8;exact by obtain⟨k_2,H10⟩:=H9;exact zr<|zN (zx (zH k_1) (zx (zH k_2) zy))<|aTP 16 E (by decide +kernel) E (zS E)<|by exact aTP 17 E (by decide +kernel) E (zS E)<|by exact aTP 18 E (by decide +kernel) E (zS E)<|by exact zK (by decide +kernel)<|by exact zt<|csr<|mv E E<|mv E E<|mv E E<|mv E E<|mv E E<|mv E E<|mv E E<|s_p E (zQ E E)<|gO E E H10 fun t_6 t_7 Sx_2 H11=>mv E E<|s_p E (zg E E)<|s_p E (zg E E)<|gv E E<|gv E E<|nx<|zC<|zM (by kernel_rfl)<|aTP 0 E (by decide +kernel) E (zm E)<|by exact aTP 1 E (by decide +kernel) E (zm E)<|by exact aTP 2 E (by decide +kernel) E (zm E)<|by exact aTP 3 E (by decide +kernel) E (qq ⟨_,Tryz.underlying28⟩ E)<|by exact aTP 4 E (by decide +kernel) E (zm E)<|by exact aTP 5 E (by decide +kernel) E (zJ E)<|by exact aTP 6 E (by decide +kernel) E (zv E E)<|by exact aTP 7 E (by decide +kernel) E (zjG (m:=0) E E (by decide) (by decide) (by decide))<|by exact aTP 9 E (by decide +kernel) E (zJ E)<|by exact aTP 10 E (by decide +kernel) E (zv E E)<|by exact zB 8 (by decide +kernel) E<|by exact an H11 fun c H12=>qo E E E E E c E<|zr<|zN zy<|aTP 11 E (by decide +kernel) E (zjG (m:=1) E E (by decide) (by decide) (by decide))<|by exact zB 12 (by decide +kernel) E<|by exact an H12 fun c_1 H13=>qo E E E E E c_1 E<|zr<|zN zy<|zK (by decide +kernel)<|by exact zt<|zu<|mv E E<|mv E E<|mv E E<|mv E E<|s_p E (zdk E E (by decide))<|mv E E<|s_p E (qq ⟨_,Tryz.underlying28⟩ E)<|s_p E (zms E E)<|mv E E<|s_p E (zF E E)<|by exact fK E E H13 fun Sx_5 H14=>zr<|wb Tryz.results80 (ze) ⟨E,H14⟩
def jv (S:Mem) (h:Pt) (vm:Int) (n:Int) (k:Int) (w:Int) (b:Int) (write:Bool) (Q:Int→Int→Mem→Prop):Prop:=
 fR S w fun t Sx=>
 nn h fun b_1 o=>
 gP (Sx.cell b_1 (o+3)) fun t_1=>
 nn t_1 fun b_2 o_1=>
 0≤vm∧vm<6 ∧
 jn (fun (Sx_1:Mem)=>
 Q 0 0 Sx_1) fun Jx=>
 if k=0 then
 yN Sx (some (b_1,o)) vm ([.int .u8 3,.int .i64 n,.int .u64 (iand .u64 w 255),.int .u64 0]) fun Sx_2=>
 Jx Sx_2
 else
 if k=1 then
 jn (fun (Sx_3:Mem)=>
 gL (Sx_3.cell b_2 (o_1+2+vm.toNat*12+6)) fun t_2=>
 sl t_2 fun b_3 o_2 n_1 n_2=>
 (0:Int)<(n_1:Nat) ∧
 gI (Sx_3.cell b_3 o_2) .u8 fun t_3=>
 gL (Sx_3.cell b_2 (o_1+2+vm.toNat*12+6)) fun t_4=>
 (0:Int)≤1∧(1:Int)≤(t_4.n:Int)∧(t_4.n:Int)≤(t_4.c:Int) ∧
 lt (slc 1 t_4 1 (t_4.n:Int)) fun t_5=>
 sp Sx_3 t_5 1 fun vs=>
 ap Sx_3 5 1 1 [.int .u8 0] (⟨none,0,0⟩) t_5.n vs fun t_6 Sx_4=>
 pt Sx_4 b_2 (o_1+2+vm.toNat*12+6) 1 ([eL t_6]) fun Sx_5=>
 Q (IntKind.u64.wrap t_3) 0 Sx_5) fun Jx_1=>
 gL (Sx.cell b_2 (o_1+2+vm.toNat*12+6)) fun t_7=>
 if (t_7.n:Int)=0 then
 Q 0 2 Sx
 else
 Jx_1 Sx
 else
 if k=2 then
 jq Sx (some (b_1,o)) vm t b fun t_8 Sx_6=>
 Q 0 t_8 Sx_6
 else
 if k=3 then
 gP (Sx.cell b_1 (o+3)) fun t_9=>
 nn t_9 fun b_4 o_3=>
 gP (Sx.cell b_4 (o_3+171)) fun t_10=>
 gI (Sx.cell b_2 (o_1+2+vm.toNat*12+5)) .u64 fun t_11=>
 wK Sx t_10 vm n (IntKind.u64.wrap (w+(if ineg .u64 w<t_11 then ineg .u64 w else t_11))) fun t_12 Sx_7=>
 Sx_7.cell b_2 (o_1+2+vm.toNat*12+5)=some (.int .u64 t_11) ∧
 Sx_7.cell b_1 (o+3)=some (.pointer (some ⟨b_4,o_3,none⟩)) ∧
 Jx Sx_7
 else
 if k=4 then
 kE Sx (some (b_1,o)) vm t b write fun t_13 t_14 Sx_8=>
 Q t_13 t_14 Sx_8
 else
 if k=5 then
 vw Sx (some (b_1,o)) vm t b fun t_15 Sx_9=>
 Q 0 t_15 Sx_9
 else
 if k=6 then
 kF Sx (some (b_1,o)) vm t fun t_16 Sx_10=>
 Q 0 t_16 Sx_10
 else
 if k=7 then
 wj Sx (some (b_1,o)) vm t fun t_17 Sx_11=>
 Q 0 t_17 Sx_11
 else
 if k=8 then
 js Sx (some (b_1,o)) vm t fun t_18 Sx_12=>
 Q 0 t_18 Sx_12
 else
 if k=9 then
 gd Sx (some (b_1,o)) vm t fun t_19 Sx_13=>
 Q 0 t_19 Sx_13
 else
 if k=10 then
 jr Sx (some (b_1,o)) vm t b fun t_20 Sx_14=>
 Q 0 t_20 Sx_14
 else
 if k=11 then
 jp Sx (some (b_1,o)) vm t b fun t_21 Sx_15=>
 Q 0 t_21 Sx_15
 else
 if k=12 then
 Q (IntKind.u64.wrap vm) 0 Sx
 else
 if k=13 then
 gP (Sx.cell b_1 (o+3)) fun t_22=>
 qN Sx t_22 vm n fun t_23 Sx_16=>
 nn t_23 fun b_5 o_4=>
 pt Sx_16 b_5 (o_4+23) 1 ([.int .u8 2]) fun Sx_17=>
 Jx Sx_17
 else
 Q 0 1 Sx
theorem zet {S:Mem} {h:Pt} {vm:Int} {n:Int} {k:Int} {w:Int} {b:Int} {write:Bool} {Q:Int→Int→Mem→Prop} (H:jv S h vm n k w b write Q):fd S h vm n k w b write Q:=by
 unfold jv at H
 exact Tr.intro Tryz.func144 E Tryz.ntmps144 E fun w0=>csr<|gv E E<|gv E E<|nxr<|mv E E<|qC E E H fun t Sx H1=>gv E E<|nxr<|mv E E<|by obtain⟨b_1,o,rfl,H2⟩:=H1;exact s_p E (zJ E)<|s_p E (zv E E)<|gx H2 fun t_1 ht_1 H3=>s_v E (zz E) (zH ht_1)<|mv E E<|by obtain⟨b_2,o_1,rfl,H4⟩:=H3;exact s_p E (zJ E)<|s_p E (zv E E)<|an2 H4 fun c c_1 H5=>s_p E (qv E E c c_1 E)<|gv E E<|nx<|zn H5 (fun (J:Mem→Prop) (z:Unit) S=>J S) (fun z=>⟨162,[]⟩) (fun z=>[]) (fun _ Sx_1 H6=>csr<|gv E E<|gv E E<|nx<|zi<|zh Tryz.results144 (zd E (zd E ze)) ⟨_,_,E,H6⟩) (fun Jx hJx H7=>csr<|mv E E<|nx<|zw<|csr<|iteK H7 (fun c_2 H8=>ceT E E E (c_2)<|gv E E<|nx<|ctr E E<|mv E E<|mv E E<|mv E E<|mv E E<|s_p E (kW E E)<|s_p E (zF E E)<|by exact fK E E H8 fun Sx_2 H9=>zr<|zU<|hJx () _ _ _ _ [] H9 E True.intro E) fun c_2 H8=>ceF E E E (c_2)<|gv E E<|nx<|c_f E E<|csr<|iteK H8 (fun c_3 H10=>ceT E E E (c_3)<|gv E E<|nx<|c_t E E<|zn H10 (fun (J:Mem→Prop) (z:Unit) S=>J S) (fun z=>⟨162,[(17,.pointer (some ⟨b_2,o_1+2+vm.toNat*12,none⟩))]⟩) (fun z=>[]) (fun _ Sx_3 H11=>csr<|mv E E<|s_p E (zJ E)<|s_p E (zv E E)<|gx H11 fun t_2 ht_2 H12=>s_v E (zz E) (zH ht_2)<|by obtain⟨b_3,o_2,n_1,n_2,rfl,H13⟩:=H12;exact an H13 fun c_5 H14=>s_p E (qS E E (by decide) c_5 E)<|gx H14 fun t_3 ht_3 H15=>s_v E (zz E) (zH ht_3)<|gv E E<|nxr<|mv E E<|mv E E<|s_p E (zJ E)<|s_p E (zv E E)<|gx H15 fun t_4 ht_4 H16=>s_v E (zz E) (zH ht_4)<|an3 H16 fun c_6 c_7 c_8 H17=>by obtain⟨t_5,et_5,H18⟩:=zjD H17;exact s_p E (eqv (zcK (a:=1) (b:=(t_4.n:Int)) E E E c_6 c_7 c_8) (congrArg eL et_5))<|by obtain⟨vs,h_1,c_9,H19⟩:=H18;exact vY (sx:=⟨none,0,0⟩) (vs:=vs) E E E ((zaH h_1).1) ((zaH (P:=Tryz.prog) (w0:=w0) (S0:=S) (V:=[]) h_1).2) c_9 (by decide) H19 fun t_6 Sx_4 H20=>s_p E (zJ E)<|s_p E (zv E E)<|an H20 fun c_10 H21=>qo E E E E E c_10 E<|nxr<|mv E E<|s_p E (qq ⟨_,Tryz.underlying5⟩ E)<|gv E E<|gv E E<|nx<|zi<|zj<|zb<|zh Tryz.results144 (zd E (zd E ze)) ⟨_,_,E,H21⟩) (fun Jx_1 hJx_1 H22=>csr<|mv E E<|s_p E (zJ E)<|s_p E (zv E E)<|gx H22 fun t_7 ht_7 H23=>s_v E (zz E) (zH ht_7)<|s_p E (yk E)<|iteK H23 (fun c_11 H24=>ceT E E E (c_11)<|nx<|c_t E E<|csr<|gv E E<|gv E E<|nx<|zi<|zb<|zj<|zb<|zh Tryz.results144 (zd E (zd E ze)) ⟨_,_,E,H24⟩) fun c_11 H24=>ceF E E E (c_11)<|nx<|cfs E E<|hJx_1 () _ _ _ _ [] H24 E ⟨E,True.intro⟩ E)) fun c_3 H10=>ceF E E E (c_3)<|gv E E<|nx<|c_f E E<|csr<|iteK H10 (fun c_12 H25=>ceT E E E (c_12)<|gv E E<|nx<|c_t E E<|csr<|mv E E<|mv E E<|mv E E<|mv E E<|qC E E H25 fun t_8 Sx_6 H26=>gv E E<|gv E E<|nx<|zi<|zj<|zb<|zh Tryz.results144 (zd E (zd E ze)) ⟨_,_,E,H26⟩) fun c_12 H25=>ceF E E E (c_12)<|gv E E<|nx<|c_f E E<|csr<|iteK H25 (fun c_13 H27=>ceT E E E (c_13)<|gv E E<|nx<|c_t E E<|zM (by kernel_rfl)<|a_takeP 0 E (by decide +kernel) (zf (za zc)) E (zm E)<|by exact a_takeP 1 E (by decide +kernel) (zf (za zc)) E (zJ E)<|by exact a_takeP 2 E (by decide +kernel) (zf (za zc)) E (zv E E)<|by exact gx H27 fun t_9 ht_9 H28=>zV 3 E (by decide +kernel) (zf (za zc)) E (zz E) (zH ht_9)<|by exact by obtain⟨b_4,o_3,rfl,H29⟩:=H28;exact a_takeP 4 E (by decide +kernel) (zf (za zc)) E (zJ E)<|by exact a_takeP 5 E (by decide +kernel) (zf (za zc)) E (zv E E)<|by exact gx H29 fun t_10 ht_10 H30=>zV 6 E (by decide +kernel) (zf (za zc)) E (zz E) (zH ht_10)<|by exact a_takeP 7 E (by decide +kernel) (zf (za zc)) E (zm E)<|by exact a_takeP 8 E (by decide +kernel) (zf (za zc)) E (zm E)<|by exact a_takeP 9 E (by decide +kernel) (zf (za zc)) E (zm E)<|by exact a_takeP 10 E (by decide +kernel) (zf (za zc)) E (zm E)<|by exact a_takeP 11 E (by decide +kernel) (zf (za zc)) E (zJ E)<|by exact a_takeP 12 E (by decide +kernel) (zf (za zc)) E (zv E E)<|by exact gx H30 fun t_11 ht_11 H31=>zV 13 E (by decide +kernel) (zf (za zc)) E (zz E) (zH ht_11)<|by exact a_takeP 14 E (by decide +kernel) (zf (za zc)) E (zm E)<|by exact a_takeP 15 E (by decide +kernel) (zf (za zc)) E (zmK E)<|by exact a_takeP 16 E (by decide +kernel) (zf (za zc)) E (zjE E E)<|by exact a_takeP 17 E (by decide +kernel) (zf (za zc)) E (qh E E)<|by exact zB 18 (by decide +kernel) E<|by exact qC E E H31 fun t_12 Sx_7 H32=>by obtain⟨k_1,H33⟩:=H32;exact by obtain⟨k_2,H34⟩:=H33;exact zr<|zN (zx (zH k_1) (zx (zH k_2) zy))<|zK (by decide +kernel)<|by exact zU<|hJx () _ _ _ _ [] H34 E True.intro E) fun c_13 H27=>ceF E E E (c_13)<|gv E E<|nx<|c_f E E<|csr<|iteK H27 (fun c_14 H35=>ceT E E E (c_14)<|gv E E<|nx<|c_t E E<|zC<|by exact zu<|mv E E<|mv E E<|mv E E<|mv E E<|mv E E<|gO E E H35 fun t_13 t_14 Sx_8 H36=>s_p E (zg E E)<|s_p E (zg E E)<|gv E E<|gv E E<|nx<|zi<|zj<|zb<|zh Tryz.results144 (zd E (zd E ze)) ⟨_,_,E,H36⟩) fun c_14 H35=>ceF E E E (c_14)<|gv E E<|nx<|c_f E E<|zC<|by exact zu<|iteK H35 (fun c_15 H37=>ceT E E E (c_15)<|gv E E<|nx<|c_t E E<|csr<|mv E E<|mv E E<|mv E E<|mv E E<|qC E E H37 fun t_15 Sx_9 H38=>gv E E<|gv E E<|nx<|zi<|zj<|zb<|zh Tryz.results144 (zd E (zd E ze)) ⟨_,_,E,H38⟩) fun c_15 H37=>ceF E E E (c_15)<|gv E E<|nx<|c_f E E<|csr<|iteK H37 (fun c_16 H39=>ceT E E E (c_16)<|gv E E<|nx<|c_t E E<|csr<|mv E E<|mv E E<|mv E E<|qC E E H39 fun t_16 Sx_10 H40=>gv E E<|gv E E<|nx<|zi<|zj<|zb<|zh Tryz.results144 (zd E (zd E ze)) ⟨_,_,E,H40⟩) fun c_16 H39=>ceF E E E (c_16)<|gv E E<|nx<|c_f E E<|csr<|iteK H39 (fun c_17 H41=>ceT E E E (c_17)<|gv E E<|nx<|c_t E E<|csr<|mv E E<|mv E E<|mv E E<|qC E E H41 fun t_17 Sx_11 H42=>gv E E<|gv E E<|nx<|zi<|zj<|zb<|zh Tryz.results144 (zd E (zd E ze)) ⟨_,_,E,H42⟩) fun c_17 H41=>ceF E E E (c_17)<|gv E E<|nx<|c_f E E<|csr<|iteK H41 (fun c_18 H43=>ceT E E E (c_18)<|gv E E<|nx<|c_t E E<|csr<|mv E E<|mv E E<|mv E E<|qC E E H43 fun t_18 Sx_12 H44=>gv E E<|gv E E<|nx<|zi<|zj<|zb<|zh Tryz.results144 (zd E (zd E ze)) ⟨_,_,E,H44⟩) fun c_18 H43=>ceF E E E (c_18)<|gv E E<|nx<|c_f E E<|csr<|iteK H43 (fun c_19 H45=>ceT E E E (c_19)<|gv E E<|nx<|c_t E E<|csr<|mv E E<|mv E E<|mv E E<|qC E E H45 fun t_19 Sx_13 H46=>gv E E<|gv E E<|nx<|zi<|zj<|zb<|zh Tryz.results144 (zd E (zd E ze)) ⟨_,_,E,H46⟩) fun c_19 H45=>ceF E E E (c_19)<|gv E E<|nx<|c_f E E<|csr<|iteK H45 (fun c_20 H47=>ceT E E E (c_20)<|gv E E<|nx<|c_t E E<|csr<|mv E E<|mv E E<|mv E E<|mv E E<|qC E E H47 fun t_20 Sx_14 H48=>gv E E<|by exact gv E E<|nx<|zi<|zj<|zb<|zh Tryz.results144 (zd E (zd E ze)) ⟨_,_,E,H48⟩) fun c_20 H47=>ceF E E E (c_20)<|gv E E<|nx<|c_f E E<|csr<|iteK H47 (fun c_21 H49=>ceT E E E (c_21)<|gv E E<|nx<|c_t E E<|zC<|by exact zu<|mv E E<|mv E E<|mv E E<|mv E E<|qC E E H49 fun t_21 Sx_15 H50=>gv E E<|gv E E<|nx<|zi<|zj<|zb<|zh Tryz.results144 (zd E (zd E ze)) ⟨_,_,E,H50⟩) fun c_21 H49=>ceF E E E (c_21)<|gv E E<|nx<|c_f E E<|zC<|by exact zu<|iteK H49 (fun c_22 H51=>ceT E E E (c_22)<|gv E E<|nx<|c_t E E<|csr<|mv E E<|s_p E (qq ⟨_,Tryz.underlying3⟩ E)<|gv E E<|gv E E<|nx<|zi<|zj<|zb<|zh Tryz.results144 (zd E (zd E ze)) ⟨_,_,E,H51⟩) fun c_22 H51=>ceF E E E (c_22)<|gv E E<|nx<|c_f E E<|csr<|iteK H51 (fun c_23 H52=>ceT E E E (c_23)<|gv E E<|nx<|ctr E E<|mv E E<|s_p E (zJ E)<|s_p E (zv E E)<|gx H52 fun t_22 ht_22 H53=>s_v E (zz E) (zH ht_22)<|mv E E<|mv E E<|qC E E H53 fun t_23 Sx_16 H54=>by obtain⟨b_5,o_4,rfl,H55⟩:=H54;exact s_p E (zJ E)<|s_p E (zv E E)<|an H55 fun c_24 H56=>qo E E E E E c_24 E<|zr<|zU<|hJx () _ _ _ _ [] H56 E True.intro E) fun c_23 H52=>ceF E E E (c_23)<|gv E E<|nx<|c_f E E<|csr<|gv E E<|gv E E<|nx<|zi<|zj<|zb<|zh Tryz.results144 (zd E (zd E ze)) ⟨_,_,E,H52⟩)
def kR (S:Mem) (h:Pt) (vm:Int) (page:Int) (Q:Int→Mem→Prop):Prop:=
 jn (fun (Sx:Mem)=>
 jn (fun (Sx_1:Mem)=>
 jn (fun (Sx_2:Mem)=>
 nn h fun b o=>
 gP (Sx_2.cell b (o+1)) fun t=>
 vi Sx_2 t fun t_1 t_2 Sx_3=>
 if t_2≠0 then
 Q t_2 Sx_3
 else
 crab_Crab_own Sx_3 (some (b,o)) vm page t_1 fun Sx_4=>
 Q 0 Sx_4) fun Jx=>
 nn h fun b_1 o_1=>
 gP (Sx_1.cell b_1 (o_1+3)) fun t_3=>
 nn t_3 fun b_2 o_2=>
 0≤vm∧vm<6 ∧
 gI (Sx_1.cell b_2 (o_2+2+vm.toNat*12+4)) .i64 fun t_4=>
 xd Sx_1 (some (b_1,o_1)) vm fun t_5 Sx_5=>
 Sx_5.cell b_2 (o_2+2+vm.toNat*12+4)=some (.int .i64 t_4) ∧
 Sx_5.cell b_1 (o_1+3)=some (.pointer (some ⟨b_2,o_2,none⟩)) ∧
 if t_4≤t_5 then
 Q 9 Sx_5
 else
 Jx Sx_5) fun Jx_1=>
 nn h fun b_3 o_3=>
 gP (Sx.cell b_3 (o_3+3)) fun t_6=>
 nn t_6 fun b_4 o_4=>
 0≤vm∧vm<6 ∧
 gA (Sx.part b_4 (o_4+2+vm.toNat*12+2) 2) fun t_7=>
 gP (Sx.cell b_3 o_3) fun t_8=>
 qw Sx t_7 t_8 page fun t_9 t_10 Sx_6=>
 Sx_6.cell b_3 (o_3+3)=some (.pointer (some ⟨b_4,o_4,none⟩)) ∧
 t_9.all (·.oneCell')=true ∧
 if t_10=0 then
 Q 8 Sx_6
 else
 Jx_1 Sx_6) fun Jx_2=>
 if page<0 then
 Q 1 S
 else
 if 32≤page then
 Q 1 S
 else
 Jx_2 S
theorem zdA {S:Mem} {h:Pt} {vm:Int} {page:Int} {Q:Int→Mem→Prop} (H:kR S h vm page Q):gd S h vm page Q:=by
 unfold kR at H
 exact Tr.intro Tryz.func211 E Tryz.ntmps211 E fun w0=>csr<|gv E E<|nx<|zn H (fun (J:Mem→Prop) (z:Unit) S=>J S) (fun z=>⟨68,[(0,eP h),(1,.int .i64 vm),(2,.int .i64 page)]⟩) (fun z=>[]) (fun _ Sx H1=>zn H1 (fun (J:Mem→Prop) (z:Unit) S=>J S) (fun z=>⟨68,[(0,eP h),(1,.int .i64 vm),(2,.int .i64 page)]⟩) (fun z=>[]) (fun _ Sx_1 H2=>zn H2 (fun (J:Mem→Prop) (z:Unit) S=>J S) (fun z=>⟨68,[(0,eP h),(1,.int .i64 vm),(2,.int .i64 page)]⟩) (fun z=>[]) (fun _ Sx_2 H3=>csr<|mv E E<|by obtain⟨b,o,rfl,H4⟩:=H3;exact s_p E (zJ E)<|s_p E (zv E E)<|gx H4 fun t ht H5=>s_v E (zz E) (zH ht)<|gO E E H5 fun t_1 t_2 Sx_3 H6=>mv E E<|s_p E (zg E E)<|s_p E (zg E E)<|gv E E<|gv E E<|nx<|zC<|csr<|mv E E<|iteK H6 (fun c H7=>s_p E (yT (zQ E E) c)<|nx<|c_t E E<|csr<|mv E E<|gv E E<|nx<|zi<|zb<|zh Tryz.results211 (zd E ze) ⟨_,E,H7⟩) fun c H7=>s_p E (yF (zQ E E) c)<|nx<|cfs E E<|zt<|csr<|mv E E<|mv E E<|mv E E<|mv E E<|fK E E H7 fun Sx_4 H8=>nxr<|gv E E<|nx<|zi<|zh Tryz.results211 (zd E ze) ⟨_,E,H8⟩) (fun Jx hJx H9=>zC<|zM (by kernel_rfl)<|a_takeP 0 E (by decide +kernel) (za (za zc)) E (zm E)<|by exact a_takeP 1 E (by decide +kernel) (za (za zc)) E (zm E)<|by exact a_takeP 3 E (by decide +kernel) (za (za zc)) E (zm E)<|by exact by obtain⟨b_1,o_1,rfl,H10⟩:=H9;exact a_takeP 4 E (by decide +kernel) (za (za zc)) E (zJ E)<|by exact a_takeP 5 E (by decide +kernel) (za (za zc)) E (zv E E)<|by exact gx H10 fun t_3 ht_3 H11=>zV 6 E (by decide +kernel) (za (za zc)) E (zz E) (zH ht_3)<|by exact a_takeP 7 E (by decide +kernel) (za (za zc)) E (zm E)<|by exact by obtain⟨b_2,o_2,rfl,H12⟩:=H11;exact a_takeP 8 E (by decide +kernel) (za (za zc)) E (zJ E)<|by exact a_takeP 9 E (by decide +kernel) (za (za zc)) E (zv E E)<|by exact an2 H12 fun c_1 c_2 H13=>a_takeP 10 E (by decide +kernel) (za (za zc)) E (qv E E c_1 c_2 E)<|by exact a_takeP 11 E (by decide +kernel) (za (za zc)) E (zv E E)<|by exact gx H13 fun t_4 ht_4 H14=>zV 12 E (by decide +kernel) (za (za zc)) E (zz E) (zH ht_4)<|by exact zB 2 (by decide +kernel) E<|by exact qC E E H14 fun t_5 Sx_5 H15=>by obtain⟨k,H16⟩:=H15;exact by obtain⟨k_1,H17⟩:=H16;exact zr<|zN (zx (zH k) (zx (zH k_1) zy))<|iteK H17 (fun c_3 H18=>a_takeP 13 E (by decide +kernel) (za (za zc)) E (yT (qj E E) c_3)<|by exact zK (by decide +kernel)<|by exact zt<|c_t E E<|csr<|gv E E<|nx<|zi<|zb<|zh Tryz.results211 (zd E ze) ⟨_,E,H18⟩) fun c_3 H18=>a_takeP 13 E (by decide +kernel) (za (za zc)) E (yF (qj E E) c_3)<|by exact zK (by decide +kernel)<|by exact zt<|cfs E E<|hJx () _ _ _ _ [] H18 E ⟨E,E,E,True.intro⟩ E)) (fun Jx_1 hJx_1 H19=>zC<|zM (by kernel_rfl)<|a_takeP 0 E (by decide +kernel) (za (za zc)) E (zm E)<|by exact by obtain⟨b_3,o_3,rfl,H20⟩:=H19;exact a_takeP 1 E (by decide +kernel) (za (za zc)) E (zJ E)<|by exact a_takeP 2 E (by decide +kernel) (za (za zc)) E (zv E E)<|by exact gx H20 fun t_6 ht_6 H21=>zV 3 E (by decide +kernel) (za (za zc)) E (zz E) (zH ht_6)<|by exact a_takeP 4 E (by decide +kernel) (za (za zc)) E (zm E)<|by exact by obtain⟨b_4,o_4,rfl,H22⟩:=H21;exact a_takeP 5 E (by decide +kernel) (za (za zc)) E (zJ E)<|by exact a_takeP 6 E (by decide +kernel) (za (za zc)) E (zv E E)<|by exact an2 H22 fun c_4 c_5 H23=>a_takeP 7 E (by decide +kernel) (za (za zc)) E (qv E E c_4 c_5 E)<|by exact a_takeP 8 E (by decide +kernel) (za (za zc)) E (zv E E)<|by exact gx H23 fun t_7 ht_7 H24=>by refine zV 9 E (by decide +kernel) (za (za zc)) E (zT E (zG ht_7)) (yi ht_7) ?_;exact a_takeP 10 E (by decide +kernel) (za (za zc)) E (zm E)<|by exact a_takeP 11 E (by decide +kernel) (za (za zc)) E (zJ E)<|by exact a_takeP 12 E (by decide +kernel) (za (za zc)) E (zv E E)<|by exact gx H24 fun t_8 ht_8 H25=>zV 13 E (by decide +kernel) (za (za zc)) E (zz E) (zH ht_8)<|by exact a_takeP 14 E (by decide +kernel) (za (za zc)) E (zm E)<|by exact gp 15 19 (by decide +kernel) E E (qr E E H25 fun rv Sx_6 H26=>by obtain⟨t_9,t_10,rfl,ht_9,H27⟩:=H26;exact by obtain⟨k_2,H28⟩:=H27;exact zr<|zN (zx (zH k_2) zy)<|a_takeP 16 E (by decide +kernel) (za (za zc)) E (zm E)<|by exact a_takeP 17 E (by decide +kernel) (za (za zc)) E (zg E E)<|by exact a_takeP 18 E (by decide +kernel) (za (za zc)) E (zg E E)<|by exact zB 19 (by decide +kernel) E<|by exact by refine zL E fun b_5=>?_;exact zr<|zN (zx (zH k_2) zy)<|zB 20 (by decide +kernel) E<|by exact an H28 fun c_6 H29=>zp 0 E E E E E ht_9 E c_6<|zr<|zN zy<|a_takeP 21 E (by decide +kernel) (za (za zc)) E (zS E)<|by exact zK (by decide +kernel)<|by exact zt<|csr<|mv E E<|iteK H29 (fun c_7 H30=>ceT E E E (c_7)<|nx<|c_t E E<|csr<|gv E E<|nx<|zi<|zb<|zh Tryz.results211 (zd E ze) ⟨_,E,H30⟩) fun c_7 H30=>ceF E E E (c_7)<|nx<|cfs E E<|hJx_1 () _ _ _ _ [] H30 E ⟨E,E,E,True.intro⟩ E) (by refine zL E fun b_5=>?_;exact zr<|zN (zx (zH ht_8) (zx (yi ht_7) (zx (zH ht_6) zy)))<|zB 15 (by decide +kernel) E<|by exact qr E E H25 fun rv Sx_6 H31=>by obtain⟨t_9,t_10,rfl,ht_9,H32⟩:=H31;exact by obtain⟨k_2,H33⟩:=H32;exact zr<|zN (zx (zH k_2) zy)<|a_takeP 16 E (by decide +kernel) (za (za zc)) E (zm E)<|by exact a_takeP 17 E (by decide +kernel) (za (za zc)) E (zg E E)<|by exact a_takeP 18 E (by decide +kernel) (za (za zc)) E (zg E E)<|by exact zB 20 (by decide +kernel) E<|by exact an H33 fun c_6 H34=>zp 0 E E E E E ht_9 E c_6<|zr<|zN zy<|a_takeP 21 E (by decide +kernel) (za (za zc)) E (zS E)<|by exact zK (by decide +kernel)<|by exact zt<|csr<|mv E E<|iteK H34 (fun c_7 H35=>ceT E E E (c_7)<|nx<|c_t E E<|csr<|gv E E<|nx<|zi<|zb<|zh Tryz.results211 (zd E ze) ⟨_,E,H35⟩) fun c_7 H35=>ceF E E E (c_7)<|nx<|cfs E E<|hJx_1 () _ _ _ _ [] H35 E ⟨E,E,E,True.intro⟩ E))) (fun Jx_2 hJx_2 H36=>csr<|mv E E<|iteK H36 (fun c_8 H37=>s_p E (yT (zD E E) c_8)<|mv E E<|sk2 E E<|pk E E E<|nx<|c_t E E<|csr<|gv E E<|nx<|zi<|zb<|zh Tryz.results211 (zd E ze) ⟨_,E,H37⟩) fun c_8 H37=>s_p E (yF (zD E E) c_8)<|mv E E<|mv E E<|iteK H37 (fun c_9 H38=>s_p E (yT (qj E E) c_9)<|pk E E E<|nx<|c_t E E<|csr<|gv E E<|nx<|zi<|zb<|zh Tryz.results211 (zd E ze) ⟨_,E,H38⟩) fun c_9 H38=>s_p E (yF (qj E E) c_9)<|pk E E E<|nx<|cfs E E<|hJx_2 () _ _ _ _ [] H38 E ⟨E,E,E,True.intro⟩ E)
def vN (S:Mem) (h:Pt) (vm:Int) (page:Int) (Q:Int→Mem→Prop):Prop:=
 vk S h vm page fun t t_1 Sx=>
 jn (fun (Sx_1:Mem)=>
 xc Sx_1 h vm page fun Sx_2=>
 nn h fun b o=>
 gP (Sx_2.cell b (o+3)) fun t_2=>
 nn t_2 fun b_1 o_1=>
 gP (Sx_2.cell b_1 (o_1+74)) fun t_3=>
 yS Sx_2 t_3 t vm fun t_4 Sx_3=>
 gP (Sx_3.cell b (o+1)) fun t_5=>
 yg Sx_3 t_5 t fun t_6 Sx_4=>
 Q t_6 Sx_4) fun Jx=>
 if t_1≠0 then
 Q t_1 Sx
 else
 nn h fun b_2 o_2=>
 gP (Sx.cell b_2 (o_2+3)) fun t_7=>
 nn t_7 fun b_3 o_3=>
 gA (Sx.part b_3 (o_3+75) 96) fun t_8=>
 ky Sx t_8 vm page fun t_9 Sx_5=>
 if t_9=true then
 Q 8 Sx_5
 else
 Jx Sx_5
theorem zda {S:Mem} {h:Pt} {vm:Int} {page:Int} {Q:Int→Mem→Prop} (H:vN S h vm page Q):js S h vm page Q:=by
 unfold vN at H
 exact Tr.intro Tryz.func210 E Tryz.ntmps210 E fun w0=>csr<|gv E E<|nxr<|mv E E<|mv E E<|mv E E<|gO E E H fun t t_1 Sx H1=>mv E E<|s_p E (zg E E)<|s_p E (zg E E)<|gv E E<|gv E E<|nx<|zn H1 (fun (J:Mem→Prop) (z:Unit) S=>J S) (fun z=>⟨51,[(0,eP h),(1,.int .i64 vm),(2,.int .i64 page),(7,.int .i64 t)]⟩) (fun z=>[]) (fun _ Sx_1 H2=>csr<|mv E E<|mv E E<|mv E E<|fK E E H2 fun Sx_2 H3=>nxr<|mv E E<|by obtain⟨b,o,rfl,H4⟩:=H3;exact s_p E (zJ E)<|s_p E (zv E E)<|gx H4 fun t_2 ht_2 H5=>s_v E (zz E) (zH ht_2)<|by obtain⟨b_1,o_1,rfl,H6⟩:=H5;exact s_p E (zJ E)<|s_p E (zv E E)<|gx H6 fun t_3 ht_3 H7=>s_v E (zz E) (zH ht_3)<|mv E E<|mv E E<|qC E E H7 fun t_4 Sx_3 H8=>nxr<|mv E E<|s_p E (zJ E)<|s_p E (zv E E)<|gx H8 fun t_5 ht_5 H9=>s_v E (zz E) (zH ht_5)<|mv E E<|qC E E H9 fun t_6 Sx_4 H10=>gv E E<|nx<|zi<|zh Tryz.results210 (zd E ze) ⟨_,E,H10⟩) (fun Jx hJx H11=>zw<|csr<|mv E E<|iteK H11 (fun c H12=>s_p E (yT (zQ E E) c)<|gv E E<|nx<|c_t E E<|csr<|mv E E<|gv E E<|nx<|zi<|zj<|zb<|zh Tryz.results210 (zd E ze) ⟨_,E,H12⟩) fun c H12=>s_p E (yF (zQ E E) c)<|gv E E<|nx<|c_f E E<|csr<|mv E E<|by obtain⟨b_2,o_2,rfl,H13⟩:=H12;exact s_p E (zJ E)<|s_p E (zv E E)<|gx H13 fun t_7 ht_7 H14=>s_v E (zz E) (zH ht_7)<|by obtain⟨b_3,o_3,rfl,H15⟩:=H14;exact s_p E (zJ E)<|s_p E (zv E E)<|gx H15 fun t_8 ht_8 H16=>by refine s_v E (zT E (zG ht_8)) (yi ht_8) ?_;exact mv E E<|mv E E<|qC E E H16 fun t_9 Sx_5 H17=>by have H18:=wM H17;rcases H18 with ⟨rfl,H19⟩ | ⟨rfl,H19⟩;exact (gv E E<|nx<|c_t E E<|csr<|gv E E<|nx<|zi<|zj<|zb<|zh Tryz.results210 (zd E ze) ⟨_,E,H19⟩);exact (gv E E<|nx<|cfs E E<|zU<|hJx () _ _ _ _ [] H19 E ⟨E,E,E,E,True.intro⟩ E))
def ve (S:Mem) (h:Pt) (vm:Int) (n:Int) (Q:Int→Mem→Prop):Prop:=
 nn h fun b o=>
 gP (S.cell b (o+3)) fun t=>
 nn t fun b_1 o_1=>
 gA (S.part b_1 (o_1+75) 96) fun t_1=>
 yh S t_1 n fun t_2 t_3 Sx=>
 t_2.all (·.oneCell')=true ∧
 gP (Sx.cell b (o+3)) fun t_4=>
 nn t_4 fun b_3 o_2=>
 gA (Sx.part b_3 (o_2+75) 96) fun t_5=>
 xH Sx t_5 n vm fun t_6 t_7 Sx_1=>
 t_6.all (·.oneCell')=true ∧
 jn (fun (Sx_2:Mem)=>
 gP (Sx_2.cell b (o+3)) fun t_8=>
 nn t_8 fun b_5 o_3=>
 t_6.all (·.oneCell')=true ∧
 pt Sx_2 b_5 (o_3+75) 96 t_6 fun Sx_3=>
 gI (nthL t_2 5) .i64 fun t_9=>
 xc Sx_3 (some (b,o)) vm t_9 fun Sx_4=>
 Q 0 Sx_4) fun Jx=>
 if t_7≠0 then
 Q t_7 Sx_1
 else
 Jx Sx_1
theorem zbW {S:Mem} {h:Pt} {vm:Int} {n:Int} {Q:Int→Mem→Prop} (H:ve S h vm n Q):kF S h vm n Q:=by
 unfold ve at H
 exact Tr.intro Tryz.func208 E Tryz.ntmps208 E fun w0=>csr<|gv E E<|nxr<|mv E E<|by obtain⟨b,o,rfl,H1⟩:=H;exact s_p E (zJ E)<|s_p E (zv E E)<|gx H1 fun t ht H2=>s_v E (zz E) (zH ht)<|by obtain⟨b_1,o_1,rfl,H3⟩:=H2;exact s_p E (zJ E)<|s_p E (zv E E)<|gx H3 fun t_1 ht_1 H4=>by refine s_v E (zT E (zG ht_1)) (yi ht_1) ?_;exact mv E E<|qr E E H4 fun rv Sx H5=>by obtain⟨t_2,t_3,rfl,ht_2,H6⟩:=H5;exact mv E E<|s_p E (zg E E)<|s_p E (zg E E)<|by refine zL E fun b_2=>?_;exact an H6 fun c H7=>zp 0 E E E E E ht_2 E c<|gv E E<|nxr<|mv E E<|s_p E (zJ E)<|s_p E (zv E E)<|gx H7 fun t_4 ht_4 H8=>s_v E (zz E) (zH ht_4)<|by obtain⟨b_3,o_2,rfl,H9⟩:=H8;exact s_p E (zJ E)<|s_p E (zv E E)<|gx H9 fun t_5 ht_5 H10=>by refine s_v E (zT E (zG ht_5)) (yi ht_5) ?_;exact mv E E<|mv E E<|qr E E H10 fun rv Sx_1 H11=>by obtain⟨t_6,t_7,rfl,ht_6,H12⟩:=H11;exact mv E E<|s_p E (zg E E)<|s_p E (zg E E)<|by refine zL E fun b_4=>?_;exact an H12 fun c_1 H13=>zp 1 E E E E E ht_6 yX c_1<|gv E E<|nx<|zn H13 (fun (J:Mem→Prop) (z:Unit) S=>J S) (fun z=>⟨51,[(0,.pointer (some ⟨b,o,none⟩)),(1,.int .i64 vm),(7,.pointer (some ⟨b_2,0,none⟩)),(9,.pointer (some ⟨b_4,0,none⟩))]⟩) (fun z=>[⟨b_2,70,t_2⟩,⟨b_4,72,t_6⟩]) (fun _ Sx_2 H14=>zC<|zM (by kernel_rfl)<|aTP 0 E (by decide +kernel) E (zm E)<|by exact aTP 1 E (by decide +kernel) E (zJ E)<|by exact aTP 2 E (by decide +kernel) E (zv E E)<|by exact gx H14 fun t_8 ht_8 H15=>aT 3 E (by decide +kernel) E (zz E) (zH ht_8)<|by exact by refine aT 4 E (by decide +kernel) E (zT E ht_6) (zE (k:=96) 1 E (zk ht_6)) ?_;exact by obtain⟨b_5,o_3,rfl,H16⟩:=H15;exact aTP 5 E (by decide +kernel) E (zJ E)<|by exact aTP 6 E (by decide +kernel) E (zv E E)<|by exact zB 7 (by decide +kernel) E<|by exact an H16 fun c_2 H17=>an H17 fun c_3 H18=>qo E E E E ht_6 c_3 c_2<|zr<|zN zy<|zK (by decide +kernel)<|by exact zt<|csr<|mv E E<|mv E E<|s_p E (zv E E)<|gx H18 fun t_9 ht_9 H19=>s_v E (zz E) (zW 0 E ht_9)<|fK E E H19 fun Sx_4 H20=>nxr<|gv E E<|nx<|zi<|zh Tryz.results208 (zd E ze) ⟨_,E,H20⟩) (fun Jx hJx H21=>csr<|mv E E<|iteK H21 (fun c_4 H22=>s_p E (yT (zQ E E) c_4)<|nx<|c_t E E<|csr<|mv E E<|gv E E<|nx<|zi<|zb<|zh Tryz.results208 (zd E ze) ⟨_,E,H22⟩) fun c_4 H22=>s_p E (yF (zQ E E) c_4)<|nx<|cfs E E<|hJx () _ _ _ _ [0,0] H22 E ⟨E,E,E,E,True.intro⟩ E)
def vM (S:Mem) (h:Pt) (vm:Int) (sector:Int) (page:Int) (Q:Int→Mem→Prop):Prop:=
 jn (fun (Sx:Mem)=>
 nn h fun b o=>
 gP (Sx.cell b (o+3)) fun t=>
 nn t fun b_1 o_1=>
 0≤vm∧vm<6 ∧
 0≤sector∧sector<4 ∧
 gL (Sx.cell b_1 (o_1+2+vm.toNat*12+7+sector.toNat*1)) fun t_1=>
 gb Sx ([.pointer (some ⟨b,o,none⟩),.int .i64 vm]) page 0 t_1 fun t_2 Sx_1=>
 if t_2≠0 then
 Q 11 Sx_1
 else
 Q 0 Sx_1) fun Jx=>
 if sector<0 then
 Q 1 S
 else
 if 4≤sector then
 Q 1 S
 else
 Jx S
theorem zcZ {S:Mem} {h:Pt} {vm:Int} {sector:Int} {page:Int} {Q:Int→Mem→Prop} (H:vM S h vm sector page Q):jr S h vm sector page Q:=by
 unfold vM at H
 exact Tr.intro Tryz.func212 E Tryz.ntmps212 E fun w0=>csr<|gv E E<|nx<|zn H (fun (J:Mem→Prop) (z:Unit) S=>J S) (fun z=>⟨35,[(0,eP h),(1,.int .i64 vm),(2,.int .i64 sector),(3,.int .i64 page)]⟩) (fun z=>[]) (fun _ Sx H1=>zC<|csr<|mv E E<|mv E E<|s_p E (zF E E)<|by exact mv E E<|mv E E<|by obtain⟨b,o,rfl,H2⟩:=H1;exact s_p E (zJ E)<|s_p E (zv E E)<|gx H2 fun t ht H3=>s_v E (zz E) (zH ht)<|mv E E<|mv E E<|by obtain⟨b_1,o_1,rfl,H4⟩:=H3;exact s_p E (zJ E)<|s_p E (zv E E)<|an2 H4 fun c c_1 H5=>s_p E (qv E E c c_1 E)<|s_p E (zv E E)<|an2 H5 fun c_2 c_3 H6=>s_p E (qv E E c_2 c_3 E)<|gx H6 fun t_1 ht_1 H7=>s_v E (zz E) (zH ht_1)<|qC E E H7 fun t_2 Sx_1 H8=>gv E E<|nxr<|mv E E<|iteK H8 (fun c_4 H9=>s_p E (yT (zQ E E) c_4)<|nx<|c_t E E<|csr<|gv E E<|nx<|zi<|zb<|zh Tryz.results212 (zd E ze) ⟨_,E,H9⟩) fun c_4 H9=>s_p E (yF (zQ E E) c_4)<|nx<|cfs E E<|zt<|csr<|gv E E<|nx<|zi<|zh Tryz.results212 (zd E ze) ⟨_,E,H9⟩) (fun Jx hJx H10=>csr<|mv E E<|iteK H10 (fun c_5 H11=>s_p E (yT (zD E E) c_5)<|mv E E<|sk2 E E<|pk E E E<|nx<|c_t E E<|csr<|gv E E<|nx<|zi<|zb<|zh Tryz.results212 (zd E ze) ⟨_,E,H11⟩) fun c_5 H11=>s_p E (yF (zD E E) c_5)<|mv E E<|mv E E<|iteK H11 (fun c_6 H12=>s_p E (yT (qj E E) c_6)<|pk E E E<|nx<|c_t E E<|csr<|gv E E<|nx<|zi<|zb<|zh Tryz.results212 (zd E ze) ⟨_,E,H12⟩) fun c_6 H12=>s_p E (yF (qj E E) c_6)<|pk E E E<|nx<|cfs E E<|hJx () _ _ _ _ [] H12 E ⟨E,E,E,E,True.intro⟩ E)
def vd (S:Mem) (h:Pt) (vm:Int) (page:Int) (to:Int) (write:Bool) (Q:Int→Int→Mem→Prop):Prop:=
 vk S h vm page fun t t_1 Sx=>
 jn (fun (Sx_1:Mem)=>
 nn h fun b o=>
 gP (Sx_1.cell b (o+3)) fun t_2=>
 nn t_2 fun b_1 o_1=>
 gA (Sx_1.part b_1 (o_1+75) 96) fun t_3=>
 vu Sx_1 t_3 vm page to write fun t_4 t_5 t_6 Sx_2=>
 t_4.all (·.oneCell')=true ∧
 jn (fun (Sx_3:Mem)=>
 gP (Sx_3.cell b (o+3)) fun t_7=>
 nn t_7 fun b_3 o_2=>
 t_4.all (·.oneCell')=true ∧
 pt Sx_3 b_3 (o_2+75) 96 t_4 fun Sx_4=>
 gP (Sx_4.cell b (o+3)) fun t_8=>
 nn t_8 fun b_4 o_3=>
 gP (Sx_4.cell b_4 (o_3+74)) fun t_9=>
 vr Sx_4 t_9 t vm fun t_10 Sx_5=>
 Q (IntKind.u64.wrap t_5) 0 Sx_5) fun Jx=>
 if t_6≠0 then
 Q 0 t_6 Sx_2
 else
 Jx Sx_2) fun Jx_1=>
 if t_1≠0 then
 Q 0 t_1 Sx
 else
 nn h fun b_5 o_4=>
 gP (Sx.cell b_5 (o_4+3)) fun t_11=>
 qy Sx t_11 to fun t_12 Sx_6=>
 if t_12=true then
 Jx_1 Sx_6
 else
 Q 0 2 Sx_6
theorem zbV {S:Mem} {h:Pt} {vm:Int} {page:Int} {to:Int} {write:Bool} {Q:Int→Int→Mem→Prop} (H:vd S h vm page to write Q):kE S h vm page to write Q:=by
 unfold vd at H
 exact Tr.intro Tryz.func206 E Tryz.ntmps206 E fun w0=>csr<|gv E E<|gv E E<|nxr<|mv E E<|mv E E<|mv E E<|gO E E H fun t t_1 Sx H1=>mv E E<|s_p E (zg E E)<|s_p E (zg E E)<|gv E E<|gv E E<|nx<|zn H1 (fun (J:Mem→Prop) (z:Unit) S=>J S) (fun z=>⟨73,[(0,eP h),(1,.int .i64 vm),(2,.int .i64 page),(3,.int .i64 to),(4,.bool write),(12,.int .i64 t)]⟩) (fun z=>[]) (fun _ Sx_1 H2=>csr<|mv E E<|by obtain⟨b,o,rfl,H3⟩:=H2;exact s_p E (zJ E)<|s_p E (zv E E)<|gx H3 fun t_2 ht_2 H4=>s_v E (zz E) (zH ht_2)<|by obtain⟨b_1,o_1,rfl,H5⟩:=H4;exact s_p E (zJ E)<|s_p E (zv E E)<|gx H5 fun t_3 ht_3 H6=>by refine s_v E (zT E (zG ht_3)) (yi ht_3) ?_;exact mv E E<|mv E E<|mv E E<|mv E E<|qr E E H6 fun rv Sx_2 H7=>by obtain⟨t_4,t_5,t_6,rfl,ht_4,H8⟩:=H7;exact mv E E<|s_p E (zg E E)<|s_p E (zg E E)<|s_p E (zg E E)<|by refine zL E fun b_2=>?_;exact an H8 fun c H9=>zp 0 E E E E E ht_4 yX c<|gv E E<|gv E E<|nx<|zn H9 (fun (J:Mem→Prop) (z:Unit) S=>J S) (fun z=>⟨73,[(0,.pointer (some ⟨b,o,none⟩)),(1,.int .i64 vm),(12,.int .i64 t),(14,.pointer (some ⟨b_2,0,none⟩)),(15,.int .i64 t_5)]⟩) (fun z=>[⟨b_2,72,t_4⟩]) (fun _ Sx_3 H10=>zC<|zM (by kernel_rfl)<|aTP 0 E (by decide +kernel) E (zm E)<|by exact aTP 1 E (by decide +kernel) E (zJ E)<|by exact aTP 2 E (by decide +kernel) E (zv E E)<|by exact gx H10 fun t_7 ht_7 H11=>aT 3 E (by decide +kernel) E (zz E) (zH ht_7)<|by exact by refine aT 4 E (by decide +kernel) E (zT E ht_4) (zE (k:=96) 0 E (zk ht_4)) ?_;exact by obtain⟨b_3,o_2,rfl,H12⟩:=H11;exact aTP 5 E (by decide +kernel) E (zJ E)<|by exact aTP 6 E (by decide +kernel) E (zv E E)<|by exact zB 7 (by decide +kernel) E<|by exact an H12 fun c_1 H13=>an H13 fun c_2 H14=>qo E E E E ht_4 c_2 c_1<|zr<|zN zy<|zK (by decide +kernel)<|by exact zt<|csr<|mv E E<|s_p E (zJ E)<|s_p E (zv E E)<|gx H14 fun t_8 ht_8 H15=>s_v E (zz E) (zH ht_8)<|by obtain⟨b_4,o_3,rfl,H16⟩:=H15;exact s_p E (zJ E)<|s_p E (zv E E)<|gx H16 fun t_9 ht_9 H17=>s_v E (zz E) (zH ht_9)<|mv E E<|mv E E<|qC E E H17 fun t_10 Sx_5 H18=>nxr<|mv E E<|s_p E (qq ⟨_,Tryz.underlying3⟩ E)<|gv E E<|gv E E<|nx<|zi<|zh Tryz.results206 (zd E (zd E ze)) ⟨_,_,E,H18⟩) (fun Jx hJx H19=>csr<|mv E E<|iteK H19 (fun c_3 H20=>s_p E (yT (zQ E E) c_3)<|nx<|c_t E E<|csr<|mv E E<|gv E E<|gv E E<|nx<|zi<|zb<|zh Tryz.results206 (zd E (zd E ze)) ⟨_,_,E,H20⟩) fun c_3 H20=>s_p E (yF (zQ E E) c_3)<|nx<|cfs E E<|hJx () _ _ _ _ [0] H20 E ⟨E,E,E,E,E,True.intro⟩ E)) (fun Jx_1 hJx_1 H21=>zw<|csr<|mv E E<|iteK H21 (fun c_4 H22=>s_p E (yT (zQ E E) c_4)<|gv E E<|nx<|c_t E E<|csr<|mv E E<|gv E E<|gv E E<|nx<|zi<|zj<|zb<|zh Tryz.results206 (zd E (zd E ze)) ⟨_,_,E,H22⟩) fun c_4 H22=>s_p E (yF (zQ E E) c_4)<|gv E E<|nx<|c_f E E<|csr<|mv E E<|by obtain⟨b_5,o_4,rfl,H23⟩:=H22;exact s_p E (zJ E)<|s_p E (zv E E)<|gx H23 fun t_11 ht_11 H24=>s_v E (zz E) (zH ht_11)<|mv E E<|qC E E H24 fun t_12 Sx_6 H25=>by have H26:=wM H25;rcases H26 with ⟨rfl,H27⟩ | ⟨rfl,H27⟩;exact (s_p E (yB (ql E) E)<|gv E E<|nx<|cfs E E<|zU<|hJx_1 () _ _ _ _ [] H27 E ⟨E,E,E,E,E,E,True.intro⟩ E);exact (s_p E (yB (ql E) E)<|gv E E<|nx<|c_t E E<|csr<|gv E E<|gv E E<|nx<|zi<|zj<|zb<|zh Tryz.results206 (zd E (zd E ze)) ⟨_,_,E,H27⟩))
def vK (S:Mem) (h:Pt) (vm:Int) (to:Int) (n:Int) (Q:Int→Mem→Prop):Prop:=
 jn (fun (Sx:Mem)=>
 nn h fun b o=>
 gP (Sx.cell b (o+3)) fun t=>
 qN Sx t to 0 fun t_1 Sx_1=>
 fO Sx_1 t_1 n fun t_2 Sx_2=>
 Q t_2 Sx_2) fun Jx=>
 nn h fun b_1 o_1=>
 gP (S.cell b_1 (o_1+3)) fun t_3=>
 we S t_3 vm to fun t_4 Sx_3=>
 if t_4=true then
 zch Sx_3 n fun t_5 Sx_4=>
 if t_5=true then
 Jx Sx_4
 else
 Q 1 Sx_4
 else
 Q 2 Sx_3
theorem zcX {S:Mem} {h:Pt} {vm:Int} {to:Int} {n:Int} {Q:Int→Mem→Prop} (H:vK S h vm to n Q):jq S h vm to n Q:=by
 unfold vK at H
 exact Tr.intro Tryz.func204 E Tryz.ntmps204 E fun w0=>csr<|gv E E<|nx<|zn H (fun (J:Mem→Prop) (z:Unit) S=>J S) (fun z=>⟨30,[(0,eP h),(2,.int .i64 to),(3,.int .i64 n)]⟩) (fun z=>[]) (fun _ Sx H1=>csr<|mv E E<|by obtain⟨b,o,rfl,H2⟩:=H1;exact s_p E (zJ E)<|s_p E (zv E E)<|gx H2 fun t ht H3=>s_v E (zz E) (zH ht)<|mv E E<|qC E E H3 fun t_1 Sx_1 H4=>mv E E<|qC E E H4 fun t_2 Sx_2 H5=>gv E E<|nx<|zi<|zh Tryz.results204 (zd E ze) ⟨_,E,H5⟩) (fun Jx hJx H6=>zw<|csr<|mv E E<|by obtain⟨b_1,o_1,rfl,H7⟩:=H6;exact s_p E (zJ E)<|s_p E (zv E E)<|gx H7 fun t_3 ht_3 H8=>s_v E (zz E) (zH ht_3)<|mv E E<|mv E E<|qC E E H8 fun t_4 Sx_3 H9=>by have H10:=wM H9;rcases H10 with ⟨rfl,H11⟩ | ⟨rfl,H11⟩;exact (s_p E (yB (ql E) E)<|gv E E<|nx<|c_f E E<|csr<|mv E E<|qC E E H11 fun t_5 Sx_4 H12=>by have H13:=wM H12;rcases H13 with ⟨rfl,H14⟩ | ⟨rfl,H14⟩;exact (s_p E (yB (ql E) E)<|gv E E<|nx<|cfs E E<|zU<|hJx () _ _ _ _ [] H14 E ⟨E,E,E,True.intro⟩ E);exact (s_p E (yB (ql E) E)<|gv E E<|nx<|c_t E E<|csr<|gv E E<|nx<|zi<|zj<|zb<|zh Tryz.results204 (zd E ze) ⟨_,E,H14⟩));exact (s_p E (yB (ql E) E)<|gv E E<|nx<|c_t E E<|csr<|gv E E<|nx<|zi<|zj<|zb<|zh Tryz.results204 (zd E ze) ⟨_,E,H11⟩))
def vJ (S:Mem) (h:Pt) (vm:Int) (sector:Int) (page:Int) (Q:Int→Mem→Prop):Prop:=
 jn (fun (Sx:Mem)=>
 gc Sx ([eP h,.int .i64 vm]) page 0 256 fun t t_1 Sx_1=>
 jn (fun (Sx_2:Mem)=>
 nn h fun b o=>
 gP (Sx_2.cell b (o+3)) fun t_2=>
 nn t_2 fun b_1 o_1=>
 0≤vm∧vm<6 ∧
 0≤sector∧sector<4 ∧
 pt Sx_2 b_1 (o_1+2+vm.toNat*12+7+sector.toNat*1) 1 ([eL t]) fun Sx_3=>
 Q 0 Sx_3) fun Jx=>
 if t_1≠0 then
 Q 11 Sx_1
 else
 Jx Sx_1) fun Jx_1=>
 if sector<0 then
 Q 1 S
 else
 if 4≤sector then
 Q 1 S
 else
 Jx_1 S
theorem zcW {S:Mem} {h:Pt} {vm:Int} {sector:Int} {page:Int} {Q:Int→Mem→Prop} (H:vJ S h vm sector page Q):jp S h vm sector page Q:=by
 unfold vJ at H
 exact Tr.intro Tryz.func213 E Tryz.ntmps213 E fun w0=>csr<|gv E E<|nx<|zn H (fun (J:Mem→Prop) (z:Unit) S=>J S) (fun z=>⟨39,[(0,eP h),(1,.int .i64 vm),(2,.int .i64 sector),(3,.int .i64 page)]⟩) (fun z=>[]) (fun _ Sx H1=>csr<|mv E E<|mv E E<|s_p E (zF E E)<|by exact mv E E<|gO E E H1 fun t t_1 Sx_1 H2=>mv E E<|s_p E (zg E E)<|s_p E (zg E E)<|gv E E<|gv E E<|nx<|zn H2 (fun (J:Mem→Prop) (z:Unit) S=>J S) (fun z=>⟨39,[(0,eP h),(1,.int .i64 vm),(2,.int .i64 sector),(9,eL t)]⟩) (fun z=>[]) (fun _ Sx_2 H3=>csr<|mv E E<|by obtain⟨b,o,rfl,H4⟩:=H3;exact s_p E (zJ E)<|s_p E (zv E E)<|gx H4 fun t_2 ht_2 H5=>s_v E (zz E) (zH ht_2)<|mv E E<|mv E E<|mv E E<|by obtain⟨b_1,o_1,rfl,H6⟩:=H5;exact s_p E (zJ E)<|s_p E (zv E E)<|an2 H6 fun c c_1 H7=>s_p E (qv E E c c_1 E)<|s_p E (zv E E)<|an2 H7 fun c_2 c_3 H8=>s_p E (qv E E c_2 c_3 E)<|an H8 fun c_4 H9=>qo E E E E E c_4 E<|nxr<|gv E E<|nx<|zi<|zh Tryz.results213 (zd E ze) ⟨_,E,H9⟩) (fun Jx hJx H10=>csr<|mv E E<|iteK H10 (fun c_5 H11=>s_p E (yT (zQ E E) c_5)<|nx<|c_t E E<|csr<|gv E E<|nx<|zi<|zb<|zh Tryz.results213 (zd E ze) ⟨_,E,H11⟩) fun c_5 H11=>s_p E (yF (zQ E E) c_5)<|nx<|cfs E E<|hJx () _ _ _ _ [] H11 E ⟨E,E,E,E,True.intro⟩ E)) (fun Jx_1 hJx_1 H12=>csr<|mv E E<|iteK H12 (fun c_6 H13=>s_p E (yT (zD E E) c_6)<|mv E E<|sk2 E E<|pk E E E<|nx<|c_t E E<|csr<|gv E E<|nx<|zi<|zb<|zh Tryz.results213 (zd E ze) ⟨_,E,H13⟩) fun c_6 H13=>s_p E (yF (zD E E) c_6)<|mv E E<|mv E E<|iteK H13 (fun c_7 H14=>s_p E (yT (qj E E) c_7)<|pk E E E<|nx<|c_t E E<|csr<|gv E E<|nx<|zi<|zb<|zh Tryz.results213 (zd E ze) ⟨_,E,H14⟩) fun c_7 H14=>s_p E (yF (qj E E) c_7)<|pk E E E<|nx<|cfs E E<|hJx_1 () _ _ _ _ [] H14 E ⟨E,E,E,E,True.intro⟩ E)
def xA (S:Mem) (h:Pt) (vm:Int) (n:Int) (Q:Int→Mem→Prop):Prop:=
 nn h fun b o=>
 gP (S.cell b (o+3)) fun t=>
 nn t fun b_1 o_1=>
 gA (S.part b_1 (o_1+75) 96) fun t_1=>
 yh S t_1 n fun t_2 t_3 Sx=>
 t_2.all (·.oneCell')=true ∧
 gP (Sx.cell b (o+3)) fun t_4=>
 nn t_4 fun b_3 o_2=>
 gA (Sx.part b_3 (o_2+75) 96) fun t_5=>
 yv Sx t_5 n vm fun t_6 t_7 Sx_1=>
 t_6.all (·.oneCell')=true ∧
 jn (fun (Sx_2:Mem)=>
 gP (Sx_2.cell b (o+3)) fun t_8=>
 nn t_8 fun b_5 o_3=>
 t_6.all (·.oneCell')=true ∧
 pt Sx_2 b_5 (o_3+75) 96 t_6 fun Sx_3=>
 gP (Sx_3.cell b (o+3)) fun t_9=>
 nn t_9 fun b_6 o_4=>
 0≤vm∧vm<6 ∧
 gA (Sx_3.part b_6 (o_4+2+vm.toNat*12+2) 2) fun t_10=>
 gP (Sx_3.cell b o) fun t_11=>
 gI (nthL t_2 2) .i64 fun t_12=>
 qw Sx_3 t_10 t_11 t_12 fun t_13 t_14 Sx_4=>
 Sx_4.cell b (o+3)=some (.pointer (some ⟨b_6,o_4,none⟩)) ∧
 t_13.all (·.oneCell')=true ∧
 gP (Sx_4.cell b (o+3)) fun t_15=>
 nn t_15 fun b_8 o_5=>
 gP (Sx_4.cell b_8 (o_5+74)) fun t_16=>
 gI (nthL t_13 1) .i64 fun t_17=>
 yR Sx_4 t_16 t_17 vm fun t_18 Sx_5=>
 Sx_5.cell b (o+3)=some (.pointer (some ⟨b_8,o_5,none⟩)) ∧
 Q t_18 Sx_5) fun Jx=>
 if t_7≠0 then
 Q t_7 Sx_1
 else
 Jx Sx_1
theorem fZ {S:Mem} {h:Pt} {vm:Int} {n:Int} {Q:Int→Mem→Prop} (H:xA S h vm n Q):wj S h vm n Q:=by
 unfold xA at H
 exact Tr.intro Tryz.func209 E Tryz.ntmps209 E fun w0=>csr<|gv E E<|nxr<|mv E E<|by obtain⟨b,o,rfl,H1⟩:=H;exact s_p E (zJ E)<|s_p E (zv E E)<|gx H1 fun t ht H2=>s_v E (zz E) (zH ht)<|by obtain⟨b_1,o_1,rfl,H3⟩:=H2;exact s_p E (zJ E)<|s_p E (zv E E)<|gx H3 fun t_1 ht_1 H4=>by refine s_v E (zT E (zG ht_1)) (yi ht_1) ?_;exact mv E E<|qr E E H4 fun rv Sx H5=>by obtain⟨t_2,t_3,rfl,ht_2,H6⟩:=H5;exact mv E E<|s_p E (zg E E)<|s_p E (zg E E)<|by refine zL E fun b_2=>?_;exact an H6 fun c H7=>zp 0 E E E E E ht_2 E c<|gv E E<|nxr<|mv E E<|s_p E (zJ E)<|s_p E (zv E E)<|gx H7 fun t_4 ht_4 H8=>s_v E (zz E) (zH ht_4)<|by obtain⟨b_3,o_2,rfl,H9⟩:=H8;exact s_p E (zJ E)<|s_p E (zv E E)<|gx H9 fun t_5 ht_5 H10=>by refine s_v E (zT E (zG ht_5)) (yi ht_5) ?_;exact mv E E<|mv E E<|qr E E H10 fun rv Sx_1 H11=>by obtain⟨t_6,t_7,rfl,ht_6,H12⟩:=H11;exact mv E E<|s_p E (zg E E)<|s_p E (zg E E)<|by refine zL E fun b_4=>?_;exact an H12 fun c_1 H13=>zp 1 E E E E E ht_6 yX c_1<|gv E E<|nx<|zn H13 (fun (J:Mem→Prop) (z:Unit) S=>J S) (fun z=>⟨79,[(0,.pointer (some ⟨b,o,none⟩)),(1,.int .i64 vm),(7,.pointer (some ⟨b_2,0,none⟩)),(9,.pointer (some ⟨b_4,0,none⟩))]⟩) (fun z=>[⟨b_2,70,t_2⟩,⟨b_4,72,t_6⟩]) (fun _ Sx_2 H14=>zC<|zM (by kernel_rfl)<|aTP 0 E (by decide +kernel) E (zm E)<|by exact aTP 1 E (by decide +kernel) E (zJ E)<|by exact aTP 2 E (by decide +kernel) E (zv E E)<|by exact gx H14 fun t_8 ht_8 H15=>aT 3 E (by decide +kernel) E (zz E) (zH ht_8)<|by exact by refine aT 4 E (by decide +kernel) E (zT E ht_6) (zE (k:=96) 1 E (zk ht_6)) ?_;exact by obtain⟨b_5,o_3,rfl,H16⟩:=H15;exact aTP 5 E (by decide +kernel) E (zJ E)<|by exact aTP 6 E (by decide +kernel) E (zv E E)<|by exact zB 7 (by decide +kernel) E<|by exact an H16 fun c_2 H17=>an H17 fun c_3 H18=>qo E E E E ht_6 c_3 c_2<|zr<|zN zy<|zK (by decide +kernel)<|by exact zt<|zC<|zM (by kernel_rfl)<|aTP 0 E (by decide +kernel) E (zm E)<|by exact aTP 1 E (by decide +kernel) E (zJ E)<|by exact aTP 2 E (by decide +kernel) E (zv E E)<|by exact gx H18 fun t_9 ht_9 H19=>aT 3 E (by decide +kernel) E (zz E) (zH ht_9)<|by exact aTP 4 E (by decide +kernel) E (zm E)<|by exact by obtain⟨b_6,o_4,rfl,H20⟩:=H19;exact aTP 5 E (by decide +kernel) E (zJ E)<|by exact aTP 6 E (by decide +kernel) E (zv E E)<|by exact an2 H20 fun c_4 c_5 H21=>aTP 7 E (by decide +kernel) E (qv E E c_4 c_5 E)<|by exact aTP 8 E (by decide +kernel) E (zv E E)<|by exact gx H21 fun t_10 ht_10 H22=>by refine aT 9 E (by decide +kernel) E (zT E (zG ht_10)) (yi ht_10) ?_;exact aTP 10 E (by decide +kernel) E (zm E)<|by exact aTP 11 E (by decide +kernel) E (zJ E)<|by exact aTP 12 E (by decide +kernel) E (zv E E)<|by exact gx H22 fun t_11 ht_11 H23=>aT 13 E (by decide +kernel) E (zz E) (zH ht_11)<|by exact aTP 14 E (by decide +kernel) E (zv E E)<|by exact gx H23 fun t_12 ht_12 H24=>aT 15 E (by decide +kernel) E (zz E) (zW 0 E ht_12)<|by exact gp 16 20 (by decide +kernel) E E (qr E E H24 fun rv Sx_4 H25=>by obtain⟨t_13,t_14,rfl,ht_13,H26⟩:=H25;exact by obtain⟨k,H27⟩:=H26;exact zr<|zN (zx (zH k) zy)<|aTP 17 E (by decide +kernel) E (zm E)<|by exact aTP 18 E (by decide +kernel) E (zg E E)<|by exact aTP 19 E (by decide +kernel) E (zg E E)<|by exact zB 20 (by decide +kernel) E<|by exact by refine zL E fun b_7=>?_;exact zr<|zN (zx (zH k) zy)<|zB 21 (by decide +kernel) E<|by exact an H27 fun c_6 H28=>zp 2 E E E E E ht_13 E c_6<|zr<|zN zy<|aTP 22 E (by decide +kernel) E (zS E)<|by exact zK (by decide +kernel)<|by exact zt<|zC<|zM (by kernel_rfl)<|aTP 0 E (by decide +kernel) E (zm E)<|by exact aTP 1 E (by decide +kernel) E (zJ E)<|by exact aTP 2 E (by decide +kernel) E (zv E E)<|by exact gx H28 fun t_15 ht_15 H29=>aT 3 E (by decide +kernel) E (zz E) (zH ht_15)<|by exact by obtain⟨b_8,o_5,rfl,H30⟩:=H29;exact aTP 4 E (by decide +kernel) E (zJ E)<|by exact aTP 5 E (by decide +kernel) E (zv E E)<|by exact gx H30 fun t_16 ht_16 H31=>aT 6 E (by decide +kernel) E (zz E) (zH ht_16)<|by exact aTP 7 E (by decide +kernel) E (zv E E)<|by exact gx H31 fun t_17 ht_17 H32=>aT 8 E (by decide +kernel) E (zz E) (zW 2 E ht_17)<|by exact aTP 9 E (by decide +kernel) E (zm E)<|by exact zB 10 (by decide +kernel) E<|by exact qC E E H32 fun t_18 Sx_5 H33=>by obtain⟨k_1,H34⟩:=H33;exact zr<|zN (zx (zH k_1) zy)<|aTP 11 E (by decide +kernel) E (zS E)<|by exact zK (by decide +kernel)<|by exact zt<|zi<|zh Tryz.results209 (zd E ze) ⟨_,E,H34⟩) (by refine zL E fun b_7=>?_;exact zr<|zN (zx (zW 0 E ht_12) (zx (zH ht_11) (zx (yi ht_10) (zx (zH ht_9) zy))))<|zB 16 (by decide +kernel) E<|by exact qr E E H24 fun rv Sx_4 H35=>by obtain⟨t_13,t_14,rfl,ht_13,H36⟩:=H35;exact by obtain⟨k,H37⟩:=H36;exact zr<|zN (zx (zH k) zy)<|aTP 17 E (by decide +kernel) E (zm E)<|by exact aTP 18 E (by decide +kernel) E (zg E E)<|by exact aTP 19 E (by decide +kernel) E (zg E E)<|by exact zB 21 (by decide +kernel) E<|by exact an H37 fun c_6 H38=>zp 2 E E E E E ht_13 E c_6<|zr<|zN zy<|aTP 22 E (by decide +kernel) E (zS E)<|by exact zK (by decide +kernel)<|by exact zt<|zC<|zM (by kernel_rfl)<|aTP 0 E (by decide +kernel) E (zm E)<|by exact aTP 1 E (by decide +kernel) E (zJ E)<|by exact aTP 2 E (by decide +kernel) E (zv E E)<|by exact gx H38 fun t_15 ht_15 H39=>aT 3 E (by decide +kernel) E (zz E) (zH ht_15)<|by exact by obtain⟨b_8,o_5,rfl,H40⟩:=H39;exact aTP 4 E (by decide +kernel) E (zJ E)<|by exact aTP 5 E (by decide +kernel) E (zv E E)<|by exact gx H40 fun t_16 ht_16 H41=>aT 6 E (by decide +kernel) E (zz E) (zH ht_16)<|by exact aTP 7 E (by decide +kernel) E (zv E E)<|by exact gx H41 fun t_17 ht_17 H42=>aT 8 E (by decide +kernel) E (zz E) (zW 2 E ht_17)<|by exact aTP 9 E (by decide +kernel) E (zm E)<|by exact zB 10 (by decide +kernel) E<|by exact qC E E H42 fun t_18 Sx_5 H43=>by obtain⟨k_1,H44⟩:=H43;exact zr<|zN (zx (zH k_1) zy)<|aTP 11 E (by decide +kernel) E (zS E)<|by exact zK (by decide +kernel)<|by exact zt<|zi<|zh Tryz.results209 (zd E ze) ⟨_,E,H44⟩)) (fun Jx hJx H45=>csr<|mv E E<|iteK H45 (fun c_7 H46=>s_p E (yT (zQ E E) c_7)<|nx<|c_t E E<|csr<|mv E E<|gv E E<|nx<|zi<|zb<|zh Tryz.results209 (zd E ze) ⟨_,E,H46⟩) fun c_7 H46=>s_p E (yF (zQ E E) c_7)<|nx<|cfs E E<|hJx () _ _ _ _ [0,0] H46 E ⟨E,E,E,E,True.intro⟩ E)
end Go.Proofs.YtabdpmnhjlmnlaaGreatDoor
end
