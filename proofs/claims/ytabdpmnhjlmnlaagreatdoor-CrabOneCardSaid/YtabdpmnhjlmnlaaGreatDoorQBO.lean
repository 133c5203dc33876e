/- Texts of this work,joined by program (pack.py). -/
import Derived.Test.YtabdpmnhjlmnlaaGreatDoorQBC
import Derived.Test.YtabdpmnhjlmnlaaGreatDoorQBD
set_option linter.unusedVariables false
set_option maxRecDepth 20000
set_option maxHeartbeats 4000000
namespace Go.Proofs.YtabdpmnhjlmnlaaGreatDoor
section
open Go Go.Pt Go.Proofs.Tryz
attribute [local irreducible] lt WD WN Code.wp Back bodyPost wpList FR WL WC WQ WA AW Tr Yc HC AllC
def xP (S:Mem) (free:Int) (Q:Pt→Mem→Prop):Prop:=
 al S 141 (spl z141 1 [.int .i64 free]) fun b Sx=>
 Q (some (b,0)) Sx
theorem zak {S:Mem} {free:Int} {Q:Pt→Mem→Prop} (H:xP S free Q):wD S free Q:=by
 unfold xP at H
 exact Tr.intro func17 E ntmps17 E fun w0=>go results17 H
def yv (S:Mem) (x:Pt) (seats:Int) (quota:Int) (pages:Int) (image:Sl) (Q:Int→Int→Mem→Prop):Prop:=
 jn (fun (Sx:Mem)=>
 jn (fun (Sx_1:Mem)=>
 jn (fun (n:Int) (Sx_2:Mem)=>
 jn (fun (Sx_3:Mem)=>
 jn (fun (Sx_4:Mem)=>
 nn x fun b o=>
 gI (Sx_4.cell b (o+1)) .i64 fun t=>
 pt Sx_4 b (o+1) 1 ([.int .i64 (IntKind.i64.wrap (t-(IntKind.i64.wrap (5+pages))))]) fun Sx_5=>
 gI (Sx_5.cell b o) .u64 fun t_1=>
 al Sx_5 148 z148 fun b_1 Sx_6=>
 jn (fun (v:List Value) (Sx_7:Mem)=>
 v.length=54 ∧
 jn (fun (v_1:List Value) (Sx_8:Mem)=>
 v_1.length=54 ∧
 jn (fun (v_2:List Value) (Sx_9:Mem)=>
 v_2.length=54 ∧
 0≤n∧n<6 ∧
 v_2.all (·.oneCell')=true ∧
 pt Sx_9 b (o+2+n.toNat*54) 54 v_2 fun Sx_10=>
 0≤n∧n<6 ∧
 pt Sx_10 b (o+422+n.toNat*1) 1 ([.slice (none) 0 0]) fun Sx_11=>
 Q n 0 Sx_11) fun Jx=>
 lp (fun Xx (z:Int×List Value) (Sx_12:Mem)=>
 match z with
 | (i,v_3)=>
 v_3.length=54 ∧
 jn (fun (Sx_13:Mem)=>
 jn (fun (v_4:List Value) (Sx_14:Mem)=>
 v_4.length=54 ∧
 Xx (IntKind.i64.wrap (i+1),v_4) Sx_14) fun Jx_1=>
 al Sx_13 5 (zrep 256 [.int .u8 0]) fun b_3 Sx_15=>
 jn (fun (Sx_16:Mem)=>
 gP (nthL v_3 15) fun t_2=>
 nn t_2 fun b_4 o_1=>
 0≤i∧i<32 ∧
 pt Sx_16 b_4 (o_1+i.toNat*1) 1 ([.slice (some ⟨b_3,0,none⟩) 256 256]) fun Sx_17=>
 gP (nthL v_3 15) fun t_3=>
 nn t_3 fun b_5 o_2=>
 0≤i∧i<32 ∧
 pt Sx_17 b_5 (o_2+32+i.toNat*1) 1 ([.bool true]) fun Sx_18=>
 0≤i∧i<32 ∧
 Jx_1 (spl v_3 (16+i.toNat*1) ([.bool true])) Sx_18) fun Jx_2=>
 lp (fun Xx_1 (k:Int) (Sx_19:Mem)=>
 jn (fun (Sx_20:Mem)=>
 sl image fun b_6 o_3 n_1 n_2=>
 0≤IntKind.i64.wrap ((IntKind.i64.wrap (256*i))+k)∧IntKind.i64.wrap ((IntKind.i64.wrap (256*i))+k)<((n_1:Nat):Int) ∧
 gI (Sx_20.cell b_6 (o_3+(IntKind.i64.wrap ((IntKind.i64.wrap (256*i))+k)).toNat*1)) .u8 fun t_4=>
 0≤k∧k<256 ∧
 pt Sx_20 b_3 (0+k.toNat*1) 1 ([.int .u8 t_4]) fun Sx_21=>
 Xx_1 (IntKind.i64.wrap (k+1)) Sx_21) fun Jx_3=>
 if k<256 then
 if IntKind.i64.wrap ((IntKind.i64.wrap (256*i))+k)<(image.n:Int) then
 Jx_3 Sx_19
 else
 Jx_2 Sx_19
 else
 Jx_2 Sx_19) 0 Sx_15) fun Jx_4=>
 if i<pages then
 Jx_4 Sx_12
 else
 Jx v_3 Sx_12) (0,v_1) Sx_8) fun Jx_5=>
 lp (fun Xx_2 (z:Int×List Value) (Sx_22:Mem)=>
 match z with
 | (i_1,v_5)=>
 v_5.length=54 ∧
 if i_1<4 then
 al Sx_22 5 (zrep 256 [.int .u8 0]) fun b_7 Sx_23=>
 0≤i_1∧i_1<4 ∧
 Xx_2 (IntKind.i64.wrap (i_1+1),spl v_5 (5+i_1.toNat*1) ([.slice (some ⟨b_7,0,none⟩) 256 256])) Sx_23
 else
 Jx_5 v_5 Sx_22) (0,v) Sx_7) fun Jx_6=>
 lp (fun Xx_3 (z:Int×List Value) (Sx_24:Mem)=>
 match z with
 | (i_2,v_6)=>
 v_6.length=54 ∧
 jn (fun (Sx_25:Mem)=>
 gL (nthL v_6 1) fun t_5=>
 ap Sx_25 43 26 192 z43 t_5 1 ([.int .u64 0,.int .u64 0,.int .u64 0,.int .u64 0,.int .u64 0,.int .u64 0,.int .u64 0,.int .u64 0,.int .u64 0,.int .u64 0,.int .u64 0,.int .u64 0,.int .u64 0,.int .u64 0,.int .u64 0,.int .u64 0,.int .u64 0,.int .u64 0,.int .u64 0,.int .u64 0,.int .u64 0,.int .u64 0,.bool false,.int .u8 0,.int .u32 0,.int .u32 0]) fun t_6 Sx_26=>
 Xx_3 (IntKind.i64.wrap (i_2+1),spl v_6 1 ([eL t_6])) Sx_26) fun Jx_7=>
 if i_2<seats then
 Jx_7 Sx_24
 else
 Jx_6 v_6 Sx_24) (0,[.bool true,.slice (none) 0 0,.int .i64 quota,.int .u64 t_1,.slice (none) 0 0,.slice (none) 0 0,.slice (none) 0 0,.slice (none) 0 0,.slice (none) 0 0,.bool false,.bool false,.bool false,.bool false,.bool false,.bool false,.pointer (some ⟨b_1,0,none⟩),.bool false,.bool false,.bool false,.bool false,.bool false,.bool false,.bool false,.bool false,.bool false,.bool false,.bool false,.bool false,.bool false,.bool false,.bool false,.bool false,.bool false,.bool false,.bool false,.bool false,.bool false,.bool false,.bool false,.bool false,.bool false,.bool false,.bool false,.bool false,.bool false,.bool false,.bool false,.bool false,.bool false,.bool false,.bool false,.int .u64 0,.int .u64 0,.int .u64 0]) Sx_6) fun Jx_8=>
 nn x fun b_9 o_4=>
 gI (Sx_3.cell b_9 (o_4+1)) .i64 fun t_7=>
 if t_7<IntKind.i64.wrap (5+pages) then
 Q 0 3 Sx_3
 else
 Jx_8 Sx_3) fun Jx_9=>
 if n=6 then
 Q 0 2 Sx_2
 else
 Jx_9 Sx_2) fun Jx_10=>
 lp (fun Xx_4 (n_3:Int) (Sx_27:Mem)=>
 if n_3<6 then
 nn x fun b_10 o_5=>
 0≤n_3∧n_3<6 ∧
 gB (Sx_27.cell b_10 (o_5+2+n_3.toNat*54)) fun t_8=>
 if t_8=true then
 Xx_4 (IntKind.i64.wrap (n_3+1)) Sx_27
 else
 Jx_10 n_3 Sx_27
 else
 Jx_10 n_3 Sx_27) 0 Sx_1) fun Jx_11=>
 if IntKind.i64.wrap (256*pages)<(image.n:Int) then
 Q 0 6 Sx
 else
 Jx_11 Sx) fun Jx_12=>
 if seats<1 then
 Q 0 1 S
 else
 if 3<seats then
 Q 0 1 S
 else
 if quota<1 then
 Q 0 1 S
 else
 if 32<quota then
 Q 0 1 S
 else
 if pages<1 then
 Q 0 1 S
 else
 if quota<pages then
 Q 0 1 S
 else
 Jx_12 S
theorem gk {S:Mem} {x:Pt} {seats:Int} {quota:Int} {pages:Int} {image:Sl} {Q:Int→Int→Mem→Prop} (H:yv S x seats quota pages image Q):qS S x seats quota pages image Q:=by
 unfold yv at H
 exact Tr.intro func19 E ntmps19 E fun w0=>csr<|gv E E<|gv E E<|nx<|zp H (fun (J:Mem→Prop) (z:Unit) S=>J S) (fun z=>⟨162,[(0,eP x),(1,.int .i64 seats),(2,.int .i64 quota),(3,.int .i64 pages),(4,eL image)]⟩) (fun z=>[]) (fun _ Sx H1=>zp H1 (fun (J:Mem→Prop) (z:Unit) S=>J S) (fun z=>⟨162,[(0,eP x),(1,.int .i64 seats),(2,.int .i64 quota),(3,.int .i64 pages),(4,eL image)]⟩) (fun z=>[]) (fun _ Sx_1 H2=>csr<|gv E E<|nx<|zp H2 (fun (J:Int→Mem→Prop) (z:Int) S=>J z S) (fun z=>⟨162,[(0,eP x),(1,.int .i64 seats),(2,.int .i64 quota),(3,.int .i64 pages),(4,eL image),(12,.int .i64 z)]⟩) (fun z=>[]) (fun n Sx_2 H3=>zp H3 (fun (J:Mem→Prop) (z:Unit) S=>J S) (fun z=>⟨162,[(0,eP x),(1,.int .i64 seats),(2,.int .i64 quota),(3,.int .i64 pages),(4,eL image),(12,.int .i64 n)]⟩) (fun z=>[]) (fun _ Sx_3 H4=>zp H4 (fun (J:Mem→Prop) (z:Unit) S=>J S) (fun z=>⟨162,[(0,eP x),(1,.int .i64 seats),(2,.int .i64 quota),(3,.int .i64 pages),(4,eL image),(12,.int .i64 n)]⟩) (fun z=>[]) (fun _ Sx_4 H5=>csr<|mv E E<|by obtain⟨b,o,rfl,H6⟩:=H5;exact s_p E (qt E)<|s_p E (zv E E)<|gx H6 fun t ht H7=>s_v E (zF E) (qh ht)<|mv E E<|s_p E (qy E E)<|s_p E (zgv E E)<|s_p E (qt E)<|s_p E (zv E E)<|an H7 fun c H8=>qY E E E E E c E<|nxr<|mv E E<|mv E E<|s_p E (qt E)<|s_p E (zv E E)<|gx H8 fun t_1 ht_1 H9=>s_v E (zF E) (qh ht_1)<|s_p E (qj E zcG)<|by exact gu E E E fun b_1=>zgJ 0 E fun hb_1=>have H10:=H9 b_1 hb_1;s_p E (qj E E)<|by exact by refine qk E fun b_2=>?_;exact zl 0 E E E E E E zjh E<|nx<|zp H10 (fun (J:List Value→Mem→Prop) (z:List Value) S=>J z S) (fun z=>⟨162,[(0,.pointer (some ⟨b,o,none⟩)),(3,.int .i64 pages),(4,eL image),(12,.int .i64 n),(13,.pointer (some ⟨b_2,0,none⟩))]⟩) (fun z=>[⟨b_2,136,z⟩]) (fun v Sx_7 H11=>an H11 fun hv H12=>zp H12 (fun (J:List Value→Mem→Prop) (z:List Value) S=>J z S) (fun z=>⟨162,[(0,.pointer (some ⟨b,o,none⟩)),(3,.int .i64 pages),(4,eL image),(12,.int .i64 n),(13,.pointer (some ⟨b_2,0,none⟩))]⟩) (fun z=>[⟨b_2,136,z⟩]) (fun v_1 Sx_8 H13=>an H13 fun hv_1 H14=>zp H14 (fun (J:List Value→Mem→Prop) (z:List Value) S=>J z S) (fun z=>⟨162,[(0,.pointer (some ⟨b,o,none⟩)),(12,.int .i64 n),(13,.pointer (some ⟨b_2,0,none⟩))]⟩) (fun z=>[⟨b_2,136,z⟩]) (fun v_2 Sx_9 H15=>an H15 fun hv_2 H16=>zO<|qc (by kernel_rfl)<|aTP 0 E (by decide +kernel) E (zt E)<|by exact aTP 1 E (by decide +kernel) E (zt E)<|by exact by refine aT 2 E (by decide +kernel) E (qa E hv_2) (zx (k:=54) 0 E (ze hv_2)) ?_;exact aTP 3 E (by decide +kernel) E (qt E)<|by exact aTP 4 E (by decide +kernel) E (zv E E)<|by exact an2 H16 fun c_1 c_2 H17=>aTP 5 E (by decide +kernel) E (qb E E c_1 c_2 E)<|by exact zH 6 (by decide +kernel) E<|by exact an H17 fun c_3 H18=>an H18 fun c_4 H19=>qY E E E E hv_2 c_4 c_3<|zu<|qf zD<|qi (by decide +kernel)<|by exact zC<|csr<|mv E E<|mv E E<|s_p E (qt E)<|s_p E (zv E E)<|an2 H19 fun c_5 c_6 H20=>s_p E (qb E E c_5 c_6 E)<|an H20 fun c_7 H21=>qY E E E E E c_7 E<|nxr<|mv E E<|gv E E<|gv E E<|nx<|zo<|zn results19 (zd E (zd E zg)) ⟨_,_,E,H21⟩) (fun Jx hJx H22=>csr<|gv E E<|nx<|zE<|xM (fun z=>⟨162,[(0,.pointer (some ⟨b,o,none⟩)),(3,.int .i64 pages),(4,eL image),(12,.int .i64 n),(13,.pointer (some ⟨b_2,0,none⟩)),(16,.int .i64 z.1)]⟩) (fun z=>[⟨b_2,136,z.2⟩]) (0,v_1) (idx:=[0]) H22 E ⟨E,E,E,E,E,E,True.intro⟩ E<|by rintro Xx hXx ⟨i,v_3⟩ Sx_12 H23;exact an H23 fun hv_3 H24=>zp H24 (fun (J:Mem→Prop) (z:Unit) S=>J S) (fun z=>⟨162,[(0,.pointer (some ⟨b,o,none⟩)),(3,.int .i64 pages),(4,eL image),(12,.int .i64 n),(13,.pointer (some ⟨b_2,0,none⟩)),(16,.int .i64 i)]⟩) (fun z=>[⟨b_2,136,v_3⟩]) (fun _ Sx_13 H25=>zp H25 (fun (J:List Value→Mem→Prop) (z:List Value) S=>J z S) (fun z=>⟨162,[(0,.pointer (some ⟨b,o,none⟩)),(3,.int .i64 pages),(4,eL image),(12,.int .i64 n),(13,.pointer (some ⟨b_2,0,none⟩)),(16,.int .i64 i)]⟩) (fun z=>[⟨b_2,136,z⟩]) (fun v_4 Sx_14 H26=>an H26 fun hv_4 H27=>zw<|mv E E<|s_p E (qy E E)<|gv E E<|zu<|hXx (IntKind.i64.wrap (i+1),v_4) _ _ _ _ [0] H27 E ⟨E,E,E,E,E,E,True.intro⟩ E) (fun Jx_1 hJx_1 H28=>zE<|csr<|zqn E E E (by decide) (by decide) (by decide) (by decide) fun b_3=>zgJ 1 E fun hb_3=>have H29:=H28 b_3 hb_3;gv E E<|nx<|zp H29 (fun (J:Mem→Prop) (z:Unit) S=>J S) (fun z=>⟨162,[(0,.pointer (some ⟨b,o,none⟩)),(3,.int .i64 pages),(4,eL image),(12,.int .i64 n),(13,.pointer (some ⟨b_2,0,none⟩)),(16,.int .i64 i),(17,.slice (some ⟨b_3,0,none⟩) 256 256)]⟩) (fun z=>[⟨b_2,136,v_3⟩]) (fun _ Sx_16 H30=>csr<|s_p E (zv E E)<|gx H30 fun t_2 ht_2 H31=>s_v E (zF E) (qm 0 E ht_2)<|mv E E<|mv E E<|by obtain⟨b_4,o_1,rfl,H32⟩:=H31;exact s_p E (qt E)<|s_p E (zv E E)<|an2 H32 fun c_8 c_9 H33=>s_p E (qb E E c_8 c_9 E)<|an H33 fun c_10 H34=>qY E E E E E c_10 E<|nxr<|s_p E (zv E E)<|gx H34 fun t_3 ht_3 H35=>s_v E (zF E) (qm 0 E ht_3)<|mv E E<|by obtain⟨b_5,o_2,rfl,H36⟩:=H35;exact s_p E (qt E)<|s_p E (zv E E)<|an2 H36 fun c_11 c_12 H37=>s_p E (qb E E c_11 c_12 E)<|an H37 fun c_13 H38=>qY E E E E E c_13 E<|nx<|zw<|mv E E<|s_p E (zv E E)<|an2 H38 fun c_14 c_15 H39=>s_p E (qb E E c_14 c_15 E)<|qu (sz:=1) (vs:=[.bool true]) 0 E E E E E E (zY hv_3 (by omega)) E<|zu<|zX<|hJx_1 (spl v_3 (16+i.toNat*1) ([.bool true])) _ _ _ _ [0] H39 E ⟨E,E,E,E,E,E,True.intro⟩ E) (fun Jx_2 hJx_2 H40=>csr<|gv E E<|nx<|zE<|xM (fun z=>⟨162,[(0,.pointer (some ⟨b,o,none⟩)),(3,.int .i64 pages),(4,eL image),(12,.int .i64 n),(13,.pointer (some ⟨b_2,0,none⟩)),(16,.int .i64 i),(17,.slice (some ⟨b_3,0,none⟩) 256 256),(18,.int .i64 z)]⟩) (fun z=>[⟨b_2,136,v_3⟩]) 0 (idx:=[0]) H40 E ⟨E,E,E,E,E,E,E,E,True.intro⟩ E<|fun Xx_1 hXx_1 k Sx_19 H41=>zp H41 (fun (J:Mem→Prop) (z:Unit) S=>J S) (fun z=>⟨162,[(0,.pointer (some ⟨b,o,none⟩)),(3,.int .i64 pages),(4,eL image),(12,.int .i64 n),(13,.pointer (some ⟨b_2,0,none⟩)),(16,.int .i64 i),(17,.slice (some ⟨b_3,0,none⟩) 256 256),(18,.int .i64 k)]⟩) (fun z=>[⟨b_2,136,v_3⟩]) (fun _ Sx_20 H42=>zO<|zE<|zw<|mv E E<|mv E E<|mv E E<|mv E E<|s_p E (zca E E)<|mv E E<|s_p E (qy E E)<|by obtain⟨b_6,o_3,n_1,n_2,rfl,H43⟩:=H42;exact an2 H43 fun c_16 c_17 H44=>s_p E (vx E E c_16 c_17 E)<|gx H44 fun t_4 ht_4 H45=>s_v E (zF E) (qh ht_4)<|an2 H45 fun c_18 c_19 H46=>s_p E (vx E E c_18 c_19 E)<|an H46 fun c_20 H47=>qY E E E E E c_20 E<|zu<|zX<|zC<|zw<|mv E E<|s_p E (qy E E)<|gv E E<|zu<|hXx_1 (IntKind.i64.wrap (k+1)) _ _ _ _ [0] H47 E ⟨E,E,E,E,E,E,E,E,True.intro⟩ E) (fun Jx_3 hJx_3 H48=>csr<|mv E E<|iteK H48 (fun c_21 H49=>s_p E (yT (zQ E E) c_21)<|mv E E<|mv E E<|s_p E (zca E E)<|mv E E<|s_p E (qy E E)<|mv E E<|s_p E (vX E)<|iteK H49 (fun c_22 H50=>s_p E (yT (zQ E E) c_22)<|pk E E E<|nx<|c_t E E<|yu<|hJx_3 () _ _ _ _ [0] H50 E ⟨E,E,E,E,E,E,E,E,True.intro⟩ E) fun c_22 H50=>s_p E (yF (zQ E E) c_22)<|pk E E E<|nx<|c_f E E<|yg<|zm<|zm<|zU<|hJx_2 () _ _ _ _ [0] H50 E ⟨E,E,E,E,E,E,E,True.intro⟩ E) fun c_21 H49=>s_p E (yF (zQ E E) c_21)<|mv E E<|sk4 E E E E<|sk2 E E<|zG E<|pk E E E<|nx<|c_f E E<|yg<|zm<|zm<|zU<|hJx_2 () _ _ _ _ [0] H49 E ⟨E,E,E,E,E,E,E,True.intro⟩ E)))) (fun Jx_4 hJx_4 H51=>csr<|mv E E<|mv E E<|iteK H51 (fun c_23 H52=>s_p E (yT (zQ E E) c_23)<|nx<|c_t E E<|yu<|hJx_4 () _ _ _ _ [0] H52 E ⟨E,E,E,E,E,E,True.intro⟩ E) fun c_23 H52=>s_p E (yF (zQ E E) c_23)<|nx<|c_f E E<|yg<|zm<|zm<|zU<|hJx v_3 _ _ _ _ [0] H52 E ⟨E,E,E,True.intro⟩ E))) (fun Jx_5 hJx_5 H53=>csr<|gv E E<|nx<|zE<|xM (fun z=>⟨162,[(0,.pointer (some ⟨b,o,none⟩)),(3,.int .i64 pages),(4,eL image),(12,.int .i64 n),(13,.pointer (some ⟨b_2,0,none⟩)),(15,.int .i64 z.1)]⟩) (fun z=>[⟨b_2,136,z.2⟩]) (0,v) (idx:=[0]) H53 E ⟨E,E,E,E,E,E,True.intro⟩ E<|by rintro Xx_2 hXx_2 ⟨i_1,v_5⟩ Sx_22 H54;exact an H54 fun hv_5 H55=>zO<|csr<|mv E E<|iteK H55 (fun c_24 H56=>s_p E (yT (zQ E E) c_24)<|nx<|c_t E E<|yu<|zC<|zO<|zE<|zw<|mv E E<|zqn E E E (by decide) (by decide) (by decide) (by decide) fun b_7=>zgJ 1 E fun hb_7=>have H57:=H56 b_7 hb_7;s_p E (zv E E)<|an2 H57 fun c_25 c_26 H58=>s_p E (qb E E c_25 c_26 E)<|qu (sz:=1) (vs:=[.slice (some ⟨b_7,0,none⟩) 256 256]) 0 E E E E E E (zY hv_5 (by omega)) E<|zu<|zX<|zC<|zw<|mv E E<|s_p E (qy E E)<|gv E E<|zu<|hXx_2 (IntKind.i64.wrap (i_1+1),spl v_5 (5+i_1.toNat*1) ([.slice (some ⟨b_7,0,none⟩) 256 256])) _ _ _ _ [0] H58 E ⟨E,E,E,E,E,E,True.intro⟩ E) fun c_24 H56=>s_p E (yF (zQ E E) c_24)<|nx<|c_f E E<|yg<|zm<|zm<|zU<|hJx_5 v_5 _ _ _ _ [0] H56 E ⟨E,E,E,E,E,True.intro⟩ E)) (fun Jx_6 hJx_6 H59=>csr<|gv E E<|nx<|zE<|xM (fun z=>⟨162,[(0,.pointer (some ⟨b,o,none⟩)),(1,.int .i64 seats),(3,.int .i64 pages),(4,eL image),(12,.int .i64 n),(13,.pointer (some ⟨b_2,0,none⟩)),(14,.int .i64 z.1)]⟩) (fun z=>[⟨b_2,136,z.2⟩]) (0,[.bool true,.slice (none) 0 0,.int .i64 quota,.int .u64 t_1,.slice (none) 0 0,.slice (none) 0 0,.slice (none) 0 0,.slice (none) 0 0,.slice (none) 0 0,.bool false,.bool false,.bool false,.bool false,.bool false,.bool false,.pointer (some ⟨b_1,0,none⟩),.bool false,.bool false,.bool false,.bool false,.bool false,.bool false,.bool false,.bool false,.bool false,.bool false,.bool false,.bool false,.bool false,.bool false,.bool false,.bool false,.bool false,.bool false,.bool false,.bool false,.bool false,.bool false,.bool false,.bool false,.bool false,.bool false,.bool false,.bool false,.bool false,.bool false,.bool false,.bool false,.bool false,.bool false,.bool false,.int .u64 0,.int .u64 0,.int .u64 0]) (idx:=[0]) H59 E ⟨E,E,E,E,E,E,E,True.intro⟩ E<|by rintro Xx_3 hXx_3 ⟨i_2,v_6⟩ Sx_24 H60;exact an H60 fun hv_6 H61=>zp H61 (fun (J:Mem→Prop) (z:Unit) S=>J S) (fun z=>⟨162,[(0,.pointer (some ⟨b,o,none⟩)),(1,.int .i64 seats),(3,.int .i64 pages),(4,eL image),(12,.int .i64 n),(13,.pointer (some ⟨b_2,0,none⟩)),(14,.int .i64 i_2)]⟩) (fun z=>[⟨b_2,136,v_6⟩]) (fun _ Sx_25 H62=>zO<|zE<|zw<|s_p E (zv E E)<|gx H62 fun t_5 ht_5 H63=>s_v E (zF E) (qm 0 E ht_5)<|s_p E (qj E E)<|by exact zkR E E (by decide) E fun b_8=>zau (sx:=t_5) (vs:=[.int .u64 0,.int .u64 0,.int .u64 0,.int .u64 0,.int .u64 0,.int .u64 0,.int .u64 0,.int .u64 0,.int .u64 0,.int .u64 0,.int .u64 0,.int .u64 0,.int .u64 0,.int .u64 0,.int .u64 0,.int .u64 0,.int .u64 0,.int .u64 0,.int .u64 0,.int .u64 0,.int .u64 0,.int .u64 0,.bool false,.int .u8 0,.int .u32 0,.int .u32 0]) E E E (zjE 1 E E) E E (by decide) H63 fun t_6 Sx_26 H64=>s_p E (zv E E)<|qu (sz:=1) (vs:=[eL t_6]) 0 E E E E E E (zY hv_6 (by omega)) E<|zu<|zX<|zC<|zw<|mv E E<|s_p E (qy E E)<|gv E E<|zu<|hXx_3 (IntKind.i64.wrap (i_2+1),spl v_6 1 ([eL t_6])) _ _ _ _ [0] H64 E ⟨E,E,E,E,E,E,E,True.intro⟩ E) (fun Jx_7 hJx_7 H65=>csr<|mv E E<|mv E E<|iteK H65 (fun c_27 H66=>s_p E (yT (zQ E E) c_27)<|nx<|c_t E E<|yu<|hJx_7 () _ _ _ _ [0] H66 E ⟨E,E,E,E,E,E,E,True.intro⟩ E) fun c_27 H66=>s_p E (yF (zQ E E) c_27)<|nx<|c_f E E<|yg<|zm<|zm<|zU<|hJx_6 v_6 _ _ _ _ [0] H66 E ⟨E,E,E,E,E,True.intro⟩ E))) (fun Jx_8 hJx_8 H67=>csr<|mv E E<|by obtain⟨b_9,o_4,rfl,H68⟩:=H67;exact s_p E (qt E)<|s_p E (zv E E)<|gx H68 fun t_7 ht_7 H69=>s_v E (zF E) (qh ht_7)<|mv E E<|s_p E (qy E E)<|iteK H69 (fun c_28 H70=>s_p E (yT (zQ E E) c_28)<|nx<|c_t E E<|csr<|gv E E<|gv E E<|nx<|zo<|zb<|zn results19 (zd E (zd E zg)) ⟨_,_,E,H70⟩) fun c_28 H70=>s_p E (yF (zQ E E) c_28)<|nx<|cfs E E<|hJx_8 () _ _ _ _ [] H70 E ⟨E,E,E,E,E,E,True.intro⟩ E)) (fun Jx_9 hJx_9 H71=>csr<|mv E E<|iteK H71 (fun c_29 H72=>ceT E E E (c_29)<|nx<|c_t E E<|csr<|gv E E<|gv E E<|nx<|zo<|zb<|zn results19 (zd E (zd E zg)) ⟨_,_,E,H72⟩) fun c_29 H72=>ceF E E E (c_29)<|nx<|cfs E E<|hJx_9 () _ _ _ _ [] H72 E ⟨E,E,E,E,E,E,True.intro⟩ E)) (fun Jx_10 hJx_10 H73=>zE<|xM (fun z=>⟨162,[(0,eP x),(1,.int .i64 seats),(2,.int .i64 quota),(3,.int .i64 pages),(4,eL image),(12,.int .i64 z)]⟩) (fun z=>[]) 0 (idx:=[]) H73 E ⟨E,E,E,E,E,E,True.intro⟩ E<|fun Xx_4 hXx_4 n_3 Sx_27 H74=>zO<|csr<|mv E E<|iteK H74 (fun c_30 H75=>s_p E (yT (zQ E E) c_30)<|mv E E<|mv E E<|mv E E<|by obtain⟨b_10,o_5,rfl,H76⟩:=H75;exact s_p E (qt E)<|s_p E (zv E E)<|an2 H76 fun c_31 c_32 H77=>s_p E (qb E E c_31 c_32 E)<|s_p E (zv E E)<|gx H77 fun t_8 ht_8 H78=>by have H79:=zbG H78;rcases H79 with ⟨rfl,H80⟩ | ⟨rfl,H80⟩;exact (s_v E (zF E) (qh ht_8)<|pk E E E<|nx<|c_t E E<|yu<|zC<|zE<|zw<|mv E E<|s_p E (qy E E)<|gv E E<|zu<|zX<|hXx_4 (IntKind.i64.wrap (n_3+1)) _ _ _ _ [] H80 E ⟨E,E,E,E,E,E,True.intro⟩ E);exact (s_v E (zF E) (qh ht_8)<|pk E E E<|nx<|c_f E E<|yg<|zm<|zm<|zU<|hJx_10 n_3 _ _ _ _ [] H80 E ⟨E,E,E,E,E,E,True.intro⟩ E)) fun c_30 H75=>s_p E (yF (zQ E E) c_30)<|mv E E<|sk4 E E E E<|sk2 E E<|zG E<|pk E E E<|nx<|c_f E E<|yg<|zm<|zm<|zU<|hJx_10 n_3 _ _ _ _ [] H75 E ⟨E,E,E,E,E,E,True.intro⟩ E)) (fun Jx_11 hJx_11 H81=>csr<|mv E E<|s_p E (vX E)<|mv E E<|s_p E (zca E E)<|iteK H81 (fun c_33 H82=>s_p E (yT (qT E E) c_33)<|nx<|c_t E E<|csr<|gv E E<|gv E E<|nx<|zo<|zb<|zn results19 (zd E (zd E zg)) ⟨_,_,E,H82⟩) fun c_33 H82=>s_p E (yF (qT E E) c_33)<|nx<|cfs E E<|hJx_11 () _ _ _ _ [] H82 E ⟨E,E,E,E,E,True.intro⟩ E)) (fun Jx_12 hJx_12 H83=>csr<|mv E E<|iteK H83 (fun c_34 H84=>s_p E (yT (zQ E E) c_34)<|mv E E<|sk2 E E<|pk E E E<|mv E E<|sk2 E E<|pk E E E<|mv E E<|sk2 E E<|pk E E E<|mv E E<|sk2 E E<|pk E E E<|mv E E<|sk2 E E<|zG E<|pk E E E<|nx<|c_t E E<|csr<|gv E E<|gv E E<|nx<|zo<|zb<|zn results19 (zd E (zd E zg)) ⟨_,_,E,H84⟩) fun c_34 H84=>s_p E (yF (zQ E E) c_34)<|mv E E<|mv E E<|iteK H84 (fun c_35 H85=>s_p E (yT (qT E E) c_35)<|pk E E E<|mv E E<|sk2 E E<|pk E E E<|mv E E<|sk2 E E<|pk E E E<|mv E E<|sk2 E E<|pk E E E<|mv E E<|sk2 E E<|zG E<|pk E E E<|nx<|c_t E E<|csr<|gv E E<|gv E E<|nx<|zo<|zb<|zn results19 (zd E (zd E zg)) ⟨_,_,E,H85⟩) fun c_35 H85=>s_p E (yF (qT E E) c_35)<|pk E E E<|mv E E<|mv E E<|iteK H85 (fun c_36 H86=>s_p E (yT (zQ E E) c_36)<|pk E E E<|mv E E<|sk2 E E<|pk E E E<|mv E E<|sk2 E E<|pk E E E<|mv E E<|sk2 E E<|zG E<|pk E E E<|nx<|c_t E E<|csr<|gv E E<|gv E E<|nx<|zo<|zb<|zn results19 (zd E (zd E zg)) ⟨_,_,E,H86⟩) fun c_36 H86=>s_p E (yF (zQ E E) c_36)<|pk E E E<|mv E E<|mv E E<|iteK H86 (fun c_37 H87=>s_p E (yT (qT E E) c_37)<|pk E E E<|mv E E<|sk2 E E<|pk E E E<|mv E E<|sk2 E E<|zG E<|pk E E E<|nx<|c_t E E<|csr<|gv E E<|gv E E<|nx<|zo<|zb<|zn results19 (zd E (zd E zg)) ⟨_,_,E,H87⟩) fun c_37 H87=>s_p E (yF (qT E E) c_37)<|pk E E E<|mv E E<|mv E E<|iteK H87 (fun c_38 H88=>s_p E (yT (zQ E E) c_38)<|pk E E E<|mv E E<|sk2 E E<|zG E<|pk E E E<|nx<|c_t E E<|csr<|gv E E<|gv E E<|nx<|zo<|zb<|zn results19 (zd E (zd E zg)) ⟨_,_,E,H88⟩) fun c_38 H88=>s_p E (yF (zQ E E) c_38)<|pk E E E<|mv E E<|mv E E<|mv E E<|iteK H88 (fun c_39 H89=>s_p E (yT (qT E E) c_39)<|pk E E E<|nx<|c_t E E<|csr<|gv E E<|gv E E<|nx<|zo<|zb<|zn results19 (zd E (zd E zg)) ⟨_,_,E,H89⟩) fun c_39 H89=>s_p E (yF (qT E E) c_39)<|pk E E E<|nx<|cfs E E<|hJx_12 () _ _ _ _ [] H89 E ⟨E,E,E,E,E,True.intro⟩ E)
def xQ (S:Mem) (x:Pt) (n:Int) (b:Int) (Q:Int→Mem→Prop):Prop:=
 jn (fun (Sx:Mem)=>
 jn (fun (Sx_1:Mem)=>
 nn x fun b_1 o=>
 0≤n∧n<6 ∧
 gL (Sx_1.cell b_1 (o+2+n.toNat*54+4)) fun t=>
 sp Sx_1 t 1 fun vs=>
 ap Sx_1 5 1 1 [.int .u8 0] (⟨none,0,0⟩) t.n vs fun t_1 Sx_2=>
 ap Sx_2 5 1 1 [.int .u8 0] t_1 1 ([.int .u8 b]) fun t_2 Sx_3=>
 0≤n∧n<6 ∧
 pt Sx_3 b_1 (o+2+n.toNat*54+4) 1 ([eL t_2]) fun Sx_4=>
 qM Sx_4 (some (b_1,o)) n 0 6 fun t_3 Sx_5=>
 Q 0 Sx_5) fun Jx=>
 nn x fun b_3 o_1=>
 0≤n∧n<6 ∧
 gL (Sx.cell b_3 (o_1+2+n.toNat*54+4)) fun t_4=>
 if 64≤(t_4.n:Int) then
 Q 3 Sx
 else
 Jx Sx) fun Jx_1=>
 qx S x n fun t_5 Sx_6=>
 if t_5=true then
 Jx_1 Sx_6
 else
 Q 2 Sx_6
theorem zal {S:Mem} {x:Pt} {n:Int} {b:Int} {Q:Int→Mem→Prop} (H:xQ S x n b Q):yH S x n b Q:=by
 unfold xQ at H
 exact Tr.intro func21 E ntmps21 E fun w0=>csr<|gv E E<|nx<|zp H (fun (J:Mem→Prop) (z:Unit) S=>J S) (fun z=>⟨43,[(0,eP x),(1,.int .i64 n),(2,.int .u8 b)]⟩) (fun z=>[]) (fun _ Sx H1=>zp H1 (fun (J:Mem→Prop) (z:Unit) S=>J S) (fun z=>⟨43,[(0,eP x),(1,.int .i64 n),(2,.int .u8 b)]⟩) (fun z=>[]) (fun _ Sx_1 H2=>csr<|gv E E<|nxr<|mv E E<|mv E E<|mv E E<|by obtain⟨b_1,o,rfl,H3⟩:=H2;exact s_p E (qt E)<|s_p E (zv E E)<|an2 H3 fun c c_1 H4=>s_p E (qb E E c c_1 E)<|s_p E (zv E E)<|gx H4 fun t ht H5=>s_v E (zF E) (qh ht)<|by obtain⟨vs,h,c_2,H6⟩:=H5;exact zau (sx:=⟨none,0,0⟩) (vs:=vs) E E E ((fj h).1) ((fj (P:=prog) (w0:=w0) (S0:=S) (V:=[]) h).2) c_2 (by decide) H6 fun t_1 Sx_2 H7=>gv E E<|nx<|zO<|qc (by kernel_rfl)<|aTP 0 E (by decide +kernel) E (zt E)<|by exact aTP 1 E (by decide +kernel) E (zt E)<|by exact aTP 2 E (by decide +kernel) E (zt E)<|by exact aTP 3 E (by decide +kernel) E (zt E)<|by exact aTP 6 E (by decide +kernel) E (qt E)<|by exact aTP 7 E (by decide +kernel) E (zv E E)<|by exact zH 4 (by decide +kernel) E<|by exact zkR E E (by decide) E fun b_2=>zu<|qf zD<|zH 5 (by decide +kernel) E<|by exact zau (sx:=t_1) (vs:=[.int .u8 b]) E E E (zjE 0 E E) E E (by decide) H7 fun t_2 Sx_3 H8=>zu<|qf zD<|an2 H8 fun c_3 c_4 H9=>aTP 8 E (by decide +kernel) E (qb E E c_3 c_4 E)<|by exact aTP 9 E (by decide +kernel) E (zv E E)<|by exact zH 10 (by decide +kernel) E<|by exact an H9 fun c_5 H10=>qY E E E E E c_5 E<|zu<|qf zD<|qi (by decide +kernel)<|by exact zC<|csr<|mv E E<|mv E E<|vv E E H10 fun t_3 Sx_5 H11=>nxr<|gv E E<|nx<|zo<|zn results21 (zd E zg) ⟨_,E,H11⟩) (fun Jx hJx H12=>csr<|mv E E<|mv E E<|by obtain⟨b_3,o_1,rfl,H13⟩:=H12;exact s_p E (qt E)<|s_p E (zv E E)<|an2 H13 fun c_6 c_7 H14=>s_p E (qb E E c_6 c_7 E)<|s_p E (zv E E)<|gx H14 fun t_4 ht_4 H15=>s_v E (zF E) (qh ht_4)<|s_p E (vX E)<|iteK H15 (fun c_8 H16=>s_p E (yT (wP E E) c_8)<|nx<|c_t E E<|csr<|gv E E<|nx<|zo<|zb<|zn results21 (zd E zg) ⟨_,E,H16⟩) fun c_8 H16=>s_p E (yF (wP E E) c_8)<|nx<|cfs E E<|hJx () _ _ _ _ [] H16 E ⟨E,E,E,True.intro⟩ E)) (fun Jx_1 hJx_1 H17=>csr<|mv E E<|mv E E<|vv E E H17 fun t_5 Sx_6 H18=>by have H19:=zbG H18;rcases H19 with ⟨rfl,H20⟩ | ⟨rfl,H20⟩;exact (s_p E (yB (qC E) E)<|nx<|cfs E E<|hJx_1 () _ _ _ _ [] H20 E ⟨E,E,E,True.intro⟩ E);exact (s_p E (yB (qC E) E)<|nx<|c_t E E<|csr<|gv E E<|nx<|zo<|zb<|zn results21 (zd E zg) ⟨_,E,H20⟩))
def xO (S:Mem) (x:Pt) (n:Int) (k:Int) (Q:Int→Mem→Prop):Prop:=
 jn (fun (Sx:Mem)=>
 nn x fun b o=>
 0≤n∧n<6 ∧
 gL (Sx.cell b (o+2+n.toNat*54+1)) fun t=>
 sl t fun b_1 o_1 n_1 n_2=>
 0≤k∧k<((n_1:Nat):Int) ∧
 gA (Sx.part b_1 (o_1+k.toNat*26) 26) fun t_1=>
 t_1.all (·.oneCell')=true ∧
 0≤n∧n<6 ∧
 gP (Sx.cell b (o+2+n.toNat*54+15)) fun t_2=>
 gI (Sx.cell b o) .u64 fun t_3=>
 0≤n∧n<6 ∧
 gI (Sx.cell b (o+2+n.toNat*54+3)) .u64 fun t_4=>
 wh Sx t_1 t_2 (IntKind.u64.wrap (t_3-t_4)) k fun t_5 t_6 t_7 Sx_1=>
 Sx_1.cell b (o+2+n.toNat*54+3)=some (.int .u64 t_4) ∧
 Sx_1.cell b o=some (.int .u64 t_3) ∧
 t_5.all (·.oneCell')=true ∧
 jn (fun (Sx_2:Mem)=>
 0≤n∧n<6 ∧
 gL (Sx_2.cell b (o+2+n.toNat*54+1)) fun t_8=>
 sl t_8 fun b_4 o_2 n_3 n_4=>
 0≤k∧k<((n_3:Nat):Int) ∧
 t_5.all (·.oneCell')=true ∧
 pt Sx_2 b_4 (o_2+k.toNat*26) 26 t_5 fun Sx_3=>
 jn (fun (Sx_4:Mem)=>
 if t_6=2 then
 gI (nthL t_5 1) .u64 fun t_9=>
 gI (nthL t_5 2) .u64 fun t_10=>
 gI (nthL t_5 3) .u64 fun t_11=>
 we Sx_4 (some (b,o)) n k t_7 t_9 t_10 t_11 fun t_12 t_13 Sx_5=>
 jn (fun (v:Int) (Sx_6:Mem)=>
 0≤n∧n<6 ∧
 gL (Sx_6.cell b (o+2+n.toNat*54+1)) fun t_14=>
 sl t_14 fun b_5 o_3 n_5 n_6=>
 0≤k∧k<((n_5:Nat):Int) ∧
 pt Sx_6 b_5 (o_3+k.toNat*26) 1 ([.int .u64 (IntKind.u64.wrap t_13)]) fun Sx_7=>
 0≤n∧n<6 ∧
 gL (Sx_7.cell b (o+2+n.toNat*54+1)) fun t_15=>
 sl t_15 fun b_6 o_4 n_7 n_8=>
 0≤k∧k<((n_7:Nat):Int) ∧
 pt Sx_7 b_6 (o_4+k.toNat*26+1) 1 ([.int .u64 v]) fun Sx_8=>
 qr Sx_8 (some (b,o)) n k 2 (ior .u64 (IntKind.u64.wrap (t_7*256)) (IntKind.u64.wrap t_13)) v fun Sx_9=>
 Q 0 Sx_9) fun Jx=>
 if t_13≠0 then
 Jx 0 Sx_5
 else
 Jx t_12 Sx_5
 else
 Q 0 Sx_4) fun Jx_1=>
 if t_6=1 then
 gI (nthL t_1 16) .u64 fun t_16=>
 qr Sx_3 (some (b,o)) n k 4 t_7 t_16 fun Sx_10=>
 Jx_1 Sx_10
 else
 if t_6=4 then
 gI (nthL t_1 16) .u64 fun t_17=>
 qr Sx_3 (some (b,o)) n k 5 t_7 t_17 fun Sx_11=>
 Jx_1 Sx_11
 else
 gI (nthL t_1 16) .u64 fun t_18=>
 wE Sx_3 t_5 fun t_19 Sx_12=>
 qr Sx_12 (some (b,o)) n k 1 t_18 t_19 fun Sx_13=>
 Jx_1 Sx_13) fun Jx_2=>
 if t_6=5 then
 Q 10 Sx_1
 else
 Jx_2 Sx_1) fun Jx_3=>
 qx S x n fun t_20 Sx_14=>
 if t_20=true then
 if k<0 then
 Q 2 Sx_14
 else
 nn x fun b_7 o_5=>
 0≤n∧n<6 ∧
 gL (Sx_14.cell b_7 (o_5+2+n.toNat*54+1)) fun t_21=>
 if (t_21.n:Int)≤k then
 Q 2 Sx_14
 else
 Jx_3 Sx_14
 else
 Q 2 Sx_14
theorem zaj {S:Mem} {x:Pt} {n:Int} {k:Int} {Q:Int→Mem→Prop} (H:xO S x n k Q):yG S x n k Q:=by
 unfold xO at H
 have:=dj0 (α:=Int×Unit) 19 [0,1,2,10,12] (fun z=>[(11,.int .u64 z.1)])
 have:=dj (α:=Unit) 15 [0,1,2,8,9,10] (fun _=>[]) (fun _=>[(1,none)])
 have:=dj (α:=Unit) 8 [0,1,2,7,8,9,10] (fun _=>[]) (fun _=>[(0,none),(1,none)])
 have:=dj1 4 [0,1,2]
 exact Tr.intro func23 E ntmps23 E fun w0=>go results23 H
def yL (S:Mem) (x:Pt) (n:Int) (Q:Bool→Mem→Prop):Prop:=
 if 0≤n then
 if n<6 then
 nn x fun b o=>
 0≤n∧n<6 ∧
 gB (S.cell b (o+2+n.toNat*54)) fun t=>
 Q t S
 else
 Q false S
 else
 Q false S
theorem gK {S:Mem} {x:Pt} {n:Int} {Q:Bool→Mem→Prop} (H:yL S x n Q):qx S x n Q:=by
 unfold yL at H
 exact Tr.intro func59 E ntmps59 E fun w0=>go results59 H
def yN (S:Mem) (x:Pt) (n:Int) (k:Int) (i:Int) (Q:Int→Mem→Prop):Prop:=
 nn x fun b o=>
 0≤n∧n<6 ∧
 gL (S.cell b (o+2+n.toNat*54+1)) fun t=>
 sl t fun b_1 o_1 n_1 n_2=>
 0≤k∧k<((n_1:Nat):Int) ∧
 gA (S.part b_1 (o_1+k.toNat*26) 26) fun t_1=>
 t_1.all (·.oneCell')=true ∧
 jn (fun (Sx:Mem)=>
 gI (nthL t_1 24) .u32 fun t_2=>
 0≤i ∧
 0≤n∧n<6 ∧
 gL (Sx.cell b (o+2+n.toNat*54+1)) fun t_3=>
 wg Sx (spl t_1 24 ([.int .u32 (ior .u32 t_2 (ishl .u32 1 i))])) fun t_4 Sx_1=>
 Sx_1.cell b (o+2+n.toNat*54+1)=some (eL t_3) ∧
 sl t_3 fun b_3 o_2 n_3 n_4=>
 0≤k∧k<((n_3:Nat):Int) ∧
 t_4.all (·.oneCell')=true ∧
 pt Sx_1 b_3 (o_2+k.toNat*26) 26 t_4 fun Sx_2=>
 Q 0 Sx_2) fun Jx=>
 gI (nthL t_1 23) .u8 fun t_5=>
 if t_5=2 then
 Q 10 S
 else
 Jx S
theorem gO {S:Mem} {x:Pt} {n:Int} {k:Int} {i:Int} {Q:Int→Mem→Prop} (H:yN S x n k i Q):qM S x n k i Q:=by
 unfold yN at H
 exact Tr.intro func60 E ntmps60 E fun w0=>csr<|gv E E<|nxr<|mv E E<|mv E E<|by obtain⟨b,o,rfl,H1⟩:=H;exact s_p E (qt E)<|s_p E (zv E E)<|an2 H1 fun c c_1 H2=>s_p E (qb E E c c_1 E)<|s_p E (zv E E)<|gx H2 fun t ht H3=>s_v E (zF E) (qh ht)<|mv E E<|by obtain⟨b_1,o_1,n_1,n_2,rfl,H4⟩:=H3;exact an2 H4 fun c_2 c_3 H5=>s_p E (vx E E c_2 c_3 E)<|gx H5 fun t_1 ht_1 H6=>by refine s_v E (qa E (qZ ht_1)) (zfN ht_1) ?_;exact by refine qk E fun b_2=>?_;exact an H6 fun c_4 H7=>zl 0 E E E E E (qZ ht_1) zcM c_4<|nx<|zp H7 (fun (J:Mem→Prop) (z:Unit) S=>J S) (fun z=>⟨40,[(0,.pointer (some ⟨b,o,none⟩)),(1,.int .i64 n),(2,.int .i64 k),(3,.int .i64 i),(9,.pointer (some ⟨b_2,0,none⟩))]⟩) (fun z=>[⟨b_2,43,t_1⟩]) (fun _ Sx H8=>zO<|qc (by kernel_rfl)<|aTP 0 E (by decide +kernel) E (zv E E)<|by exact gx H8 fun t_2 ht_2 H9=>aT 1 E (by decide +kernel) E (zF E) (qm 0 E ht_2)<|by exact aTP 2 E (by decide +kernel) E (zt E)<|by exact an H9 fun c_5 H10=>aTP 3 E (by decide +kernel) E (zmE E E c_5)<|by exact aTP 4 E (by decide +kernel) E (zra E E)<|by exact aTP 5 E (by decide +kernel) E (zv E E)<|by exact zH 6 (by decide +kernel) E<|by exact qu (sz:=1) (vs:=[.int .u32 (ior .u32 t_2 (ishl .u32 1 i))]) 0 E E E E E E (zY (qZ ht_1) (by omega)) E<|zu<|qf zD<|qi (by decide +kernel)<|by exact zC<|zO<|qc (by kernel_rfl)<|aTP 0 E (by decide +kernel) E (zt E)<|by exact aTP 1 E (by decide +kernel) E (zt E)<|by exact aTP 2 E (by decide +kernel) E (qt E)<|by exact aTP 3 E (by decide +kernel) E (zv E E)<|by exact an2 H10 fun c_6 c_7 H11=>aTP 4 E (by decide +kernel) E (qb E E c_6 c_7 E)<|by exact aTP 5 E (by decide +kernel) E (zv E E)<|by exact gx H11 fun t_3 ht_3 H12=>aT 6 E (by decide +kernel) E (zF E) (qh ht_3)<|by exact aTP 7 E (by decide +kernel) E (zt E)<|by exact by refine aT 8 E (by decide +kernel) E (qa E (zq (qZ ht_1) (by have:=True.intro;(try simp only[List.length_cons,List.length_nil]);omega))) (zx (k:=26) 0 E (ze (zq (qZ ht_1) (by have:=True.intro;(try simp only[List.length_cons,List.length_nil]);omega)))) ?_;exact zH 9 (by decide +kernel) E<|by exact qP E E H12 fun rv Sx_1 H13=>by obtain⟨t_4,rfl,ht_4,H14⟩:=H13;exact by obtain⟨k_1,H15⟩:=H14;exact zu<|qf (zA (qh k_1) zD)<|by obtain⟨b_3,o_2,n_3,n_4,rfl,H16⟩:=H15;exact an2 H16 fun c_8 c_9 H17=>aTP 10 E (by decide +kernel) E (vx E E c_8 c_9 E)<|by exact zH 11 (by decide +kernel) E<|by exact an H17 fun c_10 H18=>an H18 fun c_11 H19=>qY E E E E ht_4 c_11 c_10<|zu<|qf zD<|qi (by decide +kernel)<|by exact zC<|csr<|gv E E<|nx<|zo<|zn results60 (zd E zg) ⟨_,E,H19⟩) (fun Jx hJx H20=>csr<|s_p E (zv E E)<|gx H20 fun t_5 ht_5 H21=>s_v E (zF E) (qm 0 E ht_5)<|iteK H21 (fun c_12 H22=>ceT E E E (c_12)<|nx<|c_t E E<|csr<|gv E E<|nx<|zo<|zb<|zn results60 (zd E zg) ⟨_,E,H22⟩) fun c_12 H22=>ceF E E E (c_12)<|nx<|cfs E E<|hJx () _ _ _ _ [0] H22 E ⟨E,E,E,E,E,True.intro⟩ E)
def xg (S:Mem) (x:Pt) (n:Int) (k:Int) (kind:Int) (a:Int) (b:Int) (Q:Mem→Prop):Prop:=
 nn x fun b_1 o=>
 0≤n∧n<6 ∧
 gL (S.cell b_1 (o+422+n.toNat*1)) fun t=>
 ap S 45 4 32 [.int .u8 0,.int .i64 0,.int .u64 0,.int .u64 0] t 1 ([.int .u8 kind,.int .i64 k,.int .u64 a,.int .u64 b]) fun t_1 Sx=>
 0≤n∧n<6 ∧
 pt Sx b_1 (o+422+n.toNat*1) 1 ([eL t_1]) fun Sx_1=>
 Q Sx_1
theorem fQ {S:Mem} {x:Pt} {n:Int} {k:Int} {kind:Int} {a:Int} {b:Int} {Q:Mem→Prop} (H:xg S x n k kind a b Q):qr S x n k kind a b Q:=by
 unfold xg at H
 exact Tr.intro func65 E ntmps65 E fun w0=>go results65 H
def xk (S:Mem) (x:Pt) (n:Int) (k:Int) (c:Int) (w1_0:Int) (w2_0:Int) (w3_0:Int) (Q:Int→Int→Mem→Prop):Prop:=
 yc S w1_0 fun t Sx=>
 yc Sx w2_0 fun t_1 Sx_1=>
 nn x fun b o=>
 0≤n∧n<6 ∧
 gA (Sx_1.part b (o+2+n.toNat*54) 54) fun t_2=>
 t_2.all (·.oneCell')=true ∧
 jn (fun (Sx_2:Mem)=>
 Q 0 1 Sx_2) fun Jx=>
 if c=0 then
 qr Sx_1 (some (b,o)) n k 3 (Int.tmod w1_0 256) 0 fun Sx_3=>
 Q 0 0 Sx_3
 else
 if c=1 then
 jn (fun (Sx_4:Mem)=>
 gL (nthL t_2 4) fun t_3=>
 (0:Int)≤1∧(1:Int)≤(t_3.n:Int)∧(t_3.n:Int)≤(t_3.c:Int) ∧
 lt (slc 1 t_3 1 (t_3.n:Int)) fun t_4=>
 0≤n∧n<6 ∧
 pt Sx_4 b (o+2+n.toNat*54+4) 1 ([eL t_4]) fun Sx_5=>
 gL (nthL t_2 4) fun t_5=>
 sl t_5 fun b_2 o_1 n_1 n_2=>
 (0:Int)<(n_1:Nat) ∧
 gI (Sx_5.cell b_2 o_1) .u8 fun t_6=>
 Q (IntKind.u64.wrap t_6) 0 Sx_5) fun Jx_1=>
 gL (nthL t_2 4) fun t_7=>
 if (t_7.n:Int)=0 then
 Q 0 2 Sx_1
 else
 Jx_1 Sx_1
 else
 if c=2 then
 jn (fun (Sx_6:Mem)=>
 jn (fun (Sx_7:Mem)=>
 qM Sx_7 (some (b,o)) t 0 t_1 fun t_8 Sx_8=>
 Q 0 t_8 Sx_8) fun Jx_2=>
 if t_1<0 then
 Q 0 1 Sx_6
 else
 if 7<t_1 then
 Q 0 1 Sx_6
 else
 Jx_2 Sx_6) fun Jx_3=>
 qx Sx_1 (some (b,o)) t fun t_9 Sx_9=>
 if t_9=true then
 0≤t∧t<6 ∧
 gB (nthL t_2 (9+t.toNat*1)) fun t_10=>
 if t_10=true then
 Jx_3 Sx_9
 else
 Q 0 2 Sx_9
 else
 Q 0 2 Sx_9
 else
 if c=3 then
 0≤n∧n<6 ∧
 0≤k∧k<3 ∧
 pt Sx_1 b (o+2+n.toNat*54+48+k.toNat*1) 1 ([.bool true]) fun Sx_10=>
 0≤n∧n<6 ∧
 0≤k∧k<3 ∧
 pt Sx_10 b (o+2+n.toNat*54+51+k.toNat*1) 1 ([.int .u64 w1_0]) fun Sx_11=>
 Q 0 0 Sx_11
 else
 if c=4 then
 jn (fun (Sx_12:Mem)=>
 jn (fun (Sx_13:Mem)=>
 jn (fun (Sx_14:Mem)=>
 jn (fun (Sx_15:Mem)=>
 Q 0 3 Sx_15) fun Jx_4=>
 lp (fun Xx (i:Int) (Sx_16:Mem)=>
 jn (fun (Sx_17:Mem)=>
 0≤i∧i<16 ∧
 gB (Sx_17.cell b (o+326+i.toNat*6)) fun t_11=>
 if t_11=true then
 Xx (IntKind.i64.wrap (i+1)) Sx_17
 else
 0≤i∧i<16 ∧
 pt Sx_17 b (o+326+i.toNat*6) 6 ([.bool true,.int .i64 n,.int .i64 t,.int .i64 t_1,.bool (decide (w3_0≠0)),.int .i64 (-1)]) fun Sx_18=>
 Q (IntKind.u64.wrap i) 0 Sx_18) fun Jx_5=>
 if i<16 then
 Jx_5 Sx_16
 else
 Jx_4 Sx_16) 0 Sx_14) fun Jx_6=>
 if t_1=n then
 Q 0 1 Sx_13
 else
 Jx_6 Sx_13) fun Jx_7=>
 qx Sx_12 (some (b,o)) t_1 fun t_12 Sx_19=>
 if t_12=true then
 Jx_7 Sx_19
 else
 Q 0 2 Sx_19) fun Jx_8=>
 yk Sx_1 (some (b,o)) n t fun t_13 Sx_20=>
 if t_13≠0 then
 Q 0 t_13 Sx_20
 else
 Jx_8 Sx_20
 else
 jn (fun (t_14:Bool) (Sx_21:Mem)=>
 if t_14=true then
 xG Sx_21 (some (b,o)) n c t t_1 fun t_15 Sx_22=>
 Q 0 t_15 Sx_22
 else
 if c=8 then
 jn (fun (Sx_23:Mem)=>
 jn (fun (Sx_24:Mem)=>
 yl Sx_24 (some (b,o)) n t fun Sx_25=>
 gI (Sx_25.cell b (o+1)) .i64 fun t_16=>
 pt Sx_25 b (o+1) 1 ([.int .i64 (IntKind.i64.wrap (t_16+1))]) fun Sx_26=>
 Q 0 0 Sx_26) fun Jx_9=>
 lp (fun Xx_1 (i_1:Int) (Sx_27:Mem)=>
 jn (fun (Sx_28:Mem)=>
 0≤i_1∧i_1<16 ∧
 gB (Sx_28.cell b (o+326+i_1.toNat*6)) fun t_17=>
 if t_17=true then
 0≤i_1∧i_1<16 ∧
 gI (Sx_28.cell b (o+326+i_1.toNat*6+1)) .i64 fun t_18=>
 if t_18=n then
 0≤i_1∧i_1<16 ∧
 gI (Sx_28.cell b (o+326+i_1.toNat*6+2)) .i64 fun t_19=>
 if t_19=t then
 Q 0 8 Sx_28
 else
 Xx_1 (IntKind.i64.wrap (i_1+1)) Sx_28
 else
 Xx_1 (IntKind.i64.wrap (i_1+1)) Sx_28
 else
 Xx_1 (IntKind.i64.wrap (i_1+1)) Sx_28) fun Jx_10=>
 if i_1<16 then
 Jx_10 Sx_27
 else
 Jx_9 Sx_27) 0 Sx_23) fun Jx_11=>
 yk Sx_21 (some (b,o)) n t fun t_20 Sx_29=>
 if t_20≠0 then
 Q 0 t_20 Sx_29
 else
 Jx_11 Sx_29
 else
 if c=9 then
 jn (fun (Sx_30:Mem)=>
 jn (fun (Sx_31:Mem)=>
 jn (fun (Sx_32:Mem)=>
 jn (fun (Sx_33:Mem)=>
 gI (Sx_33.cell b (o+1)) .i64 fun t_21=>
 pt Sx_33 b (o+1) 1 ([.int .i64 (IntKind.i64.wrap (t_21-1))]) fun Sx_34=>
 gP (nthL t_2 15) fun t_22=>
 nn t_22 fun b_3 o_2=>
 al Sx_34 5 (zrep 256 [.int .u8 0]) fun b_4 Sx_35=>
 0≤t∧t<32 ∧
 pt Sx_35 b_3 (o_2+t.toNat*1) 1 ([.slice (some ⟨b_4,0,none⟩) 256 256]) fun Sx_36=>
 gP (nthL t_2 15) fun t_23=>
 nn t_23 fun b_5 o_3=>
 0≤t∧t<32 ∧
 pt Sx_36 b_5 (o_3+32+t.toNat*1) 1 ([.bool true]) fun Sx_37=>
 0≤n∧n<6 ∧
 0≤t∧t<32 ∧
 pt Sx_37 b (o+2+n.toNat*54+16+t.toNat*1) 1 ([.bool true]) fun Sx_38=>
 Q 0 0 Sx_38) fun Jx_12=>
 gI (Sx_32.cell b (o+1)) .i64 fun t_24=>
 if t_24=0 then
 Q 0 3 Sx_32
 else
 Jx_12 Sx_32) fun Jx_13=>
 gI (nthL t_2 2) .i64 fun t_25=>
 ye Sx_31 (some (b,o)) n fun t_26 Sx_39=>
 if t_25≤t_26 then
 Q 0 9 Sx_39
 else
 Jx_13 Sx_39) fun Jx_14=>
 gP (nthL t_2 15) fun t_27=>
 nn t_27 fun b_6 o_4=>
 0≤t∧t<32 ∧
 gL (Sx_30.cell b_6 (o_4+t.toNat*1)) fun t_28=>
 if 0<(t_28.n:Int) then
 Q 0 8 Sx_30
 else
 Jx_14 Sx_30) fun Jx_15=>
 if t<0 then
 Q 0 1 Sx_21
 else
 if 31<t then
 Q 0 1 Sx_21
 else
 Jx_15 Sx_21
 else
 jn (fun (t_29:Bool) (Sx_40:Mem)=>
 if t_29=true then
 jn (fun (Sx_41:Mem)=>
 jn (fun (Sx_42:Mem)=>
 jn (fun (Sx_43:Mem)=>
 Q 0 0 Sx_43) fun Jx_16=>
 lp (fun Xx_2 (i_2:Int) (Sx_44:Mem)=>
 jn (fun (Sx_45:Mem)=>
 if c=10 then
 gP (nthL t_2 15) fun t_30=>
 nn t_30 fun b_7 o_5=>
 0≤t_1∧t_1<32 ∧
 gL (Sx_45.cell b_7 (o_5+t_1.toNat*1)) fun t_31=>
 0≤t∧t<4 ∧
 gL (nthL t_2 (5+t.toNat*1)) fun t_32=>
 sl t_32 fun b_8 o_6 n_3 n_4=>
 0≤i_2∧i_2<((n_3:Nat):Int) ∧
 gI (Sx_45.cell b_8 (o_6+i_2.toNat*1)) .u8 fun t_33=>
 sl t_31 fun b_9 o_7 n_5 n_6=>
 0≤i_2∧i_2<((n_5:Nat):Int) ∧
 pt Sx_45 b_9 (o_7+i_2.toNat*1) 1 ([.int .u8 t_33]) fun Sx_46=>
 Xx_2 (IntKind.i64.wrap (i_2+1)) Sx_46
 else
 0≤t∧t<4 ∧
 gL (nthL t_2 (5+t.toNat*1)) fun t_34=>
 gP (nthL t_2 15) fun t_35=>
 nn t_35 fun b_10 o_8=>
 0≤t_1∧t_1<32 ∧
 gL (Sx_45.cell b_10 (o_8+t_1.toNat*1)) fun t_36=>
 sl t_36 fun b_11 o_9 n_7 n_8=>
 0≤i_2∧i_2<((n_7:Nat):Int) ∧
 gI (Sx_45.cell b_11 (o_9+i_2.toNat*1)) .u8 fun t_37=>
 sl t_34 fun b_12 o_10 n_9 n_10=>
 0≤i_2∧i_2<((n_9:Nat):Int) ∧
 pt Sx_45 b_12 (o_10+i_2.toNat*1) 1 ([.int .u8 t_37]) fun Sx_47=>
 Xx_2 (IntKind.i64.wrap (i_2+1)) Sx_47) fun Jx_17=>
 if i_2<256 then
 Jx_17 Sx_44
 else
 Jx_16 Sx_44) 0 Sx_42) fun Jx_18=>
 if t_1<0 then
 Q 0 11 Sx_41
 else
 if 31<t_1 then
 Q 0 11 Sx_41
 else
 gP (nthL t_2 15) fun t_38=>
 nn t_38 fun b_13 o_11=>
 0≤t_1∧t_1<32 ∧
 gL (Sx_41.cell b_13 (o_11+t_1.toNat*1)) fun t_39=>
 if (t_39.n:Int)=0 then
 Q 0 11 Sx_41
 else
 if c=10 then
 gP (nthL t_2 15) fun t_40=>
 nn t_40 fun b_14 o_12=>
 0≤t_1∧t_1<32 ∧
 gB (Sx_41.cell b_14 (o_12+32+t_1.toNat*1)) fun t_41=>
 if t_41=true then
 Jx_18 Sx_41
 else
 Q 0 11 Sx_41
 else
 Jx_18 Sx_41) fun Jx_19=>
 if t<0 then
 Q 0 1 Sx_40
 else
 if 3<t then
 Q 0 1 Sx_40
 else
 Jx_19 Sx_40
 else
 if c=12 then
 Q (IntKind.u64.wrap n) 0 Sx_40
 else
 if c=13 then
 0≤n∧n<6 ∧
 gL (Sx_40.cell b (o+2+n.toNat*54+1)) fun t_42=>
 sl t_42 fun b_15 o_13 n_11 n_12=>
 0≤k∧k<((n_11:Nat):Int) ∧
 pt Sx_40 b_15 (o_13+k.toNat*26+23) 1 ([.int .u8 2]) fun Sx_48=>
 Q 0 0 Sx_48
 else
 Jx Sx_40) fun Jx_20=>
 if c=10 then
 Jx_20 true Sx_21
 else
 if c=11 then
 Jx_20 true Sx_21
 else
 Jx_20 false Sx_21) fun Jx_21=>
 if c=5 then
 Jx_21 true Sx_1
 else
 if c=6 then
 Jx_21 true Sx_1
 else
 if c=7 then
 Jx_21 true Sx_1
 else
 Jx_21 false Sx_1
theorem fT {S:Mem} {x:Pt} {n:Int} {k:Int} {c:Int} {w1_0:Int} {w2_0:Int} {w3_0:Int} {Q:Int→Int→Mem→Prop} (H:xk S x n k c w1_0 w2_0 w3_0 Q):we S x n k c w1_0 w2_0 w3_0 Q:=by
 unfold xk at H
 exact Tr.intro func66 E ntmps66 E fun w0=>csr<|gv E E<|gv E E<|nxr<|mv E E<|vv E E H fun t Sx H1=>gv E E<|nxr<|mv E E<|vv E E H1 fun t_1 Sx_1 H2=>gv E E<|nxr<|mv E E<|mv E E<|by obtain⟨b,o,rfl,H3⟩:=H2;exact s_p E (qt E)<|s_p E (zv E E)<|an2 H3 fun c_1 c_2 H4=>s_p E (qb E E c_1 c_2 E)<|gx H4 fun t_2 ht_2 H5=>by refine s_v E (qa E (qZ ht_2)) (zfN ht_2) ?_;exact by refine qk E fun b_1=>?_;exact an H5 fun c_3 H6=>zl 0 E E E E E (qZ ht_2) zjh c_3<|nx<|zp H6 (fun (J:Mem→Prop) (z:Unit) S=>J S) (fun z=>⟨359,[]⟩) (fun z=>[]) (fun _ Sx_2 H7=>csr<|gv E E<|gv E E<|nx<|zo<|zn results66 (zd E (zd E zg)) ⟨_,_,E,H7⟩) (fun Jx hJx H8=>csr<|mv E E<|nx<|zE<|csr<|iteK H8 (fun c_4 H9=>ceT E E E (c_4)<|gv E E<|nx<|c_t E E<|csr<|mv E E<|mv E E<|mv E E<|mv E E<|s_p E (zbc E E (by decide))<|zls E E H9 fun Sx_3 H10=>nxr<|gv E E<|gv E E<|nx<|zo<|zh<|zb<|zn results66 (zd E (zd E zg)) ⟨_,_,E,H10⟩) fun c_4 H9=>ceF E E E (c_4)<|gv E E<|nx<|c_f E E<|csr<|iteK H9 (fun c_5 H11=>ceT E E E (c_5)<|gv E E<|nx<|c_t E E<|zp H11 (fun (J:Mem→Prop) (z:Unit) S=>J S) (fun z=>⟨359,[(0,.pointer (some ⟨b,o,none⟩)),(1,.int .i64 n),(18,.pointer (some ⟨b_1,0,none⟩))]⟩) (fun z=>[⟨b_1,136,t_2⟩]) (fun _ Sx_4 H12=>zO<|qc (by kernel_rfl)<|a_takeP 0 E (by decide +kernel) (za (zf (za zc))) E (zt E)<|by exact a_takeP 1 E (by decide +kernel) (za (zf (za zc))) E (zt E)<|by exact a_takeP 2 E (by decide +kernel) (za (zf (za zc))) E (zv E E)<|by exact gx H12 fun t_3 ht_3 H13=>qp 3 E (by decide +kernel) (za (zf (za zc))) E (zF E) (qm 0 E ht_3)<|by exact an3 H13 fun c_6 c_7 c_8 H14=>by obtain⟨t_4,et_4,H15⟩:=zkT H14;exact a_takeP 4 E (by decide +kernel) (za (zf (za zc))) E (eqv (zdP (a:=1) (b:=(t_3.n:Int)) E E E c_6 c_7 c_8) (congrArg eL et_4))<|by exact a_takeP 5 E (by decide +kernel) (za (zf (za zc))) E (qt E)<|by exact a_takeP 6 E (by decide +kernel) (za (zf (za zc))) E (zv E E)<|by exact an2 H15 fun c_9 c_10 H16=>a_takeP 7 E (by decide +kernel) (za (zf (za zc))) E (qb E E c_9 c_10 E)<|by exact a_takeP 8 E (by decide +kernel) (za (zf (za zc))) E (zv E E)<|by exact zH 9 (by decide +kernel) E<|by exact an H16 fun c_11 H17=>qY E E E E E c_11 E<|zu<|qf zD<|qi (by decide +kernel)<|by exact zC<|csr<|s_p E (zv E E)<|gx H17 fun t_5 ht_5 H18=>s_v E (zF E) (qm 0 E ht_5)<|by obtain⟨b_2,o_1,n_1,n_2,rfl,H19⟩:=H18;exact an H19 fun c_13 H20=>s_p E (vx E E (by decide) c_13 E)<|gx H20 fun t_6 ht_6 H21=>s_v E (zF E) (qh ht_6)<|s_p E (qJ ⟨_,underlying5⟩ E)<|gv E E<|gv E E<|nx<|zo<|zh<|zb<|zn results66 (zd E (zd E zg)) ⟨_,_,E,H21⟩) (fun Jx_1 hJx_1 H22=>csr<|s_p E (zv E E)<|gx H22 fun t_7 ht_7 H23=>s_v E (zF E) (qm 0 E ht_7)<|s_p E (vX E)<|iteK H23 (fun c_14 H24=>ceT E E E (c_14)<|nx<|c_t E E<|csr<|gv E E<|gv E E<|nx<|zo<|zb<|zh<|zb<|zn results66 (zd E (zd E zg)) ⟨_,_,E,H24⟩) fun c_14 H24=>ceF E E E (c_14)<|nx<|cfs E E<|hJx_1 () _ _ _ _ [0] H24 E ⟨E,E,E,True.intro⟩ E)) fun c_5 H11=>ceF E E E (c_5)<|gv E E<|nx<|c_f E E<|csr<|iteK H11 (fun c_15 H25=>ceT E E E (c_15)<|gv E E<|nx<|c_t E E<|zp H25 (fun (J:Mem→Prop) (z:Unit) S=>J S) (fun z=>⟨359,[(0,.pointer (some ⟨b,o,none⟩)),(16,.int .i64 t),(17,.int .i64 t_1)]⟩) (fun z=>[]) (fun _ Sx_6 H26=>zp H26 (fun (J:Mem→Prop) (z:Unit) S=>J S) (fun z=>⟨359,[(0,.pointer (some ⟨b,o,none⟩)),(16,.int .i64 t),(17,.int .i64 t_1)]⟩) (fun z=>[]) (fun _ Sx_7 H27=>csr<|mv E E<|mv E E<|mv E E<|vv E E H27 fun t_8 Sx_8 H28=>gv E E<|gv E E<|nx<|zo<|zh<|zb<|zn results66 (zd E (zd E zg)) ⟨_,_,E,H28⟩) (fun Jx_2 hJx_2 H29=>csr<|mv E E<|iteK H29 (fun c_16 H30=>s_p E (yT (zQ E E) c_16)<|mv E E<|sk2 E E<|pk E E E<|nx<|c_t E E<|csr<|gv E E<|by exact gv E E<|nx<|zo<|zb<|zh<|zb<|zn results66 (zd E (zd E zg)) ⟨_,_,E,H30⟩) fun c_16 H30=>s_p E (yF (zQ E E) c_16)<|mv E E<|mv E E<|iteK H30 (fun c_17 H31=>s_p E (yT (qT E E) c_17)<|pk E E E<|nx<|c_t E E<|csr<|by exact gv E E<|gv E E<|nx<|zo<|zb<|zh<|zb<|zn results66 (zd E (zd E zg)) ⟨_,_,E,H31⟩) fun c_17 H31=>s_p E (yF (qT E E) c_17)<|pk E E E<|nx<|cfs E E<|hJx_2 () _ _ _ _ [] H31 E ⟨E,E,E,True.intro⟩ E)) (fun Jx_3 hJx_3 H32=>csr<|mv E E<|mv E E<|vv E E H32 fun t_9 Sx_9 H33=>by have H34:=zbG H33;rcases H34 with ⟨rfl,H35⟩ | ⟨rfl,H35⟩;exact (s_p E (yB (qC E) E)<|mv E E<|mv E E<|s_p E (zv E E)<|an2 H35 fun c_18 c_19 H36=>s_p E (qb E E c_18 c_19 E)<|gx H36 fun t_10 ht_10 H37=>by have H38:=zbG H37;rcases H38 with ⟨rfl,H39⟩ | ⟨rfl,H39⟩;exact (s_v E (zF E) (qm 0 E ht_10)<|s_p E (yB (qC E) E)<|pk E E E<|nx<|cfs E E<|hJx_3 () _ _ _ _ [] H39 E ⟨E,E,E,True.intro⟩ E);exact (s_v E (zF E) (qm 0 E ht_10)<|s_p E (yB (qC E) E)<|pk E E E<|nx<|c_t E E<|csr<|gv E E<|gv E E<|nx<|zo<|zb<|zh<|zb<|zn results66 (zd E (zd E zg)) ⟨_,_,E,H39⟩));exact (s_p E (yB (qC E) E)<|mv E E<|sk4 E E E E<|zG E<|pk E E E<|nx<|c_t E E<|csr<|gv E E<|gv E E<|nx<|zo<|zb<|zh<|zb<|zn results66 (zd E (zd E zg)) ⟨_,_,E,H35⟩))) fun c_15 H25=>ceF E E E (c_15)<|gv E E<|nx<|c_f E E<|csr<|iteK H25 (fun c_20 H40=>ceT E E E (c_20)<|gv E E<|nx<|c_t E E<|csr<|mv E E<|mv E E<|mv E E<|s_p E (qt E)<|s_p E (zv E E)<|an2 H40 fun c_21 c_22 H41=>s_p E (qb E E c_21 c_22 E)<|s_p E (zv E E)<|an2 H41 fun c_23 c_24 H42=>by exact s_p E (qb E E c_23 c_24 E)<|an H42 fun c_25 H43=>qY E E E E E c_25 E<|nxr<|mv E E<|mv E E<|mv E E<|mv E E<|s_p E (qt E)<|s_p E (zv E E)<|an2 H43 fun c_26 c_27 H44=>s_p E (qb E E c_26 c_27 E)<|s_p E (zv E E)<|an2 H44 fun c_28 c_29 H45=>s_p E (qb E E c_28 c_29 E)<|an H45 fun c_30 H46=>qY E E E E E c_30 E<|nxr<|gv E E<|gv E E<|nx<|zo<|zh<|zb<|zn results66 (zd E (zd E zg)) ⟨_,_,E,H46⟩) fun c_20 H40=>ceF E E E (c_20)<|gv E E<|nx<|c_f E E<|csr<|iteK H40 (fun c_31 H47=>ceT E E E (c_31)<|gv E E<|nx<|c_t E E<|zp H47 (fun (J:Mem→Prop) (z:Unit) S=>J S) (fun z=>⟨359,[(0,.pointer (some ⟨b,o,none⟩)),(1,.int .i64 n),(6,.int .u64 w3_0),(16,.int .i64 t),(17,.int .i64 t_1)]⟩) (fun z=>[]) (fun _ Sx_12 H48=>zp H48 (fun (J:Mem→Prop) (z:Unit) S=>J S) (fun z=>⟨359,[(0,.pointer (some ⟨b,o,none⟩)),(1,.int .i64 n),(6,.int .u64 w3_0),(16,.int .i64 t),(17,.int .i64 t_1)]⟩) (fun z=>[]) (fun _ Sx_13 H49=>by exact zp H49 (fun (J:Mem→Prop) (z:Unit) S=>J S) (fun z=>⟨359,[(0,.pointer (some ⟨b,o,none⟩)),(1,.int .i64 n),(6,.int .u64 w3_0),(16,.int .i64 t),(17,.int .i64 t_1)]⟩) (fun z=>[]) (fun _ Sx_14 H50=>zp H50 (fun (J:Mem→Prop) (z:Unit) S=>J S) (fun z=>⟨359,[]⟩) (fun z=>[]) (fun _ Sx_15 H51=>csr<|gv E E<|gv E E<|nx<|zo<|zh<|zb<|zn results66 (zd E (zd E zg)) ⟨_,_,E,H51⟩) (fun Jx_4 hJx_4 H52=>csr<|gv E E<|nx<|zE<|xM (fun z=>⟨359,[(0,.pointer (some ⟨b,o,none⟩)),(1,.int .i64 n),(6,.int .u64 w3_0),(16,.int .i64 t),(17,.int .i64 t_1),(20,.int .i64 z)]⟩) (fun z=>[]) 0 (idx:=[]) H52 E ⟨E,E,E,E,E,E,True.intro⟩ E<|fun Xx hXx i Sx_16 H53=>zp H53 (fun (J:Mem→Prop) (z:Unit) S=>J S) (fun z=>⟨359,[(0,.pointer (some ⟨b,o,none⟩)),(1,.int .i64 n),(6,.int .u64 w3_0),(16,.int .i64 t),(17,.int .i64 t_1),(20,.int .i64 i)]⟩) (fun z=>[]) (fun _ Sx_17 H54=>zO<|zE<|csr<|mv E E<|mv E E<|s_p E (qt E)<|s_p E (zv E E)<|an2 H54 fun c_32 c_33 H55=>s_p E (qb E E c_32 c_33 E)<|s_p E (zv E E)<|gx H55 fun t_11 ht_11 H56=>by have H57:=zbG H56;rcases H57 with ⟨rfl,H58⟩ | ⟨rfl,H58⟩;exact (s_v E (zF E) (qh ht_11)<|s_p E (yB (qC E) E)<|nx<|cfs E E<|zX<|zC<|zw<|mv E E<|s_p E (qy E E)<|gv E E<|zu<|hXx (IntKind.i64.wrap (i+1)) _ _ _ _ [] H58 E ⟨E,E,E,E,E,E,True.intro⟩ E);exact (s_v E (zF E) (qh ht_11)<|s_p E (yB (qC E) E)<|nx<|c_t E E<|csr<|mv E E<|mv E E<|mv E E<|mv E E<|mv E E<|mv E E<|s_p E (qw E E)<|s_p E (qj E E)<|by exact s_p E (qt E)<|s_p E (zv E E)<|an2 H58 fun c_34 c_35 H59=>s_p E (qb E E c_34 c_35 E)<|an H59 fun c_36 H60=>qY E E E E E c_36 E<|nxr<|mv E E<|s_p E (qJ ⟨_,underlying3⟩ E)<|gv E E<|gv E E<|nx<|zo<|zh<|zb<|zb<|zh<|zb<|zh<|zb<|zn results66 (zd E (zd E zg)) ⟨_,_,E,H60⟩)) (fun Jx_5 hJx_5 H61=>csr<|mv E E<|iteK H61 (fun c_37 H62=>s_p E (yT (zQ E E) c_37)<|nx<|c_t E E<|yu<|hJx_5 () _ _ _ _ [] H62 E ⟨E,E,E,E,E,E,True.intro⟩ E) fun c_37 H62=>s_p E (yF (zQ E E) c_37)<|nx<|c_f E E<|yg<|zm<|zm<|zU<|hJx_4 () _ _ _ _ [] H62 E True.intro E))) (fun Jx_6 hJx_6 H63=>csr<|mv E E<|mv E E<|iteK H63 (fun c_38 H64=>ceT E E E (c_38)<|nx<|c_t E E<|csr<|gv E E<|gv E E<|nx<|zo<|zb<|zh<|zb<|zn results66 (zd E (zd E zg)) ⟨_,_,E,H64⟩) fun c_38 H64=>ceF E E E (c_38)<|nx<|cfs E E<|hJx_6 () _ _ _ _ [] H64 E ⟨E,E,E,E,E,True.intro⟩ E)) (fun Jx_7 hJx_7 H65=>by exact csr<|mv E E<|mv E E<|vv E E H65 fun t_12 Sx_19 H66=>by have H67:=zbG H66;rcases H67 with ⟨rfl,H68⟩ | ⟨rfl,H68⟩;exact (s_p E (yB (qC E) E)<|nx<|cfs E E<|hJx_7 () _ _ _ _ [] H68 E ⟨E,E,E,E,E,True.intro⟩ E);exact (s_p E (yB (qC E) E)<|nx<|c_t E E<|csr<|gv E E<|gv E E<|nx<|zo<|zb<|zh<|zb<|zn results66 (zd E (zd E zg)) ⟨_,_,E,H68⟩))) (fun Jx_8 hJx_8 H69=>csr<|by exact mv E E<|mv E E<|mv E E<|vv E E H69 fun t_13 Sx_20 H70=>gv E E<|nxr<|mv E E<|iteK H70 (fun c_39 H71=>s_p E (yT (qw E E) c_39)<|nx<|c_t E E<|csr<|mv E E<|gv E E<|gv E E<|nx<|zo<|zb<|zh<|zb<|zn results66 (zd E (zd E zg)) ⟨_,_,E,H71⟩) fun c_39 H71=>s_p E (yF (qw E E) c_39)<|nx<|cfs E E<|hJx_8 () _ _ _ _ [] H71 E ⟨E,E,E,E,E,True.intro⟩ E)) fun c_31 H47=>ceF E E E (c_31)<|gv E E<|nx<|c_f E E<|zp H47 (fun (J:Bool→Mem→Prop) (z:Bool) S=>J z S) (fun z=>⟨359,[(0,.pointer (some ⟨b,o,none⟩)),(1,.int .i64 n),(2,.int .i64 k),(3,.int .u64 c),(16,.int .i64 t),(17,.int .i64 t_1),(18,.pointer (some ⟨b_1,0,none⟩)),(34,.int .u64 c),(146,.bool z)]⟩) (fun z=>[⟨b_1,136,t_2⟩]) (fun t_14 Sx_21 H72=>by have H73:=zbG H72;rcases H73 with ⟨c_40,H74⟩ | ⟨c_40,H74⟩;exact (c_t E c_40<|csr<|mv E E<|mv E E<|mv E E<|mv E E<|mv E E<|vv E E H74 fun t_15 Sx_22 H75=>gv E E<|gv E E<|nx<|zo<|zh<|zb<|zn results66 (zd E (zd E zg)) ⟨_,_,E,H75⟩);exact (c_f E c_40<|csr<|iteK H74 (fun c_41 H76=>ceT E E E (c_41)<|gv E E<|nx<|c_t E E<|zp H76 (fun (J:Mem→Prop) (z:Unit) S=>J S) (fun z=>⟨359,[(0,.pointer (some ⟨b,o,none⟩)),(1,.int .i64 n),(16,.int .i64 t)]⟩) (fun z=>[]) (fun _ Sx_23 H77=>zp H77 (fun (J:Mem→Prop) (z:Unit) S=>J S) (fun z=>⟨359,[(0,.pointer (some ⟨b,o,none⟩)),(1,.int .i64 n),(16,.int .i64 t)]⟩) (fun z=>[]) (fun _ Sx_24 H78=>csr<|mv E E<|mv E E<|mv E E<|zls E E H78 fun Sx_25 H79=>nxr<|mv E E<|s_p E (qt E)<|s_p E (zv E E)<|gx H79 fun t_16 ht_16 H80=>s_v E (zF E) (qh ht_16)<|s_p E (qy E E)<|s_p E (qt E)<|s_p E (zv E E)<|an H80 fun c_42 H81=>qY E E E E E c_42 E<|nxr<|gv E E<|gv E E<|nx<|zo<|zh<|zb<|zn results66 (zd E (zd E zg)) ⟨_,_,E,H81⟩) (fun Jx_9 hJx_9 H82=>csr<|gv E E<|nx<|zE<|xM (fun z=>⟨359,[(0,.pointer (some ⟨b,o,none⟩)),(1,.int .i64 n),(16,.int .i64 t),(22,.int .i64 z)]⟩) (fun z=>[]) 0 (idx:=[]) H82 E ⟨E,E,E,E,True.intro⟩ E<|fun Xx_1 hXx_1 i_1 Sx_27 H83=>zp H83 (fun (J:Mem→Prop) (z:Unit) S=>J S) (fun z=>⟨359,[(0,.pointer (some ⟨b,o,none⟩)),(1,.int .i64 n),(16,.int .i64 t),(22,.int .i64 i_1)]⟩) (fun z=>[]) (fun _ Sx_28 H84=>zO<|zE<|csr<|mv E E<|mv E E<|s_p E (qt E)<|s_p E (zv E E)<|an2 H84 fun c_43 c_44 H85=>s_p E (qb E E c_43 c_44 E)<|s_p E (zv E E)<|gx H85 fun t_17 ht_17 H86=>by have H87:=zbG H86;rcases H87 with ⟨rfl,H88⟩ | ⟨rfl,H88⟩;exact (s_v E (zF E) (qh ht_17)<|mv E E<|mv E E<|mv E E<|s_p E (qt E)<|s_p E (zv E E)<|an2 H88 fun c_45 c_46 H89=>s_p E (qb E E c_45 c_46 E)<|s_p E (zv E E)<|gx H89 fun t_18 ht_18 H90=>s_v E (zF E) (qh ht_18)<|mv E E<|iteK H90 (fun c_47 H91=>ceT E E E (c_47)<|pk E E E<|mv E E<|mv E E<|mv E E<|s_p E (qt E)<|s_p E (zv E E)<|an2 H91 fun c_48 c_49 H92=>s_p E (qb E E c_48 c_49 E)<|s_p E (zv E E)<|gx H92 fun t_19 ht_19 H93=>s_v E (zF E) (qh ht_19)<|mv E E<|iteK H93 (fun c_50 H94=>ceT E E E (c_50)<|pk E E E<|nx<|c_t E E<|csr<|gv E E<|gv E E<|nx<|zo<|zh<|zb<|zb<|zh<|zb<|zh<|zb<|zn results66 (zd E (zd E zg)) ⟨_,_,E,H94⟩) fun c_50 H94=>ceF E E E (c_50)<|pk E E E<|nx<|cfs E E<|zX<|zC<|zw<|mv E E<|s_p E (qy E E)<|gv E E<|zu<|hXx_1 (IntKind.i64.wrap (i_1+1)) _ _ _ _ [] H94 E ⟨E,E,E,E,True.intro⟩ E) fun c_47 H91=>ceF E E E (c_47)<|pk E E E<|mv E E<|sk8 E E E E E E E E<|zG E<|pk E E E<|nx<|cfs E E<|zX<|zC<|zw<|mv E E<|s_p E (qy E E)<|gv E E<|zu<|hXx_1 (IntKind.i64.wrap (i_1+1)) _ _ _ _ [] H91 E ⟨E,E,E,E,True.intro⟩ E);exact (s_v E (zF E) (qh ht_17)<|mv E E<|sk8 E E E E E E E E<|zG E<|pk E E E<|mv E E<|sk8 E E E E E E E E<|zG E<|pk E E E<|nx<|cfs E E<|zX<|zC<|zw<|mv E E<|s_p E (qy E E)<|gv E E<|zu<|hXx_1 (IntKind.i64.wrap (i_1+1)) _ _ _ _ [] H88 E ⟨E,E,E,E,True.intro⟩ E)) (fun Jx_10 hJx_10 H95=>csr<|mv E E<|iteK H95 (fun c_51 H96=>s_p E (yT (zQ E E) c_51)<|nx<|c_t E E<|yu<|hJx_10 () _ _ _ _ [] H96 E ⟨E,E,E,E,True.intro⟩ E) fun c_51 H96=>s_p E (yF (zQ E E) c_51)<|nx<|c_f E E<|yg<|zm<|zm<|zU<|hJx_9 () _ _ _ _ [] H96 E ⟨E,E,E,True.intro⟩ E))) (fun Jx_11 hJx_11 H97=>csr<|mv E E<|mv E E<|mv E E<|vv E E H97 fun t_20 Sx_29 H98=>gv E E<|nxr<|mv E E<|iteK H98 (fun c_52 H99=>s_p E (yT (qw E E) c_52)<|nx<|c_t E E<|csr<|mv E E<|gv E E<|gv E E<|nx<|zo<|zb<|zh<|zb<|zn results66 (zd E (zd E zg)) ⟨_,_,E,H99⟩) fun c_52 H99=>s_p E (yF (qw E E) c_52)<|nx<|cfs E E<|hJx_11 () _ _ _ _ [] H99 E ⟨E,E,E,True.intro⟩ E)) fun c_41 H76=>ceF E E E (c_41)<|gv E E<|nx<|c_f E E<|csr<|iteK H76 (fun c_53 H100=>ceT E E E (c_53)<|gv E E<|nx<|c_t E E<|zp H100 (fun (J:Mem→Prop) (z:Unit) S=>J S) (fun z=>⟨359,[(0,.pointer (some ⟨b,o,none⟩)),(1,.int .i64 n),(16,.int .i64 t),(18,.pointer (some ⟨b_1,0,none⟩))]⟩) (fun z=>[⟨b_1,136,t_2⟩]) (fun _ Sx_30 H101=>zp H101 (fun (J:Mem→Prop) (z:Unit) S=>J S) (fun z=>⟨359,[(0,.pointer (some ⟨b,o,none⟩)),(1,.int .i64 n),(16,.int .i64 t),(18,.pointer (some ⟨b_1,0,none⟩))]⟩) (fun z=>[⟨b_1,136,t_2⟩]) (fun _ Sx_31 H102=>zp H102 (fun (J:Mem→Prop) (z:Unit) S=>J S) (fun z=>⟨359,[(0,.pointer (some ⟨b,o,none⟩)),(1,.int .i64 n),(16,.int .i64 t),(18,.pointer (some ⟨b_1,0,none⟩))]⟩) (fun z=>[⟨b_1,136,t_2⟩]) (fun _ Sx_32 H103=>zp H103 (fun (J:Mem→Prop) (z:Unit) S=>J S) (fun z=>⟨359,[(0,.pointer (some ⟨b,o,none⟩)),(1,.int .i64 n),(16,.int .i64 t),(18,.pointer (some ⟨b_1,0,none⟩))]⟩) (fun z=>[⟨b_1,136,t_2⟩]) (fun _ Sx_33 H104=>csr<|mv E E<|s_p E (qt E)<|s_p E (zv E E)<|gx H104 fun t_21 ht_21 H105=>s_v E (zF E) (qh ht_21)<|s_p E (zgv E E)<|s_p E (qt E)<|s_p E (zv E E)<|an H105 fun c_54 H106=>qY E E E E E c_54 E<|nx<|zO<|qc (by kernel_rfl)<|a_takeP 0 E (by decide +kernel) (za (zf (za zc))) E (zv E E)<|by exact gx H106 fun t_22 ht_22 H107=>qp 1 E (by decide +kernel) (za (zf (za zc))) E (zF E) (qm 0 E ht_22)<|by exact a_takeP 2 E (by decide +kernel) (za (zf (za zc))) E (zt E)<|by exact by obtain⟨b_3,o_2,rfl,H108⟩:=H107;exact a_takeP 4 E (by decide +kernel) (za (zf (za zc))) E (qt E)<|by exact a_takeP 5 E (by decide +kernel) (za (zf (za zc))) E (zv E E)<|by exact zH 3 (by decide +kernel) E<|by exact zqn E E E (by decide) (by decide) (by decide) (by decide) fun b_4=>zu<|qf (zA (qm 0 E ht_22) zD)<|zqY 1 E fun hb_4=>by exact have H109:=H108 b_4 hb_4;an2 H109 fun c_55 c_56 H110=>a_takeP 6 E (by decide +kernel) (za (zf (za zc))) E (qb E E c_55 c_56 E)<|by exact zH 7 (by decide +kernel) E<|by exact an H110 fun c_57 H111=>qY E E E E E c_57 E<|zu<|qf zD<|qi (by decide +kernel)<|by exact zC<|csr<|s_p E (zv E E)<|gx H111 fun t_23 ht_23 H112=>s_v E (zF E) (qm 0 E ht_23)<|mv E E<|by obtain⟨b_5,o_3,rfl,H113⟩:=H112;exact s_p E (qt E)<|s_p E (zv E E)<|an2 H113 fun c_58 c_59 H114=>s_p E (qb E E c_58 c_59 E)<|an H114 fun c_60 H115=>qY E E E E E c_60 E<|nxr<|mv E E<|mv E E<|mv E E<|s_p E (qt E)<|s_p E (zv E E)<|an2 H115 fun c_61 c_62 H116=>s_p E (qb E E c_61 c_62 E)<|s_p E (zv E E)<|an2 H116 fun c_63 c_64 H117=>s_p E (qb E E c_63 c_64 E)<|an H117 fun c_65 H118=>qY E E E E E c_65 E<|nxr<|gv E E<|gv E E<|nx<|zo<|zh<|zb<|zn results66 (zd E (zd E zg)) ⟨_,_,E,H118⟩) (fun Jx_12 hJx_12 H119=>csr<|mv E E<|s_p E (qt E)<|s_p E (zv E E)<|gx H119 fun t_24 ht_24 H120=>s_v E (zF E) (qh ht_24)<|iteK H120 (fun c_66 H121=>ceT E E E (c_66)<|nx<|c_t E E<|csr<|gv E E<|gv E E<|nx<|zo<|zb<|zh<|zb<|zn results66 (zd E (zd E zg)) ⟨_,_,E,H121⟩) fun c_66 H121=>ceF E E E (c_66)<|nx<|cfs E E<|hJx_12 () _ _ _ _ [0] H121 E ⟨E,E,E,E,True.intro⟩ E)) (fun Jx_13 hJx_13 H122=>zO<|qc (by kernel_rfl)<|a_takeP 0 E (by decide +kernel) (za (za (zf (za zc)))) E (zt E)<|by exact a_takeP 1 E (by decide +kernel) (za (za (zf (za zc)))) E (zt E)<|by exact a_takeP 3 E (by decide +kernel) (za (za (zf (za zc)))) E (zv E E)<|by exact gx H122 fun t_25 ht_25 H123=>qp 4 E (by decide +kernel) (za (za (zf (za zc)))) E (zF E) (qm 0 E ht_25)<|by exact zH 2 (by decide +kernel) E<|by exact vv E E H123 fun t_26 Sx_39 H124=>zu<|qf (zA (qm 0 E ht_25) zD)<|iteK H124 (fun c_67 H125=>a_takeP 5 E (by decide +kernel) (za (za (zf (za zc)))) E (yT (wP E E) c_67)<|by exact qi (by decide +kernel)<|by exact zC<|c_t E E<|csr<|gv E E<|gv E E<|nx<|zo<|zb<|zh<|zb<|zn results66 (zd E (zd E zg)) ⟨_,_,E,H125⟩) fun c_67 H125=>a_takeP 5 E (by decide +kernel) (za (za (zf (za zc)))) E (yF (wP E E) c_67)<|by exact qi (by decide +kernel)<|by exact zC<|cfs E E<|hJx_13 () _ _ _ _ [0] H125 E ⟨E,E,E,E,True.intro⟩ E)) (fun Jx_14 hJx_14 H126=>csr<|s_p E (zv E E)<|gx H126 fun t_27 ht_27 H127=>s_v E (zF E) (qm 0 E ht_27)<|mv E E<|by obtain⟨b_6,o_4,rfl,H128⟩:=H127;exact s_p E (qt E)<|s_p E (zv E E)<|an2 H128 fun c_68 c_69 H129=>s_p E (qb E E c_68 c_69 E)<|gx H129 fun t_28 ht_28 H130=>s_v E (zF E) (qh ht_28)<|s_p E (vX E)<|iteK H130 (fun c_70 H131=>s_p E (yT (qT E E) c_70)<|nx<|c_t E E<|csr<|gv E E<|gv E E<|nx<|zo<|zb<|zh<|zb<|zn results66 (zd E (zd E zg)) ⟨_,_,E,H131⟩) fun c_70 H131=>s_p E (yF (qT E E) c_70)<|nx<|cfs E E<|hJx_14 () _ _ _ _ [0] H131 E ⟨E,E,E,E,True.intro⟩ E)) (fun Jx_15 hJx_15 H132=>csr<|mv E E<|iteK H132 (fun c_71 H133=>s_p E (yT (zQ E E) c_71)<|mv E E<|sk2 E E<|pk E E E<|nx<|c_t E E<|csr<|gv E E<|gv E E<|nx<|zo<|zb<|zh<|zb<|zn results66 (zd E (zd E zg)) ⟨_,_,E,H133⟩) fun c_71 H133=>s_p E (yF (zQ E E) c_71)<|mv E E<|mv E E<|iteK H133 (fun c_72 H134=>s_p E (yT (qT E E) c_72)<|pk E E E<|nx<|c_t E E<|csr<|gv E E<|gv E E<|nx<|zo<|zb<|zh<|zb<|zn results66 (zd E (zd E zg)) ⟨_,_,E,H134⟩) fun c_72 H134=>s_p E (yF (qT E E) c_72)<|pk E E E<|nx<|cfs E E<|hJx_15 () _ _ _ _ [0] H134 E ⟨E,E,E,E,True.intro⟩ E)) fun c_53 H100=>ceF E E E (c_53)<|gv E E<|nx<|c_f E E<|zp H100 (fun (J:Bool→Mem→Prop) (z:Bool) S=>J z S) (fun z=>⟨359,[(0,.pointer (some ⟨b,o,none⟩)),(1,.int .i64 n),(2,.int .i64 k),(3,.int .u64 c),(16,.int .i64 t),(17,.int .i64 t_1),(18,.pointer (some ⟨b_1,0,none⟩)),(34,.int .u64 c),(265,.bool z)]⟩) (fun z=>[⟨b_1,136,t_2⟩]) (fun t_29 Sx_40 H135=>by have H136:=zbG H135;rcases H136 with ⟨c_73,H137⟩ | ⟨c_73,H137⟩;exact (c_t E c_73<|zp H137 (fun (J:Mem→Prop) (z:Unit) S=>J S) (fun z=>⟨359,[(3,.int .u64 c),(16,.int .i64 t),(17,.int .i64 t_1),(18,.pointer (some ⟨b_1,0,none⟩))]⟩) (fun z=>[⟨b_1,136,t_2⟩]) (fun _ Sx_41 H138=>zp H138 (fun (J:Mem→Prop) (z:Unit) S=>J S) (fun z=>⟨359,[(3,.int .u64 c),(16,.int .i64 t),(17,.int .i64 t_1),(18,.pointer (some ⟨b_1,0,none⟩))]⟩) (fun z=>[⟨b_1,136,t_2⟩]) (fun _ Sx_42 H139=>zp H139 (fun (J:Mem→Prop) (z:Unit) S=>J S) (fun z=>⟨359,[]⟩) (fun z=>[]) (fun _ Sx_43 H140=>csr<|gv E E<|gv E E<|nx<|zo<|zh<|zb<|zn results66 (zd E (zd E zg)) ⟨_,_,E,H140⟩) (fun Jx_16 hJx_16 H141=>csr<|gv E E<|nx<|zE<|xM (fun z=>⟨359,[(3,.int .u64 c),(16,.int .i64 t),(17,.int .i64 t_1),(18,.pointer (some ⟨b_1,0,none⟩)),(23,.int .i64 z)]⟩) (fun z=>[⟨b_1,136,t_2⟩]) 0 (idx:=[0]) H141 E ⟨E,E,E,E,E,True.intro⟩ E<|fun Xx_2 hXx_2 i_2 Sx_44 H142=>zp H142 (fun (J:Mem→Prop) (z:Unit) S=>J S) (fun z=>⟨359,[(3,.int .u64 c),(16,.int .i64 t),(17,.int .i64 t_1),(18,.pointer (some ⟨b_1,0,none⟩)),(23,.int .i64 i_2)]⟩) (fun z=>[⟨b_1,136,t_2⟩]) (fun _ Sx_45 H143=>zO<|zE<|csr<|mv E E<|iteK H143 (fun c_74 H144=>ceT E E E (c_74)<|nx<|c_t E E<|qc (by kernel_rfl)<|a_takeP 0 E (by decide +kernel) (zf (za (za (zf (za (zf (za zc))))))) E (zv E E)<|by exact gx H144 fun t_30 ht_30 H145=>qp 1 E (by decide +kernel) (zf (za (za (zf (za (zf (za zc))))))) E (zF E) (qm 0 E ht_30)<|by exact a_takeP 2 E (by decide +kernel) (zf (za (za (zf (za (zf (za zc))))))) E (zt E)<|by exact by obtain⟨b_7,o_5,rfl,H146⟩:=H145;exact a_takeP 3 E (by decide +kernel) (zf (za (za (zf (za (zf (za zc))))))) E (qt E)<|by exact a_takeP 4 E (by decide +kernel) (zf (za (za (zf (za (zf (za zc))))))) E (zv E E)<|by exact an2 H146 fun c_75 c_76 H147=>a_takeP 5 E (by decide +kernel) (zf (za (za (zf (za (zf (za zc))))))) E (qb E E c_75 c_76 E)<|by exact gx H147 fun t_31 ht_31 H148=>qp 6 E (by decide +kernel) (zf (za (za (zf (za (zf (za zc))))))) E (zF E) (qh ht_31)<|by exact a_takeP 7 E (by decide +kernel) (zf (za (za (zf (za (zf (za zc))))))) E (zt E)<|by exact a_takeP 8 E (by decide +kernel) (zf (za (za (zf (za (zf (za zc))))))) E (zt E)<|by exact a_takeP 9 E (by decide +kernel) (zf (za (za (zf (za (zf (za zc))))))) E (zv E E)<|by exact an2 H148 fun c_77 c_78 H149=>a_takeP 10 E (by decide +kernel) (zf (za (za (zf (za (zf (za zc))))))) E (qb E E c_77 c_78 E)<|by exact gx H149 fun t_32 ht_32 H150=>qp 11 E (by decide +kernel) (zf (za (za (zf (za (zf (za zc))))))) E (zF E) (qm 0 E ht_32)<|by exact a_takeP 12 E (by decide +kernel) (zf (za (za (zf (za (zf (za zc))))))) E (zt E)<|by exact by obtain⟨b_8,o_6,n_3,n_4,rfl,H151⟩:=H150;exact an2 H151 fun c_79 c_80 H152=>a_takeP 13 E (by decide +kernel) (zf (za (za (zf (za (zf (za zc))))))) E (vx E E c_79 c_80 E)<|by exact gx H152 fun t_33 ht_33 H153=>qp 14 E (by decide +kernel) (zf (za (za (zf (za (zf (za zc))))))) E (zF E) (qh ht_33)<|by exact by obtain⟨b_9,o_7,n_5,n_6,rfl,H154⟩:=H153;exact an2 H154 fun c_81 c_82 H155=>a_takeP 15 E (by decide +kernel) (zf (za (za (zf (za (zf (za zc))))))) E (vx E E c_81 c_82 E)<|by exact zH 16 (by decide +kernel) E<|by exact an H155 fun c_83 H156=>qY E E E E E c_83 E<|zu<|qf zD<|qi (by decide +kernel)<|by exact zX<|zC<|zw<|mv E E<|s_p E (qy E E)<|gv E E<|zu<|hXx_2 (IntKind.i64.wrap (i_2+1)) _ _ _ _ [0] H156 E ⟨E,E,E,E,E,True.intro⟩ E) fun c_74 H144=>ceF E E E (c_74)<|nx<|c_f E E<|qc (by kernel_rfl)<|a_takeP 0 E (by decide +kernel) (zf (za (za (zf (za (zf (za zc))))))) E (zt E)<|by exact a_takeP 1 E (by decide +kernel) (zf (za (za (zf (za (zf (za zc))))))) E (zv E E)<|by exact an2 H144 fun c_84 c_85 H157=>a_takeP 2 E (by decide +kernel) (zf (za (za (zf (za (zf (za zc))))))) E (qb E E c_84 c_85 E)<|by exact gx H157 fun t_34 ht_34 H158=>qp 3 E (by decide +kernel) (zf (za (za (zf (za (zf (za zc))))))) E (zF E) (qm 0 E ht_34)<|by exact a_takeP 4 E (by decide +kernel) (zf (za (za (zf (za (zf (za zc))))))) E (zt E)<|by exact a_takeP 5 E (by decide +kernel) (zf (za (za (zf (za (zf (za zc))))))) E (zv E E)<|by exact gx H158 fun t_35 ht_35 H159=>qp 6 E (by decide +kernel) (zf (za (za (zf (za (zf (za zc))))))) E (zF E) (qm 0 E ht_35)<|by exact a_takeP 7 E (by decide +kernel) (zf (za (za (zf (za (zf (za zc))))))) E (zt E)<|by exact by obtain⟨b_10,o_8,rfl,H160⟩:=H159;exact a_takeP 8 E (by decide +kernel) (zf (za (za (zf (za (zf (za zc))))))) E (qt E)<|by exact a_takeP 9 E (by decide +kernel) (zf (za (za (zf (za (zf (za zc))))))) E (zv E E)<|by exact an2 H160 fun c_86 c_87 H161=>a_takeP 10 E (by decide +kernel) (zf (za (za (zf (za (zf (za zc))))))) E (qb E E c_86 c_87 E)<|by exact gx H161 fun t_36 ht_36 H162=>qp 11 E (by decide +kernel) (zf (za (za (zf (za (zf (za zc))))))) E (zF E) (qh ht_36)<|by exact a_takeP 12 E (by decide +kernel) (zf (za (za (zf (za (zf (za zc))))))) E (zt E)<|by exact by obtain⟨b_11,o_9,n_7,n_8,rfl,H163⟩:=H162;exact an2 H163 fun c_88 c_89 H164=>a_takeP 13 E (by decide +kernel) (zf (za (za (zf (za (zf (za zc))))))) E (vx E E c_88 c_89 E)<|by exact gx H164 fun t_37 ht_37 H165=>qp 14 E (by decide +kernel) (zf (za (za (zf (za (zf (za zc))))))) E (zF E) (qh ht_37)<|by exact by obtain⟨b_12,o_10,n_9,n_10,rfl,H166⟩:=H165;exact an2 H166 fun c_90 c_91 H167=>a_takeP 15 E (by decide +kernel) (zf (za (za (zf (za (zf (za zc))))))) E (vx E E c_90 c_91 E)<|by exact zH 16 (by decide +kernel) E<|by exact an H167 fun c_92 H168=>qY E E E E E c_92 E<|zu<|qf zD<|qi (by decide +kernel)<|by exact zX<|zC<|zw<|mv E E<|s_p E (qy E E)<|gv E E<|zu<|hXx_2 (IntKind.i64.wrap (i_2+1)) _ _ _ _ [0] H168 E ⟨E,E,E,E,E,True.intro⟩ E) (fun Jx_17 hJx_17 H169=>csr<|mv E E<|iteK H169 (fun c_93 H170=>s_p E (yT (zQ E E) c_93)<|nx<|c_t E E<|yu<|hJx_17 () _ _ _ _ [0] H170 E ⟨E,E,E,E,E,True.intro⟩ E) fun c_93 H170=>s_p E (yF (zQ E E) c_93)<|nx<|c_f E E<|yg<|zm<|zm<|zU<|hJx_16 () _ _ _ _ [] H170 E True.intro E))) (fun Jx_18 hJx_18 H171=>csr<|mv E E<|iteK H171 (fun c_94 H172=>s_p E (yT (zQ E E) c_94)<|mv E E<|sk2 E E<|pk E E E<|mv E E<|sk8 E E E E E E E E<|zG E<|pk E E E<|mv E E<|sk8 E E E E E E E E<|sk4 E E E E<|pk E E E<|nx<|c_t E E<|csr<|gv E E<|gv E E<|nx<|zo<|zb<|zh<|zb<|zn results66 (zd E (zd E zg)) ⟨_,_,E,H172⟩) fun c_94 H172=>s_p E (yF (zQ E E) c_94)<|mv E E<|mv E E<|iteK H172 (fun c_95 H173=>s_p E (yT (qT E E) c_95)<|pk E E E<|mv E E<|sk8 E E E E E E E E<|zG E<|pk E E E<|mv E E<|sk8 E E E E E E E E<|sk4 E E E E<|pk E E E<|nx<|c_t E E<|csr<|gv E E<|gv E E<|nx<|zo<|zb<|zh<|zb<|zn results66 (zd E (zd E zg)) ⟨_,_,E,H173⟩) fun c_95 H173=>s_p E (yF (qT E E) c_95)<|pk E E E<|mv E E<|s_p E (zv E E)<|gx H173 fun t_38 ht_38 H174=>s_v E (zF E) (qm 0 E ht_38)<|mv E E<|by obtain⟨b_13,o_11,rfl,H175⟩:=H174;exact s_p E (qt E)<|s_p E (zv E E)<|an2 H175 fun c_96 c_97 H176=>s_p E (qb E E c_96 c_97 E)<|gx H176 fun t_39 ht_39 H177=>s_v E (zF E) (qh ht_39)<|s_p E (vX E)<|iteK H177 (fun c_98 H178=>ceT E E E (c_98)<|pk E E E<|mv E E<|sk8 E E E E E E E E<|sk4 E E E E<|pk E E E<|nx<|c_t E E<|csr<|gv E E<|gv E E<|nx<|zo<|zb<|zh<|zb<|zn results66 (zd E (zd E zg)) ⟨_,_,E,H178⟩) fun c_98 H178=>ceF E E E (c_98)<|pk E E E<|mv E E<|mv E E<|iteK H178 (fun c_99 H179=>ceT E E E (c_99)<|mv E E<|s_p E (zv E E)<|gx H179 fun t_40 ht_40 H180=>s_v E (zF E) (qm 0 E ht_40)<|mv E E<|by obtain⟨b_14,o_12,rfl,H181⟩:=H180;exact s_p E (qt E)<|s_p E (zv E E)<|an2 H181 fun c_100 c_101 H182=>s_p E (qb E E c_100 c_101 E)<|gx H182 fun t_41 ht_41 H183=>by have H184:=zbG H183;rcases H184 with ⟨rfl,H185⟩ | ⟨rfl,H185⟩;exact (s_v E (zF E) (qh ht_41)<|s_p E (yB (qC E) E)<|pk E E E<|pk E E E<|nx<|cfs E E<|hJx_18 () _ _ _ _ [0] H185 E ⟨E,E,E,E,True.intro⟩ E);exact (s_v E (zF E) (qh ht_41)<|s_p E (yB (qC E) E)<|pk E E E<|pk E E E<|nx<|c_t E E<|csr<|gv E E<|gv E E<|nx<|zo<|zb<|zh<|zb<|zn results66 (zd E (zd E zg)) ⟨_,_,E,H185⟩)) fun c_99 H179=>ceF E E E (c_99)<|mv E E<|sk8 E E E E E E E E<|pk E E E<|pk E E E<|nx<|cfs E E<|hJx_18 () _ _ _ _ [0] H179 E ⟨E,E,E,E,True.intro⟩ E)) (fun Jx_19 hJx_19 H186=>csr<|mv E E<|iteK H186 (fun c_102 H187=>s_p E (yT (zQ E E) c_102)<|mv E E<|sk2 E E<|pk E E E<|nx<|c_t E E<|csr<|gv E E<|gv E E<|nx<|zo<|zb<|zh<|zb<|zn results66 (zd E (zd E zg)) ⟨_,_,E,H187⟩) fun c_102 H187=>s_p E (yF (zQ E E) c_102)<|mv E E<|mv E E<|iteK H187 (fun c_103 H188=>s_p E (yT (qT E E) c_103)<|pk E E E<|nx<|c_t E E<|csr<|gv E E<|gv E E<|nx<|zo<|zb<|zh<|zb<|zn results66 (zd E (zd E zg)) ⟨_,_,E,H188⟩) fun c_103 H188=>s_p E (yF (qT E E) c_103)<|pk E E E<|nx<|cfs E E<|hJx_19 () _ _ _ _ [0] H188 E ⟨E,E,E,E,True.intro⟩ E));exact (c_f E c_73<|csr<|iteK H137 (fun c_104 H189=>ceT E E E (c_104)<|gv E E<|nx<|c_t E E<|csr<|mv E E<|s_p E (qJ ⟨_,underlying3⟩ E)<|gv E E<|gv E E<|nx<|zo<|zh<|zb<|zn results66 (zd E (zd E zg)) ⟨_,_,E,H189⟩) fun c_104 H189=>ceF E E E (c_104)<|gv E E<|nx<|c_f E E<|csr<|iteK H189 (fun c_105 H190=>ceT E E E (c_105)<|gv E E<|nx<|c_t E E<|csr<|mv E E<|mv E E<|s_p E (qt E)<|s_p E (zv E E)<|an2 H190 fun c_106 c_107 H191=>s_p E (qb E E c_106 c_107 E)<|s_p E (zv E E)<|gx H191 fun t_42 ht_42 H192=>s_v E (zF E) (qh ht_42)<|mv E E<|by obtain⟨b_15,o_13,n_11,n_12,rfl,H193⟩:=H192;exact an2 H193 fun c_108 c_109 H194=>s_p E (vx E E c_108 c_109 E)<|s_p E (zv E E)<|an H194 fun c_110 H195=>qY E E E E E c_110 E<|nxr<|gv E E<|gv E E<|nx<|zo<|zh<|zb<|zn results66 (zd E (zd E zg)) ⟨_,_,E,H195⟩) fun c_105 H190=>ceF E E E (c_105)<|gv E E<|nx<|cfs E E<|zX<|hJx () _ _ _ _ [] H190 E True.intro E)) (fun Jx_20 hJx_20 H196=>csr<|iteK H196 (fun c_111 H197=>ceT E E E (c_111)<|gv E E<|nx<|c_t E E<|yu<|hJx_20 true _ _ _ _ [0] H197 E ⟨E,E,E,E,E,E,E,E,E,True.intro⟩ E) fun c_111 H197=>ceF E E E (c_111)<|gv E E<|nx<|cfr E E<|iteK H197 (fun c_112 H198=>ceT E E E (c_112)<|gv E E<|zu<|hJx_20 true _ _ _ _ [0] H198 E ⟨E,E,E,E,E,E,E,E,E,True.intro⟩ E) fun c_112 H198=>ceF E E E (c_112)<|gv E E<|zu<|hJx_20 false _ _ _ _ [0] H198 E ⟨E,E,E,E,E,E,E,E,E,True.intro⟩ E))) (fun Jx_21 hJx_21 H199=>csr<|by exact iteK H199 (fun c_113 H200=>ceT E E E (c_113)<|gv E E<|nx<|c_t E E<|yu<|hJx_21 true _ _ _ _ [0] H200 E ⟨E,E,E,E,E,E,E,E,E,True.intro⟩ E) fun c_113 H200=>ceF E E E (c_113)<|gv E E<|nx<|c_f E E<|csr<|iteK H200 (fun c_114 H201=>ceT E E E (c_114)<|gv E E<|nx<|c_t E E<|yu<|hJx_21 true _ _ _ _ [0] H201 E ⟨E,E,E,E,E,E,E,E,E,True.intro⟩ E) fun c_114 H201=>ceF E E E (c_114)<|gv E E<|nx<|cfr E E<|iteK H201 (fun c_115 H202=>ceT E E E (c_115)<|gv E E<|zu<|hJx_21 true _ _ _ _ [0] H202 E ⟨E,E,E,E,E,E,E,E,E,True.intro⟩ E) fun c_115 H202=>ceF E E E (c_115)<|gv E E<|zu<|hJx_21 false _ _ _ _ [0] H202 E ⟨E,E,E,E,E,E,E,E,E,True.intro⟩ E))
def yP (S:Mem) (x:Pt) (n:Int) (Q:Int→Mem→Prop):Prop:=
 jn (fun (k:Int) (Sx:Mem)=>
 Q k Sx) fun Jx=>
 lp (fun Xx (z:Int×Int) (Sx_1:Mem)=>
 match z with
 | (k_1,i)=>
 jn (fun (Sx_2:Mem)=>
 nn x fun b o=>
 0≤n∧n<6 ∧
 0≤i∧i<32 ∧
 gB (Sx_2.cell b (o+2+n.toNat*54+16+i.toNat*1)) fun t=>
 if t=true then
 Xx (IntKind.i64.wrap (k_1+1),IntKind.i64.wrap (i+1)) Sx_2
 else
 Xx (k_1,IntKind.i64.wrap (i+1)) Sx_2) fun Jx_1=>
 if i<32 then
 Jx_1 Sx_1
 else
 Jx k_1 Sx_1) (0,0) S
theorem gR {S:Mem} {x:Pt} {n:Int} {Q:Int→Mem→Prop} (H:yP S x n Q):ye S x n Q:=by
 unfold yP at H
 have:=dj0 (α:=Int×Unit) 8 [] (fun z=>[(5,.int .i64 z.1)])
 have:=dj0 (α:=Int×Int) 4 [0,1] (fun z=>[(5,.int .i64 z.1),(6,.int .i64 z.2)])
 have:=dj1 6 [0,1,5,6]
 exact Tr.intro func83 E ntmps83 E fun w0=>go results83 H
def xj (S:Mem) (x:Pt) (n:Int) (page:Int) (Q:Mem→Prop):Prop:=
 nn x fun b o=>
 0≤n∧n<6 ∧
 gP (S.cell b (o+2+n.toNat*54+15)) fun t=>
 nn t fun b_1 o_1=>
 0≤page∧page<32 ∧
 pt S b_1 (o_1+page.toNat*1) 1 ([.slice (none) 0 0]) fun Sx=>
 0≤n∧n<6 ∧
 gP (Sx.cell b (o+2+n.toNat*54+15)) fun t_1=>
 nn t_1 fun b_2 o_2=>
 0≤page∧page<32 ∧
 pt Sx b_2 (o_2+32+page.toNat*1) 1 ([.bool false]) fun Sx_1=>
 0≤n∧n<6 ∧
 0≤page∧page<32 ∧
 pt Sx_1 b (o+2+n.toNat*54+16+page.toNat*1) 1 ([.bool false]) fun Sx_2=>
 Q Sx_2
theorem fS {S:Mem} {x:Pt} {n:Int} {page:Int} {Q:Mem→Prop} (H:xj S x n page Q):yl S x n page Q:=by
 unfold xj at H
 exact Tr.intro func92 E ntmps92 E fun w0=>go results92 H
def yM (S:Mem) (w:Int) (Q:Int→Mem→Prop):Prop:=
 if 65535<w then
 Q (-1) S
 else
 Q (IntKind.i64.wrap w) S
theorem gN {S:Mem} {w:Int} {Q:Int→Mem→Prop} (H:yM S w Q):yc S w Q:=by
 unfold yM at H
 exact Tr.intro func131 E ntmps131 E fun w0=>go results131 H
def xi (S:Mem) (x:Pt) (n:Int) (page:Int) (Q:Int→Mem→Prop):Prop:=
 jn (fun (Sx:Mem)=>
 nn x fun b o=>
 0≤n∧n<6 ∧
 0≤page∧page<32 ∧
 gB (Sx.cell b (o+2+n.toNat*54+16+page.toNat*1)) fun t=>
 if t=true then
 Q 0 Sx
 else
 Q 7 Sx) fun Jx=>
 if page<0 then
 Q 11 S
 else
 if 31<page then
 Q 11 S
 else
 nn x fun b_1 o_1=>
 0≤n∧n<6 ∧
 gP (S.cell b_1 (o_1+2+n.toNat*54+15)) fun t_1=>
 nn t_1 fun b_2 o_2=>
 0≤page∧page<32 ∧
 gL (S.cell b_2 (o_2+page.toNat*1)) fun t_2=>
 if (t_2.n:Int)=0 then
 Q 11 S
 else
 Jx S
theorem fR {S:Mem} {x:Pt} {n:Int} {page:Int} {Q:Int→Mem→Prop} (H:xi S x n page Q):yk S x n page Q:=by
 unfold xi at H
 have:=dj1 4 [0,1,2]
 exact Tr.intro func132 E ntmps132 E fun w0=>go results132 H
def yO (S:Mem) (x:Pt) (n:Int) (c:Int) (i:Int) (page:Int) (Q:Int→Mem→Prop):Prop:=
 jn (fun (Sx:Mem)=>
 nn x fun b o=>
 0≤i∧i<16 ∧
 gA (Sx.part b (o+326+i.toNat*6) 6) fun t=>
 t.all (·.oneCell')=true ∧
 jn (fun (Sx_1:Mem)=>
 jn (fun (Sx_2:Mem)=>
 jn (fun (Sx_3:Mem)=>
 jn (fun (Sx_4:Mem)=>
 jn (fun (Sx_5:Mem)=>
 jn (fun (Sx_6:Mem)=>
 0≤i∧i<16 ∧
 pt Sx_6 b (o+326+i.toNat*6+5) 1 ([.int .i64 page]) fun Sx_7=>
 0≤n∧n<6 ∧
 gP (Sx_7.cell b (o+2+n.toNat*54+15)) fun t_1=>
 gI (nthL t 1) .i64 fun t_2=>
 0≤t_2∧t_2<6 ∧
 gP (Sx_7.cell b (o+2+t_2.toNat*54+15)) fun t_3=>
 gI (nthL t 2) .i64 fun t_4=>
 nn t_3 fun b_2 o_1=>
 0≤t_4∧t_4<32 ∧
 gL (Sx_7.cell b_2 (o_1+t_4.toNat*1)) fun t_5=>
 nn t_1 fun b_3 o_2=>
 0≤page∧page<32 ∧
 pt Sx_7 b_3 (o_2+page.toNat*1) 1 ([eL t_5]) fun Sx_8=>
 0≤n∧n<6 ∧
 gP (Sx_8.cell b (o+2+n.toNat*54+15)) fun t_6=>
 gB (nthL t 4) fun t_7=>
 nn t_6 fun b_4 o_3=>
 0≤page∧page<32 ∧
 pt Sx_8 b_4 (o_3+32+page.toNat*1) 1 ([.bool t_7]) fun Sx_9=>
 Q 0 Sx_9) fun Jx=>
 0≤n∧n<6 ∧
 gP (Sx_5.cell b (o+2+n.toNat*54+15)) fun t_8=>
 nn t_8 fun b_5 o_4=>
 0≤page∧page<32 ∧
 gL (Sx_5.cell b_5 (o_4+page.toNat*1)) fun t_9=>
 if 0<(t_9.n:Int) then
 Q 8 Sx_5
 else
 Jx Sx_5) fun Jx_1=>
 if page<0 then
 Q 1 Sx_4
 else
 if 31<page then
 Q 1 Sx_4
 else
 Jx_1 Sx_4) fun Jx_2=>
 if c=7 then
 0≤i∧i<16 ∧
 pt Sx_3 b (o+326+i.toNat*6) 6 ([.bool false,.int .i64 0,.int .i64 0,.int .i64 0,.bool false,.int .i64 0]) fun Sx_10=>
 Q 0 Sx_10
 else
 Jx_2 Sx_3) fun Jx_3=>
 gI (nthL t 5) .i64 fun t_10=>
 if 0≤t_10 then
 Q 8 Sx_2
 else
 Jx_3 Sx_2) fun Jx_4=>
 if c=6 then
 jn (fun (Sx_11:Mem)=>
 gI (nthL t 5) .i64 fun t_11=>
 yl Sx_11 (some (b,o)) n t_11 fun Sx_12=>
 0≤i∧i<16 ∧
 pt Sx_12 b (o+326+i.toNat*6+5) 1 ([.int .i64 (-1)]) fun Sx_13=>
 Q 0 Sx_13) fun Jx_5=>
 gI (nthL t 5) .i64 fun t_12=>
 if t_12<0 then
 Q 10 Sx_1
 else
 Jx_5 Sx_1
 else
 Jx_4 Sx_1) fun Jx_6=>
 if c<7 then
 gI (nthL t 3) .i64 fun t_13=>
 if t_13≠n then
 Q 7 Sx
 else
 if c=7 then
 gI (nthL t 1) .i64 fun t_14=>
 if t_14≠n then
 Q 7 Sx
 else
 Jx_6 Sx
 else
 Jx_6 Sx
 else
 if c=7 then
 gI (nthL t 1) .i64 fun t_15=>
 if t_15≠n then
 Q 7 Sx
 else
 Jx_6 Sx
 else
 Jx_6 Sx) fun Jx_7=>
 if i<0 then
 Q 2 S
 else
 if 15<i then
 Q 2 S
 else
 nn x fun b_6 o_5=>
 0≤i∧i<16 ∧
 gB (S.cell b_6 (o_5+326+i.toNat*6)) fun t_16=>
 if t_16=true then
 Jx_7 S
 else
 Q 2 S
theorem gQ {S:Mem} {x:Pt} {n:Int} {c:Int} {i:Int} {page:Int} {Q:Int→Mem→Prop} (H:yO S x n c i page Q):xG S x n c i page Q:=by
 unfold yO at H
 have:=dj (α:=Unit) 22 [0,1,3,4,11] (fun _=>[]) (fun _=>[(0,none)])
 have:=dj (α:=Unit) 20 [0,1,3,4,11] (fun _=>[]) (fun _=>[(0,none)])
 have:=dj (α:=Unit) 18 [0,1,3,4,11] (fun _=>[]) (fun _=>[(0,none)])
 have:=dj (α:=Unit) 15 [0,1,2,3,4,11] (fun _=>[]) (fun _=>[(0,none)])
 have:=dj (α:=Unit) 13 [0,1,2,3,4,11] (fun _=>[]) (fun _=>[(0,none)])
 have:=dj (α:=Unit) 10 [0,1,3,11] (fun _=>[]) (fun _=>[(0,none)])
 have:=dj (α:=Unit) 7 [0,1,2,3,4,11] (fun _=>[]) (fun _=>[(0,none)])
 have:=dj1 4 [0,1,2,3,4]
 exact Tr.intro func133 E ntmps133 E fun w0=>go results133 H
end
end Go.Proofs.YtabdpmnhjlmnlaaGreatDoor
