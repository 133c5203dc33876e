/- Texts of this work,joined by program (pack.py): PsX. -/
import Derived.Test.YtabdpmnhjlmnlaaGreatDoorQLC
set_option linter.unusedVariables false
section
namespace Go.Proofs.YtabdpmnhjlmnlaaGreatDoor
open Go Go.Pt
attribute [local irreducible] Code.wp Back bodyPost wpList FR WL WC WQ WA AW Tr Yc HC AllC
set_option maxRecDepth 20000
set_option maxHeartbeats 4000000
set_option linter.unusedVariables false
def fP (S:Mem) (free:Int) (Q:Pt→Mem→Prop):Prop:=
 al S 129 (spl z129 1 [.int .i64 free]) fun b Sx=>
 Q (some (b,0)) Sx
theorem zez {S:Mem} {free:Int} {Q:Pt→Mem→Prop} (H:fP S free Q):zat S free Q:=by
 unfold fP at H
 exact Tr.intro Tryz.func16 E Tryz.ntmps16 E fun w0=>csr<|gv E E<|nxr<|mv E E<|s_p E (zR E (yL (off:=1) (size:=1) E E (qt (n:=759) zih (by decide)) ki))<|by exact qI E E E fun b=>zaj 0 E fun hb=>have H1:=H b hb;gv E E<|nx<|zi<|zh Tryz.results16 (zc E ze) ⟨_,E,H1⟩
def xQ (S:Mem) (x:Pt) (seats:Int) (quota:Int) (pages:Int) (image:Sl) (Q:Int→Int→Mem→Prop):Prop:=
 zaO S seats quota fun t t_1 Sx=>
 t.all (·.oneCell')=true ∧
 jn (fun (Sx_1:Mem)=>
 jn (fun (n:Int) (Sx_2:Mem)=>
 jn (fun (Sx_3:Mem)=>
 nn x fun b_1 o=>
 gI (Sx_3.cell b_1 (o+1)) .i64 fun t_2=>
 pt Sx_3 b_1 (o+1) 1 ([.int .i64 (IntKind.i64.wrap (t_2-(IntKind.i64.wrap (5+pages))))]) fun Sx_4=>
 gI (Sx_4.cell b_1 o) .u64 fun t_3=>
 0≤n∧n<6 ∧
 (spl (spl z122 0 t) 108 [.int .u64 t_3]).all (·.oneCell')=true ∧
 pt Sx_4 b_1 (o+2+n.toNat*109) 109 (spl (spl z122 0 t) 108 [.int .u64 t_3]) fun Sx_5=>
 0≤n∧n<6 ∧
 pt Sx_5 b_1 (o+753+n.toNat*1) 1 ([.slice (none) 0 0]) fun Sx_6=>
 jn (fun (Sx_7:Mem)=>
 Q n 0 Sx_7) fun Jx=>
 lp (fun Xx (t_4:Int) (Sx_8:Mem)=>
 if t_4<pages then
 al Sx_8 145 z145 fun b_2 Sx_9=>
 jn (fun (Sx_10:Mem)=>
 0≤n∧n<6 ∧
 0≤t_4∧t_4<32 ∧
 pt Sx_10 b_1 (o+2+n.toNat*109+12+t_4.toNat*3) 3 ([.pointer (some ⟨b_2,0,none⟩),.bool true,.bool true]) fun Sx_11=>
 Xx (IntKind.i64.wrap (t_4+1)) Sx_11) fun Jx_1=>
 if IntKind.i64.wrap (256*t_4)<(image.n:Int) then
 (0:Int)≤IntKind.i64.wrap (256*t_4)∧(IntKind.i64.wrap (256*t_4):Int)≤(image.n:Int)∧(image.n:Int)≤(image.c:Int) ∧
 lt (slc 1 image (IntKind.i64.wrap (256*t_4)) (image.n:Int)) fun t_5=>
 cpy Sx_9 1 ⟨some (b_2,0),256,256⟩ t_5 fun t_6 Sx_12=>
 Jx_1 Sx_12
 else
 Jx_1 Sx_9
 else
 Jx Sx_8) 0 Sx_6) fun Jx_2=>
 if n=6 then
 Q 0 2 Sx_2
 else
 nn x fun b_3 o_1=>
 gI (Sx_2.cell b_3 (o_1+1)) .i64 fun t_7=>
 if t_7<IntKind.i64.wrap (5+pages) then
 Q 0 3 Sx_2
 else
 Jx_2 Sx_2) fun Jx_3=>
 lp (fun Xx_1 (n_1:Int) (Sx_13:Mem)=>
 if n_1<6 then
 nn x fun b_4 o_2=>
 0≤n_1∧n_1<6 ∧
 gB (Sx_13.cell b_4 (o_2+2+n_1.toNat*109)) fun t_8=>
 if t_8=true then
 Xx_1 (IntKind.i64.wrap (n_1+1)) Sx_13
 else
 Jx_3 n_1 Sx_13
 else
 Jx_3 n_1 Sx_13) 0 Sx_1) fun Jx_4=>
 if x=none then
 Q 0 2 Sx
 else
 if t_1≠0 then
 Q 0 t_1 Sx
 else
 if pages<1 then
 Q 0 1 Sx
 else
 if quota<pages then
 Q 0 1 Sx
 else
 if IntKind.i64.wrap (256*pages)<(image.n:Int) then
 Q 0 6 Sx
 else
 Jx_4 Sx
theorem gN {S:Mem} {x:Pt} {seats:Int} {quota:Int} {pages:Int} {image:Sl} {Q:Int→Int→Mem→Prop} (H:xQ S x seats quota pages image Q):xd S x seats quota pages image Q:=by
 unfold xQ at H
 exact Tr.intro Tryz.func18 E Tryz.ntmps18 E fun w0=>csr<|gv E E<|gv E E<|nxr<|mv E E<|mv E E<|qr E E H fun rv Sx H1=>by obtain⟨t,t_1,rfl,ht,H2⟩:=H1;exact mv E E<|s_p E (zj E E)<|s_p E (zj E E)<|by refine zP E fun b=>?_;exact an H2 fun c H3=>zq 0 E E E E E ht E c<|gv E E<|nx<|zm H3 (fun (J:Mem→Prop) (z:Unit) S=>J S) (fun z=>⟨126,[(0,eP x),(3,.int .i64 pages),(4,eL image),(12,.pointer (some ⟨b,0,none⟩))]⟩) (fun z=>[⟨b,66,t⟩]) (fun _ Sx_1 H4=>csr<|gv E E<|nx<|zm H4 (fun (J:Int→Mem→Prop) (z:Int) S=>J z S) (fun z=>⟨126,[(0,eP x),(3,.int .i64 pages),(4,eL image),(12,.pointer (some ⟨b,0,none⟩)),(14,.int .i64 z)]⟩) (fun z=>[⟨b,66,t⟩]) (fun n Sx_2 H5=>zm H5 (fun (J:Mem→Prop) (z:Unit) S=>J S) (fun z=>⟨126,[(0,eP x),(3,.int .i64 pages),(4,eL image),(12,.pointer (some ⟨b,0,none⟩)),(14,.int .i64 n)]⟩) (fun z=>[⟨b,66,t⟩]) (fun _ Sx_3 H6=>csr<|mv E E<|by obtain⟨b_1,o,rfl,H7⟩:=H6;exact s_p E (zT E)<|s_p E (zp E E)<|gx H7 fun t_2 ht_2 H8=>s_v E (zA E) (qc ht_2)<|mv E E<|s_p E (qd E E)<|s_p E (jw E E)<|s_p E (zT E)<|s_p E (zp E E)<|an H8 fun c_1 H9=>zY E E E E E c_1 E<|nx<|zG<|zI (by kernel_rfl)<|aTP 0 E (by decide +kernel) E (zk E)<|by exact aTP 1 E (by decide +kernel) E (zk E)<|by exact aTP 2 E (by decide +kernel) E (zk E)<|by exact aTP 3 E (by decide +kernel) E (zk E)<|by exact by refine aT 4 E (by decide +kernel) E (zO E ht) (zD (k:=12) 0 E (zg ht)) ?_;exact aTP 5 E (by decide +kernel) E (zk E)<|by exact aTP 6 E (by decide +kernel) E (zT E)<|by exact aTP 7 E (by decide +kernel) E (zp E E)<|by exact gx H9 fun t_3 ht_3 H10=>aT 8 E (by decide +kernel) E (zA E) (qc ht_3)<|by exact aTP 9 E (by decide +kernel) E (zR E (yL (off:=0) (size:=12) E ht (qt (n:=109) zcR (by decide)) (yL (off:=108) (size:=1) E E (qt (n:=109) (zag (m:=12) zcR ht (by decide)) (by decide)) ki)))<|by exact aTP 10 E (by decide +kernel) E (zT E)<|by exact aTP 11 E (by decide +kernel) E (zp E E)<|by exact an2 H10 fun c_2 c_3 H11=>aTP 12 E (by decide +kernel) E (zz E E c_2 c_3 E)<|by exact aTP 14 E (by decide +kernel) E (zT E)<|by exact aTP 15 E (by decide +kernel) E (zp E E)<|by exact zw 13 (by decide +kernel) E<|by exact an H11 fun c_4 H12=>an H12 fun c_5 H13=>zY E E E E (zag (m:=1) (zag (m:=12) zcR ht (by decide)) E (by decide)) c_5 c_4<|zn<|zF zu<|an2 H13 fun c_6 c_7 H14=>aTP 16 E (by decide +kernel) E (zz E E c_6 c_7 E)<|by exact zw 17 (by decide +kernel) E<|by exact an H14 fun c_8 H15=>zY E E E E E c_8 E<|zn<|zF zu<|zJ (by decide +kernel)<|by exact zr<|zm H15 (fun (J:Mem→Prop) (z:Unit) S=>J S) (fun z=>⟨126,[(14,.int .i64 n)]⟩) (fun z=>[]) (fun _ Sx_7 H16=>csr<|mv E E<|gv E E<|gv E E<|nx<|zi<|zh Tryz.results18 (zc E (zc E ze)) ⟨_,_,E,H16⟩) (fun Jx hJx H17=>csr<|mv E E<|mv E E<|nx<|zE<|qS (fun z=>⟨126,[(0,.pointer (some ⟨b_1,o,none⟩)),(4,eL image),(14,.int .i64 n),(95,.int .i64 pages),(96,.int .i64 z)]⟩) (fun z=>[]) 0 (idx:=[]) H17 E ⟨E,E,E,E,E,True.intro⟩ E<|fun Xx hXx t_4 Sx_8 H18=>csr<|iteK H18 (fun c_9 H19=>s_p E (yT (zH E E) c_9)<|nx<|zG<|c_t E E<|qw<|zr<|zG<|zE<|csr<|mv E E<|gv E E<|nxr<|s_p E (zR E ki)<|by exact qI E E E fun b_2=>zaj 0 E fun hb_2=>have H20:=H19 b_2 hb_2;gv E E<|nx<|zm H20 (fun (J:Mem→Prop) (z:Unit) S=>J S) (fun z=>⟨126,[(0,.pointer (some ⟨b_1,o,none⟩)),(4,eL image),(14,.int .i64 n),(15,.int .i64 t_4),(16,.pointer (some ⟨b_2,0,none⟩)),(95,.int .i64 pages),(96,.int .i64 t_4)]⟩) (fun z=>[]) (fun _ Sx_10 H21=>zx<|mv E E<|mv E E<|mv E E<|mv E E<|s_p E (zR E E)<|by exact s_p E (zT E)<|s_p E (zp E E)<|an2 H21 fun c_10 c_11 H22=>s_p E (zz E E c_10 c_11 E)<|s_p E (zp E E)<|an2 H22 fun c_12 c_13 H23=>s_p E (zz E E c_12 c_13 E)<|an H23 fun c_14 H24=>zY E E E E E c_14 E<|zn<|zS<|zr<|zx<|s_p E (qd E E)<|mv E E<|zn<|hXx (IntKind.i64.wrap (t_4+1)) _ _ _ _ [] H24 E ⟨E,E,E,E,E,True.intro⟩ E) (fun Jx_1 hJx_1 H25=>csr<|mv E E<|s_p E (xg E E)<|gv E E<|nxr<|mv E E<|mv E E<|s_p E (wP E)<|iteK H25 (fun c_15 H26=>s_p E (yT (zH E E) c_15)<|nx<|c_t E E<|zI (by kernel_rfl)<|a_takeP 0 E (by decide +kernel) (za (zf (za (za (zf (za zd)))))) E (zk E)<|by exact a_takeP 1 E (by decide +kernel) (za (zf (za (za (zf (za zd)))))) E (zT E)<|by exact a_takeP 2 E (by decide +kernel) (za (zf (za (za (zf (za zd)))))) E (ziV E)<|by exact a_takeP 3 E (by decide +kernel) (za (zf (za (za (zf (za zd)))))) E (zk E)<|by exact a_takeP 4 E (by decide +kernel) (za (zf (za (za (zf (za zd)))))) E (zk E)<|by exact an3 H26 fun c_16 c_17 c_18 H27=>by obtain⟨t_5,et_5,H28⟩:=zje H27;exact a_takeP 5 E (by decide +kernel) (za (zf (za (za (zf (za zd)))))) E (eqv (zfK (a:=IntKind.i64.wrap (256*t_4)) (b:=(image.n:Int)) E E E c_16 c_17 c_18) (congrArg eL et_5))<|by exact zw 6 (by decide +kernel) E<|by exact zkD (sd:=⟨some (b_2,0),256,256⟩) (ss:=t_5) E E E H28 fun t_6 Sx_12 H29=>zn<|zF zu<|zJ (by decide +kernel)<|by exact hJx_1 () _ _ _ _ [] H29 E ⟨E,E,E,E,E,E,E,True.intro⟩ E) fun c_15 H26=>s_p E (yF (zH E E) c_15)<|nx<|cfs E E<|hJx_1 () _ _ _ _ [] H26 E ⟨E,E,E,E,E,E,E,True.intro⟩ E)) fun c_9 H19=>s_p E (yF (zH E E) c_9)<|nx<|zG<|c_f E E<|qB<|zo<|zo<|zV<|hJx () _ _ _ _ [] H19 E ⟨E,True.intro⟩ E)) (fun Jx_2 hJx_2 H30=>zE<|csr<|mv E E<|iteK H30 (fun c_19 H31=>ceT E E E (c_19)<|gv E E<|nx<|c_t E E<|csr<|gv E E<|gv E E<|nx<|zi<|zl<|zb<|zh Tryz.results18 (zc E (zc E ze)) ⟨_,_,E,H31⟩) fun c_19 H31=>ceF E E E (c_19)<|gv E E<|nx<|c_f E E<|csr<|mv E E<|by obtain⟨b_3,o_1,rfl,H32⟩:=H31;exact s_p E (zT E)<|s_p E (zp E E)<|gx H32 fun t_7 ht_7 H33=>s_v E (zA E) (qc ht_7)<|mv E E<|s_p E (qd E E)<|iteK H33 (fun c_20 H34=>s_p E (yT (zH E E) c_20)<|gv E E<|nx<|c_t E E<|csr<|gv E E<|gv E E<|nx<|zi<|zl<|zb<|zh Tryz.results18 (zc E (zc E ze)) ⟨_,_,E,H34⟩) fun c_20 H34=>s_p E (yF (zH E E) c_20)<|gv E E<|nx<|cfs E E<|zS<|hJx_2 () _ _ _ _ [0] H34 E ⟨E,E,E,E,E,True.intro⟩ E)) (fun Jx_3 hJx_3 H35=>zE<|qS (fun z=>⟨126,[(0,eP x),(3,.int .i64 pages),(4,eL image),(12,.pointer (some ⟨b,0,none⟩)),(14,.int .i64 z)]⟩) (fun z=>[⟨b,66,t⟩]) 0 (idx:=[0]) H35 E ⟨E,E,E,E,E,True.intro⟩ E<|fun Xx_1 hXx_1 n_1 Sx_13 H36=>zG<|csr<|mv E E<|iteK H36 (fun c_21 H37=>s_p E (yT (zH E E) c_21)<|mv E E<|mv E E<|mv E E<|by obtain⟨b_4,o_2,rfl,H38⟩:=H37;exact s_p E (zT E)<|s_p E (zp E E)<|an2 H38 fun c_22 c_23 H39=>s_p E (zz E E c_22 c_23 E)<|s_p E (zp E E)<|s_p E (zp E E)<|gx H39 fun t_8 ht_8 H40=>by have H41:=wO H40;rcases H41 with ⟨rfl,H42⟩ | ⟨rfl,H42⟩;exact (s_v E (zA E) (qc ht_8)<|pk E E E<|nx<|c_t E E<|qw<|zr<|zE<|zx<|mv E E<|s_p E (qd E E)<|gv E E<|zn<|zS<|hXx_1 (IntKind.i64.wrap (n_1+1)) _ _ _ _ [0] H42 E ⟨E,E,E,E,E,True.intro⟩ E);exact (s_v E (zA E) (qc ht_8)<|pk E E E<|nx<|c_f E E<|qB<|zo<|zo<|zV<|hJx_3 n_1 _ _ _ _ [0] H42 E ⟨E,E,E,E,E,True.intro⟩ E)) fun c_21 H37=>s_p E (yF (zH E E) c_21)<|mv E E<|sk8 E E E E E E E E<|pk E E E<|nx<|c_f E E<|qB<|zo<|zo<|zV<|hJx_3 n_1 _ _ _ _ [0] H37 E ⟨E,E,E,E,E,True.intro⟩ E)) (fun Jx_4 hJx_4 H43=>zE<|csr<|mv E E<|iteK H43 (fun c_24 H44=>s_p E (yT (xE (p:=x) E E) c_24)<|gv E E<|nx<|c_t E E<|csr<|gv E E<|gv E E<|nx<|zi<|zl<|zb<|zh Tryz.results18 (zc E (zc E ze)) ⟨_,_,E,H44⟩) fun c_24 H44=>s_p E (yF (xE (p:=x) E E) c_24)<|gv E E<|nx<|c_f E E<|csr<|mv E E<|iteK H44 (fun c_25 H45=>s_p E (yT (qm E E) c_25)<|gv E E<|nx<|c_t E E<|csr<|mv E E<|gv E E<|gv E E<|nx<|zi<|zl<|zb<|zh Tryz.results18 (zc E (zc E ze)) ⟨_,_,E,H45⟩) fun c_25 H45=>s_p E (yF (qm E E) c_25)<|gv E E<|nx<|c_f E E<|csr<|mv E E<|iteK H45 (fun c_26 H46=>s_p E (yT (zH E E) c_26)<|mv E E<|sk2 E E<|zK E<|pk E E E<|gv E E<|nx<|c_t E E<|csr<|gv E E<|gv E E<|nx<|zi<|zl<|zb<|zh Tryz.results18 (zc E (zc E ze)) ⟨_,_,E,H46⟩) fun c_26 H46=>s_p E (yF (zH E E) c_26)<|mv E E<|mv E E<|mv E E<|iteK H46 (fun c_27 H47=>s_p E (yT (qu E E) c_27)<|pk E E E<|gv E E<|nx<|c_t E E<|csr<|gv E E<|gv E E<|nx<|zi<|zl<|zb<|zh Tryz.results18 (zc E (zc E ze)) ⟨_,_,E,H47⟩) fun c_27 H47=>s_p E (yF (qu E E) c_27)<|pk E E E<|gv E E<|nx<|c_f E E<|csr<|mv E E<|s_p E (wP E)<|mv E E<|s_p E (xg E E)<|iteK H47 (fun c_28 H48=>s_p E (yT (qu E E) c_28)<|gv E E<|nx<|c_t E E<|zG<|by exact zx<|gv E E<|gv E E<|nx<|zi<|zl<|zb<|zh Tryz.results18 (zc E (zc E ze)) ⟨_,_,E,H48⟩) fun c_28 H48=>s_p E (yF (qu E E) c_28)<|gv E E<|nx<|cfs E E<|zS<|by exact hJx_4 () _ _ _ _ [0] H48 E ⟨E,E,E,E,True.intro⟩ E)
def ve (S:Mem) (x:Pt) (n:Int) (b:Int) (Q:Int→Mem→Prop):Prop:=
 jn (fun (Sx:Mem)=>
 nn x fun b_1 o=>
 0≤n∧n<6 ∧
 gL (Sx.cell b_1 (o+2+n.toNat*109+6)) fun t=>
 ap Sx 5 1 1 [.int .u8 0] t 1 ([.int .u8 b]) fun t_1 Sx_1=>
 0≤n∧n<6 ∧
 pt Sx_1 b_1 (o+2+n.toNat*109+6) 1 ([eL t_1]) fun Sx_2=>
 0≤n∧n<6 ∧
 gL (Sx_2.cell b_1 (o+2+n.toNat*109+1)) fun t_2=>
 sl t_2 fun b_3 o_1 n_1 n_2=>
 (0:Int)<(n_1:Nat) ∧
 gG Sx_2 (some (b_3,o_1)) 6 fun t_3 Sx_3=>
 Q 0 Sx_3) fun Jx=>
 qT S x n fun t_4 Sx_4=>
 if t_4=true then
 nn x fun b_4 o_2=>
 0≤n∧n<6 ∧
 gL (Sx_4.cell b_4 (o_2+2+n.toNat*109+6)) fun t_5=>
 if 64≤(t_5.n:Int) then
 Q 3 Sx_4
 else
 Jx Sx_4
 else
 Q 2 Sx_4
theorem zaI {S:Mem} {x:Pt} {n:Int} {b:Int} {Q:Int→Mem→Prop} (H:ve S x n b Q):vN S x n b Q:=by
 unfold ve at H
 exact Tr.intro Tryz.func20 E Tryz.ntmps20 E fun w0=>csr<|gv E E<|nx<|zm H (fun (J:Mem→Prop) (z:Unit) S=>J S) (fun z=>⟨51,[(0,eP x),(1,.int .i64 n),(2,.int .u8 b)]⟩) (fun z=>[]) (fun _ Sx H1=>zG<|zI (by kernel_rfl)<|aTP 0 E (by decide +kernel) E (zk E)<|by exact aTP 1 E (by decide +kernel) E (zk E)<|by exact aTP 2 E (by decide +kernel) E (zk E)<|by exact aTP 3 E (by decide +kernel) E (zk E)<|by exact by obtain⟨b_1,o,rfl,H2⟩:=H1;exact aTP 4 E (by decide +kernel) E (zT E)<|by exact aTP 5 E (by decide +kernel) E (zp E E)<|by exact an2 H2 fun c c_1 H3=>aTP 6 E (by decide +kernel) E (zz E E c c_1 E)<|by exact aTP 7 E (by decide +kernel) E (zp E E)<|by exact aTP 8 E (by decide +kernel) E (zp E E)<|by exact gx H3 fun t ht H4=>aT 9 E (by decide +kernel) E (zA E) (qc ht)<|by exact aTP 10 E (by decide +kernel) E (zk E)<|by exact aTP 13 E (by decide +kernel) E (zT E)<|by exact aTP 14 E (by decide +kernel) E (zp E E)<|by exact zw 11 (by decide +kernel) E<|by exact zgA E E (by decide) E fun b_2=>zn<|zF (zB (qc ht) zu)<|zw 12 (by decide +kernel) E<|by exact zak (sx:=t) (vs:=[.int .u8 b]) E E E (zif 0 E E) E E (by decide) H4 fun t_1 Sx_1 H5=>zn<|zF zu<|an2 H5 fun c_2 c_3 H6=>aTP 15 E (by decide +kernel) E (zz E E c_2 c_3 E)<|by exact aTP 16 E (by decide +kernel) E (zp E E)<|by exact aTP 17 E (by decide +kernel) E (zp E E)<|by exact zw 18 (by decide +kernel) E<|by exact an H6 fun c_4 H7=>zY E E E E E c_4 E<|zn<|zF zu<|zJ (by decide +kernel)<|by exact zr<|csr<|mv E E<|mv E E<|s_p E (zT E)<|s_p E (zp E E)<|an2 H7 fun c_5 c_6 H8=>s_p E (zz E E c_5 c_6 E)<|s_p E (zp E E)<|s_p E (zp E E)<|gx H8 fun t_2 ht_2 H9=>s_v E (zA E) (qc ht_2)<|by obtain⟨b_3,o_1,n_1,n_2,rfl,H10⟩:=H9;exact an H10 fun c_8 H11=>s_p E (yf E E (by decide) c_8 E)<|qM E E H11 fun t_3 Sx_3 H12=>nxr<|gv E E<|nx<|zi<|zh Tryz.results20 (zc E ze) ⟨_,E,H12⟩) (fun Jx hJx H13=>zE<|csr<|mv E E<|mv E E<|qM E E H13 fun t_4 Sx_4 H14=>by have H15:=wO H14;rcases H15 with ⟨rfl,H16⟩ | ⟨rfl,H16⟩;exact (s_p E (yB (qe E) E)<|gv E E<|nx<|c_f E E<|csr<|mv E E<|mv E E<|by obtain⟨b_4,o_2,rfl,H17⟩:=H16;exact s_p E (zT E)<|s_p E (zp E E)<|an2 H17 fun c_9 c_10 H18=>s_p E (zz E E c_9 c_10 E)<|s_p E (zp E E)<|s_p E (zp E E)<|gx H18 fun t_5 ht_5 H19=>s_v E (zA E) (qc ht_5)<|s_p E (wP E)<|iteK H19 (fun c_11 H20=>s_p E (yT (qq E E) c_11)<|gv E E<|nx<|c_t E E<|csr<|gv E E<|nx<|zi<|zl<|zb<|zh Tryz.results20 (zc E ze) ⟨_,E,H20⟩) fun c_11 H20=>s_p E (yF (qq E E) c_11)<|gv E E<|nx<|cfs E E<|zS<|hJx () _ _ _ _ [] H20 E ⟨E,E,E,True.intro⟩ E);exact (s_p E (yB (qe E) E)<|gv E E<|nx<|c_t E E<|csr<|gv E E<|nx<|zi<|zl<|zb<|zh Tryz.results20 (zc E ze) ⟨_,E,H16⟩))
def vd (S:Mem) (x:Pt) (n:Int) (k:Int) (Q:Int→Mem→Prop):Prop:=
 jn (fun (Sx:Mem)=>
 nn x fun b o=>
 0≤n∧n<6 ∧
 gL (Sx.cell b (o+2+n.toNat*109+1)) fun t=>
 sl t fun b_1 o_1 n_1 n_2=>
 0≤k∧k<((n_1:Nat):Int) ∧
 gI (Sx.cell b_1 (o_1+k.toNat*26+16)) .u64 fun t_1=>
 0≤n∧n<6 ∧
 gI (Sx.cell b o) .u64 fun t_2=>
 0≤n∧n<6 ∧
 gI (Sx.cell b (o+2+n.toNat*109+108)) .u64 fun t_3=>
 zdu Sx (some (b_1,o_1+k.toNat*26)) (.iface 154 (.pointer (some ⟨b,o+2+n.toNat*109,none⟩))) (IntKind.u64.wrap (t_2-t_3)) k fun t_4 Sx_1=>
 Sx_1.cell b (o+2+n.toNat*109+108)=some (.int .u64 t_3) ∧
 Sx_1.cell b o=some (.int .u64 t_2) ∧
 t_4.all (·.oneCell')=true ∧
 jn (fun (Sx_2:Mem)=>
 gA (Sx_2.part b_1 (o_1+k.toNat*26) 26) fun t_5=>
 zbY Sx_2 t_4 k t_1 t_5 fun t_6 Sx_3=>
 yK Sx_3 (some (b,o)) n t_6 fun Sx_4=>
 gI (nthL t_4 0) .u8 fun t_7=>
 if t_7=2 then
 gI (nthL t_4 1) .u64 fun t_8=>
 vp Sx_4 (some (b,o)) n k t_8 fun Sx_5=>
 Q 0 Sx_5
 else
 Q 0 Sx_4) fun Jx=>
 gI (nthL t_4 0) .u8 fun t_9=>
 if t_9=5 then
 Q 10 Sx_1
 else
 Jx Sx_1) fun Jx_1=>
 qT S x n fun t_10 Sx_6=>
 if t_10=true then
 if k<0 then
 Q 2 Sx_6
 else
 nn x fun b_3 o_2=>
 0≤n∧n<6 ∧
 gL (Sx_6.cell b_3 (o_2+2+n.toNat*109+1)) fun t_11=>
 if (t_11.n:Int)≤k then
 Q 2 Sx_6
 else
 Jx_1 Sx_6
 else
 Q 2 Sx_6
theorem zaH {S:Mem} {x:Pt} {n:Int} {k:Int} {Q:Int→Mem→Prop} (H:vd S x n k Q):wy S x n k Q:=by
 unfold vd at H
 exact Tr.intro Tryz.func22 E Tryz.ntmps22 E fun w0=>csr<|gv E E<|nx<|zm H (fun (J:Mem→Prop) (z:Unit) S=>J S) (fun z=>⟨88,[(0,eP x),(1,.int .i64 n),(2,.int .i64 k)]⟩) (fun z=>[]) (fun _ Sx H1=>csr<|mv E E<|mv E E<|by obtain⟨b,o,rfl,H2⟩:=H1;exact s_p E (zT E)<|s_p E (zp E E)<|an2 H2 fun c c_1 H3=>s_p E (zz E E c c_1 E)<|s_p E (zp E E)<|s_p E (zp E E)<|gx H3 fun t ht H4=>s_v E (zA E) (qc ht)<|mv E E<|by obtain⟨b_1,o_1,n_1,n_2,rfl,H5⟩:=H4;exact an2 H5 fun c_2 c_3 H6=>s_p E (yf E E c_2 c_3 E)<|gv E E<|nxr<|mv E E<|s_p E (zT E)<|s_p E (zp E E)<|gx H6 fun t_1 ht_1 H7=>s_v E (zA E) (qc ht_1)<|gv E E<|nx<|zG<|zI (by kernel_rfl)<|aTP 0 E (by decide +kernel) E (zk E)<|by exact aTP 1 E (by decide +kernel) E (zk E)<|by exact aTP 2 E (by decide +kernel) E (zk E)<|by exact aTP 3 E (by decide +kernel) E (zT E)<|by exact aTP 4 E (by decide +kernel) E (zp E E)<|by exact an2 H7 fun c_4 c_5 H8=>aTP 5 E (by decide +kernel) E (zz E E c_4 c_5 E)<|by exact aTP 6 E (by decide +kernel) E (zcS E)<|by exact aTP 7 E (by decide +kernel) E (zk E)<|by exact aTP 8 E (by decide +kernel) E (zT E)<|by exact aTP 9 E (by decide +kernel) E (zp E E)<|by exact gx H8 fun t_2 ht_2 H9=>aT 10 E (by decide +kernel) E (zA E) (qc ht_2)<|by exact aTP 11 E (by decide +kernel) E (zk E)<|by exact aTP 12 E (by decide +kernel) E (zk E)<|by exact aTP 13 E (by decide +kernel) E (zT E)<|by exact aTP 14 E (by decide +kernel) E (zp E E)<|by exact an2 H9 fun c_6 c_7 H10=>aTP 15 E (by decide +kernel) E (zz E E c_6 c_7 E)<|by exact aTP 16 E (by decide +kernel) E (zp E E)<|by exact gx H10 fun t_3 ht_3 H11=>aT 17 E (by decide +kernel) E (zA E) (qc ht_3)<|by exact aTP 18 E (by decide +kernel) E (jw E E)<|by exact aTP 19 E (by decide +kernel) E (zk E)<|by exact vg 20 21 (by decide +kernel) E E (qr E E H11 fun rv Sx_1 H12=>by obtain⟨t_4,rfl,ht_4,H13⟩:=H12;exact by obtain⟨k_1,H14⟩:=H13;exact by obtain⟨k_2,H15⟩:=H14;exact zn<|zF (zB (qc k_1) (zB (qc k_2) zu))<|zw 21 (by decide +kernel) E<|by exact by refine zP E fun b_2=>?_;exact zn<|zF (zB (qc k_1) (zB (qc k_2) zu))<|zw 22 (by decide +kernel) E<|by exact an H15 fun c_8 H16=>zq 0 E E E E E ht_4 E c_8<|zn<|zF zu<|zJ (by decide +kernel)<|by exact zr<|zm H16 (fun (J:Mem→Prop) (z:Unit) S=>J S) (fun z=>⟨88,[(0,.pointer (some ⟨b,o,none⟩)),(1,.int .i64 n),(2,.int .i64 k),(7,.pointer (some ⟨b_1,o_1+k.toNat*26,none⟩)),(8,.int .u64 t_1),(9,.pointer (some ⟨b_2,0,none⟩))]⟩) (fun z=>[⟨b_2,48,t_4⟩]) (fun _ Sx_2 H17=>zG<|zI (by kernel_rfl)<|aTP 0 E (by decide +kernel) E (zk E)<|by exact aTP 1 E (by decide +kernel) E (zk E)<|by exact by refine aT 2 E (by decide +kernel) E (zO E ht_4) (zD (k:=2) 0 E (zg ht_4)) ?_;exact aTP 3 E (by decide +kernel) E (zk E)<|by exact aTP 4 E (by decide +kernel) E (zk E)<|by exact aTP 5 E (by decide +kernel) E (zk E)<|by exact aTP 6 E (by decide +kernel) E (zT E)<|by exact gx H17 fun t_5 ht_5 H18=>by refine aT 7 E (by decide +kernel) E (zO E (zX ht_5)) (qX ht_5) ?_;exact zw 8 (by decide +kernel) E<|by exact qr E E H18 fun rv Sx_3 H19=>by obtain⟨t_6,rfl,ht_6,H20⟩:=H19;exact zn<|zF zu<|zw 9 (by decide +kernel) E<|by exact zaY E E H20 fun Sx_4 H21=>zn<|zF zu<|zJ (by decide +kernel)<|by exact zr<|zG<|csr<|s_p E (zp E E)<|gx H21 fun t_7 ht_7 H22=>s_v E (zA E) (zQ 0 E ht_7)<|iteK H22 (fun c_9 H23=>ceT E E E (c_9)<|nx<|ctr E E<|mv E E<|mv E E<|mv E E<|s_p E (zp E E)<|gx H23 fun t_8 ht_8 H24=>s_v E (zA E) (zQ 0 E ht_8)<|zaY E E H24 fun Sx_5 H25=>nxr<|gv E E<|nx<|zi<|zh Tryz.results22 (zc E ze) ⟨_,E,H25⟩) fun c_9 H23=>ceF E E E (c_9)<|nx<|cfs E E<|zr<|csr<|gv E E<|nx<|zi<|zh Tryz.results22 (zc E ze) ⟨_,E,H23⟩) (fun Jx hJx H26=>csr<|s_p E (zp E E)<|gx H26 fun t_9 ht_9 H27=>s_v E (zA E) (zQ 0 E ht_9)<|iteK H27 (fun c_10 H28=>ceT E E E (c_10)<|nx<|c_t E E<|csr<|gv E E<|nx<|zi<|zb<|zh Tryz.results22 (zc E ze) ⟨_,E,H28⟩) fun c_10 H28=>ceF E E E (c_10)<|nx<|cfs E E<|hJx () _ _ _ _ [0] H28 E ⟨E,E,E,E,E,E,True.intro⟩ E)) (by refine zP E fun b_2=>?_;exact zn<|zF (zB (qc ht_3) (zB (qc ht_2) zu))<|zw 20 (by decide +kernel) E<|by exact qr E E H11 fun rv Sx_1 H29=>by obtain⟨t_4,rfl,ht_4,H30⟩:=H29;exact by obtain⟨k_1,H31⟩:=H30;exact by obtain⟨k_2,H32⟩:=H31;exact zn<|zF (zB (qc k_1) (zB (qc k_2) zu))<|zw 22 (by decide +kernel) E<|by exact an H32 fun c_8 H33=>zq 0 E E E E E ht_4 E c_8<|zn<|zF zu<|zJ (by decide +kernel)<|by exact zr<|zm H33 (fun (J:Mem→Prop) (z:Unit) S=>J S) (fun z=>⟨88,[(0,.pointer (some ⟨b,o,none⟩)),(1,.int .i64 n),(2,.int .i64 k),(7,.pointer (some ⟨b_1,o_1+k.toNat*26,none⟩)),(8,.int .u64 t_1),(9,.pointer (some ⟨b_2,0,none⟩))]⟩) (fun z=>[⟨b_2,48,t_4⟩]) (fun _ Sx_2 H34=>zG<|zI (by kernel_rfl)<|aTP 0 E (by decide +kernel) E (zk E)<|by exact aTP 1 E (by decide +kernel) E (zk E)<|by exact by refine aT 2 E (by decide +kernel) E (zO E ht_4) (zD (k:=2) 0 E (zg ht_4)) ?_;exact aTP 3 E (by decide +kernel) E (zk E)<|by exact aTP 4 E (by decide +kernel) E (zk E)<|by exact aTP 5 E (by decide +kernel) E (zk E)<|by exact aTP 6 E (by decide +kernel) E (zT E)<|by exact gx H34 fun t_5 ht_5 H35=>by refine aT 7 E (by decide +kernel) E (zO E (zX ht_5)) (qX ht_5) ?_;exact zw 8 (by decide +kernel) E<|by exact qr E E H35 fun rv Sx_3 H36=>by obtain⟨t_6,rfl,ht_6,H37⟩:=H36;exact zn<|zF zu<|zw 9 (by decide +kernel) E<|by exact zaY E E H37 fun Sx_4 H38=>zn<|zF zu<|zJ (by decide +kernel)<|by exact zr<|zG<|csr<|s_p E (zp E E)<|gx H38 fun t_7 ht_7 H39=>s_v E (zA E) (zQ 0 E ht_7)<|iteK H39 (fun c_9 H40=>ceT E E E (c_9)<|nx<|ctr E E<|mv E E<|mv E E<|mv E E<|s_p E (zp E E)<|gx H40 fun t_8 ht_8 H41=>s_v E (zA E) (zQ 0 E ht_8)<|zaY E E H41 fun Sx_5 H42=>nxr<|gv E E<|nx<|zi<|zh Tryz.results22 (zc E ze) ⟨_,E,H42⟩) fun c_9 H40=>ceF E E E (c_9)<|nx<|cfs E E<|zr<|csr<|gv E E<|nx<|zi<|zh Tryz.results22 (zc E ze) ⟨_,E,H40⟩) (fun Jx hJx H43=>csr<|s_p E (zp E E)<|gx H43 fun t_9 ht_9 H44=>s_v E (zA E) (zQ 0 E ht_9)<|iteK H44 (fun c_10 H45=>ceT E E E (c_10)<|nx<|c_t E E<|csr<|gv E E<|nx<|zi<|zb<|zh Tryz.results22 (zc E ze) ⟨_,E,H45⟩) fun c_10 H45=>ceF E E E (c_10)<|nx<|cfs E E<|hJx () _ _ _ _ [0] H45 E ⟨E,E,E,E,E,E,True.intro⟩ E))) (fun Jx_1 hJx_1 H46=>csr<|mv E E<|mv E E<|qM E E H46 fun t_10 Sx_6 H47=>by have H48:=wO H47;rcases H48 with ⟨rfl,H49⟩ | ⟨rfl,H49⟩;exact (s_p E (yB (qe E) E)<|mv E E<|mv E E<|iteK H49 (fun c_11 H50=>s_p E (yT (zH E E) c_11)<|pk E E E<|mv E E<|sk8 E E E E E E E E<|sk2 E E<|zK E<|pk E E E<|nx<|c_t E E<|csr<|gv E E<|nx<|zi<|zb<|zh Tryz.results22 (zc E ze) ⟨_,E,H50⟩) fun c_11 H50=>s_p E (yF (zH E E) c_11)<|pk E E E<|mv E E<|mv E E<|mv E E<|mv E E<|by obtain⟨b_3,o_2,rfl,H51⟩:=H50;exact s_p E (zT E)<|s_p E (zp E E)<|an2 H51 fun c_12 c_13 H52=>s_p E (zz E E c_12 c_13 E)<|s_p E (zp E E)<|s_p E (zp E E)<|gx H52 fun t_11 ht_11 H53=>s_v E (zA E) (qc ht_11)<|s_p E (wP E)<|iteK H53 (fun c_14 H54=>s_p E (yT (qq E E) c_14)<|pk E E E<|nx<|c_t E E<|csr<|gv E E<|nx<|zi<|zb<|zh Tryz.results22 (zc E ze) ⟨_,E,H54⟩) fun c_14 H54=>s_p E (yF (qq E E) c_14)<|pk E E E<|nx<|cfs E E<|hJx_1 () _ _ _ _ [] H54 E ⟨E,E,E,True.intro⟩ E);exact (s_p E (yB (qe E) E)<|mv E E<|sk2 E E<|pk E E E<|mv E E<|sk8 E E E E E E E E<|sk2 E E<|zK E<|pk E E E<|nx<|c_t E E<|csr<|gv E E<|nx<|zi<|zb<|zh Tryz.results22 (zc E ze) ⟨_,E,H49⟩))
def wJ (S:Mem) (x:Pt) (Q:Int→Mem→Prop):Prop:=
 if x=none then
 Q 0 S
 else
 nn x fun b o=>
 gI (S.cell b (o+1)) .i64 fun t=>
 Q t S
theorem zad {S:Mem} {x:Pt} {Q:Int→Mem→Prop} (H:wJ S x Q):xX S x Q:=by
 unfold wJ at H
 exact Tr.intro Tryz.func55 E Tryz.ntmps55 E fun w0=>csr<|gv E E<|nx<|zG<|csr<|mv E E<|iteK H (fun c H1=>s_p E (yT (xE (p:=x) E E) c)<|nx<|c_t E E<|csr<|gv E E<|nx<|zi<|zb<|zh Tryz.results55 (zc E ze) ⟨_,E,H1⟩) fun c H1=>s_p E (yF (xE (p:=x) E E) c)<|nx<|cfs E E<|zr<|csr<|mv E E<|by obtain⟨b,o,rfl,H2⟩:=H1;exact s_p E (zT E)<|s_p E (zp E E)<|gx H2 fun t ht H3=>s_v E (zA E) (qc ht)<|gv E E<|nx<|zi<|zh Tryz.results55 (zc E ze) ⟨_,E,H3⟩
def we (S:Mem) (x:Pt) (n:Int) (Q:Bool→Mem→Prop):Prop:=
 if x≠none then
 if 0≤n then
 if n<6 then
 nn x fun b o=>
 0≤n∧n<6 ∧
 gB (S.cell b (o+2+n.toNat*109)) fun t=>
 Q t S
 else
 Q false S
 else
 Q false S
 else
 Q false S
theorem fc {S:Mem} {x:Pt} {n:Int} {Q:Bool→Mem→Prop} (H:we S x n Q):qT S x n Q:=by
 unfold we at H
 exact Tr.intro Tryz.func57 E Tryz.ntmps57 E fun w0=>csr<|gv E E<|nxr<|mv E E<|iteK H (fun c H1=>s_p E (yT (zbe (p:=x) E E) c)<|mv E E<|mv E E<|iteK H1 (fun c_1 H2=>s_p E (yT (qq E E) c_1)<|pk E E E<|mv E E<|mv E E<|iteK H2 (fun c_2 H3=>s_p E (yT (zH E E) c_2)<|pk E E E<|mv E E<|mv E E<|mv E E<|by obtain⟨b,o,rfl,H4⟩:=H3;exact s_p E (zT E)<|s_p E (zp E E)<|an2 H4 fun c_3 c_4 H5=>s_p E (zz E E c_3 c_4 E)<|s_p E (zp E E)<|s_p E (zp E E)<|gx H5 fun t ht H6=>s_v E (zA E) (qc ht)<|pk E E E<|gv E E<|nx<|zi<|zh Tryz.results57 (zc E ze) ⟨_,E,H6⟩) fun c_2 H3=>s_p E (yF (zH E E) c_2)<|pk E E E<|mv E E<|sk8 E E E E E E E E<|pk E E E<|gv E E<|nx<|zi<|zh Tryz.results57 (zc E ze) ⟨_,E,H3⟩) fun c_1 H2=>s_p E (yF (qq E E) c_1)<|pk E E E<|mv E E<|sk2 E E<|pk E E E<|mv E E<|sk8 E E E E E E E E<|pk E E E<|gv E E<|nx<|zi<|zh Tryz.results57 (zc E ze) ⟨_,E,H2⟩) fun c H1=>s_p E (yF (zbe (p:=x) E E) c)<|mv E E<|sk2 E E<|pk E E E<|mv E E<|sk2 E E<|pk E E E<|mv E E<|sk8 E E E E E E E E<|pk E E E<|gv E E<|nx<|zi<|zh Tryz.results57 (zc E ze) ⟨_,E,H1⟩
def wC (S:Mem) (x:Pt) (n:Int) (e:List Value) (Q:Mem→Prop):Prop:=
 e.length=4 ∧
 nn x fun b_1 o=>
 0≤n∧n<6 ∧
 gL (S.cell b_1 (o+753+n.toNat*1)) fun t=>
 e.all (·.oneCell')=true ∧
 ap S 45 4 32 [.int .u8 0,.int .i64 0,.int .u64 0,.int .u64 0] t 1 e fun t_1 Sx=>
 0≤n∧n<6 ∧
 pt Sx b_1 (o+753+n.toNat*1) 1 ([eL t_1]) fun Sx_1=>
 Q Sx_1
theorem fW {S:Mem} {x:Pt} {n:Int} {e:List Value} {Q:Mem→Prop} (H:wC S x n e Q):yK S x n e Q:=by
 unfold wC at H
 exact Tr.intro Tryz.func62 E Tryz.ntmps62 E fun w0=>an H fun he H1=>csr<|qI E E E fun b=>nx<|zI (by kernel_rfl)<|a_takeP 0 E (by decide +kernel) zd E (zk E)<|by exact a_takeP 1 E (by decide +kernel) zd E (zk E)<|by exact a_takeP 2 E (by decide +kernel) zd E (zk E)<|by exact a_takeP 3 E (by decide +kernel) zd E (zk E)<|by exact by obtain⟨b_1,o,rfl,H2⟩:=H1;exact a_takeP 4 E (by decide +kernel) zd E (zT E)<|by exact a_takeP 5 E (by decide +kernel) zd E (zp E E)<|by exact an2 H2 fun c c_1 H3=>a_takeP 6 E (by decide +kernel) zd E (zz E E c c_1 E)<|by exact gx H3 fun t ht H4=>qp 7 E (by decide +kernel) zd E (zA E) (qc ht)<|by exact by refine qp 8 E (by decide +kernel) zd E (zO E he) (zD (k:=4) 0 E (zg he)) ?_;exact a_takeP 11 E (by decide +kernel) zd E (zT E)<|by exact a_takeP 12 E (by decide +kernel) zd E (zp E E)<|by exact zw 9 (by decide +kernel) E<|by exact zgA E E (by decide) (zdr (size:=4) E he) fun b_2=>zn<|zF (zB (qc ht) zu)<|zw 10 (by decide +kernel) E<|by exact an H4 fun c_2 H5=>zak (sx:=t) (vs:=e) E E E (zif 1 E (zg he)) he c_2 (by decide) H5 fun t_1 Sx H6=>zn<|zF zu<|an2 H6 fun c_3 c_4 H7=>a_takeP 13 E (by decide +kernel) zd E (zz E E c_3 c_4 E)<|by exact zw 14 (by decide +kernel) E<|by exact an H7 fun c_5 H8=>zY E E E E E c_5 E<|zn<|zF zu<|zJ (by decide +kernel)<|by exact kD Tryz.results62 (ze) ⟨E,H8⟩
def wI (S:Mem) (x:Pt) (n:Int) (k:Int) (c:Int) (Q:Mem→Prop):Prop:=
 nn x fun b o=>
 0≤n∧n<6 ∧
 gL (S.cell b (o+2+n.toNat*109+1)) fun t=>
 sl t fun b_1 o_1 n_1 n_2=>
 0≤k∧k<((n_1:Nat):Int) ∧
 jn (fun (v:Int) (e:Int) (Sx:Mem)=>
 pt Sx b_1 (o_1+k.toNat*26) 1 ([.int .u64 (IntKind.u64.wrap e)]) fun Sx_1=>
 pt Sx_1 b_1 (o_1+k.toNat*26+1) 1 ([.int .u64 v]) fun Sx_2=>
 yK Sx_2 (some (b,o)) n ([.int .u8 2,.int .i64 k,.int .u64 (ior .u64 (ishl .u64 c 8) (IntKind.u64.wrap e)),.int .u64 v]) fun Sx_3=>
 Q Sx_3) fun Jx=>
 kH S (some (b,o)) c fun t_1 t_2 Sx_4=>
 if t_2=true then
 gA (Sx_4.part b_1 (o_1+k.toNat*26) 26) fun t_3=>
 cv Tryz.prog Sx_4 t_1 [.int .i64 n,.int .i64 k,valL t_3] fun rv Sx_5=>∃ t_4:Int,∃ t_5:Int,rv=.tuple #[.int .u64 t_4,.int .i64 t_5]∧
 Jx t_4 t_5 Sx_5
 else
 Jx 0 1 Sx_4
theorem zac {S:Mem} {x:Pt} {n:Int} {k:Int} {c:Int} {Q:Mem→Prop} (H:wI S x n k c Q):vp S x n k c Q:=by
 unfold wI at H
 exact Tr.intro Tryz.func63 E Tryz.ntmps63 E fun w0=>csr<|mv E E<|mv E E<|by obtain⟨b,o,rfl,H1⟩:=H;exact s_p E (zT E)<|s_p E (zp E E)<|an2 H1 fun c_1 c_2 H2=>s_p E (zz E E c_1 c_2 E)<|s_p E (zp E E)<|s_p E (zp E E)<|gx H2 fun t ht H3=>s_v E (zA E) (qc ht)<|mv E E<|by obtain⟨b_1,o_1,n_1,n_2,rfl,H4⟩:=H3;exact an2 H4 fun c_3 c_4 H5=>s_p E (yf E E c_3 c_4 E)<|gv E E<|nxr<|gv E E<|gv E E<|nx<|zm H5 (fun (J:Int→Int→Mem→Prop) (z:Int×Int) S=>J z.1 z.2 S) (fun z=>⟨62,[(0,.pointer (some ⟨b,o,none⟩)),(1,.int .i64 n),(2,.int .i64 k),(3,.int .u64 c),(8,.pointer (some ⟨b_1,o_1+k.toNat*26,none⟩)),(9,.int .u64 z.1),(10,.int .i64 z.2)]⟩) (fun z=>[]) (by rintro⟨v,e⟩ Sx H6;exact zG<|zI (by kernel_rfl)<|aTP 0 E (by decide +kernel) E (zk E)<|by exact aTP 1 E (by decide +kernel) E (zk E)<|by exact aTP 2 E (by decide +kernel) E (zk E)<|by exact aTP 3 E (by decide +kernel) E (zN ⟨_,Tryz.underlying28⟩ E)<|by exact aTP 4 E (by decide +kernel) E (zk E)<|by exact aTP 5 E (by decide +kernel) E (zT E)<|by exact aTP 6 E (by decide +kernel) E (zp E E)<|by exact aTP 7 E (by decide +kernel) E (xC (m:=0) E E (by decide) (by decide) (by decide))<|by exact aTP 9 E (by decide +kernel) E (zT E)<|by exact aTP 10 E (by decide +kernel) E (zp E E)<|by exact zw 8 (by decide +kernel) E<|by exact an H6 fun c_5 H7=>zY E E E E E c_5 E<|zn<|zF zu<|aTP 11 E (by decide +kernel) E (xC (m:=1) E E (by decide) (by decide) (by decide))<|by exact zw 12 (by decide +kernel) E<|by exact an H7 fun c_6 H8=>zY E E E E E c_6 E<|zn<|zF zu<|zJ (by decide +kernel)<|by exact zr<|zx<|mv E E<|mv E E<|mv E E<|mv E E<|s_p E (zaz E E (by decide))<|mv E E<|s_p E (zN ⟨_,Tryz.underlying28⟩ E)<|s_p E (zie E E)<|mv E E<|s_p E (zR E E)<|by exact zaY E E H8 fun Sx_3 H9=>zn<|kD Tryz.results63 (ze) ⟨E,H9⟩) (fun Jx hJx H10=>csr<|mv E E<|mv E E<|zcu E E H10 fun t_1 t_2 Sx_4 H11=>mv E E<|s_p E (zj E E)<|iteK H11 (fun c_7 H12=>s_p E (yB (zj E E) c_7)<|gv E E<|gv E E<|nxr<|mv E E<|nx<|ctr E E<|mv E E<|mv E E<|mv E E<|mv E E<|s_p E (zT E)<|gx H12 fun t_3 ht_3 H13=>by refine s_v E (zO E (zX ht_3)) (qX ht_3) ?_;exact zkl E E E H13 fun rv Sx_5 H14=>by obtain⟨t_4,t_5,rfl,H15⟩:=H14;exact mv E E<|s_p E (zj E E)<|s_p E (zj E E)<|gv E E<|gv E E<|zn<|hJx (t_4,t_5) _ _ _ _ [] H15 E ⟨E,E,E,E,E,E,E,True.intro⟩ E) fun c_7 H12=>s_p E (yB (zj E E) (wQ c_7))<|gv E E<|gv E E<|nxr<|mv E E<|nx<|cfs E E<|hJx (0,1) _ _ _ _ [] H12 E ⟨E,E,E,E,E,E,E,True.intro⟩ E)
def xP (S:Mem) (x:Pt) (n:Int) (Q:Sl→Mem→Prop):Prop:=
 jn (fun (Sx:Mem)=>
 nn x fun b o=>
 0≤n∧n<6 ∧
 gL (Sx.cell b (o+753+n.toNat*1)) fun t=>
 sp Sx t 4 fun vs=>
 ap Sx 45 4 32 [.int .u8 0,.int .i64 0,.int .u64 0,.int .u64 0] (⟨none,0,0⟩) t.n vs fun t_1 Sx_1=>
 Q t_1 Sx_1) fun Jx=>
 if x=none then
 Q (⟨none,0,0⟩) S
 else
 if n<0 then
 Q (⟨none,0,0⟩) S
 else
 if 6≤n then
 Q (⟨none,0,0⟩) S
 else
 Jx S
theorem gM {S:Mem} {x:Pt} {n:Int} {Q:Sl→Mem→Prop} (H:xP S x n Q):wz S x n Q:=by
 unfold xP at H
 exact Tr.intro Tryz.func67 E Tryz.ntmps67 E fun w0=>csr<|gv E E<|nx<|zm H (fun (J:Mem→Prop) (z:Unit) S=>J S) (fun z=>⟨22,[(0,eP x),(1,.int .i64 n)]⟩) (fun z=>[]) (fun _ Sx H1=>csr<|mv E E<|mv E E<|by obtain⟨b,o,rfl,H2⟩:=H1;exact s_p E (zT E)<|s_p E (zp E E)<|an2 H2 fun c c_1 H3=>s_p E (zz E E c c_1 E)<|gx H3 fun t ht H4=>s_v E (zA E) (qc ht)<|by obtain⟨vs,h,c_2,H5⟩:=H4;exact zak (sx:=⟨none,0,0⟩) (vs:=vs) E E E ((zbU h).1) ((zbU (P:=Tryz.prog) (w0:=w0) (S0:=S) (V:=[]) h).2) c_2 (by decide) H5 fun t_1 Sx_1 H6=>gv E E<|nx<|zi<|zh Tryz.results67 (zc E ze) ⟨_,E,H6⟩) (fun Jx hJx H7=>csr<|mv E E<|iteK H7 (fun c_3 H8=>s_p E (yT (xE (p:=x) E E) c_3)<|mv E E<|sk2 E E<|pk E E E<|mv E E<|sk2 E E<|pk E E E<|nx<|c_t E E<|csr<|gv E E<|nx<|zi<|zb<|zh Tryz.results67 (zc E ze) ⟨_,E,H8⟩) fun c_3 H8=>s_p E (yF (xE (p:=x) E E) c_3)<|mv E E<|mv E E<|iteK H8 (fun c_4 H9=>s_p E (yT (zH E E) c_4)<|pk E E E<|mv E E<|sk2 E E<|pk E E E<|nx<|c_t E E<|csr<|gv E E<|nx<|zi<|zb<|zh Tryz.results67 (zc E ze) ⟨_,E,H9⟩) fun c_4 H9=>s_p E (yF (zH E E) c_4)<|pk E E E<|mv E E<|mv E E<|iteK H9 (fun c_5 H10=>s_p E (yT (qq E E) c_5)<|pk E E E<|nx<|c_t E E<|csr<|gv E E<|nx<|zi<|zb<|zh Tryz.results67 (zc E ze) ⟨_,E,H10⟩) fun c_5 H10=>s_p E (yF (qq E E) c_5)<|pk E E E<|nx<|cfs E E<|hJx () _ _ _ _ [] H10 E ⟨E,E,True.intro⟩ E)
def wl (S:Mem) (x:Pt) (c:Int) (Q:Value→Bool→Mem→Prop):Prop:=
 if 14≤c then
 Q .nilFunc false S
 else
 0≤c∧c<14 ∧
 gV (nthL ([.func (.func 181) #[eP x] #[],.func (.func 182) #[eP x] #[],.func (.func 183) #[eP x] #[],.func (.func 184) #[eP x] #[],.func (.func 185) #[eP x] #[],.func (.func 186) #[eP x] #[],.func (.func 187) #[eP x] #[],.func (.func 188) #[eP x] #[],.func (.func 189) #[eP x] #[],.func (.func 190) #[eP x] #[],.func (.func 191) #[eP x] #[],.func (.func 192) #[eP x] #[],.func (.func 193) #[eP x] #[],.func (.func 194) #[eP x] #[]]) (0+c.toNat*1)) fun t=>
 Q t true S
theorem fg {S:Mem} {x:Pt} {c:Int} {Q:Value→Bool→Mem→Prop} (H:wl S x c Q):kH S x c Q:=by
 unfold wl at H
 exact Tr.intro Tryz.func125 E Tryz.ntmps125 E fun w0=>csr<|gv E E<|gv E E<|nxr<|mv E E<|s_p E (vZ E E)<|mv E E<|s_p E (vZ E E)<|mv E E<|s_p E (vZ E E)<|mv E E<|s_p E (vZ E E)<|mv E E<|s_p E (vZ E E)<|mv E E<|s_p E (vZ E E)<|mv E E<|s_p E (vZ E E)<|mv E E<|s_p E (vZ E E)<|mv E E<|s_p E (vZ E E)<|mv E E<|s_p E (vZ E E)<|mv E E<|s_p E (vZ E E)<|mv E E<|s_p E (vZ E E)<|mv E E<|s_p E (vZ E E)<|mv E E<|s_p E (vZ E E)<|s_p E (zR E E)<|by exact by refine zP E fun b=>?_;exact qv (sz:=14) (vs:=[.func (.func 181) #[eP x] #[],.func (.func 182) #[eP x] #[],.func (.func 183) #[eP x] #[],.func (.func 184) #[eP x] #[],.func (.func 185) #[eP x] #[],.func (.func 186) #[eP x] #[],.func (.func 187) #[eP x] #[],.func (.func 188) #[eP x] #[],.func (.func 189) #[eP x] #[],.func (.func 190) #[eP x] #[],.func (.func 191) #[eP x] #[],.func (.func 192) #[eP x] #[],.func (.func 193) #[eP x] #[],.func (.func 194) #[eP x] #[]]) 0 E E E E E E (Nat.le_of_ble_eq_true E) E<|nx<|zG<|csr<|mv E E<|iteK H (fun c_1 H1=>s_p E (yT (qq E E) c_1)<|nx<|c_t E E<|csr<|gv E E<|gv E E<|nx<|zi<|zb<|zh Tryz.results125 (zc E (zc E ze)) ⟨_,_,E,H1⟩) fun c_1 H1=>s_p E (yF (qq E E) c_1)<|nx<|cfs E E<|zr<|csr<|mv E E<|an2 H1 fun c_2 c_3 H2=>s_p E (zz E E c_2 c_3 E)<|gx H2 fun t ht H3=>s_v E (zA E) (zQ 0 E ht)<|gv E E<|gv E E<|nx<|zi<|zh Tryz.results125 (zc E (zc E ze)) ⟨_,_,E,H3⟩
def va (S:Mem) (x:Pt) (n:Int) (k:Int) (s:List Value) (Q:Int→Int→Mem→Prop):Prop:=
 s.length=26 ∧
 gI (nthL s 1) .u64 fun t=>
 yK S x n ([.int .u8 3,.int .i64 k,.int .u64 (iand .u64 t 255),.int .u64 0]) fun Sx=>
 Q 0 0 Sx
theorem zaE {S:Mem} {x:Pt} {n:Int} {k:Int} {s:List Value} {Q:Int→Int→Mem→Prop} (H:va S x n k s Q):gg S x n k s Q:=by
 unfold va at H
 exact Tr.intro Tryz.func181 E Tryz.ntmps181 E fun w0=>an H fun hs H1=>csr<|qI E E E fun b=>gv E E<|gv E E<|nxr<|mv E E<|mv E E<|mv E E<|s_p E (zp E E)<|s_p E (xC (m:=1) E E (by decide) (by decide) (by decide))<|gx H1 fun t ht H2=>s_v E (zA E) (zQ 0 E ht)<|s_p E (vH E E)<|s_p E (zR E E)<|by exact zaY E E H2 fun Sx H3=>nxr<|gv E E<|gv E E<|nx<|zi<|zh Tryz.results181 (zc E (zc E ze)) ⟨_,_,E,H3⟩
def vb (S:Mem) (x:Pt) (n:Int) (t:Int) (t_1:List Value) (Q:Int→Int→Mem→Prop):Prop:=
 t_1.length=26 ∧
 nn x fun b_1 o=>
 0≤n∧n<6 ∧
 jn (fun (Sx:Mem)=>
 gL (Sx.cell b_1 (o+2+n.toNat*109+6)) fun t_2=>
 sl t_2 fun b_2 o_1 n_1 n_2=>
 (0:Int)<(n_1:Nat) ∧
 gI (Sx.cell b_2 o_1) .u8 fun t_3=>
 gL (Sx.cell b_1 (o+2+n.toNat*109+6)) fun t_4=>
 (0:Int)≤1∧(1:Int)≤(t_4.n:Int)∧(t_4.n:Int)≤(t_4.c:Int) ∧
 lt (slc 1 t_4 1 (t_4.n:Int)) fun t_5=>
 pt Sx b_1 (o+2+n.toNat*109+6) 1 ([eL t_5]) fun Sx_1=>
 Q (IntKind.u64.wrap t_3) 0 Sx_1) fun Jx=>
 gL (S.cell b_1 (o+2+n.toNat*109+6)) fun t_6=>
 if (t_6.n:Int)=0 then
 Q 0 2 S
 else
 Jx S
theorem zaF {S:Mem} {x:Pt} {n:Int} {t:Int} {t_1:List Value} {Q:Int→Int→Mem→Prop} (H:vb S x n t t_1 Q):gh S x n t t_1 Q:=by
 unfold vb at H
 exact Tr.intro Tryz.func182 E Tryz.ntmps182 E fun w0=>an H fun ht_1 H1=>csr<|qI E E E fun b=>gv E E<|gv E E<|nxr<|mv E E<|mv E E<|by obtain⟨b_1,o,rfl,H2⟩:=H1;exact s_p E (zT E)<|s_p E (zp E E)<|an2 H2 fun c c_1 H3=>s_p E (zz E E c c_1 E)<|gv E E<|nx<|zm H3 (fun (J:Mem→Prop) (z:Unit) S=>J S) (fun z=>⟨43,[(10,.pointer (some ⟨b_1,o+2+n.toNat*109,none⟩))]⟩) (fun z=>[]) (fun _ Sx H4=>csr<|mv E E<|s_p E (zT E)<|s_p E (zp E E)<|s_p E (zp E E)<|gx H4 fun t_2 ht_2 H5=>s_v E (zA E) (qc ht_2)<|by obtain⟨b_2,o_1,n_1,n_2,rfl,H6⟩:=H5;exact an H6 fun c_3 H7=>s_p E (yf E E (by decide) c_3 E)<|gx H7 fun t_3 ht_3 H8=>s_v E (zA E) (qc ht_3)<|gv E E<|nxr<|mv E E<|mv E E<|s_p E (zT E)<|s_p E (zp E E)<|s_p E (zp E E)<|gx H8 fun t_4 ht_4 H9=>s_v E (zA E) (qc ht_4)<|an3 H9 fun c_4 c_5 c_6 H10=>by obtain⟨t_5,et_5,H11⟩:=zje H10;exact s_p E (eqv (zfK (a:=1) (b:=(t_4.n:Int)) E E E c_4 c_5 c_6) (congrArg eL et_5))<|s_p E (zT E)<|s_p E (zp E E)<|s_p E (zp E E)<|an H11 fun c_7 H12=>zY E E E E E c_7 E<|nxr<|mv E E<|s_p E (zN ⟨_,Tryz.underlying5⟩ E)<|gv E E<|gv E E<|nx<|zi<|zh Tryz.results182 (zc E (zc E ze)) ⟨_,_,E,H12⟩) (fun Jx hJx H13=>csr<|mv E E<|s_p E (zT E)<|s_p E (zp E E)<|s_p E (zp E E)<|gx H13 fun t_6 ht_6 H14=>s_v E (zA E) (qc ht_6)<|s_p E (wP E)<|iteK H14 (fun c_8 H15=>ceT E E E (c_8)<|nx<|c_t E E<|csr<|gv E E<|gv E E<|nx<|zi<|zb<|zh Tryz.results182 (zc E (zc E ze)) ⟨_,_,E,H15⟩) fun c_8 H15=>ceF E E E (c_8)<|nx<|cfs E E<|hJx () _ _ _ _ [] H15 E ⟨E,True.intro⟩ E)
def wE (S:Mem) (x:Pt) (n:Int) (t:Int) (s:List Value) (Q:Int→Int→Mem→Prop):Prop:=
 s.length=26 ∧
 gI (nthL s 1) .u64 fun t_1=>
 qz S t_1 fun t_2 Sx=>
 jn (fun (Sx_1:Mem)=>
 nn x fun b_1 o=>
 0≤t_2∧t_2<6 ∧
 gL (Sx_1.cell b_1 (o+2+t_2.toNat*109+1)) fun t_3=>
 sl t_3 fun b_2 o_1 n_1 n_2=>
 (0:Int)<(n_1:Nat) ∧
 gI (nthL s 2) .u64 fun t_4=>
 qz Sx_1 t_4 fun t_5 Sx_2=>
 Sx_2.cell b_1 (o+2+t_2.toNat*109+1)=some (eL t_3) ∧
 gG Sx_2 (some (b_2,o_1)) t_5 fun t_6 Sx_3=>
 Sx_3.cell b_1 (o+2+t_2.toNat*109+1)=some (eL t_3) ∧
 Q 0 t_6 Sx_3) fun Jx=>
 qT Sx x t_2 fun t_7 Sx_4=>
 if t_7=true then
 nn x fun b_3 o_2=>
 0≤n∧n<6 ∧
 gI (Sx_4.cell b_3 (o_2+2+n.toNat*109+11)) .u32 fun t_8=>
 0≤t_2 ∧
 if iand .u32 (ishr .u32 t_8 t_2) 1=0 then
 Q 0 2 Sx_4
 else
 gI (nthL s 2) .u64 fun t_9=>
 qz Sx_4 t_9 fun t_10 Sx_5=>
 zaL Sx_5 t_10 fun t_11 Sx_6=>
 if t_11=true then
 Jx Sx_6
 else
 Q 0 1 Sx_6
 else
 Q 0 2 Sx_4
theorem fY {S:Mem} {x:Pt} {n:Int} {t:Int} {s:List Value} {Q:Int→Int→Mem→Prop} (H:wE S x n t s Q):jr S x n t s Q:=by
 unfold wE at H
 exact Tr.intro Tryz.func183 E Tryz.ntmps183 E fun w0=>an H fun hs H1=>csr<|qI E E E fun b=>gv E E<|gv E E<|nxr<|s_p E (zp E E)<|s_p E (xC (m:=1) E E (by decide) (by decide) (by decide))<|gx H1 fun t_1 ht_1 H2=>s_v E (zA E) (zQ 0 E ht_1)<|qM E E H2 fun t_2 Sx H3=>gv E E<|nx<|zm H3 (fun (J:Mem→Prop) (z:Unit) S=>J S) (fun z=>⟨55,[(0,eP x),(7,.pointer (some ⟨b,0,none⟩)),(10,.int .i64 t_2)]⟩) (fun z=>[⟨b,43,s⟩]) (fun _ Sx_1 H4=>zG<|zI (by kernel_rfl)<|aTP 0 E (by decide +kernel) E (zk E)<|by exact aTP 1 E (by decide +kernel) E (zk E)<|by exact by obtain⟨b_1,o,rfl,H5⟩:=H4;exact aTP 2 E (by decide +kernel) E (zT E)<|by exact aTP 3 E (by decide +kernel) E (zp E E)<|by exact an2 H5 fun c c_1 H6=>aTP 4 E (by decide +kernel) E (zz E E c c_1 E)<|by exact aTP 5 E (by decide +kernel) E (zp E E)<|by exact aTP 6 E (by decide +kernel) E (zp E E)<|by exact gx H6 fun t_3 ht_3 H7=>aT 7 E (by decide +kernel) E (zA E) (qc ht_3)<|by exact by obtain⟨b_2,o_1,n_1,n_2,rfl,H8⟩:=H7;exact an H8 fun c_3 H9=>aTP 8 E (by decide +kernel) E (yf E E (by decide) c_3 E)<|by exact aTP 9 E (by decide +kernel) E (zp E E)<|by exact aTP 10 E (by decide +kernel) E (xC (m:=2) E E (by decide) (by decide) (by decide))<|by exact gx H9 fun t_4 ht_4 H10=>aT 11 E (by decide +kernel) E (zA E) (zQ 0 E ht_4)<|by exact zw 12 (by decide +kernel) E<|by exact qM E E H10 fun t_5 Sx_2 H11=>by obtain⟨k,H12⟩:=H11;exact zn<|zF (zB (qc k) zu)<|zw 13 (by decide +kernel) E<|by exact qM E E H12 fun t_6 Sx_3 H13=>by obtain⟨k_1,H14⟩:=H13;exact zn<|zF (zB (qc k_1) zu)<|aTP 14 E (by decide +kernel) E (zM E)<|by exact aTP 15 E (by decide +kernel) E (zM E)<|by exact zJ (by decide +kernel)<|by exact zr<|zi<|zh Tryz.results183 (zc E (zc E ze)) ⟨_,_,E,H14⟩) (fun Jx hJx H15=>zE<|csr<|mv E E<|mv E E<|qM E E H15 fun t_7 Sx_4 H16=>by have H17:=wO H16;rcases H17 with ⟨rfl,H18⟩ | ⟨rfl,H18⟩;exact (s_p E (yB (qe E) E)<|mv E E<|mv E E<|mv E E<|by obtain⟨b_3,o_2,rfl,H19⟩:=H18;exact s_p E (zT E)<|s_p E (zp E E)<|an2 H19 fun c_4 c_5 H20=>s_p E (zz E E c_4 c_5 E)<|s_p E (zp E E)<|s_p E (zp E E)<|gx H20 fun t_8 ht_8 H21=>s_v E (zA E) (qc ht_8)<|mv E E<|an H21 fun c_6 H22=>s_p E (jy E E c_6)<|s_p E (vH E E)<|iteK H22 (fun c_7 H23=>ceT E E E (c_7)<|pk E E E<|gv E E<|nx<|c_t E E<|csr<|gv E E<|gv E E<|nx<|zi<|zl<|zb<|zh Tryz.results183 (zc E (zc E ze)) ⟨_,_,E,H23⟩) fun c_7 H23=>ceF E E E (c_7)<|pk E E E<|gv E E<|nx<|c_f E E<|csr<|s_p E (zp E E)<|s_p E (xC (m:=2) E E (by decide) (by decide) (by decide))<|gx H23 fun t_9 ht_9 H24=>s_v E (zA E) (zQ 0 E ht_9)<|qM E E H24 fun t_10 Sx_5 H25=>qM E E H25 fun t_11 Sx_6 H26=>by have H27:=wO H26;rcases H27 with ⟨rfl,H28⟩ | ⟨rfl,H28⟩;exact (s_p E (yB (qe E) E)<|gv E E<|nx<|cfs E E<|zS<|hJx () _ _ _ _ [0] H28 E ⟨E,E,E,True.intro⟩ E);exact (s_p E (yB (qe E) E)<|gv E E<|nx<|c_t E E<|csr<|gv E E<|gv E E<|nx<|zi<|zl<|zb<|zh Tryz.results183 (zc E (zc E ze)) ⟨_,_,E,H28⟩));exact (s_p E (yB (qe E) E)<|mv E E<|sk8 E E E E E E E E<|sk4 E E E E<|pk E E E<|gv E E<|nx<|c_t E E<|csr<|gv E E<|gv E E<|nx<|zi<|zl<|zb<|zh Tryz.results183 (zc E (zc E ze)) ⟨_,_,E,H18⟩))
def wo (S:Mem) (x:Pt) (n:Int) (k:Int) (s:List Value) (Q:Int→Int→Mem→Prop):Prop:=
 s.length=26 ∧
 nn x fun b_1 o=>
 gI (nthL s 1) .u64 fun t=>
 0≤n∧n<6 ∧
 gI (S.cell b_1 (o+2+n.toNat*109+108)) .u64 fun t_1=>
 gI (nthL s 1) .u64 fun t_2=>
 wM S (some (b_1,o+752)) n k (IntKind.u64.wrap (t+(if ineg .u64 t_2<t_1 then ineg .u64 t_2 else t_1))) fun t_3 Sx=>
 Sx.cell b_1 (o+2+n.toNat*109+108)=some (.int .u64 t_1) ∧
 Q 0 0 Sx
theorem fh {S:Mem} {x:Pt} {n:Int} {k:Int} {s:List Value} {Q:Int→Int→Mem→Prop} (H:wo S x n k s Q):kI S x n k s Q:=by
 unfold wo at H
 exact Tr.intro Tryz.func184 E Tryz.ntmps184 E fun w0=>an H fun hs H1=>csr<|qI E E E fun b=>gv E E<|gv E E<|nx<|zG<|zI (by kernel_rfl)<|aTP 0 E (by decide +kernel) E (zk E)<|by exact by obtain⟨b_1,o,rfl,H2⟩:=H1;exact aTP 1 E (by decide +kernel) E (zT E)<|by exact aTP 2 E (by decide +kernel) E (zp E E)<|by exact aTP 3 E (by decide +kernel) E (zk E)<|by exact aTP 4 E (by decide +kernel) E (zk E)<|by exact aTP 5 E (by decide +kernel) E (zp E E)<|by exact aTP 6 E (by decide +kernel) E (xC (m:=1) E E (by decide) (by decide) (by decide))<|by exact gx H2 fun t ht H3=>aT 7 E (by decide +kernel) E (zA E) (zQ 0 E ht)<|by exact aTP 8 E (by decide +kernel) E (zk E)<|by exact aTP 9 E (by decide +kernel) E (zk E)<|by exact aTP 10 E (by decide +kernel) E (zT E)<|by exact aTP 11 E (by decide +kernel) E (zp E E)<|by exact an2 H3 fun c c_1 H4=>aTP 12 E (by decide +kernel) E (zz E E c c_1 E)<|by exact aTP 13 E (by decide +kernel) E (zp E E)<|by exact gx H4 fun t_1 ht_1 H5=>aT 14 E (by decide +kernel) E (zA E) (qc ht_1)<|by exact aTP 15 E (by decide +kernel) E (zp E E)<|by exact aTP 16 E (by decide +kernel) E (xC (m:=1) E E (by decide) (by decide) (by decide))<|by exact gx H5 fun t_2 ht_2 H6=>aT 17 E (by decide +kernel) E (zA E) (zQ 0 E ht_2)<|by exact aTP 18 E (by decide +kernel) E (zlo E)<|by exact aTP 19 E (by decide +kernel) E (zln E E)<|by exact aTP 20 E (by decide +kernel) E (qd E E)<|by exact zw 21 (by decide +kernel) E<|by exact qM E E H6 fun t_3 Sx H7=>by obtain⟨k_1,H8⟩:=H7;exact zn<|zF (zB (zQ 0 E ht_2) (zB (qc k_1) (zB (zQ 0 E ht) zu)))<|zJ (by decide +kernel)<|by exact zr<|csr<|gv E E<|gv E E<|nx<|zi<|zh Tryz.results184 (zc E (zc E ze)) ⟨_,_,E,H8⟩
def wh (S:Mem) (x:Pt) (n:Int) (t:Int) (s:List Value) (Q:Int→Int→Mem→Prop):Prop:=
 s.length=26 ∧
 gI (nthL s 1) .u64 fun t_1=>
 gI (nthL s 2) .u64 fun t_2=>
 qz S t_1 fun t_3 Sx=>
 qz Sx t_2 fun t_4 Sx_1=>
 jn (fun (Sx_2:Mem)=>
 jn (fun (Sx_3:Mem)=>
 nn x fun b_1 o=>
 gA (Sx_3.part b_1 (o+656) 96) fun t_5=>
 gI (nthL s 3) .u64 fun t_6=>
 vk Sx_3 t_5 n t_3 t_4 (decide (t_6≠0)) fun t_7 t_8 t_9 Sx_4=>
 t_7.all (·.oneCell')=true ∧
 jn (fun (Sx_5:Mem)=>
 Q (IntKind.u64.wrap t_8) t_9 Sx_5) fun Jx=>
 if t_9=0 then
 t_7.all (·.oneCell')=true ∧
 pt Sx_4 b_1 (o+656) 96 t_7 fun Sx_6=>
 Jx Sx_6
 else
 Jx Sx_4) fun Jx_1=>
 qT Sx_2 x t_4 fun t_10 Sx_7=>
 if t_10=true then
 Jx_1 Sx_7
 else
 Q 0 2 Sx_7) fun Jx_2=>
 xW Sx_1 x n t_3 fun t_11 t_12 Sx_8=>
 if t_12≠0 then
 Q 0 t_12 Sx_8
 else
 Jx_2 Sx_8
theorem fe {S:Mem} {x:Pt} {n:Int} {t:Int} {s:List Value} {Q:Int→Int→Mem→Prop} (H:wh S x n t s Q):kF S x n t s Q:=by
 unfold wh at H
 exact Tr.intro Tryz.func185 E Tryz.ntmps185 E fun w0=>an H fun hs H1=>csr<|qI E E E fun b=>gv E E<|gv E E<|nx<|zG<|zI (by kernel_rfl)<|aTP 0 E (by decide +kernel) E (zp E E)<|by exact aTP 1 E (by decide +kernel) E (xC (m:=1) E E (by decide) (by decide) (by decide))<|by exact gx H1 fun t_1 ht_1 H2=>aT 2 E (by decide +kernel) E (zA E) (zQ 0 E ht_1)<|by exact aTP 4 E (by decide +kernel) E (zp E E)<|by exact aTP 5 E (by decide +kernel) E (xC (m:=2) E E (by decide) (by decide) (by decide))<|by exact gx H2 fun t_2 ht_2 H3=>aT 6 E (by decide +kernel) E (zA E) (zQ 0 E ht_2)<|by exact zw 3 (by decide +kernel) E<|by exact qM E E H3 fun t_3 Sx H4=>zn<|zF (zB (zQ 0 E ht_2) zu)<|zw 7 (by decide +kernel) E<|by exact qM E E H4 fun t_4 Sx_1 H5=>zn<|zF zu<|aTP 8 E (by decide +kernel) E (zM E)<|by exact aTP 9 E (by decide +kernel) E (zM E)<|by exact zJ (by decide +kernel)<|by exact zr<|zm H5 (fun (J:Mem→Prop) (z:Unit) S=>J S) (fun z=>⟨64,[(0,eP x),(1,.int .i64 n),(7,.pointer (some ⟨b,0,none⟩)),(10,.int .i64 t_3),(11,.int .i64 t_4)]⟩) (fun z=>[⟨b,43,s⟩]) (fun _ Sx_2 H6=>zm H6 (fun (J:Mem→Prop) (z:Unit) S=>J S) (fun z=>⟨64,[(0,eP x),(1,.int .i64 n),(7,.pointer (some ⟨b,0,none⟩)),(10,.int .i64 t_3),(11,.int .i64 t_4)]⟩) (fun z=>[⟨b,43,s⟩]) (fun _ Sx_3 H7=>zG<|zI (by kernel_rfl)<|aTP 0 E (by decide +kernel) E (zk E)<|by exact by obtain⟨b_1,o,rfl,H8⟩:=H7;exact aTP 1 E (by decide +kernel) E (zT E)<|by exact aTP 2 E (by decide +kernel) E (zp E E)<|by exact gx H8 fun t_5 ht_5 H9=>by refine aT 3 E (by decide +kernel) E (zO E (zX ht_5)) (qX ht_5) ?_;exact aTP 4 E (by decide +kernel) E (zk E)<|by exact aTP 5 E (by decide +kernel) E (zk E)<|by exact aTP 6 E (by decide +kernel) E (zk E)<|by exact aTP 7 E (by decide +kernel) E (zp E E)<|by exact aTP 8 E (by decide +kernel) E (xC (m:=3) E E (by decide) (by decide) (by decide))<|by exact gx H9 fun t_6 ht_6 H10=>aT 9 E (by decide +kernel) E (zA E) (zQ 0 E ht_6)<|by exact aTP 10 E (by decide +kernel) E (qm E E)<|by exact vg 11 16 (by decide +kernel) E E (qr E E H10 fun rv Sx_4 H11=>by obtain⟨t_7,t_8,t_9,rfl,ht_7,H12⟩:=H11;exact zn<|zF (zB (zQ 0 E ht_6) zu)<|aTP 12 E (by decide +kernel) E (zk E)<|by exact aTP 13 E (by decide +kernel) E (zj E E)<|by exact aTP 14 E (by decide +kernel) E (zj E E)<|by exact aTP 15 E (by decide +kernel) E (zj E E)<|by exact zw 16 (by decide +kernel) E<|by exact by refine zP E fun b_2=>?_;exact zn<|zF (zB (zQ 0 E ht_6) zu)<|zw 17 (by decide +kernel) E<|by exact an H12 fun c H13=>zq 1 E E E E E ht_7 qD c<|zn<|zF zu<|aTP 18 E (by decide +kernel) E (zM E)<|by exact aTP 19 E (by decide +kernel) E (zM E)<|by exact zJ (by decide +kernel)<|by exact zr<|zm H13 (fun (J:Mem→Prop) (z:Unit) S=>J S) (fun z=>⟨64,[(15,.int .i64 t_8),(16,.int .i64 t_9)]⟩) (fun z=>[]) (fun _ Sx_5 H14=>csr<|mv E E<|s_p E (zN ⟨_,Tryz.underlying3⟩ E)<|mv E E<|gv E E<|gv E E<|nx<|zi<|zh Tryz.results185 (zc E (zc E ze)) ⟨_,_,E,H14⟩) (fun Jx hJx H15=>csr<|mv E E<|iteK H15 (fun c_1 H16=>ceT E E E (c_1)<|nx<|ctr E E<|mv E E<|by refine s_v E (zO E ht_7) (zD (k:=96) 1 E (zg ht_7)) ?_;exact s_p E (zT E)<|s_p E (zp E E)<|an H16 fun c_2 H17=>an H17 fun c_3 H18=>zY E E E E ht_7 c_3 c_2<|zn<|hJx () _ _ _ _ [] H18 E ⟨E,E,True.intro⟩ E) fun c_1 H16=>ceF E E E (c_1)<|nx<|cfs E E<|hJx () _ _ _ _ [] H16 E ⟨E,E,True.intro⟩ E)) (by refine zP E fun b_2=>?_;exact zn<|zF (zB (zQ 0 E ht_6) (zB (qX ht_5) zu))<|zw 11 (by decide +kernel) E<|by exact qr E E H10 fun rv Sx_4 H19=>by obtain⟨t_7,t_8,t_9,rfl,ht_7,H20⟩:=H19;exact zn<|zF (zB (zQ 0 E ht_6) zu)<|aTP 12 E (by decide +kernel) E (zk E)<|by exact aTP 13 E (by decide +kernel) E (zj E E)<|by exact aTP 14 E (by decide +kernel) E (zj E E)<|by exact aTP 15 E (by decide +kernel) E (zj E E)<|by exact zw 17 (by decide +kernel) E<|by exact an H20 fun c H21=>zq 1 E E E E E ht_7 qD c<|zn<|zF zu<|aTP 18 E (by decide +kernel) E (zM E)<|by exact aTP 19 E (by decide +kernel) E (zM E)<|by exact zJ (by decide +kernel)<|by exact zr<|zm H21 (fun (J:Mem→Prop) (z:Unit) S=>J S) (fun z=>⟨64,[(15,.int .i64 t_8),(16,.int .i64 t_9)]⟩) (fun z=>[]) (fun _ Sx_5 H22=>csr<|mv E E<|s_p E (zN ⟨_,Tryz.underlying3⟩ E)<|mv E E<|gv E E<|gv E E<|nx<|zi<|zh Tryz.results185 (zc E (zc E ze)) ⟨_,_,E,H22⟩) (fun Jx hJx H23=>csr<|mv E E<|iteK H23 (fun c_1 H24=>ceT E E E (c_1)<|nx<|ctr E E<|mv E E<|by refine s_v E (zO E ht_7) (zD (k:=96) 1 E (zg ht_7)) ?_;exact s_p E (zT E)<|s_p E (zp E E)<|an H24 fun c_2 H25=>an H25 fun c_3 H26=>zY E E E E ht_7 c_3 c_2<|zn<|hJx () _ _ _ _ [] H26 E ⟨E,E,True.intro⟩ E) fun c_1 H24=>ceF E E E (c_1)<|nx<|cfs E E<|hJx () _ _ _ _ [] H24 E ⟨E,E,True.intro⟩ E))) (fun Jx_1 hJx_1 H27=>csr<|mv E E<|mv E E<|qM E E H27 fun t_10 Sx_7 H28=>by have H29:=wO H28;rcases H29 with ⟨rfl,H30⟩ | ⟨rfl,H30⟩;exact (s_p E (yB (qe E) E)<|nx<|cfs E E<|hJx_1 () _ _ _ _ [0] H30 E ⟨E,E,E,E,E,True.intro⟩ E);exact (s_p E (yB (qe E) E)<|nx<|c_t E E<|csr<|gv E E<|gv E E<|nx<|zi<|zb<|zh Tryz.results185 (zc E (zc E ze)) ⟨_,_,E,H30⟩))) (fun Jx_2 hJx_2 H31=>csr<|mv E E<|mv E E<|mv E E<|zcu E E H31 fun t_11 t_12 Sx_8 H32=>mv E E<|s_p E (zj E E)<|s_p E (zj E E)<|gv E E<|gv E E<|nxr<|mv E E<|iteK H32 (fun c_4 H33=>s_p E (yT (qm E E) c_4)<|nx<|c_t E E<|csr<|mv E E<|gv E E<|gv E E<|nx<|zi<|zb<|zh Tryz.results185 (zc E (zc E ze)) ⟨_,_,E,H33⟩) fun c_4 H33=>s_p E (yF (qm E E) c_4)<|nx<|cfs E E<|hJx_2 () _ _ _ _ [0] H33 E ⟨E,E,E,E,E,True.intro⟩ E)
def xO (S:Mem) (x:Pt) (n:Int) (t:Int) (s:List Value) (Q:Int→Int→Mem→Prop):Prop:=
 s.length=26 ∧
 gI (nthL s 1) .u64 fun t_1=>
 gI (nthL s 2) .u64 fun t_2=>
 qz S t_1 fun t_3 Sx=>
 qz Sx t_2 fun t_4 Sx_1=>
 nn x fun b_1 o=>
 gA (Sx_1.part b_1 (o+656) 96) fun t_5=>
 wV Sx_1 t_5 t_3 n t_4 fun t_6 t_7 Sx_2=>
 t_6.all (·.oneCell')=true ∧
 jn (fun (Sx_3:Mem)=>
 t_6.all (·.oneCell')=true ∧
 pt Sx_3 b_1 (o+656) 96 t_6 fun Sx_4=>
 0≤t_3∧t_3<16 ∧
 gI (nthL t_6 (0+t_3.toNat*6+1)) .i64 fun t_8=>
 0≤t_3∧t_3<16 ∧
 gI (nthL t_6 (0+t_3.toNat*6+2)) .i64 fun t_9=>
 0≤t_8∧t_8<6 ∧
 0≤t_9∧t_9<32 ∧
 gP (Sx_4.cell b_1 (o+2+t_8.toNat*109+12+t_9.toNat*3)) fun t_10=>
 0≤t_3∧t_3<16 ∧
 gB (nthL t_6 (0+t_3.toNat*6+4)) fun t_11=>
 0≤n∧n<6 ∧
 0≤t_4∧t_4<32 ∧
 pt Sx_4 b_1 (o+2+n.toNat*109+12+t_4.toNat*3) 3 ([eP t_10,.bool false,.bool t_11]) fun Sx_5=>
 Q 0 0 Sx_5) fun Jx=>
 if t_7≠0 then
 Q 0 t_7 Sx_2
 else
 0≤n∧n<6 ∧
 0≤t_4∧t_4<32 ∧
 gP (Sx_2.cell b_1 (o+2+n.toNat*109+12+t_4.toNat*3)) fun t_12=>
 if t_12≠none then
 Q 0 8 Sx_2
 else
 Jx Sx_2
theorem gK {S:Mem} {x:Pt} {n:Int} {t:Int} {s:List Value} {Q:Int→Int→Mem→Prop} (H:xO S x n t s Q):kd S x n t s Q:=by
 unfold xO at H
 exact Tr.intro Tryz.func186 E Tryz.ntmps186 E fun w0=>an H fun hs H1=>csr<|qI E E E fun b=>gv E E<|gv E E<|nx<|zG<|zI (by kernel_rfl)<|aTP 0 E (by decide +kernel) E (zp E E)<|by exact aTP 1 E (by decide +kernel) E (xC (m:=1) E E (by decide) (by decide) (by decide))<|by exact gx H1 fun t_1 ht_1 H2=>aT 2 E (by decide +kernel) E (zA E) (zQ 0 E ht_1)<|by exact aTP 4 E (by decide +kernel) E (zp E E)<|by exact aTP 5 E (by decide +kernel) E (xC (m:=2) E E (by decide) (by decide) (by decide))<|by exact gx H2 fun t_2 ht_2 H3=>aT 6 E (by decide +kernel) E (zA E) (zQ 0 E ht_2)<|by exact zw 3 (by decide +kernel) E<|by exact qM E E H3 fun t_3 Sx H4=>zn<|zF (zB (zQ 0 E ht_2) zu)<|zw 7 (by decide +kernel) E<|by exact qM E E H4 fun t_4 Sx_1 H5=>zn<|zF zu<|aTP 8 E (by decide +kernel) E (zM E)<|by exact aTP 9 E (by decide +kernel) E (zM E)<|by exact zJ (by decide +kernel)<|by exact zr<|csr<|mv E E<|by obtain⟨b_1,o,rfl,H6⟩:=H5;exact s_p E (zT E)<|s_p E (zp E E)<|gx H6 fun t_5 ht_5 H7=>by refine s_v E (zO E (zX ht_5)) (qX ht_5) ?_;exact mv E E<|mv E E<|mv E E<|qr E E H7 fun rv Sx_2 H8=>by obtain⟨t_6,t_7,rfl,ht_6,H9⟩:=H8;exact mv E E<|s_p E (zj E E)<|s_p E (zj E E)<|by refine zP E fun b_2=>?_;exact an H9 fun c H10=>zq 1 E E E E E ht_6 qD c<|gv E E<|nx<|zm H10 (fun (J:Mem→Prop) (z:Unit) S=>J S) (fun z=>⟨82,[(0,.pointer (some ⟨b_1,o,none⟩)),(1,.int .i64 n),(10,.int .i64 t_3),(11,.int .i64 t_4),(12,.pointer (some ⟨b_2,0,none⟩))]⟩) (fun z=>[⟨b_2,72,t_6⟩]) (fun _ Sx_3 H11=>csr<|mv E E<|by refine s_v E (zO E ht_6) (zD (k:=96) 0 E (zg ht_6)) ?_;exact s_p E (zT E)<|s_p E (zp E E)<|an H11 fun c_1 H12=>an H12 fun c_2 H13=>zY E E E E ht_6 c_2 c_1<|nx<|zG<|zI (by kernel_rfl)<|aTP 0 E (by decide +kernel) E (zk E)<|by exact aTP 1 E (by decide +kernel) E (zk E)<|by exact aTP 2 E (by decide +kernel) E (zk E)<|by exact aTP 3 E (by decide +kernel) E (zk E)<|by exact aTP 4 E (by decide +kernel) E (zk E)<|by exact an2 H13 fun c_3 c_4 H14=>aTP 5 E (by decide +kernel) E (zz E E c_3 c_4 E)<|by exact aTP 6 E (by decide +kernel) E (zp E E)<|by exact gx H14 fun t_8 ht_8 H15=>aT 7 E (by decide +kernel) E (zA E) (zQ 0 E ht_8)<|by exact aTP 8 E (by decide +kernel) E (zk E)<|by exact an2 H15 fun c_5 c_6 H16=>aTP 9 E (by decide +kernel) E (zz E E c_5 c_6 E)<|by exact aTP 10 E (by decide +kernel) E (zp E E)<|by exact gx H16 fun t_9 ht_9 H17=>aT 11 E (by decide +kernel) E (zA E) (zQ 0 E ht_9)<|by exact aTP 12 E (by decide +kernel) E (zT E)<|by exact aTP 13 E (by decide +kernel) E (zp E E)<|by exact an2 H17 fun c_7 c_8 H18=>aTP 14 E (by decide +kernel) E (zz E E c_7 c_8 E)<|by exact aTP 15 E (by decide +kernel) E (zp E E)<|by exact an2 H18 fun c_9 c_10 H19=>aTP 16 E (by decide +kernel) E (zz E E c_9 c_10 E)<|by exact aTP 17 E (by decide +kernel) E (zp E E)<|by exact gx H19 fun t_10 ht_10 H20=>aT 18 E (by decide +kernel) E (zA E) (qc ht_10)<|by exact aTP 19 E (by decide +kernel) E (zk E)<|by exact an2 H20 fun c_11 c_12 H21=>aTP 20 E (by decide +kernel) E (zz E E c_11 c_12 E)<|by exact aTP 21 E (by decide +kernel) E (zp E E)<|by exact gx H21 fun t_11 ht_11 H22=>aT 22 E (by decide +kernel) E (zA E) (zQ 0 E ht_11)<|by exact aTP 23 E (by decide +kernel) E (zR E E)<|by exact aTP 24 E (by decide +kernel) E (zT E)<|by exact aTP 25 E (by decide +kernel) E (zp E E)<|by exact an2 H22 fun c_13 c_14 H23=>aTP 26 E (by decide +kernel) E (zz E E c_13 c_14 E)<|by exact aTP 27 E (by decide +kernel) E (zp E E)<|by exact an2 H23 fun c_15 c_16 H24=>aTP 28 E (by decide +kernel) E (zz E E c_15 c_16 E)<|by exact zw 29 (by decide +kernel) E<|by exact an H24 fun c_17 H25=>zY E E E E E c_17 E<|zn<|zF zu<|zJ (by decide +kernel)<|by exact zr<|csr<|gv E E<|gv E E<|nx<|zi<|zh Tryz.results186 (zc E (zc E ze)) ⟨_,_,E,H25⟩) (fun Jx hJx H26=>zE<|csr<|mv E E<|iteK H26 (fun c_18 H27=>s_p E (yT (qm E E) c_18)<|gv E E<|nx<|c_t E E<|csr<|mv E E<|gv E E<|gv E E<|nx<|zi<|zl<|zb<|zh Tryz.results186 (zc E (zc E ze)) ⟨_,_,E,H27⟩) fun c_18 H27=>s_p E (yF (qm E E) c_18)<|gv E E<|nx<|c_f E E<|csr<|mv E E<|mv E E<|mv E E<|s_p E (zT E)<|s_p E (zp E E)<|an2 H27 fun c_19 c_20 H28=>s_p E (zz E E c_19 c_20 E)<|s_p E (zp E E)<|an2 H28 fun c_21 c_22 H29=>s_p E (zz E E c_21 c_22 E)<|s_p E (zp E E)<|gx H29 fun t_12 ht_12 H30=>s_v E (zA E) (qc ht_12)<|iteK H30 (fun c_23 H31=>s_p E (yT (zbe (p:=t_12) E E) c_23)<|gv E E<|nx<|c_t E E<|csr<|gv E E<|gv E E<|nx<|zi<|zl<|zb<|zh Tryz.results186 (zc E (zc E ze)) ⟨_,_,E,H31⟩) fun c_23 H31=>s_p E (yF (zbe (p:=t_12) E E) c_23)<|gv E E<|nx<|cfs E E<|zS<|hJx () _ _ _ _ [1] H31 E ⟨E,E,E,E,E,True.intro⟩ E)
def wj (S:Mem) (x:Pt) (n:Int) (t:Int) (s:List Value) (Q:Int→Int→Mem→Prop):Prop:=
 s.length=26 ∧
 nn x fun b_1 o=>
 gA (S.part b_1 (o+656) 96) fun t_1=>
 gI (nthL s 1) .u64 fun t_2=>
 qz S t_2 fun t_3 Sx=>
 Sx.part b_1 (o+656) 96=some t_1 ∧
 yM Sx t_1 t_3 fun t_4 t_5 Sx_1=>
 t_4.all (·.oneCell')=true ∧
 gA (Sx_1.part b_1 (o+656) 96) fun t_6=>
 gI (nthL s 1) .u64 fun t_7=>
 qz Sx_1 t_7 fun t_8 Sx_2=>
 Sx_2.part b_1 (o+656) 96=some t_6 ∧
 vl Sx_2 t_6 t_8 n fun t_9 t_10 Sx_3=>
 t_9.all (·.oneCell')=true ∧
 if t_10=0 then
 t_9.all (·.oneCell')=true ∧
 pt Sx_3 b_1 (o+656) 96 t_9 fun Sx_4=>
 gI (nthL t_4 5) .i64 fun t_11=>
 0≤n∧n<6 ∧
 0≤t_11∧t_11<32 ∧
 pt Sx_4 b_1 (o+2+n.toNat*109+12+t_11.toNat*3) 3 ([.pointer none,.bool false,.bool false]) fun Sx_5=>
 Q 0 t_10 Sx_5
 else
 Q 0 t_10 Sx_3
theorem ff {S:Mem} {x:Pt} {n:Int} {t:Int} {s:List Value} {Q:Int→Int→Mem→Prop} (H:wj S x n t s Q):kG S x n t s Q:=by
 unfold wj at H
 exact Tr.intro Tryz.func187 E Tryz.ntmps187 E fun w0=>an H fun hs H1=>csr<|qI E E E fun b=>gv E E<|gv E E<|nx<|zG<|zI (by kernel_rfl)<|aTP 0 E (by decide +kernel) E (zk E)<|by exact by obtain⟨b_1,o,rfl,H2⟩:=H1;exact aTP 1 E (by decide +kernel) E (zT E)<|by exact aTP 2 E (by decide +kernel) E (zp E E)<|by exact gx H2 fun t_1 ht_1 H3=>by refine aT 3 E (by decide +kernel) E (zO E (zX ht_1)) (qX ht_1) ?_;exact aTP 4 E (by decide +kernel) E (zp E E)<|by exact aTP 5 E (by decide +kernel) E (xC (m:=1) E E (by decide) (by decide) (by decide))<|by exact gx H3 fun t_2 ht_2 H4=>aT 6 E (by decide +kernel) E (zA E) (zQ 0 E ht_2)<|by exact vg 7 12 (by decide +kernel) E E (qM E E H4 fun t_3 Sx H5=>by obtain⟨k,H6⟩:=H5;exact zn<|zF (zB (qX k) zu)<|vg 8 12 (by decide +kernel) E E (qr E E H6 fun rv Sx_1 H7=>by obtain⟨t_4,t_5,rfl,ht_4,H8⟩:=H7;exact zn<|zF zu<|aTP 9 E (by decide +kernel) E (zk E)<|by exact aTP 10 E (by decide +kernel) E (zj E E)<|by exact aTP 11 E (by decide +kernel) E (zj E E)<|by exact zw 12 (by decide +kernel) E<|by exact by refine zP E fun b_2=>?_;exact zn<|zF zu<|zw 13 (by decide +kernel) E<|by exact an H8 fun c H9=>zq 1 E E E E E ht_4 E c<|zn<|zF zu<|aTP 14 E (by decide +kernel) E (zM E)<|by exact zJ (by decide +kernel)<|by exact zr<|zG<|zI (by kernel_rfl)<|aTP 0 E (by decide +kernel) E (zk E)<|by exact aTP 1 E (by decide +kernel) E (zT E)<|by exact aTP 2 E (by decide +kernel) E (zp E E)<|by exact gx H9 fun t_6 ht_6 H10=>by refine aT 3 E (by decide +kernel) E (zO E (zX ht_6)) (qX ht_6) ?_;exact aTP 4 E (by decide +kernel) E (zp E E)<|by exact aTP 5 E (by decide +kernel) E (xC (m:=1) E E (by decide) (by decide) (by decide))<|by exact gx H10 fun t_7 ht_7 H11=>aT 6 E (by decide +kernel) E (zA E) (zQ 0 E ht_7)<|by exact aTP 8 E (by decide +kernel) E (zk E)<|by exact vg 7 13 (by decide +kernel) E E (qM E E H11 fun t_8 Sx_2 H12=>by obtain⟨k_1,H13⟩:=H12;exact zn<|zF (zB (qX k_1) zu)<|vg 9 13 (by decide +kernel) E E (qr E E H13 fun rv Sx_3 H14=>by obtain⟨t_9,t_10,rfl,ht_9,H15⟩:=H14;exact zn<|zF zu<|aTP 10 E (by decide +kernel) E (zk E)<|by exact aTP 11 E (by decide +kernel) E (zj E E)<|by exact aTP 12 E (by decide +kernel) E (zj E E)<|by exact zw 13 (by decide +kernel) E<|by exact by refine zP E fun b_3=>?_;exact zn<|zF zu<|zw 14 (by decide +kernel) E<|by exact an H15 fun c_1 H16=>zq 2 E E E E E ht_9 qD c_1<|zn<|zF zu<|aTP 15 E (by decide +kernel) E (zM E)<|by exact zJ (by decide +kernel)<|by exact zr<|zG<|csr<|mv E E<|iteK H16 (fun c_2 H17=>ceT E E E (c_2)<|nx<|c_t E E<|csr<|mv E E<|by refine s_v E (zO E ht_9) (zD (k:=96) 2 E (zg ht_9)) ?_;exact s_p E (zT E)<|s_p E (zp E E)<|an H17 fun c_3 H18=>an H18 fun c_4 H19=>zY E E E E ht_9 c_4 c_3<|nx<|zI (by kernel_rfl)<|aTP 0 E (by decide +kernel) E (zk E)<|by exact aTP 1 E (by decide +kernel) E (zk E)<|by exact aTP 2 E (by decide +kernel) E (zp E E)<|by exact gx H19 fun t_11 ht_11 H20=>aT 3 E (by decide +kernel) E (zA E) (zQ 1 E ht_11)<|by exact aTP 4 E (by decide +kernel) E (zR E E)<|by exact aTP 5 E (by decide +kernel) E (zT E)<|by exact aTP 6 E (by decide +kernel) E (zp E E)<|by exact an2 H20 fun c_5 c_6 H21=>aTP 7 E (by decide +kernel) E (zz E E c_5 c_6 E)<|by exact aTP 8 E (by decide +kernel) E (zp E E)<|by exact an2 H21 fun c_7 c_8 H22=>aTP 9 E (by decide +kernel) E (zz E E c_7 c_8 E)<|by exact zw 10 (by decide +kernel) E<|by exact an H22 fun c_9 H23=>zY E E E E E c_9 E<|zn<|zF zu<|zJ (by decide +kernel)<|by exact zr<|csr<|mv E E<|gv E E<|gv E E<|nx<|zi<|zh Tryz.results187 (zc E (zc E ze)) ⟨_,_,E,H23⟩) fun c_2 H17=>ceF E E E (c_2)<|nx<|cfs E E<|zr<|csr<|mv E E<|gv E E<|gv E E<|nx<|zi<|zh Tryz.results187 (zc E (zc E ze)) ⟨_,_,E,H17⟩) (by refine zP E fun b_3=>?_;exact zn<|zF (zB (qX k_1) zu)<|zw 9 (by decide +kernel) E<|by exact qr E E H13 fun rv Sx_3 H24=>by obtain⟨t_9,t_10,rfl,ht_9,H25⟩:=H24;exact zn<|zF zu<|aTP 10 E (by decide +kernel) E (zk E)<|by exact aTP 11 E (by decide +kernel) E (zj E E)<|by exact aTP 12 E (by decide +kernel) E (zj E E)<|by exact zw 14 (by decide +kernel) E<|by exact an H25 fun c_1 H26=>zq 2 E E E E E ht_9 qD c_1<|zn<|zF zu<|aTP 15 E (by decide +kernel) E (zM E)<|by exact zJ (by decide +kernel)<|by exact zr<|zG<|csr<|mv E E<|iteK H26 (fun c_2 H27=>ceT E E E (c_2)<|nx<|c_t E E<|csr<|mv E E<|by refine s_v E (zO E ht_9) (zD (k:=96) 2 E (zg ht_9)) ?_;exact s_p E (zT E)<|s_p E (zp E E)<|an H27 fun c_3 H28=>an H28 fun c_4 H29=>zY E E E E ht_9 c_4 c_3<|nx<|zI (by kernel_rfl)<|aTP 0 E (by decide +kernel) E (zk E)<|by exact aTP 1 E (by decide +kernel) E (zk E)<|by exact aTP 2 E (by decide +kernel) E (zp E E)<|by exact gx H29 fun t_11 ht_11 H30=>aT 3 E (by decide +kernel) E (zA E) (zQ 1 E ht_11)<|by exact aTP 4 E (by decide +kernel) E (zR E E)<|by exact aTP 5 E (by decide +kernel) E (zT E)<|by exact aTP 6 E (by decide +kernel) E (zp E E)<|by exact an2 H30 fun c_5 c_6 H31=>aTP 7 E (by decide +kernel) E (zz E E c_5 c_6 E)<|by exact aTP 8 E (by decide +kernel) E (zp E E)<|by exact an2 H31 fun c_7 c_8 H32=>aTP 9 E (by decide +kernel) E (zz E E c_7 c_8 E)<|by exact zw 10 (by decide +kernel) E<|by exact an H32 fun c_9 H33=>zY E E E E E c_9 E<|zn<|zF zu<|zJ (by decide +kernel)<|by exact zr<|csr<|mv E E<|gv E E<|gv E E<|nx<|zi<|zh Tryz.results187 (zc E (zc E ze)) ⟨_,_,E,H33⟩) fun c_2 H27=>ceF E E E (c_2)<|nx<|cfs E E<|zr<|csr<|mv E E<|gv E E<|gv E E<|nx<|zi<|zh Tryz.results187 (zc E (zc E ze)) ⟨_,_,E,H27⟩)) (by refine zP E fun b_3=>?_;exact zn<|zF (zB (zQ 0 E ht_7) (zB (qX ht_6) zu))<|zw 7 (by decide +kernel) E<|by exact qM E E H11 fun t_8 Sx_2 H34=>by obtain⟨k_1,H35⟩:=H34;exact zn<|zF (zB (qX k_1) zu)<|zw 9 (by decide +kernel) E<|by exact qr E E H35 fun rv Sx_3 H36=>by obtain⟨t_9,t_10,rfl,ht_9,H37⟩:=H36;exact zn<|zF zu<|aTP 10 E (by decide +kernel) E (zk E)<|by exact aTP 11 E (by decide +kernel) E (zj E E)<|by exact aTP 12 E (by decide +kernel) E (zj E E)<|by exact zw 14 (by decide +kernel) E<|by exact an H37 fun c_1 H38=>zq 2 E E E E E ht_9 qD c_1<|zn<|zF zu<|aTP 15 E (by decide +kernel) E (zM E)<|by exact zJ (by decide +kernel)<|by exact zr<|zG<|csr<|mv E E<|iteK H38 (fun c_2 H39=>ceT E E E (c_2)<|nx<|c_t E E<|csr<|mv E E<|by refine s_v E (zO E ht_9) (zD (k:=96) 2 E (zg ht_9)) ?_;exact s_p E (zT E)<|s_p E (zp E E)<|an H39 fun c_3 H40=>an H40 fun c_4 H41=>zY E E E E ht_9 c_4 c_3<|nx<|zI (by kernel_rfl)<|aTP 0 E (by decide +kernel) E (zk E)<|by exact aTP 1 E (by decide +kernel) E (zk E)<|by exact aTP 2 E (by decide +kernel) E (zp E E)<|by exact gx H41 fun t_11 ht_11 H42=>aT 3 E (by decide +kernel) E (zA E) (zQ 1 E ht_11)<|by exact aTP 4 E (by decide +kernel) E (zR E E)<|by exact aTP 5 E (by decide +kernel) E (zT E)<|by exact aTP 6 E (by decide +kernel) E (zp E E)<|by exact an2 H42 fun c_5 c_6 H43=>aTP 7 E (by decide +kernel) E (zz E E c_5 c_6 E)<|by exact aTP 8 E (by decide +kernel) E (zp E E)<|by exact an2 H43 fun c_7 c_8 H44=>aTP 9 E (by decide +kernel) E (zz E E c_7 c_8 E)<|by exact zw 10 (by decide +kernel) E<|by exact an H44 fun c_9 H45=>zY E E E E E c_9 E<|zn<|zF zu<|zJ (by decide +kernel)<|by exact zr<|csr<|mv E E<|gv E E<|gv E E<|nx<|zi<|zh Tryz.results187 (zc E (zc E ze)) ⟨_,_,E,H45⟩) fun c_2 H39=>ceF E E E (c_2)<|nx<|cfs E E<|zr<|csr<|mv E E<|gv E E<|gv E E<|nx<|zi<|zh Tryz.results187 (zc E (zc E ze)) ⟨_,_,E,H39⟩)) (by refine zP E fun b_2=>?_;exact zn<|zF (zB (qX k) zu)<|zw 8 (by decide +kernel) E<|by exact qr E E H6 fun rv Sx_1 H46=>by obtain⟨t_4,t_5,rfl,ht_4,H47⟩:=H46;exact zn<|zF zu<|aTP 9 E (by decide +kernel) E (zk E)<|by exact aTP 10 E (by decide +kernel) E (zj E E)<|by exact aTP 11 E (by decide +kernel) E (zj E E)<|by exact zw 13 (by decide +kernel) E<|by exact an H47 fun c H48=>zq 1 E E E E E ht_4 E c<|zn<|zF zu<|aTP 14 E (by decide +kernel) E (zM E)<|by exact zJ (by decide +kernel)<|by exact zr<|zG<|zI (by kernel_rfl)<|aTP 0 E (by decide +kernel) E (zk E)<|by exact aTP 1 E (by decide +kernel) E (zT E)<|by exact aTP 2 E (by decide +kernel) E (zp E E)<|by exact gx H48 fun t_6 ht_6 H49=>by refine aT 3 E (by decide +kernel) E (zO E (zX ht_6)) (qX ht_6) ?_;exact aTP 4 E (by decide +kernel) E (zp E E)<|by exact aTP 5 E (by decide +kernel) E (xC (m:=1) E E (by decide) (by decide) (by decide))<|by exact gx H49 fun t_7 ht_7 H50=>aT 6 E (by decide +kernel) E (zA E) (zQ 0 E ht_7)<|by exact aTP 8 E (by decide +kernel) E (zk E)<|by exact vg 7 13 (by decide +kernel) E E (qM E E H50 fun t_8 Sx_2 H51=>by obtain⟨k_1,H52⟩:=H51;exact zn<|zF (zB (qX k_1) zu)<|vg 9 13 (by decide +kernel) E E (qr E E H52 fun rv Sx_3 H53=>by obtain⟨t_9,t_10,rfl,ht_9,H54⟩:=H53;exact zn<|zF zu<|aTP 10 E (by decide +kernel) E (zk E)<|by exact aTP 11 E (by decide +kernel) E (zj E E)<|by exact aTP 12 E (by decide +kernel) E (zj E E)<|by exact zw 13 (by decide +kernel) E<|by exact by refine zP E fun b_3=>?_;exact zn<|zF zu<|zw 14 (by decide +kernel) E<|by exact an H54 fun c_1 H55=>zq 2 E E E E E ht_9 qD c_1<|zn<|zF zu<|aTP 15 E (by decide +kernel) E (zM E)<|by exact zJ (by decide +kernel)<|by exact zr<|zG<|csr<|mv E E<|iteK H55 (fun c_2 H56=>ceT E E E (c_2)<|nx<|c_t E E<|csr<|mv E E<|by refine s_v E (zO E ht_9) (zD (k:=96) 2 E (zg ht_9)) ?_;exact s_p E (zT E)<|s_p E (zp E E)<|an H56 fun c_3 H57=>an H57 fun c_4 H58=>zY E E E E ht_9 c_4 c_3<|nx<|zI (by kernel_rfl)<|aTP 0 E (by decide +kernel) E (zk E)<|by exact aTP 1 E (by decide +kernel) E (zk E)<|by exact aTP 2 E (by decide +kernel) E (zp E E)<|by exact gx H58 fun t_11 ht_11 H59=>aT 3 E (by decide +kernel) E (zA E) (zQ 1 E ht_11)<|by exact aTP 4 E (by decide +kernel) E (zR E E)<|by exact aTP 5 E (by decide +kernel) E (zT E)<|by exact aTP 6 E (by decide +kernel) E (zp E E)<|by exact an2 H59 fun c_5 c_6 H60=>aTP 7 E (by decide +kernel) E (zz E E c_5 c_6 E)<|by exact aTP 8 E (by decide +kernel) E (zp E E)<|by exact an2 H60 fun c_7 c_8 H61=>aTP 9 E (by decide +kernel) E (zz E E c_7 c_8 E)<|by exact zw 10 (by decide +kernel) E<|by exact an H61 fun c_9 H62=>zY E E E E E c_9 E<|zn<|zF zu<|zJ (by decide +kernel)<|by exact zr<|csr<|mv E E<|gv E E<|gv E E<|nx<|zi<|zh Tryz.results187 (zc E (zc E ze)) ⟨_,_,E,H62⟩) fun c_2 H56=>ceF E E E (c_2)<|nx<|cfs E E<|zr<|csr<|mv E E<|gv E E<|gv E E<|nx<|zi<|zh Tryz.results187 (zc E (zc E ze)) ⟨_,_,E,H56⟩) (by refine zP E fun b_3=>?_;exact zn<|zF (zB (qX k_1) zu)<|zw 9 (by decide +kernel) E<|by exact qr E E H52 fun rv Sx_3 H63=>by obtain⟨t_9,t_10,rfl,ht_9,H64⟩:=H63;exact zn<|zF zu<|aTP 10 E (by decide +kernel) E (zk E)<|by exact aTP 11 E (by decide +kernel) E (zj E E)<|by exact aTP 12 E (by decide +kernel) E (zj E E)<|by exact zw 14 (by decide +kernel) E<|by exact an H64 fun c_1 H65=>zq 2 E E E E E ht_9 qD c_1<|zn<|zF zu<|aTP 15 E (by decide +kernel) E (zM E)<|by exact zJ (by decide +kernel)<|by exact zr<|zG<|csr<|mv E E<|iteK H65 (fun c_2 H66=>ceT E E E (c_2)<|nx<|c_t E E<|csr<|mv E E<|by refine s_v E (zO E ht_9) (zD (k:=96) 2 E (zg ht_9)) ?_;exact s_p E (zT E)<|s_p E (zp E E)<|an H66 fun c_3 H67=>an H67 fun c_4 H68=>zY E E E E ht_9 c_4 c_3<|nx<|zI (by kernel_rfl)<|aTP 0 E (by decide +kernel) E (zk E)<|by exact aTP 1 E (by decide +kernel) E (zk E)<|by exact aTP 2 E (by decide +kernel) E (zp E E)<|by exact gx H68 fun t_11 ht_11 H69=>aT 3 E (by decide +kernel) E (zA E) (zQ 1 E ht_11)<|by exact aTP 4 E (by decide +kernel) E (zR E E)<|by exact aTP 5 E (by decide +kernel) E (zT E)<|by exact aTP 6 E (by decide +kernel) E (zp E E)<|by exact an2 H69 fun c_5 c_6 H70=>aTP 7 E (by decide +kernel) E (zz E E c_5 c_6 E)<|by exact aTP 8 E (by decide +kernel) E (zp E E)<|by exact an2 H70 fun c_7 c_8 H71=>aTP 9 E (by decide +kernel) E (zz E E c_7 c_8 E)<|by exact zw 10 (by decide +kernel) E<|by exact an H71 fun c_9 H72=>zY E E E E E c_9 E<|zn<|zF zu<|zJ (by decide +kernel)<|by exact zr<|csr<|mv E E<|gv E E<|gv E E<|nx<|zi<|zh Tryz.results187 (zc E (zc E ze)) ⟨_,_,E,H72⟩) fun c_2 H66=>ceF E E E (c_2)<|nx<|cfs E E<|zr<|csr<|mv E E<|gv E E<|gv E E<|nx<|zi<|zh Tryz.results187 (zc E (zc E ze)) ⟨_,_,E,H66⟩)) (by refine zP E fun b_3=>?_;exact zn<|zF (zB (zQ 0 E ht_7) (zB (qX ht_6) zu))<|zw 7 (by decide +kernel) E<|by exact qM E E H50 fun t_8 Sx_2 H73=>by obtain⟨k_1,H74⟩:=H73;exact zn<|zF (zB (qX k_1) zu)<|zw 9 (by decide +kernel) E<|by exact qr E E H74 fun rv Sx_3 H75=>by obtain⟨t_9,t_10,rfl,ht_9,H76⟩:=H75;exact zn<|zF zu<|aTP 10 E (by decide +kernel) E (zk E)<|by exact aTP 11 E (by decide +kernel) E (zj E E)<|by exact aTP 12 E (by decide +kernel) E (zj E E)<|by exact zw 14 (by decide +kernel) E<|by exact an H76 fun c_1 H77=>zq 2 E E E E E ht_9 qD c_1<|zn<|zF zu<|aTP 15 E (by decide +kernel) E (zM E)<|by exact zJ (by decide +kernel)<|by exact zr<|zG<|csr<|mv E E<|iteK H77 (fun c_2 H78=>ceT E E E (c_2)<|nx<|c_t E E<|csr<|mv E E<|by refine s_v E (zO E ht_9) (zD (k:=96) 2 E (zg ht_9)) ?_;exact s_p E (zT E)<|s_p E (zp E E)<|an H78 fun c_3 H79=>an H79 fun c_4 H80=>zY E E E E ht_9 c_4 c_3<|nx<|zI (by kernel_rfl)<|aTP 0 E (by decide +kernel) E (zk E)<|by exact aTP 1 E (by decide +kernel) E (zk E)<|by exact aTP 2 E (by decide +kernel) E (zp E E)<|by exact gx H80 fun t_11 ht_11 H81=>aT 3 E (by decide +kernel) E (zA E) (zQ 1 E ht_11)<|by exact aTP 4 E (by decide +kernel) E (zR E E)<|by exact aTP 5 E (by decide +kernel) E (zT E)<|by exact aTP 6 E (by decide +kernel) E (zp E E)<|by exact an2 H81 fun c_5 c_6 H82=>aTP 7 E (by decide +kernel) E (zz E E c_5 c_6 E)<|by exact aTP 8 E (by decide +kernel) E (zp E E)<|by exact an2 H82 fun c_7 c_8 H83=>aTP 9 E (by decide +kernel) E (zz E E c_7 c_8 E)<|by exact zw 10 (by decide +kernel) E<|by exact an H83 fun c_9 H84=>zY E E E E E c_9 E<|zn<|zF zu<|zJ (by decide +kernel)<|by exact zr<|csr<|mv E E<|gv E E<|gv E E<|nx<|zi<|zh Tryz.results187 (zc E (zc E ze)) ⟨_,_,E,H84⟩) fun c_2 H78=>ceF E E E (c_2)<|nx<|cfs E E<|zr<|csr<|mv E E<|gv E E<|gv E E<|nx<|zi<|zh Tryz.results187 (zc E (zc E ze)) ⟨_,_,E,H78⟩))) (by refine zP E fun b_2=>?_;exact zn<|zF (zB (zQ 0 E ht_2) (zB (qX ht_1) zu))<|zw 7 (by decide +kernel) E<|by exact qM E E H4 fun t_3 Sx H85=>by obtain⟨k,H86⟩:=H85;exact zn<|zF (zB (qX k) zu)<|zw 8 (by decide +kernel) E<|by exact qr E E H86 fun rv Sx_1 H87=>by obtain⟨t_4,t_5,rfl,ht_4,H88⟩:=H87;exact zn<|zF zu<|aTP 9 E (by decide +kernel) E (zk E)<|by exact aTP 10 E (by decide +kernel) E (zj E E)<|by exact aTP 11 E (by decide +kernel) E (zj E E)<|by exact zw 13 (by decide +kernel) E<|by exact an H88 fun c H89=>zq 1 E E E E E ht_4 E c<|zn<|zF zu<|aTP 14 E (by decide +kernel) E (zM E)<|by exact zJ (by decide +kernel)<|by exact zr<|zG<|zI (by kernel_rfl)<|aTP 0 E (by decide +kernel) E (zk E)<|by exact aTP 1 E (by decide +kernel) E (zT E)<|by exact aTP 2 E (by decide +kernel) E (zp E E)<|by exact gx H89 fun t_6 ht_6 H90=>by refine aT 3 E (by decide +kernel) E (zO E (zX ht_6)) (qX ht_6) ?_;exact aTP 4 E (by decide +kernel) E (zp E E)<|by exact aTP 5 E (by decide +kernel) E (xC (m:=1) E E (by decide) (by decide) (by decide))<|by exact gx H90 fun t_7 ht_7 H91=>aT 6 E (by decide +kernel) E (zA E) (zQ 0 E ht_7)<|by exact aTP 8 E (by decide +kernel) E (zk E)<|by exact vg 7 13 (by decide +kernel) E E (qM E E H91 fun t_8 Sx_2 H92=>by obtain⟨k_1,H93⟩:=H92;exact zn<|zF (zB (qX k_1) zu)<|vg 9 13 (by decide +kernel) E E (qr E E H93 fun rv Sx_3 H94=>by obtain⟨t_9,t_10,rfl,ht_9,H95⟩:=H94;exact zn<|zF zu<|aTP 10 E (by decide +kernel) E (zk E)<|by exact aTP 11 E (by decide +kernel) E (zj E E)<|by exact aTP 12 E (by decide +kernel) E (zj E E)<|by exact zw 13 (by decide +kernel) E<|by exact by refine zP E fun b_3=>?_;exact zn<|zF zu<|zw 14 (by decide +kernel) E<|by exact an H95 fun c_1 H96=>zq 2 E E E E E ht_9 qD c_1<|zn<|zF zu<|aTP 15 E (by decide +kernel) E (zM E)<|by exact zJ (by decide +kernel)<|by exact zr<|zG<|csr<|mv E E<|iteK H96 (fun c_2 H97=>ceT E E E (c_2)<|nx<|c_t E E<|csr<|mv E E<|by refine s_v E (zO E ht_9) (zD (k:=96) 2 E (zg ht_9)) ?_;exact s_p E (zT E)<|s_p E (zp E E)<|an H97 fun c_3 H98=>an H98 fun c_4 H99=>zY E E E E ht_9 c_4 c_3<|nx<|zI (by kernel_rfl)<|aTP 0 E (by decide +kernel) E (zk E)<|by exact aTP 1 E (by decide +kernel) E (zk E)<|by exact aTP 2 E (by decide +kernel) E (zp E E)<|by exact gx H99 fun t_11 ht_11 H100=>aT 3 E (by decide +kernel) E (zA E) (zQ 1 E ht_11)<|by exact aTP 4 E (by decide +kernel) E (zR E E)<|by exact aTP 5 E (by decide +kernel) E (zT E)<|by exact aTP 6 E (by decide +kernel) E (zp E E)<|by exact an2 H100 fun c_5 c_6 H101=>aTP 7 E (by decide +kernel) E (zz E E c_5 c_6 E)<|by exact aTP 8 E (by decide +kernel) E (zp E E)<|by exact an2 H101 fun c_7 c_8 H102=>aTP 9 E (by decide +kernel) E (zz E E c_7 c_8 E)<|by exact zw 10 (by decide +kernel) E<|by exact an H102 fun c_9 H103=>zY E E E E E c_9 E<|zn<|zF zu<|zJ (by decide +kernel)<|by exact zr<|csr<|mv E E<|gv E E<|gv E E<|nx<|zi<|zh Tryz.results187 (zc E (zc E ze)) ⟨_,_,E,H103⟩) fun c_2 H97=>ceF E E E (c_2)<|nx<|cfs E E<|zr<|csr<|mv E E<|gv E E<|gv E E<|nx<|zi<|zh Tryz.results187 (zc E (zc E ze)) ⟨_,_,E,H97⟩) (by refine zP E fun b_3=>?_;exact zn<|zF (zB (qX k_1) zu)<|zw 9 (by decide +kernel) E<|by exact qr E E H93 fun rv Sx_3 H104=>by obtain⟨t_9,t_10,rfl,ht_9,H105⟩:=H104;exact zn<|zF zu<|aTP 10 E (by decide +kernel) E (zk E)<|by exact aTP 11 E (by decide +kernel) E (zj E E)<|by exact aTP 12 E (by decide +kernel) E (zj E E)<|by exact zw 14 (by decide +kernel) E<|by exact an H105 fun c_1 H106=>zq 2 E E E E E ht_9 qD c_1<|zn<|zF zu<|aTP 15 E (by decide +kernel) E (zM E)<|by exact zJ (by decide +kernel)<|by exact zr<|zG<|csr<|mv E E<|iteK H106 (fun c_2 H107=>ceT E E E (c_2)<|nx<|c_t E E<|csr<|mv E E<|by refine s_v E (zO E ht_9) (zD (k:=96) 2 E (zg ht_9)) ?_;exact s_p E (zT E)<|s_p E (zp E E)<|an H107 fun c_3 H108=>an H108 fun c_4 H109=>zY E E E E ht_9 c_4 c_3<|nx<|zI (by kernel_rfl)<|aTP 0 E (by decide +kernel) E (zk E)<|by exact aTP 1 E (by decide +kernel) E (zk E)<|by exact aTP 2 E (by decide +kernel) E (zp E E)<|by exact gx H109 fun t_11 ht_11 H110=>aT 3 E (by decide +kernel) E (zA E) (zQ 1 E ht_11)<|by exact aTP 4 E (by decide +kernel) E (zR E E)<|by exact aTP 5 E (by decide +kernel) E (zT E)<|by exact aTP 6 E (by decide +kernel) E (zp E E)<|by exact an2 H110 fun c_5 c_6 H111=>aTP 7 E (by decide +kernel) E (zz E E c_5 c_6 E)<|by exact aTP 8 E (by decide +kernel) E (zp E E)<|by exact an2 H111 fun c_7 c_8 H112=>aTP 9 E (by decide +kernel) E (zz E E c_7 c_8 E)<|by exact zw 10 (by decide +kernel) E<|by exact an H112 fun c_9 H113=>zY E E E E E c_9 E<|zn<|zF zu<|zJ (by decide +kernel)<|by exact zr<|csr<|mv E E<|gv E E<|gv E E<|nx<|zi<|zh Tryz.results187 (zc E (zc E ze)) ⟨_,_,E,H113⟩) fun c_2 H107=>ceF E E E (c_2)<|nx<|cfs E E<|zr<|csr<|mv E E<|gv E E<|gv E E<|nx<|zi<|zh Tryz.results187 (zc E (zc E ze)) ⟨_,_,E,H107⟩)) (by refine zP E fun b_3=>?_;exact zn<|zF (zB (zQ 0 E ht_7) (zB (qX ht_6) zu))<|zw 7 (by decide +kernel) E<|by exact qM E E H91 fun t_8 Sx_2 H114=>by obtain⟨k_1,H115⟩:=H114;exact zn<|zF (zB (qX k_1) zu)<|zw 9 (by decide +kernel) E<|by exact qr E E H115 fun rv Sx_3 H116=>by obtain⟨t_9,t_10,rfl,ht_9,H117⟩:=H116;exact zn<|zF zu<|aTP 10 E (by decide +kernel) E (zk E)<|by exact aTP 11 E (by decide +kernel) E (zj E E)<|by exact aTP 12 E (by decide +kernel) E (zj E E)<|by exact zw 14 (by decide +kernel) E<|by exact an H117 fun c_1 H118=>zq 2 E E E E E ht_9 qD c_1<|zn<|zF zu<|aTP 15 E (by decide +kernel) E (zM E)<|by exact zJ (by decide +kernel)<|by exact zr<|zG<|csr<|mv E E<|iteK H118 (fun c_2 H119=>ceT E E E (c_2)<|nx<|c_t E E<|csr<|mv E E<|by refine s_v E (zO E ht_9) (zD (k:=96) 2 E (zg ht_9)) ?_;exact s_p E (zT E)<|s_p E (zp E E)<|an H119 fun c_3 H120=>an H120 fun c_4 H121=>zY E E E E ht_9 c_4 c_3<|nx<|zI (by kernel_rfl)<|aTP 0 E (by decide +kernel) E (zk E)<|by exact aTP 1 E (by decide +kernel) E (zk E)<|by exact aTP 2 E (by decide +kernel) E (zp E E)<|by exact gx H121 fun t_11 ht_11 H122=>aT 3 E (by decide +kernel) E (zA E) (zQ 1 E ht_11)<|by exact aTP 4 E (by decide +kernel) E (zR E E)<|by exact aTP 5 E (by decide +kernel) E (zT E)<|by exact aTP 6 E (by decide +kernel) E (zp E E)<|by exact an2 H122 fun c_5 c_6 H123=>aTP 7 E (by decide +kernel) E (zz E E c_5 c_6 E)<|by exact aTP 8 E (by decide +kernel) E (zp E E)<|by exact an2 H123 fun c_7 c_8 H124=>aTP 9 E (by decide +kernel) E (zz E E c_7 c_8 E)<|by exact zw 10 (by decide +kernel) E<|by exact an H124 fun c_9 H125=>zY E E E E E c_9 E<|zn<|zF zu<|zJ (by decide +kernel)<|by exact zr<|csr<|mv E E<|gv E E<|gv E E<|nx<|zi<|zh Tryz.results187 (zc E (zc E ze)) ⟨_,_,E,H125⟩) fun c_2 H119=>ceF E E E (c_2)<|nx<|cfs E E<|zr<|csr<|mv E E<|gv E E<|gv E E<|nx<|zi<|zh Tryz.results187 (zc E (zc E ze)) ⟨_,_,E,H119⟩))
def yP (S:Mem) (x:Pt) (n:Int) (t:Int) (s:List Value) (Q:Int→Int→Mem→Prop):Prop:=
 s.length=26 ∧
 nn x fun b_1 o=>
 gA (S.part b_1 (o+656) 96) fun t_1=>
 gI (nthL s 1) .u64 fun t_2=>
 qz S t_2 fun t_3 Sx=>
 Sx.part b_1 (o+656) 96=some t_1 ∧
 xY Sx t_1 t_3 n fun t_4 t_5 Sx_1=>
 t_4.all (·.oneCell')=true ∧
 if t_5=0 then
 t_4.all (·.oneCell')=true ∧
 pt Sx_1 b_1 (o+656) 96 t_4 fun Sx_2=>
 Q 0 t_5 Sx_2
 else
 Q 0 t_5 Sx_1
theorem jA {S:Mem} {x:Pt} {n:Int} {t:Int} {s:List Value} {Q:Int→Int→Mem→Prop} (H:yP S x n t s Q):vy S x n t s Q:=by
 unfold yP at H
 exact Tr.intro Tryz.func188 E Tryz.ntmps188 E fun w0=>an H fun hs H1=>csr<|qI E E E fun b=>gv E E<|gv E E<|nx<|zG<|zI (by kernel_rfl)<|aTP 0 E (by decide +kernel) E (zk E)<|by exact by obtain⟨b_1,o,rfl,H2⟩:=H1;exact aTP 1 E (by decide +kernel) E (zT E)<|by exact aTP 2 E (by decide +kernel) E (zp E E)<|by exact gx H2 fun t_1 ht_1 H3=>by refine aT 3 E (by decide +kernel) E (zO E (zX ht_1)) (qX ht_1) ?_;exact aTP 4 E (by decide +kernel) E (zp E E)<|by exact aTP 5 E (by decide +kernel) E (xC (m:=1) E E (by decide) (by decide) (by decide))<|by exact gx H3 fun t_2 ht_2 H4=>aT 6 E (by decide +kernel) E (zA E) (zQ 0 E ht_2)<|by exact aTP 8 E (by decide +kernel) E (zk E)<|by exact vg 7 13 (by decide +kernel) E E (qM E E H4 fun t_3 Sx H5=>by obtain⟨k,H6⟩:=H5;exact zn<|zF (zB (qX k) zu)<|vg 9 13 (by decide +kernel) E E (qr E E H6 fun rv Sx_1 H7=>by obtain⟨t_4,t_5,rfl,ht_4,H8⟩:=H7;exact zn<|zF zu<|aTP 10 E (by decide +kernel) E (zk E)<|by exact aTP 11 E (by decide +kernel) E (zj E E)<|by exact aTP 12 E (by decide +kernel) E (zj E E)<|by exact zw 13 (by decide +kernel) E<|by exact by refine zP E fun b_2=>?_;exact zn<|zF zu<|zw 14 (by decide +kernel) E<|by exact an H8 fun c H9=>zq 1 E E E E E ht_4 qD c<|zn<|zF zu<|aTP 15 E (by decide +kernel) E (zM E)<|by exact zJ (by decide +kernel)<|by exact zr<|zG<|csr<|mv E E<|iteK H9 (fun c_1 H10=>ceT E E E (c_1)<|nx<|ctr E E<|mv E E<|by refine s_v E (zO E ht_4) (zD (k:=96) 1 E (zg ht_4)) ?_;exact s_p E (zT E)<|s_p E (zp E E)<|an H10 fun c_2 H11=>an H11 fun c_3 H12=>zY E E E E ht_4 c_3 c_2<|nxr<|mv E E<|gv E E<|gv E E<|nx<|zi<|zh Tryz.results188 (zc E (zc E ze)) ⟨_,_,E,H12⟩) fun c_1 H10=>ceF E E E (c_1)<|nx<|cfs E E<|zr<|csr<|mv E E<|gv E E<|gv E E<|nx<|zi<|zh Tryz.results188 (zc E (zc E ze)) ⟨_,_,E,H10⟩) (by refine zP E fun b_2=>?_;exact zn<|zF (zB (qX k) zu)<|zw 9 (by decide +kernel) E<|by exact qr E E H6 fun rv Sx_1 H13=>by obtain⟨t_4,t_5,rfl,ht_4,H14⟩:=H13;exact zn<|zF zu<|aTP 10 E (by decide +kernel) E (zk E)<|by exact aTP 11 E (by decide +kernel) E (zj E E)<|by exact aTP 12 E (by decide +kernel) E (zj E E)<|by exact zw 14 (by decide +kernel) E<|by exact an H14 fun c H15=>zq 1 E E E E E ht_4 qD c<|zn<|zF zu<|aTP 15 E (by decide +kernel) E (zM E)<|by exact zJ (by decide +kernel)<|by exact zr<|zG<|csr<|mv E E<|iteK H15 (fun c_1 H16=>ceT E E E (c_1)<|nx<|ctr E E<|mv E E<|by refine s_v E (zO E ht_4) (zD (k:=96) 1 E (zg ht_4)) ?_;exact s_p E (zT E)<|s_p E (zp E E)<|an H16 fun c_2 H17=>an H17 fun c_3 H18=>zY E E E E ht_4 c_3 c_2<|nxr<|mv E E<|gv E E<|gv E E<|nx<|zi<|zh Tryz.results188 (zc E (zc E ze)) ⟨_,_,E,H18⟩) fun c_1 H16=>ceF E E E (c_1)<|nx<|cfs E E<|zr<|csr<|mv E E<|gv E E<|gv E E<|nx<|zi<|zh Tryz.results188 (zc E (zc E ze)) ⟨_,_,E,H16⟩)) (by refine zP E fun b_2=>?_;exact zn<|zF (zB (zQ 0 E ht_2) (zB (qX ht_1) zu))<|zw 7 (by decide +kernel) E<|by exact qM E E H4 fun t_3 Sx H19=>by obtain⟨k,H20⟩:=H19;exact zn<|zF (zB (qX k) zu)<|zw 9 (by decide +kernel) E<|by exact qr E E H20 fun rv Sx_1 H21=>by obtain⟨t_4,t_5,rfl,ht_4,H22⟩:=H21;exact zn<|zF zu<|aTP 10 E (by decide +kernel) E (zk E)<|by exact aTP 11 E (by decide +kernel) E (zj E E)<|by exact aTP 12 E (by decide +kernel) E (zj E E)<|by exact zw 14 (by decide +kernel) E<|by exact an H22 fun c H23=>zq 1 E E E E E ht_4 qD c<|zn<|zF zu<|aTP 15 E (by decide +kernel) E (zM E)<|by exact zJ (by decide +kernel)<|by exact zr<|zG<|csr<|mv E E<|iteK H23 (fun c_1 H24=>ceT E E E (c_1)<|nx<|ctr E E<|mv E E<|by refine s_v E (zO E ht_4) (zD (k:=96) 1 E (zg ht_4)) ?_;exact s_p E (zT E)<|s_p E (zp E E)<|an H24 fun c_2 H25=>an H25 fun c_3 H26=>zY E E E E ht_4 c_3 c_2<|nxr<|mv E E<|gv E E<|gv E E<|nx<|zi<|zh Tryz.results188 (zc E (zc E ze)) ⟨_,_,E,H26⟩) fun c_1 H24=>ceF E E E (c_1)<|nx<|cfs E E<|zr<|csr<|mv E E<|gv E E<|gv E E<|nx<|zi<|zh Tryz.results188 (zc E (zc E ze)) ⟨_,_,E,H24⟩)
def wH (S:Mem) (x:Pt) (n:Int) (t:Int) (s:List Value) (Q:Int→Int→Mem→Prop):Prop:=
 s.length=26 ∧
 gI (nthL s 1) .u64 fun t_1=>
 qz S t_1 fun t_2 Sx=>
 xW Sx x n t_2 fun t_3 t_4 Sx_1=>
 jn (fun (Sx_2:Mem)=>
 nn t_3 fun b_1 o=>
 pt Sx_2 b_1 o 3 ([.pointer none,.bool false,.bool false]) fun Sx_3=>
 nn x fun b_2 o_1=>
 gI (Sx_3.cell b_2 (o_1+1)) .i64 fun t_5=>
 pt Sx_3 b_2 (o_1+1) 1 ([.int .i64 (IntKind.i64.wrap (t_5+1))]) fun Sx_4=>
 Q 0 0 Sx_4) fun Jx=>
 if t_4≠0 then
 Q 0 t_4 Sx_1
 else
 nn x fun b_3 o_2=>
 gA (Sx_1.part b_3 (o_2+656) 96) fun t_6=>
 vM Sx_1 t_6 n t_2 fun t_7 Sx_5=>
 if t_7=true then
 Q 0 8 Sx_5
 else
 Jx Sx_5
theorem zab {S:Mem} {x:Pt} {n:Int} {t:Int} {s:List Value} {Q:Int→Int→Mem→Prop} (H:wH S x n t s Q):jt S x n t s Q:=by
 unfold wH at H
 exact Tr.intro Tryz.func189 E Tryz.ntmps189 E fun w0=>an H fun hs H1=>csr<|qI E E E fun b=>gv E E<|gv E E<|nxr<|s_p E (zp E E)<|s_p E (xC (m:=1) E E (by decide) (by decide) (by decide))<|gx H1 fun t_1 ht_1 H2=>s_v E (zA E) (zQ 0 E ht_1)<|qM E E H2 fun t_2 Sx H3=>gv E E<|nxr<|mv E E<|mv E E<|mv E E<|zcu E E H3 fun t_3 t_4 Sx_1 H4=>mv E E<|s_p E (zj E E)<|s_p E (zj E E)<|gv E E<|gv E E<|nx<|zm H4 (fun (J:Mem→Prop) (z:Unit) S=>J S) (fun z=>⟨46,[(0,eP x),(11,eP t_3)]⟩) (fun z=>[]) (fun _ Sx_2 H5=>csr<|mv E E<|s_p E (zR E E)<|by exact by obtain⟨b_1,o,rfl,H6⟩:=H5;exact s_p E (zT E)<|an H6 fun c H7=>zY E E E E E c E<|nxr<|mv E E<|by obtain⟨b_2,o_1,rfl,H8⟩:=H7;exact s_p E (zT E)<|s_p E (zp E E)<|gx H8 fun t_5 ht_5 H9=>s_v E (zA E) (qc ht_5)<|s_p E (qd E E)<|s_p E (zT E)<|s_p E (zp E E)<|an H9 fun c_1 H10=>zY E E E E E c_1 E<|nxr<|gv E E<|gv E E<|nx<|zi<|zh Tryz.results189 (zc E (zc E ze)) ⟨_,_,E,H10⟩) (fun Jx hJx H11=>zE<|csr<|mv E E<|iteK H11 (fun c_2 H12=>s_p E (yT (qm E E) c_2)<|gv E E<|nx<|c_t E E<|csr<|mv E E<|gv E E<|gv E E<|nx<|zi<|zl<|zb<|zh Tryz.results189 (zc E (zc E ze)) ⟨_,_,E,H12⟩) fun c_2 H12=>s_p E (yF (qm E E) c_2)<|gv E E<|nx<|c_f E E<|csr<|mv E E<|by obtain⟨b_3,o_2,rfl,H13⟩:=H12;exact s_p E (zT E)<|s_p E (zp E E)<|gx H13 fun t_6 ht_6 H14=>by refine s_v E (zO E (zX ht_6)) (qX ht_6) ?_;exact mv E E<|mv E E<|qM E E H14 fun t_7 Sx_5 H15=>by have H16:=wO H15;rcases H16 with ⟨rfl,H17⟩ | ⟨rfl,H17⟩;exact (gv E E<|nx<|c_t E E<|csr<|gv E E<|gv E E<|nx<|zi<|zl<|zb<|zh Tryz.results189 (zc E (zc E ze)) ⟨_,_,E,H17⟩);exact (gv E E<|nx<|cfs E E<|zS<|hJx () _ _ _ _ [] H17 E ⟨E,E,True.intro⟩ E))
def vc (S:Mem) (x:Pt) (n:Int) (t:Int) (s:List Value) (Q:Int→Int→Mem→Prop):Prop:=
 s.length=26 ∧
 gI (nthL s 1) .u64 fun t_1=>
 qz S t_1 fun t_2 Sx=>
 jn (fun (Sx_1:Mem)=>
 nn x fun b_1 o=>
 gI (Sx_1.cell b_1 (o+1)) .i64 fun t_3=>
 pt Sx_1 b_1 (o+1) 1 ([.int .i64 (IntKind.i64.wrap (t_3-1))]) fun Sx_2=>
 al Sx_2 145 z145 fun b_2 Sx_3=>
 0≤n∧n<6 ∧
 0≤t_2∧t_2<32 ∧
 pt Sx_3 b_1 (o+2+n.toNat*109+12+t_2.toNat*3) 3 ([.pointer (some ⟨b_2,0,none⟩),.bool true,.bool true]) fun Sx_4=>
 Q 0 0 Sx_4) fun Jx=>
 if t_2<0 then
 Q 0 1 Sx
 else
 if 32≤t_2 then
 Q 0 1 Sx
 else
 nn x fun b_3 o_1=>
 0≤n∧n<6 ∧
 0≤t_2∧t_2<32 ∧
 gP (Sx.cell b_3 (o_1+2+n.toNat*109+12+t_2.toNat*3)) fun t_4=>
 if t_4≠none then
 Q 0 8 Sx
 else
 0≤n∧n<6 ∧
 gI (Sx.cell b_3 (o_1+2+n.toNat*109+4)) .i64 fun t_5=>
 wW Sx (some (b_3,o_1)) n fun t_6 Sx_5=>
 Sx_5.cell b_3 (o_1+2+n.toNat*109+4)=some (.int .i64 t_5) ∧
 if t_5≤t_6 then
 Q 0 9 Sx_5
 else
 gI (Sx_5.cell b_3 (o_1+1)) .i64 fun t_7=>
 if t_7=0 then
 Q 0 3 Sx_5
 else
 Jx Sx_5
theorem zaG {S:Mem} {x:Pt} {n:Int} {t:Int} {s:List Value} {Q:Int→Int→Mem→Prop} (H:vc S x n t s Q):gi S x n t s Q:=by
 unfold vc at H
 exact Tr.intro Tryz.func190 E Tryz.ntmps190 E fun w0=>an H fun hs H1=>csr<|qI E E E fun b=>gv E E<|gv E E<|nxr<|s_p E (zp E E)<|s_p E (xC (m:=1) E E (by decide) (by decide) (by decide))<|gx H1 fun t_1 ht_1 H2=>s_v E (zA E) (zQ 0 E ht_1)<|qM E E H2 fun t_2 Sx H3=>gv E E<|nx<|zm H3 (fun (J:Mem→Prop) (z:Unit) S=>J S) (fun z=>⟨71,[(0,eP x),(1,.int .i64 n),(10,.int .i64 t_2)]⟩) (fun z=>[]) (fun _ Sx_1 H4=>csr<|mv E E<|by obtain⟨b_1,o,rfl,H5⟩:=H4;exact s_p E (zT E)<|s_p E (zp E E)<|gx H5 fun t_3 ht_3 H6=>s_v E (zA E) (qc ht_3)<|s_p E (jw E E)<|s_p E (zT E)<|s_p E (zp E E)<|an H6 fun c H7=>zY E E E E E c E<|nxr<|mv E E<|mv E E<|mv E E<|s_p E (zR E ki)<|by exact qI E E E fun b_2=>zaj 0 E fun hb_2=>have H8:=H7 b_2 hb_2;s_p E (zR E E)<|by exact s_p E (zT E)<|s_p E (zp E E)<|an2 H8 fun c_1 c_2 H9=>s_p E (zz E E c_1 c_2 E)<|s_p E (zp E E)<|an2 H9 fun c_3 c_4 H10=>s_p E (zz E E c_3 c_4 E)<|an H10 fun c_5 H11=>zY E E E E E c_5 E<|nxr<|gv E E<|gv E E<|nx<|zi<|zh Tryz.results190 (zc E (zc E ze)) ⟨_,_,E,H11⟩) (fun Jx hJx H12=>zE<|csr<|mv E E<|iteK H12 (fun c_6 H13=>s_p E (yT (zH E E) c_6)<|mv E E<|sk2 E E<|pk E E E<|gv E E<|nx<|c_t E E<|csr<|gv E E<|gv E E<|nx<|zi<|zl<|zb<|zh Tryz.results190 (zc E (zc E ze)) ⟨_,_,E,H13⟩) fun c_6 H13=>s_p E (yF (zH E E) c_6)<|mv E E<|mv E E<|iteK H13 (fun c_7 H14=>s_p E (yT (qq E E) c_7)<|pk E E E<|gv E E<|nx<|c_t E E<|csr<|gv E E<|gv E E<|nx<|zi<|zl<|zb<|zh Tryz.results190 (zc E (zc E ze)) ⟨_,_,E,H14⟩) fun c_7 H14=>s_p E (yF (qq E E) c_7)<|pk E E E<|gv E E<|nx<|c_f E E<|csr<|mv E E<|mv E E<|mv E E<|by obtain⟨b_3,o_1,rfl,H15⟩:=H14;exact s_p E (zT E)<|s_p E (zp E E)<|an2 H15 fun c_8 c_9 H16=>s_p E (zz E E c_8 c_9 E)<|s_p E (zp E E)<|an2 H16 fun c_10 c_11 H17=>s_p E (zz E E c_10 c_11 E)<|s_p E (zp E E)<|gx H17 fun t_4 ht_4 H18=>s_v E (zA E) (qc ht_4)<|iteK H18 (fun c_12 H19=>s_p E (yT (zbe (p:=t_4) E E) c_12)<|gv E E<|nx<|c_t E E<|csr<|gv E E<|gv E E<|nx<|zi<|zl<|zb<|zh Tryz.results190 (zc E (zc E ze)) ⟨_,_,E,H19⟩) fun c_12 H19=>s_p E (yF (zbe (p:=t_4) E E) c_12)<|gv E E<|nx<|c_f E E<|zG<|zI (by kernel_rfl)<|a_takeP 0 E (by decide +kernel) (za (zf (za zd))) E (zk E)<|by exact a_takeP 1 E (by decide +kernel) (za (zf (za zd))) E (zk E)<|by exact a_takeP 3 E (by decide +kernel) (za (zf (za zd))) E (zk E)<|by exact a_takeP 4 E (by decide +kernel) (za (zf (za zd))) E (zk E)<|by exact a_takeP 5 E (by decide +kernel) (za (zf (za zd))) E (zT E)<|by exact a_takeP 6 E (by decide +kernel) (za (zf (za zd))) E (zp E E)<|by exact an2 H19 fun c_13 c_14 H20=>a_takeP 7 E (by decide +kernel) (za (zf (za zd))) E (zz E E c_13 c_14 E)<|by exact a_takeP 8 E (by decide +kernel) (za (zf (za zd))) E (zp E E)<|by exact a_takeP 9 E (by decide +kernel) (za (zf (za zd))) E (zp E E)<|by exact gx H20 fun t_5 ht_5 H21=>qp 10 E (by decide +kernel) (za (zf (za zd))) E (zA E) (qc ht_5)<|by exact zw 2 (by decide +kernel) E<|by exact qM E E H21 fun t_6 Sx_5 H22=>by obtain⟨k,H23⟩:=H22;exact zn<|zF (zB (qc k) zu)<|iteK H23 (fun c_15 H24=>a_takeP 11 E (by decide +kernel) (za (zf (za zd))) E (yT (qq E E) c_15)<|by exact a_takeP 12 E (by decide +kernel) (za (zf (za zd))) E (zM E)<|by exact zJ (by decide +kernel)<|by exact zr<|c_t E E<|csr<|gv E E<|gv E E<|nx<|zi<|zl<|zb<|zh Tryz.results190 (zc E (zc E ze)) ⟨_,_,E,H24⟩) fun c_15 H24=>a_takeP 11 E (by decide +kernel) (za (zf (za zd))) E (yF (qq E E) c_15)<|by exact a_takeP 12 E (by decide +kernel) (za (zf (za zd))) E (zM E)<|by exact zJ (by decide +kernel)<|by exact zr<|c_f E E<|csr<|mv E E<|s_p E (zT E)<|s_p E (zp E E)<|gx H24 fun t_7 ht_7 H25=>s_v E (zA E) (qc ht_7)<|iteK H25 (fun c_16 H26=>ceT E E E (c_16)<|gv E E<|nx<|c_t E E<|csr<|gv E E<|gv E E<|nx<|zi<|zl<|zb<|zh Tryz.results190 (zc E (zc E ze)) ⟨_,_,E,H26⟩) fun c_16 H26=>ceF E E E (c_16)<|gv E E<|nx<|cfs E E<|zS<|hJx () _ _ _ _ [] H26 E ⟨E,E,E,True.intro⟩ E)
def wF (S:Mem) (x:Pt) (n:Int) (t:Int) (s:List Value) (Q:Int→Int→Mem→Prop):Prop:=
 s.length=26 ∧
 gI (nthL s 1) .u64 fun t_1=>
 gI (nthL s 2) .u64 fun t_2=>
 qz S t_1 fun t_3 Sx=>
 qz Sx t_2 fun t_4 Sx_1=>
 jn (fun (Sx_2:Mem)=>
 nn x fun b_1 o=>
 0≤n∧n<6 ∧
 0≤n∧n<6 ∧
 0≤t_3∧t_3<4 ∧
 gL (Sx_2.cell b_1 (o+2+n.toNat*109+7+t_3.toNat*1)) fun t_5=>
 jc Sx_2 (some (b_1,o+2+n.toNat*109)) t_4 0 t_5 fun t_6 Sx_3=>
 Q 0 t_6 Sx_3) fun Jx=>
 if t_3<0 then
 Q 0 1 Sx_1
 else
 if 4≤t_3 then
 Q 0 1 Sx_1
 else
 Jx Sx_1
theorem fZ {S:Mem} {x:Pt} {n:Int} {t:Int} {s:List Value} {Q:Int→Int→Mem→Prop} (H:wF S x n t s Q):js S x n t s Q:=by
 unfold wF at H
 exact Tr.intro Tryz.func191 E Tryz.ntmps191 E fun w0=>an H fun hs H1=>csr<|qI E E E fun b=>gv E E<|gv E E<|nx<|zG<|zI (by kernel_rfl)<|aTP 0 E (by decide +kernel) E (zp E E)<|by exact aTP 1 E (by decide +kernel) E (xC (m:=1) E E (by decide) (by decide) (by decide))<|by exact gx H1 fun t_1 ht_1 H2=>aT 2 E (by decide +kernel) E (zA E) (zQ 0 E ht_1)<|by exact aTP 4 E (by decide +kernel) E (zp E E)<|by exact aTP 5 E (by decide +kernel) E (xC (m:=2) E E (by decide) (by decide) (by decide))<|by exact gx H2 fun t_2 ht_2 H3=>aT 6 E (by decide +kernel) E (zA E) (zQ 0 E ht_2)<|by exact zw 3 (by decide +kernel) E<|by exact qM E E H3 fun t_3 Sx H4=>zn<|zF (zB (zQ 0 E ht_2) zu)<|zw 7 (by decide +kernel) E<|by exact qM E E H4 fun t_4 Sx_1 H5=>zn<|zF zu<|aTP 8 E (by decide +kernel) E (zM E)<|by exact aTP 9 E (by decide +kernel) E (zM E)<|by exact zJ (by decide +kernel)<|by exact zr<|zm H5 (fun (J:Mem→Prop) (z:Unit) S=>J S) (fun z=>⟨43,[(0,eP x),(1,.int .i64 n),(10,.int .i64 t_3),(11,.int .i64 t_4)]⟩) (fun z=>[]) (fun _ Sx_2 H6=>zG<|zI (by kernel_rfl)<|aTP 0 E (by decide +kernel) E (zk E)<|by exact aTP 1 E (by decide +kernel) E (zk E)<|by exact by obtain⟨b_1,o,rfl,H7⟩:=H6;exact aTP 2 E (by decide +kernel) E (zT E)<|by exact aTP 3 E (by decide +kernel) E (zp E E)<|by exact an2 H7 fun c c_1 H8=>aTP 4 E (by decide +kernel) E (zz E E c c_1 E)<|by exact aTP 5 E (by decide +kernel) E (zk E)<|by exact aTP 6 E (by decide +kernel) E (zk E)<|by exact aTP 7 E (by decide +kernel) E (zk E)<|by exact aTP 8 E (by decide +kernel) E (zk E)<|by exact aTP 9 E (by decide +kernel) E (zT E)<|by exact aTP 10 E (by decide +kernel) E (zp E E)<|by exact an2 H8 fun c_2 c_3 H9=>aTP 11 E (by decide +kernel) E (zz E E c_2 c_3 E)<|by exact aTP 12 E (by decide +kernel) E (zp E E)<|by exact aTP 13 E (by decide +kernel) E (zp E E)<|by exact an2 H9 fun c_4 c_5 H10=>aTP 14 E (by decide +kernel) E (zz E E c_4 c_5 E)<|by exact gx H10 fun t_5 ht_5 H11=>aT 15 E (by decide +kernel) E (zA E) (qc ht_5)<|by exact zw 16 (by decide +kernel) E<|by exact qM E E H11 fun t_6 Sx_3 H12=>zn<|zF zu<|aTP 17 E (by decide +kernel) E (zM E)<|by exact aTP 18 E (by decide +kernel) E (zM E)<|by exact zJ (by decide +kernel)<|by exact zr<|zi<|zh Tryz.results191 (zc E (zc E ze)) ⟨_,_,E,H12⟩) (fun Jx hJx H13=>csr<|mv E E<|iteK H13 (fun c_6 H14=>s_p E (yT (zH E E) c_6)<|mv E E<|sk2 E E<|pk E E E<|nx<|c_t E E<|csr<|gv E E<|gv E E<|nx<|zi<|zb<|zh Tryz.results191 (zc E (zc E ze)) ⟨_,_,E,H14⟩) fun c_6 H14=>s_p E (yF (zH E E) c_6)<|mv E E<|mv E E<|iteK H14 (fun c_7 H15=>s_p E (yT (qq E E) c_7)<|pk E E E<|nx<|c_t E E<|csr<|gv E E<|gv E E<|nx<|zi<|zb<|zh Tryz.results191 (zc E (zc E ze)) ⟨_,_,E,H15⟩) fun c_7 H15=>s_p E (yF (qq E E) c_7)<|pk E E E<|nx<|cfs E E<|hJx () _ _ _ _ [] H15 E ⟨E,E,E,E,True.intro⟩ E)
def wd (S:Mem) (x:Pt) (n:Int) (t:Int) (s:List Value) (Q:Int→Int→Mem→Prop):Prop:=
 s.length=26 ∧
 gI (nthL s 1) .u64 fun t_1=>
 gI (nthL s 2) .u64 fun t_2=>
 qz S t_1 fun t_3 Sx=>
 qz Sx t_2 fun t_4 Sx_1=>
 jn (fun (Sx_2:Mem)=>
 nn x fun b_1 o=>
 0≤n∧n<6 ∧
 jd Sx_2 (some (b_1,o+2+n.toNat*109)) t_4 0 256 fun t_5 t_6 Sx_3=>
 if t_6=0 then
 0≤n∧n<6 ∧
 0≤t_3∧t_3<4 ∧
 pt Sx_3 b_1 (o+2+n.toNat*109+7+t_3.toNat*1) 1 ([eL t_5]) fun Sx_4=>
 Q 0 t_6 Sx_4
 else
 Q 0 t_6 Sx_3) fun Jx=>
 if t_3<0 then
 Q 0 1 Sx_1
 else
 if 4≤t_3 then
 Q 0 1 Sx_1
 else
 Jx Sx_1
theorem fb {S:Mem} {x:Pt} {n:Int} {t:Int} {s:List Value} {Q:Int→Int→Mem→Prop} (H:wd S x n t s Q):kE S x n t s Q:=by
 unfold wd at H
 exact Tr.intro Tryz.func192 E Tryz.ntmps192 E fun w0=>an H fun hs H1=>csr<|qI E E E fun b=>gv E E<|gv E E<|nx<|zG<|zI (by kernel_rfl)<|aTP 0 E (by decide +kernel) E (zp E E)<|by exact aTP 1 E (by decide +kernel) E (xC (m:=1) E E (by decide) (by decide) (by decide))<|by exact gx H1 fun t_1 ht_1 H2=>aT 2 E (by decide +kernel) E (zA E) (zQ 0 E ht_1)<|by exact aTP 4 E (by decide +kernel) E (zp E E)<|by exact aTP 5 E (by decide +kernel) E (xC (m:=2) E E (by decide) (by decide) (by decide))<|by exact gx H2 fun t_2 ht_2 H3=>aT 6 E (by decide +kernel) E (zA E) (zQ 0 E ht_2)<|by exact zw 3 (by decide +kernel) E<|by exact qM E E H3 fun t_3 Sx H4=>zn<|zF (zB (zQ 0 E ht_2) zu)<|zw 7 (by decide +kernel) E<|by exact qM E E H4 fun t_4 Sx_1 H5=>zn<|zF zu<|aTP 8 E (by decide +kernel) E (zM E)<|by exact aTP 9 E (by decide +kernel) E (zM E)<|by exact zJ (by decide +kernel)<|by exact zr<|zm H5 (fun (J:Mem→Prop) (z:Unit) S=>J S) (fun z=>⟨51,[(0,eP x),(1,.int .i64 n),(10,.int .i64 t_3),(11,.int .i64 t_4)]⟩) (fun z=>[]) (fun _ Sx_2 H6=>csr<|mv E E<|mv E E<|by obtain⟨b_1,o,rfl,H7⟩:=H6;exact s_p E (zT E)<|s_p E (zp E E)<|an2 H7 fun c c_1 H8=>s_p E (zz E E c c_1 E)<|mv E E<|zcu E E H8 fun t_5 t_6 Sx_3 H9=>mv E E<|s_p E (zj E E)<|s_p E (zj E E)<|gv E E<|gv E E<|nx<|zG<|csr<|mv E E<|iteK H9 (fun c_2 H10=>ceT E E E (c_2)<|nx<|ctr E E<|mv E E<|mv E E<|mv E E<|mv E E<|s_p E (zT E)<|s_p E (zp E E)<|an2 H10 fun c_3 c_4 H11=>s_p E (zz E E c_3 c_4 E)<|s_p E (zp E E)<|s_p E (zp E E)<|an2 H11 fun c_5 c_6 H12=>s_p E (zz E E c_5 c_6 E)<|an H12 fun c_7 H13=>zY E E E E E c_7 E<|nxr<|mv E E<|gv E E<|gv E E<|nx<|zi<|zh Tryz.results192 (zc E (zc E ze)) ⟨_,_,E,H13⟩) fun c_2 H10=>ceF E E E (c_2)<|nx<|cfs E E<|zr<|csr<|mv E E<|gv E E<|gv E E<|nx<|zi<|zh Tryz.results192 (zc E (zc E ze)) ⟨_,_,E,H10⟩) (fun Jx hJx H14=>csr<|mv E E<|iteK H14 (fun c_8 H15=>s_p E (yT (zH E E) c_8)<|mv E E<|sk2 E E<|pk E E E<|nx<|c_t E E<|csr<|gv E E<|gv E E<|nx<|zi<|zb<|zh Tryz.results192 (zc E (zc E ze)) ⟨_,_,E,H15⟩) fun c_8 H15=>s_p E (yF (zH E E) c_8)<|mv E E<|mv E E<|iteK H15 (fun c_9 H16=>s_p E (yT (qq E E) c_9)<|pk E E E<|nx<|c_t E E<|csr<|gv E E<|gv E E<|nx<|zi<|zb<|zh Tryz.results192 (zc E (zc E ze)) ⟨_,_,E,H16⟩) fun c_9 H16=>s_p E (yF (qq E E) c_9)<|pk E E E<|nx<|cfs E E<|hJx () _ _ _ _ [] H16 E ⟨E,E,E,E,True.intro⟩ E)
def vr (S:Mem) (x:Pt) (n:Int) (t:Int) (t_1:List Value) (Q:Int→Int→Mem→Prop):Prop:=
 t_1.length=26 ∧
 Q (IntKind.u64.wrap n) 0 S
theorem zbg {S:Mem} {x:Pt} {n:Int} {t:Int} {t_1:List Value} {Q:Int→Int→Mem→Prop} (H:vr S x n t t_1 Q):gW S x n t t_1 Q:=by
 unfold vr at H
 exact Tr.intro Tryz.func193 E Tryz.ntmps193 E fun w0=>an H fun ht_1 H1=>csr<|qI E E E fun b=>gv E E<|gv E E<|nxr<|mv E E<|s_p E (zN ⟨_,Tryz.underlying3⟩ E)<|gv E E<|gv E E<|nx<|zi<|zh Tryz.results193 (zc E (zc E ze)) ⟨_,_,E,H1⟩
def wD (S:Mem) (x:Pt) (n:Int) (k:Int) (t:List Value) (Q:Int→Int→Mem→Prop):Prop:=
 t.length=26 ∧
 nn x fun b_1 o=>
 0≤n∧n<6 ∧
 gL (S.cell b_1 (o+2+n.toNat*109+1)) fun t_1=>
 sl t_1 fun b_2 o_1 n_1 n_2=>
 0≤k∧k<((n_1:Nat):Int) ∧
 pt S b_2 (o_1+k.toNat*26+23) 1 ([.int .u8 2]) fun Sx=>
 Q 0 0 Sx
theorem fX {S:Mem} {x:Pt} {n:Int} {k:Int} {t:List Value} {Q:Int→Int→Mem→Prop} (H:wD S x n k t Q):jq S x n k t Q:=by
 unfold wD at H
 exact Tr.intro Tryz.func194 E Tryz.ntmps194 E fun w0=>an H fun ht H1=>csr<|qI E E E fun b=>gv E E<|gv E E<|nxr<|mv E E<|mv E E<|by obtain⟨b_1,o,rfl,H2⟩:=H1;exact s_p E (zT E)<|s_p E (zp E E)<|an2 H2 fun c c_1 H3=>s_p E (zz E E c c_1 E)<|s_p E (zp E E)<|s_p E (zp E E)<|gx H3 fun t_1 ht_1 H4=>s_v E (zA E) (qc ht_1)<|mv E E<|by obtain⟨b_2,o_1,n_1,n_2,rfl,H5⟩:=H4;exact an2 H5 fun c_2 c_3 H6=>s_p E (yf E E c_2 c_3 E)<|s_p E (zp E E)<|an H6 fun c_4 H7=>zY E E E E E c_4 E<|nxr<|gv E E<|gv E E<|nx<|zi<|zh Tryz.results194 (zc E (zc E ze)) ⟨_,_,E,H7⟩
def wG (S:Mem) (x:Pt) (n:Int) (p:Int) (Q:Pt→Int→Mem→Prop):Prop:=
 jn (fun (Sx:Mem)=>
 nn x fun b o=>
 0≤n∧n<6 ∧
 0≤p∧p<32 ∧
 gB (Sx.cell b (o+2+n.toNat*109+12+p.toNat*3+1)) fun t=>
 if t=true then
 0≤n∧n<6 ∧
 0≤p∧p<32 ∧
 Q (some (b,o+2+n.toNat*109+12+p.toNat*3)) 0 Sx
 else
 Q none 7 Sx) fun Jx=>
 if p<0 then
 Q none 11 S
 else
 if 32≤p then
 Q none 11 S
 else
 nn x fun b_1 o_1=>
 0≤n∧n<6 ∧
 0≤p∧p<32 ∧
 gP (S.cell b_1 (o_1+2+n.toNat*109+12+p.toNat*3)) fun t_1=>
 if t_1=none then
 Q none 11 S
 else
 Jx S
theorem zaa {S:Mem} {x:Pt} {n:Int} {p:Int} {Q:Pt→Int→Mem→Prop} (H:wG S x n p Q):xW S x n p Q:=by
 unfold wG at H
 exact Tr.intro Tryz.func220 E Tryz.ntmps220 E fun w0=>csr<|gv E E<|gv E E<|nx<|zm H (fun (J:Mem→Prop) (z:Unit) S=>J S) (fun z=>⟨46,[(0,eP x),(1,.int .i64 n),(2,.int .i64 p)]⟩) (fun z=>[]) (fun _ Sx H1=>zG<|csr<|mv E E<|mv E E<|mv E E<|by obtain⟨b,o,rfl,H2⟩:=H1;exact s_p E (zT E)<|s_p E (zp E E)<|an2 H2 fun c c_1 H3=>s_p E (zz E E c c_1 E)<|s_p E (zp E E)<|an2 H3 fun c_2 c_3 H4=>s_p E (zz E E c_2 c_3 E)<|s_p E (zp E E)<|gx H4 fun t ht H5=>by have H6:=wO H5;rcases H6 with ⟨rfl,H7⟩ | ⟨rfl,H7⟩;exact (s_v E (zA E) (qc ht)<|s_p E (yB (qe E) E)<|nx<|cfs E E<|zr<|csr<|mv E E<|mv E E<|mv E E<|s_p E (zT E)<|s_p E (zp E E)<|an2 H7 fun c_4 c_5 H8=>s_p E (zz E E c_4 c_5 E)<|s_p E (zp E E)<|an2 H8 fun c_6 c_7 H9=>s_p E (zz E E c_6 c_7 E)<|gv E E<|gv E E<|nx<|zi<|zh Tryz.results220 (zc E (zc E ze)) ⟨_,_,E,H9⟩);exact (s_v E (zA E) (qc ht)<|s_p E (yB (qe E) E)<|nx<|c_t E E<|csr<|gv E E<|gv E E<|nx<|zi<|zb<|zh Tryz.results220 (zc E (zc E ze)) ⟨_,_,E,H7⟩)) (fun Jx hJx H10=>csr<|mv E E<|iteK H10 (fun c_8 H11=>s_p E (yT (zH E E) c_8)<|mv E E<|sk2 E E<|pk E E E<|mv E E<|sk8 E E E E E E E E<|sk2 E E<|zK E<|pk E E E<|nx<|c_t E E<|csr<|gv E E<|gv E E<|nx<|zi<|zb<|zh Tryz.results220 (zc E (zc E ze)) ⟨_,_,E,H11⟩) fun c_8 H11=>s_p E (yF (zH E E) c_8)<|mv E E<|mv E E<|iteK H11 (fun c_9 H12=>s_p E (yT (qq E E) c_9)<|pk E E E<|mv E E<|sk8 E E E E E E E E<|sk2 E E<|zK E<|pk E E E<|nx<|c_t E E<|csr<|gv E E<|gv E E<|nx<|zi<|zb<|zh Tryz.results220 (zc E (zc E ze)) ⟨_,_,E,H12⟩) fun c_9 H12=>s_p E (yF (qq E E) c_9)<|pk E E E<|mv E E<|mv E E<|mv E E<|mv E E<|by obtain⟨b_1,o_1,rfl,H13⟩:=H12;exact s_p E (zT E)<|s_p E (zp E E)<|an2 H13 fun c_10 c_11 H14=>s_p E (zz E E c_10 c_11 E)<|s_p E (zp E E)<|an2 H14 fun c_12 c_13 H15=>s_p E (zz E E c_12 c_13 E)<|s_p E (zp E E)<|gx H15 fun t_1 ht_1 H16=>s_v E (zA E) (qc ht_1)<|iteK H16 (fun c_14 H17=>s_p E (yT (xE (p:=t_1) E E) c_14)<|pk E E E<|nx<|c_t E E<|csr<|gv E E<|gv E E<|nx<|zi<|zb<|zh Tryz.results220 (zc E (zc E ze)) ⟨_,_,E,H17⟩) fun c_14 H17=>s_p E (yF (xE (p:=t_1) E E) c_14)<|pk E E E<|nx<|cfs E E<|hJx () _ _ _ _ [] H17 E ⟨E,E,E,True.intro⟩ E)
def wg (S:Mem) (x:Pt) (n:Int) (Q:Int→Mem→Prop):Prop:=
 jn (fun (k:Int) (Sx:Mem)=>
 Q k Sx) fun Jx=>
 nn x fun b o=>
 0≤n∧n<6 ∧
 gA (S.part b (o+2+n.toNat*109+12) 96) fun t=>
 lp (fun Xx (z:Int×Int) (Sx_1:Mem)=>
 match z with
 | (k_1,t_1)=>
 if t_1<32 then
 0≤t_1∧t_1<32 ∧
 gA (lpart t (t_1.toNat*3) 3) fun t_2=>
 t_2.all (·.oneCell')=true ∧
 gB (nthL t_2 1) fun t_3=>
 if t_3=true then
 Xx (IntKind.i64.wrap (k_1+1),IntKind.i64.wrap (t_1+1)) Sx_1
 else
 Xx (k_1,IntKind.i64.wrap (t_1+1)) Sx_1
 else
 Jx k_1 Sx_1) (0,0) S
theorem fd {S:Mem} {x:Pt} {n:Int} {Q:Int→Mem→Prop} (H:wg S x n Q):wW S x n Q:=by
 unfold wg at H
 exact Tr.intro Tryz.func226 E Tryz.ntmps226 E fun w0=>csr<|gv E E<|nxr<|gv E E<|nx<|zm H (fun (J:Int→Mem→Prop) (z:Int) S=>J z S) (fun z=>⟨24,[(5,.int .i64 z)]⟩) (fun z=>[]) (fun k Sx H1=>csr<|mv E E<|gv E E<|nx<|zi<|zh Tryz.results226 (zc E ze) ⟨_,E,H1⟩) (fun Jx hJx H2=>csr<|mv E E<|mv E E<|by obtain⟨b,o,rfl,H3⟩:=H2;exact s_p E (zT E)<|s_p E (zp E E)<|an2 H3 fun c c_1 H4=>s_p E (zz E E c c_1 E)<|s_p E (zp E E)<|gx H4 fun t ht H5=>by refine s_v E (zO E (zX ht)) (qX ht) ?_;exact mv E E<|nx<|zE<|qS (fun z=>⟨24,[(5,.int .i64 z.1),(14,valL t),(15,.int .i64 z.2)]⟩) (fun z=>[]) (0,0) (idx:=[]) H5 E ⟨E,E,E,True.intro⟩ E<|by rintro Xx hXx ⟨k_1,t_1⟩ Sx_1 H6;exact csr<|iteK H6 (fun c_2 H7=>s_p E (yT (zH E E) c_2)<|nx<|zG<|c_t E E<|qw<|zr<|zG<|zE<|csr<|an2 H7 fun c_3 c_4 H8=>gx H8 fun t_2 ht_2 H9=>s_p E (zgG E E c_3 c_4 ht_2)<|by refine zP E fun b_1=>?_;exact an H9 fun c_5 H10=>zq 0 E E E E E ((qV ht_2).2.2) E c_5<|nxr<|s_p E (zp E E)<|gx H10 fun t_3 ht_3 H11=>by have H12:=wO H11;rcases H12 with ⟨rfl,H13⟩ | ⟨rfl,H13⟩;exact (s_v E (zA E) (zQ 0 E ht_3)<|nx<|ctr E E<|mv E E<|s_p E (qd E E)<|gv E E<|zn<|zS<|zr<|zx<|s_p E (qd E E)<|mv E E<|zn<|hXx (IntKind.i64.wrap (k_1+1),IntKind.i64.wrap (t_1+1)) _ _ _ _ [] H13 E ⟨E,E,E,True.intro⟩ E);exact (s_v E (zA E) (zQ 0 E ht_3)<|nx<|cfs E E<|zS<|zr<|zx<|s_p E (qd E E)<|mv E E<|zn<|hXx (k_1,IntKind.i64.wrap (t_1+1)) _ _ _ _ [] H13 E ⟨E,E,E,True.intro⟩ E)) fun c_2 H7=>s_p E (yF (zH E E) c_2)<|nx<|zG<|c_f E E<|qB<|zo<|zo<|zV<|hJx k_1 _ _ _ _ [] H7 E ⟨E,True.intro⟩ E)
def vT (S:Mem) (v:Pt) (n:Int) (off:Int) (p:Sl) (Q:Int→Mem→Prop):Prop:=
 jn (fun (Sx:Mem)=>
 nn v fun b o=>
 0≤n∧n<32 ∧
 gP (Sx.cell b (o+12+n.toNat*3)) fun t=>
 nn t fun b_1 o_1=>
 (0:Int)≤off∧(off:Int)≤256∧256≤(256:Int) ∧
 lt (slc 1 (⟨some (b_1,o_1),256,256⟩:Sl) off 256) fun t_1=>
 cpy Sx 1 t_1 p fun t_2 Sx_1=>
 Q 0 Sx_1) fun Jx=>
 if n<0 then
 Q 11 S
 else
 if 32≤n then
 Q 11 S
 else
 nn v fun b_2 o_2=>
 0≤n∧n<32 ∧
 gB (S.cell b_2 (o_2+12+n.toNat*3+2)) fun t_3=>
 if t_3=true then
 Jx S
 else
 Q 11 S
theorem zbu {S:Mem} {v:Pt} {n:Int} {off:Int} {p:Sl} {Q:Int→Mem→Prop} (H:vT S v n off p Q):jc S v n off p Q:=by
 unfold vT at H
 exact Tr.intro Tryz.func227 E Tryz.ntmps227 E fun w0=>csr<|gv E E<|nx<|zm H (fun (J:Mem→Prop) (z:Unit) S=>J S) (fun z=>⟨37,[(0,eP v),(1,.int .i64 n),(2,.int .i64 off),(3,eL p)]⟩) (fun z=>[]) (fun _ Sx H1=>csr<|mv E E<|mv E E<|by obtain⟨b,o,rfl,H2⟩:=H1;exact s_p E (zT E)<|s_p E (zp E E)<|an2 H2 fun c c_1 H3=>s_p E (zz E E c c_1 E)<|s_p E (zp E E)<|gx H3 fun t ht H4=>s_v E (zA E) (qc ht)<|by obtain⟨b_1,o_1,rfl,H5⟩:=H4;exact s_p E (zT E)<|mv E E<|an3 H5 fun c_2 c_3 c_4 H6=>by obtain⟨t_1,et_1,H7⟩:=zje H6;exact s_p E (eqv (zgE (z:=off) (y:=256) E E E c_2 c_3 c_4) (congrArg eL et_1))<|mv E E<|zkD (sd:=t_1) (ss:=p) E E E H7 fun t_2 Sx_1 H8=>nxr<|gv E E<|nx<|zi<|zh Tryz.results227 (zc E ze) ⟨_,E,H8⟩) (fun Jx hJx H9=>csr<|mv E E<|iteK H9 (fun c_5 H10=>s_p E (yT (zH E E) c_5)<|mv E E<|sk2 E E<|pk E E E<|mv E E<|sk8 E E E E E E E E<|pk E E E<|nx<|c_t E E<|csr<|gv E E<|nx<|zi<|zb<|zh Tryz.results227 (zc E ze) ⟨_,E,H10⟩) fun c_5 H10=>s_p E (yF (zH E E) c_5)<|mv E E<|mv E E<|iteK H10 (fun c_6 H11=>s_p E (yT (qq E E) c_6)<|pk E E E<|mv E E<|sk8 E E E E E E E E<|pk E E E<|nx<|c_t E E<|csr<|gv E E<|nx<|zi<|zb<|zh Tryz.results227 (zc E ze) ⟨_,E,H11⟩) fun c_6 H11=>s_p E (yF (qq E E) c_6)<|pk E E E<|mv E E<|mv E E<|mv E E<|by obtain⟨b_2,o_2,rfl,H12⟩:=H11;exact s_p E (zT E)<|s_p E (zp E E)<|an2 H12 fun c_7 c_8 H13=>s_p E (zz E E c_7 c_8 E)<|s_p E (zp E E)<|gx H13 fun t_3 ht_3 H14=>by have H15:=wO H14;rcases H15 with ⟨rfl,H16⟩ | ⟨rfl,H16⟩;exact (s_v E (zA E) (qc ht_3)<|s_p E (yB (qe E) E)<|pk E E E<|nx<|cfs E E<|hJx () _ _ _ _ [] H16 E ⟨E,E,E,E,True.intro⟩ E);exact (s_v E (zA E) (qc ht_3)<|s_p E (yB (qe E) E)<|pk E E E<|nx<|c_t E E<|csr<|gv E E<|nx<|zi<|zb<|zh Tryz.results227 (zc E ze) ⟨_,E,H16⟩))
def vU (S:Mem) (v:Pt) (n:Int) (off:Int) (k:Int) (Q:Sl→Int→Mem→Prop):Prop:=
 jn (fun (Sx:Mem)=>
 nn v fun b o=>
 0≤n∧n<32 ∧
 gP (Sx.cell b (o+12+n.toNat*3)) fun t=>
 nn t fun b_1 o_1=>
 (0:Int)≤off∧(off:Int)≤IntKind.i64.wrap (off+k)∧IntKind.i64.wrap (off+k)≤(256:Int) ∧
 lt (slc 1 (⟨some (b_1,o_1),256,256⟩:Sl) off (IntKind.i64.wrap (off+k))) fun t_1=>
 sp Sx t_1 1 fun vs=>
 ap Sx 5 1 1 [.int .u8 0] (⟨none,0,0⟩) t_1.n vs fun t_2 Sx_1=>
 Q t_2 0 Sx_1) fun Jx=>
 if n<0 then
 Q (⟨none,0,0⟩) 11 S
 else
 if 32≤n then
 Q (⟨none,0,0⟩) 11 S
 else
 nn v fun b_2 o_2=>
 0≤n∧n<32 ∧
 gP (S.cell b_2 (o_2+12+n.toNat*3)) fun t_3=>
 if t_3=none then
 Q (⟨none,0,0⟩) 11 S
 else
 Jx S
theorem zbv {S:Mem} {v:Pt} {n:Int} {off:Int} {k:Int} {Q:Sl→Int→Mem→Prop} (H:vU S v n off k Q):jd S v n off k Q:=by
 unfold vU at H
 exact Tr.intro Tryz.func228 E Tryz.ntmps228 E fun w0=>csr<|gv E E<|gv E E<|nx<|zm H (fun (J:Mem→Prop) (z:Unit) S=>J S) (fun z=>⟨40,[(0,eP v),(1,.int .i64 n),(2,.int .i64 off),(3,.int .i64 k)]⟩) (fun z=>[]) (fun _ Sx H1=>csr<|mv E E<|mv E E<|by obtain⟨b,o,rfl,H2⟩:=H1;exact s_p E (zT E)<|s_p E (zp E E)<|an2 H2 fun c c_1 H3=>s_p E (zz E E c c_1 E)<|s_p E (zp E E)<|gx H3 fun t ht H4=>s_v E (zA E) (qc ht)<|by obtain⟨b_1,o_1,rfl,H5⟩:=H4;exact s_p E (zT E)<|mv E E<|mv E E<|mv E E<|s_p E (qd E E)<|an3 H5 fun c_2 c_3 c_4 H6=>by obtain⟨t_1,et_1,H7⟩:=zje H6;exact s_p E (eqv (zgE (z:=off) (y:=IntKind.i64.wrap (off+k)) E E E c_2 c_3 c_4) (congrArg eL et_1))<|by obtain⟨vs,h,c_5,H8⟩:=H7;exact zak (sx:=⟨none,0,0⟩) (vs:=vs) E E E ((zbU h).1) ((zbU (P:=Tryz.prog) (w0:=w0) (S0:=S) (V:=[]) h).2) c_5 (by decide) H8 fun t_2 Sx_1 H9=>gv E E<|gv E E<|nx<|zi<|zh Tryz.results228 (zc E (zc E ze)) ⟨_,_,E,H9⟩) (fun Jx hJx H10=>csr<|mv E E<|iteK H10 (fun c_6 H11=>s_p E (yT (zH E E) c_6)<|mv E E<|sk2 E E<|pk E E E<|mv E E<|sk8 E E E E E E E E<|pk E E E<|nx<|c_t E E<|csr<|gv E E<|gv E E<|nx<|zi<|zb<|zh Tryz.results228 (zc E (zc E ze)) ⟨_,_,E,H11⟩) fun c_6 H11=>s_p E (yF (zH E E) c_6)<|mv E E<|mv E E<|iteK H11 (fun c_7 H12=>s_p E (yT (qq E E) c_7)<|pk E E E<|mv E E<|sk8 E E E E E E E E<|pk E E E<|nx<|c_t E E<|csr<|gv E E<|gv E E<|nx<|zi<|zb<|zh Tryz.results228 (zc E (zc E ze)) ⟨_,_,E,H12⟩) fun c_7 H12=>s_p E (yF (qq E E) c_7)<|pk E E E<|mv E E<|mv E E<|mv E E<|by obtain⟨b_2,o_2,rfl,H13⟩:=H12;exact s_p E (zT E)<|s_p E (zp E E)<|an2 H13 fun c_8 c_9 H14=>s_p E (zz E E c_8 c_9 E)<|s_p E (zp E E)<|gx H14 fun t_3 ht_3 H15=>s_v E (zA E) (qc ht_3)<|iteK H15 (fun c_10 H16=>s_p E (yT (xE (p:=t_3) E E) c_10)<|pk E E E<|nx<|c_t E E<|csr<|gv E E<|gv E E<|nx<|zi<|zb<|zh Tryz.results228 (zc E (zc E ze)) ⟨_,_,E,H16⟩) fun c_10 H16=>s_p E (yF (xE (p:=t_3) E E) c_10)<|pk E E E<|nx<|cfs E E<|hJx () _ _ _ _ [] H16 E ⟨E,E,E,E,True.intro⟩ E)
end Go.Proofs.YtabdpmnhjlmnlaaGreatDoor
end
