/- Texts of this work,joined by program (pack.py): PsP,PsR,PsN,PsM,PsK,PsI,PsJ,PtU,HpA,Gw,Hk. -/
import Derived.Test.YtabdpmnhjlmnlaaGreatDoorQAB
set_option linter.unusedVariables false
section
namespace Go.Proofs.YtabdpmnhjlmnlaaGreatDoor
open Go Go.Pt
attribute [local irreducible] Code.wp Back bodyPost wpList FR WL WC WQ WA AW Tr Yc HC AllC
set_option maxRecDepth 20000
set_option maxHeartbeats 4000000
set_option linter.unusedVariables false
end Go.Proofs.YtabdpmnhjlmnlaaGreatDoor
end
section
namespace Go.Proofs.YtabdpmnhjlmnlaaGreatDoor
open Go Go.Pt
attribute [local irreducible] Code.wp Back bodyPost wpList FR WL WC WQ WA AW Tr Yc HC AllC
set_option maxRecDepth 20000
set_option maxHeartbeats 4000000
set_option linter.unusedVariables false
def xe (S:Mem) (t:List Value) (s:Pt) (Q:Sl→Sl→Mem→Prop):Prop:=
 t.length=2 ∧
 jn (fun (pages:Sl) (l:Sl) (Sx:Mem)=>
 Q pages l Sx) fun Jx=>
 lp (fun Xx (z:Sl×Sl×Int) (Sx_1:Mem)=>
 match z with
 | (pages_1,l_1,t_1)=>
 if t_1<32 then
 qM Sx_1 t s t_1 fun t_2 t_3 Sx_2=>
 t_2.all (·.oneCell')=true ∧
 if t_3=0 then
 ap Sx_2 3 1 8 [.int .i64 0] pages_1 1 ([.int .i64 t_1]) fun t_4 Sx_3=>
 t_2.all (·.oneCell')=true ∧
 ap Sx_3 111 3 24 [.bool false,.int .i64 0,.bool false] l_1 1 t_2 fun t_5 Sx_4=>
 Xx (t_4,t_5,IntKind.i64.wrap (t_1+1)) Sx_4
 else
 Xx (pages_1,l_1,IntKind.i64.wrap (t_1+1)) Sx_2
 else
 Jx pages_1 l_1 Sx_1) (⟨none,0,0⟩,⟨none,0,0⟩,0) S
theorem kO {S:Mem} {t:List Value} {s:Pt} {Q:Sl→Sl→Mem→Prop} (H:xe S t s Q):xH S t s Q:=by
 unfold xe at H
 exact Tr.intro Tryz.func86 E Tryz.ntmps86 E fun w0=>an H fun ht H1=>csr<|xW E E E fun b=>gv E E<|gv E E<|nxr<|gv E E<|nxr<|gv E E<|nx<|zo H1 (fun (J:Sl→Sl→Mem→Prop) (z:Sl×Sl) S=>J z.1 z.2 S) (fun z=>⟨34,[(6,eL z.1),(7,eL z.2)]⟩) (fun z=>[]) (by rintro⟨pages,l⟩ Sx H2;exact csr<|mv E E<|mv E E<|gv E E<|gv E E<|nx<|zm<|zl Tryz.results86 (zf E (zf E zi)) ⟨_,_,E,H2⟩) (fun Jx hJx H3=>csr<|mv E E<|nx<|zs<|qh (fun z=>⟨34,[(1,eP s),(2,.pointer (some ⟨b,0,none⟩)),(6,eL z.1),(7,eL z.2.1),(11,.int .i64 z.2.2)]⟩) (fun z=>[⟨b,63,t⟩]) (⟨none,0,0⟩,⟨none,0,0⟩,0) (idx:=[0]) H3 E ⟨E,E,E,E,E,True.intro⟩ E<|by rintro Xx hXx ⟨pages_1,l_1,t_1⟩ Sx_1 H4;exact csr<|iteK H4 (fun c H5=>s_p E (yT (zw E E) c)<|nx<|zx<|c_t E E<|qg<|zk<|zx<|zs<|csr<|mv E E<|gv E E<|nxr<|by refine s_v E (qu E ht) (qi (k:=2) 0 E (zC ht)) ?_;exact mv E E<|mv E E<|yG E E H5 fun rv Sx_2 H6=>by obtain⟨t_2,t_3,rfl,ht_2,H7⟩:=H6;exact mv E E<|s_p E (zp E E)<|s_p E (zp E E)<|by refine zN E fun b_1=>?_;exact an H7 fun c_1 H8=>zz 1 E E E E E ht_2 E c_1<|gv E E<|nxr<|mv E E<|iteK H8 (fun c_2 H9=>ceT E E E (c_2)<|nx<|c_t E E<|zY (by kernel_rfl)<|a_takeP 0 E (by decide +kernel) (zc (za (za (zc (za zb))))) E (zj E)<|by exact a_takeP 1 E (by decide +kernel) (zc (za (za (zc (za zb))))) E (zj E)<|by exact a_takeP 4 E (by decide +kernel) (zc (za (za (zc (za zb))))) E (zj E)<|by exact by refine zA 5 E (by decide +kernel) (zc (za (za (zc (za zb))))) E (qu E ht_2) (qi (k:=3) 1 E (zC ht_2)) ?_;exact gi 2 6 (by decide +kernel) E E (zaB E E (by decide) E fun b_2=>zu<|zS (zy (qi (k:=3) 1 E (zC ht_2)) zF)<|gi 3 6 (by decide +kernel) E E (vN (sx:=pages_1) (vs:=[.int .i64 t_1]) E E E (zcg 2 E E) E E (by decide) H9 fun t_4 Sx_3 H10=>zu<|zS (zy (qi (k:=3) 1 E (zC ht_2)) zF)<|zJ 6 (by decide +kernel) E<|by exact zaB E E (by decide) (kG (size:=3) E ht_2) fun b_3=>zu<|zS zF<|zJ 7 (by decide +kernel) E<|by exact an H10 fun c_3 H11=>vN (sx:=l_1) (vs:=t_2) E E E (zcg 3 E (zC ht_2)) ht_2 c_3 (by decide) H11 fun t_5 Sx_4 H12=>zu<|zS zF<|a_takeP 8 E (by decide +kernel) (zc (za (za (zc (za zb))))) E (zW E)<|by exact a_takeP 9 E (by decide +kernel) (zc (za (za (zc (za zb))))) E (zW E)<|by exact zE (by decide +kernel)<|by exact zQ<|zk<|zr<|s_p E (zU E E)<|mv E E<|zu<|hXx (t_4,t_5,IntKind.i64.wrap (t_1+1)) _ _ _ _ [0] H12 E ⟨E,E,E,E,E,True.intro⟩ E) (zaB E E (by decide) (kG (size:=3) E ht_2) fun b_3=>zu<|zS zF<|zJ 3 (by decide +kernel) E<|by exact vN (sx:=pages_1) (vs:=[.int .i64 t_1]) E E E (zcg 2 E E) E E (by decide) H9 fun t_4 Sx_3 H13=>zu<|zS zF<|zJ 7 (by decide +kernel) E<|by exact an H13 fun c_3 H14=>vN (sx:=l_1) (vs:=t_2) E E E (zcg 3 E (zC ht_2)) ht_2 c_3 (by decide) H14 fun t_5 Sx_4 H15=>zu<|zS zF<|a_takeP 8 E (by decide +kernel) (zc (za (za (zc (za zb))))) E (zW E)<|by exact a_takeP 9 E (by decide +kernel) (zc (za (za (zc (za zb))))) E (zW E)<|by exact zE (by decide +kernel)<|by exact zQ<|zk<|zr<|s_p E (zU E E)<|mv E E<|zu<|hXx (t_4,t_5,IntKind.i64.wrap (t_1+1)) _ _ _ _ [0] H15 E ⟨E,E,E,E,E,True.intro⟩ E)) (zaB E E (by decide) (kG (size:=3) E ht_2) fun b_2=>zu<|zS zF<|zJ 2 (by decide +kernel) E<|by exact zaB E E (by decide) E fun b_3=>zu<|zS zF<|zJ 3 (by decide +kernel) E<|by exact vN (sx:=pages_1) (vs:=[.int .i64 t_1]) E E E (zcg 3 E E) E E (by decide) H9 fun t_4 Sx_3 H16=>zu<|zS zF<|zJ 7 (by decide +kernel) E<|by exact an H16 fun c_3 H17=>vN (sx:=l_1) (vs:=t_2) E E E (zcg 2 E (zC ht_2)) ht_2 c_3 (by decide) H17 fun t_5 Sx_4 H18=>zu<|zS zF<|a_takeP 8 E (by decide +kernel) (zc (za (za (zc (za zb))))) E (zW E)<|by exact a_takeP 9 E (by decide +kernel) (zc (za (za (zc (za zb))))) E (zW E)<|by exact zE (by decide +kernel)<|by exact zQ<|zk<|zr<|s_p E (zU E E)<|mv E E<|zu<|hXx (t_4,t_5,IntKind.i64.wrap (t_1+1)) _ _ _ _ [0] H18 E ⟨E,E,E,E,E,True.intro⟩ E)) fun c_2 H9=>ceF E E E (c_2)<|nx<|cfs E E<|zQ<|zk<|zr<|s_p E (zU E E)<|mv E E<|zu<|hXx (pages_1,l_1,IntKind.i64.wrap (t_1+1)) _ _ _ _ [0] H9 E ⟨E,E,E,E,E,True.intro⟩ E) fun c H5=>s_p E (yF (zw E E) c)<|nx<|zx<|c_f E E<|zT<|zg<|zg<|zv<|hJx (pages_1,l_1) _ _ _ _ [] H5 E ⟨E,E,True.intro⟩ E)
end Go.Proofs.YtabdpmnhjlmnlaaGreatDoor
end
section
namespace Go.Proofs.YtabdpmnhjlmnlaaGreatDoor
open Go Go.Pt
attribute [local irreducible] Code.wp Back bodyPost wpList FR WL WC WQ WA AW Tr Yc HC AllC
set_option maxRecDepth 20000
set_option maxHeartbeats 4000000
set_option linter.unusedVariables false
def yR (S:Mem) (h:Pt) (seats:Int) (quota:Int) (pages:Int) (image:Sl) (Q:Int→Int→Mem→Prop):Prop:=
 vk S seats quota fun t t_1 Sx=>
 t.all (·.oneCell')=true ∧
 jn (fun (Sx_1:Mem)=>
 jn (fun (n:Int) (Sx_2:Mem)=>
 jn (fun (Sx_3:Mem)=>
 nn h fun b_1 o=>
 gP (Sx_3.cell b_1 (o+1)) fun t_2=>
 ym Sx_3 t_2 (IntKind.i64.wrap (5+pages)) fun t_3 t_4 Sx_4=>
 jn (fun (Sx_5:Mem)=>
 jn (fun (Sx_6:Mem)=>
 gP (Sx_6.cell b_1 o) fun t_5=>
 gP (Sx_6.cell b_1 (o+3)) fun t_6=>
 nn t_6 fun b_2 o_1=>
 gI (Sx_6.cell b_2 o_1) .i64 fun t_7=>
 (0:Int)≤5∧5≤(t_3.c:Int) ∧
 lt (slc 1 t_3 0 5) fun t_8=>
 vh Sx_6 t_5 t_7 t_8 fun t_9 t_10 Sx_7=>
 Sx_7.cell b_1 (o+3)=some (.pointer (some ⟨b_2,o_1,none⟩)) ∧
 t_9.all (·.oneCell')=true ∧
 gP (Sx_7.cell b_1 (o+3)) fun t_11=>
 nn t_11 fun b_3 o_2=>
 gI (Sx_7.cell b_3 (o_2+1)) .u64 fun t_12=>
 gP (Sx_7.cell b_1 (o+3)) fun t_13=>
 nn t_13 fun b_4 o_3=>
 0≤n∧n<6 ∧
 (spl (spl t 2 t_9) 5 ([.int .u64 t_12])).all (·.oneCell')=true ∧
 pt Sx_7 b_4 (o_3+2+n.toNat*12) 12 (spl (spl t 2 t_9) 5 ([.int .u64 t_12])) fun Sx_8=>
 0≤n∧n<6 ∧
 pt Sx_8 b_1 (o+5+n.toNat*1) 1 ([.slice (none) 0 0]) fun Sx_9=>
 jn (fun (Sx_10:Mem)=>
 Q n 0 Sx_10) fun Jx=>
 (0:Int)≤5∧(5:Int)≤(t_3.n:Int)∧(t_3.n:Int)≤(t_3.c:Int) ∧
 lt (slc 1 t_3 5 (t_3.n:Int)) fun t_14=>
 lp (fun Xx (t_15:Int) (Sx_11:Mem)=>
 if t_15<(t_14.n:Int) then
 sl t_14 fun b_5 o_4 n_1 n_2=>
 0≤t_15∧t_15<((n_1:Nat):Int) ∧
 gI (Sx_11.cell b_5 (o_4+t_15.toNat*1)) .i64 fun t_16=>
 crab_Crab_own Sx_11 (some (b_1,o)) n t_15 t_16 fun Sx_12=>
 if IntKind.i64.wrap (256*t_15)<(image.n:Int) then
 gP (Sx_12.cell b_1 o) fun t_17=>
 (0:Int)≤IntKind.i64.wrap (256*t_15)∧(IntKind.i64.wrap (256*t_15):Int)≤(if (image.n:Int)<IntKind.i64.wrap ((IntKind.i64.wrap (256*t_15))+256) then (image.n:Int) else IntKind.i64.wrap ((IntKind.i64.wrap (256*t_15))+256))∧(if (image.n:Int)<IntKind.i64.wrap ((IntKind.i64.wrap (256*t_15))+256) then (image.n:Int) else IntKind.i64.wrap ((IntKind.i64.wrap (256*t_15))+256))≤(image.c:Int) ∧
 lt (slc 1 image (IntKind.i64.wrap (256*t_15)) (if (image.n:Int)<IntKind.i64.wrap ((IntKind.i64.wrap (256*t_15))+256) then (image.n:Int) else IntKind.i64.wrap ((IntKind.i64.wrap (256*t_15))+256))) fun t_18=>
 zR Sx_12 t_17 t_16 0 t_18 fun t_19 Sx_13=>
 Xx (IntKind.i64.wrap (t_15+1)) Sx_13
 else
 Xx (IntKind.i64.wrap (t_15+1)) Sx_12
 else
 Jx Sx_11) 0 Sx_9) fun Jx_1=>
 (0:Int)≤5∧5≤(t_3.c:Int) ∧
 lt (slc 1 t_3 0 5) fun t_20=>
 lp (fun Xx_1 (t_21:Int) (Sx_14:Mem)=>
 if t_21<(t_20.n:Int) then
 sl t_20 fun b_6 o_5 n_3 n_4=>
 0≤t_21∧t_21<((n_3:Nat):Int) ∧
 gI (Sx_14.cell b_6 (o_5+t_21.toNat*1)) .i64 fun t_22=>
 gP (Sx_14.cell b_1 (o+3)) fun t_23=>
 nn t_23 fun b_7 o_6=>
 gP (Sx_14.cell b_7 (o_6+74)) fun t_24=>
 qB Sx_14 t_24 t_22 n fun t_25 Sx_15=>
 Xx_1 (IntKind.i64.wrap (t_21+1)) Sx_15
 else
 Jx_1 Sx_14) 0 Sx_5) fun Jx_2=>
 if t_4≠0 then
 Q 0 t_4 Sx_4
 else
 Jx_2 Sx_4) fun Jx_3=>
 if n=6 then
 Q 0 2 Sx_2
 else
 Jx_3 Sx_2) fun Jx_4=>
 lp (fun Xx_2 (n_5:Int) (Sx_16:Mem)=>
 if n_5<6 then
 nn h fun b_8 o_7=>
 gP (Sx_16.cell b_8 (o_7+3)) fun t_26=>
 nn t_26 fun b_9 o_8=>
 0≤n_5∧n_5<6 ∧
 gB (Sx_16.cell b_9 (o_8+2+n_5.toNat*12)) fun t_27=>
 if t_27=true then
 Xx_2 (IntKind.i64.wrap (n_5+1)) Sx_16
 else
 Jx_4 n_5 Sx_16
 else
 Jx_4 n_5 Sx_16) 0 Sx_1) fun Jx_5=>
 if h=none then
 Q 0 2 Sx
 else
 if t_1≠0 then
 Q 0 t_1 Sx
 else
 if pages<1 then
 Q 0 1 Sx
 else
 if quota<pages then
 Q 0 1 Sx
 else
 if IntKind.i64.wrap (256*pages)<(image.n:Int) then
 Q 0 6 Sx
 else
 Jx_5 Sx
theorem kj {S:Mem} {h:Pt} {seats:Int} {quota:Int} {pages:Int} {image:Sl} {Q:Int→Int→Mem→Prop} (H:yR S h seats quota pages image Q):yt S h seats quota pages image Q:=by
 unfold yR at H
 exact Tr.intro Tryz.func30 E Tryz.ntmps30 E fun w0=>csr<|gv E E<|gv E E<|nxr<|mv E E<|mv E E<|yG E E H fun rv Sx H1=>by obtain⟨t,t_1,rfl,ht,H2⟩:=H1;exact mv E E<|s_p E (zp E E)<|s_p E (zp E E)<|by refine zN E fun b=>?_;exact an H2 fun c H3=>zz 0 E E E E E ht E c<|gv E E<|nx<|zo H3 (fun (J:Mem→Prop) (z:Unit) S=>J S) (fun z=>⟨172,[(0,eP h),(3,.int .i64 pages),(4,eL image),(12,.pointer (some ⟨b,0,none⟩))]⟩) (fun z=>[⟨b,66,t⟩]) (fun _ Sx_1 H4=>csr<|gv E E<|nx<|zo H4 (fun (J:Int→Mem→Prop) (z:Int) S=>J z S) (fun z=>⟨172,[(0,eP h),(3,.int .i64 pages),(4,eL image),(12,.pointer (some ⟨b,0,none⟩)),(14,.int .i64 z)]⟩) (fun z=>[⟨b,66,t⟩]) (fun n Sx_2 H5=>zo H5 (fun (J:Mem→Prop) (z:Unit) S=>J S) (fun z=>⟨172,[(0,eP h),(3,.int .i64 pages),(4,eL image),(12,.pointer (some ⟨b,0,none⟩)),(14,.int .i64 n)]⟩) (fun z=>[⟨b,66,t⟩]) (fun _ Sx_3 H6=>csr<|mv E E<|by obtain⟨b_1,o,rfl,H7⟩:=H6;exact s_p E (qb E)<|s_p E (zD E E)<|gx H7 fun t_2 ht_2 H8=>s_v E (zB E) (zV ht_2)<|mv E E<|s_p E (zU E E)<|zbe E E H8 fun t_3 t_4 Sx_4 H9=>mv E E<|s_p E (zp E E)<|s_p E (zp E E)<|gv E E<|gv E E<|nx<|zo H9 (fun (J:Mem→Prop) (z:Unit) S=>J S) (fun z=>⟨172,[(0,.pointer (some ⟨b_1,o,none⟩)),(4,eL image),(12,.pointer (some ⟨b,0,none⟩)),(14,.int .i64 n),(15,eL t_3)]⟩) (fun z=>[⟨b,66,t⟩]) (fun _ Sx_5 H10=>zo H10 (fun (J:Mem→Prop) (z:Unit) S=>J S) (fun z=>⟨172,[(0,.pointer (some ⟨b_1,o,none⟩)),(4,eL image),(12,.pointer (some ⟨b,0,none⟩)),(14,.int .i64 n),(15,eL t_3)]⟩) (fun z=>[⟨b,66,t⟩]) (fun _ Sx_6 H11=>zx<|zY (by kernel_rfl)<|aTP 0 E (by decide +kernel) E (zj E)<|by exact aTP 1 E (by decide +kernel) E (qb E)<|by exact aTP 2 E (by decide +kernel) E (zD E E)<|by exact gx H11 fun t_5 ht_5 H12=>aT 3 E (by decide +kernel) E (zB E) (zV ht_5)<|by exact aTP 4 E (by decide +kernel) E (zj E)<|by exact aTP 5 E (by decide +kernel) E (qb E)<|by exact aTP 6 E (by decide +kernel) E (zD E E)<|by exact gx H12 fun t_6 ht_6 H13=>aT 7 E (by decide +kernel) E (zB E) (zV ht_6)<|by exact by obtain⟨b_2,o_1,rfl,H14⟩:=H13;exact aTP 8 E (by decide +kernel) E (qb E)<|by exact aTP 9 E (by decide +kernel) E (zD E E)<|by exact gx H14 fun t_7 ht_7 H15=>aT 10 E (by decide +kernel) E (zB E) (zV ht_7)<|by exact aTP 11 E (by decide +kernel) E (zj E)<|by exact an2 H15 fun c_2 c_3 H16=>by obtain⟨t_8,et_8,H17⟩:=zdU H16;exact aTP 12 E (by decide +kernel) E (eqv (fL (a:=0) (b:=5) E E E (by decide) c_2 c_3) (congrArg eL et_8))<|by exact zJ 13 (by decide +kernel) E<|by exact yG E E H17 fun rv Sx_7 H18=>by obtain⟨t_9,t_10,rfl,ht_9,H19⟩:=H18;exact by obtain⟨k,H20⟩:=H19;exact zu<|zS (zy (zV k) zF)<|aTP 14 E (by decide +kernel) E (zj E)<|by exact aTP 15 E (by decide +kernel) E (zp E E)<|by exact aTP 16 E (by decide +kernel) E (zp E E)<|by exact aTP 17 E (by decide +kernel) E (zD E E)<|by exact zJ 18 (by decide +kernel) E<|by exact an H20 fun c_4 H21=>wP (sz:=2) (vs:=t_9) 0 E E E E E ht_9 (vE ht (by omega)) c_4<|zu<|zS zF<|zE (by decide +kernel)<|by exact zk<|csr<|mv E E<|s_p E (qb E)<|s_p E (zD E E)<|gx H21 fun t_11 ht_11 H22=>s_v E (zB E) (zV ht_11)<|by obtain⟨b_3,o_2,rfl,H23⟩:=H22;exact s_p E (qb E)<|s_p E (zD E E)<|gx H23 fun t_12 ht_12 H24=>s_v E (zB E) (zV ht_12)<|s_p E (zD E E)<|wP (sz:=1) (vs:=[.int .u64 t_12]) 0 E E E E E E (vE (je ht (by have:=ht_9;(try simp only[List.length_cons,List.length_nil]);omega)) (by omega)) E<|nx<|zx<|zY (by kernel_rfl)<|aTP 0 E (by decide +kernel) E (zj E)<|by exact aTP 1 E (by decide +kernel) E (qb E)<|by exact aTP 2 E (by decide +kernel) E (zD E E)<|by exact gx H24 fun t_13 ht_13 H25=>aT 3 E (by decide +kernel) E (zB E) (zV ht_13)<|by exact aTP 4 E (by decide +kernel) E (zj E)<|by exact aTP 5 E (by decide +kernel) E (zj E)<|by exact aTP 6 E (by decide +kernel) E (zj E)<|by exact by refine aT 7 E (by decide +kernel) E (qu E (je (je ht (by have:=ht_9;(try simp only[List.length_cons,List.length_nil]);omega)) (by have:=True.intro;(try simp only[List.length_cons,List.length_nil]);omega))) (qi (k:=12) 0 E (zC (je (je ht (by have:=ht_9;(try simp only[List.length_cons,List.length_nil]);omega)) (by have:=True.intro;(try simp only[List.length_cons,List.length_nil]);omega)))) ?_;exact by obtain⟨b_4,o_3,rfl,H26⟩:=H25;exact aTP 8 E (by decide +kernel) E (qb E)<|by exact aTP 9 E (by decide +kernel) E (zD E E)<|by exact an2 H26 fun c_5 c_6 H27=>aTP 10 E (by decide +kernel) E (fd E E c_5 c_6 E)<|by exact aTP 12 E (by decide +kernel) E (qb E)<|by exact aTP 13 E (by decide +kernel) E (zD E E)<|by exact zJ 11 (by decide +kernel) E<|by exact an H27 fun c_7 H28=>an H28 fun c_8 H29=>wW E E E E (je (je ht (by have:=ht_9;(try simp only[List.length_cons,List.length_nil]);omega)) (by have:=True.intro;(try simp only[List.length_cons,List.length_nil]);omega)) c_8 c_7<|zu<|zS zF<|an2 H29 fun c_9 c_10 H30=>aTP 14 E (by decide +kernel) E (fd E E c_9 c_10 E)<|by exact zJ 15 (by decide +kernel) E<|by exact an H30 fun c_11 H31=>wW E E E E E c_11 E<|zu<|zS zF<|zE (by decide +kernel)<|by exact zk<|zo H31 (fun (J:Mem→Prop) (z:Unit) S=>J S) (fun z=>⟨172,[(14,.int .i64 n)]⟩) (fun z=>[]) (fun _ Sx_10 H32=>csr<|mv E E<|gv E E<|gv E E<|nx<|zm<|zl Tryz.results30 (zf E (zf E zi)) ⟨_,_,E,H32⟩) (fun Jx hJx H33=>csr<|mv E E<|an3 H33 fun c_12 c_13 c_14 H34=>by obtain⟨t_14,et_14,H35⟩:=zdU H34;exact s_p E (eqv (fL (a:=5) (b:=(t_3.n:Int)) E E E c_12 c_13 c_14) (congrArg eL et_14))<|s_p E (qy E)<|mv E E<|nx<|zs<|qh (fun z=>⟨172,[(0,.pointer (some ⟨b_1,o,none⟩)),(4,eL image),(14,.int .i64 n),(138,eL t_14),(139,.int .i64 (t_14.n:Int)),(140,.int .i64 z)]⟩) (fun z=>[]) 0 (idx:=[]) H35 E ⟨E,E,E,E,E,E,True.intro⟩ E<|fun Xx hXx t_15 Sx_11 H36=>csr<|iteK H36 (fun c_15 H37=>s_p E (yT (zw E E) c_15)<|nx<|zx<|c_t E E<|qg<|zk<|zx<|zs<|csr<|mv E E<|by obtain⟨b_5,o_4,n_1,n_2,rfl,H38⟩:=H37;exact an2 H38 fun c_16 c_17 H39=>s_p E (qG E E c_16 c_17 E)<|gx H39 fun t_16 ht_16 H40=>s_v E (zB E) (zV ht_16)<|gv E E<|gv E E<|nxr<|mv E E<|mv E E<|mv E E<|mv E E<|zdR E E H40 fun Sx_12 H41=>nxr<|mv E E<|s_p E (jh E E)<|gv E E<|nxr<|mv E E<|mv E E<|s_p E (qy E)<|iteK H41 (fun c_18 H42=>s_p E (yT (zw E E) c_18)<|nx<|c_t E E<|zY (by kernel_rfl)<|a_takeP 0 E (by decide +kernel) (zc (za (za (zc (za zb))))) E (zj E)<|by exact a_takeP 1 E (by decide +kernel) (zc (za (za (zc (za zb))))) E (qb E)<|by exact a_takeP 2 E (by decide +kernel) (zc (za (za (zc (za zb))))) E (zD E E)<|by exact gx H42 fun t_17 ht_17 H43=>zA 3 E (by decide +kernel) (zc (za (za (zc (za zb))))) E (zB E) (zV ht_17)<|by exact a_takeP 4 E (by decide +kernel) (zc (za (za (zc (za zb))))) E (zj E)<|by exact a_takeP 5 E (by decide +kernel) (zc (za (za (zc (za zb))))) E (zj E)<|by exact a_takeP 6 E (by decide +kernel) (zc (za (za (zc (za zb))))) E (zj E)<|by exact a_takeP 7 E (by decide +kernel) (zc (za (za (zc (za zb))))) E (zj E)<|by exact a_takeP 8 E (by decide +kernel) (zc (za (za (zc (za zb))))) E (zU E E)<|by exact a_takeP 9 E (by decide +kernel) (zc (za (za (zc (za zb))))) E (zj E)<|by exact a_takeP 10 E (by decide +kernel) (zc (za (za (zc (za zb))))) E (qy E)<|by exact a_takeP 11 E (by decide +kernel) (zc (za (za (zc (za zb))))) E (zdm E E)<|by exact an3 H43 fun c_19 c_20 c_21 H44=>by obtain⟨t_18,et_18,H45⟩:=zdU H44;exact a_takeP 12 E (by decide +kernel) (zc (za (za (zc (za zb))))) E (eqv (fL (a:=IntKind.i64.wrap (256*t_15)) (b:=(if (image.n:Int)<IntKind.i64.wrap ((IntKind.i64.wrap (256*t_15))+256) then (image.n:Int) else IntKind.i64.wrap ((IntKind.i64.wrap (256*t_15))+256))) E E E c_19 c_20 c_21) (congrArg eL et_18))<|by exact zJ 13 (by decide +kernel) E<|by exact qW E E H45 fun t_19 Sx_13 H46=>zu<|zS zF<|zE (by decide +kernel)<|by exact zQ<|zk<|zr<|s_p E (zU E E)<|mv E E<|zu<|hXx (IntKind.i64.wrap (t_15+1)) _ _ _ _ [] H46 E ⟨E,E,E,E,E,E,True.intro⟩ E) fun c_18 H42=>s_p E (yF (zw E E) c_18)<|nx<|cfs E E<|zQ<|zk<|zr<|s_p E (zU E E)<|mv E E<|zu<|hXx (IntKind.i64.wrap (t_15+1)) _ _ _ _ [] H42 E ⟨E,E,E,E,E,E,True.intro⟩ E) fun c_15 H37=>s_p E (yF (zw E E) c_15)<|nx<|zx<|c_f E E<|zT<|zg<|zg<|zv<|hJx () _ _ _ _ [] H37 E ⟨E,True.intro⟩ E)) (fun Jx_1 hJx_1 H47=>csr<|mv E E<|an2 H47 fun c_23 c_24 H48=>by obtain⟨t_20,et_20,H49⟩:=zdU H48;exact s_p E (eqv (fL (a:=0) (b:=5) E E E (by decide) c_23 c_24) (congrArg eL et_20))<|s_p E (qy E)<|mv E E<|nx<|zs<|qh (fun z=>⟨172,[(0,.pointer (some ⟨b_1,o,none⟩)),(4,eL image),(12,.pointer (some ⟨b,0,none⟩)),(14,.int .i64 n),(15,eL t_3),(80,eL t_20),(81,.int .i64 (t_20.n:Int)),(82,.int .i64 z)]⟩) (fun z=>[⟨b,66,t⟩]) 0 (idx:=[0]) H49 E ⟨E,E,E,E,E,E,E,E,True.intro⟩ E<|fun Xx_1 hXx_1 t_21 Sx_14 H50=>csr<|iteK H50 (fun c_25 H51=>s_p E (yT (zw E E) c_25)<|nx<|zx<|c_t E E<|qg<|zk<|zx<|zs<|csr<|by obtain⟨b_6,o_5,n_3,n_4,rfl,H52⟩:=H51;exact an2 H52 fun c_26 c_27 H53=>s_p E (qG E E c_26 c_27 E)<|gx H53 fun t_22 ht_22 H54=>s_v E (zB E) (zV ht_22)<|gv E E<|nx<|zr<|mv E E<|s_p E (qb E)<|s_p E (zD E E)<|gx H54 fun t_23 ht_23 H55=>s_v E (zB E) (zV ht_23)<|by obtain⟨b_7,o_6,rfl,H56⟩:=H55;exact s_p E (qb E)<|s_p E (zD E E)<|gx H56 fun t_24 ht_24 H57=>s_v E (zB E) (zV ht_24)<|mv E E<|mv E E<|qW E E H57 fun t_25 Sx_15 H58=>zu<|zQ<|zk<|zr<|s_p E (zU E E)<|mv E E<|zu<|hXx_1 (IntKind.i64.wrap (t_21+1)) _ _ _ _ [0] H58 E ⟨E,E,E,E,E,E,E,E,True.intro⟩ E) fun c_25 H51=>s_p E (yF (zw E E) c_25)<|nx<|zx<|c_f E E<|zT<|zg<|zg<|zv<|hJx_1 () _ _ _ _ [0] H51 E ⟨E,E,E,E,E,True.intro⟩ E)) (fun Jx_2 hJx_2 H59=>csr<|mv E E<|iteK H59 (fun c_28 H60=>s_p E (yT (zI E E) c_28)<|nx<|c_t E E<|csr<|mv E E<|gv E E<|gv E E<|nx<|zm<|ze<|zl Tryz.results30 (zf E (zf E zi)) ⟨_,_,E,H60⟩) fun c_28 H60=>s_p E (yF (zI E E) c_28)<|nx<|cfs E E<|hJx_2 () _ _ _ _ [0] H60 E ⟨E,E,E,E,E,True.intro⟩ E)) (fun Jx_3 hJx_3 H61=>csr<|mv E E<|iteK H61 (fun c_29 H62=>ceT E E E (c_29)<|nx<|c_t E E<|csr<|gv E E<|gv E E<|nx<|zm<|ze<|zl Tryz.results30 (zf E (zf E zi)) ⟨_,_,E,H62⟩) fun c_29 H62=>ceF E E E (c_29)<|nx<|cfs E E<|hJx_3 () _ _ _ _ [0] H62 E ⟨E,E,E,E,E,True.intro⟩ E)) (fun Jx_4 hJx_4 H63=>zs<|qh (fun z=>⟨172,[(0,eP h),(3,.int .i64 pages),(4,eL image),(12,.pointer (some ⟨b,0,none⟩)),(14,.int .i64 z)]⟩) (fun z=>[⟨b,66,t⟩]) 0 (idx:=[0]) H63 E ⟨E,E,E,E,E,True.intro⟩ E<|fun Xx_2 hXx_2 n_5 Sx_16 H64=>zx<|csr<|mv E E<|iteK H64 (fun c_30 H65=>s_p E (yT (zw E E) c_30)<|mv E E<|mv E E<|by obtain⟨b_8,o_7,rfl,H66⟩:=H65;exact s_p E (qb E)<|s_p E (zD E E)<|gx H66 fun t_26 ht_26 H67=>s_v E (zB E) (zV ht_26)<|mv E E<|by obtain⟨b_9,o_8,rfl,H68⟩:=H67;exact s_p E (qb E)<|s_p E (zD E E)<|an2 H68 fun c_31 c_32 H69=>s_p E (fd E E c_31 c_32 E)<|s_p E (zD E E)<|gx H69 fun t_27 ht_27 H70=>by have H71:=vY H70;rcases H71 with ⟨rfl,H72⟩ | ⟨rfl,H72⟩;exact (s_v E (zB E) (zV ht_27)<|pk E E E<|nx<|c_t E E<|qg<|zk<|zs<|zr<|mv E E<|s_p E (zU E E)<|gv E E<|zu<|zQ<|hXx_2 (IntKind.i64.wrap (n_5+1)) _ _ _ _ [0] H72 E ⟨E,E,E,E,E,True.intro⟩ E);exact (s_v E (zB E) (zV ht_27)<|pk E E E<|nx<|c_f E E<|zT<|zg<|zg<|zv<|hJx_4 n_5 _ _ _ _ [0] H72 E ⟨E,E,E,E,E,True.intro⟩ E)) fun c_30 H65=>s_p E (yF (zw E E) c_30)<|mv E E<|sk8 E E E E E E E E<|sk2 E E<|pk E E E<|nx<|c_f E E<|zT<|zg<|zg<|zv<|hJx_4 n_5 _ _ _ _ [0] H65 E ⟨E,E,E,E,E,True.intro⟩ E)) (fun Jx_5 hJx_5 H73=>zs<|csr<|mv E E<|iteK H73 (fun c_33 H74=>s_p E (yT (qH (p:=h) E E) c_33)<|gv E E<|nx<|c_t E E<|csr<|gv E E<|gv E E<|nx<|zm<|zh<|ze<|zl Tryz.results30 (zf E (zf E zi)) ⟨_,_,E,H74⟩) fun c_33 H74=>s_p E (yF (qH (p:=h) E E) c_33)<|gv E E<|nx<|c_f E E<|csr<|mv E E<|iteK H74 (fun c_34 H75=>s_p E (yT (zI E E) c_34)<|gv E E<|nx<|c_t E E<|csr<|mv E E<|gv E E<|gv E E<|nx<|zm<|zh<|ze<|zl Tryz.results30 (zf E (zf E zi)) ⟨_,_,E,H75⟩) fun c_34 H75=>s_p E (yF (zI E E) c_34)<|gv E E<|nx<|c_f E E<|csr<|mv E E<|iteK H75 (fun c_35 H76=>s_p E (yT (zw E E) c_35)<|mv E E<|sk2 E E<|zP E<|pk E E E<|gv E E<|nx<|c_t E E<|csr<|gv E E<|gv E E<|nx<|zm<|zh<|ze<|zl Tryz.results30 (zf E (zf E zi)) ⟨_,_,E,H76⟩) fun c_35 H76=>s_p E (yF (zw E E) c_35)<|mv E E<|mv E E<|mv E E<|iteK H76 (fun c_36 H77=>s_p E (yT (yu E E) c_36)<|pk E E E<|gv E E<|nx<|c_t E E<|csr<|gv E E<|gv E E<|nx<|zm<|zh<|ze<|zl Tryz.results30 (zf E (zf E zi)) ⟨_,_,E,H77⟩) fun c_36 H77=>s_p E (yF (yu E E) c_36)<|pk E E E<|gv E E<|nx<|c_f E E<|csr<|mv E E<|s_p E (qy E)<|mv E E<|s_p E (jh E E)<|iteK H77 (fun c_37 H78=>s_p E (yT (yu E E) c_37)<|gv E E<|nx<|c_t E E<|zx<|by exact zr<|gv E E<|gv E E<|nx<|zm<|zh<|ze<|zl Tryz.results30 (zf E (zf E zi)) ⟨_,_,E,H78⟩) fun c_37 H78=>s_p E (yF (yu E E) c_37)<|gv E E<|nx<|cfs E E<|zQ<|by exact hJx_5 () _ _ _ _ [0] H78 E ⟨E,E,E,E,True.intro⟩ E)
def jc (S:Mem) (form:Int) (frames:Int) (region:Int) (Q:Pt→Int→Mem→Prop):Prop:=
 jn (fun (Sx:Mem)=>
 wt Sx frames fun t Sx_1=>
 vi Sx_1 frames fun t_1 Sx_2=>
 kE Sx_2 form frames fun t_2 Sx_3=>
 al Sx_3 86 ([eP t,eP t_1,.slice (none) 0 0,eP t_2,.slice (none) 0 0,.slice (none) 0 0,.slice (none) 0 0,.slice (none) 0 0,.slice (none) 0 0,.slice (none) 0 0,.slice (none) 0 0]) fun b Sx_4=>
 gP (Sx_4.cell b 1) fun t_3=>
 ym Sx_4 t_3 region fun t_4 t_5 Sx_5=>
 pt Sx_5 b 4 1 ([eL t_4]) fun Sx_6=>
 jn (fun (Sx_7:Mem)=>
 Q (some (b,0)) 0 Sx_7) fun Jx=>
 gL (Sx_6.cell b 4) fun t_6=>
 lp (fun Xx (t_7:Int) (Sx_8:Mem)=>
 if t_7<(t_6.n:Int) then
 sl t_6 fun b_1 o n n_1=>
 0≤t_7∧t_7<((n:Nat):Int) ∧
 gI (Sx_8.cell b_1 (o+t_7.toNat*1)) .i64 fun t_8=>
 gP (Sx_8.cell b 3) fun t_9=>
 nn t_9 fun b_2 o_1=>
 gP (Sx_8.cell b_2 (o_1+74)) fun t_10=>
 qB Sx_8 t_10 t_8 (-1) fun t_11 Sx_9=>
 Xx (IntKind.i64.wrap (t_7+1)) Sx_9
 else
 Jx Sx_8) 0 Sx_6) fun Jx_1=>
 if frames<1 then
 Q none 1 S
 else
 if 512<frames then
 Q none 1 S
 else
 if region<1 then
 Q none 1 S
 else
 if frames<region then
 Q none 1 S
 else
 if form≠1 then
 if form≠2 then
 Q none 1 S
 else
 Jx_1 S
 else
 Jx_1 S
theorem zbK {S:Mem} {form:Int} {frames:Int} {region:Int} {Q:Pt→Int→Mem→Prop} (H:jc S form frames region Q):jz S form frames region Q:=by
 unfold jc at H
 exact Tr.intro Tryz.func28 E Tryz.ntmps28 E fun w0=>csr<|gv E E<|gv E E<|nx<|zo H (fun (J:Mem→Prop) (z:Unit) S=>J S) (fun z=>⟨75,[(0,.int .i64 form),(1,.int .i64 frames),(2,.int .i64 region)]⟩) (fun z=>[]) (fun _ Sx H1=>csr<|mv E E<|qW E E H1 fun t Sx_1 H2=>mv E E<|qW E E H2 fun t_1 Sx_2 H3=>mv E E<|mv E E<|qW E E H3 fun t_2 Sx_3 H4=>s_p E (zM E E)<|by exact xW E E E fun b=>vy 0 E fun hb=>have H5:=H4 b hb;gv E E<|nxr<|mv E E<|mv E E<|s_p E (qb E)<|s_p E (zD E E)<|gx H5 fun t_3 ht_3 H6=>s_v E (zB E) (zV ht_3)<|mv E E<|zbe E E H6 fun t_4 t_5 Sx_5 H7=>mv E E<|s_p E (zp E E)<|s_p E (zp E E)<|s_p E (qb E)<|s_p E (zD E E)<|an H7 fun c H8=>wW E E E E E c E<|nx<|zo H8 (fun (J:Mem→Prop) (z:Unit) S=>J S) (fun z=>⟨75,[(8,.pointer (some ⟨b,0,none⟩))]⟩) (fun z=>[]) (fun _ Sx_7 H9=>csr<|mv E E<|gv E E<|gv E E<|nx<|zm<|zl Tryz.results28 (zf E (zf E zi)) ⟨_,_,E,H9⟩) (fun Jx hJx H10=>csr<|mv E E<|s_p E (qb E)<|s_p E (zD E E)<|gx H10 fun t_6 ht_6 H11=>s_v E (zB E) (zV ht_6)<|s_p E (qy E)<|mv E E<|nx<|zs<|qh (fun z=>⟨75,[(8,.pointer (some ⟨b,0,none⟩)),(58,eL t_6),(59,.int .i64 (t_6.n:Int)),(60,.int .i64 z)]⟩) (fun z=>[]) 0 (idx:=[]) H11 E ⟨E,E,E,E,True.intro⟩ E<|fun Xx hXx t_7 Sx_8 H12=>csr<|iteK H12 (fun c_1 H13=>s_p E (yT (zw E E) c_1)<|nx<|zx<|c_t E E<|qg<|zk<|zx<|zs<|zx<|by exact zr<|by obtain⟨b_1,o,n,n_1,rfl,H14⟩:=H13;exact an2 H14 fun c_2 c_3 H15=>s_p E (qG E E c_2 c_3 E)<|gx H15 fun t_8 ht_8 H16=>s_v E (zB E) (zV ht_8)<|gv E E<|nx<|zr<|mv E E<|s_p E (qb E)<|s_p E (zD E E)<|gx H16 fun t_9 ht_9 H17=>s_v E (zB E) (zV ht_9)<|by obtain⟨b_2,o_1,rfl,H18⟩:=H17;exact s_p E (qb E)<|s_p E (zD E E)<|gx H18 fun t_10 ht_10 H19=>s_v E (zB E) (zV ht_10)<|mv E E<|qW E E H19 fun t_11 Sx_9 H20=>zu<|zQ<|zk<|zr<|s_p E (zU E E)<|mv E E<|zu<|hXx (IntKind.i64.wrap (t_7+1)) _ _ _ _ [] H20 E ⟨E,E,E,E,True.intro⟩ E) fun c_1 H13=>s_p E (yF (zw E E) c_1)<|nx<|zx<|c_f E E<|zT<|zg<|zg<|zv<|hJx () _ _ _ _ [] H13 E ⟨E,True.intro⟩ E)) (fun Jx_1 hJx_1 H21=>csr<|mv E E<|iteK H21 (fun c_4 H22=>s_p E (yT (zw E E) c_4)<|mv E E<|sk2 E E<|pk E E E<|mv E E<|sk2 E E<|pk E E E<|mv E E<|sk2 E E<|zP E<|pk E E E<|mv E E<|sk4 E E E E<|sk2 E E<|pk E E E<|nx<|c_t E E<|csr<|gv E E<|gv E E<|nx<|zm<|ze<|zl Tryz.results28 (zf E (zf E zi)) ⟨_,_,E,H22⟩) fun c_4 H22=>s_p E (yF (zw E E) c_4)<|mv E E<|mv E E<|iteK H22 (fun c_5 H23=>s_p E (yT (yu E E) c_5)<|pk E E E<|mv E E<|sk2 E E<|pk E E E<|mv E E<|sk2 E E<|zP E<|pk E E E<|mv E E<|sk4 E E E E<|sk2 E E<|pk E E E<|nx<|c_t E E<|csr<|gv E E<|gv E E<|nx<|zm<|ze<|zl Tryz.results28 (zf E (zf E zi)) ⟨_,_,E,H23⟩) fun c_5 H23=>s_p E (yF (yu E E) c_5)<|pk E E E<|mv E E<|mv E E<|iteK H23 (fun c_6 H24=>s_p E (yT (zw E E) c_6)<|pk E E E<|mv E E<|sk2 E E<|zP E<|pk E E E<|mv E E<|sk4 E E E E<|sk2 E E<|pk E E E<|nx<|c_t E E<|csr<|gv E E<|gv E E<|nx<|zm<|ze<|zl Tryz.results28 (zf E (zf E zi)) ⟨_,_,E,H24⟩) fun c_6 H24=>s_p E (yF (zw E E) c_6)<|pk E E E<|mv E E<|mv E E<|mv E E<|iteK H24 (fun c_7 H25=>s_p E (yT (yu E E) c_7)<|pk E E E<|mv E E<|sk4 E E E E<|sk2 E E<|pk E E E<|nx<|c_t E E<|csr<|gv E E<|gv E E<|nx<|zm<|ze<|zl Tryz.results28 (zf E (zf E zi)) ⟨_,_,E,H25⟩) fun c_7 H25=>s_p E (yF (yu E E) c_7)<|pk E E E<|mv E E<|mv E E<|iteK H25 (fun c_8 H26=>s_p E (yT (zI E E) c_8)<|mv E E<|mv E E<|iteK H26 (fun c_9 H27=>s_p E (yT (zI E E) c_9)<|pk E E E<|pk E E E<|nx<|c_t E E<|csr<|gv E E<|gv E E<|nx<|zm<|ze<|zl Tryz.results28 (zf E (zf E zi)) ⟨_,_,E,H27⟩) fun c_9 H27=>s_p E (yF (zI E E) c_9)<|pk E E E<|pk E E E<|nx<|cfs E E<|hJx_1 () _ _ _ _ [] H27 E ⟨E,E,E,True.intro⟩ E) fun c_8 H26=>s_p E (yF (zI E E) c_8)<|mv E E<|sk2 E E<|pk E E E<|pk E E E<|nx<|cfs E E<|hJx_1 () _ _ _ _ [] H26 E ⟨E,E,E,True.intro⟩ E)
def wN (S:Mem) (Q:List Value→Mem→Prop):Prop:=
 jn (fun (d:List Value) (Sx:Mem)=>
 d.length=4 ∧
 d.all (·.oneCell')=true ∧
 Q d Sx) fun Jx=>
 lp (fun Xx (z:Int×List Value) (Sx_1:Mem)=>
 match z with
 | (t,d_1)=>
 d_1.length=4 ∧
 if t<4 then
 al Sx_1 5 (zrep 256 [.int .u8 0]) fun b_2 Sx_2=>
 0≤t∧t<4 ∧
 Xx (IntKind.i64.wrap (t+1),spl d_1 (0+t.toNat*1) ([.slice (some ⟨b_2,0,none⟩) 256 256])) Sx_2
 else
 Jx d_1 Sx_1) (0,[.slice (none) 0 0,.slice (none) 0 0,.slice (none) 0 0,.slice (none) 0 0]) S
theorem fh {S:Mem} {Q:List Value→Mem→Prop} (H:wN S Q):vP S Q:=by
 unfold wN at H
 exact Tr.intro Tryz.func115 E Tryz.ntmps115 E fun w0=>csr<|by refine zN E fun b=>?_;exact nxr<|by refine zN E fun b_1=>?_;exact nx<|zo H (fun (J:List Value→Mem→Prop) (z:List Value) S=>J z S) (fun z=>⟨11,[(0,.pointer (some ⟨b,0,none⟩)),(1,.pointer (some ⟨b_1,0,none⟩))]⟩) (fun z=>[⟨b,64,[.slice (none) 0 0,.slice (none) 0 0,.slice (none) 0 0,.slice (none) 0 0]⟩,⟨b_1,64,z⟩]) (fun d Sx H1=>an H1 fun hd H2=>csr<|by refine s_v E (qu E hd) (qi (k:=4) 1 E (zC hd)) ?_;exact an H2 fun c H3=>zz 0 E E E E E hd E c<|nx<|zm<|zl Tryz.results115 (qa E (qi (k:=4) 0 E (zC hd)) hd zi) ⟨_,E,hd,H3⟩) (fun Jx hJx H4=>csr<|mv E E<|nx<|zs<|qh (fun z=>⟨11,[(0,.pointer (some ⟨b,0,none⟩)),(1,.pointer (some ⟨b_1,0,none⟩)),(3,.int .i64 z.1)]⟩) (fun z=>[⟨b,64,[.slice (none) 0 0,.slice (none) 0 0,.slice (none) 0 0,.slice (none) 0 0]⟩,⟨b_1,64,z.2⟩]) (0,[.slice (none) 0 0,.slice (none) 0 0,.slice (none) 0 0,.slice (none) 0 0]) (idx:=[0,0]) H4 E ⟨E,E,E,True.intro⟩ E<|by rintro Xx hXx ⟨t,d_1⟩ Sx_1 H5;exact an H5 fun hd_1 H6=>csr<|iteK H6 (fun c_1 H7=>s_p E (yT (zw E E) c_1)<|nx<|zx<|c_t E E<|qg<|zk<|zx<|zs<|csr<|mv E E<|gv E E<|nx<|zr<|mv E E<|zfb E E E (by decide) (by decide) (by decide) (by decide) fun b_2=>vy 2 E fun hb_2=>have H8:=H7 b_2 hb_2;an2 H8 fun c_2 c_3 H9=>s_p E (fd E E c_2 c_3 E)<|wP (sz:=1) (vs:=[.slice (some ⟨b_2,0,none⟩) 256 256]) 1 E E E E E E (vE hd_1 (by omega)) E<|zu<|zQ<|zk<|zr<|s_p E (zU E E)<|mv E E<|zu<|hXx (IntKind.i64.wrap (t+1),spl d_1 (0+t.toNat*1) ([.slice (some ⟨b_2,0,none⟩) 256 256])) _ _ _ _ [0,0] H9 E ⟨E,E,E,True.intro⟩ E) fun c_1 H7=>s_p E (yF (zw E E) c_1)<|nx<|zx<|c_f E E<|zT<|zg<|zg<|zv<|hJx d_1 _ _ _ _ [0,0] H7 E ⟨E,E,True.intro⟩ E)
def wd (S:Mem) (seats:Int) (quota:Int) (Q:List Value→Int→Mem→Prop):Prop:=
 jn (fun (v:List Value) (Sx:Mem)=>
 v.length=12 ∧
 vP Sx fun t Sx_1=>
 (spl (spl (spl ([.bool false,.slice (none) 0 0,.int .i64 0,.slice (none) 0 0,.int .i64 0,.int .u64 0,.slice (none) 0 0,.slice (none) 0 0,.slice (none) 0 0,.slice (none) 0 0,.slice (none) 0 0,.int .u32 0]) 0 [.bool true]) 4 [.int .i64 quota]) 7 t).all (·.oneCell')=true ∧
 jn (fun (v_1:List Value) (Sx_2:Mem)=>
 v_1.length=12 ∧
 v_1.all (·.oneCell')=true ∧
 Q v_1 0 Sx_2) fun Jx=>
 lp (fun Xx (z:Int×List Value) (Sx_3:Mem)=>
 match z with
 | (t_1,v_2)=>
 v_2.length=12 ∧
 if t_1<seats then
 gL (nthL v_2 1) fun t_2=>
 zbc Sx_3 fun t_3 Sx_4=>
 t_3.all (·.oneCell')=true ∧
 ap Sx_4 43 26 192 z43 t_2 1 t_3 fun t_4 Sx_5=>
 Xx (IntKind.i64.wrap (t_1+1),spl v_2 1 ([eL t_4])) Sx_5
 else
 Jx v_2 Sx_3) (0,spl (spl (spl ([.bool false,.slice (none) 0 0,.int .i64 0,.slice (none) 0 0,.int .i64 0,.int .u64 0,.slice (none) 0 0,.slice (none) 0 0,.slice (none) 0 0,.slice (none) 0 0,.slice (none) 0 0,.int .u32 0]) 0 [.bool true]) 4 [.int .i64 quota]) 7 t) Sx_1) fun Jx_1=>
 if seats<1 then
 Q ([.bool false,.slice (none) 0 0,.int .i64 0,.slice (none) 0 0,.int .i64 0,.int .u64 0,.slice (none) 0 0,.slice (none) 0 0,.slice (none) 0 0,.slice (none) 0 0,.slice (none) 0 0,.int .u32 0]) 1 S
 else
 if 3<seats then
 Q ([.bool false,.slice (none) 0 0,.int .i64 0,.slice (none) 0 0,.int .i64 0,.int .u64 0,.slice (none) 0 0,.slice (none) 0 0,.slice (none) 0 0,.slice (none) 0 0,.slice (none) 0 0,.int .u32 0]) 1 S
 else
 if quota<1 then
 Q ([.bool false,.slice (none) 0 0,.int .i64 0,.slice (none) 0 0,.int .i64 0,.int .u64 0,.slice (none) 0 0,.slice (none) 0 0,.slice (none) 0 0,.slice (none) 0 0,.slice (none) 0 0,.int .u32 0]) 1 S
 else
 if 32<quota then
 Q ([.bool false,.slice (none) 0 0,.int .i64 0,.slice (none) 0 0,.int .i64 0,.int .u64 0,.slice (none) 0 0,.slice (none) 0 0,.slice (none) 0 0,.slice (none) 0 0,.slice (none) 0 0,.int .u32 0]) 1 S
 else
 Jx_1 ([.bool false,.slice (none) 0 0,.int .i64 0,.slice (none) 0 0,.int .i64 0,.int .u64 0,.slice (none) 0 0,.slice (none) 0 0,.slice (none) 0 0,.slice (none) 0 0,.slice (none) 0 0,.int .u32 0]) S
theorem jd {S:Mem} {seats:Int} {quota:Int} {Q:List Value→Int→Mem→Prop} (H:wd S seats quota Q):vk S seats quota Q:=by
 unfold wd at H
 exact Tr.intro Tryz.func56 E Tryz.ntmps56 E fun w0=>csr<|by refine zN E fun b=>?_;exact gv E E<|nx<|zo H (fun (J:List Value→Mem→Prop) (z:List Value) S=>J z S) (fun z=>⟨36,[(0,.int .i64 seats),(1,.int .i64 quota),(4,.pointer (some ⟨b,0,none⟩))]⟩) (fun z=>[⟨b,66,z⟩]) (fun v Sx H1=>an H1 fun hv H2=>csr<|mv E E<|yG E E H2 fun rv Sx_1 H3=>by obtain⟨t,rfl,ht,H4⟩:=H3;exact s_p E (zM E (xO (off:=0) (size:=1) E E (vE (n:=12) E (by decide)) (xO (off:=4) (size:=1) E E (vE (n:=12) (kr (m:=1) E E (by decide)) (by decide)) (xO (off:=7) (size:=4) E ht (vE (n:=12) (kr (m:=1) (kr (m:=1) E E (by decide)) E (by decide)) (by decide)) zbs))))<|by exact by refine zN E fun b_1=>?_;exact an H4 fun c H5=>zz 1 E E E E E (kr (m:=4) (kr (m:=1) (kr (m:=1) E E (by decide)) E (by decide)) ht (by decide)) E c<|nx<|zo H5 (fun (J:List Value→Mem→Prop) (z:List Value) S=>J z S) (fun z=>⟨36,[(4,.pointer (some ⟨b,0,none⟩)),(6,.pointer (some ⟨b_1,0,none⟩))]⟩) (fun z=>[⟨b,66,v⟩,⟨b_1,66,z⟩]) (fun v_1 Sx_2 H6=>an H6 fun hv_1 H7=>csr<|by refine s_v E (qu E hv_1) (qi (k:=12) 1 E (zC hv_1)) ?_;exact an H7 fun c_1 H8=>zz 0 E E E E E hv_1 hv c_1<|gv E E<|nx<|zm<|zl Tryz.results56 (qa E (qi (k:=12) 0 E (zC hv_1)) hv_1 (zf E zi)) ⟨_,_,E,hv_1,H8⟩) (fun Jx hJx H9=>csr<|mv E E<|mv E E<|nx<|zs<|qh (fun z=>⟨36,[(4,.pointer (some ⟨b,0,none⟩)),(6,.pointer (some ⟨b_1,0,none⟩)),(25,.int .i64 seats),(26,.int .i64 z.1)]⟩) (fun z=>[⟨b,66,v⟩,⟨b_1,66,z.2⟩]) (0,spl (spl (spl ([.bool false,.slice (none) 0 0,.int .i64 0,.slice (none) 0 0,.int .i64 0,.int .u64 0,.slice (none) 0 0,.slice (none) 0 0,.slice (none) 0 0,.slice (none) 0 0,.slice (none) 0 0,.int .u32 0]) 0 [.bool true]) 4 [.int .i64 quota]) 7 t) (idx:=[0,0]) H9 E ⟨E,E,E,E,True.intro⟩ E<|by rintro Xx hXx ⟨t_1,v_2⟩ Sx_3 H10;exact an H10 fun hv_2 H11=>csr<|iteK H11 (fun c_2 H12=>s_p E (yT (zw E E) c_2)<|nx<|zx<|c_t E E<|qg<|zk<|zx<|zs<|zY (by kernel_rfl)<|a_takeP 0 E (by decide +kernel) (zc (za (za (zc (za zb))))) E (zD E E)<|by exact gx H12 fun t_2 ht_2 H13=>zA 1 E (by decide +kernel) (zc (za (za (zc (za zb))))) E (zB E) (zL 1 E ht_2)<|by exact zJ 2 (by decide +kernel) E<|by exact yG E E H13 fun rv Sx_4 H14=>by obtain⟨t_3,rfl,ht_3,H15⟩:=H14;exact zu<|zS (zy (zL 1 E ht_2) zF)<|zJ 3 (by decide +kernel) E<|by exact zaB E E (by decide) (kG (size:=26) E ht_3) fun b_2=>zu<|zS (zy (zL 1 E ht_2) zF)<|zJ 4 (by decide +kernel) E<|by exact an H15 fun c_3 H16=>vN (sx:=t_2) (vs:=t_3) E E E (zcg 2 E (zC ht_3)) ht_3 c_3 (by decide) H16 fun t_4 Sx_5 H17=>zu<|zS zF<|a_takeP 5 E (by decide +kernel) (zc (za (za (zc (za zb))))) E (zD E E)<|by exact zJ 6 (by decide +kernel) E<|by exact wP (sz:=1) (vs:=[eL t_4]) 1 E E E E E E (vE hv_2 (by omega)) E<|zu<|zS zF<|zE (by decide +kernel)<|by exact zQ<|zk<|zr<|s_p E (zU E E)<|mv E E<|zu<|hXx (IntKind.i64.wrap (t_1+1),spl v_2 1 ([eL t_4])) _ _ _ _ [0,0] H17 E ⟨E,E,E,E,True.intro⟩ E) fun c_2 H12=>s_p E (yF (zw E E) c_2)<|nx<|zx<|c_f E E<|zT<|zg<|zg<|zv<|hJx v_2 _ _ _ _ [0,0] H12 E ⟨E,E,True.intro⟩ E)) (fun Jx_1 hJx_1 H18=>csr<|mv E E<|iteK H18 (fun c_4 H19=>s_p E (yT (zw E E) c_4)<|mv E E<|sk2 E E<|pk E E E<|mv E E<|sk2 E E<|pk E E E<|mv E E<|sk2 E E<|pk E E E<|nx<|c_t E E<|csr<|s_p E (zM E E)<|by exact wP (sz:=12) (vs:=[.bool false,.slice (none) 0 0,.int .i64 0,.slice (none) 0 0,.int .i64 0,.int .u64 0,.slice (none) 0 0,.slice (none) 0 0,.slice (none) 0 0,.slice (none) 0 0,.slice (none) 0 0,.int .u32 0]) 0 E E E E E E (Nat.le_of_ble_eq_true E) E<|gv E E<|nx<|zm<|ze<|zl Tryz.results56 (qa E (qi (k:=12) 0 E E) E (zf E zi)) ⟨_,_,E,E,H19⟩) fun c_4 H19=>s_p E (yF (zw E E) c_4)<|mv E E<|mv E E<|iteK H19 (fun c_5 H20=>s_p E (yT (yu E E) c_5)<|pk E E E<|mv E E<|sk2 E E<|pk E E E<|mv E E<|sk2 E E<|pk E E E<|nx<|c_t E E<|csr<|s_p E (zM E E)<|by exact wP (sz:=12) (vs:=[.bool false,.slice (none) 0 0,.int .i64 0,.slice (none) 0 0,.int .i64 0,.int .u64 0,.slice (none) 0 0,.slice (none) 0 0,.slice (none) 0 0,.slice (none) 0 0,.slice (none) 0 0,.int .u32 0]) 0 E E E E E E (Nat.le_of_ble_eq_true E) E<|gv E E<|nx<|zm<|ze<|zl Tryz.results56 (qa E (qi (k:=12) 0 E E) E (zf E zi)) ⟨_,_,E,E,H20⟩) fun c_5 H20=>s_p E (yF (yu E E) c_5)<|pk E E E<|mv E E<|mv E E<|iteK H20 (fun c_6 H21=>s_p E (yT (zw E E) c_6)<|pk E E E<|mv E E<|sk2 E E<|pk E E E<|nx<|c_t E E<|csr<|s_p E (zM E E)<|by exact wP (sz:=12) (vs:=[.bool false,.slice (none) 0 0,.int .i64 0,.slice (none) 0 0,.int .i64 0,.int .u64 0,.slice (none) 0 0,.slice (none) 0 0,.slice (none) 0 0,.slice (none) 0 0,.slice (none) 0 0,.int .u32 0]) 0 E E E E E E (Nat.le_of_ble_eq_true E) E<|gv E E<|nx<|zm<|ze<|zl Tryz.results56 (qa E (qi (k:=12) 0 E E) E (zf E zi)) ⟨_,_,E,E,H21⟩) fun c_6 H21=>s_p E (yF (zw E E) c_6)<|pk E E E<|mv E E<|mv E E<|iteK H21 (fun c_7 H22=>s_p E (yT (yu E E) c_7)<|pk E E E<|nx<|c_t E E<|csr<|s_p E (zM E E)<|by exact wP (sz:=12) (vs:=[.bool false,.slice (none) 0 0,.int .i64 0,.slice (none) 0 0,.int .i64 0,.int .u64 0,.slice (none) 0 0,.slice (none) 0 0,.slice (none) 0 0,.slice (none) 0 0,.slice (none) 0 0,.int .u32 0]) 0 E E E E E E (Nat.le_of_ble_eq_true E) E<|gv E E<|nx<|zm<|ze<|zl Tryz.results56 (qa E (qi (k:=12) 0 E E) E (zf E zi)) ⟨_,_,E,E,H22⟩) fun c_7 H22=>s_p E (yF (yu E E) c_7)<|pk E E E<|nx<|cfs E E<|hJx_1 ([.bool false,.slice (none) 0 0,.int .i64 0,.slice (none) 0 0,.int .i64 0,.int .u64 0,.slice (none) 0 0,.slice (none) 0 0,.slice (none) 0 0,.slice (none) 0 0,.slice (none) 0 0,.int .u32 0]) _ _ _ _ [0] H22 E ⟨E,E,E,True.intro⟩ E)
def vX (S:Mem) (form:Int) (frames:Int) (Q:Pt→Mem→Prop):Prop:=
 jR S frames fun t Sx=>
 al Sx 127 ([.slice (none) 0 0]) fun b Sx_1=>
 al Sx_1 77 (spl (spl (spl z77 0 [.int .i64 form]) 74 [eP t]) 171 [.pointer (some ⟨b,0,none⟩)]) fun b_1 Sx_2=>
 Q (some (b_1,0)) Sx_2
theorem zax {S:Mem} {form:Int} {frames:Int} {Q:Pt→Mem→Prop} (H:vX S form frames Q):kE S form frames Q:=by
 unfold vX at H
 exact Tr.intro Tryz.func70 E Tryz.ntmps70 E fun w0=>csr<|gv E E<|nxr<|mv E E<|mv E E<|qW E E H fun t Sx H1=>s_p E (zM E E)<|by exact xW E E E fun b=>vy 0 E fun hb=>have H2:=H1 b hb;s_p E (zM E (xO (off:=0) (size:=1) E E (vE (n:=190) zao (by decide)) (xO (off:=74) (size:=1) E E (vE (n:=190) (kr (m:=1) zao E (by decide)) (by decide)) (xO (off:=171) (size:=1) E E (vE (n:=190) (kr (m:=1) (kr (m:=1) zao E (by decide)) E (by decide)) (by decide)) zbs))))<|by exact xW E E E fun b_1=>vy 0 E fun hb_1=>have H3:=H2 b_1 hb_1;gv E E<|nx<|zm<|zl Tryz.results70 (zf E zi) ⟨_,E,H3⟩
def kY (S:Mem) (Q:List Value→Mem→Prop):Prop:=
 Q ([.int .u64 0,.int .u64 0,.int .u64 0,.int .u64 0,.int .u64 0,.int .u64 0,.int .u64 0,.int .u64 0,.int .u64 0,.int .u64 0,.int .u64 0,.int .u64 0,.int .u64 0,.int .u64 0,.int .u64 0,.int .u64 0,.int .u64 0,.int .u64 0,.int .u64 0,.int .u64 0,.int .u64 0,.int .u64 0,.bool false,.int .u8 0,.int .u32 0,.int .u32 0]) S
theorem zbG {S:Mem} {Q:List Value→Mem→Prop} (H:kY S Q):zbc S Q:=by
 unfold kY at H
 exact Tr.intro Tryz.func116 E Tryz.ntmps116 E fun w0=>csr<|by refine zN E fun b=>?_;exact nxr<|s_p E (zM E E)<|by exact zz 0 E E E E E E zdZ E<|nx<|zm<|zl Tryz.results116 (qa E (qi (k:=26) 0 E E) E zi) ⟨_,E,E,H⟩
end Go.Proofs.YtabdpmnhjlmnlaaGreatDoor
end
section
namespace Go.Proofs.YtabdpmnhjlmnlaaGreatDoor
open Go Go.Pt
attribute [local irreducible] Code.wp Back bodyPost wpList FR WL WC WQ WA AW Tr Yc HC AllC
set_option maxRecDepth 20000
set_option maxHeartbeats 4000000
set_option linter.unusedVariables false
end Go.Proofs.YtabdpmnhjlmnlaaGreatDoor
end
section
namespace Go.Proofs.YtabdpmnhjlmnlaaGreatDoor
open Go Go.Pt
attribute [local irreducible] Code.wp Back bodyPost wpList FR WL WC WQ WA AW Tr Yc HC AllC
set_option maxRecDepth 20000
set_option maxHeartbeats 4000000
set_option linter.unusedVariables false
def b_crab_Crab_own (S:Mem) (h:Pt) (vm:Int) (page:Int) (frame:Int) (Q:Mem→Prop):Prop:=
 nn h fun b o=>
 gP (S.cell b o) fun t=>
 qA S t frame fun t_1 Sx=>
 gP (Sx.cell b (o+3)) fun t_2=>
 nn t_2 fun b_1 o_1=>
 gP (Sx.cell b_1 (o_1+74)) fun t_3=>
 yY Sx t_3 frame vm page fun t_4 Sx_1=>
 wL Sx_1 (some (b,o)) vm page frame true fun Sx_2=>
 Q Sx_2
theorem t_crab_Crab_own {S:Mem} {h:Pt} {vm:Int} {page:Int} {frame:Int} {Q:Mem→Prop} (H:b_crab_Crab_own S h vm page frame Q):crab_Crab_own S h vm page frame Q:=by
 unfold b_crab_Crab_own at H
 exact Tr.intro Tryz.func75 E Tryz.ntmps75 E fun w0=>csr<|mv E E<|by obtain⟨b,o,rfl,H1⟩:=H;exact s_p E (qb E)<|s_p E (zD E E)<|gx H1 fun t ht H2=>s_v E (zB E) (zV ht)<|mv E E<|qW E E H2 fun t_1 Sx H3=>nxr<|mv E E<|s_p E (qb E)<|s_p E (zD E E)<|gx H3 fun t_2 ht_2 H4=>s_v E (zB E) (zV ht_2)<|by obtain⟨b_1,o_1,rfl,H5⟩:=H4;exact s_p E (qb E)<|s_p E (zD E E)<|gx H5 fun t_3 ht_3 H6=>s_v E (zB E) (zV ht_3)<|mv E E<|mv E E<|mv E E<|qW E E H6 fun t_4 Sx_1 H7=>nx<|zr<|mv E E<|mv E E<|mv E E<|mv E E<|zdR E E H7 fun Sx_2 H8=>zu<|jQ Tryz.results75 (zi) ⟨E,H8⟩
def xU (S:Mem) (h:Pt) (vm:Int) (page:Int) (frame:Int) (write:Bool) (Q:Mem→Prop):Prop:=
 nn h fun b o=>
 gP (S.cell b (o+3)) fun t=>
 nn t fun b_1 o_1=>
 0≤vm∧vm<6 ∧
 gA (S.part b_1 (o_1+2+vm.toNat*12+2) 2) fun t_1=>
 gP (S.cell b o) fun t_2=>
 xG S t_1 t_2 page frame write fun t_3 Sx=>
 Sx.cell b (o+3)=some (.pointer (some ⟨b_1,o_1,none⟩)) ∧
 xp Sx (some (b,o+2)) vm page fun Sx_1=>
 Q Sx_1
theorem jM {S:Mem} {h:Pt} {vm:Int} {page:Int} {frame:Int} {write:Bool} {Q:Mem→Prop} (H:xU S h vm page frame write Q):wL S h vm page frame write Q:=by
 unfold xU at H
 exact Tr.intro Tryz.func142 E Tryz.ntmps142 E fun w0=>zx<|zY (by kernel_rfl)<|aTP 0 E (by decide +kernel) E (zj E)<|by exact by obtain⟨b,o,rfl,H1⟩:=H;exact aTP 1 E (by decide +kernel) E (qb E)<|by exact aTP 2 E (by decide +kernel) E (zD E E)<|by exact gx H1 fun t ht H2=>aT 3 E (by decide +kernel) E (zB E) (zV ht)<|by exact aTP 4 E (by decide +kernel) E (zj E)<|by exact by obtain⟨b_1,o_1,rfl,H3⟩:=H2;exact aTP 5 E (by decide +kernel) E (qb E)<|by exact aTP 6 E (by decide +kernel) E (zD E E)<|by exact an2 H3 fun c c_1 H4=>aTP 7 E (by decide +kernel) E (fd E E c c_1 E)<|by exact aTP 8 E (by decide +kernel) E (zD E E)<|by exact gx H4 fun t_1 ht_1 H5=>by refine aT 9 E (by decide +kernel) E (qu E (zH ht_1)) (wm ht_1) ?_;exact aTP 10 E (by decide +kernel) E (zj E)<|by exact aTP 11 E (by decide +kernel) E (qb E)<|by exact aTP 12 E (by decide +kernel) E (zD E E)<|by exact gx H5 fun t_2 ht_2 H6=>aT 13 E (by decide +kernel) E (zB E) (zV ht_2)<|by exact aTP 14 E (by decide +kernel) E (zj E)<|by exact aTP 15 E (by decide +kernel) E (zj E)<|by exact aTP 16 E (by decide +kernel) E (zj E)<|by exact zJ 17 (by decide +kernel) E<|by exact qW E E H6 fun t_3 Sx H7=>by obtain⟨k,H8⟩:=H7;exact zu<|zS (zy (zV k) zF)<|zE (by decide +kernel)<|by exact zk<|zr<|mv E E<|s_p E (qb E)<|s_p E (zD E E)<|mv E E<|mv E E<|zdR E E H8 fun Sx_1 H9=>zu<|jQ Tryz.results142 (zi) ⟨E,H9⟩
def yk (S:Mem) (s:Pt) (a:Int) (b:Int) (Q:Bool→Mem→Prop):Prop:=
 qe S s a fun t Sx=>
 if t=true then
 qe Sx s b fun t_1 Sx_1=>
 if t_1=true then
 nn s fun b_1 o=>
 0≤a∧a<6 ∧
 gI (Sx_1.cell b_1 (o+2+a.toNat*12+11)) .u32 fun t_2=>
 0≤b ∧
 Q (decide (iand .u32 (ishr .u32 t_2 b) 1=1)) Sx_1
 else
 Q false Sx_1
 else
 Q false Sx
theorem vx {S:Mem} {s:Pt} {a:Int} {b:Int} {Q:Bool→Mem→Prop} (H:yk S s a b Q):yL S s a b Q:=by
 unfold yk at H
 exact Tr.intro Tryz.func161 E Tryz.ntmps161 E fun w0=>csr<|gv E E<|nxr<|mv E E<|mv E E<|qW E E H fun t Sx H1=>by have H2:=vY H1;rcases H2 with ⟨rfl,H3⟩ | ⟨rfl,H3⟩;exact (mv E E<|mv E E<|mv E E<|qW E E H3 fun t_1 Sx_1 H4=>by have H5:=vY H4;rcases H5 with ⟨rfl,H6⟩ | ⟨rfl,H6⟩;exact (pk E E E<|mv E E<|mv E E<|mv E E<|by obtain⟨b_1,o,rfl,H7⟩:=H6;exact s_p E (qb E)<|s_p E (zD E E)<|an2 H7 fun c c_1 H8=>s_p E (fd E E c c_1 E)<|s_p E (zD E E)<|gx H8 fun t_2 ht_2 H9=>s_v E (zB E) (zV ht_2)<|mv E E<|an H9 fun c_2 H10=>s_p E (fb E E c_2)<|s_p E (zbD E E)<|s_p E (xV E E)<|pk E E E<|gv E E<|nx<|zm<|zl Tryz.results161 (zf E zi) ⟨_,E,H10⟩);exact (pk E E E<|mv E E<|sk8 E E E E E E E E<|sk2 E E<|zP E<|pk E E E<|gv E E<|nx<|zm<|zl Tryz.results161 (zf E zi) ⟨_,E,H6⟩));exact (mv E E<|sk2 E E<|zP E<|pk E E E<|mv E E<|sk8 E E E E E E E E<|sk2 E E<|zP E<|pk E E E<|gv E E<|nx<|zm<|zl Tryz.results161 (zf E zi) ⟨_,E,H3⟩)
def yz (S:Mem) (s:Pt) (vm:Int) (Q:Bool→Mem→Prop):Prop:=
 if s≠none then
 if 0≤vm then
 if vm<6 then
 nn s fun b o=>
 0≤vm∧vm<6 ∧
 gB (S.cell b (o+2+vm.toNat*12)) fun t=>
 Q t S
 else
 Q false S
 else
 Q false S
 else
 Q false S
theorem vL {S:Mem} {s:Pt} {vm:Int} {Q:Bool→Mem→Prop} (H:yz S s vm Q):qe S s vm Q:=by
 unfold yz at H
 exact Tr.intro Tryz.func81 E Tryz.ntmps81 E fun w0=>csr<|gv E E<|nxr<|mv E E<|iteK H (fun c H1=>s_p E (yT (zbC (p:=s) E E) c)<|mv E E<|mv E E<|iteK H1 (fun c_1 H2=>s_p E (yT (qL E E) c_1)<|pk E E E<|mv E E<|mv E E<|iteK H2 (fun c_2 H3=>s_p E (yT (zw E E) c_2)<|pk E E E<|mv E E<|mv E E<|mv E E<|by obtain⟨b,o,rfl,H4⟩:=H3;exact s_p E (qb E)<|s_p E (zD E E)<|an2 H4 fun c_3 c_4 H5=>s_p E (fd E E c_3 c_4 E)<|s_p E (zD E E)<|gx H5 fun t ht H6=>s_v E (zB E) (zV ht)<|pk E E E<|gv E E<|nx<|zm<|zl Tryz.results81 (zf E zi) ⟨_,E,H6⟩) fun c_2 H3=>s_p E (yF (zw E E) c_2)<|pk E E E<|mv E E<|sk4 E E E E<|sk2 E E<|zP E<|pk E E E<|gv E E<|nx<|zm<|zl Tryz.results81 (zf E zi) ⟨_,E,H3⟩) fun c_1 H2=>s_p E (yF (qL E E) c_1)<|pk E E E<|mv E E<|sk2 E E<|pk E E E<|mv E E<|sk4 E E E E<|sk2 E E<|zP E<|pk E E E<|gv E E<|nx<|zm<|zl Tryz.results81 (zf E zi) ⟨_,E,H2⟩) fun c H1=>s_p E (yF (zbC (p:=s) E E) c)<|mv E E<|sk2 E E<|pk E E E<|mv E E<|sk2 E E<|pk E E E<|mv E E<|sk4 E E E E<|sk2 E E<|zP E<|pk E E E<|gv E E<|nx<|zm<|zl Tryz.results81 (zf E zi) ⟨_,E,H1⟩
end Go.Proofs.YtabdpmnhjlmnlaaGreatDoor
end
section
namespace Go.Proofs.YtabdpmnhjlmnlaaGreatDoor
open Go Go.Pt
attribute [local irreducible] Code.wp Back bodyPost wpList FR WL WC WQ WA AW Tr Yc HC AllC
set_option maxRecDepth 20000
set_option maxHeartbeats 4000000
set_option linter.unusedVariables false
def vW (S:Mem) (h:Value) (Q:Mem→Prop):Prop:=
 ci Tryz.prog S h "Len" [] fun rv Sx => ∃ t : Int, rv = .int .i64 t ∧ 
 lp (fun Xx (i:Int) (Sx_1:Mem)=>
 if 0≤i then
 kD Sx_1 h i t fun t_1 Sx_2=>
 Xx (IntKind.i64.wrap (i-1)) Sx_2
 else
 Q Sx_1) (IntKind.i64.wrap ((IntKind.i64.wrap (Int.tdiv t 2))-1)) Sx
theorem zaw {S:Mem} {h:Value} {Q:Mem→Prop} (H:vW S h Q):jY S h Q:=by
 unfold vW at H
 exact Tr.intro Tryz.func106 E Tryz.ntmps106 E fun w0=>csr<|mv E E<|zcx E E E H fun rv Sx H1=>by obtain⟨t,rfl,H2⟩:=H1;exact gv E E<|nxr<|mv E E<|s_p E (zap E E (by decide))<|s_p E (jC E E)<|gv E E<|nx<|zs<|qh (fun z=>⟨17,[(0,h),(2,.int .i64 t),(3,.int .i64 z)]⟩) (fun z=>[]) (IntKind.i64.wrap ((IntKind.i64.wrap (Int.tdiv t 2))-1)) (idx:=[]) H2 E ⟨E,E,E,True.intro⟩ E<|fun Xx hXx i Sx_1 H3=>zx<|csr<|mv E E<|iteK H3 (fun c H4=>s_p E (yT (qL E E) c)<|nx<|c_t E E<|qg<|zk<|zx<|zs<|zr<|mv E E<|mv E E<|mv E E<|qW E E H4 fun t_1 Sx_2 H5=>zu<|zQ<|zk<|zr<|mv E E<|s_p E (jC E E)<|gv E E<|zu<|hXx (IntKind.i64.wrap (i-1)) _ _ _ _ [] H5 E ⟨E,E,E,True.intro⟩ E) fun c H4=>s_p E (yF (qL E E) c)<|nx<|c_f E E<|zT<|zg<|zg<|zv<|jQ Tryz.results106 (zi) ⟨E,H4⟩
def jb (S:Mem) (h:Value) (Q:Value→Mem→Prop):Prop:=
 ci Tryz.prog S h "Len" [] fun rv Sx => ∃ t : Int, rv = .int .i64 t ∧ 
 ci Tryz.prog Sx h "Swap" [.int .i64 0, .int .i64 (IntKind.i64.wrap (t - 1))] fun rv Sx_1 => rv = .tuple #[] ∧ 
 kD Sx_1 h 0 (IntKind.i64.wrap (t-1)) fun t_1 Sx_2=>
 ci Tryz.prog Sx_2 h "Pop" [] fun rv Sx_3 => ∃ t_2 : Value, rv = t_2 ∧ 
 Q t_2 Sx_3
theorem zbJ {S:Mem} {h:Value} {Q:Value→Mem→Prop} (H:jb S h Q):fE S h Q:=by
 unfold jb at H
 exact Tr.intro Tryz.func155 E Tryz.ntmps155 E fun w0=>csr<|gv E E<|nxr<|mv E E<|zcx E E E H fun rv Sx H1=>by obtain⟨t,rfl,H2⟩:=H1;exact s_p E (jC E E)<|gv E E<|nxr<|mv E E<|mv E E<|zcx E E E H2 fun rv Sx_1 H3=>by obtain⟨rfl,H4⟩:=H3;exact nxr<|mv E E<|mv E E<|qW E E H4 fun t_1 Sx_2 H5=>nxr<|mv E E<|zcx E E E H5 fun rv Sx_3 H6=>by obtain⟨t_2,rfl,H7⟩:=H6;exact gv E E<|nx<|zm<|zl Tryz.results155 (zf E zi) ⟨_,E,H7⟩
def vV (S:Mem) (h:Value) (x:Value) (Q:Mem→Prop):Prop:=
 ci Tryz.prog S h "Push" [x] fun rv Sx => rv = .tuple #[] ∧ 
 ci Tryz.prog Sx h "Len" [] fun rv Sx_1 => ∃ t : Int, rv = .int .i64 t ∧ 
 zaK Sx_1 h (IntKind.i64.wrap (t-1)) fun Sx_2=>
 Q Sx_2
theorem zav {S:Mem} {h:Value} {x:Value} {Q:Mem→Prop} (H:vV S h x Q):jX S h x Q:=by
 unfold vV at H
 exact Tr.intro Tryz.func150 E Tryz.ntmps150 E fun w0=>csr<|mv E E<|mv E E<|zcx E E E H fun rv Sx H1=>by obtain⟨rfl,H2⟩:=H1;exact nx<|zr<|mv E E<|mv E E<|zcx E E E H2 fun rv Sx_1 H3=>by obtain⟨t,rfl,H4⟩:=H3;exact s_p E (jC E E)<|zdR E E H4 fun Sx_2 H5=>zu<|jQ Tryz.results150 (zi) ⟨E,H5⟩
def vU (S:Mem) (h:Value) (i0_0:Int) (n:Int) (Q:Bool→Mem→Prop):Prop:=
 jn (fun (i:Int) (Sx:Mem)=>
 Q (decide (i0_0<i)) Sx) fun Jx=>
 lp (fun Xx (i_1:Int) (Sx_1:Mem)=>
 jn (fun (Sx_2:Mem)=>
 jn (fun (j:Int) (Sx_3:Mem)=>
 ci Tryz.prog Sx_3 h "Less" [.int .i64 j, .int .i64 i_1] fun rv Sx_4 => ∃ t : Bool, rv = .bool t ∧ 
 if t=true then
 ci Tryz.prog Sx_4 h "Swap" [.int .i64 i_1, .int .i64 j] fun rv Sx_5 => rv = .tuple #[] ∧ 
 Xx j Sx_5
 else
 Jx i_1 Sx_4) fun Jx_1=>
 if IntKind.i64.wrap ((IntKind.i64.wrap ((IntKind.i64.wrap (2*i_1))+1))+1)<n then
 ci Tryz.prog Sx_2 h "Less" [.int .i64 (IntKind.i64.wrap ((IntKind.i64.wrap ((IntKind.i64.wrap (2 * i_1)) + 1)) + 1)), .int .i64 (IntKind.i64.wrap ((IntKind.i64.wrap (2 * i_1)) + 1))] fun rv Sx_6 => ∃ t_1 : Bool, rv = .bool t_1 ∧ 
 if t_1=true then
 Jx_1 (IntKind.i64.wrap ((IntKind.i64.wrap ((IntKind.i64.wrap (2*i_1))+1))+1)) Sx_6
 else
 Jx_1 (IntKind.i64.wrap ((IntKind.i64.wrap (2*i_1))+1)) Sx_6
 else
 Jx_1 (IntKind.i64.wrap ((IntKind.i64.wrap (2*i_1))+1)) Sx_2) fun Jx_2=>
 if n≤IntKind.i64.wrap ((IntKind.i64.wrap (2*i_1))+1) then
 Jx i_1 Sx_1
 else
 if IntKind.i64.wrap ((IntKind.i64.wrap (2*i_1))+1)<0 then
 Jx i_1 Sx_1
 else
 Jx_2 Sx_1) i0_0 S
theorem zau {S:Mem} {h:Value} {i0_0:Int} {n:Int} {Q:Bool→Mem→Prop} (H:vU S h i0_0 n Q):kD S h i0_0 n Q:=by
 unfold vU at H
 exact Tr.intro Tryz.func162 E Tryz.ntmps162 E fun w0=>csr<|gv E E<|nxr<|mv E E<|gv E E<|nx<|zo H (fun (J:Int→Mem→Prop) (z:Int) S=>J z S) (fun z=>⟨48,[(1,.int .i64 i0_0),(7,.int .i64 z)]⟩) (fun z=>[]) (fun i Sx H1=>csr<|mv E E<|mv E E<|s_p E (yu E E)<|gv E E<|nx<|zm<|zl Tryz.results162 (zf E zi) ⟨_,E,H1⟩) (fun Jx hJx H2=>zs<|qh (fun z=>⟨48,[(0,h),(1,.int .i64 i0_0),(2,.int .i64 n),(7,.int .i64 z)]⟩) (fun z=>[]) i0_0 (idx:=[]) H2 E ⟨E,E,E,E,True.intro⟩ E<|fun Xx hXx i_1 Sx_1 H3=>zs<|csr<|mv E E<|s_p E (jh E E)<|s_p E (zU E E)<|gv E E<|nx<|zo H3 (fun (J:Mem→Prop) (z:Unit) S=>J S) (fun z=>⟨48,[(0,h),(1,.int .i64 i0_0),(2,.int .i64 n),(7,.int .i64 i_1),(8,.int .i64 (IntKind.i64.wrap ((IntKind.i64.wrap (2*i_1))+1)))]⟩) (fun z=>[]) (fun _ Sx_2 H4=>csr<|mv E E<|gv E E<|nx<|zo H4 (fun (J:Int→Mem→Prop) (z:Int) S=>J z S) (fun z=>⟨48,[(0,h),(1,.int .i64 i0_0),(2,.int .i64 n),(7,.int .i64 i_1),(9,.int .i64 z)]⟩) (fun z=>[]) (fun j Sx_3 H5=>zx<|csr<|mv E E<|mv E E<|mv E E<|zcx E E E H5 fun rv Sx_4 H6=>by obtain⟨t,rfl,H7⟩:=H6;exact by have H8:=vY H7;rcases H8 with ⟨rfl,H9⟩ | ⟨rfl,H9⟩;exact (s_p E (yB (qt E) E)<|nx<|cfs E E<|zk<|csr<|mv E E<|mv E E<|mv E E<|zcx E E E H9 fun rv Sx_5 H10=>by obtain⟨rfl,H11⟩:=H10;exact nx<|zr<|mv E E<|gv E E<|zu<|zQ<|hXx j _ _ _ _ [] H11 E ⟨E,E,E,E,True.intro⟩ E);exact (s_p E (yB (qt E) E)<|nx<|c_t E E<|zT<|zg<|kz E<|zg<|zv<|hJx i_1 _ _ _ _ [] H9 E ⟨E,E,True.intro⟩ E)) (fun Jx_1 hJx_1 H12=>csr<|mv E E<|s_p E (zU E E)<|gv E E<|nxr<|mv E E<|mv E E<|iteK H12 (fun c H13=>s_p E (yT (zw E E) c)<|mv E E<|mv E E<|mv E E<|mv E E<|zcx E E E H13 fun rv Sx_6 H14=>by obtain⟨t_1,rfl,H15⟩:=H14;exact by have H16:=vY H15;rcases H16 with ⟨rfl,H17⟩ | ⟨rfl,H17⟩;exact (pk E E E<|nx<|ctr E E<|mv E E<|gv E E<|zu<|hJx_1 (IntKind.i64.wrap ((IntKind.i64.wrap ((IntKind.i64.wrap (2*i_1))+1))+1)) _ _ _ _ [] H17 E ⟨E,E,E,E,E,True.intro⟩ E);exact (pk E E E<|nx<|cfs E E<|hJx_1 (IntKind.i64.wrap ((IntKind.i64.wrap (2*i_1))+1)) _ _ _ _ [] H17 E ⟨E,E,E,E,E,True.intro⟩ E)) fun c H13=>s_p E (yF (zw E E) c)<|mv E E<|sk4 E E E E<|by exact pk E E E<|nx<|cfs E E<|hJx_1 (IntKind.i64.wrap ((IntKind.i64.wrap (2*i_1))+1)) _ _ _ _ [] H13 E ⟨E,E,E,E,E,True.intro⟩ E)) (fun Jx_2 hJx_2 H18=>csr<|mv E E<|mv E E<|iteK H18 (fun c_1 H19=>s_p E (yT (qL E E) c_1)<|mv E E<|sk2 E E<|pk E E E<|nx<|c_t E E<|zT<|zg<|kz E<|zg<|zv<|hJx i_1 _ _ _ _ [] H19 E ⟨E,E,True.intro⟩ E) fun c_1 H19=>s_p E (yF (qL E E) c_1)<|mv E E<|mv E E<|iteK H19 (fun c_2 H20=>s_p E (yT (zw E E) c_2)<|pk E E E<|nx<|c_t E E<|zT<|zg<|kz E<|zg<|zv<|hJx i_1 _ _ _ _ [] H20 E ⟨E,E,True.intro⟩ E) fun c_2 H20=>s_p E (yF (zw E E) c_2)<|pk E E E<|nx<|cfs E E<|hJx_2 () _ _ _ _ [] H20 E ⟨E,E,E,E,E,True.intro⟩ E))
def gh (S:Mem) (h:Value) (j:Int) (Q:Mem→Prop):Prop:=
 lp (fun Xx (j_1:Int) (Sx:Mem)=>
 jn (fun (Sx_1:Mem)=>
 ci Tryz.prog Sx_1 h "Swap" [.int .i64 (IntKind.i64.wrap (Int.tdiv (IntKind.i64.wrap (j_1 - 1)) 2)), .int .i64 j_1] fun rv Sx_2 => rv = .tuple #[] ∧ 
 Xx (IntKind.i64.wrap (Int.tdiv (IntKind.i64.wrap (j_1-1)) 2)) Sx_2) fun Jx=>
 if IntKind.i64.wrap (Int.tdiv (IntKind.i64.wrap (j_1-1)) 2)=j_1 then
 Q Sx
 else
 ci Tryz.prog Sx h "Less" [.int .i64 j_1, .int .i64 (IntKind.i64.wrap (Int.tdiv (IntKind.i64.wrap (j_1 - 1)) 2))] fun rv Sx_3 => ∃ t : Bool, rv = .bool t ∧ 
 if t=true then
 Jx Sx_3
 else
 Q Sx_3) j S
theorem zcu {S:Mem} {h:Value} {j:Int} {Q:Mem→Prop} (H:gh S h j Q):zaK S h j Q:=by
 unfold gh at H
 exact Tr.intro Tryz.func215 E Tryz.ntmps215 E fun w0=>zs<|qh (fun z=>⟨23,[(0,h),(1,.int .i64 z)]⟩) (fun z=>[]) j (idx:=[]) H E ⟨E,E,True.intro⟩ E<|fun Xx hXx j_1 Sx H1=>zs<|csr<|mv E E<|s_p E (jC E E)<|s_p E (zap E E (by decide))<|gv E E<|nx<|zo H1 (fun (J:Mem→Prop) (z:Unit) S=>J S) (fun z=>⟨23,[(0,h),(1,.int .i64 j_1),(4,.int .i64 (IntKind.i64.wrap (Int.tdiv (IntKind.i64.wrap (j_1-1)) 2)))]⟩) (fun z=>[]) (fun _ Sx_1 H2=>csr<|mv E E<|mv E E<|mv E E<|zcx E E E H2 fun rv Sx_2 H3=>by obtain⟨rfl,H4⟩:=H3;exact nx<|zr<|mv E E<|gv E E<|zu<|zQ<|hXx (IntKind.i64.wrap (Int.tdiv (IntKind.i64.wrap (j_1-1)) 2)) _ _ _ _ [] H4 E ⟨E,E,True.intro⟩ E) (fun Jx hJx H5=>csr<|mv E E<|mv E E<|iteK H5 (fun c H6=>ceT E E E (c)<|mv E E<|sk4 E E E E<|zP E<|pk E E E<|nx<|c_t E E<|zT<|zg<|kz E<|zg<|zv<|jQ Tryz.results215 (zi) ⟨E,H6⟩) fun c H6=>ceF E E E (c)<|mv E E<|mv E E<|mv E E<|mv E E<|zcx E E E H6 fun rv Sx_3 H7=>by obtain⟨t,rfl,H8⟩:=H7;exact by have H9:=vY H8;rcases H9 with ⟨rfl,H10⟩ | ⟨rfl,H10⟩;exact (s_p E (yB (qt E) E)<|pk E E E<|nx<|cfs E E<|hJx () _ _ _ _ [] H10 E ⟨E,E,E,True.intro⟩ E);exact (s_p E (yB (qt E) E)<|pk E E E<|nx<|c_t E E<|zT<|zg<|kz E<|zg<|zv<|jQ Tryz.results215 (zi) ⟨E,H10⟩))
def kZ (S:Mem) (frames:Int) (Q:Pt→Mem→Prop):Prop:=
 al S 178 ([.slice (none) 0 0,.slice (none) 0 0,.int .i64 (-1)]) fun b Sx=>
 jn (fun (Sx_1:Mem)=>
 jY Sx_1 (.iface 205 (.pointer (some ⟨b,0,none⟩))) fun Sx_2=>
 Q (some (b,0)) Sx_2) fun Jx=>
 lp (fun Xx (t:Int) (Sx_3:Mem)=>
 if t<(if 512<(if frames<0 then 0 else frames) then 512 else (if frames<0 then 0 else frames)) then
 gL (Sx_3.cell b 0) fun t_1=>
 ap Sx_3 3 1 8 [.int .i64 0] t_1 1 ([.int .i64 t]) fun t_2 Sx_4=>
 pt Sx_4 b 0 1 ([eL t_2]) fun Sx_5=>
 gL (Sx_5.cell b 1) fun t_3=>
 ap Sx_5 4 1 1 [.bool false] t_3 1 ([.bool false]) fun t_4 Sx_6=>
 pt Sx_6 b 1 1 ([eL t_4]) fun Sx_7=>
 Xx (IntKind.i64.wrap (t+1)) Sx_7
 else
 Jx Sx_3) 0 Sx
theorem zbH {S:Mem} {frames:Int} {Q:Pt→Mem→Prop} (H:kZ S frames Q):vi S frames Q:=by
 unfold kZ at H
 exact Tr.intro Tryz.func51 E Tryz.ntmps51 E fun w0=>csr<|gv E E<|nxr<|s_p E (zM E E)<|by exact xW E E E fun b=>vy 0 E fun hb=>have H1:=H b hb;gv E E<|nx<|zo H1 (fun (J:Mem→Prop) (z:Unit) S=>J S) (fun z=>⟨39,[(3,.pointer (some ⟨b,0,none⟩))]⟩) (fun z=>[]) (fun _ Sx_1 H2=>csr<|mv E E<|s_p E (qb E)<|s_p E (zD E E)<|s_p E (jE E)<|zdR E E H2 fun Sx_2 H3=>nxr<|mv E E<|gv E E<|nx<|zm<|zl Tryz.results51 (zf E zi) ⟨_,E,H3⟩) (fun Jx hJx H4=>csr<|mv E E<|s_p E (zcn E E)<|s_p E (zdm E E)<|mv E E<|nx<|zs<|qh (fun z=>⟨39,[(3,.pointer (some ⟨b,0,none⟩)),(9,.int .i64 (if 512<(if frames<0 then 0 else frames) then 512 else (if frames<0 then 0 else frames))),(10,.int .i64 z)]⟩) (fun z=>[]) 0 (idx:=[]) H4 E ⟨E,E,E,True.intro⟩ E<|fun Xx hXx t Sx_3 H5=>csr<|iteK H5 (fun c H6=>s_p E (yT (zw E E) c)<|nx<|zx<|c_t E E<|qg<|zk<|zx<|zs<|csr<|mv E E<|gv E E<|nxr<|mv E E<|mv E E<|s_p E (qb E)<|s_p E (zD E E)<|gx H6 fun t_1 ht_1 H7=>s_v E (zB E) (zV ht_1)<|mv E E<|zaB E E (by decide) E fun b_1=>vN (sx:=t_1) (vs:=[.int .i64 t]) E E E (zcg 0 E E) E E (by decide) H7 fun t_2 Sx_4 H8=>s_p E (qb E)<|s_p E (zD E E)<|an H8 fun c_1 H9=>wW E E E E E c_1 E<|nx<|zr<|by exact mv E E<|mv E E<|s_p E (qb E)<|s_p E (zD E E)<|gx H9 fun t_3 ht_3 H10=>s_v E (zB E) (zV ht_3)<|zaB E E (by decide) E fun b_2=>vN (sx:=t_3) (vs:=[.bool false]) E E E (zcg 1 E E) E E (by decide) H10 fun t_4 Sx_6 H11=>s_p E (qb E)<|s_p E (zD E E)<|an H11 fun c_2 H12=>wW E E E E E c_2 E<|zu<|zQ<|zk<|zr<|s_p E (zU E E)<|mv E E<|zu<|hXx (IntKind.i64.wrap (t+1)) _ _ _ _ [] H12 E ⟨E,E,E,True.intro⟩ E) fun c H6=>s_p E (yF (zw E E) c)<|nx<|zx<|c_f E E<|zT<|zg<|zg<|zv<|hJx () _ _ _ _ [] H6 E ⟨E,True.intro⟩ E)
def xz (S:Mem) (p:Pt) (n:Int) (Q:Int→Mem→Prop):Prop:=
 jn (fun (Sx:Mem)=>
 nn p fun b o=>
 gL (Sx.cell b (o+1)) fun t=>
 sl t fun b_1 o_1 n_1 n_2=>
 0≤n∧n<((n_1:Nat):Int) ∧
 pt Sx b_1 (o_1+n.toNat*1) 1 ([.bool false]) fun Sx_1=>
 jX Sx_1 (.iface 205 (.pointer (some ⟨b,o,none⟩))) (.iface 3 (.int .i64 n)) fun Sx_2=>
 Q 0 Sx_2) fun Jx=>
 if p=none then
 Q 2 S
 else
 if n<0 then
 Q 1 S
 else
 nn p fun b_2 o_2=>
 gL (S.cell b_2 (o_2+1)) fun t_1=>
 if (t_1.n:Int)≤n then
 Q 1 S
 else
 gL (S.cell b_2 (o_2+1)) fun t_2=>
 sl t_2 fun b_3 o_3 n_3 n_4=>
 0≤n∧n<((n_3:Nat):Int) ∧
 gB (S.cell b_3 (o_3+n.toNat*1)) fun t_3=>
 if t_3=true then
 Jx S
 else
 Q 8 S
theorem jq {S:Mem} {p:Pt} {n:Int} {Q:Int→Mem→Prop} (H:xz S p n Q):wh S p n Q:=by
 unfold xz at H
 exact Tr.intro Tryz.func88 E Tryz.ntmps88 E fun w0=>csr<|gv E E<|nx<|zo H (fun (J:Mem→Prop) (z:Unit) S=>J S) (fun z=>⟨42,[(0,eP p),(1,.int .i64 n)]⟩) (fun z=>[]) (fun _ Sx H1=>csr<|mv E E<|by obtain⟨b,o,rfl,H2⟩:=H1;exact s_p E (qb E)<|s_p E (zD E E)<|gx H2 fun t ht H3=>s_v E (zB E) (zV ht)<|mv E E<|by obtain⟨b_1,o_1,n_1,n_2,rfl,H4⟩:=H3;exact an2 H4 fun c c_1 H5=>s_p E (qG E E c c_1 E)<|an H5 fun c_2 H6=>wW E E E E E c_2 E<|nxr<|mv E E<|s_p E (qb E)<|s_p E (zD E E)<|s_p E (jE E)<|mv E E<|s_p E (jE E)<|zdR E E H6 fun Sx_2 H7=>nxr<|gv E E<|nx<|zm<|zl Tryz.results88 (zf E zi) ⟨_,E,H7⟩) (fun Jx hJx H8=>zs<|csr<|mv E E<|iteK H8 (fun c_3 H9=>s_p E (yT (qH (p:=p) E E) c_3)<|gv E E<|nx<|c_t E E<|csr<|gv E E<|nx<|zm<|zh<|ze<|zl Tryz.results88 (zf E zi) ⟨_,E,H9⟩) fun c_3 H9=>s_p E (yF (qH (p:=p) E E) c_3)<|gv E E<|nx<|c_f E E<|csr<|mv E E<|iteK H9 (fun c_4 H10=>s_p E (yT (zw E E) c_4)<|mv E E<|sk4 E E E E<|sk2 E E<|zP E<|pk E E E<|gv E E<|nx<|c_t E E<|csr<|gv E E<|nx<|zm<|zh<|ze<|zl Tryz.results88 (zf E zi) ⟨_,E,H10⟩) fun c_4 H10=>s_p E (yF (zw E E) c_4)<|mv E E<|mv E E<|mv E E<|by obtain⟨b_2,o_2,rfl,H11⟩:=H10;exact s_p E (qb E)<|s_p E (zD E E)<|gx H11 fun t_1 ht_1 H12=>s_v E (zB E) (zV ht_1)<|s_p E (qy E)<|iteK H12 (fun c_5 H13=>s_p E (yT (qL E E) c_5)<|pk E E E<|gv E E<|nx<|c_t E E<|csr<|gv E E<|nx<|zm<|zh<|ze<|zl Tryz.results88 (zf E zi) ⟨_,E,H13⟩) fun c_5 H13=>s_p E (yF (qL E E) c_5)<|pk E E E<|gv E E<|nx<|c_f E E<|csr<|mv E E<|s_p E (qb E)<|s_p E (zD E E)<|gx H13 fun t_2 ht_2 H14=>s_v E (zB E) (zV ht_2)<|mv E E<|by obtain⟨b_3,o_3,n_3,n_4,rfl,H15⟩:=H14;exact an2 H15 fun c_6 c_7 H16=>s_p E (qG E E c_6 c_7 E)<|gx H16 fun t_3 ht_3 H17=>by have H18:=vY H17;rcases H18 with ⟨rfl,H19⟩ | ⟨rfl,H19⟩;exact (s_v E (zB E) (zV ht_3)<|s_p E (yB (qt E) E)<|gv E E<|nx<|cfs E E<|zQ<|hJx () _ _ _ _ [] H19 E ⟨E,E,True.intro⟩ E);exact (s_v E (zB E) (zV ht_3)<|s_p E (yB (qt E) E)<|gv E E<|nx<|c_t E E<|csr<|gv E E<|nx<|zm<|zh<|ze<|zl Tryz.results88 (zf E zi) ⟨_,E,H19⟩))
def xy (S:Mem) (p:Pt) (n:Int) (Q:Sl→Int→Mem→Prop):Prop:=
 jn (fun (Sx:Mem)=>
 jn (fun (l:Sl) (Sx_1:Mem)=>
 Q l 0 Sx_1) fun Jx=>
 lp (fun Xx (z:Sl×Int) (Sx_2:Mem)=>
 match z with
 | (l_1,t)=>
 if t<(if n<0 then 0 else n) then
 jn (fun (l_2:Sl) (Sx_3:Mem)=>
 Xx (l_2,IntKind.i64.wrap (t+1)) Sx_3) fun Jx_1=>
 wg Sx_2 p fun t_1 t_2 Sx_4=>
 jn (fun (Sx_5:Mem)=>
 ap Sx_5 3 1 8 [.int .i64 0] l_1 1 ([.int .i64 t_1]) fun t_3 Sx_6=>
 Jx_1 t_3 Sx_6) fun Jx_2=>
 if t_2≠0 then
 jn (fun (Sx_7:Mem)=>
 Q (⟨none,0,0⟩) t_2 Sx_7) fun Jx_3=>
 lp (fun Xx_1 (t_4:Int) (Sx_8:Mem)=>
 if t_4<(l_1.n:Int) then
 sl l_1 fun b_1 o n_1 n_2=>
 0≤t_4∧t_4<((n_1:Nat):Int) ∧
 gI (Sx_8.cell b_1 (o+t_4.toNat*1)) .i64 fun t_5=>
 wh Sx_8 p t_5 fun t_6 Sx_9=>
 Xx_1 (IntKind.i64.wrap (t_4+1)) Sx_9
 else
 Jx_3 Sx_8) 0 Sx_4
 else
 Jx_2 Sx_4
 else
 Jx l_1 Sx_2) (⟨none,0,0⟩,0) Sx) fun Jx_4=>
 if p=none then
 Q (⟨none,0,0⟩) 2 S
 else
 Jx_4 S
theorem jp {S:Mem} {p:Pt} {n:Int} {Q:Sl→Int→Mem→Prop} (H:xy S p n Q):ym S p n Q:=by
 unfold xy at H
 exact Tr.intro Tryz.func71 E Tryz.ntmps71 E fun w0=>csr<|gv E E<|gv E E<|nx<|zo H (fun (J:Mem→Prop) (z:Unit) S=>J S) (fun z=>⟨41,[(0,eP p),(1,.int .i64 n)]⟩) (fun z=>[]) (fun _ Sx H1=>csr<|gv E E<|nx<|zo H1 (fun (J:Sl→Mem→Prop) (z:Sl) S=>J z S) (fun z=>⟨41,[(6,eL z)]⟩) (fun z=>[]) (fun l Sx_1 H2=>csr<|mv E E<|gv E E<|gv E E<|nx<|zm<|zl Tryz.results71 (zf E (zf E zi)) ⟨_,_,E,H2⟩) (fun Jx hJx H3=>csr<|mv E E<|s_p E (zcn E E)<|mv E E<|nx<|zs<|qh (fun z=>⟨41,[(0,eP p),(6,eL z.1),(14,.int .i64 (if n<0 then 0 else n)),(15,.int .i64 z.2)]⟩) (fun z=>[]) (⟨none,0,0⟩,0) (idx:=[]) H3 E ⟨E,E,E,E,True.intro⟩ E<|by rintro Xx hXx ⟨l_1,t⟩ Sx_2 H4;exact csr<|iteK H4 (fun c H5=>s_p E (yT (zw E E) c)<|nx<|zx<|c_t E E<|qg<|zk<|zo H5 (fun (J:Sl→Mem→Prop) (z:Sl) S=>J z S) (fun z=>⟨41,[(0,eP p),(6,eL z),(14,.int .i64 (if n<0 then 0 else n)),(15,.int .i64 t)]⟩) (fun z=>[]) (fun l_2 Sx_3 H6=>zr<|s_p E (zU E E)<|mv E E<|zu<|hXx (l_2,IntKind.i64.wrap (t+1)) _ _ _ _ [] H6 E ⟨E,E,E,E,True.intro⟩ E) (fun Jx_1 hJx_1 H7=>zs<|csr<|mv E E<|zbe E E H7 fun t_1 t_2 Sx_4 H8=>mv E E<|s_p E (zp E E)<|s_p E (zp E E)<|gv E E<|gv E E<|nx<|zo H8 (fun (J:Mem→Prop) (z:Unit) S=>J S) (fun z=>⟨41,[(0,eP p),(6,eL l_1),(7,.int .i64 t_1),(14,.int .i64 (if n<0 then 0 else n)),(15,.int .i64 t)]⟩) (fun z=>[]) (fun _ Sx_5 H9=>zr<|mv E E<|mv E E<|zaB E E (by decide) E fun b=>vN (sx:=l_1) (vs:=[.int .i64 t_1]) E E E (zcg 0 E E) E E (by decide) H9 fun t_3 Sx_6 H10=>gv E E<|zu<|zQ<|hJx_1 t_3 _ _ _ _ [] H10 E ⟨E,E,E,E,True.intro⟩ E) (fun Jx_2 hJx_2 H11=>csr<|mv E E<|iteK H11 (fun c_1 H12=>s_p E (yT (zI E E) c_1)<|nx<|c_t E E<|zo H12 (fun (J:Mem→Prop) (z:Unit) S=>J S) (fun z=>⟨41,[(8,.int .i64 t_2)]⟩) (fun z=>[]) (fun _ Sx_7 H13=>csr<|mv E E<|gv E E<|gv E E<|nx<|zm<|ze<|zh<|ze<|ze<|zh<|ze<|zl Tryz.results71 (zf E (zf E zi)) ⟨_,_,E,H13⟩) (fun Jx_3 hJx_3 H14=>csr<|mv E E<|s_p E (qy E)<|mv E E<|nx<|zs<|qh (fun z=>⟨41,[(0,eP p),(8,.int .i64 t_2),(24,eL l_1),(25,.int .i64 (l_1.n:Int)),(26,.int .i64 z)]⟩) (fun z=>[]) 0 (idx:=[]) H14 E ⟨E,E,E,E,E,True.intro⟩ E<|fun Xx_1 hXx_1 t_4 Sx_8 H15=>csr<|iteK H15 (fun c_2 H16=>s_p E (yT (zw E E) c_2)<|nx<|zx<|c_t E E<|qg<|zk<|by exact zx<|zs<|csr<|by obtain⟨b_1,o,n_1,n_2,rfl,H17⟩:=H16;exact an2 H17 fun c_3 c_4 H18=>s_p E (qG E E c_3 c_4 E)<|gx H18 fun t_5 ht_5 H19=>s_v E (zB E) (zV ht_5)<|gv E E<|nx<|zr<|mv E E<|mv E E<|qW E E H19 fun t_6 Sx_9 H20=>zu<|zQ<|zk<|zr<|s_p E (zU E E)<|mv E E<|zu<|hXx_1 (IntKind.i64.wrap (t_4+1)) _ _ _ _ [] H20 E ⟨E,E,E,E,E,True.intro⟩ E) fun c_2 H16=>s_p E (yF (zw E E) c_2)<|nx<|zx<|c_f E E<|zT<|zg<|zg<|zv<|by exact hJx_3 () _ _ _ _ [] H16 E ⟨E,True.intro⟩ E)) fun c_1 H12=>s_p E (yF (zI E E) c_1)<|nx<|cfs E E<|hJx_2 () _ _ _ _ [] H12 E ⟨E,E,E,E,E,True.intro⟩ E))) fun c H5=>s_p E (yF (zw E E) c)<|nx<|zx<|c_f E E<|zT<|zg<|zg<|zv<|hJx l_1 _ _ _ _ [] H5 E ⟨E,True.intro⟩ E)) (fun Jx_4 hJx_4 H21=>csr<|mv E E<|iteK H21 (fun c_5 H22=>s_p E (yT (qH (p:=p) E E) c_5)<|nx<|c_t E E<|csr<|gv E E<|gv E E<|nx<|zm<|ze<|zl Tryz.results71 (zf E (zf E zi)) ⟨_,_,E,H22⟩) fun c_5 H22=>s_p E (yF (qH (p:=p) E E) c_5)<|nx<|cfs E E<|hJx_4 () _ _ _ _ [] H22 E ⟨E,E,True.intro⟩ E)
def xx (S:Mem) (p:Pt) (Q:Int→Int→Mem→Prop):Prop:=
 jn (fun (Sx:Mem)=>
 nn p fun b o=>
 gI (Sx.cell b (o+2)) .i64 fun t=>
 pt Sx b (o+2) 1 ([.int .i64 (if IntKind.i64.wrap (t-1)<(-1) then (-1) else IntKind.i64.wrap (t-1))]) fun Sx_1=>
 fE Sx_1 (.iface 205 (.pointer (some ⟨b,o,none⟩))) fun t_1 Sx_2=>
 asI t_1 3 .i64 fun t_2=>
 gL (Sx_2.cell b (o+1)) fun t_3=>
 sl t_3 fun b_1 o_1 n n_1=>
 0≤t_2∧t_2<((n:Nat):Int) ∧
 pt Sx_2 b_1 (o_1+t_2.toNat*1) 1 ([.bool true]) fun Sx_3=>
 Q t_2 0 Sx_3) fun Jx=>
 if p=none then
 Q 0 2 S
 else
 nn p fun b_2 o_2=>
 gI (S.cell b_2 (o_2+2)) .i64 fun t_4=>
 if t_4=0 then
 Q 0 3 S
 else
 gL (S.cell b_2 o_2) fun t_5=>
 if (t_5.n:Int)=0 then
 Q 0 3 S
 else
 Jx S
theorem jo {S:Mem} {p:Pt} {Q:Int→Int→Mem→Prop} (H:xx S p Q):wg S p Q:=by
 unfold xx at H
 exact Tr.intro Tryz.func139 E Tryz.ntmps139 E fun w0=>csr<|gv E E<|gv E E<|nx<|zo H (fun (J:Mem→Prop) (z:Unit) S=>J S) (fun z=>⟨44,[(0,eP p)]⟩) (fun z=>[]) (fun _ Sx H1=>csr<|mv E E<|mv E E<|by obtain⟨b,o,rfl,H2⟩:=H1;exact s_p E (qb E)<|s_p E (zD E E)<|gx H2 fun t ht H3=>s_v E (zB E) (zV ht)<|s_p E (jC E E)<|s_p E (zcn E E)<|s_p E (qb E)<|s_p E (zD E E)<|an H3 fun c H4=>wW E E E E E c E<|nxr<|mv E E<|s_p E (qb E)<|s_p E (zD E E)<|s_p E (jE E)<|qW E E H4 fun t_1 Sx_2 H5=>by obtain⟨t_2,rfl,H6⟩:=H5;exact s_p E (zaX E)<|gv E E<|nxr<|mv E E<|s_p E (qb E)<|s_p E (zD E E)<|gx H6 fun t_3 ht_3 H7=>s_v E (zB E) (zV ht_3)<|mv E E<|by obtain⟨b_1,o_1,n,n_1,rfl,H8⟩:=H7;exact an2 H8 fun c_1 c_2 H9=>s_p E (qG E E c_1 c_2 E)<|an H9 fun c_3 H10=>wW E E E E E c_3 E<|nxr<|mv E E<|gv E E<|gv E E<|nx<|zm<|zl Tryz.results139 (zf E (zf E zi)) ⟨_,_,E,H10⟩) (fun Jx hJx H11=>zs<|csr<|mv E E<|iteK H11 (fun c_4 H12=>s_p E (yT (qH (p:=p) E E) c_4)<|gv E E<|nx<|c_t E E<|csr<|gv E E<|gv E E<|nx<|zm<|zh<|ze<|zl Tryz.results139 (zf E (zf E zi)) ⟨_,_,E,H12⟩) fun c_4 H12=>s_p E (yF (qH (p:=p) E E) c_4)<|gv E E<|nx<|c_f E E<|csr<|mv E E<|by obtain⟨b_2,o_2,rfl,H13⟩:=H12;exact s_p E (qb E)<|s_p E (zD E E)<|gx H13 fun t_4 ht_4 H14=>s_v E (zB E) (zV ht_4)<|iteK H14 (fun c_5 H15=>ceT E E E (c_5)<|mv E E<|sk4 E E E E<|sk2 E E<|pk E E E<|gv E E<|nx<|c_t E E<|csr<|gv E E<|gv E E<|nx<|zm<|zh<|ze<|zl Tryz.results139 (zf E (zf E zi)) ⟨_,_,E,H15⟩) fun c_5 H15=>ceF E E E (c_5)<|mv E E<|mv E E<|s_p E (qb E)<|s_p E (zD E E)<|gx H15 fun t_5 ht_5 H16=>s_v E (zB E) (zV ht_5)<|s_p E (qy E)<|iteK H16 (fun c_6 H17=>ceT E E E (c_6)<|pk E E E<|gv E E<|nx<|c_t E E<|csr<|gv E E<|gv E E<|nx<|zm<|zh<|ze<|zl Tryz.results139 (zf E (zf E zi)) ⟨_,_,E,H17⟩) fun c_6 H17=>ceF E E E (c_6)<|pk E E E<|gv E E<|nx<|cfs E E<|zQ<|hJx () _ _ _ _ [] H17 E ⟨E,True.intro⟩ E)
def ve (S:Mem) (f:Sl) (Q:Int→Mem→Prop):Prop:=
 Q (f.n:Int) S
theorem jK {S:Mem} {f:Sl} {Q:Int→Mem→Prop} (H:ve S f Q):fo S f Q:=by
 unfold ve at H
 exact Tr.intro Tryz.func273 E Tryz.ntmps273 E fun w0=>csr<|gv E E<|nxr<|mv E E<|s_p E (qy E)<|gv E E<|nx<|zm<|zl Tryz.results273 (zf E zi) ⟨_,E,H⟩
def xv (S:Mem) (f:Sl) (i:Int) (j:Int) (Q:Bool→Mem→Prop):Prop:=
 sl f fun b o n n_1=>
 0≤i∧i<((n:Nat):Int) ∧
 gI (S.cell b (o+i.toNat*1)) .i64 fun t=>
 0≤j∧j<((n:Nat):Int) ∧
 gI (S.cell b (o+j.toNat*1)) .i64 fun t_1=>
 Q (decide (t<t_1)) S
theorem jl {S:Mem} {f:Sl} {i:Int} {j:Int} {Q:Bool→Mem→Prop} (H:xv S f i j Q):vB S f i j Q:=by
 unfold xv at H
 exact Tr.intro Tryz.func274 E Tryz.ntmps274 E fun w0=>csr<|gv E E<|nx<|zx<|zY (by kernel_rfl)<|aTP 0 E (by decide +kernel) E (zj E)<|by exact aTP 1 E (by decide +kernel) E (zj E)<|by exact by obtain⟨b,o,n,n_1,rfl,H1⟩:=H;exact an2 H1 fun c c_1 H2=>aTP 2 E (by decide +kernel) E (qG E E c c_1 E)<|by exact gx H2 fun t ht H3=>aT 3 E (by decide +kernel) E (zB E) (zV ht)<|by exact aTP 4 E (by decide +kernel) E (zj E)<|by exact aTP 5 E (by decide +kernel) E (zj E)<|by exact an2 H3 fun c_2 c_3 H4=>aTP 6 E (by decide +kernel) E (qG E E c_2 c_3 E)<|by exact gx H4 fun t_1 ht_1 H5=>aT 7 E (by decide +kernel) E (zB E) (zV ht_1)<|by exact aTP 8 E (by decide +kernel) E (zw E E)<|by exact aTP 9 E (by decide +kernel) E (zW E)<|by exact zE (by decide +kernel)<|by exact zk<|zm<|zl Tryz.results274 (zf E zi) ⟨_,E,H5⟩
def xS (S:Mem) (f:Pt) (Q:Value→Mem→Prop):Prop:=
 nn f fun b o=>
 gL (S.cell b o) fun t=>
 sl t fun b_1 o_1 n n_1=>
 0≤IntKind.i64.wrap ((t.n:Int)-1)∧IntKind.i64.wrap ((t.n:Int)-1)<((n:Nat):Int) ∧
 gI (S.cell b_1 (o_1+(IntKind.i64.wrap ((t.n:Int)-1)).toNat*1)) .i64 fun t_1=>
 (0:Int)≤IntKind.i64.wrap ((n:Int)-1)∧IntKind.i64.wrap ((n:Int)-1)≤((⟨some (b_1,o_1),n,n_1⟩:Sl).c:Int) ∧
 lt (slc 1 (⟨some (b_1,o_1),n,n_1⟩:Sl) 0 (IntKind.i64.wrap ((n:Int)-1))) fun t_2=>
 pt S b o 1 ([eL t_2]) fun Sx=>
 Q (.iface 3 (.int .i64 t_1)) Sx
theorem jJ {S:Mem} {f:Pt} {Q:Value→Mem→Prop} (H:xS S f Q):fm S f Q:=by
 unfold xS at H
 exact Tr.intro Tryz.func276 E Tryz.ntmps276 E fun w0=>csr<|gv E E<|nxr<|mv E E<|by obtain⟨b,o,rfl,H1⟩:=H;exact s_p E (qb E)<|gx H1 fun t ht H2=>s_v E (zB E) (zV ht)<|gv E E<|nxr<|mv E E<|mv E E<|s_p E (qy E)<|s_p E (jC E E)<|by obtain⟨b_1,o_1,n,n_1,rfl,H3⟩:=H2;exact an2 H3 fun c c_1 H4=>s_p E (qG E E c c_1 E)<|gx H4 fun t_1 ht_1 H5=>s_v E (zB E) (zV ht_1)<|gv E E<|nxr<|mv E E<|mv E E<|mv E E<|s_p E (qy E)<|s_p E (jC E E)<|an2 H5 fun c_3 c_4 H6=>by obtain⟨t_2,et_2,H7⟩:=zdU H6;exact s_p E (eqv (fL (a:=0) (b:=IntKind.i64.wrap ((n:Int)-1)) E E E (by decide) c_3 c_4) (congrArg eL et_2))<|s_p E (qb E)<|an H7 fun c_5 H8=>wW E E E E E c_5 E<|nxr<|mv E E<|s_p E (jE E)<|gv E E<|nx<|zm<|zl Tryz.results276 (zf E zi) ⟨_,E,H8⟩
def xu (S:Mem) (f:Pt) (x:Value) (Q:Mem→Prop):Prop:=
 nn f fun b o=>
 gL (S.cell b o) fun t=>
 asI x 3 .i64 fun t_1=>
 ap S 3 1 8 [.int .i64 0] t 1 ([.int .i64 t_1]) fun t_2 Sx=>
 pt Sx b o 1 ([eL t_2]) fun Sx_1=>
 Q Sx_1
theorem jk {S:Mem} {f:Pt} {x:Value} {Q:Mem→Prop} (H:xu S f x Q):gw S f x Q:=by
 unfold xu at H
 exact Tr.intro Tryz.func277 E Tryz.ntmps277 E fun w0=>zY (by kernel_rfl)<|a_takeP 0 E (by decide +kernel) zb E (zj E)<|by exact a_takeP 1 E (by decide +kernel) zb E (zj E)<|by exact by obtain⟨b,o,rfl,H1⟩:=H;exact a_takeP 2 E (by decide +kernel) zb E (qb E)<|by exact gx H1 fun t ht H2=>zA 3 E (by decide +kernel) zb E (zB E) (zV ht)<|by exact a_takeP 4 E (by decide +kernel) zb E (zj E)<|by exact by obtain⟨t_1,rfl,H3⟩:=H2;exact a_takeP 5 E (by decide +kernel) zb E (zaX E)<|by exact zJ 6 (by decide +kernel) E<|by exact zaB E E (by decide) E fun b_1=>zu<|zS (zy (zV ht) zF)<|zJ 7 (by decide +kernel) E<|by exact vN (sx:=t) (vs:=[.int .i64 t_1]) E E E (zcg 0 E E) E E (by decide) H3 fun t_2 Sx H4=>zu<|zS zF<|a_takeP 8 E (by decide +kernel) zb E (qb E)<|by exact zJ 9 (by decide +kernel) E<|by exact an H4 fun c H5=>wW E E E E E c E<|zu<|zS zF<|zE (by decide +kernel)<|by exact jQ Tryz.results277 (zi) ⟨E,H5⟩
def xr (S:Mem) (f:Sl) (i:Int) (j:Int) (Q:Mem→Prop):Prop:=
 sl f fun b o n n_1=>
 0≤j∧j<((n:Nat):Int) ∧
 gI (S.cell b (o+j.toNat*1)) .i64 fun t=>
 0≤i∧i<((n:Nat):Int) ∧
 gI (S.cell b (o+i.toNat*1)) .i64 fun t_1=>
 0≤i∧i<((n:Nat):Int) ∧
 pt S b (o+i.toNat*1) 1 ([.int .i64 t]) fun Sx=>
 0≤j∧j<((n:Nat):Int) ∧
 pt Sx b (o+j.toNat*1) 1 ([.int .i64 t_1]) fun Sx_1=>
 Q Sx_1
theorem jj {S:Mem} {f:Sl} {i:Int} {j:Int} {Q:Mem→Prop} (H:xr S f i j Q):vA S f i j Q:=by
 unfold xr at H
 exact Tr.intro Tryz.func275 E Tryz.ntmps275 E fun w0=>zY (by kernel_rfl)<|a_takeP 0 E (by decide +kernel) zb E (zj E)<|by exact a_takeP 1 E (by decide +kernel) zb E (zj E)<|by exact a_takeP 2 E (by decide +kernel) zb E (zj E)<|by exact a_takeP 3 E (by decide +kernel) zb E (zj E)<|by exact a_takeP 4 E (by decide +kernel) zb E (zj E)<|by exact a_takeP 5 E (by decide +kernel) zb E (zj E)<|by exact by obtain⟨b,o,n,n_1,rfl,H1⟩:=H;exact an2 H1 fun c c_1 H2=>a_takeP 6 E (by decide +kernel) zb E (qG E E c c_1 E)<|by exact gx H2 fun t ht H3=>zA 7 E (by decide +kernel) zb E (zB E) (zV ht)<|by exact a_takeP 8 E (by decide +kernel) zb E (zj E)<|by exact a_takeP 9 E (by decide +kernel) zb E (zj E)<|by exact an2 H3 fun c_2 c_3 H4=>a_takeP 10 E (by decide +kernel) zb E (qG E E c_2 c_3 E)<|by exact gx H4 fun t_1 ht_1 H5=>zA 11 E (by decide +kernel) zb E (zB E) (zV ht_1)<|by exact an2 H5 fun c_4 c_5 H6=>a_takeP 12 E (by decide +kernel) zb E (qG E E c_4 c_5 E)<|by exact zJ 13 (by decide +kernel) E<|by exact an H6 fun c_6 H7=>wW E E E E E c_6 E<|zu<|zS zF<|an2 H7 fun c_7 c_8 H8=>a_takeP 14 E (by decide +kernel) zb E (qG E E c_7 c_8 E)<|by exact zJ 15 (by decide +kernel) E<|by exact an H8 fun c_9 H9=>wW E E E E E c_9 E<|zu<|zS zF<|zE (by decide +kernel)<|by exact jQ Tryz.results275 (zi) ⟨E,H9⟩
def xw (S:Mem) (p:Pt) (n:Int) (Q:Bool→Mem→Prop):Prop:=
 if p≠none then
 if 0≤n then
 nn p fun b o=>
 gL (S.cell b (o+1)) fun t=>
 if n<(t.n:Int) then
 gL (S.cell b (o+1)) fun t_1=>
 sl t_1 fun b_1 o_1 n_1 n_2=>
 0≤n∧n<((n_1:Nat):Int) ∧
 gB (S.cell b_1 (o_1+n.toNat*1)) fun t_2=>
 Q t_2 S
 else
 Q false S
 else
 Q false S
 else
 Q false S
theorem jm {S:Mem} {p:Pt} {n:Int} {Q:Bool→Mem→Prop} (H:xw S p n Q):we S p n Q:=by
 unfold xw at H
 exact Tr.intro Tryz.func158 E Tryz.ntmps158 E fun w0=>csr<|gv E E<|nxr<|mv E E<|iteK H (fun c H1=>s_p E (yT (zbC (p:=p) E E) c)<|mv E E<|mv E E<|iteK H1 (fun c_1 H2=>s_p E (yT (qL E E) c_1)<|pk E E E<|mv E E<|mv E E<|mv E E<|by obtain⟨b,o,rfl,H3⟩:=H2;exact s_p E (qb E)<|s_p E (zD E E)<|gx H3 fun t ht H4=>s_v E (zB E) (zV ht)<|s_p E (qy E)<|iteK H4 (fun c_2 H5=>s_p E (yT (zw E E) c_2)<|pk E E E<|mv E E<|mv E E<|s_p E (qb E)<|s_p E (zD E E)<|gx H5 fun t_1 ht_1 H6=>s_v E (zB E) (zV ht_1)<|mv E E<|by obtain⟨b_1,o_1,n_1,n_2,rfl,H7⟩:=H6;exact an2 H7 fun c_3 c_4 H8=>s_p E (qG E E c_3 c_4 E)<|gx H8 fun t_2 ht_2 H9=>s_v E (zB E) (zV ht_2)<|pk E E E<|gv E E<|nx<|zm<|zl Tryz.results158 (zf E zi) ⟨_,E,H9⟩) fun c_2 H5=>s_p E (yF (zw E E) c_2)<|pk E E E<|mv E E<|sk4 E E E E<|sk2 E E<|zP E<|pk E E E<|gv E E<|nx<|zm<|zl Tryz.results158 (zf E zi) ⟨_,E,H5⟩) fun c_1 H2=>s_p E (yF (qL E E) c_1)<|pk E E E<|mv E E<|sk4 E E E E<|sk2 E E<|zP E<|pk E E E<|mv E E<|sk4 E E E E<|sk2 E E<|zP E<|pk E E E<|gv E E<|nx<|zm<|zl Tryz.results158 (zf E zi) ⟨_,E,H2⟩) fun c H1=>s_p E (yF (zbC (p:=p) E E) c)<|mv E E<|sk2 E E<|pk E E E<|mv E E<|sk4 E E E E<|sk2 E E<|zP E<|pk E E E<|mv E E<|sk4 E E E E<|sk2 E E<|zP E<|pk E E E<|gv E E<|nx<|zm<|zl Tryz.results158 (zf E zi) ⟨_,E,H1⟩
end Go.Proofs.YtabdpmnhjlmnlaaGreatDoor
end
section
namespace Go.Proofs.YtabdpmnhjlmnlaaGreatDoor
open Go Go.Pt
attribute [local irreducible] Code.wp Back bodyPost wpList FR WL WC WQ WA AW Tr Yc HC AllC
set_option maxRecDepth 20000
set_option maxHeartbeats 4000000
set_option linter.unusedVariables false
end Go.Proofs.YtabdpmnhjlmnlaaGreatDoor
end
section
namespace Go.Pt
open Go Go.RowKit
theorem qE {S:Mem} {b o:Nat} {k:Blk} (h:S b=some k):S.cell b o=nthL k.cs o:=by simp[Mem.cell,h]
theorem xL {S:Mem} {b o n:Nat} {k:Blk} (h:S b=some k):S.part b o n=lpart k.cs o n:=by simp[Mem.part,h]
theorem wa {S:Mem} {b o:Nat} {vs:List Value} {k:Blk} (h:S b=some k):S.put b o vs=S.set b ⟨k.ty,spl k.cs o vs,k.fr⟩:=by
 funext x;simp only[Mem.put,Mem.set,h,Option.map_some]
@[simp] theorem zG {S:Mem} {b:Nat} {k:Blk}:(S.set b k) b=some k:=by simp[Mem.set]
theorem qk {S:Mem} {b c:Nat} {k:Blk} (h:c≠b):(S.set b k) c=S c:=by simp[Mem.set,h]
@[simp] theorem zcv {S:Mem} {b:Nat} {k k':Blk}:(S.set b k).set b k'=S.set b k':=by
 funext x;simp only[Mem.set];split <;> rfl
theorem zbb {S:Mem} {b:Nat} {k:Blk} (h:S b=some k):S.set b k=S:=by
 funext x;simp only[Mem.set];split
 ·rename_i hx;rw[hx,h]
 ·rfl
theorem zeq {S:Mem} {b o n t:Nat} {vs cs:List Value} {K:Mem→Prop} (h:S b=some (bw t cs)) (hf:o+n≤cs.length) (hK:K (S.set b (bw t (spl cs o vs)))):pt S b o n vs K:=
 ⟨⟨_,h,rfl,hf⟩,by rw[wa h];exact hK⟩
def Keeps (S S':Mem) (W:List Nat):Prop:=∀ x,S x≠none→x∉W→S' x=S x
theorem Keeps.refl {S:Mem} {W:List Nat}:Keeps S S W:=fun _ _ _=>rfl
theorem Keeps.trans {S S' S'':Mem} {W:List Nat} (h:Keeps S S' W) (h':Keeps S' S'' W):Keeps S S'' W:=fun x hx hw=>by
 have e:=h x hx hw
 rw[h' x (by rw[e];exact hx) hw,e]
theorem Keeps.wider {S S':Mem} {W W':List Nat} (h:Keeps S S' W) (hw:∀ x∈W,x∈W'):Keeps S S' W':=fun x hx h2=>h x hx fun h3=>h2 (hw x h3)
theorem Keeps.set {S S':Mem} {W:List Nat} (h:Keeps S S' W) {b:Nat} {k:Blk} (hb:b∈W):Keeps S (S'.set b k) W:=fun x hx hw=>by
 rw[qk (fun e=>hw (by rw[e];exact hb))];exact h x hx hw
theorem Keeps.new {S S':Mem} {W:List Nat} (h:Keeps S S' W) {b:Nat} {k:Blk} (hb:S' b=none):Keeps S (S'.set b k) W:=fun x hx hw=>by
 have e:=h x hx hw
 rw[qk (fun hxb=>by rw[←hxb,e] at hb;exact hx hb)];exact e
theorem Keeps.get {S S':Mem} {W:List Nat} (h:Keeps S S' W) {b:Nat} {k:Blk} (hb:S b=some k) (hw:b∉W):S' b=some k:=by
 rw[h b (by rw[hb];simp) hw,hb]
theorem w64 {x:Int} (h1 : -9223372036854775808≤x) (h2:x≤9223372036854775807):IntKind.i64.wrap x=x:=zcp (k:=.i64) ⟨h1,h2⟩
theorem wu64 {x:Int} (h1:0≤x) (h2:x≤18446744073709551615):IntKind.u64.wrap x=x:=zcp (k:=.u64) ⟨h1,h2⟩
theorem td {a b:Int} (h:0≤a):Int.tdiv a b=a/b:=Int.tdiv_eq_ediv_of_nonneg h
theorem tm {a b:Int} (h:0≤a):Int.tmod a b=a%b:=Int.tmod_eq_emod_of_nonneg h
theorem Keeps.fresh {S S':Mem} {W:List Nat} (h:Keeps S S' W) {b:Nat} {k:Blk} (hb:S b=none):Keeps S (S'.set b k) W:=fun x hx hw=>by
 rw[qk (fun e=>by rw[e] at hx;exact hx hb)];exact h x hx hw
theorem zdr {cs vs:List Value} {o:Nat} (h:o+vs.length≤cs.length):(spl cs o vs).take (o+vs.length)=cs.take o++vs:=by
 rw[xk _ _ _ (by omega),List.take_left']
 simp;omega
structure Row (S:Mem) (size:Nat) (s:Sl) (l:List Value):Prop where
 len:l.length=s.n*size
 cap:s.n≤s.c
 lie:(s.p=none∧s.c=0)∨∃ b k,s.p=some (b,0)∧S b=some k∧k.fr=(0,0)∧k.cs.length=s.c*size∧k.cs.take (s.n*size)=l
theorem Row.nil {S:Mem} {size:Nat}:Row S size ⟨none,0,0⟩ []:=⟨by simp,by simp,.inl ⟨rfl,rfl⟩⟩
theorem Row.part {S:Mem} {size:Nat} {s:Sl} {l:List Value} (h:Row S size s l) {b:Nat} (hp:s.p=some (b,0)):S.part b 0 (s.n*size)=some l:=by
 rcases h.lie with ⟨h1,_⟩ | ⟨b',k,h1,h2,hfr,h3,h4⟩
 ·rw[h1] at hp;cases hp
 ·rw[h1] at hp;cases hp
  rw[xL h2,qq (by rw[h3,Nat.zero_add];exact Nat.mul_le_mul_right _ h.cap)]
  simpa using h4
theorem Row.keep {S S':Mem} {size:Nat} {s:Sl} {l:List Value} (h:Row S size s l) (hk:∀ b,s.p=some (b,0)→S' b=S b):Row S' size s l:=by
 refine⟨h.len,h.cap,?_⟩
 rcases h.lie with h1 | ⟨b,k,h1,h2,h3⟩
 ·exact .inl h1
 ·exact .inr ⟨b,k,h1,by rw[hk b h1];exact h2,h3⟩
theorem kJ {S:Mem} {e size bytes m:Nat} {z l vs:List Value} {s:Sl} {K:Sl→Mem→Prop} (h:Row S size s l) (hv:vs.length=m*size) (hm:0<m) (hz:z.length=size) (lim:(2*(s.n+m)+1024)*bytes≤281474976710656)
  (hK:∀ (s':Sl) (S':Mem) (b:Nat) (k:Blk),s'.n=s.n+m→s'.p=some (b,0)→(s.p=some (b,0)∨S b=none)→S'=S.set b k→Row S' size s' (l++vs)→K s' S'):ap S e size bytes z s m vs K:=by
 refine⟨lim,fun hc=>?_,fun hc=>?_⟩
 ·rcases h.lie with ⟨h1,h2⟩ | ⟨b,k,h1,h2,hfr,h3,h4⟩
  ·omega
  ·have hfit:0+s.n*size+m*size≤k.cs.length:=by
    rw[h3,Nat.zero_add,←Nat.add_mul];exact Nat.mul_le_mul_right _ hc
   refine .inr ⟨b,0,h1,⟨k,h2,hfr,hfit⟩,?_⟩
   refine hK _ _ b ⟨k.ty,spl k.cs (0+s.n*size) vs,k.fr⟩ rfl h1 (.inl h1) (wa h2) ⟨by simp[h.len,hv,Nat.add_mul],hc,.inr ⟨b,⟨k.ty,spl k.cs (0+s.n*size) vs,k.fr⟩,h1,by rw[wa h2,zG],hfr,?_,?_⟩⟩
   ·simp only;rw[qn (by rw[hv];exact hfit)];exact h3
   ·simp only
    rw[Nat.zero_add,Nat.add_mul,←hv,zdr (by rw[hv];omega),h4]
 ·refine⟨l,?_,fun b c hb h1 h2=>?_⟩
  ·rcases h.lie with ⟨h1,h2⟩ | ⟨b,k,h1,h2,hfr,h3,h4⟩
   ·have h0:s.n=0:=by have:=h.cap;omega
    exact .inl ⟨h1,h0,List.length_eq_zero_iff.1 (by rw[h.len,h0,Nat.zero_mul])⟩
   ·exact .inr ⟨b,0,h1,h.part h1⟩
  ·refine hK _ _ b _ rfl rfl (.inr hb) rfl ⟨by simp[h.len,hv,Nat.add_mul],h1,.inr ⟨b,_,rfl,zG,rfl,?_,?_⟩⟩
   ·simp only[List.length_append,h.len,hv,vG,hz]
    rw[←Nat.add_mul,←Nat.add_mul];congr 1;omega
   ·simp only
    rw[List.take_left' (by simp[h.len,hv,Nat.add_mul])]
end Go.Pt
end
section
namespace Go.Hp
section
variable {α:Type} [Inhabited α]
def gt (l:List α) (i:Nat):α:=l.getD i default
def sw (l:List α) (i j:Nat):List α:=(l.set i (gt l j)).set j (gt l i)
theorem zcV {l:List α} {i:Nat} (h:i<l.length):gt l i=l[i]:=by simp[gt,h]
theorem jN (l:List α) (i j:Nat):(sw l i j).length=l.length:=by simp[sw]
theorem zdW {l:List α} {i k:Nat} {a:α} (h:i<l.length):gt (l.set i a) k=if k=i then a else gt l k:=by
 simp only[gt,List.getD_eq_getElem?_getD,List.getElem?_set]
 by_cases e:i=k
 ·subst e;simp[h]
 ·rw[if_neg e,if_neg (fun h=>e h.symm)]
theorem ju {l:List α} {i j k:Nat} (hi:i<l.length) (hj:j<l.length):gt (sw l i j) k=if k=j then gt l i else if k=i then gt l j else gt l k:=by
 rw[sw,zdW (by simpa using hj),zdW hi]
theorem zay {l:List α} {i j:Nat} (hi:i<l.length) (hj:j<l.length):(sw l i j).Perm l:=by
 rw[sw,zcV hi,zcV hj];exact List.set_set_perm hi hj
structure Ord (lt:α→α→Bool):Prop where
 asym:∀ a b,lt a b=true→lt b a=false
 trans:∀ a b c,lt b a=false→lt c b=false→lt c a=false
variable {lt:α→α→Bool}
def HpF (lt:α→α→Bool) (l:List α) (n lo:Nat):Prop:=∀ k,0<k→k<n→lo≤(k-1)/2→lt (gt l k) (gt l ((k-1)/2))=false
def Heap (lt:α→α→Bool) (l:List α):Prop:=HpF lt l l.length 0
structure Dn (lt:α→α→Bool) (l:List α) (n lo i:Nat):Prop where
 from_:lo≤i
 all:∀ k,0<k→k<n→lo≤(k-1)/2→(k-1)/2≠i→lt (gt l k) (gt l ((k-1)/2))=false
 over:lo<i→∀ k,0<k→k<n→(k-1)/2=i→lo≤(i-1)/2→lt (gt l k) (gt l ((i-1)/2))=false
theorem Dn.start {l:List α} {n lo:Nat} (h:HpF lt l n (lo+1)):Dn lt l n lo lo:=
 ⟨Nat.le_refl _,fun k h1 h2 h3 h4=>h k h1 h2 (by omega),fun h=>absurd h (Nat.lt_irrefl _)⟩
theorem Dn.leaf {l:List α} {n lo i:Nat} (h:Dn lt l n lo i) (hl:n≤2*i+1):HpF lt l n lo:=fun k h1 h2 h3=>h.all k h1 h2 h3 (by omega)
theorem Dn.stop (hO:Ord lt) {l:List α} {n lo i j:Nat} (h:Dn lt l n lo i) (hm:∀ k,k=2*i+1∨k=2*i+2→k<n→lt (gt l k) (gt l j)=false) (hs:lt (gt l j) (gt l i)=false):HpF lt l n lo:=fun k h1 h2 h3=>by
 by_cases e:(k-1)/2=i
 ·rw[e]
  exact hO.trans _ _ _ hs (hm k (by omega) h2)
 ·exact h.all k h1 h2 h3 e
theorem Dn.next (hO:Ord lt) {l:List α} {n lo i j:Nat} (h:Dn lt l n lo i) (hn:n≤l.length) (hjn:j<n) (hj:j=2*i+1∨j=2*i+2) (hm:∀ k,k=2*i+1∨k=2*i+2→k<n→lt (gt l k) (gt l j)=false) (hs:lt (gt l j) (gt l i)=true):Dn lt (sw l i j) n lo j:=by
 have hf:=h.from_
 have hi:i<l.length:=by omega
 have hj':j<l.length:=by omega
 have hji:(j-1)/2=i:=by omega
 refine⟨by omega,fun k h1 h2 h3 h4=>?_,fun _ k h1 h2 h3 _=>?_⟩
 ·rw[ju hi hj',ju hi hj']
  by_cases e1:k=j
  ·subst e1
   rw[if_pos rfl,if_neg (by omega),if_pos hji]
   exact hO.asym _ _ hs
  ·rw[if_neg e1]
   by_cases e2:k=i
   ·subst e2
    rw[if_pos rfl,if_neg (by omega),if_neg (by omega)]
    exact h.over (by omega) j (by omega) hjn hji h3
   ·rw[if_neg e2,if_neg h4]
    by_cases e3:(k-1)/2=i
    ·rw[if_pos e3];exact hm k (by omega) h2
    ·rw[if_neg e3];exact h.all k h1 h2 h3 e3
 ·rw[ju hi hj',ju hi hj',if_neg (by omega),if_neg (by omega),if_neg (by omega),if_pos hji]
  have:=h.all k h1 h2 (by omega) (by omega)
  rw[h3] at this
  exact this
structure Up (lt:α→α→Bool) (l:List α) (j:Nat):Prop where
 all:∀ k,0<k→k<l.length→k≠j→lt (gt l k) (gt l ((k-1)/2))=false
 over:0<j→∀ k,0<k→k<l.length→(k-1)/2=j→lt (gt l k) (gt l ((j-1)/2))=false
theorem vD {l r:List α} {k:Nat} (h:k<l.length):gt (l++r) k=gt l k:=by simp[gt,List.getD_eq_getElem?_getD,List.getElem?_append_left h]
theorem Up.start {l:List α} {a:α} (h:Heap lt l):Up lt (l++[a]) l.length:=by
 refine⟨fun k h1 h2 h3=>?_,fun _ k h1 h2 h3=>?_⟩
 ·simp only[List.length_append,List.length_singleton] at h2
  rw[vD (by omega),vD (by omega)]
  exact h k h1 (by omega) (by omega)
 ·simp only[List.length_append,List.length_singleton] at h2;omega
theorem Up.top {l:List α} (h:Up lt l 0):Heap lt l:=fun k h1 h2 _=>h.all k h1 h2 (by omega)
theorem Up.stop {l:List α} {j:Nat} (h:Up lt l j) (hs:lt (gt l j) (gt l ((j-1)/2))=false):Heap lt l:=fun k h1 h2 _=>by
 by_cases e:k=j
 ·subst e;exact hs
 ·exact h.all k h1 h2 e
theorem Up.next (hO:Ord lt) {l:List α} {j:Nat} (h:Up lt l j) (h0:0<j) (hj:j<l.length) (hs:lt (gt l j) (gt l ((j-1)/2))=true):Up lt (sw l ((j-1)/2) j) ((j-1)/2):=by
 have hi:(j-1)/2<l.length:=by omega
 refine⟨fun k h1 h2 h3=>?_,fun hp k h1 h2 h3=>?_⟩
 ·rw[jN] at h2
  rw[ju hi hj,ju hi hj]
  by_cases e1:k=j
  ·subst e1
   rw[if_pos rfl,if_neg (by omega),if_pos rfl]
   exact hO.asym _ _ hs
  ·rw[if_neg e1,if_neg h3]
   by_cases e2:(k-1)/2=j
   ·rw[if_pos e2];exact h.over h0 k h1 h2 e2
   ·rw[if_neg e2]
    by_cases e3:(k-1)/2=(j-1)/2
    ·rw[if_pos e3]
     have:=h.all k h1 h2 e1
     rw[e3] at this
     exact hO.trans _ _ _ (hO.asym _ _ hs) this
    ·rw[if_neg e3];exact h.all k h1 h2 e1
 ·rw[jN] at h2
  rw[ju hi hj,ju hi hj]
  have hup:=h.all ((j-1)/2) hp hi (by omega)
  rw[if_neg (by omega:¬((j-1)/2-1)/2=j),if_neg (by omega:¬((j-1)/2-1)/2=(j-1)/2)]
  by_cases e1:k=j
  ·subst e1;rw[if_pos rfl];exact hup
  ·rw[if_neg e1,if_neg (by omega)]
   have:=h.all k h1 h2 e1
   rw[h3] at this
   exact hO.trans _ _ _ hup this
theorem Heap.least (hO:Ord lt) (hr:∀ a,lt a a=false) {l:List α} (h:Heap lt l):∀ k,k<l.length→lt (gt l k) (gt l 0)=false:=by
 intro k
 induction k using Nat.strongRecOn with
 | _ k ih=>
  intro hk
  by_cases h0:k=0
  ·subst h0;exact hr _
  ·exact hO.trans _ _ _ (ih ((k-1)/2) (by omega) (by omega)) (h k (by omega) hk (by omega))
theorem Heap.pop {l:List α} (h:Heap lt l) (h0:0<l.length):HpF lt (sw l 0 (l.length-1)) (l.length-1) 1:=fun k h1 h2 h3=>by
 rw[ju h0 (by omega),ju h0 (by omega),if_neg (by omega),if_neg (by omega),if_neg (by omega),if_neg (by omega)]
 exact h k h1 (by omega) (by omega)
theorem HpF.take {l:List α} {n:Nat} (h:HpF lt l n 0) (hn:n≤l.length):Heap lt (l.take n):=fun k h1 h2 _=>by
 rw[List.length_take,Nat.min_eq_left hn] at h2
 have e:∀ m,m<n→gt (l.take n) m=gt l m:=fun m hm=>by simp[gt,List.getD_eq_getElem?_getD,hm]
 rw[e k h2,e _ (by omega)]
 exact h k h1 h2 (by omega)
theorem HpF.leafs {l:List α} {n:Nat}:HpF lt l n (n/2):=fun k h1 h2 h3=>by omega
end
end Go.Hp
end
section
namespace Go.Pt
def Grows (S S':Mem):Prop:=∀ x,S x≠none→S' x≠none
theorem Grows.refl {S:Mem}:Grows S S:=fun _ h=>h
theorem Grows.trans {S S' S'':Mem} (h:Grows S S') (k:Grows S' S''):Grows S S'':=fun x hx=>k x (h x hx)
theorem Grows.set {S S':Mem} (h:Grows S S') {b:Nat} {k:Blk}:Grows S (S'.set b k):=fun x hx=>by
 by_cases e:x=b
 ·rw[e,zG];simp
 ·rw[qk e];exact h x hx
theorem Grows.keeps {S S':Mem} (h:Keeps S S' []):Grows S S':=fun x hx=>by rw[h x hx (by simp)];exact hx
end Go.Pt
end
section
namespace Go.Proofs.YtabdpmnhjlmnlaaGreatDoor.Hk
open Go Go.Pt Go.Hp
open Go.Proofs.YtabdpmnhjlmnlaaGreatDoor
structure Al where
 tm:Int
 vm:Int
 seat:Int
deriving DecidableEq,Inhabited
def ce (a:Al):List Value:=[.int .u64 a.tm,.int .i64 a.vm,.int .i64 a.seat]
def fl (l:List Al):List Value:=l.flatMap ce
def bf (a b:Al):Bool:=if a.tm≠b.tm then decide (a.tm<b.tm) else if a.vm≠b.vm then decide (a.vm<b.vm) else decide (a.seat<b.seat)
theorem xR (a:Al):(ce a).length=3:=rfl
theorem fl_length (l:List Al):(fl l).length=l.length*3:=by
 induction l with
 | nil=>rfl
 | cons a l ih=>simp only[fl,List.flatMap_cons,List.length_append,List.length_cons] at *;rw[ih,xR];omega
structure Ro (S:Mem) (b o c:Nat) (t:TypeId) (s:Sl) (n:Nat):Prop where
 cell:S.cell b o=some (eL s)
 p:s.p=some (c,0)
 n:s.n=n
 ne:b≠c
def wi (S:Mem) (c:Nat) (t:TypeId) (j:List Value) (l:List Al):Mem:=S.set c (bw t (fl l++j))
section
variable {S:Mem} {b o c:Nat} {t:TypeId} {s:Sl} {j:List Value} {l:List Al} {n:Nat}
abbrev rw_ (b o:Nat):Value:=.iface 269 (.pointer (some ⟨b,o,none⟩))
end
end Go.Proofs.YtabdpmnhjlmnlaaGreatDoor.Hk
namespace Go.Proofs.YtabdpmnhjlmnlaaGreatDoor.Hk
open Go Go.Pt Go.Hp
open Go.Proofs.YtabdpmnhjlmnlaaGreatDoor
def own (s:Sl):List Nat:=match s.p with
 | none=>[]
 | some (c,_)=>[c]
structure Ck (S:Mem) (b o:Nat) (tb:TypeId) (cs:List Value) (s:Sl) (l:List Al):Prop where
 blk:S b=some (bw tb cs)
 cell:nthL cs o=some (eL s)
 row:Row S 3 s (fl l)
 ne:∀ c∈own s,b≠c
 heap:Heap bf l
 len:l.length<100000
section
variable {S:Mem} {b o c:Nat} {tb t:TypeId} {cs j:List Value} {s:Sl} {l:List Al} {cap:Nat}
theorem row_open (h:Row S 3 s (fl l)):(s=⟨none,0,0⟩∧l=[])∨∃ c cap t j,s=⟨some (c,0),l.length,cap⟩∧l.length≤cap∧S c=some (bw t (fl l++j))∧j.length=(cap-l.length)*3:=by
 obtain⟨p,n,cp⟩:=s
 have hl:=fl_length l
 have h1:=h.len
 have h2:=h.cap
 simp only at h1 h2
 have hn:n=l.length:=by omega
 subst hn
 rcases h.lie with ⟨h3,h4⟩ | ⟨c,k,h3,h4,h5,h6,h7⟩
 ·simp only at h3 h4
  subst h3;subst h4
  have:l=[]:=List.length_eq_zero_iff.1 (by omega)
  subst this
  exact .inl ⟨rfl,rfl⟩
 ·simp only at h3 h6 h7
  subst h3
  obtain⟨kt,kc,kf⟩:=k
  simp only at h5 h6 h7
  subst h5
  refine .inr ⟨c,cp,kt,kc.drop (l.length*3),rfl,h2,?_,by rw[List.length_drop,h6,Nat.sub_mul]⟩
  rw[←h7,List.take_append_drop];exact h4
theorem own_row {x:Nat} (h:Row S 3 s (fl l)) (hx:x∈own s):∃ k,S x=some k:=by
 rcases row_open h with ⟨rfl,rfl⟩ | ⟨c,cap,t,j,rfl,_,h2,_⟩
 ·simp[own] at hx
 ·simp only[own,List.mem_singleton] at hx;subst hx;exact⟨_,h2⟩
def Tells (S:Mem) (W:List Nat) (fv:Value) (p:Al→Bool):Prop:=∀ S' a (R:Value→Mem→Prop),Keeps S S' W→R (.bool (p a)) S'→cv Tryz.prog S' fv [valL (ce a)] R
variable {fv:Value} {p:Al→Bool}
end
end Go.Proofs.YtabdpmnhjlmnlaaGreatDoor.Hk
namespace Go.Proofs.YtabdpmnhjlmnlaaGreatDoor.Hk
open Go Go.Pt Go.Hp
open Go.Proofs.YtabdpmnhjlmnlaaGreatDoor
section
variable {S:Mem} {b o c:Nat} {tb t:TypeId} {cs j:List Value} {s:Sl} {l:List Al} {cap:Nat} {fv:Value} {p:Al→Bool}
structure Left' (S S':Mem) (b o:Nat) (tb:TypeId) (cs:List Value) (s s':Sl) (l':List Al):Prop where
 ck:Ck S' b o tb (spl cs o [eL s']) s' l'
 keep:Keeps S S' (b :: own s)
 fresh:∀ x∈own s',x∈own s∨S x=none
 al:Grows S S'
end
end Go.Proofs.YtabdpmnhjlmnlaaGreatDoor.Hk
namespace Go.Proofs.YtabdpmnhjlmnlaaGreatDoor.Hk
open Go Go.Pt Go.Hp
open Go.Proofs.YtabdpmnhjlmnlaaGreatDoor
section
variable {S:Mem} {b o c:Nat} {tb t:TypeId} {cs j:List Value} {s:Sl} {l:List Al} {cap:Nat}
structure Told (S S':Mem) (b:Nat) (s' lo:Sl) (out:List Al):Prop where
 row:Row S' 3 lo (fl out)
 fresh:∀ x∈own lo,S x=none
 apart:∀ x∈own lo,x∉b :: own s'
def Rises (l:List Al):Prop:=l.Pairwise fun x y=>bf y x=false
end
end Go.Proofs.YtabdpmnhjlmnlaaGreatDoor.Hk
end
