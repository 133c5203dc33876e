/- Texts of this work,joined by program (pack.py): Psa. -/
import Derived.Test.YtabdpmnhjlmnlaaGreatDoorQAB
set_option linter.unusedVariables false
section
namespace Go.Proofs.YtabdpmnhjlmnlaaGreatDoor
open Go Go.Pt
attribute [local irreducible] Code.wp Back bodyPost wpList FR WL WC WQ WA AW Tr Yc HC AllC
set_option maxRecDepth 20000
set_option maxHeartbeats 4000000
set_option linter.unusedVariables false
def yb (S:Mem) (p:Sl) (code:Int) (a:Int) (b:Int) (c:Int) (n:Int) (Q:Sl→Mem→Prop):Prop:=
 xC S code a b c n fun t Sx=>
 ap Sx 5 1 1 [.int .u8 0] p 4 ([.int .u8 (IntKind.u8.wrap t),.int .u8 (IntKind.u8.wrap (ishr .u32 t 8)),.int .u8 (IntKind.u8.wrap (ishr .u32 t 16)),.int .u8 (IntKind.u8.wrap (ishr .u32 t 24))]) fun t_1 Sx_1=>
 Q t_1 Sx_1
theorem wU {S:Mem} {p:Sl} {code:Int} {a:Int} {b:Int} {c:Int} {n:Int} {Q:Sl→Mem→Prop} (H:yb S p code a b c n Q):qd S p code a b c n Q:=by
 unfold yb at H
 exact Tr.intro Tryz.func157 E Tryz.ntmps157 E fun w0=>csr<|gv E E<|nxr<|mv E E<|mv E E<|mv E E<|mv E E<|mv E E<|qW E E H fun t Sx H1=>gv E E<|nxr<|mv E E<|mv E E<|s_p E (yl ⟨_,Tryz.underlying41⟩ E)<|mv E E<|s_p E (fb E E (by decide))<|s_p E (yl ⟨_,Tryz.underlying41⟩ E)<|mv E E<|s_p E (fb E E (by decide))<|s_p E (yl ⟨_,Tryz.underlying41⟩ E)<|mv E E<|s_p E (fb E E (by decide))<|s_p E (yl ⟨_,Tryz.underlying41⟩ E)<|zaB E E (by decide) E fun b_1=>vN (sx:=p) (vs:=[.int .u8 (IntKind.u8.wrap t),.int .u8 (IntKind.u8.wrap (ishr .u32 t 8)),.int .u8 (IntKind.u8.wrap (ishr .u32 t 16)),.int .u8 (IntKind.u8.wrap (ishr .u32 t 24))]) E E E (zcg 0 E E) E E (by decide) H1 fun t_1 Sx_1 H2=>gv E E<|nx<|zm<|zl Tryz.results157 (zf E zi) ⟨_,E,H2⟩
def qJ (S:Mem) (seed:Sl) (Q:Sl→Mem→Prop):Prop:=
 qd S (⟨none,0,0⟩) 1 4 0 0 8 fun t Sx=>
 qd Sx t 14 0 0 0 2 fun t_1 Sx_1=>
 qd Sx_1 t_1 22 0 0 0 0 fun t_2 Sx_2=>
 jn (fun (p:Sl) (Sx_3:Mem)=>
 qd Sx_3 p 14 10 10 0 (IntKind.i16.wrap ((IntKind.i16.wrap (0-(IntKind.i16.wrap (IntKind.i64.wrap (Int.tdiv (p.n:Int) 4)))))+3)) fun t_3 Sx_4=>
 Q t_3 Sx_4) fun Jx=>
 lp (fun Xx (z:Sl×Int) (Sx_5:Mem)=>
 match z with
 | (p_1,i)=>
 jn (fun (Sx_6:Mem)=>
 jn (fun (p_2:Sl) (Sx_7:Mem)=>
 Xx (p_2,IntKind.i64.wrap (i+3)) Sx_7) fun Jx_1=>
 False) fun Jx_2=>
 if IntKind.i64.wrap (i+2)<(seed.n:Int) then
 if (p_1.n:Int)<350 then
 Jx_2 Sx_5
 else
 Jx p_1 Sx_5
 else
 Jx p_1 Sx_5) (t_2,0) Sx_2
theorem wA {S:Mem} {seed:Sl} {Q:Sl→Mem→Prop} (H:qJ S seed Q):qZ S seed Q:=by
 unfold qJ at H
 exact Tr.intro Tryz.func98 E Tryz.ntmps98 E fun w0=>csr<|gv E E<|nxr<|gv E E<|nxr<|mv E E<|qW E E H fun t Sx H1=>gv E E<|nxr<|mv E E<|qW E E H1 fun t_1 Sx_1 H2=>gv E E<|nxr<|mv E E<|qW E E H2 fun t_2 Sx_2 H3=>gv E E<|nx<|zo H3 (fun (J:Sl→Mem→Prop) (z:Sl) S=>J z S) (fun z=>⟨214,[(3,eL z)]⟩) (fun z=>[]) (fun p Sx_3 H4=>csr<|mv E E<|mv E E<|s_p E (qy E)<|s_p E (zap E E (by decide))<|s_p E (yl ⟨_,Tryz.underlying3⟩ E)<|s_p E (zfD E)<|s_p E (zU E E)<|qW E E H4 fun t_3 Sx_4 H5=>gv E E<|nx<|zm<|zl Tryz.results98 (zf E zi) ⟨_,E,H5⟩) (fun Jx hJx H6=>csr<|gv E E<|nx<|zs<|qh (fun z=>⟨214,[(0,eL seed),(3,eL z.1),(4,.int .i64 z.2)]⟩) (fun z=>[]) (t_2,0) (idx:=[]) H6 E ⟨E,E,E,True.intro⟩ E<|by rintro Xx hXx ⟨p_1,i⟩ Sx_5 H7;exact zo H7 (fun (J:Mem→Prop) (z:Unit) S=>J S) (fun z=>⟨214,[(0,eL seed),(3,eL p_1),(4,.int .i64 i)]⟩) (fun z=>[]) (fun _ Sx_6 H8=>zo H8 (fun (J:Sl→Mem→Prop) (z:Sl) S=>J z S) (fun z=>⟨214,[(0,eL seed),(3,eL z),(4,.int .i64 i)]⟩) (fun z=>[]) (fun p_2 Sx_7 H9=>zr<|mv E E<|s_p E (zU E E)<|gv E E<|zu<|hXx (p_2,IntKind.i64.wrap (i+3)) _ _ _ _ [] H9 E ⟨E,E,E,True.intro⟩ E) (fun Jx_1 hJx_1 H10=>zs<|csr<|mv E E<|mv E E<|H10.elim)) (fun Jx_2 hJx_2 H11=>csr<|mv E E<|s_p E (zU E E)<|mv E E<|s_p E (qy E)<|iteK H11 (fun c H12=>s_p E (yT (zw E E) c)<|mv E E<|mv E E<|s_p E (qy E)<|iteK H12 (fun c_1 H13=>s_p E (yT (zw E E) c_1)<|pk E E E<|nx<|c_t E E<|qg<|hJx_2 () _ _ _ _ [] H13 E ⟨E,E,E,True.intro⟩ E) fun c_1 H13=>s_p E (yF (zw E E) c_1)<|pk E E E<|nx<|c_f E E<|zT<|zg<|zg<|zv<|hJx p_1 _ _ _ _ [] H13 E ⟨E,True.intro⟩ E) fun c H12=>s_p E (yF (zw E E) c)<|mv E E<|sk2 E E<|zP E<|pk E E E<|nx<|c_f E E<|zT<|zg<|zg<|zv<|hJx p_1 _ _ _ _ [] H12 E ⟨E,True.intro⟩ E))
def yj (S:Mem) (x:List Value) (Q:Int→Mem→Prop):Prop:=
 x.length=4 ∧
 jn (fun (Sx:Mem)=>
 Q 0 Sx) fun Jx=>
 gP (nthL x 3) fun t=>
 nn t fun b_1 o=>
 gP (S.cell b_1 (o+74)) fun t_1=>
 nn t_1 fun b_2 o_1=>
 gL (S.cell b_2 o_1) fun t_2=>
 lp (fun Xx (t_3:Int) (Sx_1:Mem)=>
 if t_3<(t_2.n:Int) then
 sl t_2 fun b_3 o_2 n n_1=>
 0≤t_3∧t_3<((n:Nat):Int) ∧
 gA (Sx_1.part b_3 (o_2+t_3.toNat*4) 4) fun t_4=>
 t_4.all (·.oneCell')=true ∧
 gP (nthL x 1) fun t_5=>
 gI (nthL t_4 0) .u8 fun t_6=>
 we Sx_1 t_5 t_3 fun t_7 Sx_2=>
 if t_7≠decide (t_6≠0) then
 Q 8 Sx_2
 else
 gI (nthL t_4 0) .u8 fun t_8=>
 if t_8=0 then
 fits [.i .u8,.i .i64,.i .i64,.i .i64] t_4=true ∧
 if (!(eqL t_4 ([.int .u8 0,.int .i64 0,.int .i64 0,.int .i64 0])))=true then
 Q 8 Sx_2
 else
 Xx (IntKind.i64.wrap (t_3+1)) Sx_2
 else
 Xx (IntKind.i64.wrap (t_3+1)) Sx_2
 else
 Jx Sx_1) 0 S
theorem vw {S:Mem} {x:List Value} {Q:Int→Mem→Prop} (H:yj S x Q):yK S x Q:=by
 unfold yj at H
 exact Tr.intro Tryz.func99 E Tryz.ntmps99 E fun w0=>an H fun hx H1=>csr<|xW E E E fun b=>gv E E<|nx<|zo H1 (fun (J:Mem→Prop) (z:Unit) S=>J S) (fun z=>⟨38,[]⟩) (fun z=>[]) (fun _ Sx H2=>csr<|gv E E<|nx<|zm<|zl Tryz.results99 (zf E zi) ⟨_,E,H2⟩) (fun Jx hJx H3=>csr<|s_p E (zD E E)<|gx H3 fun t ht H4=>s_v E (zB E) (zL 0 E ht)<|by obtain⟨b_1,o,rfl,H5⟩:=H4;exact s_p E (qb E)<|s_p E (zD E E)<|gx H5 fun t_1 ht_1 H6=>s_v E (zB E) (zV ht_1)<|by obtain⟨b_2,o_1,rfl,H7⟩:=H6;exact s_p E (qb E)<|s_p E (zD E E)<|gx H7 fun t_2 ht_2 H8=>s_v E (zB E) (zV ht_2)<|s_p E (qy E)<|mv E E<|nx<|zs<|qh (fun z=>⟨38,[(1,.pointer (some ⟨b,0,none⟩)),(12,eL t_2),(13,.int .i64 (t_2.n:Int)),(14,.int .i64 z)]⟩) (fun z=>[⟨b,201,x⟩]) 0 (idx:=[0]) H8 E ⟨E,E,E,E,True.intro⟩ E<|fun Xx hXx t_3 Sx_1 H9=>csr<|iteK H9 (fun c H10=>s_p E (yT (zw E E) c)<|nx<|zx<|c_t E E<|qg<|zk<|zx<|zs<|csr<|mv E E<|by obtain⟨b_3,o_2,n,n_1,rfl,H11⟩:=H10;exact an2 H11 fun c_1 c_2 H12=>s_p E (qG E E c_1 c_2 E)<|gx H12 fun t_4 ht_4 H13=>by refine s_v E (qu E (zH ht_4)) (wm ht_4) ?_;exact by refine zN E fun b_4=>?_;exact gv E E<|an H13 fun c_3 H14=>zz 1 E E E E E (zH ht_4) E c_3<|nx<|zx<|zY (by kernel_rfl)<|a_takeP 0 E (by decide +kernel) (za (zc (za (za (zc (za zb)))))) E (zD E E)<|by exact gx H14 fun t_5 ht_5 H15=>zA 1 E (by decide +kernel) (za (zc (za (za (zc (za zb)))))) E (zB E) (zL 0 E ht_5)<|by exact a_takeP 2 E (by decide +kernel) (za (zc (za (za (zc (za zb)))))) E (zj E)<|by exact a_takeP 4 E (by decide +kernel) (za (zc (za (za (zc (za zb)))))) E (zD E E)<|by exact gx H15 fun t_6 ht_6 H16=>zA 5 E (by decide +kernel) (za (zc (za (za (zc (za zb)))))) E (zB E) (zL 1 E ht_6)<|by exact a_takeP 6 E (by decide +kernel) (za (zc (za (za (zc (za zb)))))) E (zI E E)<|by exact zJ 3 (by decide +kernel) E<|by exact qW E E H16 fun t_7 Sx_2 H17=>zu<|zS (zy (zL 1 E ht_6) zF)<|iteK H17 (fun c_4 H18=>a_takeP 7 E (by decide +kernel) (za (zc (za (za (zc (za zb)))))) E (yT (zeQ E E) c_4)<|by exact a_takeP 8 E (by decide +kernel) (za (zc (za (za (zc (za zb)))))) E (zj E)<|by exact zd 9 E (by decide +kernel) (za (zc (za (za (zc (za zb)))))) E<|by exact zd 10 E (by decide +kernel) (za (zc (za (za (zc (za zb)))))) E<|by exact zd 11 E (by decide +kernel) (za (zc (za (za (zc (za zb)))))) E<|by exact zd 12 E (by decide +kernel) (za (zc (za (za (zc (za zb)))))) E<|by exact zd 13 E (by decide +kernel) (za (zc (za (za (zc (za zb)))))) E<|by exact zd 14 E (by decide +kernel) (za (zc (za (za (zc (za zb)))))) E<|by exact zd 15 E (by decide +kernel) (za (zc (za (za (zc (za zb)))))) E<|by exact zd 16 E (by decide +kernel) (za (zc (za (za (zc (za zb)))))) E<|by exact a_takeP 17 E (by decide +kernel) (za (zc (za (za (zc (za zb)))))) E (zq E E)<|by exact zE (by decide +kernel)<|by exact zk<|c_t E E<|csr<|gv E E<|nx<|zm<|zh<|ze<|ze<|zh<|ze<|zl Tryz.results99 (zf E zi) ⟨_,E,H18⟩) fun c_4 H18=>a_takeP 7 E (by decide +kernel) (za (zc (za (za (zc (za zb)))))) E (yF (zeQ E E) c_4)<|by exact a_takeP 8 E (by decide +kernel) (za (zc (za (za (zc (za zb)))))) E (zj E)<|by exact a_takeP 9 E (by decide +kernel) (za (zc (za (za (zc (za zb)))))) E (zD E E)<|by exact gx H18 fun t_8 ht_8 H19=>zA 10 E (by decide +kernel) (za (zc (za (za (zc (za zb)))))) E (zB E) (zL 1 E ht_8)<|by exact iteK H19 (fun c_5 H20=>a_takeP 11 E (by decide +kernel) (za (zc (za (za (zc (za zb)))))) E (yT (xV E E) c_5)<|by exact a_takeP 12 E (by decide +kernel) (za (zc (za (za (zc (za zb)))))) E (zj E)<|by exact by refine zA 13 E (by decide +kernel) (za (zc (za (za (zc (za zb)))))) E (qu E (zH ht_4)) (qi (k:=4) 1 E (zC (zH ht_4))) ?_;exact a_takeP 14 E (by decide +kernel) (za (zc (za (za (zc (za zb)))))) E (zM E E)<|by exact an H20 fun c_6 H21=>iteK H21 (fun c_8 H22=>a_takeP 15 E (by decide +kernel) (za (zc (za (za (zc (za zb)))))) E (yB (zcm E E c_6 E) c_8)<|by exact a_takeP 16 E (by decide +kernel) (za (zc (za (za (zc (za zb)))))) E (zq E E)<|by exact a_takeP 17 E (by decide +kernel) (za (zc (za (za (zc (za zb)))))) E (zq E E)<|by exact zE (by decide +kernel)<|by exact zk<|c_t E E<|csr<|gv E E<|nx<|zm<|zh<|ze<|ze<|zh<|ze<|zl Tryz.results99 (zf E zi) ⟨_,E,H22⟩) fun c_8 H22=>a_takeP 15 E (by decide +kernel) (za (zc (za (za (zc (za zb)))))) E (yB (zcm E E c_6 E) (zcj c_8))<|by exact a_takeP 16 E (by decide +kernel) (za (zc (za (za (zc (za zb)))))) E (zq E E)<|by exact a_takeP 17 E (by decide +kernel) (za (zc (za (za (zc (za zb)))))) E (zq E E)<|by exact zE (by decide +kernel)<|by exact zk<|cfs E E<|zQ<|zk<|zr<|s_p E (zU E E)<|mv E E<|zu<|hXx (IntKind.i64.wrap (t_3+1)) _ _ _ _ [0] H22 E ⟨E,E,E,E,True.intro⟩ E) fun c_5 H20=>a_takeP 11 E (by decide +kernel) (za (zc (za (za (zc (za zb)))))) E (yF (xV E E) c_5)<|by exact a_takeP 12 E (by decide +kernel) (za (zc (za (za (zc (za zb)))))) E (zj E)<|by exact zd 13 E (by decide +kernel) (za (zc (za (za (zc (za zb)))))) E<|by exact zd 14 E (by decide +kernel) (za (zc (za (za (zc (za zb)))))) E<|by exact zd 15 E (by decide +kernel) (za (zc (za (za (zc (za zb)))))) E<|by exact a_takeP 16 E (by decide +kernel) (za (zc (za (za (zc (za zb)))))) E (zq E E)<|by exact a_takeP 17 E (by decide +kernel) (za (zc (za (za (zc (za zb)))))) E (zq E E)<|by exact zE (by decide +kernel)<|by exact zk<|cfs E E<|zQ<|zk<|zr<|s_p E (zU E E)<|mv E E<|zu<|hXx (IntKind.i64.wrap (t_3+1)) _ _ _ _ [0] H20 E ⟨E,E,E,E,True.intro⟩ E) fun c H10=>s_p E (yF (zw E E) c)<|nx<|zx<|c_f E E<|zT<|zg<|zg<|zv<|hJx () _ _ _ _ [] H10 E True.intro E)
def xg (S:Mem) (x:List Value) (Q:Int→Mem→Prop):Prop:=
 x.length=4 ∧
 jn (fun (Sx:Mem)=>
 gP (nthL x 3) fun t=>
 nn t fun b_1 o=>
 gP (Sx.cell b_1 (o+74)) fun t_1=>
 gL (nthL x 2) fun t_2=>
 qP Sx t_1 1 0 fun t_3 Sx_1=>
 if t_3≠(t_2.n:Int) then
 Q 7 Sx_1
 else
 Q 0 Sx_1) fun Jx=>
 gL (nthL x 2) fun t_4=>
 lp (fun Xx (t_5:Int) (Sx_2:Mem)=>
 if t_5<(t_4.n:Int) then
 sl t_4 fun b_2 o_1 n n_1=>
 0≤t_5∧t_5<((n:Nat):Int) ∧
 gI (Sx_2.cell b_2 (o_1+t_5.toNat*1)) .i64 fun t_6=>
 gP (nthL x 3) fun t_7=>
 nn t_7 fun b_3 o_2=>
 gP (Sx_2.cell b_3 (o_2+74)) fun t_8=>
 qQ Sx_2 t_8 t_6 fun t_9 t_10 Sx_3=>
 t_9.all (·.oneCell')=true ∧
 if t_10≠0 then
 Q 7 Sx_3
 else
 gI (nthL t_9 0) .u8 fun t_11=>
 if t_11≠1 then
 Q 7 Sx_3
 else
 Xx (IntKind.i64.wrap (t_5+1)) Sx_3
 else
 Jx Sx_2) 0 S
theorem kQ {S:Mem} {x:List Value} {Q:Int→Mem→Prop} (H:xg S x Q):xK S x Q:=by
 unfold xg at H
 exact Tr.intro Tryz.func100 E Tryz.ntmps100 E fun w0=>an H fun hx H1=>csr<|xW E E E fun b=>gv E E<|nx<|zo H1 (fun (J:Mem→Prop) (z:Unit) S=>J S) (fun z=>⟨42,[(1,.pointer (some ⟨b,0,none⟩))]⟩) (fun z=>[⟨b,201,x⟩]) (fun _ Sx H2=>zx<|zx<|zY (by kernel_rfl)<|a_takeP 0 E (by decide +kernel) (za (za zb)) E (zD E E)<|by exact gx H2 fun t ht H3=>zA 1 E (by decide +kernel) (za (za zb)) E (zB E) (zL 0 E ht)<|by exact by obtain⟨b_1,o,rfl,H4⟩:=H3;exact a_takeP 2 E (by decide +kernel) (za (za zb)) E (qb E)<|by exact a_takeP 3 E (by decide +kernel) (za (za zb)) E (zD E E)<|by exact gx H4 fun t_1 ht_1 H5=>zA 4 E (by decide +kernel) (za (za zb)) E (zB E) (zV ht_1)<|by exact a_takeP 6 E (by decide +kernel) (za (za zb)) E (zD E E)<|by exact gx H5 fun t_2 ht_2 H6=>zA 7 E (by decide +kernel) (za (za zb)) E (zB E) (zL 0 E ht_2)<|by exact a_takeP 8 E (by decide +kernel) (za (za zb)) E (qy E)<|by exact zJ 5 (by decide +kernel) E<|by exact qW E E H6 fun t_3 Sx_1 H7=>zu<|zS (zy (zL 0 E ht_2) (zy (zL 0 E ht) zF))<|iteK H7 (fun c H8=>a_takeP 9 E (by decide +kernel) (za (za zb)) E (yT (zI E E) c)<|by exact zE (by decide +kernel)<|by exact zk<|c_t E E<|csr<|gv E E<|nx<|zm<|ze<|zl Tryz.results100 (zf E zi) ⟨_,E,H8⟩) fun c H8=>a_takeP 9 E (by decide +kernel) (za (za zb)) E (yF (zI E E) c)<|by exact zE (by decide +kernel)<|by exact zk<|cfs E E<|zk<|csr<|gv E E<|nx<|zm<|zl Tryz.results100 (zf E zi) ⟨_,E,H8⟩) (fun Jx hJx H9=>csr<|s_p E (zD E E)<|gx H9 fun t_4 ht_4 H10=>s_v E (zB E) (zL 0 E ht_4)<|s_p E (qy E)<|mv E E<|nx<|zs<|qh (fun z=>⟨42,[(1,.pointer (some ⟨b,0,none⟩)),(8,eL t_4),(9,.int .i64 (t_4.n:Int)),(10,.int .i64 z)]⟩) (fun z=>[⟨b,201,x⟩]) 0 (idx:=[0]) H10 E ⟨E,E,E,E,True.intro⟩ E<|fun Xx hXx t_5 Sx_2 H11=>csr<|iteK H11 (fun c_1 H12=>s_p E (yT (zw E E) c_1)<|nx<|zx<|c_t E E<|qg<|zk<|zx<|zs<|csr<|by obtain⟨b_2,o_1,n,n_1,rfl,H13⟩:=H12;exact an2 H13 fun c_2 c_3 H14=>s_p E (qG E E c_2 c_3 E)<|gx H14 fun t_6 ht_6 H15=>s_v E (zB E) (zV ht_6)<|gv E E<|nxr<|s_p E (zD E E)<|gx H15 fun t_7 ht_7 H16=>s_v E (zB E) (zL 0 E ht_7)<|by obtain⟨b_3,o_2,rfl,H17⟩:=H16;exact s_p E (qb E)<|s_p E (zD E E)<|gx H17 fun t_8 ht_8 H18=>s_v E (zB E) (zV ht_8)<|mv E E<|yG E E H18 fun rv Sx_3 H19=>by obtain⟨t_9,t_10,rfl,ht_9,H20⟩:=H19;exact mv E E<|s_p E (zp E E)<|s_p E (zp E E)<|by refine zN E fun b_4=>?_;exact an H20 fun c_4 H21=>zz 1 E E E E E ht_9 E c_4<|gv E E<|nxr<|mv E E<|iteK H21 (fun c_5 H22=>s_p E (yT (zI E E) c_5)<|mv E E<|sk2 E E<|zP E<|pk E E E<|nx<|c_t E E<|csr<|gv E E<|nx<|zm<|zh<|ze<|ze<|zh<|ze<|zl Tryz.results100 (zf E zi) ⟨_,E,H22⟩) fun c_5 H22=>s_p E (yF (zI E E) c_5)<|mv E E<|s_p E (zD E E)<|gx H22 fun t_11 ht_11 H23=>s_v E (zB E) (zL 1 E ht_11)<|iteK H23 (fun c_6 H24=>s_p E (yT (zI E E) c_6)<|pk E E E<|nx<|c_t E E<|csr<|gv E E<|nx<|zm<|zh<|ze<|ze<|zh<|ze<|zl Tryz.results100 (zf E zi) ⟨_,E,H24⟩) fun c_6 H24=>s_p E (yF (zI E E) c_6)<|pk E E E<|nx<|cfs E E<|zQ<|zk<|zr<|s_p E (zU E E)<|mv E E<|zu<|hXx (IntKind.i64.wrap (t_5+1)) _ _ _ _ [0] H24 E ⟨E,E,E,E,True.intro⟩ E) fun c_1 H12=>s_p E (yF (zw E E) c_1)<|nx<|zx<|c_f E E<|zT<|zg<|zg<|zv<|hJx () _ _ _ _ [0] H12 E ⟨E,True.intro⟩ E)
def yg (S:Mem) (x:List Value) (Q:Int→Mem→Prop):Prop:=
 x.length=4 ∧
 jn (fun (Sx:Mem)=>
 Q 0 Sx) fun Jx=>
 gP (nthL x 3) fun t=>
 nn t fun b_1 o=>
 gA (S.part b_1 (o+2) 72) fun t_1=>
 lp (fun Xx (t_2:Int) (Sx_1:Mem)=>
 if t_2<6 then
 jn (fun (Sx_2:Mem)=>
 Xx (IntKind.i64.wrap (t_2+1)) Sx_2) fun Jx_1=>
 0≤t_2∧t_2<6 ∧
 gA (lpart t_1 (t_2.toNat*12) 12) fun t_3=>
 t_3.all (·.oneCell')=true ∧
 jn (fun (need:Int) (Sx_3:Mem)=>
 jn (fun (Sx_4:Mem)=>
 gL (nthL t_3 3) fun t_4=>
 lp (fun Xx_1 (t_5:Int) (Sx_5:Mem)=>
 if t_5<(t_4.n:Int) then
 sl t_4 fun b_3 o_1 n n_1=>
 0≤t_5∧t_5<((n:Nat):Int) ∧
 gI (Sx_5.cell b_3 (o_1+t_5.toNat*1)) .i64 fun t_6=>
 gP (nthL x 3) fun t_7=>
 nn t_7 fun b_4 o_2=>
 gP (Sx_5.cell b_4 (o_2+74)) fun t_8=>
 qQ Sx_5 t_8 t_6 fun t_9 t_10 Sx_6=>
 t_9.all (·.oneCell')=true ∧
 if t_10≠0 then
 Q 7 Sx_6
 else
 fits [.i .u8,.i .i64,.i .i64,.i .i64] t_9=true ∧
 if (!(eqL t_9 ([.int .u8 2,.int .i64 t_2,.int .i64 0,.int .i64 0])))=true then
 Q 7 Sx_6
 else
 Xx_1 (IntKind.i64.wrap (t_5+1)) Sx_6
 else
 Jx_1 Sx_5) 0 Sx_4) fun Jx_2=>
 gL (nthL t_3 3) fun t_11=>
 if (t_11.n:Int)≠need then
 Q 7 Sx_3
 else
 gP (nthL x 3) fun t_12=>
 nn t_12 fun b_6 o_3=>
 gP (Sx_3.cell b_6 (o_3+74)) fun t_13=>
 qP Sx_3 t_13 2 t_2 fun t_14 Sx_7=>
 if t_14≠need then
 Q 7 Sx_7
 else
 gB (nthL t_3 0) fun t_15=>
 if t_15=true then
 gI (nthL t_3 2) .i64 fun t_16=>
 gP (nthL x 3) fun t_17=>
 nn t_17 fun b_7 o_4=>
 gI (Sx_7.cell b_7 o_4) .i64 fun t_18=>
 if t_16≠t_18 then
 Q 7 Sx_7
 else
 Jx_2 Sx_7
 else
 Jx_2 Sx_7) fun Jx_3=>
 gB (nthL t_3 0) fun t_19=>
 if t_19=true then
 Jx_3 5 Sx_1
 else
 Jx_3 0 Sx_1
 else
 Jx Sx_1) 0 S
theorem vt {S:Mem} {x:List Value} {Q:Int→Mem→Prop} (H:yg S x Q):yH S x Q:=by
 unfold yg at H
 exact Tr.intro Tryz.func101 E Tryz.ntmps101 E fun w0=>an H fun hx H1=>csr<|xW E E E fun b=>gv E E<|nx<|zo H1 (fun (J:Mem→Prop) (z:Unit) S=>J S) (fun z=>⟨81,[]⟩) (fun z=>[]) (fun _ Sx H2=>csr<|gv E E<|nx<|zm<|zl Tryz.results101 (zf E zi) ⟨_,E,H2⟩) (fun Jx hJx H3=>csr<|s_p E (zD E E)<|gx H3 fun t ht H4=>s_v E (zB E) (zL 0 E ht)<|by obtain⟨b_1,o,rfl,H5⟩:=H4;exact s_p E (qb E)<|s_p E (zD E E)<|gx H5 fun t_1 ht_1 H6=>by refine s_v E (qu E (zH ht_1)) (wm ht_1) ?_;exact mv E E<|nx<|zs<|qh (fun z=>⟨81,[(1,.pointer (some ⟨b,0,none⟩)),(14,valL t_1),(15,.int .i64 z)]⟩) (fun z=>[⟨b,201,x⟩]) 0 (idx:=[0]) H6 E ⟨E,E,E,True.intro⟩ E<|fun Xx hXx t_2 Sx_1 H7=>csr<|iteK H7 (fun c H8=>s_p E (yT (zw E E) c)<|nx<|zx<|c_t E E<|qg<|zk<|zo H8 (fun (J:Mem→Prop) (z:Unit) S=>J S) (fun z=>⟨81,[(1,.pointer (some ⟨b,0,none⟩)),(14,valL t_1),(15,.int .i64 t_2)]⟩) (fun z=>[⟨b,201,x⟩]) (fun _ Sx_2 H9=>zr<|s_p E (zU E E)<|mv E E<|zu<|hXx (IntKind.i64.wrap (t_2+1)) _ _ _ _ [0] H9 E ⟨E,E,E,True.intro⟩ E) (fun Jx_1 hJx_1 H10=>zs<|csr<|mv E E<|an2 H10 fun c_1 c_2 H11=>gx H11 fun t_3 ht_3 H12=>s_p E (gD E E c_1 c_2 ht_3)<|by refine zN E fun b_2=>?_;exact gv E E<|an H12 fun c_3 H13=>zz 1 E E E E E ((qv ht_3).2.2) E c_3<|nxr<|gv E E<|nx<|zo H13 (fun (J:Int→Mem→Prop) (z:Int) S=>J z S) (fun z=>⟨81,[(1,.pointer (some ⟨b,0,none⟩)),(3,.int .i64 t_2),(4,.pointer (some ⟨b_2,0,none⟩)),(5,.int .i64 z),(14,valL t_1),(15,.int .i64 t_2)]⟩) (fun z=>[⟨b,201,x⟩,⟨b_2,66,t_3⟩]) (fun need Sx_3 H14=>zo H14 (fun (J:Mem→Prop) (z:Unit) S=>J S) (fun z=>⟨81,[(1,.pointer (some ⟨b,0,none⟩)),(3,.int .i64 t_2),(4,.pointer (some ⟨b_2,0,none⟩)),(14,valL t_1),(15,.int .i64 t_2)]⟩) (fun z=>[⟨b,201,x⟩,⟨b_2,66,t_3⟩]) (fun _ Sx_4 H15=>csr<|s_p E (zD E E)<|s_p E (zD E E)<|gx H15 fun t_4 ht_4 H16=>s_v E (zB E) (zL 1 E ht_4)<|s_p E (qy E)<|mv E E<|nx<|zs<|qh (fun z=>⟨81,[(1,.pointer (some ⟨b,0,none⟩)),(3,.int .i64 t_2),(14,valL t_1),(15,.int .i64 t_2),(55,eL t_4),(56,.int .i64 (t_4.n:Int)),(57,.int .i64 z)]⟩) (fun z=>[⟨b,201,x⟩]) 0 (idx:=[0]) H16 E ⟨E,E,E,E,E,E,E,True.intro⟩ E<|fun Xx_1 hXx_1 t_5 Sx_5 H17=>csr<|iteK H17 (fun c_4 H18=>s_p E (yT (zw E E) c_4)<|nx<|zx<|c_t E E<|qg<|zk<|zx<|zs<|csr<|by obtain⟨b_3,o_1,n,n_1,rfl,H19⟩:=H18;exact an2 H19 fun c_5 c_6 H20=>s_p E (qG E E c_5 c_6 E)<|gx H20 fun t_6 ht_6 H21=>s_v E (zB E) (zV ht_6)<|gv E E<|nxr<|s_p E (zD E E)<|gx H21 fun t_7 ht_7 H22=>s_v E (zB E) (zL 0 E ht_7)<|by obtain⟨b_4,o_2,rfl,H23⟩:=H22;exact s_p E (qb E)<|s_p E (zD E E)<|gx H23 fun t_8 ht_8 H24=>s_v E (zB E) (zV ht_8)<|mv E E<|yG E E H24 fun rv Sx_6 H25=>by obtain⟨t_9,t_10,rfl,ht_9,H26⟩:=H25;exact mv E E<|s_p E (zp E E)<|s_p E (zp E E)<|by refine zN E fun b_5=>?_;exact an H26 fun c_7 H27=>zz 1 E E E E E ht_9 E c_7<|gv E E<|nxr<|mv E E<|iteK H27 (fun c_8 H28=>s_p E (yT (zI E E) c_8)<|mv E E<|sk4 E E E E<|pk E E E<|nx<|c_t E E<|csr<|gv E E<|nx<|zm<|zh<|ze<|ze<|zh<|zh<|ze<|ze<|zh<|ze<|zl Tryz.results101 (zf E zi) ⟨_,E,H28⟩) fun c_8 H28=>s_p E (yF (zI E E) c_8)<|mv E E<|by refine s_v E (qu E ht_9) (qi (k:=4) 1 E (zC ht_9)) ?_;exact mv E E<|s_p E (zM E E)<|by exact an H28 fun c_9 H29=>iteK H29 (fun c_11 H30=>s_p E (yB (zcm E E c_9 E) c_11)<|pk E E E<|nx<|c_t E E<|csr<|gv E E<|nx<|zm<|zh<|ze<|ze<|zh<|zh<|ze<|ze<|zh<|ze<|zl Tryz.results101 (zf E zi) ⟨_,E,H30⟩) fun c_11 H30=>s_p E (yB (zcm E E c_9 E) (zcj c_11))<|pk E E E<|nx<|cfs E E<|zQ<|zk<|zr<|s_p E (zU E E)<|mv E E<|zu<|hXx_1 (IntKind.i64.wrap (t_5+1)) _ _ _ _ [0] H30 E ⟨E,E,E,E,E,E,E,True.intro⟩ E) fun c_4 H18=>s_p E (yF (zw E E) c_4)<|nx<|zx<|c_f E E<|zT<|zg<|zg<|zv<|zQ<|hJx_1 () _ _ _ _ [0] H18 E ⟨E,E,E,True.intro⟩ E) (fun Jx_2 hJx_2 H31=>zx<|zY (by kernel_rfl)<|a_takeP 0 E (by decide +kernel) (za (za (zc (za (za (zc (za zb))))))) E (zD E E)<|by exact a_takeP 1 E (by decide +kernel) (za (za (zc (za (za (zc (za zb))))))) E (zD E E)<|by exact gx H31 fun t_11 ht_11 H32=>zA 2 E (by decide +kernel) (za (za (zc (za (za (zc (za zb))))))) E (zB E) (zL 1 E ht_11)<|by exact a_takeP 3 E (by decide +kernel) (za (za (zc (za (za (zc (za zb))))))) E (qy E)<|by exact a_takeP 4 E (by decide +kernel) (za (za (zc (za (za (zc (za zb))))))) E (zj E)<|by exact iteK H32 (fun c_12 H33=>a_takeP 5 E (by decide +kernel) (za (za (zc (za (za (zc (za zb))))))) E (yT (zI E E) c_12)<|by exact a_takeP 6 E (by decide +kernel) (za (za (zc (za (za (zc (za zb))))))) E (zj E)<|by exact zd 7 E (by decide +kernel) (za (za (zc (za (za (zc (za zb))))))) E<|by exact zd 8 E (by decide +kernel) (za (za (zc (za (za (zc (za zb))))))) E<|by exact zd 9 E (by decide +kernel) (za (za (zc (za (za (zc (za zb))))))) E<|by exact zd 10 E (by decide +kernel) (za (za (zc (za (za (zc (za zb))))))) E<|by exact zd 11 E (by decide +kernel) (za (za (zc (za (za (zc (za zb))))))) E<|by exact zd 12 E (by decide +kernel) (za (za (zc (za (za (zc (za zb))))))) E<|by exact zd 13 E (by decide +kernel) (za (za (zc (za (za (zc (za zb))))))) E<|by exact zd 14 E (by decide +kernel) (za (za (zc (za (za (zc (za zb))))))) E<|by exact zd 15 E (by decide +kernel) (za (za (zc (za (za (zc (za zb))))))) E<|by exact a_takeP 16 E (by decide +kernel) (za (za (zc (za (za (zc (za zb))))))) E (zq E E)<|by exact a_takeP 17 E (by decide +kernel) (za (za (zc (za (za (zc (za zb))))))) E (zj E)<|by exact zd 18 E (by decide +kernel) (za (za (zc (za (za (zc (za zb))))))) E<|by exact zd 19 E (by decide +kernel) (za (za (zc (za (za (zc (za zb))))))) E<|by exact zd 20 E (by decide +kernel) (za (za (zc (za (za (zc (za zb))))))) E<|by exact zd 21 E (by decide +kernel) (za (za (zc (za (za (zc (za zb))))))) E<|by exact zd 22 E (by decide +kernel) (za (za (zc (za (za (zc (za zb))))))) E<|by exact zd 23 E (by decide +kernel) (za (za (zc (za (za (zc (za zb))))))) E<|by exact zd 24 E (by decide +kernel) (za (za (zc (za (za (zc (za zb))))))) E<|by exact zd 25 E (by decide +kernel) (za (za (zc (za (za (zc (za zb))))))) E<|by exact zd 26 E (by decide +kernel) (za (za (zc (za (za (zc (za zb))))))) E<|by exact zd 27 E (by decide +kernel) (za (za (zc (za (za (zc (za zb))))))) E<|by exact zd 28 E (by decide +kernel) (za (za (zc (za (za (zc (za zb))))))) E<|by exact zd 29 E (by decide +kernel) (za (za (zc (za (za (zc (za zb))))))) E<|by exact zd 30 E (by decide +kernel) (za (za (zc (za (za (zc (za zb))))))) E<|by exact a_takeP 31 E (by decide +kernel) (za (za (zc (za (za (zc (za zb))))))) E (zq E E)<|by exact zE (by decide +kernel)<|by exact zk<|c_t E E<|csr<|gv E E<|nx<|zm<|ze<|zh<|ze<|ze<|zh<|ze<|zl Tryz.results101 (zf E zi) ⟨_,E,H33⟩) fun c_12 H33=>a_takeP 5 E (by decide +kernel) (za (za (zc (za (za (zc (za zb))))))) E (yF (zI E E) c_12)<|by exact a_takeP 6 E (by decide +kernel) (za (za (zc (za (za (zc (za zb))))))) E (zj E)<|by exact a_takeP 7 E (by decide +kernel) (za (za (zc (za (za (zc (za zb))))))) E (zD E E)<|by exact gx H33 fun t_12 ht_12 H34=>zA 8 E (by decide +kernel) (za (za (zc (za (za (zc (za zb))))))) E (zB E) (zL 0 E ht_12)<|by exact by obtain⟨b_6,o_3,rfl,H35⟩:=H34;exact a_takeP 9 E (by decide +kernel) (za (za (zc (za (za (zc (za zb))))))) E (qb E)<|by exact a_takeP 10 E (by decide +kernel) (za (za (zc (za (za (zc (za zb))))))) E (zD E E)<|by exact gx H35 fun t_13 ht_13 H36=>zA 11 E (by decide +kernel) (za (za (zc (za (za (zc (za zb))))))) E (zB E) (zV ht_13)<|by exact a_takeP 12 E (by decide +kernel) (za (za (zc (za (za (zc (za zb))))))) E (zj E)<|by exact a_takeP 14 E (by decide +kernel) (za (za (zc (za (za (zc (za zb))))))) E (zj E)<|by exact zJ 13 (by decide +kernel) E<|by exact qW E E H36 fun t_14 Sx_7 H37=>zu<|zS (zy (zL 0 E ht_12) (zy (zL 1 E ht_11) zF))<|iteK H37 (fun c_13 H38=>a_takeP 15 E (by decide +kernel) (za (za (zc (za (za (zc (za zb))))))) E (yT (zI E E) c_13)<|by exact a_takeP 16 E (by decide +kernel) (za (za (zc (za (za (zc (za zb))))))) E (zq E E)<|by exact a_takeP 17 E (by decide +kernel) (za (za (zc (za (za (zc (za zb))))))) E (zj E)<|by exact zd 18 E (by decide +kernel) (za (za (zc (za (za (zc (za zb))))))) E<|by exact zd 19 E (by decide +kernel) (za (za (zc (za (za (zc (za zb))))))) E<|by exact zd 20 E (by decide +kernel) (za (za (zc (za (za (zc (za zb))))))) E<|by exact zd 21 E (by decide +kernel) (za (za (zc (za (za (zc (za zb))))))) E<|by exact zd 22 E (by decide +kernel) (za (za (zc (za (za (zc (za zb))))))) E<|by exact zd 23 E (by decide +kernel) (za (za (zc (za (za (zc (za zb))))))) E<|by exact zd 24 E (by decide +kernel) (za (za (zc (za (za (zc (za zb))))))) E<|by exact zd 25 E (by decide +kernel) (za (za (zc (za (za (zc (za zb))))))) E<|by exact zd 26 E (by decide +kernel) (za (za (zc (za (za (zc (za zb))))))) E<|by exact zd 27 E (by decide +kernel) (za (za (zc (za (za (zc (za zb))))))) E<|by exact zd 28 E (by decide +kernel) (za (za (zc (za (za (zc (za zb))))))) E<|by exact zd 29 E (by decide +kernel) (za (za (zc (za (za (zc (za zb))))))) E<|by exact zd 30 E (by decide +kernel) (za (za (zc (za (za (zc (za zb))))))) E<|by exact a_takeP 31 E (by decide +kernel) (za (za (zc (za (za (zc (za zb))))))) E (zq E E)<|by exact zE (by decide +kernel)<|by exact zk<|c_t E E<|csr<|gv E E<|nx<|zm<|ze<|zh<|ze<|ze<|zh<|ze<|zl Tryz.results101 (zf E zi) ⟨_,E,H38⟩) fun c_13 H38=>a_takeP 15 E (by decide +kernel) (za (za (zc (za (za (zc (za zb))))))) E (yF (zI E E) c_13)<|by exact a_takeP 16 E (by decide +kernel) (za (za (zc (za (za (zc (za zb))))))) E (zq E E)<|by exact a_takeP 17 E (by decide +kernel) (za (za (zc (za (za (zc (za zb))))))) E (zj E)<|by exact a_takeP 18 E (by decide +kernel) (za (za (zc (za (za (zc (za zb))))))) E (zD E E)<|by exact gx H38 fun t_15 ht_15 H39=>by have H40:=vY H39;rcases H40 with ⟨rfl,H41⟩ | ⟨rfl,H41⟩;exact (zA 19 E (by decide +kernel) (za (za (zc (za (za (zc (za zb))))))) E (zB E) (zL 1 E ht_15)<|by exact a_takeP 20 E (by decide +kernel) (za (za (zc (za (za (zc (za zb))))))) E (zj E)<|by exact a_takeP 21 E (by decide +kernel) (za (za (zc (za (za (zc (za zb))))))) E (zD E E)<|by exact a_takeP 22 E (by decide +kernel) (za (za (zc (za (za (zc (za zb))))))) E (zD E E)<|by exact gx H41 fun t_16 ht_16 H42=>zA 23 E (by decide +kernel) (za (za (zc (za (za (zc (za zb))))))) E (zB E) (zL 1 E ht_16)<|by exact a_takeP 24 E (by decide +kernel) (za (za (zc (za (za (zc (za zb))))))) E (zD E E)<|by exact gx H42 fun t_17 ht_17 H43=>zA 25 E (by decide +kernel) (za (za (zc (za (za (zc (za zb))))))) E (zB E) (zL 0 E ht_17)<|by exact by obtain⟨b_7,o_4,rfl,H44⟩:=H43;exact a_takeP 26 E (by decide +kernel) (za (za (zc (za (za (zc (za zb))))))) E (qb E)<|by exact a_takeP 27 E (by decide +kernel) (za (za (zc (za (za (zc (za zb))))))) E (zD E E)<|by exact gx H44 fun t_18 ht_18 H45=>zA 28 E (by decide +kernel) (za (za (zc (za (za (zc (za zb))))))) E (zB E) (zV ht_18)<|by exact iteK H45 (fun c_14 H46=>a_takeP 29 E (by decide +kernel) (za (za (zc (za (za (zc (za zb))))))) E (yT (zI E E) c_14)<|by exact a_takeP 30 E (by decide +kernel) (za (za (zc (za (za (zc (za zb))))))) E (zq E E)<|by exact a_takeP 31 E (by decide +kernel) (za (za (zc (za (za (zc (za zb))))))) E (zq E E)<|by exact zE (by decide +kernel)<|by exact zk<|c_t E E<|csr<|gv E E<|nx<|zm<|ze<|zh<|ze<|ze<|zh<|ze<|zl Tryz.results101 (zf E zi) ⟨_,E,H46⟩) fun c_14 H46=>a_takeP 29 E (by decide +kernel) (za (za (zc (za (za (zc (za zb))))))) E (yF (zI E E) c_14)<|by exact a_takeP 30 E (by decide +kernel) (za (za (zc (za (za (zc (za zb))))))) E (zq E E)<|by exact a_takeP 31 E (by decide +kernel) (za (za (zc (za (za (zc (za zb))))))) E (zq E E)<|by exact zE (by decide +kernel)<|by exact zk<|cfs E E<|hJx_2 () _ _ _ _ [0,0] H46 E ⟨E,E,E,E,E,True.intro⟩ E);exact (zA 19 E (by decide +kernel) (za (za (zc (za (za (zc (za zb))))))) E (zB E) (zL 1 E ht_15)<|by exact a_takeP 20 E (by decide +kernel) (za (za (zc (za (za (zc (za zb))))))) E (zj E)<|by exact zd 21 E (by decide +kernel) (za (za (zc (za (za (zc (za zb))))))) E<|by exact zd 22 E (by decide +kernel) (za (za (zc (za (za (zc (za zb))))))) E<|by exact zd 23 E (by decide +kernel) (za (za (zc (za (za (zc (za zb))))))) E<|by exact zd 24 E (by decide +kernel) (za (za (zc (za (za (zc (za zb))))))) E<|by exact zd 25 E (by decide +kernel) (za (za (zc (za (za (zc (za zb))))))) E<|by exact zd 26 E (by decide +kernel) (za (za (zc (za (za (zc (za zb))))))) E<|by exact zd 27 E (by decide +kernel) (za (za (zc (za (za (zc (za zb))))))) E<|by exact zd 28 E (by decide +kernel) (za (za (zc (za (za (zc (za zb))))))) E<|by exact zd 29 E (by decide +kernel) (za (za (zc (za (za (zc (za zb))))))) E<|by exact a_takeP 30 E (by decide +kernel) (za (za (zc (za (za (zc (za zb))))))) E (zq E E)<|by exact a_takeP 31 E (by decide +kernel) (za (za (zc (za (za (zc (za zb))))))) E (zq E E)<|by exact zE (by decide +kernel)<|by exact zk<|cfs E E<|hJx_2 () _ _ _ _ [0,0] H41 E ⟨E,E,E,E,E,True.intro⟩ E))) (fun Jx_3 hJx_3 H47=>csr<|s_p E (zD E E)<|gx H47 fun t_19 ht_19 H48=>by have H49:=vY H48;rcases H49 with ⟨rfl,H50⟩ | ⟨rfl,H50⟩;exact (s_v E (zB E) (zL 1 E ht_19)<|nx<|ctr E E<|gv E E<|zu<|hJx_3 5 _ _ _ _ [0,0] H50 E ⟨E,E,E,E,E,E,True.intro⟩ E);exact (s_v E (zB E) (zL 1 E ht_19)<|nx<|cfs E E<|hJx_3 0 _ _ _ _ [0,0] H50 E ⟨E,E,E,E,E,E,True.intro⟩ E)))) fun c H8=>s_p E (yF (zw E E) c)<|nx<|zx<|c_f E E<|zT<|zg<|zg<|zv<|hJx () _ _ _ _ [] H8 E True.intro E)
def yx (S:Mem) (x:List Value) (Q:Int→Mem→Prop):Prop:=
 x.length=4 ∧
 jn (fun (Sx:Mem)=>
 jn (fun (Sx_1:Mem)=>
 Q 0 Sx_1) fun Jx=>
 gP (nthL x 3) fun t=>
 nn t fun b_1 o=>
 gA (Sx.part b_1 (o+2) 72) fun t_1=>
 lp (fun Xx (t_2:Int) (Sx_2:Mem)=>
 if t_2<6 then
 jn (fun (Sx_3:Mem)=>
 Xx (IntKind.i64.wrap (t_2+1)) Sx_3) fun Jx_1=>
 0≤t_2∧t_2<6 ∧
 gA (lpart t_1 (t_2.toNat*12) 12) fun t_3=>
 t_3.all (·.oneCell')=true ∧
 jn (fun (Sx_4:Mem)=>
 gA (lpart t_3 2 2) fun a=>
 gP (nthL x 0) fun t_4=>
 xH Sx_4 a t_4 fun t_5 t_6 Sx_5=>
 lp (fun Xx_1 (t_7:Int) (Sx_6:Mem)=>
 if t_7<(t_5.n:Int) then
 jn (fun (Sx_7:Mem)=>
 Xx_1 (IntKind.i64.wrap (t_7+1)) Sx_7) fun Jx_2=>
 sl t_5 fun b_3 o_1 n n_1=>
 0≤t_7∧t_7<((n:Nat):Int) ∧
 gI (Sx_6.cell b_3 (o_1+t_7.toNat*1)) .i64 fun t_8=>
 gP (nthL x 3) fun t_9=>
 nn t_9 fun b_4 o_2=>
 gP (Sx_6.cell b_4 (o_2+74)) fun t_10=>
 sl t_6 fun b_5 o_3 n_2 n_3=>
 0≤t_7∧t_7<((n_2:Nat):Int) ∧
 gI (Sx_6.cell b_5 (o_3+t_7.toNat*3+1)) .i64 fun t_11=>
 qQ Sx_6 t_10 t_11 fun t_12 t_13 Sx_8=>
 t_12.all (·.oneCell')=true ∧
 jn (fun (mine:Bool) (Sx_9:Mem)=>
 if mine=true then
 Jx_2 Sx_9
 else
 0≤t_7∧t_7<((n_2:Nat):Int) ∧
 gA (Sx_9.part b_5 (o_3+t_7.toNat*3) 3) fun t_14=>
 jt Sx_9 x t_2 t_8 t_14 t_12 fun t_15 Sx_10=>
 if t_15=true then
 Jx_2 Sx_10
 else
 Q 11 Sx_10) fun Jx_3=>
 if t_13=0 then
 gI (nthL t_12 0) .u8 fun t_16=>
 if t_16=3 then
 gI (nthL t_12 1) .i64 fun t_17=>
 if t_17=t_2 then
 gI (nthL t_12 2) .i64 fun t_18=>
 if t_18=t_8 then
 Jx_3 true Sx_8
 else
 Jx_3 false Sx_8
 else
 Jx_3 false Sx_8
 else
 Jx_3 false Sx_8
 else
 Jx_3 false Sx_8
 else
 Jx_1 Sx_6) 0 Sx_5) fun Jx_4=>
 gB (nthL t_3 0) fun t_19=>
 if t_19=true then
 Jx_4 Sx_2
 else
 Jx_1 Sx_2
 else
 Jx Sx_2) 0 Sx) fun Jx_5=>
 gP (nthL x 3) fun t_20=>
 nn t_20 fun b_7 o_4=>
 gP (S.cell b_7 (o_4+74)) fun t_21=>
 nn t_21 fun b_8 o_5=>
 gL (S.cell b_8 o_5) fun t_22=>
 lp (fun Xx_2 (t_23:Int) (Sx_11:Mem)=>
 if t_23<(t_22.n:Int) then
 jn (fun (Sx_12:Mem)=>
 Xx_2 (IntKind.i64.wrap (t_23+1)) Sx_12) fun Jx_6=>
 sl t_22 fun b_9 o_6 n_4 n_5=>
 0≤t_23∧t_23<((n_4:Nat):Int) ∧
 gA (Sx_11.part b_9 (o_6+t_23.toNat*4) 4) fun t_24=>
 t_24.all (·.oneCell')=true ∧
 jn (fun (Sx_13:Mem)=>
 jn (fun (Sx_14:Mem)=>
 gP (nthL x 3) fun t_25=>
 gI (nthL t_24 1) .i64 fun t_26=>
 nn t_25 fun b_11 o_7=>
 0≤t_26∧t_26<6 ∧
 gA (Sx_14.part b_11 (o_7+2+t_26.toNat*12+2) 2) fun t_27=>
 gP (nthL x 0) fun t_28=>
 gI (nthL t_24 2) .i64 fun t_29=>
 qM Sx_14 t_27 t_28 t_29 fun t_30 t_31 Sx_15=>
 t_30.all (·.oneCell')=true ∧
 if t_31≠0 then
 Q 11 Sx_15
 else
 gI (nthL t_30 1) .i64 fun t_32=>
 if t_32≠t_23 then
 Q 11 Sx_15
 else
 gB (nthL t_30 2) fun t_33=>
 if t_33=true then
 gP (nthL x 3) fun t_34=>
 nn t_34 fun b_13 o_8=>
 gA (Sx_15.part b_13 (o_8+75) 96) fun t_35=>
 gI (nthL t_24 1) .i64 fun t_36=>
 gI (nthL t_24 2) .i64 fun t_37=>
 wE Sx_15 t_35 t_36 t_37 fun t_38 Sx_16=>
 if 0≤t_38 then
 Q 11 Sx_16
 else
 Jx_6 Sx_16
 else
 Q 11 Sx_15) fun Jx_7=>
 gP (nthL x 3) fun t_39=>
 gI (nthL t_24 1) .i64 fun t_40=>
 qe Sx_13 t_39 t_40 fun t_41 Sx_17=>
 if t_41=true then
 Jx_7 Sx_17
 else
 Q 7 Sx_17) fun Jx_8=>
 gI (nthL t_24 0) .u8 fun t_42=>
 if t_42≠3 then
 Jx_6 Sx_11
 else
 Jx_8 Sx_11
 else
 Jx_5 Sx_11) 0 S
theorem vJ {S:Mem} {x:List Value} {Q:Int→Mem→Prop} (H:yx S x Q):yX S x Q:=by
 unfold yx at H
 exact Tr.intro Tryz.func102 E Tryz.ntmps102 E fun w0=>an H fun hx H1=>csr<|xW E E E fun b=>gv E E<|nx<|zo H1 (fun (J:Mem→Prop) (z:Unit) S=>J S) (fun z=>⟨159,[(1,.pointer (some ⟨b,0,none⟩))]⟩) (fun z=>[⟨b,201,x⟩]) (fun _ Sx H2=>zo H2 (fun (J:Mem→Prop) (z:Unit) S=>J S) (fun z=>⟨159,[]⟩) (fun z=>[]) (fun _ Sx_1 H3=>csr<|gv E E<|nx<|zm<|zl Tryz.results102 (zf E zi) ⟨_,E,H3⟩) (fun Jx hJx H4=>csr<|s_p E (zD E E)<|gx H4 fun t ht H5=>s_v E (zB E) (zL 0 E ht)<|by obtain⟨b_1,o,rfl,H6⟩:=H5;exact s_p E (qb E)<|s_p E (zD E E)<|gx H6 fun t_1 ht_1 H7=>by refine s_v E (qu E (zH ht_1)) (wm ht_1) ?_;exact mv E E<|nx<|zs<|qh (fun z=>⟨159,[(1,.pointer (some ⟨b,0,none⟩)),(87,valL t_1),(88,.int .i64 z)]⟩) (fun z=>[⟨b,201,x⟩]) 0 (idx:=[0]) H7 E ⟨E,E,E,True.intro⟩ E<|fun Xx hXx t_2 Sx_2 H8=>csr<|iteK H8 (fun c H9=>s_p E (yT (zw E E) c)<|nx<|zx<|c_t E E<|qg<|zk<|zo H9 (fun (J:Mem→Prop) (z:Unit) S=>J S) (fun z=>⟨159,[(1,.pointer (some ⟨b,0,none⟩)),(87,valL t_1),(88,.int .i64 t_2)]⟩) (fun z=>[⟨b,201,x⟩]) (fun _ Sx_3 H10=>zr<|s_p E (zU E E)<|mv E E<|zu<|hXx (IntKind.i64.wrap (t_2+1)) _ _ _ _ [0] H10 E ⟨E,E,E,True.intro⟩ E) (fun Jx_1 hJx_1 H11=>zs<|csr<|mv E E<|an2 H11 fun c_1 c_2 H12=>gx H12 fun t_3 ht_3 H13=>s_p E (gD E E c_1 c_2 ht_3)<|by refine zN E fun b_2=>?_;exact gv E E<|an H13 fun c_3 H14=>zz 1 E E E E E ((qv ht_3).2.2) E c_3<|nx<|zo H14 (fun (J:Mem→Prop) (z:Unit) S=>J S) (fun z=>⟨159,[(1,.pointer (some ⟨b,0,none⟩)),(7,.int .i64 t_2),(8,.pointer (some ⟨b_2,0,none⟩)),(87,valL t_1),(88,.int .i64 t_2)]⟩) (fun z=>[⟨b,201,x⟩,⟨b_2,66,t_3⟩]) (fun _ Sx_4 H15=>csr<|s_p E (zD E E)<|gx H15 fun a ha H16=>by refine s_v E (qu E ((qv ha).2.2)) (qi 1 E ha) ?_;exact s_p E (zD E E)<|gx H16 fun t_4 ht_4 H17=>s_v E (zB E) (zL 0 E ht_4)<|zbe E E H17 fun t_5 t_6 Sx_5 H18=>mv E E<|s_p E (zp E E)<|s_p E (zp E E)<|gv E E<|gv E E<|nxr<|mv E E<|s_p E (qy E)<|mv E E<|nx<|zs<|qh (fun z=>⟨159,[(1,.pointer (some ⟨b,0,none⟩)),(7,.int .i64 t_2),(10,eL t_6),(87,valL t_1),(88,.int .i64 t_2),(103,eL t_5),(104,.int .i64 (t_5.n:Int)),(105,.int .i64 z)]⟩) (fun z=>[⟨b,201,x⟩]) 0 (idx:=[0]) H18 E ⟨E,E,E,E,E,E,E,E,True.intro⟩ E<|fun Xx_1 hXx_1 t_7 Sx_6 H19=>csr<|iteK H19 (fun c_4 H20=>s_p E (yT (zw E E) c_4)<|nx<|zx<|c_t E E<|qg<|zk<|zo H20 (fun (J:Mem→Prop) (z:Unit) S=>J S) (fun z=>⟨159,[(1,.pointer (some ⟨b,0,none⟩)),(7,.int .i64 t_2),(10,eL t_6),(87,valL t_1),(88,.int .i64 t_2),(103,eL t_5),(104,.int .i64 (t_5.n:Int)),(105,.int .i64 t_7)]⟩) (fun z=>[⟨b,201,x⟩]) (fun _ Sx_7 H21=>zr<|s_p E (zU E E)<|mv E E<|zu<|hXx_1 (IntKind.i64.wrap (t_7+1)) _ _ _ _ [0] H21 E ⟨E,E,E,E,E,E,E,E,True.intro⟩ E) (fun Jx_2 hJx_2 H22=>zs<|csr<|mv E E<|by obtain⟨b_3,o_1,n,n_1,rfl,H23⟩:=H22;exact an2 H23 fun c_5 c_6 H24=>s_p E (qG E E c_5 c_6 E)<|gx H24 fun t_8 ht_8 H25=>s_v E (zB E) (zV ht_8)<|gv E E<|gv E E<|nx<|zx<|zY (by kernel_rfl)<|a_takeP 0 E (by decide +kernel) (za (zc (za (za (zc (zc (za (za (zc (za zb)))))))))) E (zD E E)<|by exact gx H25 fun t_9 ht_9 H26=>zA 1 E (by decide +kernel) (za (zc (za (za (zc (zc (za (za (zc (za zb)))))))))) E (zB E) (zL 0 E ht_9)<|by exact by obtain⟨b_4,o_2,rfl,H27⟩:=H26;exact a_takeP 2 E (by decide +kernel) (za (zc (za (za (zc (zc (za (za (zc (za zb)))))))))) E (qb E)<|by exact a_takeP 3 E (by decide +kernel) (za (zc (za (za (zc (zc (za (za (zc (za zb)))))))))) E (zD E E)<|by exact gx H27 fun t_10 ht_10 H28=>zA 4 E (by decide +kernel) (za (zc (za (za (zc (zc (za (za (zc (za zb)))))))))) E (zB E) (zV ht_10)<|by exact a_takeP 5 E (by decide +kernel) (za (zc (za (za (zc (zc (za (za (zc (za zb)))))))))) E (zj E)<|by exact a_takeP 6 E (by decide +kernel) (za (zc (za (za (zc (zc (za (za (zc (za zb)))))))))) E (zj E)<|by exact by obtain⟨b_5,o_3,n_2,n_3,rfl,H29⟩:=H28;exact an2 H29 fun c_7 c_8 H30=>a_takeP 7 E (by decide +kernel) (za (zc (za (za (zc (zc (za (za (zc (za zb)))))))))) E (qG E E c_7 c_8 E)<|by exact a_takeP 8 E (by decide +kernel) (za (zc (za (za (zc (zc (za (za (zc (za zb)))))))))) E (zD E E)<|by exact gx H30 fun t_11 ht_11 H31=>zA 9 E (by decide +kernel) (za (zc (za (za (zc (zc (za (za (zc (za zb)))))))))) E (zB E) (zV ht_11)<|by exact gi 10 14 (by decide +kernel) E E (yG E E H31 fun rv Sx_8 H32=>by obtain⟨t_12,t_13,rfl,ht_12,H33⟩:=H32;exact zu<|zS (zy (zL 0 E ht_9) zF)<|a_takeP 11 E (by decide +kernel) (za (zc (za (za (zc (zc (za (za (zc (za zb)))))))))) E (zj E)<|by exact a_takeP 12 E (by decide +kernel) (za (zc (za (za (zc (zc (za (za (zc (za zb)))))))))) E (zp E E)<|by exact a_takeP 13 E (by decide +kernel) (za (zc (za (za (zc (zc (za (za (zc (za zb)))))))))) E (zp E E)<|by exact zJ 14 (by decide +kernel) E<|by exact by refine zN E fun b_6=>?_;exact zu<|zS (zy (zL 0 E ht_9) zF)<|zJ 15 (by decide +kernel) E<|by exact an H33 fun c_9 H34=>zz 1 E E E E E ht_12 E c_9<|zu<|zS zF<|a_takeP 16 E (by decide +kernel) (za (zc (za (za (zc (zc (za (za (zc (za zb)))))))))) E (zW E)<|by exact zE (by decide +kernel)<|by exact zk<|zo H34 (fun (J:Bool→Mem→Prop) (z:Bool) S=>J z S) (fun z=>⟨159,[(1,.pointer (some ⟨b,0,none⟩)),(7,.int .i64 t_2),(10,.slice (some ⟨b_5,o_3,none⟩) n_2 n_3),(11,.int .i64 t_7),(12,.int .i64 t_8),(13,.pointer (some ⟨b_6,0,none⟩)),(15,.bool z),(87,valL t_1),(88,.int .i64 t_2),(103,.slice (some ⟨b_3,o_1,none⟩) n n_1),(104,.int .i64 (n:Int)),(105,.int .i64 t_7)]⟩) (fun z=>[⟨b,201,x⟩,⟨b_6,91,t_12⟩]) (fun mine Sx_9 H35=>zx<|zY (by kernel_rfl)<|iteK H35 (fun c_10 H36=>a_takeP 0 E (by decide +kernel) (za (zc (za (za (zc (zc (za (za (zc (za zb)))))))))) E (fc E c_10)<|by exact a_takeP 1 E (by decide +kernel) (za (zc (za (za (zc (zc (za (za (zc (za zb)))))))))) E (yB (qt E) E)<|by exact a_takeP 2 E (by decide +kernel) (za (zc (za (za (zc (zc (za (za (zc (za zb)))))))))) E (zj E)<|by exact zd 3 E (by decide +kernel) (za (zc (za (za (zc (zc (za (za (zc (za zb)))))))))) E<|by exact zd 4 E (by decide +kernel) (za (zc (za (za (zc (zc (za (za (zc (za zb)))))))))) E<|by exact zd 5 E (by decide +kernel) (za (zc (za (za (zc (zc (za (za (zc (za zb)))))))))) E<|by exact zd 6 E (by decide +kernel) (za (zc (za (za (zc (zc (za (za (zc (za zb)))))))))) E<|by exact zd 7 E (by decide +kernel) (za (zc (za (za (zc (zc (za (za (zc (za zb)))))))))) E<|by exact zd 8 E (by decide +kernel) (za (zc (za (za (zc (zc (za (za (zc (za zb)))))))))) E<|by exact zd 9 E (by decide +kernel) (za (zc (za (za (zc (zc (za (za (zc (za zb)))))))))) E<|by exact zd 10 E (by decide +kernel) (za (zc (za (za (zc (zc (za (za (zc (za zb)))))))))) E<|by exact zd 11 E (by decide +kernel) (za (zc (za (za (zc (zc (za (za (zc (za zb)))))))))) E<|by exact zd 12 E (by decide +kernel) (za (zc (za (za (zc (zc (za (za (zc (za zb)))))))))) E<|by exact a_takeP 13 E (by decide +kernel) (za (zc (za (za (zc (zc (za (za (zc (za zb)))))))))) E (zq E E)<|by exact zE (by decide +kernel)<|by exact zk<|cfs E E<|zQ<|hJx_2 () _ _ _ _ [0] H36 E ⟨E,E,E,E,E,E,E,E,True.intro⟩ E) fun c_10 H36=>a_takeP 0 E (by decide +kernel) (za (zc (za (za (zc (zc (za (za (zc (za zb)))))))))) E (fc E (zcj c_10))<|by exact a_takeP 1 E (by decide +kernel) (za (zc (za (za (zc (zc (za (za (zc (za zb)))))))))) E (yB (qt E) E)<|by exact a_takeP 2 E (by decide +kernel) (za (zc (za (za (zc (zc (za (za (zc (za zb)))))))))) E (zj E)<|by exact by refine zA 3 E (by decide +kernel) (za (zc (za (za (zc (zc (za (za (zc (za zb)))))))))) E (qu E hx) (qi (k:=4) 0 E (zC hx)) ?_;exact a_takeP 4 E (by decide +kernel) (za (zc (za (za (zc (zc (za (za (zc (za zb)))))))))) E (zj E)<|by exact a_takeP 5 E (by decide +kernel) (za (zc (za (za (zc (zc (za (za (zc (za zb)))))))))) E (zj E)<|by exact a_takeP 6 E (by decide +kernel) (za (zc (za (za (zc (zc (za (za (zc (za zb)))))))))) E (zj E)<|by exact a_takeP 7 E (by decide +kernel) (za (zc (za (za (zc (zc (za (za (zc (za zb)))))))))) E (zj E)<|by exact an2 H36 fun c_11 c_12 H37=>a_takeP 8 E (by decide +kernel) (za (zc (za (za (zc (zc (za (za (zc (za zb)))))))))) E (qG E E c_11 c_12 E)<|by exact gx H37 fun t_14 ht_14 H38=>by refine zA 9 E (by decide +kernel) (za (zc (za (za (zc (zc (za (za (zc (za zb)))))))))) E (qu E (zH ht_14)) (wm ht_14) ?_;exact by refine zA 10 E (by decide +kernel) (za (zc (za (za (zc (zc (za (za (zc (za zb)))))))))) E (qu E ht_12) (qi (k:=4) 1 E (zC ht_12)) ?_;exact zJ 11 (by decide +kernel) E<|by exact qW E E H38 fun t_15 Sx_10 H39=>by have H40:=vY H39;rcases H40 with ⟨rfl,H41⟩ | ⟨rfl,H41⟩;exact (zu<|zS zF<|a_takeP 12 E (by decide +kernel) (za (zc (za (za (zc (zc (za (za (zc (za zb)))))))))) E (yB (qt E) E)<|by exact a_takeP 13 E (by decide +kernel) (za (zc (za (za (zc (zc (za (za (zc (za zb)))))))))) E (zq E E)<|by exact zE (by decide +kernel)<|by exact zk<|cfs E E<|zQ<|hJx_2 () _ _ _ _ [0] H41 E ⟨E,E,E,E,E,E,E,E,True.intro⟩ E);exact (zu<|zS zF<|a_takeP 12 E (by decide +kernel) (za (zc (za (za (zc (zc (za (za (zc (za zb)))))))))) E (yB (qt E) E)<|by exact a_takeP 13 E (by decide +kernel) (za (zc (za (za (zc (zc (za (za (zc (za zb)))))))))) E (zq E E)<|by exact zE (by decide +kernel)<|by exact zk<|c_t E E<|csr<|gv E E<|nx<|zm<|zh<|ze<|ze<|zh<|zh<|ze<|ze<|zh<|ze<|zl Tryz.results102 (zf E zi) ⟨_,E,H41⟩)) (fun Jx_3 hJx_3 H42=>zr<|mv E E<|iteK H42 (fun c_13 H43=>ceT E E E (c_13)<|mv E E<|s_p E (zD E E)<|gx H43 fun t_16 ht_16 H44=>s_v E (zB E) (zL 1 E ht_16)<|iteK H44 (fun c_14 H45=>ceT E E E (c_14)<|pk E E E<|mv E E<|s_p E (zD E E)<|gx H45 fun t_17 ht_17 H46=>s_v E (zB E) (zL 1 E ht_17)<|mv E E<|iteK H46 (fun c_15 H47=>ceT E E E (c_15)<|pk E E E<|mv E E<|s_p E (zD E E)<|gx H47 fun t_18 ht_18 H48=>s_v E (zB E) (zL 1 E ht_18)<|mv E E<|iteK H48 (fun c_16 H49=>ceT E E E (c_16)<|pk E E E<|gv E E<|zu<|hJx_3 true _ _ _ _ [0,0] H49 E ⟨E,E,E,E,E,E,E,E,E,E,E,E,True.intro⟩ E) fun c_16 H49=>ceF E E E (c_16)<|pk E E E<|gv E E<|zu<|hJx_3 false _ _ _ _ [0,0] H49 E ⟨E,E,E,E,E,E,E,E,E,E,E,E,True.intro⟩ E) fun c_15 H47=>ceF E E E (c_15)<|pk E E E<|mv E E<|sk4 E E E E<|pk E E E<|gv E E<|zu<|hJx_3 false _ _ _ _ [0,0] H47 E ⟨E,E,E,E,E,E,E,E,E,E,E,E,True.intro⟩ E) fun c_14 H45=>ceF E E E (c_14)<|pk E E E<|mv E E<|sk4 E E E E<|pk E E E<|mv E E<|sk4 E E E E<|pk E E E<|gv E E<|zu<|hJx_3 false _ _ _ _ [0,0] H45 E ⟨E,E,E,E,E,E,E,E,E,E,E,E,True.intro⟩ E) fun c_13 H43=>ceF E E E (c_13)<|mv E E<|sk2 E E<|zP E<|pk E E E<|mv E E<|sk4 E E E E<|pk E E E<|mv E E<|sk4 E E E E<|pk E E E<|gv E E<|zu<|hJx_3 false _ _ _ _ [0,0] H43 E ⟨E,E,E,E,E,E,E,E,E,E,E,E,True.intro⟩ E)) (by refine zN E fun b_6=>?_;exact zu<|zS (zy (zV ht_11) (zy (zV ht_10) (zy (zL 0 E ht_9) zF)))<|zJ 10 (by decide +kernel) E<|by exact yG E E H31 fun rv Sx_8 H50=>by obtain⟨t_12,t_13,rfl,ht_12,H51⟩:=H50;exact zu<|zS (zy (zL 0 E ht_9) zF)<|a_takeP 11 E (by decide +kernel) (za (zc (za (za (zc (zc (za (za (zc (za zb)))))))))) E (zj E)<|by exact a_takeP 12 E (by decide +kernel) (za (zc (za (za (zc (zc (za (za (zc (za zb)))))))))) E (zp E E)<|by exact a_takeP 13 E (by decide +kernel) (za (zc (za (za (zc (zc (za (za (zc (za zb)))))))))) E (zp E E)<|by exact zJ 15 (by decide +kernel) E<|by exact an H51 fun c_9 H52=>zz 1 E E E E E ht_12 E c_9<|zu<|zS zF<|a_takeP 16 E (by decide +kernel) (za (zc (za (za (zc (zc (za (za (zc (za zb)))))))))) E (zW E)<|by exact zE (by decide +kernel)<|by exact zk<|zo H52 (fun (J:Bool→Mem→Prop) (z:Bool) S=>J z S) (fun z=>⟨159,[(1,.pointer (some ⟨b,0,none⟩)),(7,.int .i64 t_2),(10,.slice (some ⟨b_5,o_3,none⟩) n_2 n_3),(11,.int .i64 t_7),(12,.int .i64 t_8),(13,.pointer (some ⟨b_6,0,none⟩)),(15,.bool z),(87,valL t_1),(88,.int .i64 t_2),(103,.slice (some ⟨b_3,o_1,none⟩) n n_1),(104,.int .i64 (n:Int)),(105,.int .i64 t_7)]⟩) (fun z=>[⟨b,201,x⟩,⟨b_6,91,t_12⟩]) (fun mine Sx_9 H53=>zx<|zY (by kernel_rfl)<|iteK H53 (fun c_10 H54=>a_takeP 0 E (by decide +kernel) (za (zc (za (za (zc (zc (za (za (zc (za zb)))))))))) E (fc E c_10)<|by exact a_takeP 1 E (by decide +kernel) (za (zc (za (za (zc (zc (za (za (zc (za zb)))))))))) E (yB (qt E) E)<|by exact a_takeP 2 E (by decide +kernel) (za (zc (za (za (zc (zc (za (za (zc (za zb)))))))))) E (zj E)<|by exact zd 3 E (by decide +kernel) (za (zc (za (za (zc (zc (za (za (zc (za zb)))))))))) E<|by exact zd 4 E (by decide +kernel) (za (zc (za (za (zc (zc (za (za (zc (za zb)))))))))) E<|by exact zd 5 E (by decide +kernel) (za (zc (za (za (zc (zc (za (za (zc (za zb)))))))))) E<|by exact zd 6 E (by decide +kernel) (za (zc (za (za (zc (zc (za (za (zc (za zb)))))))))) E<|by exact zd 7 E (by decide +kernel) (za (zc (za (za (zc (zc (za (za (zc (za zb)))))))))) E<|by exact zd 8 E (by decide +kernel) (za (zc (za (za (zc (zc (za (za (zc (za zb)))))))))) E<|by exact zd 9 E (by decide +kernel) (za (zc (za (za (zc (zc (za (za (zc (za zb)))))))))) E<|by exact zd 10 E (by decide +kernel) (za (zc (za (za (zc (zc (za (za (zc (za zb)))))))))) E<|by exact zd 11 E (by decide +kernel) (za (zc (za (za (zc (zc (za (za (zc (za zb)))))))))) E<|by exact zd 12 E (by decide +kernel) (za (zc (za (za (zc (zc (za (za (zc (za zb)))))))))) E<|by exact a_takeP 13 E (by decide +kernel) (za (zc (za (za (zc (zc (za (za (zc (za zb)))))))))) E (zq E E)<|by exact zE (by decide +kernel)<|by exact zk<|cfs E E<|zQ<|hJx_2 () _ _ _ _ [0] H54 E ⟨E,E,E,E,E,E,E,E,True.intro⟩ E) fun c_10 H54=>a_takeP 0 E (by decide +kernel) (za (zc (za (za (zc (zc (za (za (zc (za zb)))))))))) E (fc E (zcj c_10))<|by exact a_takeP 1 E (by decide +kernel) (za (zc (za (za (zc (zc (za (za (zc (za zb)))))))))) E (yB (qt E) E)<|by exact a_takeP 2 E (by decide +kernel) (za (zc (za (za (zc (zc (za (za (zc (za zb)))))))))) E (zj E)<|by exact by refine zA 3 E (by decide +kernel) (za (zc (za (za (zc (zc (za (za (zc (za zb)))))))))) E (qu E hx) (qi (k:=4) 0 E (zC hx)) ?_;exact a_takeP 4 E (by decide +kernel) (za (zc (za (za (zc (zc (za (za (zc (za zb)))))))))) E (zj E)<|by exact a_takeP 5 E (by decide +kernel) (za (zc (za (za (zc (zc (za (za (zc (za zb)))))))))) E (zj E)<|by exact a_takeP 6 E (by decide +kernel) (za (zc (za (za (zc (zc (za (za (zc (za zb)))))))))) E (zj E)<|by exact a_takeP 7 E (by decide +kernel) (za (zc (za (za (zc (zc (za (za (zc (za zb)))))))))) E (zj E)<|by exact an2 H54 fun c_11 c_12 H55=>a_takeP 8 E (by decide +kernel) (za (zc (za (za (zc (zc (za (za (zc (za zb)))))))))) E (qG E E c_11 c_12 E)<|by exact gx H55 fun t_14 ht_14 H56=>by refine zA 9 E (by decide +kernel) (za (zc (za (za (zc (zc (za (za (zc (za zb)))))))))) E (qu E (zH ht_14)) (wm ht_14) ?_;exact by refine zA 10 E (by decide +kernel) (za (zc (za (za (zc (zc (za (za (zc (za zb)))))))))) E (qu E ht_12) (qi (k:=4) 1 E (zC ht_12)) ?_;exact zJ 11 (by decide +kernel) E<|by exact qW E E H56 fun t_15 Sx_10 H57=>by have H58:=vY H57;rcases H58 with ⟨rfl,H59⟩ | ⟨rfl,H59⟩;exact (zu<|zS zF<|a_takeP 12 E (by decide +kernel) (za (zc (za (za (zc (zc (za (za (zc (za zb)))))))))) E (yB (qt E) E)<|by exact a_takeP 13 E (by decide +kernel) (za (zc (za (za (zc (zc (za (za (zc (za zb)))))))))) E (zq E E)<|by exact zE (by decide +kernel)<|by exact zk<|cfs E E<|zQ<|hJx_2 () _ _ _ _ [0] H59 E ⟨E,E,E,E,E,E,E,E,True.intro⟩ E);exact (zu<|zS zF<|a_takeP 12 E (by decide +kernel) (za (zc (za (za (zc (zc (za (za (zc (za zb)))))))))) E (yB (qt E) E)<|by exact a_takeP 13 E (by decide +kernel) (za (zc (za (za (zc (zc (za (za (zc (za zb)))))))))) E (zq E E)<|by exact zE (by decide +kernel)<|by exact zk<|c_t E E<|csr<|gv E E<|nx<|zm<|zh<|ze<|ze<|zh<|zh<|ze<|ze<|zh<|ze<|zl Tryz.results102 (zf E zi) ⟨_,E,H59⟩)) (fun Jx_3 hJx_3 H60=>zr<|mv E E<|iteK H60 (fun c_13 H61=>ceT E E E (c_13)<|mv E E<|s_p E (zD E E)<|gx H61 fun t_16 ht_16 H62=>s_v E (zB E) (zL 1 E ht_16)<|iteK H62 (fun c_14 H63=>ceT E E E (c_14)<|pk E E E<|mv E E<|s_p E (zD E E)<|gx H63 fun t_17 ht_17 H64=>s_v E (zB E) (zL 1 E ht_17)<|mv E E<|iteK H64 (fun c_15 H65=>ceT E E E (c_15)<|pk E E E<|mv E E<|s_p E (zD E E)<|gx H65 fun t_18 ht_18 H66=>s_v E (zB E) (zL 1 E ht_18)<|mv E E<|iteK H66 (fun c_16 H67=>ceT E E E (c_16)<|pk E E E<|gv E E<|zu<|hJx_3 true _ _ _ _ [0,0] H67 E ⟨E,E,E,E,E,E,E,E,E,E,E,E,True.intro⟩ E) fun c_16 H67=>ceF E E E (c_16)<|pk E E E<|gv E E<|zu<|hJx_3 false _ _ _ _ [0,0] H67 E ⟨E,E,E,E,E,E,E,E,E,E,E,E,True.intro⟩ E) fun c_15 H65=>ceF E E E (c_15)<|pk E E E<|mv E E<|sk4 E E E E<|pk E E E<|gv E E<|zu<|hJx_3 false _ _ _ _ [0,0] H65 E ⟨E,E,E,E,E,E,E,E,E,E,E,E,True.intro⟩ E) fun c_14 H63=>ceF E E E (c_14)<|pk E E E<|mv E E<|sk4 E E E E<|pk E E E<|mv E E<|sk4 E E E E<|pk E E E<|gv E E<|zu<|hJx_3 false _ _ _ _ [0,0] H63 E ⟨E,E,E,E,E,E,E,E,E,E,E,E,True.intro⟩ E) fun c_13 H61=>ceF E E E (c_13)<|mv E E<|sk2 E E<|zP E<|pk E E E<|mv E E<|sk4 E E E E<|pk E E E<|mv E E<|sk4 E E E E<|pk E E E<|gv E E<|zu<|hJx_3 false _ _ _ _ [0,0] H61 E ⟨E,E,E,E,E,E,E,E,E,E,E,E,True.intro⟩ E)))) fun c_4 H20=>s_p E (yF (zw E E) c_4)<|nx<|zx<|c_f E E<|zT<|zg<|zg<|zv<|zQ<|hJx_1 () _ _ _ _ [0] H20 E ⟨E,E,E,True.intro⟩ E) (fun Jx_4 hJx_4 H68=>csr<|s_p E (zD E E)<|gx H68 fun t_19 ht_19 H69=>by have H70:=vY H69;rcases H70 with ⟨rfl,H71⟩ | ⟨rfl,H71⟩;exact (s_v E (zB E) (zL 1 E ht_19)<|s_p E (yB (qt E) E)<|nx<|cfs E E<|hJx_4 () _ _ _ _ [0,0] H71 E ⟨E,E,E,E,E,True.intro⟩ E);exact (s_v E (zB E) (zL 1 E ht_19)<|s_p E (yB (qt E) E)<|nx<|c_t E E<|zT<|zg<|zv<|hJx_1 () _ _ _ _ [0] H71 E ⟨E,E,E,True.intro⟩ E)))) fun c H9=>s_p E (yF (zw E E) c)<|nx<|zx<|c_f E E<|zT<|zg<|zg<|zv<|hJx () _ _ _ _ [] H9 E True.intro E)) (fun Jx_5 hJx_5 H72=>csr<|s_p E (zD E E)<|gx H72 fun t_20 ht_20 H73=>s_v E (zB E) (zL 0 E ht_20)<|by obtain⟨b_7,o_4,rfl,H74⟩:=H73;exact s_p E (qb E)<|s_p E (zD E E)<|gx H74 fun t_21 ht_21 H75=>s_v E (zB E) (zV ht_21)<|by obtain⟨b_8,o_5,rfl,H76⟩:=H75;exact s_p E (qb E)<|s_p E (zD E E)<|gx H76 fun t_22 ht_22 H77=>s_v E (zB E) (zV ht_22)<|s_p E (qy E)<|mv E E<|nx<|zs<|qh (fun z=>⟨159,[(1,.pointer (some ⟨b,0,none⟩)),(23,eL t_22),(24,.int .i64 (t_22.n:Int)),(25,.int .i64 z)]⟩) (fun z=>[⟨b,201,x⟩]) 0 (idx:=[0]) H77 E ⟨E,E,E,E,True.intro⟩ E<|fun Xx_2 hXx_2 t_23 Sx_11 H78=>csr<|iteK H78 (fun c_17 H79=>s_p E (yT (zw E E) c_17)<|nx<|zx<|c_t E E<|qg<|zk<|zo H79 (fun (J:Mem→Prop) (z:Unit) S=>J S) (fun z=>⟨159,[(1,.pointer (some ⟨b,0,none⟩)),(23,eL t_22),(24,.int .i64 (t_22.n:Int)),(25,.int .i64 t_23)]⟩) (fun z=>[⟨b,201,x⟩]) (fun _ Sx_12 H80=>zr<|s_p E (zU E E)<|mv E E<|zu<|hXx_2 (IntKind.i64.wrap (t_23+1)) _ _ _ _ [0] H80 E ⟨E,E,E,E,True.intro⟩ E) (fun Jx_6 hJx_6 H81=>zs<|csr<|mv E E<|by obtain⟨b_9,o_6,n_4,n_5,rfl,H82⟩:=H81;exact an2 H82 fun c_18 c_19 H83=>s_p E (qG E E c_18 c_19 E)<|gx H83 fun t_24 ht_24 H84=>by refine s_v E (qu E (zH ht_24)) (wm ht_24) ?_;exact by refine zN E fun b_10=>?_;exact gv E E<|an H84 fun c_20 H85=>zz 1 E E E E E (zH ht_24) E c_20<|nx<|zo H85 (fun (J:Mem→Prop) (z:Unit) S=>J S) (fun z=>⟨159,[(1,.pointer (some ⟨b,0,none⟩)),(3,.int .i64 t_23),(4,.pointer (some ⟨b_10,0,none⟩)),(23,.slice (some ⟨b_9,o_6,none⟩) n_4 n_5),(24,.int .i64 (n_4:Int)),(25,.int .i64 t_23)]⟩) (fun z=>[⟨b,201,x⟩,⟨b_10,91,t_24⟩]) (fun _ Sx_13 H86=>zo H86 (fun (J:Mem→Prop) (z:Unit) S=>J S) (fun z=>⟨159,[(1,.pointer (some ⟨b,0,none⟩)),(3,.int .i64 t_23),(4,.pointer (some ⟨b_10,0,none⟩)),(23,.slice (some ⟨b_9,o_6,none⟩) n_4 n_5),(24,.int .i64 (n_4:Int)),(25,.int .i64 t_23)]⟩) (fun z=>[⟨b,201,x⟩,⟨b_10,91,t_24⟩]) (fun _ Sx_14 H87=>zx<|zY (by kernel_rfl)<|a_takeP 0 E (by decide +kernel) (za (zc (za (za (zc (za zb)))))) E (zD E E)<|by exact gx H87 fun t_25 ht_25 H88=>zA 1 E (by decide +kernel) (za (zc (za (za (zc (za zb)))))) E (zB E) (zL 0 E ht_25)<|by exact a_takeP 2 E (by decide +kernel) (za (zc (za (za (zc (za zb)))))) E (zD E E)<|by exact gx H88 fun t_26 ht_26 H89=>zA 3 E (by decide +kernel) (za (zc (za (za (zc (za zb)))))) E (zB E) (zL 1 E ht_26)<|by exact by obtain⟨b_11,o_7,rfl,H90⟩:=H89;exact a_takeP 4 E (by decide +kernel) (za (zc (za (za (zc (za zb)))))) E (qb E)<|by exact a_takeP 5 E (by decide +kernel) (za (zc (za (za (zc (za zb)))))) E (zD E E)<|by exact an2 H90 fun c_21 c_22 H91=>a_takeP 6 E (by decide +kernel) (za (zc (za (za (zc (za zb)))))) E (fd E E c_21 c_22 E)<|by exact a_takeP 7 E (by decide +kernel) (za (zc (za (za (zc (za zb)))))) E (zD E E)<|by exact gx H91 fun t_27 ht_27 H92=>by refine zA 8 E (by decide +kernel) (za (zc (za (za (zc (za zb)))))) E (qu E (zH ht_27)) (wm ht_27) ?_;exact a_takeP 9 E (by decide +kernel) (za (zc (za (za (zc (za zb)))))) E (zD E E)<|by exact gx H92 fun t_28 ht_28 H93=>zA 10 E (by decide +kernel) (za (zc (za (za (zc (za zb)))))) E (zB E) (zL 0 E ht_28)<|by exact a_takeP 11 E (by decide +kernel) (za (zc (za (za (zc (za zb)))))) E (zD E E)<|by exact gx H93 fun t_29 ht_29 H94=>zA 12 E (by decide +kernel) (za (zc (za (za (zc (za zb)))))) E (zB E) (zL 1 E ht_29)<|by exact gi 13 17 (by decide +kernel) E E (yG E E H94 fun rv Sx_15 H95=>by obtain⟨t_30,t_31,rfl,ht_30,H96⟩:=H95;exact zu<|zS (zy (zL 1 E ht_26) (zy (zL 0 E ht_25) zF))<|a_takeP 14 E (by decide +kernel) (za (zc (za (za (zc (za zb)))))) E (zj E)<|by exact a_takeP 15 E (by decide +kernel) (za (zc (za (za (zc (za zb)))))) E (zp E E)<|by exact a_takeP 16 E (by decide +kernel) (za (zc (za (za (zc (za zb)))))) E (zp E E)<|by exact zJ 17 (by decide +kernel) E<|by exact by refine zN E fun b_12=>?_;exact zu<|zS (zy (zL 1 E ht_26) (zy (zL 0 E ht_25) zF))<|zJ 18 (by decide +kernel) E<|by exact an H96 fun c_23 H97=>zz 2 E E E E E ht_30 E c_23<|zu<|zS zF<|a_takeP 19 E (by decide +kernel) (za (zc (za (za (zc (za zb)))))) E (zW E)<|by exact zE (by decide +kernel)<|by exact zk<|zx<|zY (by kernel_rfl)<|a_takeP 0 E (by decide +kernel) (za (zc (za (za (zc (za zb)))))) E (zj E)<|by exact iteK H97 (fun c_24 H98=>a_takeP 1 E (by decide +kernel) (za (zc (za (za (zc (za zb)))))) E (yT (zI E E) c_24)<|by exact a_takeP 2 E (by decide +kernel) (za (zc (za (za (zc (za zb)))))) E (zj E)<|by exact zd 3 E (by decide +kernel) (za (zc (za (za (zc (za zb)))))) E<|by exact zd 4 E (by decide +kernel) (za (zc (za (za (zc (za zb)))))) E<|by exact zd 5 E (by decide +kernel) (za (zc (za (za (zc (za zb)))))) E<|by exact zd 6 E (by decide +kernel) (za (zc (za (za (zc (za zb)))))) E<|by exact a_takeP 7 E (by decide +kernel) (za (zc (za (za (zc (za zb)))))) E (zq E E)<|by exact a_takeP 8 E (by decide +kernel) (za (zc (za (za (zc (za zb)))))) E (zj E)<|by exact zd 9 E (by decide +kernel) (za (zc (za (za (zc (za zb)))))) E<|by exact zd 10 E (by decide +kernel) (za (zc (za (za (zc (za zb)))))) E<|by exact zd 11 E (by decide +kernel) (za (zc (za (za (zc (za zb)))))) E<|by exact a_takeP 12 E (by decide +kernel) (za (zc (za (za (zc (za zb)))))) E (zq E E)<|by exact a_takeP 13 E (by decide +kernel) (za (zc (za (za (zc (za zb)))))) E (zj E)<|by exact zd 14 E (by decide +kernel) (za (zc (za (za (zc (za zb)))))) E<|by exact zd 15 E (by decide +kernel) (za (zc (za (za (zc (za zb)))))) E<|by exact zd 16 E (by decide +kernel) (za (zc (za (za (zc (za zb)))))) E<|by exact zd 17 E (by decide +kernel) (za (zc (za (za (zc (za zb)))))) E<|by exact zd 18 E (by decide +kernel) (za (zc (za (za (zc (za zb)))))) E<|by exact zd 19 E (by decide +kernel) (za (zc (za (za (zc (za zb)))))) E<|by exact zd 20 E (by decide +kernel) (za (zc (za (za (zc (za zb)))))) E<|by exact zd 21 E (by decide +kernel) (za (zc (za (za (zc (za zb)))))) E<|by exact zd 22 E (by decide +kernel) (za (zc (za (za (zc (za zb)))))) E<|by exact zd 23 E (by decide +kernel) (za (zc (za (za (zc (za zb)))))) E<|by exact zd 24 E (by decide +kernel) (za (zc (za (za (zc (za zb)))))) E<|by exact a_takeP 25 E (by decide +kernel) (za (zc (za (za (zc (za zb)))))) E (zq E E)<|by exact zE (by decide +kernel)<|by exact zk<|c_t E E<|csr<|gv E E<|nx<|zm<|zh<|ze<|ze<|zh<|ze<|zl Tryz.results102 (zf E zi) ⟨_,E,H98⟩) fun c_24 H98=>a_takeP 1 E (by decide +kernel) (za (zc (za (za (zc (za zb)))))) E (yF (zI E E) c_24)<|by exact a_takeP 2 E (by decide +kernel) (za (zc (za (za (zc (za zb)))))) E (zj E)<|by exact a_takeP 3 E (by decide +kernel) (za (zc (za (za (zc (za zb)))))) E (zD E E)<|by exact gx H98 fun t_32 ht_32 H99=>zA 4 E (by decide +kernel) (za (zc (za (za (zc (za zb)))))) E (zB E) (zL 2 E ht_32)<|by exact a_takeP 5 E (by decide +kernel) (za (zc (za (za (zc (za zb)))))) E (zj E)<|by exact iteK H99 (fun c_25 H100=>a_takeP 6 E (by decide +kernel) (za (zc (za (za (zc (za zb)))))) E (yT (zI E E) c_25)<|by exact a_takeP 7 E (by decide +kernel) (za (zc (za (za (zc (za zb)))))) E (zq E E)<|by exact a_takeP 8 E (by decide +kernel) (za (zc (za (za (zc (za zb)))))) E (zj E)<|by exact zd 9 E (by decide +kernel) (za (zc (za (za (zc (za zb)))))) E<|by exact zd 10 E (by decide +kernel) (za (zc (za (za (zc (za zb)))))) E<|by exact zd 11 E (by decide +kernel) (za (zc (za (za (zc (za zb)))))) E<|by exact a_takeP 12 E (by decide +kernel) (za (zc (za (za (zc (za zb)))))) E (zq E E)<|by exact a_takeP 13 E (by decide +kernel) (za (zc (za (za (zc (za zb)))))) E (zj E)<|by exact zd 14 E (by decide +kernel) (za (zc (za (za (zc (za zb)))))) E<|by exact zd 15 E (by decide +kernel) (za (zc (za (za (zc (za zb)))))) E<|by exact zd 16 E (by decide +kernel) (za (zc (za (za (zc (za zb)))))) E<|by exact zd 17 E (by decide +kernel) (za (zc (za (za (zc (za zb)))))) E<|by exact zd 18 E (by decide +kernel) (za (zc (za (za (zc (za zb)))))) E<|by exact zd 19 E (by decide +kernel) (za (zc (za (za (zc (za zb)))))) E<|by exact zd 20 E (by decide +kernel) (za (zc (za (za (zc (za zb)))))) E<|by exact zd 21 E (by decide +kernel) (za (zc (za (za (zc (za zb)))))) E<|by exact zd 22 E (by decide +kernel) (za (zc (za (za (zc (za zb)))))) E<|by exact zd 23 E (by decide +kernel) (za (zc (za (za (zc (za zb)))))) E<|by exact zd 24 E (by decide +kernel) (za (zc (za (za (zc (za zb)))))) E<|by exact a_takeP 25 E (by decide +kernel) (za (zc (za (za (zc (za zb)))))) E (zq E E)<|by exact zE (by decide +kernel)<|by exact zk<|c_t E E<|csr<|gv E E<|nx<|zm<|zh<|ze<|ze<|zh<|ze<|zl Tryz.results102 (zf E zi) ⟨_,E,H100⟩) fun c_25 H100=>a_takeP 6 E (by decide +kernel) (za (zc (za (za (zc (za zb)))))) E (yF (zI E E) c_25)<|by exact a_takeP 7 E (by decide +kernel) (za (zc (za (za (zc (za zb)))))) E (zq E E)<|by exact a_takeP 8 E (by decide +kernel) (za (zc (za (za (zc (za zb)))))) E (zj E)<|by exact a_takeP 9 E (by decide +kernel) (za (zc (za (za (zc (za zb)))))) E (zD E E)<|by exact gx H100 fun t_33 ht_33 H101=>by have H102:=vY H101;rcases H102 with ⟨rfl,H103⟩ | ⟨rfl,H103⟩;exact (zA 10 E (by decide +kernel) (za (zc (za (za (zc (za zb)))))) E (zB E) (zL 2 E ht_33)<|by exact a_takeP 11 E (by decide +kernel) (za (zc (za (za (zc (za zb)))))) E (yB (qt E) E)<|by exact a_takeP 12 E (by decide +kernel) (za (zc (za (za (zc (za zb)))))) E (zq E E)<|by exact a_takeP 13 E (by decide +kernel) (za (zc (za (za (zc (za zb)))))) E (zj E)<|by exact a_takeP 14 E (by decide +kernel) (za (zc (za (za (zc (za zb)))))) E (zD E E)<|by exact gx H103 fun t_34 ht_34 H104=>zA 15 E (by decide +kernel) (za (zc (za (za (zc (za zb)))))) E (zB E) (zL 0 E ht_34)<|by exact by obtain⟨b_13,o_8,rfl,H105⟩:=H104;exact a_takeP 16 E (by decide +kernel) (za (zc (za (za (zc (za zb)))))) E (qb E)<|by exact a_takeP 17 E (by decide +kernel) (za (zc (za (za (zc (za zb)))))) E (zD E E)<|by exact gx H105 fun t_35 ht_35 H106=>by refine zA 18 E (by decide +kernel) (za (zc (za (za (zc (za zb)))))) E (qu E (zH ht_35)) (wm ht_35) ?_;exact a_takeP 19 E (by decide +kernel) (za (zc (za (za (zc (za zb)))))) E (zD E E)<|by exact gx H106 fun t_36 ht_36 H107=>zA 20 E (by decide +kernel) (za (zc (za (za (zc (za zb)))))) E (zB E) (zL 1 E ht_36)<|by exact a_takeP 21 E (by decide +kernel) (za (zc (za (za (zc (za zb)))))) E (zD E E)<|by exact gx H107 fun t_37 ht_37 H108=>zA 22 E (by decide +kernel) (za (zc (za (za (zc (za zb)))))) E (zB E) (zL 1 E ht_37)<|by exact zJ 23 (by decide +kernel) E<|by exact qW E E H108 fun t_38 Sx_16 H109=>zu<|zS (zy (zL 0 E ht_34) (zy (zL 2 E ht_33) (zy (zL 2 E ht_32) zF)))<|iteK H109 (fun c_26 H110=>a_takeP 24 E (by decide +kernel) (za (zc (za (za (zc (za zb)))))) E (yT (qL E E) c_26)<|by exact a_takeP 25 E (by decide +kernel) (za (zc (za (za (zc (za zb)))))) E (zq E E)<|by exact zE (by decide +kernel)<|by exact zk<|c_t E E<|csr<|gv E E<|nx<|zm<|zh<|ze<|ze<|zh<|ze<|zl Tryz.results102 (zf E zi) ⟨_,E,H110⟩) fun c_26 H110=>a_takeP 24 E (by decide +kernel) (za (zc (za (za (zc (za zb)))))) E (yF (qL E E) c_26)<|by exact a_takeP 25 E (by decide +kernel) (za (zc (za (za (zc (za zb)))))) E (zq E E)<|by exact zE (by decide +kernel)<|by exact zk<|cfs E E<|zQ<|hJx_6 () _ _ _ _ [0] H110 E ⟨E,E,E,E,True.intro⟩ E);exact (zA 10 E (by decide +kernel) (za (zc (za (za (zc (za zb)))))) E (zB E) (zL 2 E ht_33)<|by exact a_takeP 11 E (by decide +kernel) (za (zc (za (za (zc (za zb)))))) E (yB (qt E) E)<|by exact a_takeP 12 E (by decide +kernel) (za (zc (za (za (zc (za zb)))))) E (zq E E)<|by exact a_takeP 13 E (by decide +kernel) (za (zc (za (za (zc (za zb)))))) E (zj E)<|by exact zd 14 E (by decide +kernel) (za (zc (za (za (zc (za zb)))))) E<|by exact zd 15 E (by decide +kernel) (za (zc (za (za (zc (za zb)))))) E<|by exact zd 16 E (by decide +kernel) (za (zc (za (za (zc (za zb)))))) E<|by exact zd 17 E (by decide +kernel) (za (zc (za (za (zc (za zb)))))) E<|by exact zd 18 E (by decide +kernel) (za (zc (za (za (zc (za zb)))))) E<|by exact zd 19 E (by decide +kernel) (za (zc (za (za (zc (za zb)))))) E<|by exact zd 20 E (by decide +kernel) (za (zc (za (za (zc (za zb)))))) E<|by exact zd 21 E (by decide +kernel) (za (zc (za (za (zc (za zb)))))) E<|by exact zd 22 E (by decide +kernel) (za (zc (za (za (zc (za zb)))))) E<|by exact zd 23 E (by decide +kernel) (za (zc (za (za (zc (za zb)))))) E<|by exact zd 24 E (by decide +kernel) (za (zc (za (za (zc (za zb)))))) E<|by exact a_takeP 25 E (by decide +kernel) (za (zc (za (za (zc (za zb)))))) E (zq E E)<|by exact zE (by decide +kernel)<|by exact zk<|c_t E E<|csr<|gv E E<|nx<|zm<|zh<|ze<|ze<|zh<|ze<|zl Tryz.results102 (zf E zi) ⟨_,E,H103⟩)) (by refine zN E fun b_12=>?_;exact zu<|zS (zy (zL 1 E ht_29) (zy (zL 0 E ht_28) (zy (wm ht_27) (zy (zL 1 E ht_26) (zy (zL 0 E ht_25) zF)))))<|zJ 13 (by decide +kernel) E<|by exact yG E E H94 fun rv Sx_15 H111=>by obtain⟨t_30,t_31,rfl,ht_30,H112⟩:=H111;exact zu<|zS (zy (zL 1 E ht_26) (zy (zL 0 E ht_25) zF))<|a_takeP 14 E (by decide +kernel) (za (zc (za (za (zc (za zb)))))) E (zj E)<|by exact a_takeP 15 E (by decide +kernel) (za (zc (za (za (zc (za zb)))))) E (zp E E)<|by exact a_takeP 16 E (by decide +kernel) (za (zc (za (za (zc (za zb)))))) E (zp E E)<|by exact zJ 18 (by decide +kernel) E<|by exact an H112 fun c_23 H113=>zz 2 E E E E E ht_30 E c_23<|zu<|zS zF<|a_takeP 19 E (by decide +kernel) (za (zc (za (za (zc (za zb)))))) E (zW E)<|by exact zE (by decide +kernel)<|by exact zk<|zx<|zY (by kernel_rfl)<|a_takeP 0 E (by decide +kernel) (za (zc (za (za (zc (za zb)))))) E (zj E)<|by exact iteK H113 (fun c_24 H114=>a_takeP 1 E (by decide +kernel) (za (zc (za (za (zc (za zb)))))) E (yT (zI E E) c_24)<|by exact a_takeP 2 E (by decide +kernel) (za (zc (za (za (zc (za zb)))))) E (zj E)<|by exact zd 3 E (by decide +kernel) (za (zc (za (za (zc (za zb)))))) E<|by exact zd 4 E (by decide +kernel) (za (zc (za (za (zc (za zb)))))) E<|by exact zd 5 E (by decide +kernel) (za (zc (za (za (zc (za zb)))))) E<|by exact zd 6 E (by decide +kernel) (za (zc (za (za (zc (za zb)))))) E<|by exact a_takeP 7 E (by decide +kernel) (za (zc (za (za (zc (za zb)))))) E (zq E E)<|by exact a_takeP 8 E (by decide +kernel) (za (zc (za (za (zc (za zb)))))) E (zj E)<|by exact zd 9 E (by decide +kernel) (za (zc (za (za (zc (za zb)))))) E<|by exact zd 10 E (by decide +kernel) (za (zc (za (za (zc (za zb)))))) E<|by exact zd 11 E (by decide +kernel) (za (zc (za (za (zc (za zb)))))) E<|by exact a_takeP 12 E (by decide +kernel) (za (zc (za (za (zc (za zb)))))) E (zq E E)<|by exact a_takeP 13 E (by decide +kernel) (za (zc (za (za (zc (za zb)))))) E (zj E)<|by exact zd 14 E (by decide +kernel) (za (zc (za (za (zc (za zb)))))) E<|by exact zd 15 E (by decide +kernel) (za (zc (za (za (zc (za zb)))))) E<|by exact zd 16 E (by decide +kernel) (za (zc (za (za (zc (za zb)))))) E<|by exact zd 17 E (by decide +kernel) (za (zc (za (za (zc (za zb)))))) E<|by exact zd 18 E (by decide +kernel) (za (zc (za (za (zc (za zb)))))) E<|by exact zd 19 E (by decide +kernel) (za (zc (za (za (zc (za zb)))))) E<|by exact zd 20 E (by decide +kernel) (za (zc (za (za (zc (za zb)))))) E<|by exact zd 21 E (by decide +kernel) (za (zc (za (za (zc (za zb)))))) E<|by exact zd 22 E (by decide +kernel) (za (zc (za (za (zc (za zb)))))) E<|by exact zd 23 E (by decide +kernel) (za (zc (za (za (zc (za zb)))))) E<|by exact zd 24 E (by decide +kernel) (za (zc (za (za (zc (za zb)))))) E<|by exact a_takeP 25 E (by decide +kernel) (za (zc (za (za (zc (za zb)))))) E (zq E E)<|by exact zE (by decide +kernel)<|by exact zk<|c_t E E<|csr<|gv E E<|nx<|zm<|zh<|ze<|ze<|zh<|ze<|zl Tryz.results102 (zf E zi) ⟨_,E,H114⟩) fun c_24 H114=>a_takeP 1 E (by decide +kernel) (za (zc (za (za (zc (za zb)))))) E (yF (zI E E) c_24)<|by exact a_takeP 2 E (by decide +kernel) (za (zc (za (za (zc (za zb)))))) E (zj E)<|by exact a_takeP 3 E (by decide +kernel) (za (zc (za (za (zc (za zb)))))) E (zD E E)<|by exact gx H114 fun t_32 ht_32 H115=>zA 4 E (by decide +kernel) (za (zc (za (za (zc (za zb)))))) E (zB E) (zL 2 E ht_32)<|by exact a_takeP 5 E (by decide +kernel) (za (zc (za (za (zc (za zb)))))) E (zj E)<|by exact iteK H115 (fun c_25 H116=>a_takeP 6 E (by decide +kernel) (za (zc (za (za (zc (za zb)))))) E (yT (zI E E) c_25)<|by exact a_takeP 7 E (by decide +kernel) (za (zc (za (za (zc (za zb)))))) E (zq E E)<|by exact a_takeP 8 E (by decide +kernel) (za (zc (za (za (zc (za zb)))))) E (zj E)<|by exact zd 9 E (by decide +kernel) (za (zc (za (za (zc (za zb)))))) E<|by exact zd 10 E (by decide +kernel) (za (zc (za (za (zc (za zb)))))) E<|by exact zd 11 E (by decide +kernel) (za (zc (za (za (zc (za zb)))))) E<|by exact a_takeP 12 E (by decide +kernel) (za (zc (za (za (zc (za zb)))))) E (zq E E)<|by exact a_takeP 13 E (by decide +kernel) (za (zc (za (za (zc (za zb)))))) E (zj E)<|by exact zd 14 E (by decide +kernel) (za (zc (za (za (zc (za zb)))))) E<|by exact zd 15 E (by decide +kernel) (za (zc (za (za (zc (za zb)))))) E<|by exact zd 16 E (by decide +kernel) (za (zc (za (za (zc (za zb)))))) E<|by exact zd 17 E (by decide +kernel) (za (zc (za (za (zc (za zb)))))) E<|by exact zd 18 E (by decide +kernel) (za (zc (za (za (zc (za zb)))))) E<|by exact zd 19 E (by decide +kernel) (za (zc (za (za (zc (za zb)))))) E<|by exact zd 20 E (by decide +kernel) (za (zc (za (za (zc (za zb)))))) E<|by exact zd 21 E (by decide +kernel) (za (zc (za (za (zc (za zb)))))) E<|by exact zd 22 E (by decide +kernel) (za (zc (za (za (zc (za zb)))))) E<|by exact zd 23 E (by decide +kernel) (za (zc (za (za (zc (za zb)))))) E<|by exact zd 24 E (by decide +kernel) (za (zc (za (za (zc (za zb)))))) E<|by exact a_takeP 25 E (by decide +kernel) (za (zc (za (za (zc (za zb)))))) E (zq E E)<|by exact zE (by decide +kernel)<|by exact zk<|c_t E E<|csr<|gv E E<|nx<|zm<|zh<|ze<|ze<|zh<|ze<|zl Tryz.results102 (zf E zi) ⟨_,E,H116⟩) fun c_25 H116=>a_takeP 6 E (by decide +kernel) (za (zc (za (za (zc (za zb)))))) E (yF (zI E E) c_25)<|by exact a_takeP 7 E (by decide +kernel) (za (zc (za (za (zc (za zb)))))) E (zq E E)<|by exact a_takeP 8 E (by decide +kernel) (za (zc (za (za (zc (za zb)))))) E (zj E)<|by exact a_takeP 9 E (by decide +kernel) (za (zc (za (za (zc (za zb)))))) E (zD E E)<|by exact gx H116 fun t_33 ht_33 H117=>by have H118:=vY H117;rcases H118 with ⟨rfl,H119⟩ | ⟨rfl,H119⟩;exact (zA 10 E (by decide +kernel) (za (zc (za (za (zc (za zb)))))) E (zB E) (zL 2 E ht_33)<|by exact a_takeP 11 E (by decide +kernel) (za (zc (za (za (zc (za zb)))))) E (yB (qt E) E)<|by exact a_takeP 12 E (by decide +kernel) (za (zc (za (za (zc (za zb)))))) E (zq E E)<|by exact a_takeP 13 E (by decide +kernel) (za (zc (za (za (zc (za zb)))))) E (zj E)<|by exact a_takeP 14 E (by decide +kernel) (za (zc (za (za (zc (za zb)))))) E (zD E E)<|by exact gx H119 fun t_34 ht_34 H120=>zA 15 E (by decide +kernel) (za (zc (za (za (zc (za zb)))))) E (zB E) (zL 0 E ht_34)<|by exact by obtain⟨b_13,o_8,rfl,H121⟩:=H120;exact a_takeP 16 E (by decide +kernel) (za (zc (za (za (zc (za zb)))))) E (qb E)<|by exact a_takeP 17 E (by decide +kernel) (za (zc (za (za (zc (za zb)))))) E (zD E E)<|by exact gx H121 fun t_35 ht_35 H122=>by refine zA 18 E (by decide +kernel) (za (zc (za (za (zc (za zb)))))) E (qu E (zH ht_35)) (wm ht_35) ?_;exact a_takeP 19 E (by decide +kernel) (za (zc (za (za (zc (za zb)))))) E (zD E E)<|by exact gx H122 fun t_36 ht_36 H123=>zA 20 E (by decide +kernel) (za (zc (za (za (zc (za zb)))))) E (zB E) (zL 1 E ht_36)<|by exact a_takeP 21 E (by decide +kernel) (za (zc (za (za (zc (za zb)))))) E (zD E E)<|by exact gx H123 fun t_37 ht_37 H124=>zA 22 E (by decide +kernel) (za (zc (za (za (zc (za zb)))))) E (zB E) (zL 1 E ht_37)<|by exact zJ 23 (by decide +kernel) E<|by exact qW E E H124 fun t_38 Sx_16 H125=>zu<|zS (zy (zL 0 E ht_34) (zy (zL 2 E ht_33) (zy (zL 2 E ht_32) zF)))<|iteK H125 (fun c_26 H126=>a_takeP 24 E (by decide +kernel) (za (zc (za (za (zc (za zb)))))) E (yT (qL E E) c_26)<|by exact a_takeP 25 E (by decide +kernel) (za (zc (za (za (zc (za zb)))))) E (zq E E)<|by exact zE (by decide +kernel)<|by exact zk<|c_t E E<|csr<|gv E E<|nx<|zm<|zh<|ze<|ze<|zh<|ze<|zl Tryz.results102 (zf E zi) ⟨_,E,H126⟩) fun c_26 H126=>a_takeP 24 E (by decide +kernel) (za (zc (za (za (zc (za zb)))))) E (yF (qL E E) c_26)<|by exact a_takeP 25 E (by decide +kernel) (za (zc (za (za (zc (za zb)))))) E (zq E E)<|by exact zE (by decide +kernel)<|by exact zk<|cfs E E<|zQ<|hJx_6 () _ _ _ _ [0] H126 E ⟨E,E,E,E,True.intro⟩ E);exact (zA 10 E (by decide +kernel) (za (zc (za (za (zc (za zb)))))) E (zB E) (zL 2 E ht_33)<|by exact a_takeP 11 E (by decide +kernel) (za (zc (za (za (zc (za zb)))))) E (yB (qt E) E)<|by exact a_takeP 12 E (by decide +kernel) (za (zc (za (za (zc (za zb)))))) E (zq E E)<|by exact a_takeP 13 E (by decide +kernel) (za (zc (za (za (zc (za zb)))))) E (zj E)<|by exact zd 14 E (by decide +kernel) (za (zc (za (za (zc (za zb)))))) E<|by exact zd 15 E (by decide +kernel) (za (zc (za (za (zc (za zb)))))) E<|by exact zd 16 E (by decide +kernel) (za (zc (za (za (zc (za zb)))))) E<|by exact zd 17 E (by decide +kernel) (za (zc (za (za (zc (za zb)))))) E<|by exact zd 18 E (by decide +kernel) (za (zc (za (za (zc (za zb)))))) E<|by exact zd 19 E (by decide +kernel) (za (zc (za (za (zc (za zb)))))) E<|by exact zd 20 E (by decide +kernel) (za (zc (za (za (zc (za zb)))))) E<|by exact zd 21 E (by decide +kernel) (za (zc (za (za (zc (za zb)))))) E<|by exact zd 22 E (by decide +kernel) (za (zc (za (za (zc (za zb)))))) E<|by exact zd 23 E (by decide +kernel) (za (zc (za (za (zc (za zb)))))) E<|by exact zd 24 E (by decide +kernel) (za (zc (za (za (zc (za zb)))))) E<|by exact a_takeP 25 E (by decide +kernel) (za (zc (za (za (zc (za zb)))))) E (zq E E)<|by exact zE (by decide +kernel)<|by exact zk<|c_t E E<|csr<|gv E E<|nx<|zm<|zh<|ze<|ze<|zh<|ze<|zl Tryz.results102 (zf E zi) ⟨_,E,H119⟩))) (fun Jx_7 hJx_7 H127=>csr<|s_p E (zD E E)<|gx H127 fun t_39 ht_39 H128=>s_v E (zB E) (zL 0 E ht_39)<|s_p E (zD E E)<|gx H128 fun t_40 ht_40 H129=>s_v E (zB E) (zL 1 E ht_40)<|qW E E H129 fun t_41 Sx_17 H130=>by have H131:=vY H130;rcases H131 with ⟨rfl,H132⟩ | ⟨rfl,H132⟩;exact (s_p E (yB (qt E) E)<|nx<|cfs E E<|hJx_7 () _ _ _ _ [0,0] H132 E ⟨E,E,E,E,E,E,True.intro⟩ E);exact (s_p E (yB (qt E) E)<|nx<|c_t E E<|csr<|gv E E<|nx<|zm<|ze<|zh<|ze<|ze<|zh<|ze<|zl Tryz.results102 (zf E zi) ⟨_,E,H132⟩))) (fun Jx_8 hJx_8 H133=>csr<|s_p E (zD E E)<|gx H133 fun t_42 ht_42 H134=>s_v E (zB E) (zL 1 E ht_42)<|iteK H134 (fun c_27 H135=>s_p E (yT (zI E E) c_27)<|nx<|c_t E E<|zT<|zg<|zv<|hJx_6 () _ _ _ _ [0] H135 E ⟨E,E,E,E,True.intro⟩ E) fun c_27 H135=>s_p E (yF (zI E E) c_27)<|nx<|cfs E E<|hJx_8 () _ _ _ _ [0,0] H135 E ⟨E,E,E,E,E,E,True.intro⟩ E))) fun c_17 H79=>s_p E (yF (zw E E) c_17)<|nx<|zx<|c_f E E<|zT<|zg<|zg<|zv<|hJx_5 () _ _ _ _ [0] H79 E ⟨E,True.intro⟩ E)
def yh (S:Mem) (x:List Value) (Q:Int→Mem→Prop):Prop:=
 x.length=4 ∧
 jn (fun (Sx:Mem)=>
 Q 0 Sx) fun Jx=>
 gP (nthL x 3) fun t=>
 nn t fun b_1 o=>
 gA (S.part b_1 (o+2) 72) fun t_1=>
 lp (fun Xx (t_2:Int) (Sx_1:Mem)=>
 if t_2<6 then
 0≤t_2∧t_2<6 ∧
 gA (lpart t_1 (t_2.toNat*12) 12) fun t_3=>
 t_3.all (·.oneCell')=true ∧
 gP (nthL x 3) fun t_4=>
 nn t_4 fun b_3 o_1=>
 gP (Sx_1.cell b_3 (o_1+74)) fun t_5=>
 gI (nthL t_3 4) .i64 fun t_6=>
 qP Sx_1 t_5 3 t_2 fun t_7 Sx_2=>
 if t_6<t_7 then
 Q 9 Sx_2
 else
 Xx (IntKind.i64.wrap (t_2+1)) Sx_2
 else
 Jx Sx_1) 0 S
theorem vu {S:Mem} {x:List Value} {Q:Int→Mem→Prop} (H:yh S x Q):yI S x Q:=by
 unfold yh at H
 exact Tr.intro Tryz.func103 E Tryz.ntmps103 E fun w0=>an H fun hx H1=>csr<|xW E E E fun b=>gv E E<|nx<|zo H1 (fun (J:Mem→Prop) (z:Unit) S=>J S) (fun z=>⟨25,[]⟩) (fun z=>[]) (fun _ Sx H2=>csr<|gv E E<|nx<|zm<|zl Tryz.results103 (zf E zi) ⟨_,E,H2⟩) (fun Jx hJx H3=>csr<|s_p E (zD E E)<|gx H3 fun t ht H4=>s_v E (zB E) (zL 0 E ht)<|by obtain⟨b_1,o,rfl,H5⟩:=H4;exact s_p E (qb E)<|s_p E (zD E E)<|gx H5 fun t_1 ht_1 H6=>by refine s_v E (qu E (zH ht_1)) (wm ht_1) ?_;exact mv E E<|nx<|zs<|qh (fun z=>⟨25,[(1,.pointer (some ⟨b,0,none⟩)),(9,valL t_1),(10,.int .i64 z)]⟩) (fun z=>[⟨b,201,x⟩]) 0 (idx:=[0]) H6 E ⟨E,E,E,True.intro⟩ E<|fun Xx hXx t_2 Sx_1 H7=>csr<|iteK H7 (fun c H8=>s_p E (yT (zw E E) c)<|nx<|zx<|c_t E E<|qg<|zk<|zx<|zs<|csr<|mv E E<|an2 H8 fun c_1 c_2 H9=>gx H9 fun t_3 ht_3 H10=>s_p E (gD E E c_1 c_2 ht_3)<|by refine zN E fun b_2=>?_;exact gv E E<|an H10 fun c_3 H11=>zz 1 E E E E E ((qv ht_3).2.2) E c_3<|nx<|zx<|zY (by kernel_rfl)<|a_takeP 0 E (by decide +kernel) (za (zc (za (za (zc (za zb)))))) E (zD E E)<|by exact gx H11 fun t_4 ht_4 H12=>zA 1 E (by decide +kernel) (za (zc (za (za (zc (za zb)))))) E (zB E) (zL 0 E ht_4)<|by exact by obtain⟨b_3,o_1,rfl,H13⟩:=H12;exact a_takeP 2 E (by decide +kernel) (za (zc (za (za (zc (za zb)))))) E (qb E)<|by exact a_takeP 3 E (by decide +kernel) (za (zc (za (za (zc (za zb)))))) E (zD E E)<|by exact gx H13 fun t_5 ht_5 H14=>zA 4 E (by decide +kernel) (za (zc (za (za (zc (za zb)))))) E (zB E) (zV ht_5)<|by exact a_takeP 5 E (by decide +kernel) (za (zc (za (za (zc (za zb)))))) E (zj E)<|by exact a_takeP 7 E (by decide +kernel) (za (zc (za (za (zc (za zb)))))) E (zD E E)<|by exact gx H14 fun t_6 ht_6 H15=>zA 8 E (by decide +kernel) (za (zc (za (za (zc (za zb)))))) E (zB E) (zL 1 E ht_6)<|by exact zJ 6 (by decide +kernel) E<|by exact qW E E H15 fun t_7 Sx_2 H16=>zu<|zS (zy (zL 1 E ht_6) (zy (zL 0 E ht_4) zF))<|iteK H16 (fun c_4 H17=>a_takeP 9 E (by decide +kernel) (za (zc (za (za (zc (za zb)))))) E (yT (yu E E) c_4)<|by exact zE (by decide +kernel)<|by exact zk<|c_t E E<|csr<|gv E E<|nx<|zm<|zh<|ze<|ze<|zh<|ze<|zl Tryz.results103 (zf E zi) ⟨_,E,H17⟩) fun c_4 H17=>a_takeP 9 E (by decide +kernel) (za (zc (za (za (zc (za zb)))))) E (yF (yu E E) c_4)<|by exact zE (by decide +kernel)<|by exact zk<|cfs E E<|zQ<|zk<|zr<|s_p E (zU E E)<|mv E E<|zu<|hXx (IntKind.i64.wrap (t_2+1)) _ _ _ _ [0] H17 E ⟨E,E,E,True.intro⟩ E) fun c H8=>s_p E (yF (zw E E) c)<|nx<|zx<|c_f E E<|zT<|zg<|zg<|zv<|hJx () _ _ _ _ [] H8 E True.intro E)
def yi (S:Mem) (x:List Value) (Q:Int→Mem→Prop):Prop:=
 x.length=4 ∧
 jn (fun (Sx:Mem)=>
 jn (fun (n:Int) (Sx_1:Mem)=>
 if n≠0 then
 Q 10 Sx_1
 else
 Q 0 Sx_1) fun Jx=>
 gP (nthL x 3) fun t=>
 nn t fun b_2 o=>
 gP (Sx.cell b_2 (o+74)) fun t_1=>
 nn t_1 fun b_3 o_1=>
 gL (Sx.cell b_3 o_1) fun t_2=>
 lp (fun Xx (z:Int×Int) (Sx_2:Mem)=>
 match z with
 | (n_1,t_3)=>
 if t_3<(t_2.n:Int) then
 jn (fun (n_2:Int) (Sx_3:Mem)=>
 Xx (n_2,IntKind.i64.wrap (t_3+1)) Sx_3) fun Jx_1=>
 sl t_2 fun b_4 o_2 n_3 n_4=>
 0≤t_3∧t_3<((n_3:Nat):Int) ∧
 gA (Sx_2.part b_4 (o_2+t_3.toNat*4) 4) fun t_4=>
 t_4.all (·.oneCell')=true ∧
 jn (fun (Sx_4:Mem)=>
 gI (nthL t_4 0) .u8 fun t_5=>
 if t_5=3 then
 gI (nthL t_4 3) .i64 fun t_6=>
 if 0<t_6 then
 Jx_1 (IntKind.i64.wrap (n_1+1)) Sx_4
 else
 Jx_1 n_1 Sx_4
 else
 Jx_1 n_1 Sx_4) fun Jx_2=>
 gI (nthL t_4 0) .u8 fun t_7=>
 if t_7=3 then
 gI (nthL t_4 3) .i64 fun t_8=>
 gI (nthL t_4 1) .i64 fun t_9=>
 gI (nthL t_4 2) .i64 fun t_10=>
 if t_8≠0 then
 Q 10 Sx_2
 else
 Jx_2 Sx_2
 else
 Jx_2 Sx_2
 else
 Jx n_1 Sx_2) (0,0) Sx) fun Jx_3=>
 gP (nthL x 3) fun t_11=>
 nn t_11 fun b_6 o_3=>
 gA (S.part b_6 (o_3+75) 96) fun t_12=>
 lp (fun Xx_1 (t_13:Int) (Sx_5:Mem)=>
 if t_13<16 then
 jn (fun (Sx_6:Mem)=>
 Xx_1 (IntKind.i64.wrap (t_13+1)) Sx_6) fun Jx_4=>
 0≤t_13∧t_13<16 ∧
 gA (lpart t_12 (t_13.toNat*6) 6) fun t_14=>
 t_14.all (·.oneCell')=true ∧
 jn (fun (Sx_7:Mem)=>
 jn (fun (Sx_8:Mem)=>
 jn (fun (Sx_9:Mem)=>
 gI (nthL t_14 1) .i64 fun t_15=>
 gI (nthL t_14 2) .i64 fun t_16=>
 False) fun Jx_5=>
 gI (nthL t_14 5) .i64 fun t_17=>
 if 0≤t_17 then
 gP (nthL x 3) fun t_18=>
 gI (nthL t_14 3) .i64 fun t_19=>
 nn t_18 fun b_8 o_4=>
 0≤t_19∧t_19<6 ∧
 gA (Sx_8.part b_8 (o_4+2+t_19.toNat*12+2) 2) fun t_20=>
 gP (nthL x 0) fun t_21=>
 gI (nthL t_14 5) .i64 fun t_22=>
 qM Sx_8 t_20 t_21 t_22 fun t_23 t_24 Sx_10=>
 t_23.all (·.oneCell')=true ∧
 if t_24≠0 then
 Q 10 Sx_10
 else
 Jx_5 Sx_10
 else
 Jx_5 Sx_8) fun Jx_6=>
 gP (nthL x 3) fun t_25=>
 gI (nthL t_14 1) .i64 fun t_26=>
 qe Sx_7 t_25 t_26 fun t_27 Sx_11=>
 if t_27=true then
 gP (nthL x 3) fun t_28=>
 gI (nthL t_14 3) .i64 fun t_29=>
 qe Sx_11 t_28 t_29 fun t_30 Sx_12=>
 if t_30=true then
 gI (nthL t_14 1) .i64 fun t_31=>
 gI (nthL t_14 3) .i64 fun t_32=>
 if t_31=t_32 then
 Q 10 Sx_12
 else
 Jx_6 Sx_12
 else
 Q 10 Sx_12
 else
 Q 10 Sx_11) fun Jx_7=>
 gB (nthL t_14 0) fun t_33=>
 if t_33=true then
 Jx_7 Sx_5
 else
 Jx_4 Sx_5
 else
 Jx_3 Sx_5) 0 S
theorem vv {S:Mem} {x:List Value} {Q:Int→Mem→Prop} (H:yi S x Q):yJ S x Q:=by
 unfold yi at H
 exact Tr.intro Tryz.func104 E Tryz.ntmps104 E fun w0=>an H fun hx H1=>csr<|xW E E E fun b=>gv E E<|nxr<|zfF E fun b_1=>gv E E<|nx<|zo H1 (fun (J:Mem→Prop) (z:Unit) S=>J S) (fun z=>⟨120,[(1,.pointer (some ⟨b,0,none⟩)),(3,.map (some b_1))]⟩) (fun z=>[⟨b,201,x⟩,⟨b_1,itT,[]⟩]) (fun _ Sx H2=>csr<|gv E E<|nx<|zo H2 (fun (J:Int→Mem→Prop) (z:Int) S=>J z S) (fun z=>⟨120,[(3,.map (some b_1)),(8,.int .i64 z)]⟩) (fun z=>[⟨b_1,itT,[]⟩]) (fun n Sx_1 H3=>zx<|csr<|mv E E<|mv E E<|s_v E (zeR E) (zfL 0 E)<|iteK H3 (fun c H4=>s_p E (yT (zI E E) c)<|nx<|c_t E E<|csr<|gv E E<|nx<|zm<|ze<|zl Tryz.results104 (zf E zi) ⟨_,E,H4⟩) fun c H4=>s_p E (yF (zI E E) c)<|nx<|cfs E E<|zk<|csr<|gv E E<|nx<|zm<|zl Tryz.results104 (zf E zi) ⟨_,E,H4⟩) (fun Jx hJx H5=>csr<|s_p E (zD E E)<|gx H5 fun t ht H6=>s_v E (zB E) (zL 0 E ht)<|by obtain⟨b_2,o,rfl,H7⟩:=H6;exact s_p E (qb E)<|s_p E (zD E E)<|gx H7 fun t_1 ht_1 H8=>s_v E (zB E) (zV ht_1)<|by obtain⟨b_3,o_1,rfl,H9⟩:=H8;exact s_p E (qb E)<|s_p E (zD E E)<|gx H9 fun t_2 ht_2 H10=>s_v E (zB E) (zV ht_2)<|s_p E (qy E)<|mv E E<|nx<|zs<|qh (fun z=>⟨120,[(3,.map (some b_1)),(8,.int .i64 z.1),(84,eL t_2),(85,.int .i64 (t_2.n:Int)),(86,.int .i64 z.2)]⟩) (fun z=>[⟨b_1,itT,[]⟩]) (0,0) (idx:=[1]) H10 E ⟨E,E,E,E,E,True.intro⟩ E<|by rintro Xx hXx ⟨n_1,t_3⟩ Sx_2 H11;exact csr<|iteK H11 (fun c_1 H12=>s_p E (yT (zw E E) c_1)<|nx<|zx<|c_t E E<|qg<|zk<|zo H12 (fun (J:Int→Mem→Prop) (z:Int) S=>J z S) (fun z=>⟨120,[(3,.map (some b_1)),(8,.int .i64 z),(84,eL t_2),(85,.int .i64 (t_2.n:Int)),(86,.int .i64 t_3)]⟩) (fun z=>[⟨b_1,itT,[]⟩]) (fun n_2 Sx_3 H13=>zr<|s_p E (zU E E)<|mv E E<|zu<|hXx (n_2,IntKind.i64.wrap (t_3+1)) _ _ _ _ [0] H13 E ⟨E,E,E,E,E,True.intro⟩ E) (fun Jx_1 hJx_1 H14=>zs<|csr<|by obtain⟨b_4,o_2,n_3,n_4,rfl,H15⟩:=H14;exact an2 H15 fun c_2 c_3 H16=>s_p E (qG E E c_2 c_3 E)<|gx H16 fun t_4 ht_4 H17=>by refine s_v E (qu E (zH ht_4)) (wm ht_4) ?_;exact by refine zN E fun b_5=>?_;exact an H17 fun c_4 H18=>zz 1 E E E E E (zH ht_4) E c_4<|nx<|zo H18 (fun (J:Mem→Prop) (z:Unit) S=>J S) (fun z=>⟨120,[(3,.map (some b_1)),(8,.int .i64 n_1),(10,.pointer (some ⟨b_5,0,none⟩)),(84,.slice (some ⟨b_4,o_2,none⟩) n_3 n_4),(85,.int .i64 (n_3:Int)),(86,.int .i64 t_3)]⟩) (fun z=>[⟨b_1,itT,[]⟩,⟨b_5,91,t_4⟩]) (fun _ Sx_4 H19=>csr<|s_p E (zD E E)<|gx H19 fun t_5 ht_5 H20=>s_v E (zB E) (zL 1 E ht_5)<|iteK H20 (fun c_5 H21=>ceT E E E (c_5)<|mv E E<|s_p E (zD E E)<|gx H21 fun t_6 ht_6 H22=>s_v E (zB E) (zL 1 E ht_6)<|iteK H22 (fun c_6 H23=>s_p E (yT (yu E E) c_6)<|pk E E E<|nx<|ctr E E<|mv E E<|s_p E (zU E E)<|gv E E<|zu<|zQ<|hJx_1 (IntKind.i64.wrap (n_1+1)) _ _ _ _ [0] H23 E ⟨E,E,E,E,E,True.intro⟩ E) fun c_6 H23=>s_p E (yF (yu E E) c_6)<|pk E E E<|nx<|cfs E E<|zQ<|hJx_1 n_1 _ _ _ _ [0] H23 E ⟨E,E,E,E,E,True.intro⟩ E) fun c_5 H21=>ceF E E E (c_5)<|mv E E<|sk2 E E<|zP E<|pk E E E<|nx<|cfs E E<|zQ<|hJx_1 n_1 _ _ _ _ [0] H21 E ⟨E,E,E,E,E,True.intro⟩ E) (fun Jx_2 hJx_2 H24=>zx<|zY (by kernel_rfl)<|a_takeP 0 E (by decide +kernel) (za (za (zc (za (za (zc (za zb))))))) E (zD E E)<|by exact gx H24 fun t_7 ht_7 H25=>zA 1 E (by decide +kernel) (za (za (zc (za (za (zc (za zb))))))) E (zB E) (zL 1 E ht_7)<|by exact iteK H25 (fun c_7 H26=>a_takeP 2 E (by decide +kernel) (za (za (zc (za (za (zc (za zb))))))) E (yT (xV E E) c_7)<|by exact a_takeP 3 E (by decide +kernel) (za (za (zc (za (za (zc (za zb))))))) E (zj E)<|by exact a_takeP 4 E (by decide +kernel) (za (za (zc (za (za (zc (za zb))))))) E (zD E E)<|by exact gx H26 fun t_8 ht_8 H27=>zA 5 E (by decide +kernel) (za (za (zc (za (za (zc (za zb))))))) E (zB E) (zL 1 E ht_8)<|by exact a_takeP 6 E (by decide +kernel) (za (za (zc (za (za (zc (za zb))))))) E (zj E)<|by exact a_takeP 7 E (by decide +kernel) (za (za (zc (za (za (zc (za zb))))))) E (zD E E)<|by exact gx H27 fun t_9 ht_9 H28=>zA 8 E (by decide +kernel) (za (za (zc (za (za (zc (za zb))))))) E (zB E) (zL 1 E ht_9)<|by exact a_takeP 9 E (by decide +kernel) (za (za (zc (za (za (zc (za zb))))))) E (zD E E)<|by exact gx H28 fun t_10 ht_10 H29=>zA 10 E (by decide +kernel) (za (za (zc (za (za (zc (za zb))))))) E (zB E) (zL 1 E ht_10)<|by exact a_takeP 11 E (by decide +kernel) (za (za (zc (za (za (zc (za zb))))))) E (zM E E)<|by exact zA 12 E (by decide +kernel) (za (za (zc (za (za (zc (za zb))))))) E (zco (vs:=[.int .i64 t_9,.int .i64 t_10]) E E E) (zfL 0 E)<|by exact iteK H29 (fun c_8 H30=>a_takeP 13 E (by decide +kernel) (za (za (zc (za (za (zc (za zb))))))) E (yT (zI E E) c_8)<|by exact a_takeP 14 E (by decide +kernel) (za (za (zc (za (za (zc (za zb))))))) E (zq E E)<|by exact zE (by decide +kernel)<|by exact zk<|c_t E E<|csr<|gv E E<|nx<|zm<|ze<|zh<|ze<|ze<|zh<|ze<|zl Tryz.results104 (zf E zi) ⟨_,E,H30⟩) fun c_8 H30=>a_takeP 13 E (by decide +kernel) (za (za (zc (za (za (zc (za zb))))))) E (yF (zI E E) c_8)<|by exact a_takeP 14 E (by decide +kernel) (za (za (zc (za (za (zc (za zb))))))) E (zq E E)<|by exact zE (by decide +kernel)<|by exact zk<|cfs E E<|hJx_2 () _ _ _ _ [0,0] H30 E ⟨E,E,E,E,E,E,True.intro⟩ E) fun c_7 H26=>a_takeP 2 E (by decide +kernel) (za (za (zc (za (za (zc (za zb))))))) E (yF (xV E E) c_7)<|by exact a_takeP 3 E (by decide +kernel) (za (za (zc (za (za (zc (za zb))))))) E (zj E)<|by exact zd 4 E (by decide +kernel) (za (za (zc (za (za (zc (za zb))))))) E<|by exact zd 5 E (by decide +kernel) (za (za (zc (za (za (zc (za zb))))))) E<|by exact zd 6 E (by decide +kernel) (za (za (zc (za (za (zc (za zb))))))) E<|by exact zd 7 E (by decide +kernel) (za (za (zc (za (za (zc (za zb))))))) E<|by exact zd 8 E (by decide +kernel) (za (za (zc (za (za (zc (za zb))))))) E<|by exact zd 9 E (by decide +kernel) (za (za (zc (za (za (zc (za zb))))))) E<|by exact zd 10 E (by decide +kernel) (za (za (zc (za (za (zc (za zb))))))) E<|by exact zd 11 E (by decide +kernel) (za (za (zc (za (za (zc (za zb))))))) E<|by exact zd 12 E (by decide +kernel) (za (za (zc (za (za (zc (za zb))))))) E<|by exact zd 13 E (by decide +kernel) (za (za (zc (za (za (zc (za zb))))))) E<|by exact a_takeP 14 E (by decide +kernel) (za (za (zc (za (za (zc (za zb))))))) E (zq E E)<|by exact zE (by decide +kernel)<|by exact zk<|cfs E E<|hJx_2 () _ _ _ _ [0,0] H26 E ⟨E,E,E,E,E,E,True.intro⟩ E))) fun c_1 H12=>s_p E (yF (zw E E) c_1)<|nx<|zx<|c_f E E<|zT<|zg<|zg<|zv<|hJx n_1 _ _ _ _ [0] H12 E ⟨E,E,True.intro⟩ E)) (fun Jx_3 hJx_3 H31=>csr<|s_p E (zD E E)<|gx H31 fun t_11 ht_11 H32=>s_v E (zB E) (zL 0 E ht_11)<|by obtain⟨b_6,o_3,rfl,H33⟩:=H32;exact s_p E (qb E)<|s_p E (zD E E)<|gx H33 fun t_12 ht_12 H34=>by refine s_v E (qu E (zH ht_12)) (wm ht_12) ?_;exact mv E E<|nx<|zs<|qh (fun z=>⟨120,[(1,.pointer (some ⟨b,0,none⟩)),(3,.map (some b_1)),(16,valL t_12),(17,.int .i64 z)]⟩) (fun z=>[⟨b,201,x⟩,⟨b_1,itT,[]⟩]) 0 (idx:=[0,0]) H34 E ⟨E,E,E,E,True.intro⟩ E<|fun Xx_1 hXx_1 t_13 Sx_5 H35=>csr<|iteK H35 (fun c_9 H36=>s_p E (yT (zw E E) c_9)<|nx<|zx<|c_t E E<|qg<|zk<|zo H36 (fun (J:Mem→Prop) (z:Unit) S=>J S) (fun z=>⟨120,[(1,.pointer (some ⟨b,0,none⟩)),(3,.map (some b_1)),(16,valL t_12),(17,.int .i64 t_13)]⟩) (fun z=>[⟨b,201,x⟩,⟨b_1,itT,[]⟩]) (fun _ Sx_6 H37=>zr<|s_p E (zU E E)<|mv E E<|zu<|hXx_1 (IntKind.i64.wrap (t_13+1)) _ _ _ _ [0,0] H37 E ⟨E,E,E,E,True.intro⟩ E) (fun Jx_4 hJx_4 H38=>zs<|csr<|an2 H38 fun c_10 c_11 H39=>gx H39 fun t_14 ht_14 H40=>s_p E (gD E E c_10 c_11 ht_14)<|by refine zN E fun b_7=>?_;exact an H40 fun c_12 H41=>zz 2 E E E E E ((qv ht_14).2.2) E c_12<|nx<|zo H41 (fun (J:Mem→Prop) (z:Unit) S=>J S) (fun z=>⟨120,[(1,.pointer (some ⟨b,0,none⟩)),(3,.map (some b_1)),(5,.pointer (some ⟨b_7,0,none⟩)),(16,valL t_12),(17,.int .i64 t_13)]⟩) (fun z=>[⟨b,201,x⟩,⟨b_1,itT,[]⟩,⟨b_7,70,t_14⟩]) (fun _ Sx_7 H42=>zo H42 (fun (J:Mem→Prop) (z:Unit) S=>J S) (fun z=>⟨120,[(1,.pointer (some ⟨b,0,none⟩)),(3,.map (some b_1)),(5,.pointer (some ⟨b_7,0,none⟩)),(16,valL t_12),(17,.int .i64 t_13)]⟩) (fun z=>[⟨b,201,x⟩,⟨b_1,itT,[]⟩,⟨b_7,70,t_14⟩]) (fun _ Sx_8 H43=>zo H43 (fun (J:Mem→Prop) (z:Unit) S=>J S) (fun z=>⟨120,[(1,.pointer (some ⟨b,0,none⟩)),(3,.map (some b_1)),(5,.pointer (some ⟨b_7,0,none⟩)),(16,valL t_12),(17,.int .i64 t_13)]⟩) (fun z=>[⟨b,201,x⟩,⟨b_1,itT,[]⟩,⟨b_7,70,t_14⟩]) (fun _ Sx_9 H44=>zY (by kernel_rfl)<|a_takeP 0 E (by decide +kernel) (zc (za (za (zc (za zb))))) E (zj E)<|by exact a_takeP 1 E (by decide +kernel) (zc (za (za (zc (za zb))))) E (zD E E)<|by exact gx H44 fun t_15 ht_15 H45=>zA 2 E (by decide +kernel) (zc (za (za (zc (za zb))))) E (zB E) (zL 2 E ht_15)<|by exact a_takeP 3 E (by decide +kernel) (zc (za (za (zc (za zb))))) E (zD E E)<|by exact gx H45 fun t_16 ht_16 H46=>zA 4 E (by decide +kernel) (zc (za (za (zc (za zb))))) E (zB E) (zL 2 E ht_16)<|by exact a_takeP 5 E (by decide +kernel) (zc (za (za (zc (za zb))))) E (zM E E)<|by exact zA 6 E (by decide +kernel) (zc (za (za (zc (za zb))))) E (zco (vs:=[.int .i64 t_15,.int .i64 t_16]) E E E) (zfL 1 E)<|by exact a_takeP 7 E (by decide +kernel) (zc (za (za (zc (za zb))))) E (zU E E)<|by exact H46.elim) (fun Jx_5 hJx_5 H47=>csr<|s_p E (zD E E)<|gx H47 fun t_17 ht_17 H48=>s_v E (zB E) (zL 2 E ht_17)<|iteK H48 (fun c_13 H49=>s_p E (yT (qL E E) c_13)<|nx<|c_t E E<|zx<|zY (by kernel_rfl)<|a_takeP 0 E (by decide +kernel) (za (za (zc (za (za (zc (za zb))))))) E (zD E E)<|by exact gx H49 fun t_18 ht_18 H50=>zA 1 E (by decide +kernel) (za (za (zc (za (za (zc (za zb))))))) E (zB E) (zL 0 E ht_18)<|by exact a_takeP 2 E (by decide +kernel) (za (za (zc (za (za (zc (za zb))))))) E (zD E E)<|by exact gx H50 fun t_19 ht_19 H51=>zA 3 E (by decide +kernel) (za (za (zc (za (za (zc (za zb))))))) E (zB E) (zL 2 E ht_19)<|by exact by obtain⟨b_8,o_4,rfl,H52⟩:=H51;exact a_takeP 4 E (by decide +kernel) (za (za (zc (za (za (zc (za zb))))))) E (qb E)<|by exact a_takeP 5 E (by decide +kernel) (za (za (zc (za (za (zc (za zb))))))) E (zD E E)<|by exact an2 H52 fun c_14 c_15 H53=>a_takeP 6 E (by decide +kernel) (za (za (zc (za (za (zc (za zb))))))) E (fd E E c_14 c_15 E)<|by exact a_takeP 7 E (by decide +kernel) (za (za (zc (za (za (zc (za zb))))))) E (zD E E)<|by exact gx H53 fun t_20 ht_20 H54=>by refine zA 8 E (by decide +kernel) (za (za (zc (za (za (zc (za zb))))))) E (qu E (zH ht_20)) (wm ht_20) ?_;exact a_takeP 9 E (by decide +kernel) (za (za (zc (za (za (zc (za zb))))))) E (zD E E)<|by exact gx H54 fun t_21 ht_21 H55=>zA 10 E (by decide +kernel) (za (za (zc (za (za (zc (za zb))))))) E (zB E) (zL 0 E ht_21)<|by exact a_takeP 11 E (by decide +kernel) (za (za (zc (za (za (zc (za zb))))))) E (zD E E)<|by exact gx H55 fun t_22 ht_22 H56=>zA 12 E (by decide +kernel) (za (za (zc (za (za (zc (za zb))))))) E (zB E) (zL 2 E ht_22)<|by exact gi 13 17 (by decide +kernel) E E (yG E E H56 fun rv Sx_10 H57=>by obtain⟨t_23,t_24,rfl,ht_23,H58⟩:=H57;exact zu<|zS (zy (zL 2 E ht_19) (zy (zL 0 E ht_18) zF))<|a_takeP 14 E (by decide +kernel) (za (za (zc (za (za (zc (za zb))))))) E (zj E)<|by exact a_takeP 15 E (by decide +kernel) (za (za (zc (za (za (zc (za zb))))))) E (zp E E)<|by exact a_takeP 16 E (by decide +kernel) (za (za (zc (za (za (zc (za zb))))))) E (zp E E)<|by exact zJ 17 (by decide +kernel) E<|by exact by refine zN E fun b_9=>?_;exact zu<|zS (zy (zL 2 E ht_19) (zy (zL 0 E ht_18) zF))<|zJ 18 (by decide +kernel) E<|by exact an H58 fun c_16 H59=>zz 3 E E E E E ht_23 E c_16<|zu<|zS zF<|a_takeP 19 E (by decide +kernel) (za (za (zc (za (za (zc (za zb))))))) E (zW E)<|by exact zE (by decide +kernel)<|by exact zk<|csr<|mv E E<|iteK H59 (fun c_17 H60=>s_p E (yT (zI E E) c_17)<|nx<|c_t E E<|csr<|gv E E<|nx<|zm<|ze<|zh<|ze<|ze<|zh<|ze<|zl Tryz.results104 (zf E zi) ⟨_,E,H60⟩) fun c_17 H60=>s_p E (yF (zI E E) c_17)<|nx<|cfs E E<|hJx_5 () _ _ _ _ [0,0,0] H60 E ⟨E,E,E,E,E,True.intro⟩ E) (by refine zN E fun b_9=>?_;exact zu<|zS (zy (zL 2 E ht_22) (zy (zL 0 E ht_21) (zy (wm ht_20) (zy (zL 2 E ht_19) (zy (zL 0 E ht_18) zF)))))<|zJ 13 (by decide +kernel) E<|by exact yG E E H56 fun rv Sx_10 H61=>by obtain⟨t_23,t_24,rfl,ht_23,H62⟩:=H61;exact zu<|zS (zy (zL 2 E ht_19) (zy (zL 0 E ht_18) zF))<|a_takeP 14 E (by decide +kernel) (za (za (zc (za (za (zc (za zb))))))) E (zj E)<|by exact a_takeP 15 E (by decide +kernel) (za (za (zc (za (za (zc (za zb))))))) E (zp E E)<|by exact a_takeP 16 E (by decide +kernel) (za (za (zc (za (za (zc (za zb))))))) E (zp E E)<|by exact zJ 18 (by decide +kernel) E<|by exact an H62 fun c_16 H63=>zz 3 E E E E E ht_23 E c_16<|zu<|zS zF<|a_takeP 19 E (by decide +kernel) (za (za (zc (za (za (zc (za zb))))))) E (zW E)<|by exact zE (by decide +kernel)<|by exact zk<|csr<|mv E E<|iteK H63 (fun c_17 H64=>s_p E (yT (zI E E) c_17)<|nx<|c_t E E<|csr<|gv E E<|nx<|zm<|ze<|zh<|ze<|ze<|zh<|ze<|zl Tryz.results104 (zf E zi) ⟨_,E,H64⟩) fun c_17 H64=>s_p E (yF (zI E E) c_17)<|nx<|cfs E E<|hJx_5 () _ _ _ _ [0,0,0] H64 E ⟨E,E,E,E,E,True.intro⟩ E)) fun c_13 H49=>s_p E (yF (qL E E) c_13)<|nx<|cfs E E<|hJx_5 () _ _ _ _ [0,0,0] H49 E ⟨E,E,E,E,E,True.intro⟩ E)) (fun Jx_6 hJx_6 H65=>csr<|s_p E (zD E E)<|gx H65 fun t_25 ht_25 H66=>s_v E (zB E) (zL 0 E ht_25)<|s_p E (zD E E)<|gx H66 fun t_26 ht_26 H67=>s_v E (zB E) (zL 2 E ht_26)<|qW E E H67 fun t_27 Sx_11 H68=>by have H69:=vY H68;rcases H69 with ⟨rfl,H70⟩ | ⟨rfl,H70⟩;exact (s_p E (yB (qt E) E)<|mv E E<|s_p E (zD E E)<|gx H70 fun t_28 ht_28 H71=>s_v E (zB E) (zL 0 E ht_28)<|s_p E (zD E E)<|gx H71 fun t_29 ht_29 H72=>s_v E (zB E) (zL 2 E ht_29)<|qW E E H72 fun t_30 Sx_12 H73=>by have H74:=vY H73;rcases H74 with ⟨rfl,H75⟩ | ⟨rfl,H75⟩;exact (s_p E (yB (qt E) E)<|pk E E E<|mv E E<|s_p E (zD E E)<|gx H75 fun t_31 ht_31 H76=>s_v E (zB E) (zL 2 E ht_31)<|s_p E (zD E E)<|gx H76 fun t_32 ht_32 H77=>s_v E (zB E) (zL 2 E ht_32)<|iteK H77 (fun c_18 H78=>ceT E E E (c_18)<|pk E E E<|nx<|c_t E E<|csr<|gv E E<|nx<|zm<|ze<|zh<|ze<|ze<|zh<|ze<|zl Tryz.results104 (zf E zi) ⟨_,E,H78⟩) fun c_18 H78=>ceF E E E (c_18)<|pk E E E<|nx<|cfs E E<|hJx_6 () _ _ _ _ [0,0,0] H78 E ⟨E,E,E,E,E,True.intro⟩ E);exact (s_p E (yB (qt E) E)<|pk E E E<|mv E E<|sk4 E E E E<|zP E<|pk E E E<|nx<|c_t E E<|csr<|gv E E<|nx<|zm<|ze<|zh<|ze<|ze<|zh<|ze<|zl Tryz.results104 (zf E zi) ⟨_,E,H75⟩));exact (s_p E (yB (qt E) E)<|mv E E<|sk4 E E E E<|sk2 E E<|pk E E E<|mv E E<|sk4 E E E E<|zP E<|pk E E E<|nx<|c_t E E<|csr<|gv E E<|nx<|zm<|ze<|zh<|ze<|ze<|zh<|ze<|zl Tryz.results104 (zf E zi) ⟨_,E,H70⟩))) (fun Jx_7 hJx_7 H79=>csr<|s_p E (zD E E)<|gx H79 fun t_33 ht_33 H80=>by have H81:=vY H80;rcases H81 with ⟨rfl,H82⟩ | ⟨rfl,H82⟩;exact (s_v E (zB E) (zL 2 E ht_33)<|s_p E (yB (qt E) E)<|nx<|cfs E E<|hJx_7 () _ _ _ _ [0,0,0] H82 E ⟨E,E,E,E,E,True.intro⟩ E);exact (s_v E (zB E) (zL 2 E ht_33)<|s_p E (yB (qt E) E)<|nx<|c_t E E<|zT<|zg<|zv<|hJx_4 () _ _ _ _ [0,0] H82 E ⟨E,E,E,E,True.intro⟩ E)))) fun c_9 H36=>s_p E (yF (zw E E) c_9)<|nx<|zx<|c_f E E<|zT<|zg<|zg<|zv<|hJx_3 () _ _ _ _ [0,0] H36 E ⟨E,E,True.intro⟩ E)
def xf (S:Mem) (x:List Value) (Q:Int→Mem→Prop):Prop:=
 x.length=4 ∧
 jn (fun (Sx:Mem)=>
 Q 0 Sx) fun Jx=>
 gP (nthL x 3) fun t=>
 nn t fun b_1 o=>
 gA (S.part b_1 (o+2) 72) fun t_1=>
 lp (fun Xx (t_2:Int) (Sx_1:Mem)=>
 if t_2<6 then
 jn (fun (Sx_2:Mem)=>
 Xx (IntKind.i64.wrap (t_2+1)) Sx_2) fun Jx_1=>
 0≤t_2∧t_2<6 ∧
 gA (lpart t_1 (t_2.toNat*12) 12) fun t_3=>
 t_3.all (·.oneCell')=true ∧
 jn (fun (Sx_3:Mem)=>
 jn (fun (Sx_4:Mem)=>
 gL (nthL t_3 1) fun t_4=>
 if (t_4.n:Int)<1 then
 Q 10 Sx_4
 else
 gL (nthL t_3 1) fun t_5=>
 if 3<(t_5.n:Int) then
 Q 10 Sx_4
 else
 gL (nthL t_3 6) fun t_6=>
 if 64<(t_6.n:Int) then
 Q 10 Sx_4
 else
 gI (nthL t_3 11) .u32 fun t_7=>
 if ishr .u32 t_7 6≠0 then
 Q 10 Sx_4
 else
 gI (nthL t_3 5) .u64 fun t_8=>
 gP (nthL x 3) fun t_9=>
 nn t_9 fun b_3 o_1=>
 gI (Sx_4.cell b_3 (o_1+1)) .u64 fun t_10=>
 if t_10<t_8 then
 Q 10 Sx_4
 else
 Jx_1 Sx_4) fun Jx_2=>
 lp (fun Xx_1 (t_11:Int) (Sx_5:Mem)=>
 if t_11<6 then
 gI (nthL t_3 11) .u32 fun t_12=>
 0≤t_11 ∧
 if iand .u32 (ishr .u32 t_12 t_11) 1=1 then
 gP (nthL x 3) fun t_13=>
 yL Sx_5 t_13 t_11 t_2 fun t_14 Sx_6=>
 if t_14=true then
 if t_11=t_2 then
 Q 10 Sx_6
 else
 Xx_1 (IntKind.i64.wrap (t_11+1)) Sx_6
 else
 Q 10 Sx_6
 else
 Xx_1 (IntKind.i64.wrap (t_11+1)) Sx_5
 else
 Jx_2 Sx_5) 0 Sx_3) fun Jx_3=>
 gB (nthL t_3 0) fun t_15=>
 if t_15=true then
 Jx_3 Sx_1
 else
 gI (nthL t_3 11) .u32 fun t_16=>
 if t_16≠0 then
 Q 10 Sx_1
 else
 gL (nthL t_3 1) fun t_17=>
 if (t_17.n:Int)≠0 then
 Q 10 Sx_1
 else
 Jx_1 Sx_1
 else
 Jx Sx_1) 0 S
theorem kP {S:Mem} {x:List Value} {Q:Int→Mem→Prop} (H:xf S x Q):xJ S x Q:=by
 unfold xf at H
 exact Tr.intro Tryz.func105 E Tryz.ntmps105 E fun w0=>an H fun hx H1=>csr<|xW E E E fun b=>gv E E<|nx<|zo H1 (fun (J:Mem→Prop) (z:Unit) S=>J S) (fun z=>⟨83,[]⟩) (fun z=>[]) (fun _ Sx H2=>csr<|gv E E<|nx<|zm<|zl Tryz.results105 (zf E zi) ⟨_,E,H2⟩) (fun Jx hJx H3=>csr<|s_p E (zD E E)<|gx H3 fun t ht H4=>s_v E (zB E) (zL 0 E ht)<|by obtain⟨b_1,o,rfl,H5⟩:=H4;exact s_p E (qb E)<|s_p E (zD E E)<|gx H5 fun t_1 ht_1 H6=>by refine s_v E (qu E (zH ht_1)) (wm ht_1) ?_;exact mv E E<|nx<|zs<|qh (fun z=>⟨83,[(1,.pointer (some ⟨b,0,none⟩)),(10,valL t_1),(11,.int .i64 z)]⟩) (fun z=>[⟨b,201,x⟩]) 0 (idx:=[0]) H6 E ⟨E,E,E,True.intro⟩ E<|fun Xx hXx t_2 Sx_1 H7=>csr<|iteK H7 (fun c H8=>s_p E (yT (zw E E) c)<|nx<|zx<|c_t E E<|qg<|zk<|zo H8 (fun (J:Mem→Prop) (z:Unit) S=>J S) (fun z=>⟨83,[(1,.pointer (some ⟨b,0,none⟩)),(10,valL t_1),(11,.int .i64 t_2)]⟩) (fun z=>[⟨b,201,x⟩]) (fun _ Sx_2 H9=>zr<|s_p E (zU E E)<|mv E E<|zu<|hXx (IntKind.i64.wrap (t_2+1)) _ _ _ _ [0] H9 E ⟨E,E,E,True.intro⟩ E) (fun Jx_1 hJx_1 H10=>zs<|csr<|mv E E<|an2 H10 fun c_1 c_2 H11=>gx H11 fun t_3 ht_3 H12=>s_p E (gD E E c_1 c_2 ht_3)<|by refine zN E fun b_2=>?_;exact gv E E<|an H12 fun c_3 H13=>zz 1 E E E E E ((qv ht_3).2.2) E c_3<|nx<|zo H13 (fun (J:Mem→Prop) (z:Unit) S=>J S) (fun z=>⟨83,[(1,.pointer (some ⟨b,0,none⟩)),(3,.int .i64 t_2),(4,.pointer (some ⟨b_2,0,none⟩)),(10,valL t_1),(11,.int .i64 t_2)]⟩) (fun z=>[⟨b,201,x⟩,⟨b_2,66,t_3⟩]) (fun _ Sx_3 H14=>zo H14 (fun (J:Mem→Prop) (z:Unit) S=>J S) (fun z=>⟨83,[(1,.pointer (some ⟨b,0,none⟩)),(4,.pointer (some ⟨b_2,0,none⟩)),(10,valL t_1),(11,.int .i64 t_2)]⟩) (fun z=>[⟨b,201,x⟩,⟨b_2,66,t_3⟩]) (fun _ Sx_4 H15=>zx<|zY (by kernel_rfl)<|a_takeP 0 E (by decide +kernel) (za (zc (za (za (zc (za zb)))))) E (zD E E)<|by exact gx H15 fun t_4 ht_4 H16=>zA 1 E (by decide +kernel) (za (zc (za (za (zc (za zb)))))) E (zB E) (zL 1 E ht_4)<|by exact a_takeP 2 E (by decide +kernel) (za (zc (za (za (zc (za zb)))))) E (qy E)<|by exact iteK H16 (fun c_4 H17=>a_takeP 3 E (by decide +kernel) (za (zc (za (za (zc (za zb)))))) E (yT (zw E E) c_4)<|by exact a_takeP 4 E (by decide +kernel) (za (zc (za (za (zc (za zb)))))) E (zj E)<|by exact zd 5 E (by decide +kernel) (za (zc (za (za (zc (za zb)))))) E<|by exact zd 6 E (by decide +kernel) (za (zc (za (za (zc (za zb)))))) E<|by exact zd 7 E (by decide +kernel) (za (zc (za (za (zc (za zb)))))) E<|by exact zd 8 E (by decide +kernel) (za (zc (za (za (zc (za zb)))))) E<|by exact a_takeP 9 E (by decide +kernel) (za (zc (za (za (zc (za zb)))))) E (zq E E)<|by exact a_takeP 10 E (by decide +kernel) (za (zc (za (za (zc (za zb)))))) E (zj E)<|by exact zd 11 E (by decide +kernel) (za (zc (za (za (zc (za zb)))))) E<|by exact zd 12 E (by decide +kernel) (za (zc (za (za (zc (za zb)))))) E<|by exact zd 13 E (by decide +kernel) (za (zc (za (za (zc (za zb)))))) E<|by exact zd 14 E (by decide +kernel) (za (zc (za (za (zc (za zb)))))) E<|by exact a_takeP 15 E (by decide +kernel) (za (zc (za (za (zc (za zb)))))) E (zq E E)<|by exact a_takeP 16 E (by decide +kernel) (za (zc (za (za (zc (za zb)))))) E (zj E)<|by exact zd 17 E (by decide +kernel) (za (zc (za (za (zc (za zb)))))) E<|by exact zd 18 E (by decide +kernel) (za (zc (za (za (zc (za zb)))))) E<|by exact zd 19 E (by decide +kernel) (za (zc (za (za (zc (za zb)))))) E<|by exact zd 20 E (by decide +kernel) (za (zc (za (za (zc (za zb)))))) E<|by exact a_takeP 21 E (by decide +kernel) (za (zc (za (za (zc (za zb)))))) E (zq E E)<|by exact a_takeP 22 E (by decide +kernel) (za (zc (za (za (zc (za zb)))))) E (zj E)<|by exact zd 23 E (by decide +kernel) (za (zc (za (za (zc (za zb)))))) E<|by exact zd 24 E (by decide +kernel) (za (zc (za (za (zc (za zb)))))) E<|by exact zd 25 E (by decide +kernel) (za (zc (za (za (zc (za zb)))))) E<|by exact zd 26 E (by decide +kernel) (za (zc (za (za (zc (za zb)))))) E<|by exact zd 27 E (by decide +kernel) (za (zc (za (za (zc (za zb)))))) E<|by exact zd 28 E (by decide +kernel) (za (zc (za (za (zc (za zb)))))) E<|by exact zd 29 E (by decide +kernel) (za (zc (za (za (zc (za zb)))))) E<|by exact zd 30 E (by decide +kernel) (za (zc (za (za (zc (za zb)))))) E<|by exact a_takeP 31 E (by decide +kernel) (za (zc (za (za (zc (za zb)))))) E (zq E E)<|by exact zE (by decide +kernel)<|by exact zk<|c_t E E<|csr<|gv E E<|nx<|zm<|zh<|ze<|ze<|zh<|ze<|zl Tryz.results105 (zf E zi) ⟨_,E,H17⟩) fun c_4 H17=>a_takeP 3 E (by decide +kernel) (za (zc (za (za (zc (za zb)))))) E (yF (zw E E) c_4)<|by exact a_takeP 4 E (by decide +kernel) (za (zc (za (za (zc (za zb)))))) E (zj E)<|by exact a_takeP 5 E (by decide +kernel) (za (zc (za (za (zc (za zb)))))) E (zD E E)<|by exact gx H17 fun t_5 ht_5 H18=>zA 6 E (by decide +kernel) (za (zc (za (za (zc (za zb)))))) E (zB E) (zL 1 E ht_5)<|by exact a_takeP 7 E (by decide +kernel) (za (zc (za (za (zc (za zb)))))) E (qy E)<|by exact iteK H18 (fun c_5 H19=>a_takeP 8 E (by decide +kernel) (za (zc (za (za (zc (za zb)))))) E (yT (yu E E) c_5)<|by exact a_takeP 9 E (by decide +kernel) (za (zc (za (za (zc (za zb)))))) E (zq E E)<|by exact a_takeP 10 E (by decide +kernel) (za (zc (za (za (zc (za zb)))))) E (zj E)<|by exact zd 11 E (by decide +kernel) (za (zc (za (za (zc (za zb)))))) E<|by exact zd 12 E (by decide +kernel) (za (zc (za (za (zc (za zb)))))) E<|by exact zd 13 E (by decide +kernel) (za (zc (za (za (zc (za zb)))))) E<|by exact zd 14 E (by decide +kernel) (za (zc (za (za (zc (za zb)))))) E<|by exact a_takeP 15 E (by decide +kernel) (za (zc (za (za (zc (za zb)))))) E (zq E E)<|by exact a_takeP 16 E (by decide +kernel) (za (zc (za (za (zc (za zb)))))) E (zj E)<|by exact zd 17 E (by decide +kernel) (za (zc (za (za (zc (za zb)))))) E<|by exact zd 18 E (by decide +kernel) (za (zc (za (za (zc (za zb)))))) E<|by exact zd 19 E (by decide +kernel) (za (zc (za (za (zc (za zb)))))) E<|by exact zd 20 E (by decide +kernel) (za (zc (za (za (zc (za zb)))))) E<|by exact a_takeP 21 E (by decide +kernel) (za (zc (za (za (zc (za zb)))))) E (zq E E)<|by exact a_takeP 22 E (by decide +kernel) (za (zc (za (za (zc (za zb)))))) E (zj E)<|by exact zd 23 E (by decide +kernel) (za (zc (za (za (zc (za zb)))))) E<|by exact zd 24 E (by decide +kernel) (za (zc (za (za (zc (za zb)))))) E<|by exact zd 25 E (by decide +kernel) (za (zc (za (za (zc (za zb)))))) E<|by exact zd 26 E (by decide +kernel) (za (zc (za (za (zc (za zb)))))) E<|by exact zd 27 E (by decide +kernel) (za (zc (za (za (zc (za zb)))))) E<|by exact zd 28 E (by decide +kernel) (za (zc (za (za (zc (za zb)))))) E<|by exact zd 29 E (by decide +kernel) (za (zc (za (za (zc (za zb)))))) E<|by exact zd 30 E (by decide +kernel) (za (zc (za (za (zc (za zb)))))) E<|by exact a_takeP 31 E (by decide +kernel) (za (zc (za (za (zc (za zb)))))) E (zq E E)<|by exact zE (by decide +kernel)<|by exact zk<|c_t E E<|csr<|gv E E<|nx<|zm<|zh<|ze<|ze<|zh<|ze<|zl Tryz.results105 (zf E zi) ⟨_,E,H19⟩) fun c_5 H19=>a_takeP 8 E (by decide +kernel) (za (zc (za (za (zc (za zb)))))) E (yF (yu E E) c_5)<|by exact a_takeP 9 E (by decide +kernel) (za (zc (za (za (zc (za zb)))))) E (zq E E)<|by exact a_takeP 10 E (by decide +kernel) (za (zc (za (za (zc (za zb)))))) E (zj E)<|by exact a_takeP 11 E (by decide +kernel) (za (zc (za (za (zc (za zb)))))) E (zD E E)<|by exact gx H19 fun t_6 ht_6 H20=>zA 12 E (by decide +kernel) (za (zc (za (za (zc (za zb)))))) E (zB E) (zL 1 E ht_6)<|by exact a_takeP 13 E (by decide +kernel) (za (zc (za (za (zc (za zb)))))) E (qy E)<|by exact iteK H20 (fun c_6 H21=>a_takeP 14 E (by decide +kernel) (za (zc (za (za (zc (za zb)))))) E (yT (yu E E) c_6)<|by exact a_takeP 15 E (by decide +kernel) (za (zc (za (za (zc (za zb)))))) E (zq E E)<|by exact a_takeP 16 E (by decide +kernel) (za (zc (za (za (zc (za zb)))))) E (zj E)<|by exact zd 17 E (by decide +kernel) (za (zc (za (za (zc (za zb)))))) E<|by exact zd 18 E (by decide +kernel) (za (zc (za (za (zc (za zb)))))) E<|by exact zd 19 E (by decide +kernel) (za (zc (za (za (zc (za zb)))))) E<|by exact zd 20 E (by decide +kernel) (za (zc (za (za (zc (za zb)))))) E<|by exact a_takeP 21 E (by decide +kernel) (za (zc (za (za (zc (za zb)))))) E (zq E E)<|by exact a_takeP 22 E (by decide +kernel) (za (zc (za (za (zc (za zb)))))) E (zj E)<|by exact zd 23 E (by decide +kernel) (za (zc (za (za (zc (za zb)))))) E<|by exact zd 24 E (by decide +kernel) (za (zc (za (za (zc (za zb)))))) E<|by exact zd 25 E (by decide +kernel) (za (zc (za (za (zc (za zb)))))) E<|by exact zd 26 E (by decide +kernel) (za (zc (za (za (zc (za zb)))))) E<|by exact zd 27 E (by decide +kernel) (za (zc (za (za (zc (za zb)))))) E<|by exact zd 28 E (by decide +kernel) (za (zc (za (za (zc (za zb)))))) E<|by exact zd 29 E (by decide +kernel) (za (zc (za (za (zc (za zb)))))) E<|by exact zd 30 E (by decide +kernel) (za (zc (za (za (zc (za zb)))))) E<|by exact a_takeP 31 E (by decide +kernel) (za (zc (za (za (zc (za zb)))))) E (zq E E)<|by exact zE (by decide +kernel)<|by exact zk<|c_t E E<|csr<|gv E E<|nx<|zm<|zh<|ze<|ze<|zh<|ze<|zl Tryz.results105 (zf E zi) ⟨_,E,H21⟩) fun c_6 H21=>a_takeP 14 E (by decide +kernel) (za (zc (za (za (zc (za zb)))))) E (yF (yu E E) c_6)<|by exact a_takeP 15 E (by decide +kernel) (za (zc (za (za (zc (za zb)))))) E (zq E E)<|by exact a_takeP 16 E (by decide +kernel) (za (zc (za (za (zc (za zb)))))) E (zj E)<|by exact a_takeP 17 E (by decide +kernel) (za (zc (za (za (zc (za zb)))))) E (zD E E)<|by exact gx H21 fun t_7 ht_7 H22=>zA 18 E (by decide +kernel) (za (zc (za (za (zc (za zb)))))) E (zB E) (zL 1 E ht_7)<|by exact a_takeP 19 E (by decide +kernel) (za (zc (za (za (zc (za zb)))))) E (fb E E (by decide))<|by exact iteK H22 (fun c_7 H23=>a_takeP 20 E (by decide +kernel) (za (zc (za (za (zc (za zb)))))) E (yT (zI E E) c_7)<|by exact a_takeP 21 E (by decide +kernel) (za (zc (za (za (zc (za zb)))))) E (zq E E)<|by exact a_takeP 22 E (by decide +kernel) (za (zc (za (za (zc (za zb)))))) E (zj E)<|by exact zd 23 E (by decide +kernel) (za (zc (za (za (zc (za zb)))))) E<|by exact zd 24 E (by decide +kernel) (za (zc (za (za (zc (za zb)))))) E<|by exact zd 25 E (by decide +kernel) (za (zc (za (za (zc (za zb)))))) E<|by exact zd 26 E (by decide +kernel) (za (zc (za (za (zc (za zb)))))) E<|by exact zd 27 E (by decide +kernel) (za (zc (za (za (zc (za zb)))))) E<|by exact zd 28 E (by decide +kernel) (za (zc (za (za (zc (za zb)))))) E<|by exact zd 29 E (by decide +kernel) (za (zc (za (za (zc (za zb)))))) E<|by exact zd 30 E (by decide +kernel) (za (zc (za (za (zc (za zb)))))) E<|by exact a_takeP 31 E (by decide +kernel) (za (zc (za (za (zc (za zb)))))) E (zq E E)<|by exact zE (by decide +kernel)<|by exact zk<|c_t E E<|csr<|gv E E<|nx<|zm<|zh<|ze<|ze<|zh<|ze<|zl Tryz.results105 (zf E zi) ⟨_,E,H23⟩) fun c_7 H23=>a_takeP 20 E (by decide +kernel) (za (zc (za (za (zc (za zb)))))) E (yF (zI E E) c_7)<|by exact a_takeP 21 E (by decide +kernel) (za (zc (za (za (zc (za zb)))))) E (zq E E)<|by exact a_takeP 22 E (by decide +kernel) (za (zc (za (za (zc (za zb)))))) E (zj E)<|by exact a_takeP 23 E (by decide +kernel) (za (zc (za (za (zc (za zb)))))) E (zD E E)<|by exact gx H23 fun t_8 ht_8 H24=>zA 24 E (by decide +kernel) (za (zc (za (za (zc (za zb)))))) E (zB E) (zL 1 E ht_8)<|by exact a_takeP 25 E (by decide +kernel) (za (zc (za (za (zc (za zb)))))) E (zD E E)<|by exact gx H24 fun t_9 ht_9 H25=>zA 26 E (by decide +kernel) (za (zc (za (za (zc (za zb)))))) E (zB E) (zL 0 E ht_9)<|by exact by obtain⟨b_3,o_1,rfl,H26⟩:=H25;exact a_takeP 27 E (by decide +kernel) (za (zc (za (za (zc (za zb)))))) E (qb E)<|by exact a_takeP 28 E (by decide +kernel) (za (zc (za (za (zc (za zb)))))) E (zD E E)<|by exact gx H26 fun t_10 ht_10 H27=>zA 29 E (by decide +kernel) (za (zc (za (za (zc (za zb)))))) E (zB E) (zV ht_10)<|by exact iteK H27 (fun c_8 H28=>a_takeP 30 E (by decide +kernel) (za (zc (za (za (zc (za zb)))))) E (yT (yu E E) c_8)<|by exact a_takeP 31 E (by decide +kernel) (za (zc (za (za (zc (za zb)))))) E (zq E E)<|by exact zE (by decide +kernel)<|by exact zk<|c_t E E<|csr<|gv E E<|nx<|zm<|zh<|ze<|ze<|zh<|ze<|zl Tryz.results105 (zf E zi) ⟨_,E,H28⟩) fun c_8 H28=>a_takeP 30 E (by decide +kernel) (za (zc (za (za (zc (za zb)))))) E (yF (yu E E) c_8)<|by exact a_takeP 31 E (by decide +kernel) (za (zc (za (za (zc (za zb)))))) E (zq E E)<|by exact zE (by decide +kernel)<|by exact zk<|cfs E E<|zQ<|hJx_1 () _ _ _ _ [0] H28 E ⟨E,E,E,True.intro⟩ E) (fun Jx_2 hJx_2 H29=>csr<|mv E E<|nx<|zs<|qh (fun z=>⟨83,[(1,.pointer (some ⟨b,0,none⟩)),(3,.int .i64 t_2),(4,.pointer (some ⟨b_2,0,none⟩)),(10,valL t_1),(11,.int .i64 t_2),(27,.int .i64 z)]⟩) (fun z=>[⟨b,201,x⟩,⟨b_2,66,t_3⟩]) 0 (idx:=[0,0]) H29 E ⟨E,E,E,E,E,E,True.intro⟩ E<|fun Xx_1 hXx_1 t_11 Sx_5 H30=>csr<|iteK H30 (fun c_9 H31=>s_p E (yT (zw E E) c_9)<|nx<|zx<|c_t E E<|qg<|zk<|zx<|zs<|csr<|mv E E<|gv E E<|nxr<|s_p E (zD E E)<|gx H31 fun t_12 ht_12 H32=>s_v E (zB E) (zL 1 E ht_12)<|mv E E<|an H32 fun c_10 H33=>s_p E (fb E E c_10)<|s_p E (zbD E E)<|iteK H33 (fun c_11 H34=>ceT E E E (c_11)<|mv E E<|s_p E (zD E E)<|gx H34 fun t_13 ht_13 H35=>s_v E (zB E) (zL 0 E ht_13)<|mv E E<|mv E E<|qW E E H35 fun t_14 Sx_6 H36=>by have H37:=vY H36;rcases H37 with ⟨rfl,H38⟩ | ⟨rfl,H38⟩;exact (s_p E (yB (qt E) E)<|mv E E<|mv E E<|mv E E<|iteK H38 (fun c_12 H39=>ceT E E E (c_12)<|pk E E E<|pk E E E<|nx<|c_t E E<|csr<|gv E E<|nx<|zm<|zh<|ze<|ze<|zh<|ze<|zh<|ze<|ze<|zh<|ze<|zl Tryz.results105 (zf E zi) ⟨_,E,H39⟩) fun c_12 H39=>ceF E E E (c_12)<|pk E E E<|pk E E E<|nx<|cfs E E<|zQ<|zk<|zr<|s_p E (zU E E)<|mv E E<|zu<|hXx_1 (IntKind.i64.wrap (t_11+1)) _ _ _ _ [0,0] H39 E ⟨E,E,E,E,E,E,True.intro⟩ E);exact (s_p E (yB (qt E) E)<|mv E E<|sk2 E E<|zP E<|pk E E E<|pk E E E<|nx<|c_t E E<|csr<|gv E E<|nx<|zm<|zh<|ze<|ze<|zh<|ze<|zh<|ze<|ze<|zh<|ze<|zl Tryz.results105 (zf E zi) ⟨_,E,H38⟩)) fun c_11 H34=>ceF E E E (c_11)<|mv E E<|sk4 E E E E<|sk2 E E<|zP E<|by exact sk4 E E E E<|pk E E E<|nx<|cfs E E<|zQ<|zk<|zr<|s_p E (zU E E)<|mv E E<|zu<|hXx_1 (IntKind.i64.wrap (t_11+1)) _ _ _ _ [0,0] H34 E ⟨E,E,E,E,E,E,True.intro⟩ E) fun c_9 H31=>s_p E (yF (zw E E) c_9)<|nx<|zx<|c_f E E<|zT<|zg<|zg<|zv<|hJx_2 () _ _ _ _ [0,0] H31 E ⟨E,E,E,E,True.intro⟩ E)) (fun Jx_3 hJx_3 H40=>csr<|s_p E (zD E E)<|gx H40 fun t_15 ht_15 H41=>by have H42:=vY H41;rcases H42 with ⟨rfl,H43⟩ | ⟨rfl,H43⟩;exact (s_v E (zB E) (zL 1 E ht_15)<|s_p E (yB (qt E) E)<|nx<|cfs E E<|hJx_3 () _ _ _ _ [0,0] H43 E ⟨E,E,E,E,E,True.intro⟩ E);exact (s_v E (zB E) (zL 1 E ht_15)<|s_p E (yB (qt E) E)<|nx<|c_t E E<|zx<|csr<|s_p E (zD E E)<|gx H43 fun t_16 ht_16 H44=>s_v E (zB E) (zL 1 E ht_16)<|iteK H44 (fun c_13 H45=>s_p E (yT (zI E E) c_13)<|mv E E<|sk4 E E E E<|pk E E E<|nx<|c_t E E<|csr<|gv E E<|nx<|zm<|ze<|ze<|zh<|ze<|ze<|zh<|ze<|zl Tryz.results105 (zf E zi) ⟨_,E,H45⟩) fun c_13 H45=>s_p E (yF (zI E E) c_13)<|mv E E<|s_p E (zD E E)<|gx H45 fun t_17 ht_17 H46=>s_v E (zB E) (zL 1 E ht_17)<|s_p E (qy E)<|iteK H46 (fun c_14 H47=>s_p E (yT (zI E E) c_14)<|pk E E E<|nx<|c_t E E<|csr<|gv E E<|nx<|zm<|ze<|ze<|zh<|ze<|ze<|zh<|ze<|zl Tryz.results105 (zf E zi) ⟨_,E,H47⟩) fun c_14 H47=>s_p E (yF (zI E E) c_14)<|pk E E E<|nx<|cfs E E<|zk<|zT<|zg<|zv<|hJx_1 () _ _ _ _ [0] H47 E ⟨E,E,E,True.intro⟩ E)))) fun c H8=>s_p E (yF (zw E E) c)<|nx<|zx<|c_f E E<|zT<|zg<|zg<|zv<|hJx () _ _ _ _ [] H8 E True.intro E)
def ye (S:Mem) (m:Pt) (p:Pt) (region:Sl) (s:Pt) (Q:Int→Mem→Prop):Prop:=
 jn (fun (Sx:Mem)=>
 jn (fun (Sx_1:Mem)=>
 Q 0 Sx_1) fun Jx=>
 al Sx 202 ([.func (.func 99) #[valL ([eP m,eP p,eL region,eP s])] #[],.func (.func 100) #[valL ([eP m,eP p,eL region,eP s])] #[],.func (.func 101) #[valL ([eP m,eP p,eL region,eP s])] #[],.func (.func 102) #[valL ([eP m,eP p,eL region,eP s])] #[],.func (.func 103) #[valL ([eP m,eP p,eL region,eP s])] #[],.func (.func 104) #[valL ([eP m,eP p,eL region,eP s])] #[],.func (.func 105) #[valL ([eP m,eP p,eL region,eP s])] #[]]) fun b_1 Sx_2=>
 lp (fun Xx (t:Int) (Sx_3:Mem)=>
 if t<7 then
 0≤t∧t<7 ∧
 gV (Sx_3.cell b_1 (0+t.toNat*1)) fun t_1=>
 cv Tryz.prog Sx_3 t_1 [] fun rv Sx_4=>∃ t_2:Int,rv=.int .i64 t_2∧
 if t_2≠0 then
 Q t_2 Sx_4
 else
 Xx (IntKind.i64.wrap (t+1)) Sx_4
 else
 Jx Sx_3) 0 Sx_2) fun Jx_1=>
 if m=none then
 Q 1 S
 else
 if p=none then
 Q 1 S
 else
 if s=none then
 Q 1 S
 else
 nn s fun b_2 o=>
 gP (S.cell b_2 (o+74)) fun t_3=>
 if t_3=none then
 Q 1 S
 else
 gP (S.cell b_2 (o+74)) fun t_4=>
 nn t_4 fun b_3 o_1=>
 gL (S.cell b_3 o_1) fun t_5=>
 qj S m fun t_6 Sx_5=>
 Sx_5.cell b_3 o_1=some (eL t_5) ∧
 Sx_5.cell b_2 (o+74)=some (.pointer (some ⟨b_3,o_1,none⟩)) ∧
 Sx_5.cell b_2 (o+74)=some (eP t_3) ∧
 if (t_5.n:Int)≠t_6 then
 Q 1 Sx_5
 else
 Jx_1 Sx_5
theorem xD {S:Mem} {m:Pt} {p:Pt} {region:Sl} {s:Pt} {Q:Int→Mem→Prop} (H:ye S m p region s Q):qc S m p region s Q:=by
 unfold ye at H
 exact Tr.intro Tryz.func49 E Tryz.ntmps49 E fun w0=>csr<|gv E E<|nx<|zo H (fun (J:Mem→Prop) (z:Unit) S=>J S) (fun z=>⟨74,[(0,eP m),(1,eP p),(2,eL region),(3,eP s)]⟩) (fun z=>[]) (fun _ Sx H1=>csr<|mv E E<|mv E E<|mv E E<|mv E E<|s_p E (zM E E)<|by exact by refine zN E fun b=>?_;exact wP (sz:=4) (vs:=[eP m,eP p,eL region,eP s]) 0 E E E E E E (Nat.le_of_ble_eq_true E) E<|nx<|zo H1 (fun (J:Mem→Prop) (z:Unit) S=>J S) (fun z=>⟨74,[]⟩) (fun z=>[]) (fun _ Sx_1 H2=>csr<|gv E E<|nx<|zm<|zl Tryz.results49 (zf E zi) ⟨_,E,H2⟩) (fun Jx hJx H3=>csr<|by refine s_v E (qu (vs:=[eP m,eP p,eL region,eP s]) E E) (qi (k:=4) 0 E E) ?_;exact s_p E (jD E E)<|by refine s_v E (qu (vs:=[eP m,eP p,eL region,eP s]) E E) (qi (k:=4) 0 E E) ?_;exact s_p E (jD E E)<|by refine s_v E (qu (vs:=[eP m,eP p,eL region,eP s]) E E) (qi (k:=4) 0 E E) ?_;exact s_p E (jD E E)<|by refine s_v E (qu (vs:=[eP m,eP p,eL region,eP s]) E E) (qi (k:=4) 0 E E) ?_;exact s_p E (jD E E)<|by refine s_v E (qu (vs:=[eP m,eP p,eL region,eP s]) E E) (qi (k:=4) 0 E E) ?_;exact s_p E (jD E E)<|by refine s_v E (qu (vs:=[eP m,eP p,eL region,eP s]) E E) (qi (k:=4) 0 E E) ?_;exact s_p E (jD E E)<|by refine s_v E (qu (vs:=[eP m,eP p,eL region,eP s]) E E) (qi (k:=4) 0 E E) ?_;exact s_p E (jD E E)<|zaB E E (by decide) E fun b_1=>vy 1 E fun hb_1=>have H4:=H3 b_1 hb_1;s_p E (qy E)<|mv E E<|nx<|zs<|qh (fun z=>⟨74,[(62,.slice (some ⟨b_1,0,none⟩) 7 7),(63,.int .i64 7),(64,.int .i64 z)]⟩) (fun z=>[]) 0 (idx:=[]) H4 E ⟨E,E,E,True.intro⟩ E<|fun Xx hXx t Sx_3 H5=>csr<|iteK H5 (fun c H6=>s_p E (yT (zw E E) c)<|nx<|zx<|c_t E E<|qg<|zk<|zx<|zs<|csr<|an2 H6 fun c_1 c_2 H7=>s_p E (qG E E c_1 c_2 E)<|gx H7 fun t_1 ht_1 H8=>s_v E (zB E) (zV ht_1)<|gv E E<|nxr<|mv E E<|zfO E E E H8 fun rv Sx_4 H9=>by obtain⟨t_2,rfl,H10⟩:=H9;exact gv E E<|nxr<|mv E E<|iteK H10 (fun c_3 H11=>s_p E (yT (zI E E) c_3)<|nx<|c_t E E<|csr<|mv E E<|gv E E<|nx<|zm<|zh<|ze<|ze<|zh<|ze<|zl Tryz.results49 (zf E zi) ⟨_,E,H11⟩) fun c_3 H11=>s_p E (yF (zI E E) c_3)<|nx<|cfs E E<|zQ<|zk<|zr<|s_p E (zU E E)<|mv E E<|zu<|hXx (IntKind.i64.wrap (t+1)) _ _ _ _ [] H11 E ⟨E,E,E,True.intro⟩ E) fun c H6=>s_p E (yF (zw E E) c)<|nx<|zx<|c_f E E<|zT<|zg<|zg<|zv<|hJx () _ _ _ _ [] H6 E True.intro E)) (fun Jx_1 hJx_1 H12=>zx<|zY (by kernel_rfl)<|a_takeP 0 E (by decide +kernel) (za (za zb)) E (zj E)<|by exact iteK H12 (fun c_4 H13=>a_takeP 1 E (by decide +kernel) (za (za zb)) E (yT (qH (p:=m) E E) c_4)<|by exact a_takeP 2 E (by decide +kernel) (za (za zb)) E (zj E)<|by exact zd 3 E (by decide +kernel) (za (za zb)) E<|by exact zd 4 E (by decide +kernel) (za (za zb)) E<|by exact a_takeP 5 E (by decide +kernel) (za (za zb)) E (zq E E)<|by exact a_takeP 6 E (by decide +kernel) (za (za zb)) E (zj E)<|by exact zd 7 E (by decide +kernel) (za (za zb)) E<|by exact zd 8 E (by decide +kernel) (za (za zb)) E<|by exact a_takeP 9 E (by decide +kernel) (za (za zb)) E (zq E E)<|by exact a_takeP 10 E (by decide +kernel) (za (za zb)) E (zj E)<|by exact zd 11 E (by decide +kernel) (za (za zb)) E<|by exact zd 12 E (by decide +kernel) (za (za zb)) E<|by exact zd 13 E (by decide +kernel) (za (za zb)) E<|by exact zd 14 E (by decide +kernel) (za (za zb)) E<|by exact zd 15 E (by decide +kernel) (za (za zb)) E<|by exact a_takeP 16 E (by decide +kernel) (za (za zb)) E (zq E E)<|by exact a_takeP 17 E (by decide +kernel) (za (za zb)) E (zj E)<|by exact zd 18 E (by decide +kernel) (za (za zb)) E<|by exact zd 19 E (by decide +kernel) (za (za zb)) E<|by exact zd 20 E (by decide +kernel) (za (za zb)) E<|by exact zd 21 E (by decide +kernel) (za (za zb)) E<|by exact zd 22 E (by decide +kernel) (za (za zb)) E<|by exact zd 23 E (by decide +kernel) (za (za zb)) E<|by exact zd 24 E (by decide +kernel) (za (za zb)) E<|by exact zd 25 E (by decide +kernel) (za (za zb)) E<|by exact zd 26 E (by decide +kernel) (za (za zb)) E<|by exact zd 27 E (by decide +kernel) (za (za zb)) E<|by exact zd 28 E (by decide +kernel) (za (za zb)) E<|by exact a_takeP 29 E (by decide +kernel) (za (za zb)) E (zq E E)<|by exact zE (by decide +kernel)<|by exact zk<|c_t E E<|csr<|gv E E<|nx<|zm<|ze<|zl Tryz.results49 (zf E zi) ⟨_,E,H13⟩) fun c_4 H13=>a_takeP 1 E (by decide +kernel) (za (za zb)) E (yF (qH (p:=m) E E) c_4)<|by exact a_takeP 2 E (by decide +kernel) (za (za zb)) E (zj E)<|by exact a_takeP 3 E (by decide +kernel) (za (za zb)) E (zj E)<|by exact iteK H13 (fun c_5 H14=>a_takeP 4 E (by decide +kernel) (za (za zb)) E (yT (qH (p:=p) E E) c_5)<|by exact a_takeP 5 E (by decide +kernel) (za (za zb)) E (zq E E)<|by exact a_takeP 6 E (by decide +kernel) (za (za zb)) E (zj E)<|by exact zd 7 E (by decide +kernel) (za (za zb)) E<|by exact zd 8 E (by decide +kernel) (za (za zb)) E<|by exact a_takeP 9 E (by decide +kernel) (za (za zb)) E (zq E E)<|by exact a_takeP 10 E (by decide +kernel) (za (za zb)) E (zj E)<|by exact zd 11 E (by decide +kernel) (za (za zb)) E<|by exact zd 12 E (by decide +kernel) (za (za zb)) E<|by exact zd 13 E (by decide +kernel) (za (za zb)) E<|by exact zd 14 E (by decide +kernel) (za (za zb)) E<|by exact zd 15 E (by decide +kernel) (za (za zb)) E<|by exact a_takeP 16 E (by decide +kernel) (za (za zb)) E (zq E E)<|by exact a_takeP 17 E (by decide +kernel) (za (za zb)) E (zj E)<|by exact zd 18 E (by decide +kernel) (za (za zb)) E<|by exact zd 19 E (by decide +kernel) (za (za zb)) E<|by exact zd 20 E (by decide +kernel) (za (za zb)) E<|by exact zd 21 E (by decide +kernel) (za (za zb)) E<|by exact zd 22 E (by decide +kernel) (za (za zb)) E<|by exact zd 23 E (by decide +kernel) (za (za zb)) E<|by exact zd 24 E (by decide +kernel) (za (za zb)) E<|by exact zd 25 E (by decide +kernel) (za (za zb)) E<|by exact zd 26 E (by decide +kernel) (za (za zb)) E<|by exact zd 27 E (by decide +kernel) (za (za zb)) E<|by exact zd 28 E (by decide +kernel) (za (za zb)) E<|by exact a_takeP 29 E (by decide +kernel) (za (za zb)) E (zq E E)<|by exact zE (by decide +kernel)<|by exact zk<|c_t E E<|csr<|gv E E<|nx<|zm<|ze<|zl Tryz.results49 (zf E zi) ⟨_,E,H14⟩) fun c_5 H14=>a_takeP 4 E (by decide +kernel) (za (za zb)) E (yF (qH (p:=p) E E) c_5)<|by exact a_takeP 5 E (by decide +kernel) (za (za zb)) E (zq E E)<|by exact a_takeP 6 E (by decide +kernel) (za (za zb)) E (zj E)<|by exact a_takeP 7 E (by decide +kernel) (za (za zb)) E (zj E)<|by exact iteK H14 (fun c_6 H15=>a_takeP 8 E (by decide +kernel) (za (za zb)) E (yT (qH (p:=s) E E) c_6)<|by exact a_takeP 9 E (by decide +kernel) (za (za zb)) E (zq E E)<|by exact a_takeP 10 E (by decide +kernel) (za (za zb)) E (zj E)<|by exact zd 11 E (by decide +kernel) (za (za zb)) E<|by exact zd 12 E (by decide +kernel) (za (za zb)) E<|by exact zd 13 E (by decide +kernel) (za (za zb)) E<|by exact zd 14 E (by decide +kernel) (za (za zb)) E<|by exact zd 15 E (by decide +kernel) (za (za zb)) E<|by exact a_takeP 16 E (by decide +kernel) (za (za zb)) E (zq E E)<|by exact a_takeP 17 E (by decide +kernel) (za (za zb)) E (zj E)<|by exact zd 18 E (by decide +kernel) (za (za zb)) E<|by exact zd 19 E (by decide +kernel) (za (za zb)) E<|by exact zd 20 E (by decide +kernel) (za (za zb)) E<|by exact zd 21 E (by decide +kernel) (za (za zb)) E<|by exact zd 22 E (by decide +kernel) (za (za zb)) E<|by exact zd 23 E (by decide +kernel) (za (za zb)) E<|by exact zd 24 E (by decide +kernel) (za (za zb)) E<|by exact zd 25 E (by decide +kernel) (za (za zb)) E<|by exact zd 26 E (by decide +kernel) (za (za zb)) E<|by exact zd 27 E (by decide +kernel) (za (za zb)) E<|by exact zd 28 E (by decide +kernel) (za (za zb)) E<|by exact a_takeP 29 E (by decide +kernel) (za (za zb)) E (zq E E)<|by exact zE (by decide +kernel)<|by exact zk<|c_t E E<|csr<|gv E E<|nx<|zm<|ze<|zl Tryz.results49 (zf E zi) ⟨_,E,H15⟩) fun c_6 H15=>a_takeP 8 E (by decide +kernel) (za (za zb)) E (yF (qH (p:=s) E E) c_6)<|by exact a_takeP 9 E (by decide +kernel) (za (za zb)) E (zq E E)<|by exact a_takeP 10 E (by decide +kernel) (za (za zb)) E (zj E)<|by exact a_takeP 11 E (by decide +kernel) (za (za zb)) E (zj E)<|by exact by obtain⟨b_2,o,rfl,H16⟩:=H15;exact a_takeP 12 E (by decide +kernel) (za (za zb)) E (qb E)<|by exact a_takeP 13 E (by decide +kernel) (za (za zb)) E (zD E E)<|by exact gx H16 fun t_3 ht_3 H17=>zA 14 E (by decide +kernel) (za (za zb)) E (zB E) (zV ht_3)<|by exact iteK H17 (fun c_7 H18=>a_takeP 15 E (by decide +kernel) (za (za zb)) E (yT (qH (p:=t_3) E E) c_7)<|by exact a_takeP 16 E (by decide +kernel) (za (za zb)) E (zq E E)<|by exact a_takeP 17 E (by decide +kernel) (za (za zb)) E (zj E)<|by exact zd 18 E (by decide +kernel) (za (za zb)) E<|by exact zd 19 E (by decide +kernel) (za (za zb)) E<|by exact zd 20 E (by decide +kernel) (za (za zb)) E<|by exact zd 21 E (by decide +kernel) (za (za zb)) E<|by exact zd 22 E (by decide +kernel) (za (za zb)) E<|by exact zd 23 E (by decide +kernel) (za (za zb)) E<|by exact zd 24 E (by decide +kernel) (za (za zb)) E<|by exact zd 25 E (by decide +kernel) (za (za zb)) E<|by exact zd 26 E (by decide +kernel) (za (za zb)) E<|by exact zd 27 E (by decide +kernel) (za (za zb)) E<|by exact zd 28 E (by decide +kernel) (za (za zb)) E<|by exact a_takeP 29 E (by decide +kernel) (za (za zb)) E (zq E E)<|by exact zE (by decide +kernel)<|by exact zk<|c_t E E<|csr<|gv E E<|nx<|zm<|ze<|zl Tryz.results49 (zf E zi) ⟨_,E,H18⟩) fun c_7 H18=>a_takeP 15 E (by decide +kernel) (za (za zb)) E (yF (qH (p:=t_3) E E) c_7)<|by exact a_takeP 16 E (by decide +kernel) (za (za zb)) E (zq E E)<|by exact a_takeP 17 E (by decide +kernel) (za (za zb)) E (zj E)<|by exact a_takeP 18 E (by decide +kernel) (za (za zb)) E (zj E)<|by exact a_takeP 19 E (by decide +kernel) (za (za zb)) E (qb E)<|by exact a_takeP 20 E (by decide +kernel) (za (za zb)) E (zD E E)<|by exact gx H18 fun t_4 ht_4 H19=>zA 21 E (by decide +kernel) (za (za zb)) E (zB E) (zV ht_4)<|by exact by obtain⟨b_3,o_1,rfl,H20⟩:=H19;exact a_takeP 22 E (by decide +kernel) (za (za zb)) E (qb E)<|by exact a_takeP 23 E (by decide +kernel) (za (za zb)) E (zD E E)<|by exact gx H20 fun t_5 ht_5 H21=>zA 24 E (by decide +kernel) (za (za zb)) E (zB E) (zV ht_5)<|by exact a_takeP 25 E (by decide +kernel) (za (za zb)) E (qy E)<|by exact a_takeP 26 E (by decide +kernel) (za (za zb)) E (zj E)<|by exact zJ 27 (by decide +kernel) E<|by exact qW E E H21 fun t_6 Sx_5 H22=>by obtain⟨k,H23⟩:=H22;exact by obtain⟨k_1,H24⟩:=H23;exact by obtain⟨k_2,H25⟩:=H24;exact zu<|zS (zy (zV k) (zy (zV k_1) (zy (zV k_2) zF)))<|iteK H25 (fun c_8 H26=>a_takeP 28 E (by decide +kernel) (za (za zb)) E (yT (zI E E) c_8)<|by exact a_takeP 29 E (by decide +kernel) (za (za zb)) E (zq E E)<|by exact zE (by decide +kernel)<|by exact zk<|c_t E E<|csr<|gv E E<|nx<|zm<|ze<|zl Tryz.results49 (zf E zi) ⟨_,E,H26⟩) fun c_8 H26=>a_takeP 28 E (by decide +kernel) (za (za zb)) E (yF (zI E E) c_8)<|by exact a_takeP 29 E (by decide +kernel) (za (za zb)) E (zq E E)<|by exact zE (by decide +kernel)<|by exact zk<|cfs E E<|hJx_1 () _ _ _ _ [] H26 E ⟨E,E,E,E,True.intro⟩ E)
def ql (S:Mem) (h:Pt) (Q:Int→Mem→Prop):Prop:=
 nn h fun b o=>
 gP (S.cell b o) fun t=>
 gP (S.cell b (o+1)) fun t_1=>
 gL (S.cell b (o+4)) fun t_2=>
 gP (S.cell b (o+3)) fun t_3=>
 qc S t t_1 t_2 t_3 fun t_4 Sx=>
 Q t_4 Sx
theorem yE {S:Mem} {h:Pt} {Q:Int→Mem→Prop} (H:ql S h Q):qx S h Q:=by
 unfold ql at H
 exact Tr.intro Tryz.func48 E Tryz.ntmps48 E fun w0=>csr<|gv E E<|nx<|zx<|zY (by kernel_rfl)<|aTP 0 E (by decide +kernel) E (zj E)<|by exact by obtain⟨b,o,rfl,H1⟩:=H;exact aTP 1 E (by decide +kernel) E (qb E)<|by exact aTP 2 E (by decide +kernel) E (zD E E)<|by exact gx H1 fun t ht H2=>aT 3 E (by decide +kernel) E (zB E) (zV ht)<|by exact aTP 4 E (by decide +kernel) E (zj E)<|by exact aTP 5 E (by decide +kernel) E (qb E)<|by exact aTP 6 E (by decide +kernel) E (zD E E)<|by exact gx H2 fun t_1 ht_1 H3=>aT 7 E (by decide +kernel) E (zB E) (zV ht_1)<|by exact aTP 8 E (by decide +kernel) E (zj E)<|by exact aTP 9 E (by decide +kernel) E (qb E)<|by exact aTP 10 E (by decide +kernel) E (zD E E)<|by exact gx H3 fun t_2 ht_2 H4=>aT 11 E (by decide +kernel) E (zB E) (zV ht_2)<|by exact aTP 12 E (by decide +kernel) E (zj E)<|by exact aTP 13 E (by decide +kernel) E (qb E)<|by exact aTP 14 E (by decide +kernel) E (zD E E)<|by exact gx H4 fun t_3 ht_3 H5=>aT 15 E (by decide +kernel) E (zB E) (zV ht_3)<|by exact zJ 16 (by decide +kernel) E<|by exact qW E E H5 fun t_4 Sx H6=>zu<|zS zF<|aTP 17 E (by decide +kernel) E (zW E)<|by exact zE (by decide +kernel)<|by exact zk<|zm<|zl Tryz.results48 (zf E zi) ⟨_,E,H6⟩
def qr (S:Mem) (form:Int) (frames:Int) (region:Int) (acts:Sl) (seed:Sl) (Q:Pt→Mem→Prop):Prop:=
 jz S form frames region fun t t_1 Sx=>
 jn (fun (Sx_1:Mem)=>
 jn (fun (Sx_2:Mem)=>
 Q t Sx_2) fun Jx=>
 lp (fun Xx (i:Int) (Sx_3:Mem)=>
 jn (fun (Sx_4:Mem)=>
 jn (fun (Sx_5:Mem)=>
 Xx (IntKind.i64.wrap (i+1)) Sx_5) fun Jx_1=>
 sl acts fun b o n n_1=>
 0≤i∧i<((n:Nat):Int) ∧
 gI (Sx_4.cell b (o+i.toNat*1)) .u8 fun t_2=>
 0≤i∧i<((n:Nat):Int) ∧
 gI (Sx_4.cell b (o+i.toNat*1)) .u8 fun t_3=>
 jn (fun (t_4:Bool) (Sx_6:Mem)=>
 if t_4=true then
 0≤i∧i<((n:Nat):Int) ∧
 gI (Sx_6.cell b (o+i.toNat*1)) .u8 fun t_5=>
 qZ Sx_6 seed fun t_6 Sx_7=>
 Sx_7.cell b (o+i.toNat*1)=some (.int .u8 t_5) ∧
 yt Sx_7 t (IntKind.i64.wrap (1+(IntKind.i64.wrap (Int.tmod t_2 3)))) 6 (IntKind.i64.wrap (1+(IntKind.i64.wrap (Int.tmod t_5 4)))) t_6 fun t_7 t_8 Sx_8=>
 Sx_8.cell b (o+i.toNat*1)=some (.int .u8 t_5) ∧
 Jx_1 Sx_8
 else
 if Int.tmod (IntKind.u8.wrap (Int.tdiv t_3 3)) 8=2 then
 gC Sx_6 t (IntKind.i64.wrap (Int.tmod t_2 3)) (Int.tmod (IntKind.i64.wrap ((IntKind.i64.wrap (Int.tmod t_2 3))+1)) 3) true fun t_9 Sx_9=>
 Jx_1 Sx_9
 else
 if Int.tmod (IntKind.u8.wrap (Int.tdiv t_3 3)) 8=3 then
 0≤i∧i<((n:Nat):Int) ∧
 gI (Sx_6.cell b (o+i.toNat*1)) .u8 fun t_10=>
 fI Sx_6 t (IntKind.i64.wrap (Int.tmod t_2 3)) t_10 fun t_11 Sx_10=>
 gz Sx_10 t fun Sx_11=>
 Jx_1 Sx_11
 else
 if Int.tmod (IntKind.u8.wrap (Int.tdiv t_3 3)) 8=4 then
 0≤i∧i<((n:Nat):Int) ∧
 gI (Sx_6.cell b (o+i.toNat*1)) .u8 fun t_12=>
 if Int.tmod t_12 2=0 then
 kW Sx_6 t (IntKind.i64.wrap (Int.tmod t_2 3)) fun t_13 Sx_12=>
 Jx_1 Sx_12
 else
 Jx_1 Sx_6
 else
 lp (fun Xx_1 (k_2:Int) (Sx_13:Mem)=>
 jn (fun (Sx_14:Mem)=>
 kH Sx_14 t (IntKind.i64.wrap (Int.tmod t_2 3)) 0 fun t_14 Sx_15=>
 kH Sx_15 t (IntKind.i64.wrap (Int.tmod t_2 3)) 1 fun t_15 Sx_16=>
 Xx_1 (IntKind.i64.wrap (k_2+1)) Sx_16) fun Jx_2=>
 if k_2<30 then
 Jx_2 Sx_13
 else
 Jx_1 Sx_13) 0 Sx_6) fun Jx_3=>
 if Int.tmod (IntKind.u8.wrap (Int.tdiv t_3 3)) 8=0 then
 Jx_3 true Sx_4
 else
 if Int.tmod (IntKind.u8.wrap (Int.tdiv t_3 3)) 8=1 then
 Jx_3 true Sx_4
 else
 Jx_3 false Sx_4) fun Jx_4=>
 if i<(acts.n:Int) then
 Jx_4 Sx_3
 else
 Jx Sx_3) 0 Sx_1) fun Jx_5=>
 if t_1≠0 then
 Q none Sx
 else
 Jx_5 Sx
theorem yW {S:Mem} {form:Int} {frames:Int} {region:Int} {acts:Sl} {seed:Sl} {Q:Pt→Mem→Prop} (H:qr S form frames region acts seed Q):qz S form frames region acts seed Q:=by
 unfold qr at H
 exact Tr.intro Tryz.func47 E Tryz.ntmps47 E fun w0=>csr<|gv E E<|nxr<|mv E E<|mv E E<|mv E E<|zbe E E H fun t t_1 Sx H1=>mv E E<|s_p E (zp E E)<|s_p E (zp E E)<|gv E E<|gv E E<|nx<|zo H1 (fun (J:Mem→Prop) (z:Unit) S=>J S) (fun z=>⟨100,[(3,eL acts),(4,eL seed),(11,eP t)]⟩) (fun z=>[]) (fun _ Sx_1 H2=>zo H2 (fun (J:Mem→Prop) (z:Unit) S=>J S) (fun z=>⟨100,[(11,eP t)]⟩) (fun z=>[]) (fun _ Sx_2 H3=>csr<|mv E E<|gv E E<|nx<|zm<|zl Tryz.results47 (zf E zi) ⟨_,E,H3⟩) (fun Jx hJx H4=>csr<|gv E E<|nx<|zs<|qh (fun z=>⟨100,[(3,eL acts),(4,eL seed),(11,eP t),(13,.int .i64 z)]⟩) (fun z=>[]) 0 (idx:=[]) H4 E ⟨E,E,E,E,True.intro⟩ E<|fun Xx hXx i Sx_3 H5=>zo H5 (fun (J:Mem→Prop) (z:Unit) S=>J S) (fun z=>⟨100,[(3,eL acts),(4,eL seed),(11,eP t),(13,.int .i64 i)]⟩) (fun z=>[]) (fun _ Sx_4 H6=>zo H6 (fun (J:Mem→Prop) (z:Unit) S=>J S) (fun z=>⟨100,[(3,eL acts),(4,eL seed),(11,eP t),(13,.int .i64 i)]⟩) (fun z=>[]) (fun _ Sx_5 H7=>zr<|mv E E<|s_p E (zU E E)<|gv E E<|zu<|hXx (IntKind.i64.wrap (i+1)) _ _ _ _ [] H7 E ⟨E,E,E,E,True.intro⟩ E) (fun Jx_1 hJx_1 H8=>zs<|csr<|mv E E<|mv E E<|by obtain⟨b,o,n,n_1,rfl,H9⟩:=H8;exact an2 H9 fun c c_1 H10=>s_p E (qG E E c c_1 E)<|gx H10 fun t_2 ht_2 H11=>s_v E (zB E) (zV ht_2)<|s_p E (gn E E (by decide))<|s_p E (yl ⟨_,Tryz.underlying5⟩ E)<|gv E E<|nxr<|mv E E<|mv E E<|an2 H11 fun c_2 c_3 H12=>s_p E (qG E E c_2 c_3 E)<|gx H12 fun t_3 ht_3 H13=>s_v E (zB E) (zV ht_3)<|s_p E (zap E E (by decide))<|s_p E (gn E E (by decide))<|nx<|zs<|zo H13 (fun (J:Bool→Mem→Prop) (z:Bool) S=>J z S) (fun z=>⟨100,[(3,.slice (some ⟨b,o,none⟩) n n_1),(4,eL seed),(11,eP t),(13,.int .i64 i),(14,.int .i64 (IntKind.i64.wrap (Int.tmod t_2 3))),(42,.int .u8 (Int.tmod (IntKind.u8.wrap (Int.tdiv t_3 3)) 8)),(53,.bool z)]⟩) (fun z=>[]) (fun t_4 Sx_6 H14=>by have H15:=vY H14;rcases H15 with ⟨c_4,H16⟩ | ⟨c_4,H16⟩;exact (c_t E c_4<|zY (by kernel_rfl)<|a_takeP 0 E (by decide +kernel) (zc (zc (za (za (zc (za zb)))))) E (zj E)<|by exact a_takeP 1 E (by decide +kernel) (zc (zc (za (za (zc (za zb)))))) E (zj E)<|by exact a_takeP 2 E (by decide +kernel) (zc (zc (za (za (zc (za zb)))))) E (zU E E)<|by exact a_takeP 3 E (by decide +kernel) (zc (zc (za (za (zc (za zb)))))) E (zj E)<|by exact a_takeP 4 E (by decide +kernel) (zc (zc (za (za (zc (za zb)))))) E (zj E)<|by exact an2 H16 fun c_5 c_6 H17=>a_takeP 5 E (by decide +kernel) (zc (zc (za (za (zc (za zb)))))) E (qG E E c_5 c_6 E)<|by exact gx H17 fun t_5 ht_5 H18=>zA 6 E (by decide +kernel) (zc (zc (za (za (zc (za zb)))))) E (zB E) (zV ht_5)<|by exact a_takeP 7 E (by decide +kernel) (zc (zc (za (za (zc (za zb)))))) E (gn E E (by decide))<|by exact a_takeP 8 E (by decide +kernel) (zc (zc (za (za (zc (za zb)))))) E (yl ⟨_,Tryz.underlying5⟩ E)<|by exact a_takeP 9 E (by decide +kernel) (zc (zc (za (za (zc (za zb)))))) E (zU E E)<|by exact a_takeP 10 E (by decide +kernel) (zc (zc (za (za (zc (za zb)))))) E (zj E)<|by exact zJ 11 (by decide +kernel) E<|by exact qW E E H18 fun t_6 Sx_7 H19=>by obtain⟨k,H20⟩:=H19;exact zu<|zS (zy (zV k) zF)<|zJ 12 (by decide +kernel) E<|by exact zbe E E H20 fun t_7 t_8 Sx_8 H21=>by obtain⟨k_1,H22⟩:=H21;exact zu<|zS (zy (zV k_1) zF)<|zE (by decide +kernel)<|by exact zQ<|zQ<|hJx_1 () _ _ _ _ [] H22 E ⟨E,E,E,E,True.intro⟩ E);exact (c_f E c_4<|csr<|iteK H16 (fun c_7 H23=>ceT E E E (c_7)<|gv E E<|nx<|ctr E E<|mv E E<|mv E E<|mv E E<|s_p E (zU E E)<|s_p E (gn E E (by decide))<|qW E E H23 fun t_9 Sx_9 H24=>zu<|zQ<|zQ<|hJx_1 () _ _ _ _ [] H24 E ⟨E,E,E,E,True.intro⟩ E) fun c_7 H23=>ceF E E E (c_7)<|gv E E<|nx<|c_f E E<|csr<|iteK H23 (fun c_8 H25=>ceT E E E (c_8)<|gv E E<|nx<|c_t E E<|csr<|mv E E<|mv E E<|mv E E<|mv E E<|an2 H25 fun c_9 c_10 H26=>s_p E (qG E E c_9 c_10 E)<|gx H26 fun t_10 ht_10 H27=>s_v E (zB E) (zV ht_10)<|qW E E H27 fun t_11 Sx_10 H28=>nx<|zr<|mv E E<|zdR E E H28 fun Sx_11 H29=>zu<|zQ<|zQ<|hJx_1 () _ _ _ _ [] H29 E ⟨E,E,E,E,True.intro⟩ E) fun c_8 H25=>ceF E E E (c_8)<|gv E E<|nx<|c_f E E<|csr<|iteK H25 (fun c_11 H30=>ceT E E E (c_11)<|gv E E<|nx<|c_t E E<|csr<|mv E E<|mv E E<|an2 H30 fun c_12 c_13 H31=>s_p E (qG E E c_12 c_13 E)<|gx H31 fun t_12 ht_12 H32=>s_v E (zB E) (zV ht_12)<|s_p E (gn E E (by decide))<|iteK H32 (fun c_14 H33=>ceT E E E (c_14)<|nx<|ctr E E<|mv E E<|mv E E<|qW E E H33 fun t_13 Sx_12 H34=>zu<|zQ<|zQ<|hJx_1 () _ _ _ _ [] H34 E ⟨E,E,E,E,True.intro⟩ E) fun c_14 H33=>ceF E E E (c_14)<|nx<|cfs E E<|zQ<|zQ<|hJx_1 () _ _ _ _ [] H33 E ⟨E,E,E,E,True.intro⟩ E) fun c_11 H30=>ceF E E E (c_11)<|gv E E<|nx<|c_f E E<|csr<|gv E E<|nx<|zs<|qh (fun z=>⟨100,[(3,.slice (some ⟨b,o,none⟩) n n_1),(4,eL seed),(11,eP t),(13,.int .i64 i),(14,.int .i64 (IntKind.i64.wrap (Int.tmod t_2 3))),(15,.int .i64 z)]⟩) (fun z=>[]) 0 (idx:=[]) H30 E ⟨E,E,E,E,E,E,True.intro⟩ E<|fun Xx_1 hXx_1 k_2 Sx_13 H35=>zo H35 (fun (J:Mem→Prop) (z:Unit) S=>J S) (fun z=>⟨100,[(3,.slice (some ⟨b,o,none⟩) n n_1),(4,eL seed),(11,eP t),(13,.int .i64 i),(14,.int .i64 (IntKind.i64.wrap (Int.tmod t_2 3))),(15,.int .i64 k_2)]⟩) (fun z=>[]) (fun _ Sx_14 H36=>zx<|zs<|csr<|mv E E<|mv E E<|qW E E H36 fun t_14 Sx_15 H37=>nx<|zr<|mv E E<|mv E E<|qW E E H37 fun t_15 Sx_16 H38=>zu<|zQ<|zk<|zr<|mv E E<|s_p E (zU E E)<|gv E E<|zu<|by exact hXx_1 (IntKind.i64.wrap (k_2+1)) _ _ _ _ [] H38 E ⟨E,E,E,E,E,E,True.intro⟩ E) (fun Jx_2 hJx_2 H39=>csr<|mv E E<|iteK H39 (fun c_15 H40=>s_p E (yT (zw E E) c_15)<|nx<|c_t E E<|qg<|hJx_2 () _ _ _ _ [] H40 E ⟨E,E,E,E,E,E,True.intro⟩ E) fun c_15 H40=>s_p E (yF (zw E E) c_15)<|nx<|c_f E E<|zT<|zg<|zg<|zv<|zQ<|zQ<|hJx_1 () _ _ _ _ [] H40 E ⟨E,E,E,E,True.intro⟩ E))) (fun Jx_3 hJx_3 H41=>csr<|iteK H41 (fun c_16 H42=>ceT E E E (c_16)<|gv E E<|nx<|c_t E E<|qg<|hJx_3 true _ _ _ _ [] H42 E ⟨E,E,E,E,E,E,E,True.intro⟩ E) fun c_16 H42=>ceF E E E (c_16)<|gv E E<|nx<|cfr E E<|iteK H42 (fun c_17 H43=>ceT E E E (c_17)<|gv E E<|zu<|hJx_3 true _ _ _ _ [] H43 E ⟨E,E,E,E,E,E,E,True.intro⟩ E) fun c_17 H43=>ceF E E E (c_17)<|gv E E<|zu<|hJx_3 false _ _ _ _ [] H43 E ⟨E,E,E,E,E,E,E,True.intro⟩ E))) (fun Jx_4 hJx_4 H44=>csr<|mv E E<|mv E E<|s_p E (qy E)<|iteK H44 (fun c_18 H45=>s_p E (yT (zw E E) c_18)<|nx<|c_t E E<|qg<|hJx_4 () _ _ _ _ [] H45 E ⟨E,E,E,E,True.intro⟩ E) fun c_18 H45=>s_p E (yF (zw E E) c_18)<|nx<|c_f E E<|zT<|zg<|zg<|zv<|hJx () _ _ _ _ [] H45 E ⟨E,True.intro⟩ E))) (fun Jx_5 hJx_5 H46=>csr<|mv E E<|iteK H46 (fun c_19 H47=>s_p E (yT (zI E E) c_19)<|nx<|c_t E E<|csr<|gv E E<|nx<|zm<|ze<|zl Tryz.results47 (zf E zi) ⟨_,E,H47⟩) fun c_19 H47=>s_p E (yF (zI E E) c_19)<|nx<|cfs E E<|hJx_5 () _ _ _ _ [] H47 E ⟨E,E,E,True.intro⟩ E)
def qK (S:Mem) (Q:Bool→Mem→Prop):Prop:=
 al S 5 ([.int .u8 0,.int .u8 1]) fun b Sx=>
 qz Sx 1 64 4 (⟨some (b,0),2,2⟩) (⟨none,0,0⟩) fun t Sx_1=>
 jn (fun (Sx_2:Mem)=>
 qx Sx_2 t fun t_1 Sx_3=>
 if t_1=0 then
 qc Sx_3 none none (⟨none,0,0⟩) none fun t_2 Sx_4=>
 Q (decide (t_2=1)) Sx_4
 else
 Q false Sx_3) fun Jx=>
 if t=none then
 Q false Sx_1
 else
 Jx Sx_1
theorem wB {S:Mem} {Q:Bool→Mem→Prop} (H:qK S Q):ya S Q:=by
 unfold qK at H
 exact Tr.intro Tryz.func46 E Tryz.ntmps46 E fun w0=>csr<|gv E E<|nxr<|zaB E E (by decide) E fun b=>vy 0 E fun hb=>have H1:=H b hb;qW E E H1 fun t Sx_1 H2=>gv E E<|nx<|zo H2 (fun (J:Mem→Prop) (z:Unit) S=>J S) (fun z=>⟨13,[(1,eP t)]⟩) (fun z=>[]) (fun _ Sx_2 H3=>csr<|mv E E<|qW E E H3 fun t_1 Sx_3 H4=>iteK H4 (fun c H5=>ceT E E E (c)<|mv E E<|qW E E H5 fun t_2 Sx_4 H6=>s_p E (xV E E)<|pk E E E<|gv E E<|nx<|zm<|zl Tryz.results46 (zf E zi) ⟨_,E,H6⟩) fun c H5=>ceF E E E (c)<|mv E E<|sk2 E E<|pk E E E<|gv E E<|nx<|zm<|zl Tryz.results46 (zf E zi) ⟨_,E,H5⟩) (fun Jx hJx H7=>csr<|mv E E<|iteK H7 (fun c_1 H8=>s_p E (yT (qH (p:=t) E E) c_1)<|nx<|c_t E E<|csr<|gv E E<|nx<|zm<|ze<|zl Tryz.results46 (zf E zi) ⟨_,E,H8⟩) fun c_1 H8=>s_p E (yF (qH (p:=t) E E) c_1)<|nx<|cfs E E<|hJx () _ _ _ _ [] H8 E ⟨E,True.intro⟩ E)
end Go.Proofs.YtabdpmnhjlmnlaaGreatDoor
end
