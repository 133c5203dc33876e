/- Texts of this work,joined by program (pack.py): PsZ,PsM,PsK,PsI,PsJ,PtU. -/
import Derived.Test.YtabdpmnhjlmnlaaGreatDoorQXB
set_option linter.unusedVariables false
section
namespace Go.Proofs.YtabdpmnhjlmnlaaGreatDoor
open Go Go.Pt
attribute [local irreducible] Code.wp Back bodyPost wpList FR WL WC WQ WA AW Tr Yc HC AllC
set_option maxRecDepth 20000
set_option maxHeartbeats 4000000
set_option linter.unusedVariables false
def zA (S:Mem) (s:Sl) (Q:Sl→Mem→Prop):Prop:=
 if s.p=none then
 Q (⟨none,0,0⟩) S
 else
 al S 43 ([]) fun b Sx=>
 sp Sx s 26 fun vs=>
 ap Sx 43 26 192 z43 (⟨some (b,0),0,0⟩) s.n vs fun t Sx_1=>
 Q t Sx_1
theorem qw {S:Mem} {s:Sl} {Q:Sl→Mem→Prop} (H:zA S s Q):zQ S s Q:=by
 unfold zA at H
 exact Tr.intro Tryz.func244 E Tryz.ntmps244 E fun w0=>csr<|gv E E<|nx<|zF<|csr<|mv E E<|iteK H (fun c H1=>s_p E (yT (wz (p:=s.p) E E) c)<|nx<|c_t E E<|csr<|gv E E<|nx<|zm<|zc<|zl Tryz.results244 (zd E zg) ⟨_,E,H1⟩) fun c H1=>s_p E (yF (wz (p:=s.p) E E) c)<|nx<|cfs E E<|zr<|csr<|zao E E (by decide) E fun b=>xy 0 E fun hb=>have H2:=H1 b hb;mv E E<|by obtain⟨vs,h,c_1,H3⟩:=H2;exact kd (sx:=⟨some (b,0),0,0⟩) (vs:=vs) E E E ((vl h).1) ((vl (P:=Tryz.prog) (w0:=w0) (S0:=S) (V:=[]) h).2) c_1 (by decide) H3 fun t Sx_1 H4=>gv E E<|nx<|zm<|zl Tryz.results244 (zd E zg) ⟨_,E,H4⟩
def qX (S:Mem) (b:Sl) (Q:Sl→Mem→Prop):Prop:=
 if b.p=none then
 Q (⟨none,0,0⟩) S
 else
 al S 5 ([]) fun b_1 Sx=>
 sp Sx b 1 fun vs=>
 ap Sx 5 1 1 [.int .u8 0] (⟨some (b_1,0),0,0⟩) b.n vs fun t Sx_1=>
 Q t Sx_1
theorem xJ {S:Mem} {b:Sl} {Q:Sl→Mem→Prop} (H:qX S b Q):xz S b Q:=by
 unfold qX at H
 exact Tr.intro Tryz.func245 E Tryz.ntmps245 E fun w0=>csr<|gv E E<|nx<|zF<|csr<|mv E E<|iteK H (fun c H1=>s_p E (yT (wz (p:=b.p) E E) c)<|nx<|c_t E E<|csr<|gv E E<|nx<|zm<|zc<|zl Tryz.results245 (zd E zg) ⟨_,E,H1⟩) fun c H1=>s_p E (yF (wz (p:=b.p) E E) c)<|nx<|cfs E E<|zr<|csr<|zao E E (by decide) E fun b_1=>xy 0 E fun hb_1=>have H2:=H1 b_1 hb_1;mv E E<|by obtain⟨vs,h,c_1,H3⟩:=H2;exact kd (sx:=⟨some (b_1,0),0,0⟩) (vs:=vs) E E E ((vl h).1) ((vl (P:=Tryz.prog) (w0:=w0) (S0:=S) (V:=[]) h).2) c_1 (by decide) H3 fun t Sx_1 H4=>gv E E<|nx<|zm<|zl Tryz.results245 (zd E zg) ⟨_,E,H4⟩
def zW (S:Mem) (s:Sl) (Q:Sl→Mem→Prop):Prop:=
 if s.p=none then
 Q (⟨none,0,0⟩) S
 else
 al S 3 ([]) fun b Sx=>
 sp Sx s 1 fun vs=>
 ap Sx 3 1 8 [.int .i64 0] (⟨some (b,0),0,0⟩) s.n vs fun t Sx_1=>
 Q t Sx_1
theorem yQ {S:Mem} {s:Sl} {Q:Sl→Mem→Prop} (H:zW S s Q):qS S s Q:=by
 unfold zW at H
 exact Tr.intro Tryz.func246 E Tryz.ntmps246 E fun w0=>csr<|gv E E<|nx<|zF<|csr<|mv E E<|iteK H (fun c H1=>s_p E (yT (wz (p:=s.p) E E) c)<|nx<|c_t E E<|csr<|gv E E<|nx<|zm<|zc<|zl Tryz.results246 (zd E zg) ⟨_,E,H1⟩) fun c H1=>s_p E (yF (wz (p:=s.p) E E) c)<|nx<|cfs E E<|zr<|csr<|zao E E (by decide) E fun b=>xy 0 E fun hb=>have H2:=H1 b hb;mv E E<|by obtain⟨vs,h,c_1,H3⟩:=H2;exact kd (sx:=⟨some (b,0),0,0⟩) (vs:=vs) E E E ((vl h).1) ((vl (P:=Tryz.prog) (w0:=w0) (S0:=S) (V:=[]) h).2) c_1 (by decide) H3 fun t Sx_1 H4=>gv E E<|nx<|zm<|zl Tryz.results246 (zd E zg) ⟨_,E,H4⟩
def zt (S:Mem) (s:Sl) (Q:Sl→Mem→Prop):Prop:=
 if s.p=none then
 Q (⟨none,0,0⟩) S
 else
 al S 193 ([]) fun b Sx=>
 sp Sx s 3 fun vs=>
 ap Sx 193 3 24 [.int .u64 0,.int .i64 0,.int .i64 0] (⟨some (b,0),0,0⟩) s.n vs fun t Sx_1=>
 Q t Sx_1
theorem qe {S:Mem} {s:Sl} {Q:Sl→Mem→Prop} (H:zt S s Q):zL S s Q:=by
 unfold zt at H
 exact Tr.intro Tryz.func247 E Tryz.ntmps247 E fun w0=>csr<|gv E E<|nx<|zF<|csr<|mv E E<|iteK H (fun c H1=>s_p E (yT (wz (p:=s.p) E E) c)<|nx<|c_t E E<|csr<|gv E E<|nx<|zm<|zc<|zl Tryz.results247 (zd E zg) ⟨_,E,H1⟩) fun c H1=>s_p E (yF (wz (p:=s.p) E E) c)<|nx<|cfs E E<|zr<|csr<|zao E E (by decide) E fun b=>xy 0 E fun hb=>have H2:=H1 b hb;mv E E<|by obtain⟨vs,h,c_1,H3⟩:=H2;exact kd (sx:=⟨some (b,0),0,0⟩) (vs:=vs) E E E ((vl h).1) ((vl (P:=Tryz.prog) (w0:=w0) (S0:=S) (V:=[]) h).2) c_1 (by decide) H3 fun t Sx_1 H4=>gv E E<|nx<|zm<|zl Tryz.results247 (zd E zg) ⟨_,E,H4⟩
def zj (S:Mem) (s1_0:Sl) (s2_0:Sl) (eq:Value) (Q:Bool→Mem→Prop):Prop:=
 jn (fun (Sx:Mem)=>
 jn (fun (Sx_1:Mem)=>
 Q true Sx_1) fun Jx=>
 lp (fun Xx (t:Int) (Sx_2:Mem)=>
 if t<(s1_0.n:Int) then
 sl s1_0 fun b o n n_1=>
 0≤t∧t<((n:Nat):Int) ∧
 gA (Sx_2.part b (o+t.toNat*4) 4) fun t_1=>
 t_1.all (·.oneCell')=true ∧
 sl s2_0 fun b_2 o_1 n_2 n_3=>
 0≤t∧t<((n_2:Nat):Int) ∧
 gA (Sx_2.part b_2 (o_1+t.toNat*4) 4) fun t_2=>
 t_2.all (·.oneCell')=true ∧
 cv Tryz.prog Sx_2 eq [valL t_1,valL t_2] fun rv Sx_3=>∃ t_3:Bool,rv=.bool t_3∧
 if t_3=true then
 Xx (IntKind.i64.wrap (t+1)) Sx_3
 else
 Q false Sx_3
 else
 Jx Sx_2) 0 Sx) fun Jx_1=>
 if (s1_0.n:Int)≠(s2_0.n:Int) then
 Q false S
 else
 Jx_1 S
theorem zB {S:Mem} {s1_0:Sl} {s2_0:Sl} {eq:Value} {Q:Bool→Mem→Prop} (H:zj S s1_0 s2_0 eq Q):zp S s1_0 s2_0 eq Q:=by
 unfold zj at H
 exact Tr.intro Tryz.func113 E Tryz.ntmps113 E fun w0=>csr<|gv E E<|nx<|zo H (fun (J:Mem→Prop) (z:Unit) S=>J S) (fun z=>⟨32,[(0,eL s1_0),(1,eL s2_0),(2,eq)]⟩) (fun z=>[]) (fun _ Sx H1=>zo H1 (fun (J:Mem→Prop) (z:Unit) S=>J S) (fun z=>⟨32,[]⟩) (fun z=>[]) (fun _ Sx_1 H2=>csr<|gv E E<|nx<|zm<|zl Tryz.results113 (zd E zg) ⟨_,E,H2⟩) (fun Jx hJx H3=>csr<|mv E E<|s_p E (xw E)<|mv E E<|nx<|zq<|qV (fun z=>⟨32,[(1,eL s2_0),(2,eq),(15,eL s1_0),(16,.int .i64 (s1_0.n:Int)),(17,.int .i64 z)]⟩) (fun z=>[]) 0 (idx:=[]) H3 E ⟨E,E,E,E,E,True.intro⟩ E<|fun Xx hXx t Sx_2 H4=>csr<|iteK H4 (fun c H5=>s_p E (yT (zR E E) c)<|nx<|zF<|c_t E E<|qU<|zr<|zF<|zq<|csr<|mv E E<|by obtain⟨b,o,n,n_1,rfl,H6⟩:=H5;exact an2 H6 fun c_1 c_2 H7=>s_p E (yi E E c_1 c_2 E)<|gx H7 fun t_1 ht_1 H8=>by refine s_v E (yV E (zD ht_1)) (yU ht_1) ?_;exact by refine kg E fun b_1=>?_;exact gv E E<|an H8 fun c_3 H9=>wX 0 E E E E E (zD ht_1) E c_3<|nxr<|mv E E<|mv E E<|by obtain⟨b_2,o_1,n_2,n_3,rfl,H10⟩:=H9;exact an2 H10 fun c_4 c_5 H11=>s_p E (yi E E c_4 c_5 E)<|gx H11 fun t_2 ht_2 H12=>by refine s_v E (yV E (zD ht_2)) (yU ht_2) ?_;exact by refine kg E fun b_3=>?_;exact an H12 fun c_6 H13=>wX 1 E E E E E (zD ht_2) E c_6<|nxr<|mv E E<|by refine s_v E (yV E (zD ht_1)) (jp (k:=4) 0 E (qa (zD ht_1))) ?_;exact by refine s_v E (yV E (zD ht_2)) (jp (k:=4) 1 E (qa (zD ht_2))) ?_;exact zbT E E E H13 fun rv Sx_3 H14=>by obtain⟨t_3,rfl,H15⟩:=H14;exact by have H16:=gr H15;rcases H16 with ⟨rfl,H17⟩ | ⟨rfl,H17⟩;exact (s_p E (yB (xp E) E)<|nx<|cfs E E<|qm<|zr<|zn<|s_p E (yP E E)<|mv E E<|zC<|hXx (IntKind.i64.wrap (t+1)) _ _ _ _ [] H17 E ⟨E,E,E,E,E,True.intro⟩ E);exact (s_p E (yB (xp E) E)<|nx<|c_t E E<|csr<|gv E E<|nx<|zm<|zw<|zc<|zc<|zw<|zc<|zl Tryz.results113 (zd E zg) ⟨_,E,H17⟩)) fun c H5=>s_p E (yF (zR E E) c)<|nx<|zF<|c_f E E<|qr<|zf<|zf<|zx<|hJx () _ _ _ _ [] H5 E True.intro E)) (fun Jx_1 hJx_1 H18=>csr<|mv E E<|s_p E (xw E)<|mv E E<|s_p E (xw E)<|iteK H18 (fun c_7 H19=>s_p E (yT (qE E E) c_7)<|nx<|c_t E E<|csr<|gv E E<|nx<|zm<|zc<|zl Tryz.results113 (zd E zg) ⟨_,E,H19⟩) fun c_7 H19=>s_p E (yF (qE E E) c_7)<|nx<|cfs E E<|hJx_1 () _ _ _ _ [] H19 E ⟨E,E,E,True.intro⟩ E)
def zz (S:Mem) (s1_0:Sl) (s2_0:Sl) (Q:Bool→Mem→Prop):Prop:=
 jn (fun (Sx:Mem)=>
 jn (fun (Sx_1:Mem)=>
 Q true Sx_1) fun Jx=>
 lp (fun Xx (t:Int) (Sx_2:Mem)=>
 if t<(s1_0.n:Int) then
 sl s1_0 fun b o n n_1=>
 0≤t∧t<((n:Nat):Int) ∧
 gA (Sx_2.part b (o+t.toNat*26) 26) fun t_1=>
 sl s2_0 fun b_1 o_1 n_2 n_3=>
 0≤t∧t<((n_2:Nat):Int) ∧
 gA (Sx_2.part b_1 (o_1+t.toNat*26) 26) fun t_2=>
 fits [.i .u64,.i .u64,.i .u64,.i .u64,.i .u64,.i .u64,.i .u64,.i .u64,.i .u64,.i .u64,.i .u64,.i .u64,.i .u64,.i .u64,.i .u64,.i .u64,.i .u64,.i .u64,.i .u64,.i .u64,.i .u64,.i .u64,.b,.i .u8,.i .u32,.i .u32] t_1=true ∧
 fits [.i .u64,.i .u64,.i .u64,.i .u64,.i .u64,.i .u64,.i .u64,.i .u64,.i .u64,.i .u64,.i .u64,.i .u64,.i .u64,.i .u64,.i .u64,.i .u64,.i .u64,.i .u64,.i .u64,.i .u64,.i .u64,.i .u64,.b,.i .u8,.i .u32,.i .u32] t_2=true ∧
 if (!(eqL t_1 t_2))=true then
 Q false Sx_2
 else
 Xx (IntKind.i64.wrap (t+1)) Sx_2
 else
 Jx Sx_2) 0 Sx) fun Jx_1=>
 if (s1_0.n:Int)≠(s2_0.n:Int) then
 Q false S
 else
 Jx_1 S
theorem qv {S:Mem} {s1_0:Sl} {s2_0:Sl} {Q:Bool→Mem→Prop} (H:zz S s1_0 s2_0 Q):zE S s1_0 s2_0 Q:=by
 unfold zz at H
 exact Tr.intro Tryz.func168 E Tryz.ntmps168 E fun w0=>csr<|gv E E<|nx<|zo H (fun (J:Mem→Prop) (z:Unit) S=>J S) (fun z=>⟨26,[(0,eL s1_0),(1,eL s2_0)]⟩) (fun z=>[]) (fun _ Sx H1=>zo H1 (fun (J:Mem→Prop) (z:Unit) S=>J S) (fun z=>⟨26,[]⟩) (fun z=>[]) (fun _ Sx_1 H2=>csr<|gv E E<|nx<|zm<|zl Tryz.results168 (zd E zg) ⟨_,E,H2⟩) (fun Jx hJx H3=>csr<|mv E E<|s_p E (xw E)<|mv E E<|nx<|zq<|qV (fun z=>⟨26,[(0,eL s1_0),(1,eL s2_0),(12,.int .i64 (s1_0.n:Int)),(13,.int .i64 z)]⟩) (fun z=>[]) 0 (idx:=[]) H3 E ⟨E,E,E,E,True.intro⟩ E<|fun Xx hXx t Sx_2 H4=>csr<|iteK H4 (fun c H5=>s_p E (yT (zR E E) c)<|nx<|zF<|c_t E E<|qU<|zr<|zF<|zq<|csr<|mv E E<|gv E E<|nx<|zF<|yr (by kernel_rfl)<|a_takeP 0 E (by decide +kernel) (za (zh (za (za (zh (za zb)))))) E (zs E)<|by exact a_takeP 1 E (by decide +kernel) (za (zh (za (za (zh (za zb)))))) E (zs E)<|by exact by obtain⟨b,o,n,n_1,rfl,H6⟩:=H5;exact an2 H6 fun c_1 c_2 H7=>a_takeP 2 E (by decide +kernel) (za (zh (za (za (zh (za zb)))))) E (yi E E c_1 c_2 E)<|by exact gx H7 fun t_1 ht_1 H8=>by refine xk 3 E (by decide +kernel) (za (zh (za (za (zh (za zb)))))) E (yV E (zD ht_1)) (yU ht_1) ?_;exact a_takeP 4 E (by decide +kernel) (za (zh (za (za (zh (za zb)))))) E (zs E)<|by exact a_takeP 5 E (by decide +kernel) (za (zh (za (za (zh (za zb)))))) E (zs E)<|by exact by obtain⟨b_1,o_1,n_2,n_3,rfl,H9⟩:=H8;exact an2 H9 fun c_3 c_4 H10=>a_takeP 6 E (by decide +kernel) (za (zh (za (za (zh (za zb)))))) E (yi E E c_3 c_4 E)<|by exact gx H10 fun t_2 ht_2 H11=>by refine xk 7 E (by decide +kernel) (za (zh (za (za (zh (za zb)))))) E (yV E (zD ht_2)) (yU ht_2) ?_;exact an H11 fun c_5 H12=>an H12 fun c_6 H13=>iteK H13 (fun c_7 H14=>a_takeP 8 E (by decide +kernel) (za (zh (za (za (zh (za zb)))))) E (yB (zbd E E c_5 c_6) c_7)<|by exact yh (by decide +kernel)<|by exact zr<|c_t E E<|csr<|gv E E<|nx<|zm<|zw<|zc<|zc<|zw<|zc<|zl Tryz.results168 (zd E zg) ⟨_,E,H14⟩) fun c_7 H14=>a_takeP 8 E (by decide +kernel) (za (zh (za (za (zh (za zb)))))) E (yB (zbd E E c_5 c_6) (zah c_7))<|by exact yh (by decide +kernel)<|by exact zr<|cfs E E<|qm<|zr<|zn<|s_p E (yP E E)<|mv E E<|zC<|hXx (IntKind.i64.wrap (t+1)) _ _ _ _ [] H14 E ⟨E,E,E,E,True.intro⟩ E) fun c H5=>s_p E (yF (zR E E) c)<|nx<|zF<|c_f E E<|qr<|zf<|zf<|zx<|hJx () _ _ _ _ [] H5 E True.intro E)) (fun Jx_1 hJx_1 H15=>csr<|mv E E<|s_p E (xw E)<|mv E E<|s_p E (xw E)<|iteK H15 (fun c_8 H16=>s_p E (yT (qE E E) c_8)<|nx<|c_t E E<|csr<|gv E E<|nx<|zm<|zc<|zl Tryz.results168 (zd E zg) ⟨_,E,H16⟩) fun c_8 H16=>s_p E (yF (qE E E) c_8)<|nx<|cfs E E<|hJx_1 () _ _ _ _ [] H16 E ⟨E,E,True.intro⟩ E)
def yN (S:Mem) (a:Sl) (b:Sl) (Q:Bool→Mem→Prop):Prop:=
 bs S a fun s=>
 bs S b fun s_1=>
 Q (decide (s=s_1)) S
theorem vZ {S:Mem} {a:Sl} {b:Sl} {Q:Bool→Mem→Prop} (H:yN S a b Q):yM S a b Q:=by
 unfold yN at H
 exact Tr.intro Tryz.func169 E Tryz.ntmps169 E fun w0=>csr<|gv E E<|nxr<|mv E E<|gx H fun xs h H1=>by obtain⟨s,es,H2⟩:=zbM H1;exact s_v E (eqv (zbQ (s:=a) E h) (congrArg Value.string es)) (zbt h)<|mv E E<|gx H2 fun xs_1 h_1 H3=>by obtain⟨s_1,es_1,H4⟩:=zbM H3;exact s_v E (eqv (zbQ (s:=b) E h_1) (congrArg Value.string es_1)) (zbt h_1)<|s_p E (zbI E E)<|gv E E<|nx<|zm<|zl Tryz.results169 (zd E zg) ⟨_,E,H4⟩
def qB (S:Mem) (b:Pt) (Q:Pt→Mem→Prop):Prop:=
 jn (fun (Sx:Mem)=>
 nn b fun b_1 o=>
 gL (Sx.cell b_1 o) fun t=>
 sp Sx t 4 fun vs=>
 ap Sx 91 4 32 [.int .u8 0,.int .i64 0,.int .i64 0,.int .i64 0] (⟨none,0,0⟩) t.n vs fun t_1 Sx_1=>
 al Sx_1 199 ([eL t_1]) fun b_2 Sx_2=>
 Q (some (b_2,0)) Sx_2) fun Jx=>
 if b=none then
 Q none S
 else
 Jx S
theorem wg {S:Mem} {b:Pt} {Q:Pt→Mem→Prop} (H:qB S b Q):xa S b Q:=by
 unfold qB at H
 exact Tr.intro Tryz.func237 E Tryz.ntmps237 E fun w0=>csr<|gv E E<|nx<|zo H (fun (J:Mem→Prop) (z:Unit) S=>J S) (fun z=>⟨12,[(0,eP b)]⟩) (fun z=>[]) (fun _ Sx H1=>csr<|mv E E<|by obtain⟨b_1,o,rfl,H2⟩:=H1;exact s_p E (qF E)<|s_p E (zY E E)<|gx H2 fun t ht H3=>s_v E (qf E) (qJ ht)<|by obtain⟨vs,h,c,H4⟩:=H3;exact kd (sx:=⟨none,0,0⟩) (vs:=vs) E E E ((vl h).1) ((vl (P:=Tryz.prog) (w0:=w0) (S0:=S) (V:=[]) h).2) c (by decide) H4 fun t_1 Sx_1 H5=>s_p E (qZ E E)<|by exact wj E E E fun b_2=>xy 0 E fun hb_2=>have H6:=H5 b_2 hb_2;gv E E<|nx<|zm<|zl Tryz.results237 (zd E zg) ⟨_,E,H6⟩) (fun Jx hJx H7=>csr<|mv E E<|iteK H7 (fun c_1 H8=>s_p E (yT (zN (p:=b) E E) c_1)<|nx<|c_t E E<|csr<|gv E E<|nx<|zm<|zc<|zl Tryz.results237 (zd E zg) ⟨_,E,H8⟩) fun c_1 H8=>s_p E (yF (zN (p:=b) E E) c_1)<|nx<|cfs E E<|hJx () _ _ _ _ [] H8 E ⟨E,True.intro⟩ E)
def qu (S:Mem) (c:Pt) (Q:Pt→Mem→Prop):Prop:=
 jn (fun (Sx:Mem)=>
 nn c fun b o=>
 gL (Sx.cell b o) fun t=>
 zL Sx t fun t_1 Sx_1=>
 al Sx_1 127 ([eL t_1]) fun b_1 Sx_2=>
 Q (some (b_1,0)) Sx_2) fun Jx=>
 if c=none then
 Q none S
 else
 Jx S
theorem xK {S:Mem} {c:Pt} {Q:Pt→Mem→Prop} (H:qu S c Q):yO S c Q:=by
 unfold qu at H
 exact Tr.intro Tryz.func238 E Tryz.ntmps238 E fun w0=>csr<|gv E E<|nx<|zo H (fun (J:Mem→Prop) (z:Unit) S=>J S) (fun z=>⟨12,[(0,eP c)]⟩) (fun z=>[]) (fun _ Sx H1=>csr<|mv E E<|by obtain⟨b,o,rfl,H2⟩:=H1;exact s_p E (qF E)<|s_p E (zY E E)<|gx H2 fun t ht H3=>s_v E (qf E) (qJ ht)<|yZ E E H3 fun t_1 Sx_1 H4=>s_p E (qZ E E)<|by exact wj E E E fun b_1=>xy 0 E fun hb_1=>have H5:=H4 b_1 hb_1;gv E E<|nx<|zm<|zl Tryz.results238 (zd E zg) ⟨_,E,H5⟩) (fun Jx hJx H6=>csr<|mv E E<|iteK H6 (fun c_1 H7=>s_p E (yT (zN (p:=c) E E) c_1)<|nx<|c_t E E<|csr<|gv E E<|nx<|zm<|zc<|zl Tryz.results238 (zd E zg) ⟨_,E,H7⟩) fun c_1 H7=>s_p E (yF (zN (p:=c) E E) c_1)<|nx<|cfs E E<|hJx () _ _ _ _ [] H7 E ⟨E,True.intro⟩ E)
def xi (S:Mem) (v:List Value) (Q:List Value→Mem→Prop):Prop:=
 v.length=12 ∧
 gL (nthL v 1) fun t=>
 gL (nthL v 6) fun t_1=>
 zQ S t fun t_2 Sx=>
 xz Sx t_1 fun t_3 Sx_1=>
 gL (nthL (spl (spl v 1 ([eL t_2])) 6 ([eL t_3])) 3) fun t_4=>
 qS Sx_1 t_4 fun t_5 Sx_2=>
 jn (fun (v_1:List Value) (Sx_3:Mem)=>
 v_1.length=12 ∧
 v_1.all (·.oneCell')=true ∧
 Q v_1 Sx_3) fun Jx=>
 lp (fun Xx (z:Int×List Value) (Sx_4:Mem)=>
 match z with
 | (t_6,v_2)=>
 v_2.length=12 ∧
 if t_6<4 then
 0≤t_6∧t_6<4 ∧
 gL (nthL v_2 (7+t_6.toNat*1)) fun t_7=>
 xz Sx_4 t_7 fun t_8 Sx_5=>
 0≤t_6∧t_6<4 ∧
 Xx (IntKind.i64.wrap (t_6+1),spl v_2 (7+t_6.toNat*1) ([eL t_8])) Sx_5
 else
 Jx v_2 Sx_4) (0,spl (spl (spl v 1 ([eL t_2])) 6 ([eL t_3])) 3 ([eL t_5])) Sx_2
theorem kE {S:Mem} {v:List Value} {Q:List Value→Mem→Prop} (H:xi S v Q):ws S v Q:=by
 unfold xi at H
 exact Tr.intro Tryz.func236 E Tryz.ntmps236 E fun w0=>an H fun hv H1=>csr<|wj E E E fun b=>by refine kg E fun b_1=>?_;exact nx<|zF<|yr (by kernel_rfl)<|aTP 0 E (by decide +kernel) E (zY E E)<|by exact gx H1 fun t ht H2=>aT 1 E (by decide +kernel) E (qf E) (kr 0 E ht)<|by exact aTP 3 E (by decide +kernel) E (zY E E)<|by exact gx H2 fun t_1 ht_1 H3=>aT 4 E (by decide +kernel) E (qf E) (kr 0 E ht_1)<|by exact qx 2 (by decide +kernel) E<|by exact yZ E E H3 fun t_2 Sx H4=>zC<|yv (yg (kr 0 E ht_1) ql)<|aTP 6 E (by decide +kernel) E (zY E E)<|by exact qx 5 (by decide +kernel) E<|by exact yZ E E H4 fun t_3 Sx_1 H5=>zC<|yv ql<|qx 7 (by decide +kernel) E<|by exact gN (sz:=1) (vs:=[eL t_2]) 0 E E E E E E (vi hv (by omega)) E<|zC<|yv ql<|aTP 8 E (by decide +kernel) E (zY E E)<|by exact qx 9 (by decide +kernel) E<|by exact gN (sz:=1) (vs:=[eL t_3]) 0 E E E E E E (vi (jy hv (by have:=True.intro;(try simp only[List.length_cons,List.length_nil]);omega)) (by omega)) E<|zC<|yv ql<|yh (by decide +kernel)<|by exact zr<|csr<|s_p E (zY E E)<|s_p E (zY E E)<|gx H5 fun t_4 ht_4 H6=>s_v E (qf E) (kr 0 E ht_4)<|yZ E E H6 fun t_5 Sx_2 H7=>s_p E (zY E E)<|s_p E (zY E E)<|gN (sz:=1) (vs:=[eL t_5]) 0 E E E E E E (vi (jy (jy hv (by have:=True.intro;(try simp only[List.length_cons,List.length_nil]);omega)) (by have:=True.intro;(try simp only[List.length_cons,List.length_nil]);omega)) (by omega)) E<|nx<|zo H7 (fun (J:List Value→Mem→Prop) (z:List Value) S=>J z S) (fun z=>⟨31,[(1,.pointer (some ⟨b,0,none⟩)),(2,.pointer (some ⟨b_1,0,none⟩))]⟩) (fun z=>[⟨b,66,z⟩,⟨b_1,66,[.bool false,.slice (none) 0 0,.int .i64 0,.slice (none) 0 0,.int .i64 0,.int .u64 0,.slice (none) 0 0,.slice (none) 0 0,.slice (none) 0 0,.slice (none) 0 0,.slice (none) 0 0,.int .u32 0]⟩]) (fun v_1 Sx_3 H8=>an H8 fun hv_1 H9=>csr<|by refine s_v E (yV E hv_1) (jp (k:=12) 0 E (qa hv_1)) ?_;exact an H9 fun c H10=>wX 1 E E E E E hv_1 E c<|nx<|zm<|zl Tryz.results236 (fP E (jp (k:=12) 1 E (qa hv_1)) hv_1 zg) ⟨_,E,hv_1,H10⟩) (fun Jx hJx H11=>csr<|mv E E<|nx<|zq<|qV (fun z=>⟨31,[(1,.pointer (some ⟨b,0,none⟩)),(2,.pointer (some ⟨b_1,0,none⟩)),(18,.int .i64 z.1)]⟩) (fun z=>[⟨b,66,z.2⟩,⟨b_1,66,[.bool false,.slice (none) 0 0,.int .i64 0,.slice (none) 0 0,.int .i64 0,.int .u64 0,.slice (none) 0 0,.slice (none) 0 0,.slice (none) 0 0,.slice (none) 0 0,.slice (none) 0 0,.int .u32 0]⟩]) (0,spl (spl (spl v 1 ([eL t_2])) 6 ([eL t_3])) 3 ([eL t_5])) (idx:=[0,0]) H11 E ⟨E,E,E,True.intro⟩ E<|by rintro Xx hXx ⟨t_6,v_2⟩ Sx_4 H12;exact an H12 fun hv_2 H13=>csr<|iteK H13 (fun c_1 H14=>s_p E (yT (zR E E) c_1)<|nx<|zF<|c_t E E<|qU<|zr<|zF<|zq<|csr<|mv E E<|gv E E<|nx<|zn<|mv E E<|mv E E<|s_p E (zY E E)<|an2 H14 fun c_2 c_3 H15=>s_p E (vU E E c_2 c_3 E)<|gx H15 fun t_7 ht_7 H16=>s_v E (qf E) (kr 0 E ht_7)<|yZ E E H16 fun t_8 Sx_5 H17=>s_p E (zY E E)<|an2 H17 fun c_4 c_5 H18=>s_p E (vU E E c_4 c_5 E)<|gN (sz:=1) (vs:=[eL t_8]) 0 E E E E E E (vi hv_2 (by omega)) E<|zC<|qm<|zr<|zn<|s_p E (yP E E)<|mv E E<|zC<|hXx (IntKind.i64.wrap (t_6+1),spl v_2 (7+t_6.toNat*1) ([eL t_8])) _ _ _ _ [0,0] H18 E ⟨E,E,E,True.intro⟩ E) fun c_1 H14=>s_p E (yF (zR E E) c_1)<|nx<|zF<|c_f E E<|qr<|zf<|zf<|zx<|hJx v_2 _ _ _ _ [0,0] H14 E ⟨E,E,True.intro⟩ E)
def qt (S:Mem) (s:Pt) (Q:Pt→Mem→Prop):Prop:=
 jn (fun (Sx:Mem)=>
 nn s fun b o=>
 gA (Sx.part b o 190) fun t=>
 al Sx 77 z77 fun b_1 Sx_1=>
 t.all (·.oneCell')=true ∧
 pt Sx_1 b_1 0 190 t fun Sx_2=>
 jn (fun (Sx_3:Mem)=>
 gP (Sx_3.cell b (o+74)) fun t_1=>
 gP (Sx_3.cell b (o+171)) fun t_2=>
 xa Sx_3 t_1 fun t_3 Sx_4=>
 Sx_4.cell b (o+171)=some (eP t_2) ∧
 yO Sx_4 t_2 fun t_4 Sx_5=>
 pt Sx_5 b_1 74 1 ([eP t_3]) fun Sx_6=>
 pt Sx_6 b_1 171 1 ([eP t_4]) fun Sx_7=>
 Q (some (b_1,0)) Sx_7) fun Jx=>
 lp (fun Xx (t_5:Int) (Sx_8:Mem)=>
 if t_5<6 then
 0≤t_5∧t_5<6 ∧
 gA (Sx_8.part b_1 (2+t_5.toNat*12) 12) fun t_6=>
 ws Sx_8 t_6 fun t_7 Sx_9=>
 0≤t_5∧t_5<6 ∧
 t_7.all (·.oneCell')=true ∧
 pt Sx_9 b_1 (2+t_5.toNat*12) 12 t_7 fun Sx_10=>
 Xx (IntKind.i64.wrap (t_5+1)) Sx_10
 else
 Jx Sx_8) 0 Sx_2) fun Jx_1=>
 if s=none then
 Q none S
 else
 Jx_1 S
theorem xI {S:Mem} {s:Pt} {Q:Pt→Mem→Prop} (H:qt S s Q):qK S s Q:=by
 unfold qt at H
 exact Tr.intro Tryz.func217 E Tryz.ntmps217 E fun w0=>csr<|gv E E<|nx<|zo H (fun (J:Mem→Prop) (z:Unit) S=>J S) (fun z=>⟨34,[(0,eP s)]⟩) (fun z=>[]) (fun _ Sx H1=>csr<|mv E E<|by obtain⟨b,o,rfl,H2⟩:=H1;exact s_p E (qF E)<|gx H2 fun t ht H3=>by refine s_v E (yV E (zD ht)) (yU ht) ?_;exact by refine kg E fun b_1=>?_;exact xy 0 E fun hb_1=>have H4:=H3 b_1 hb_1;an H4 fun c H5=>an H5 fun c_1 H6=>yS E E E E (zD ht) c_1 c<|nx<|zo H6 (fun (J:Mem→Prop) (z:Unit) S=>J S) (fun z=>⟨34,[(0,.pointer (some ⟨b,o,none⟩)),(3,.pointer (some ⟨b_1,0,none⟩))]⟩) (fun z=>[]) (fun _ Sx_3 H7=>zF<|yr (by kernel_rfl)<|aTP 0 E (by decide +kernel) E (zs E)<|by exact aTP 1 E (by decide +kernel) E (qF E)<|by exact aTP 2 E (by decide +kernel) E (zY E E)<|by exact gx H7 fun t_1 ht_1 H8=>aT 3 E (by decide +kernel) E (qf E) (qJ ht_1)<|by exact aTP 5 E (by decide +kernel) E (zs E)<|by exact aTP 6 E (by decide +kernel) E (qF E)<|by exact aTP 7 E (by decide +kernel) E (zY E E)<|by exact gx H8 fun t_2 ht_2 H9=>aT 8 E (by decide +kernel) E (qf E) (qJ ht_2)<|by exact qx 4 (by decide +kernel) E<|by exact yZ E E H9 fun t_3 Sx_4 H10=>by obtain⟨k,H11⟩:=H10;exact zC<|yv (yg (qJ k) ql)<|qx 9 (by decide +kernel) E<|by exact yZ E E H11 fun t_4 Sx_5 H12=>zC<|yv ql<|aTP 10 E (by decide +kernel) E (zY E E)<|by exact qx 11 (by decide +kernel) E<|by exact an H12 fun c_2 H13=>yS E E E E E c_2 E<|zC<|yv ql<|aTP 12 E (by decide +kernel) E (zY E E)<|by exact qx 13 (by decide +kernel) E<|by exact an H13 fun c_3 H14=>yS E E E E E c_3 E<|zC<|yv ql<|yh (by decide +kernel)<|by exact zr<|csr<|gv E E<|nx<|zm<|zl Tryz.results217 (zd E zg) ⟨_,E,H14⟩) (fun Jx hJx H15=>csr<|mv E E<|nx<|zq<|qV (fun z=>⟨34,[(0,.pointer (some ⟨b,o,none⟩)),(3,.pointer (some ⟨b_1,0,none⟩)),(10,.int .i64 z)]⟩) (fun z=>[]) 0 (idx:=[]) H15 E ⟨E,E,E,True.intro⟩ E<|fun Xx hXx t_5 Sx_8 H16=>csr<|iteK H16 (fun c_4 H17=>s_p E (yT (zR E E) c_4)<|nx<|zF<|c_t E E<|qU<|zr<|zF<|zq<|csr<|mv E E<|gv E E<|nx<|zn<|mv E E<|mv E E<|s_p E (zY E E)<|an2 H17 fun c_5 c_6 H18=>s_p E (vU E E c_5 c_6 E)<|gx H18 fun t_6 ht_6 H19=>by refine s_v E (yV E (zD ht_6)) (yU ht_6) ?_;exact jA E E H19 fun rv Sx_9 H20=>by obtain⟨t_7,rfl,ht_7,H21⟩:=H20;exact s_p E (zY E E)<|an2 H21 fun c_7 c_8 H22=>s_p E (vU E E c_7 c_8 E)<|an H22 fun c_9 H23=>an H23 fun c_10 H24=>yS E E E E ht_7 c_10 c_9<|zC<|qm<|zr<|zn<|s_p E (yP E E)<|mv E E<|zC<|hXx (IntKind.i64.wrap (t_5+1)) _ _ _ _ [] H24 E ⟨E,E,E,True.intro⟩ E) fun c_4 H17=>s_p E (yF (zR E E) c_4)<|nx<|zF<|c_f E E<|qr<|zf<|zf<|zx<|hJx () _ _ _ _ [] H17 E ⟨E,E,True.intro⟩ E)) (fun Jx_1 hJx_1 H25=>csr<|mv E E<|iteK H25 (fun c_11 H26=>s_p E (yT (zN (p:=s) E E) c_11)<|nx<|c_t E E<|csr<|gv E E<|nx<|zm<|zc<|zl Tryz.results217 (zd E zg) ⟨_,E,H26⟩) fun c_11 H26=>s_p E (yF (zN (p:=s) E E) c_11)<|nx<|cfs E E<|hJx_1 () _ _ _ _ [] H26 E ⟨E,True.intro⟩ E)
def yu (S:Mem) (s:Pt) (fromx:Int) (Q:Pt→Int→Mem→Prop):Prop:=
 jn (fun (Sx:Mem)=>
 qK Sx s fun t Sx_1=>
 qA Sx_1 fromx fun t_1 Sx_2=>
 nn t fun b o=>
 pt Sx_2 b o 1 ([.int .i64 t_1]) fun Sx_3=>
 jn (fun (Sx_4:Mem)=>
 Q (some (b,o)) 0 Sx_4) fun Jx=>
 lp (fun Xx (t_2:Int) (Sx_5:Mem)=>
 if t_2<6 then
 0≤t_2∧t_2<6 ∧
 pt Sx_5 b (o+2+t_2.toNat*12+2) 2 ([.int .i64 0,.slice (none) 0 0]) fun Sx_6=>
 Xx (IntKind.i64.wrap (t_2+1)) Sx_6
 else
 Jx Sx_5) 0 Sx_3) fun Jx_1=>
 if s=none then
 Q none 10 S
 else
 nn s fun b_1 o_1=>
 gI (S.cell b_1 o_1) .i64 fun t_3=>
 if t_3≠fromx then
 Q none 10 S
 else
 Jx_1 S
theorem vB {S:Mem} {s:Pt} {fromx:Int} {Q:Pt→Int→Mem→Prop} (H:yu S s fromx Q):ym S s fromx Q:=by
 unfold yu at H
 exact Tr.intro Tryz.func156 E Tryz.ntmps156 E fun w0=>csr<|gv E E<|gv E E<|nx<|zo H (fun (J:Mem→Prop) (z:Unit) S=>J S) (fun z=>⟨37,[(0,eP s),(1,.int .i64 fromx)]⟩) (fun z=>[]) (fun _ Sx H1=>csr<|mv E E<|yZ E E H1 fun t Sx_1 H2=>gv E E<|nxr<|mv E E<|mv E E<|yZ E E H2 fun t_1 Sx_2 H3=>by obtain⟨b,o,rfl,H4⟩:=H3;exact s_p E (qF E)<|s_p E (zY E E)<|an H4 fun c H5=>yS E E E E E c E<|nx<|zo H5 (fun (J:Mem→Prop) (z:Unit) S=>J S) (fun z=>⟨37,[(6,.pointer (some ⟨b,o,none⟩))]⟩) (fun z=>[]) (fun _ Sx_4 H6=>csr<|mv E E<|gv E E<|gv E E<|nx<|zm<|zl Tryz.results156 (zd E (zd E zg)) ⟨_,_,E,H6⟩) (fun Jx hJx H7=>csr<|mv E E<|nx<|zq<|qV (fun z=>⟨37,[(6,.pointer (some ⟨b,o,none⟩)),(25,.int .i64 z)]⟩) (fun z=>[]) 0 (idx:=[]) H7 E ⟨E,E,True.intro⟩ E<|fun Xx hXx t_2 Sx_5 H8=>csr<|iteK H8 (fun c_1 H9=>s_p E (yT (zR E E) c_1)<|nx<|zF<|c_t E E<|qU<|zr<|zF<|zq<|csr<|mv E E<|gv E E<|nx<|zn<|mv E E<|mv E E<|s_p E (qZ E E)<|by exact s_p E (qF E)<|s_p E (zY E E)<|an2 H9 fun c_2 c_3 H10=>s_p E (vU E E c_2 c_3 E)<|s_p E (zY E E)<|an H10 fun c_4 H11=>yS E E E E E c_4 E<|zC<|qm<|zr<|zn<|s_p E (yP E E)<|mv E E<|zC<|hXx (IntKind.i64.wrap (t_2+1)) _ _ _ _ [] H11 E ⟨E,E,True.intro⟩ E) fun c_1 H9=>s_p E (yF (zR E E) c_1)<|nx<|zF<|c_f E E<|qr<|zf<|zf<|zx<|hJx () _ _ _ _ [] H9 E ⟨E,True.intro⟩ E)) (fun Jx_1 hJx_1 H12=>csr<|mv E E<|iteK H12 (fun c_5 H13=>s_p E (yT (zN (p:=s) E E) c_5)<|mv E E<|sk4 E E E E<|sk2 E E<|pk E E E<|nx<|c_t E E<|csr<|gv E E<|gv E E<|nx<|zm<|zc<|zl Tryz.results156 (zd E (zd E zg)) ⟨_,_,E,H13⟩) fun c_5 H13=>s_p E (yF (zN (p:=s) E E) c_5)<|mv E E<|mv E E<|by obtain⟨b_1,o_1,rfl,H14⟩:=H13;exact s_p E (qF E)<|s_p E (zY E E)<|gx H14 fun t_3 ht_3 H15=>s_v E (qf E) (qJ ht_3)<|mv E E<|iteK H15 (fun c_6 H16=>s_p E (yT (qE E E) c_6)<|pk E E E<|nx<|c_t E E<|csr<|gv E E<|gv E E<|nx<|zm<|zc<|zl Tryz.results156 (zd E (zd E zg)) ⟨_,_,E,H16⟩) fun c_6 H16=>s_p E (yF (qE E E) c_6)<|pk E E E<|nx<|cfs E E<|hJx_1 () _ _ _ _ [] H16 E ⟨E,E,True.intro⟩ E)
def wx (S:Mem) (s:Pt) (Q:Pt→Int→Mem→Prop):Prop:=
 ym S s 1 fun t t_1 Sx=>
 Q t t_1 Sx
theorem jS {S:Mem} {s:Pt} {Q:Pt→Int→Mem→Prop} (H:wx S s Q):jH S s Q:=by
 unfold wx at H
 exact Tr.intro Tryz.func96 E Tryz.ntmps96 E fun w0=>csr<|gv E E<|gv E E<|nxr<|mv E E<|fO E E H fun t t_1 Sx H1=>s_p E (zI E E)<|s_p E (zI E E)<|gv E E<|gv E E<|nx<|zm<|zl Tryz.results96 (zd E (zd E zg)) ⟨_,_,E,H1⟩
def xj (S:Mem) (s:Pt) (Q:Pt→Int→Mem→Prop):Prop:=
 ym S s 2 fun t t_1 Sx=>
 Q t t_1 Sx
theorem kF {S:Mem} {s:Pt} {Q:Pt→Int→Mem→Prop} (H:xj S s Q):vQ S s Q:=by
 unfold xj at H
 exact Tr.intro Tryz.func97 E Tryz.ntmps97 E fun w0=>csr<|gv E E<|gv E E<|nxr<|mv E E<|fO E E H fun t t_1 Sx H1=>s_p E (zI E E)<|s_p E (zI E E)<|gv E E<|gv E E<|nx<|zm<|zl Tryz.results97 (zd E (zd E zg)) ⟨_,_,E,H1⟩
def qc (S:Mem) (form:Int) (Q:Int→Mem→Prop):Prop:=
 if form=1 then
 Q 2 S
 else
 Q 1 S
theorem qW {S:Mem} {form:Int} {Q:Int→Mem→Prop} (H:qc S form Q):qA S form Q:=by
 unfold qc at H
 exact Tr.intro Tryz.func45 E Tryz.ntmps45 E fun w0=>csr<|gv E E<|nx<|zF<|csr<|mv E E<|iteK H (fun c H1=>ceT E E E (c)<|nx<|c_t E E<|csr<|gv E E<|nx<|zm<|zc<|zl Tryz.results45 (zd E zg) ⟨_,E,H1⟩) fun c H1=>ceF E E E (c)<|nx<|cfs E E<|zr<|csr<|gv E E<|nx<|zm<|zl Tryz.results45 (zd E zg) ⟨_,E,H1⟩
def zS (S:Mem) (Q:Bool→Mem→Prop):Prop:=
 qd S 1 64 4 (⟨none,0,0⟩) (⟨none,0,0⟩) fun t Sx=>
 jn (fun (Sx_1:Mem)=>
 nn t fun b o=>
 gP (Sx_1.cell b (o+3)) fun t_1=>
 jH Sx_1 t_1 fun t_2 t_3 Sx_2=>
 vQ Sx_2 t_2 fun t_4 t_5 Sx_3=>
 if t_3=0 then
 if t_5=0 then
 gP (Sx_3.cell b (o+3)) fun t_6=>
 wq Sx_3 t_4 t_6 fun t_7 Sx_4=>
 if t_7=true then
 nn t_2 fun b_1 o_1=>
 gI (Sx_4.cell b_1 o_1) .i64 fun t_8=>
 if t_8=2 then
 nn t_4 fun b_2 o_2=>
 gI (Sx_4.cell b_2 o_2) .i64 fun t_9=>
 if t_9=1 then
 qA Sx_4 1 fun t_10 Sx_5=>
 if t_10=2 then
 qA Sx_5 2 fun t_11 Sx_6=>
 Q (decide (t_11=1)) Sx_6
 else
 Q false Sx_5
 else
 Q false Sx_4
 else
 Q false Sx_4
 else
 Q false Sx_4
 else
 Q false Sx_3
 else
 Q false Sx_3) fun Jx=>
 if t=none then
 Q false Sx
 else
 Jx Sx
theorem yA {S:Mem} {Q:Bool→Mem→Prop} (H:zS S Q):zM S Q:=by
 unfold zS at H
 exact Tr.intro Tryz.func44 E Tryz.ntmps44 E fun w0=>csr<|gv E E<|nxr<|yZ E E H fun t Sx H1=>gv E E<|nx<|zo H1 (fun (J:Mem→Prop) (z:Unit) S=>J S) (fun z=>⟨58,[(1,eP t)]⟩) (fun z=>[]) (fun _ Sx_1 H2=>csr<|mv E E<|by obtain⟨b,o,rfl,H3⟩:=H2;exact s_p E (qF E)<|s_p E (zY E E)<|gx H3 fun t_1 ht_1 H4=>s_v E (qf E) (qJ ht_1)<|fO E E H4 fun t_2 t_3 Sx_2 H5=>mv E E<|s_p E (zI E E)<|s_p E (zI E E)<|gv E E<|gv E E<|nxr<|mv E E<|fO E E H5 fun t_4 t_5 Sx_3 H6=>mv E E<|s_p E (zI E E)<|s_p E (zI E E)<|gv E E<|gv E E<|nxr<|mv E E<|iteK H6 (fun c H7=>ceT E E E (c)<|mv E E<|mv E E<|iteK H7 (fun c_1 H8=>ceT E E E (c_1)<|pk E E E<|mv E E<|mv E E<|mv E E<|s_p E (qF E)<|s_p E (zY E E)<|gx H8 fun t_6 ht_6 H9=>s_v E (qf E) (qJ ht_6)<|yZ E E H9 fun t_7 Sx_4 H10=>by have H11:=gr H10;rcases H11 with ⟨rfl,H12⟩ | ⟨rfl,H12⟩;exact (pk E E E<|mv E E<|mv E E<|by obtain⟨b_1,o_1,rfl,H13⟩:=H12;exact s_p E (qF E)<|s_p E (zY E E)<|gx H13 fun t_8 ht_8 H14=>s_v E (qf E) (qJ ht_8)<|iteK H14 (fun c_2 H15=>ceT E E E (c_2)<|pk E E E<|mv E E<|mv E E<|by obtain⟨b_2,o_2,rfl,H16⟩:=H15;exact s_p E (qF E)<|s_p E (zY E E)<|gx H16 fun t_9 ht_9 H17=>s_v E (qf E) (qJ ht_9)<|iteK H17 (fun c_3 H18=>ceT E E E (c_3)<|pk E E E<|mv E E<|yZ E E H18 fun t_10 Sx_5 H19=>iteK H19 (fun c_4 H20=>ceT E E E (c_4)<|pk E E E<|mv E E<|yZ E E H20 fun t_11 Sx_6 H21=>s_p E (fF E E)<|pk E E E<|gv E E<|nx<|zm<|zl Tryz.results44 (zd E zg) ⟨_,E,H21⟩) fun c_4 H20=>ceF E E E (c_4)<|pk E E E<|mv E E<|sk2 E E<|pk E E E<|gv E E<|nx<|zm<|zl Tryz.results44 (zd E zg) ⟨_,E,H20⟩) fun c_3 H18=>ceF E E E (c_3)<|pk E E E<|mv E E<|sk2 E E<|pk E E E<|mv E E<|sk2 E E<|pk E E E<|gv E E<|nx<|zm<|zl Tryz.results44 (zd E zg) ⟨_,E,H18⟩) fun c_2 H15=>ceF E E E (c_2)<|pk E E E<|mv E E<|sk4 E E E E<|zH E<|pk E E E<|mv E E<|sk2 E E<|pk E E E<|mv E E<|sk2 E E<|pk E E E<|gv E E<|nx<|zm<|zl Tryz.results44 (zd E zg) ⟨_,E,H15⟩);exact (pk E E E<|mv E E<|sk4 E E E E<|zH E<|pk E E E<|mv E E<|sk4 E E E E<|zH E<|pk E E E<|mv E E<|sk2 E E<|pk E E E<|mv E E<|sk2 E E<|pk E E E<|gv E E<|nx<|zm<|zl Tryz.results44 (zd E zg) ⟨_,E,H12⟩)) fun c_1 H8=>ceF E E E (c_1)<|pk E E E<|mv E E<|sk4 E E E E<|sk2 E E<|pk E E E<|mv E E<|sk4 E E E E<|zH E<|pk E E E<|mv E E<|sk2 E E<|by exact sk2 E E<|zH E<|pk E E E<|mv E E<|sk2 E E<|pk E E E<|mv E E<|sk2 E E<|pk E E E<|gv E E<|nx<|zm<|zl Tryz.results44 (zd E zg) ⟨_,E,H8⟩) fun c H7=>ceF E E E (c)<|mv E E<|sk2 E E<|pk E E E<|mv E E<|sk4 E E E E<|sk2 E E<|pk E E E<|mv E E<|sk4 E E E E<|zH E<|pk E E E<|mv E E<|sk2 E E<|zH E<|by exact sk2 E E<|pk E E E<|mv E E<|sk2 E E<|pk E E E<|mv E E<|sk2 E E<|pk E E E<|gv E E<|nx<|zm<|zl Tryz.results44 (zd E zg) ⟨_,E,H7⟩) (fun Jx hJx H22=>csr<|mv E E<|iteK H22 (fun c_5 H23=>s_p E (yT (zN (p:=t) E E) c_5)<|nx<|c_t E E<|csr<|gv E E<|nx<|zm<|zc<|zl Tryz.results44 (zd E zg) ⟨_,E,H23⟩) fun c_5 H23=>s_p E (yF (zN (p:=t) E E) c_5)<|nx<|cfs E E<|hJx () _ _ _ _ [] H23 E ⟨E,True.intro⟩ E)
def zX (S:Mem) (form:Int) (frames:Int) (region:Int) (acts:Sl) (seed:Sl) (Q:Pt→Mem→Prop):Prop:=
 kz S form frames region fun t t_1 Sx=>
 jn (fun (Sx_1:Mem)=>
 jn (fun (Sx_2:Mem)=>
 Q t Sx_2) fun Jx=>
 lp (fun Xx (i:Int) (Sx_3:Mem)=>
 jn (fun (Sx_4:Mem)=>
 jn (fun (Sx_5:Mem)=>
 Xx (IntKind.i64.wrap (i+1)) Sx_5) fun Jx_1=>
 sl acts fun b o n n_1=>
 0≤i∧i<((n:Nat):Int) ∧
 gI (Sx_4.cell b (o+i.toNat*1)) .u8 fun t_2=>
 0≤i∧i<((n:Nat):Int) ∧
 gI (Sx_4.cell b (o+i.toNat*1)) .u8 fun t_3=>
 jn (fun (t_4:Bool) (Sx_6:Mem)=>
 if t_4=true then
 0≤i∧i<((n:Nat):Int) ∧
 gI (Sx_6.cell b (o+i.toNat*1)) .u8 fun t_5=>
 xd Sx_6 seed fun t_6 Sx_7=>
 Sx_7.cell b (o+i.toNat*1)=some (.int .u8 t_5) ∧
 wM Sx_7 t (IntKind.i64.wrap (1+(IntKind.i64.wrap (Int.tmod t_2 3)))) 6 (IntKind.i64.wrap (1+(IntKind.i64.wrap (Int.tmod t_5 4)))) t_6 fun t_7 t_8 Sx_8=>
 Sx_8.cell b (o+i.toNat*1)=some (.int .u8 t_5) ∧
 Jx_1 Sx_8
 else
 if Int.tmod (IntKind.u8.wrap (Int.tdiv t_3 3)) 8=2 then
 vG Sx_6 t (IntKind.i64.wrap (Int.tmod t_2 3)) (Int.tmod (IntKind.i64.wrap ((IntKind.i64.wrap (Int.tmod t_2 3))+1)) 3) true fun t_9 Sx_9=>
 Jx_1 Sx_9
 else
 if Int.tmod (IntKind.u8.wrap (Int.tdiv t_3 3)) 8=3 then
 0≤i∧i<((n:Nat):Int) ∧
 gI (Sx_6.cell b (o+i.toNat*1)) .u8 fun t_10=>
 kA Sx_6 t (IntKind.i64.wrap (Int.tmod t_2 3)) t_10 fun t_11 Sx_10=>
 vF Sx_10 t fun Sx_11=>
 Jx_1 Sx_11
 else
 if Int.tmod (IntKind.u8.wrap (Int.tdiv t_3 3)) 8=4 then
 0≤i∧i<((n:Nat):Int) ∧
 gI (Sx_6.cell b (o+i.toNat*1)) .u8 fun t_12=>
 if Int.tmod t_12 2=0 then
 wt Sx_6 t (IntKind.i64.wrap (Int.tmod t_2 3)) fun t_13 Sx_12=>
 Jx_1 Sx_12
 else
 Jx_1 Sx_6
 else
 lp (fun Xx_1 (k_2:Int) (Sx_13:Mem)=>
 jn (fun (Sx_14:Mem)=>
 xX Sx_14 t (IntKind.i64.wrap (Int.tmod t_2 3)) 0 fun t_14 Sx_15=>
 xX Sx_15 t (IntKind.i64.wrap (Int.tmod t_2 3)) 1 fun t_15 Sx_16=>
 Xx_1 (IntKind.i64.wrap (k_2+1)) Sx_16) fun Jx_2=>
 if k_2<30 then
 Jx_2 Sx_13
 else
 Jx_1 Sx_13) 0 Sx_6) fun Jx_3=>
 if Int.tmod (IntKind.u8.wrap (Int.tdiv t_3 3)) 8=0 then
 Jx_3 true Sx_4
 else
 if Int.tmod (IntKind.u8.wrap (Int.tdiv t_3 3)) 8=1 then
 Jx_3 true Sx_4
 else
 Jx_3 false Sx_4) fun Jx_4=>
 if i<(acts.n:Int) then
 Jx_4 Sx_3
 else
 Jx Sx_3) 0 Sx_1) fun Jx_5=>
 if t_1≠0 then
 Q none Sx
 else
 Jx_5 Sx
theorem yR {S:Mem} {form:Int} {frames:Int} {region:Int} {acts:Sl} {seed:Sl} {Q:Pt→Mem→Prop} (H:zX S form frames region acts seed Q):qd S form frames region acts seed Q:=by
 unfold zX at H
 exact Tr.intro Tryz.func95 E Tryz.ntmps95 E fun w0=>csr<|gv E E<|nxr<|mv E E<|mv E E<|mv E E<|fO E E H fun t t_1 Sx H1=>mv E E<|s_p E (zI E E)<|s_p E (zI E E)<|gv E E<|gv E E<|nx<|zo H1 (fun (J:Mem→Prop) (z:Unit) S=>J S) (fun z=>⟨100,[(3,eL acts),(4,eL seed),(11,eP t)]⟩) (fun z=>[]) (fun _ Sx_1 H2=>zo H2 (fun (J:Mem→Prop) (z:Unit) S=>J S) (fun z=>⟨100,[(11,eP t)]⟩) (fun z=>[]) (fun _ Sx_2 H3=>csr<|mv E E<|gv E E<|nx<|zm<|zl Tryz.results95 (zd E zg) ⟨_,E,H3⟩) (fun Jx hJx H4=>csr<|gv E E<|nx<|zq<|qV (fun z=>⟨100,[(3,eL acts),(4,eL seed),(11,eP t),(13,.int .i64 z)]⟩) (fun z=>[]) 0 (idx:=[]) H4 E ⟨E,E,E,E,True.intro⟩ E<|fun Xx hXx i Sx_3 H5=>zo H5 (fun (J:Mem→Prop) (z:Unit) S=>J S) (fun z=>⟨100,[(3,eL acts),(4,eL seed),(11,eP t),(13,.int .i64 i)]⟩) (fun z=>[]) (fun _ Sx_4 H6=>zo H6 (fun (J:Mem→Prop) (z:Unit) S=>J S) (fun z=>⟨100,[(3,eL acts),(4,eL seed),(11,eP t),(13,.int .i64 i)]⟩) (fun z=>[]) (fun _ Sx_5 H7=>zn<|mv E E<|s_p E (yP E E)<|gv E E<|zC<|hXx (IntKind.i64.wrap (i+1)) _ _ _ _ [] H7 E ⟨E,E,E,E,True.intro⟩ E) (fun Jx_1 hJx_1 H8=>zq<|csr<|mv E E<|mv E E<|by obtain⟨b,o,n,n_1,rfl,H9⟩:=H8;exact an2 H9 fun c c_1 H10=>s_p E (yi E E c c_1 E)<|gx H10 fun t_2 ht_2 H11=>s_v E (qf E) (qJ ht_2)<|s_p E (gy E E (by decide))<|s_p E (zaj ⟨_,Tryz.underlying5⟩ E)<|gv E E<|nxr<|mv E E<|mv E E<|an2 H11 fun c_2 c_3 H12=>s_p E (yi E E c_2 c_3 E)<|gx H12 fun t_3 ht_3 H13=>s_v E (qf E) (qJ ht_3)<|s_p E (zav E E (by decide))<|s_p E (gy E E (by decide))<|nx<|zq<|zo H13 (fun (J:Bool→Mem→Prop) (z:Bool) S=>J z S) (fun z=>⟨100,[(3,.slice (some ⟨b,o,none⟩) n n_1),(4,eL seed),(11,eP t),(13,.int .i64 i),(14,.int .i64 (IntKind.i64.wrap (Int.tmod t_2 3))),(42,.int .u8 (Int.tmod (IntKind.u8.wrap (Int.tdiv t_3 3)) 8)),(53,.bool z)]⟩) (fun z=>[]) (fun t_4 Sx_6 H14=>by have H15:=gr H14;rcases H15 with ⟨c_4,H16⟩ | ⟨c_4,H16⟩;exact (c_t E c_4<|yr (by kernel_rfl)<|a_takeP 0 E (by decide +kernel) (zh (zh (za (za (zh (za zb)))))) E (zs E)<|by exact a_takeP 1 E (by decide +kernel) (zh (zh (za (za (zh (za zb)))))) E (zs E)<|by exact a_takeP 2 E (by decide +kernel) (zh (zh (za (za (zh (za zb)))))) E (yP E E)<|by exact a_takeP 3 E (by decide +kernel) (zh (zh (za (za (zh (za zb)))))) E (zs E)<|by exact a_takeP 4 E (by decide +kernel) (zh (zh (za (za (zh (za zb)))))) E (zs E)<|by exact an2 H16 fun c_5 c_6 H17=>a_takeP 5 E (by decide +kernel) (zh (zh (za (za (zh (za zb)))))) E (yi E E c_5 c_6 E)<|by exact gx H17 fun t_5 ht_5 H18=>xk 6 E (by decide +kernel) (zh (zh (za (za (zh (za zb)))))) E (qf E) (qJ ht_5)<|by exact a_takeP 7 E (by decide +kernel) (zh (zh (za (za (zh (za zb)))))) E (gy E E (by decide))<|by exact a_takeP 8 E (by decide +kernel) (zh (zh (za (za (zh (za zb)))))) E (zaj ⟨_,Tryz.underlying5⟩ E)<|by exact a_takeP 9 E (by decide +kernel) (zh (zh (za (za (zh (za zb)))))) E (yP E E)<|by exact a_takeP 10 E (by decide +kernel) (zh (zh (za (za (zh (za zb)))))) E (zs E)<|by exact qx 11 (by decide +kernel) E<|by exact yZ E E H18 fun t_6 Sx_7 H19=>by obtain⟨k,H20⟩:=H19;exact zC<|yv (yg (qJ k) ql)<|qx 12 (by decide +kernel) E<|by exact fO E E H20 fun t_7 t_8 Sx_8 H21=>by obtain⟨k_1,H22⟩:=H21;exact zC<|yv (yg (qJ k_1) ql)<|yh (by decide +kernel)<|by exact qm<|qm<|hJx_1 () _ _ _ _ [] H22 E ⟨E,E,E,E,True.intro⟩ E);exact (c_f E c_4<|csr<|iteK H16 (fun c_7 H23=>ceT E E E (c_7)<|gv E E<|nx<|ctr E E<|mv E E<|mv E E<|mv E E<|s_p E (yP E E)<|s_p E (gy E E (by decide))<|yZ E E H23 fun t_9 Sx_9 H24=>zC<|qm<|qm<|hJx_1 () _ _ _ _ [] H24 E ⟨E,E,E,E,True.intro⟩ E) fun c_7 H23=>ceF E E E (c_7)<|gv E E<|nx<|c_f E E<|csr<|iteK H23 (fun c_8 H25=>ceT E E E (c_8)<|gv E E<|nx<|c_t E E<|csr<|mv E E<|mv E E<|mv E E<|mv E E<|an2 H25 fun c_9 c_10 H26=>s_p E (yi E E c_9 c_10 E)<|gx H26 fun t_10 ht_10 H27=>s_v E (qf E) (qJ ht_10)<|yZ E E H27 fun t_11 Sx_10 H28=>nx<|zn<|mv E E<|zbF E E H28 fun Sx_11 H29=>zC<|qm<|qm<|hJx_1 () _ _ _ _ [] H29 E ⟨E,E,E,E,True.intro⟩ E) fun c_8 H25=>ceF E E E (c_8)<|gv E E<|nx<|c_f E E<|csr<|iteK H25 (fun c_11 H30=>ceT E E E (c_11)<|gv E E<|nx<|c_t E E<|csr<|mv E E<|mv E E<|an2 H30 fun c_12 c_13 H31=>s_p E (yi E E c_12 c_13 E)<|gx H31 fun t_12 ht_12 H32=>s_v E (qf E) (qJ ht_12)<|s_p E (gy E E (by decide))<|iteK H32 (fun c_14 H33=>ceT E E E (c_14)<|nx<|ctr E E<|mv E E<|mv E E<|yZ E E H33 fun t_13 Sx_12 H34=>zC<|qm<|qm<|hJx_1 () _ _ _ _ [] H34 E ⟨E,E,E,E,True.intro⟩ E) fun c_14 H33=>ceF E E E (c_14)<|nx<|cfs E E<|qm<|qm<|hJx_1 () _ _ _ _ [] H33 E ⟨E,E,E,E,True.intro⟩ E) fun c_11 H30=>ceF E E E (c_11)<|gv E E<|nx<|c_f E E<|csr<|gv E E<|nx<|zq<|qV (fun z=>⟨100,[(3,.slice (some ⟨b,o,none⟩) n n_1),(4,eL seed),(11,eP t),(13,.int .i64 i),(14,.int .i64 (IntKind.i64.wrap (Int.tmod t_2 3))),(15,.int .i64 z)]⟩) (fun z=>[]) 0 (idx:=[]) H30 E ⟨E,E,E,E,E,E,True.intro⟩ E<|fun Xx_1 hXx_1 k_2 Sx_13 H35=>zo H35 (fun (J:Mem→Prop) (z:Unit) S=>J S) (fun z=>⟨100,[(3,.slice (some ⟨b,o,none⟩) n n_1),(4,eL seed),(11,eP t),(13,.int .i64 i),(14,.int .i64 (IntKind.i64.wrap (Int.tmod t_2 3))),(15,.int .i64 k_2)]⟩) (fun z=>[]) (fun _ Sx_14 H36=>zF<|zq<|csr<|mv E E<|mv E E<|yZ E E H36 fun t_14 Sx_15 H37=>nx<|zn<|mv E E<|mv E E<|yZ E E H37 fun t_15 Sx_16 H38=>zC<|qm<|zr<|zn<|mv E E<|s_p E (yP E E)<|gv E E<|zC<|by exact hXx_1 (IntKind.i64.wrap (k_2+1)) _ _ _ _ [] H38 E ⟨E,E,E,E,E,E,True.intro⟩ E) (fun Jx_2 hJx_2 H39=>csr<|mv E E<|iteK H39 (fun c_15 H40=>s_p E (yT (zR E E) c_15)<|nx<|c_t E E<|qU<|hJx_2 () _ _ _ _ [] H40 E ⟨E,E,E,E,E,E,True.intro⟩ E) fun c_15 H40=>s_p E (yF (zR E E) c_15)<|nx<|c_f E E<|qr<|zf<|zf<|zx<|qm<|qm<|hJx_1 () _ _ _ _ [] H40 E ⟨E,E,E,E,True.intro⟩ E))) (fun Jx_3 hJx_3 H41=>csr<|iteK H41 (fun c_16 H42=>ceT E E E (c_16)<|gv E E<|nx<|c_t E E<|qU<|hJx_3 true _ _ _ _ [] H42 E ⟨E,E,E,E,E,E,E,True.intro⟩ E) fun c_16 H42=>ceF E E E (c_16)<|gv E E<|nx<|cfr E E<|iteK H42 (fun c_17 H43=>ceT E E E (c_17)<|gv E E<|zC<|hJx_3 true _ _ _ _ [] H43 E ⟨E,E,E,E,E,E,E,True.intro⟩ E) fun c_17 H43=>ceF E E E (c_17)<|gv E E<|zC<|hJx_3 false _ _ _ _ [] H43 E ⟨E,E,E,E,E,E,E,True.intro⟩ E))) (fun Jx_4 hJx_4 H44=>csr<|mv E E<|mv E E<|s_p E (xw E)<|iteK H44 (fun c_18 H45=>s_p E (yT (zR E E) c_18)<|nx<|c_t E E<|qU<|hJx_4 () _ _ _ _ [] H45 E ⟨E,E,E,E,True.intro⟩ E) fun c_18 H45=>s_p E (yF (zR E E) c_18)<|nx<|c_f E E<|qr<|zf<|zf<|zx<|hJx () _ _ _ _ [] H45 E ⟨E,True.intro⟩ E))) (fun Jx_5 hJx_5 H46=>csr<|mv E E<|iteK H46 (fun c_19 H47=>s_p E (yT (qE E E) c_19)<|nx<|c_t E E<|csr<|gv E E<|nx<|zm<|zc<|zl Tryz.results95 (zd E zg) ⟨_,E,H47⟩) fun c_19 H47=>s_p E (yF (qE E E) c_19)<|nx<|cfs E E<|hJx_5 () _ _ _ _ [] H47 E ⟨E,E,E,True.intro⟩ E)
def zu (S:Mem) (form:Int) (Q:Bool→Mem→Prop):Prop:=
 jn (fun (want:Int) (Sx:Mem)=>
 zM Sx fun t Sx_1=>
 if t=true then
 qA Sx_1 form fun t_1 Sx_2=>
 Q (decide (t_1=want)) Sx_2
 else
 Q false Sx_1) fun Jx=>
 if form=1 then
 Jx 2 S
 else
 Jx 1 S
theorem qG {S:Mem} {form:Int} {Q:Bool→Mem→Prop} (H:zu S form Q):yb S form Q:=by
 unfold zu at H
 exact Tr.intro Tryz.func12 E Tryz.ntmps12 E fun w0=>csr<|gv E E<|nxr<|gv E E<|nx<|zo H (fun (J:Int→Mem→Prop) (z:Int) S=>J z S) (fun z=>⟨13,[(0,.int .i64 form),(3,.int .i64 z)]⟩) (fun z=>[]) (fun want Sx H1=>csr<|yZ E E H1 fun t Sx_1 H2=>by have H3:=gr H2;rcases H3 with ⟨rfl,H4⟩ | ⟨rfl,H4⟩;exact (mv E E<|mv E E<|yZ E E H4 fun t_1 Sx_2 H5=>mv E E<|s_p E (fF E E)<|pk E E E<|gv E E<|nx<|zm<|zl Tryz.results12 (zd E zg) ⟨_,E,H5⟩);exact (mv E E<|sk4 E E E E<|pk E E E<|gv E E<|nx<|zm<|zl Tryz.results12 (zd E zg) ⟨_,E,H4⟩)) (fun Jx hJx H6=>csr<|mv E E<|iteK H6 (fun c H7=>ceT E E E (c)<|nx<|ctr E E<|gv E E<|zC<|hJx 2 _ _ _ _ [] H7 E ⟨E,E,True.intro⟩ E) fun c H7=>ceF E E E (c)<|nx<|cfs E E<|hJx 1 _ _ _ _ [] H7 E ⟨E,E,True.intro⟩ E)
def xg (S:Mem) (a:Pt) (b:Pt) (Q:Bool→Mem→Prop):Prop:=
 jn (fun (Sx:Mem)=>
 jn (fun (Sx_1:Mem)=>
 nn a fun b_1 o=>
 gA (Sx_1.part b_1 (o+75) 96) fun t=>
 nn b fun b_2 o_1=>
 gA (Sx_1.part b_2 (o_1+75) 96) fun t_1=>
 fits ck72 t=true ∧
 fits ck72 t_1=true ∧
 if (eqL t t_1)=true then
 gA (Sx_1.part b_1 (o+172) 18) fun t_2=>
 gA (Sx_1.part b_2 (o_1+172) 18) fun t_3=>
 fits [.i .i64,.i .i64,.i .i64,.i .i64,.i .i64,.i .i64,.i .i64,.i .i64,.i .i64,.i .i64,.i .i64,.i .i64,.i .i64,.i .i64,.i .i64,.i .i64,.i .i64,.i .i64] t_2=true ∧
 fits [.i .i64,.i .i64,.i .i64,.i .i64,.i .i64,.i .i64,.i .i64,.i .i64,.i .i64,.i .i64,.i .i64,.i .i64,.i .i64,.i .i64,.i .i64,.i .i64,.i .i64,.i .i64] t_3=true ∧
 if (eqL t_2 t_3)=true then
 gP (Sx_1.cell b_1 (o+74)) fun t_4=>
 nn t_4 fun b_3 o_2=>
 gL (Sx_1.cell b_3 o_2) fun t_5=>
 gP (Sx_1.cell b_2 (o_1+74)) fun t_6=>
 nn t_6 fun b_4 o_3=>
 gL (Sx_1.cell b_4 o_3) fun t_7=>
 zp Sx_1 t_5 t_7 (.func (.func 114) #[] #[]) fun t_8 Sx_2=>
 Sx_2.cell b_2 (o_1+74)=some (.pointer (some ⟨b_4,o_3,none⟩)) ∧
 Sx_2.cell b_1 (o+74)=some (.pointer (some ⟨b_3,o_2,none⟩)) ∧
 Sx_2.part b_2 (o_1+172) 18=some t_3 ∧
 Sx_2.part b_1 (o+172) 18=some t_2 ∧
 Sx_2.part b_2 (o_1+75) 96=some t_1 ∧
 Sx_2.part b_1 (o+75) 96=some t ∧
 Q t_8 Sx_2
 else
 Q false Sx_1
 else
 Q false Sx_1) fun Jx=>
 lp (fun Xx (t_9:Int) (Sx_3:Mem)=>
 if t_9<6 then
 nn a fun b_5 o_4=>
 0≤t_9∧t_9<6 ∧
 gA (Sx_3.part b_5 (o_4+2+t_9.toNat*12) 12) fun t_10=>
 nn b fun b_6 o_5=>
 0≤t_9∧t_9<6 ∧
 gA (Sx_3.part b_6 (o_5+2+t_9.toNat*12) 12) fun t_11=>
 xe Sx_3 t_10 t_11 fun t_12 Sx_4=>
 if t_12=true then
 Xx (IntKind.i64.wrap (t_9+1)) Sx_4
 else
 Q false Sx_4
 else
 Jx Sx_3) 0 Sx) fun Jx_1=>
 if a=none then
 if a=none then
 Q (decide (b=none)) S
 else
 Q false S
 else
 if b=none then
 if a=none then
 Q (decide (b=none)) S
 else
 Q false S
 else
 Jx_1 S
theorem kD {S:Mem} {a:Pt} {b:Pt} {Q:Bool→Mem→Prop} (H:xg S a b Q):wq S a b Q:=by
 unfold xg at H
 exact Tr.intro Tryz.func54 E Tryz.ntmps54 E fun w0=>csr<|gv E E<|nx<|zo H (fun (J:Mem→Prop) (z:Unit) S=>J S) (fun z=>⟨73,[(0,eP a),(1,eP b)]⟩) (fun z=>[]) (fun _ Sx H1=>zo H1 (fun (J:Mem→Prop) (z:Unit) S=>J S) (fun z=>⟨73,[(0,eP a),(1,eP b)]⟩) (fun z=>[]) (fun _ Sx_1 H2=>zF<|yr (by kernel_rfl)<|aTP 0 E (by decide +kernel) E (zs E)<|by exact by obtain⟨b_1,o,rfl,H3⟩:=H2;exact aTP 1 E (by decide +kernel) E (qF E)<|by exact aTP 2 E (by decide +kernel) E (zY E E)<|by exact gx H3 fun t ht H4=>by refine aT 3 E (by decide +kernel) E (yV E (zD ht)) (yU ht) ?_;exact aTP 4 E (by decide +kernel) E (zs E)<|by exact by obtain⟨b_2,o_1,rfl,H5⟩:=H4;exact aTP 5 E (by decide +kernel) E (qF E)<|by exact aTP 6 E (by decide +kernel) E (zY E E)<|by exact gx H5 fun t_1 ht_1 H6=>by refine aT 7 E (by decide +kernel) E (yV E (zD ht_1)) (yU ht_1) ?_;exact an H6 fun c H7=>an H7 fun c_1 H8=>iteK H8 (fun c_2 H9=>aTP 8 E (by decide +kernel) E (yB (jO E E c c_1) c_2)<|by exact aTP 9 E (by decide +kernel) E (zs E)<|by exact aTP 10 E (by decide +kernel) E (zs E)<|by exact aTP 11 E (by decide +kernel) E (qF E)<|by exact aTP 12 E (by decide +kernel) E (zY E E)<|by exact gx H9 fun t_2 ht_2 H10=>by refine aT 13 E (by decide +kernel) E (yV E (zD ht_2)) (yU ht_2) ?_;exact aTP 14 E (by decide +kernel) E (zs E)<|by exact aTP 15 E (by decide +kernel) E (qF E)<|by exact aTP 16 E (by decide +kernel) E (zY E E)<|by exact gx H10 fun t_3 ht_3 H11=>by refine aT 17 E (by decide +kernel) E (yV E (zD ht_3)) (yU ht_3) ?_;exact an H11 fun c_3 H12=>an H12 fun c_4 H13=>iteK H13 (fun c_5 H14=>aTP 18 E (by decide +kernel) E (yB (jO E E c_3 c_4) c_5)<|by exact aTP 19 E (by decide +kernel) E (wO E E)<|by exact aTP 20 E (by decide +kernel) E (zs E)<|by exact aTP 21 E (by decide +kernel) E (zs E)<|by exact aTP 22 E (by decide +kernel) E (qF E)<|by exact aTP 23 E (by decide +kernel) E (zY E E)<|by exact gx H14 fun t_4 ht_4 H15=>aT 24 E (by decide +kernel) E (qf E) (qJ ht_4)<|by exact by obtain⟨b_3,o_2,rfl,H16⟩:=H15;exact aTP 25 E (by decide +kernel) E (qF E)<|by exact aTP 26 E (by decide +kernel) E (zY E E)<|by exact gx H16 fun t_5 ht_5 H17=>aT 27 E (by decide +kernel) E (qf E) (qJ ht_5)<|by exact aTP 28 E (by decide +kernel) E (zs E)<|by exact aTP 29 E (by decide +kernel) E (qF E)<|by exact aTP 30 E (by decide +kernel) E (zY E E)<|by exact gx H17 fun t_6 ht_6 H18=>aT 31 E (by decide +kernel) E (qf E) (qJ ht_6)<|by exact by obtain⟨b_4,o_3,rfl,H19⟩:=H18;exact aTP 32 E (by decide +kernel) E (qF E)<|by exact aTP 33 E (by decide +kernel) E (zY E E)<|by exact gx H19 fun t_7 ht_7 H20=>aT 34 E (by decide +kernel) E (qf E) (qJ ht_7)<|by exact qx 35 (by decide +kernel) E<|by exact yZ E E H20 fun t_8 Sx_2 H21=>by obtain⟨k,H22⟩:=H21;exact by obtain⟨k_1,H23⟩:=H22;exact by obtain⟨k_2,H24⟩:=H23;exact by obtain⟨k_3,H25⟩:=H24;exact by obtain⟨k_4,H26⟩:=H25;exact by obtain⟨k_5,H27⟩:=H26;exact zC<|yv (yg (qJ k) (yg (qJ k_1) (yg (yU k_2) (yg (yU k_3) (yg (yU k_4) (yg (yU k_5) ql))))))<|aTP 36 E (by decide +kernel) E (wO E E)<|by exact aTP 37 E (by decide +kernel) E (xG E)<|by exact yh (by decide +kernel)<|by exact zr<|zm<|zl Tryz.results54 (zd E zg) ⟨_,E,H27⟩) fun c_5 H14=>aTP 18 E (by decide +kernel) E (yB (jO E E c_3 c_4) (zah c_5))<|by exact aTP 19 E (by decide +kernel) E (wO E E)<|by exact aTP 20 E (by decide +kernel) E (zs E)<|by exact zy 21 E (by decide +kernel) (za zb) E<|by exact zy 22 E (by decide +kernel) (za zb) E<|by exact zy 23 E (by decide +kernel) (za zb) E<|by exact zy 24 E (by decide +kernel) (za zb) E<|by exact zy 25 E (by decide +kernel) (za zb) E<|by exact zy 26 E (by decide +kernel) (za zb) E<|by exact zy 27 E (by decide +kernel) (za zb) E<|by exact zy 28 E (by decide +kernel) (za zb) E<|by exact zy 29 E (by decide +kernel) (za zb) E<|by exact zy 30 E (by decide +kernel) (za zb) E<|by exact zy 31 E (by decide +kernel) (za zb) E<|by exact zy 32 E (by decide +kernel) (za zb) E<|by exact zy 33 E (by decide +kernel) (za zb) E<|by exact zy 34 E (by decide +kernel) (za zb) E<|by exact zy 35 E (by decide +kernel) (za zb) E<|by exact aTP 36 E (by decide +kernel) E (wO E E)<|by exact aTP 37 E (by decide +kernel) E (xG E)<|by exact yh (by decide +kernel)<|by exact zr<|zm<|zl Tryz.results54 (zd E zg) ⟨_,E,H14⟩) fun c_2 H9=>aTP 8 E (by decide +kernel) E (yB (jO E E c c_1) (zah c_2))<|by exact aTP 9 E (by decide +kernel) E (zs E)<|by exact zy 10 E (by decide +kernel) (za zb) E<|by exact zy 11 E (by decide +kernel) (za zb) E<|by exact zy 12 E (by decide +kernel) (za zb) E<|by exact zy 13 E (by decide +kernel) (za zb) E<|by exact zy 14 E (by decide +kernel) (za zb) E<|by exact zy 15 E (by decide +kernel) (za zb) E<|by exact zy 16 E (by decide +kernel) (za zb) E<|by exact zy 17 E (by decide +kernel) (za zb) E<|by exact zy 18 E (by decide +kernel) (za zb) E<|by exact aTP 19 E (by decide +kernel) E (wO E E)<|by exact aTP 20 E (by decide +kernel) E (zs E)<|by exact zy 21 E (by decide +kernel) (za zb) E<|by exact zy 22 E (by decide +kernel) (za zb) E<|by exact zy 23 E (by decide +kernel) (za zb) E<|by exact zy 24 E (by decide +kernel) (za zb) E<|by exact zy 25 E (by decide +kernel) (za zb) E<|by exact zy 26 E (by decide +kernel) (za zb) E<|by exact zy 27 E (by decide +kernel) (za zb) E<|by exact zy 28 E (by decide +kernel) (za zb) E<|by exact zy 29 E (by decide +kernel) (za zb) E<|by exact zy 30 E (by decide +kernel) (za zb) E<|by exact zy 31 E (by decide +kernel) (za zb) E<|by exact zy 32 E (by decide +kernel) (za zb) E<|by exact zy 33 E (by decide +kernel) (za zb) E<|by exact zy 34 E (by decide +kernel) (za zb) E<|by exact zy 35 E (by decide +kernel) (za zb) E<|by exact aTP 36 E (by decide +kernel) E (wO E E)<|by exact aTP 37 E (by decide +kernel) E (xG E)<|by exact yh (by decide +kernel)<|by exact zr<|zm<|zl Tryz.results54 (zd E zg) ⟨_,E,H9⟩) (fun Jx hJx H28=>csr<|mv E E<|nx<|zq<|qV (fun z=>⟨73,[(0,eP a),(1,eP b),(18,.int .i64 z)]⟩) (fun z=>[]) 0 (idx:=[]) H28 E ⟨E,E,E,True.intro⟩ E<|fun Xx hXx t_9 Sx_3 H29=>csr<|iteK H29 (fun c_6 H30=>s_p E (yT (zR E E) c_6)<|nx<|zF<|c_t E E<|qU<|zr<|zF<|zq<|csr<|mv E E<|gv E E<|nx<|zF<|yr (by kernel_rfl)<|a_takeP 0 E (by decide +kernel) (za (zh (za (za (zh (za zb)))))) E (zs E)<|by exact a_takeP 1 E (by decide +kernel) (za (zh (za (za (zh (za zb)))))) E (zs E)<|by exact by obtain⟨b_5,o_4,rfl,H31⟩:=H30;exact a_takeP 2 E (by decide +kernel) (za (zh (za (za (zh (za zb)))))) E (qF E)<|by exact a_takeP 3 E (by decide +kernel) (za (zh (za (za (zh (za zb)))))) E (zY E E)<|by exact an2 H31 fun c_7 c_8 H32=>a_takeP 4 E (by decide +kernel) (za (zh (za (za (zh (za zb)))))) E (vU E E c_7 c_8 E)<|by exact gx H32 fun t_10 ht_10 H33=>by refine xk 5 E (by decide +kernel) (za (zh (za (za (zh (za zb)))))) E (yV E (zD ht_10)) (yU ht_10) ?_;exact a_takeP 6 E (by decide +kernel) (za (zh (za (za (zh (za zb)))))) E (zs E)<|by exact a_takeP 7 E (by decide +kernel) (za (zh (za (za (zh (za zb)))))) E (zs E)<|by exact by obtain⟨b_6,o_5,rfl,H34⟩:=H33;exact a_takeP 8 E (by decide +kernel) (za (zh (za (za (zh (za zb)))))) E (qF E)<|by exact a_takeP 9 E (by decide +kernel) (za (zh (za (za (zh (za zb)))))) E (zY E E)<|by exact an2 H34 fun c_9 c_10 H35=>a_takeP 10 E (by decide +kernel) (za (zh (za (za (zh (za zb)))))) E (vU E E c_9 c_10 E)<|by exact gx H35 fun t_11 ht_11 H36=>by refine xk 11 E (by decide +kernel) (za (zh (za (za (zh (za zb)))))) E (yV E (zD ht_11)) (yU ht_11) ?_;exact qx 12 (by decide +kernel) E<|by exact yZ E E H36 fun t_12 Sx_4 H37=>by have H38:=gr H37;rcases H38 with ⟨rfl,H39⟩ | ⟨rfl,H39⟩;exact (zC<|yv ql<|a_takeP 13 E (by decide +kernel) (za (zh (za (za (zh (za zb)))))) E (yB (xp E) E)<|by exact yh (by decide +kernel)<|by exact zr<|cfs E E<|qm<|zr<|zn<|s_p E (yP E E)<|mv E E<|zC<|hXx (IntKind.i64.wrap (t_9+1)) _ _ _ _ [] H39 E ⟨E,E,E,True.intro⟩ E);exact (zC<|yv ql<|a_takeP 13 E (by decide +kernel) (za (zh (za (za (zh (za zb)))))) E (yB (xp E) E)<|by exact yh (by decide +kernel)<|by exact zr<|c_t E E<|csr<|gv E E<|nx<|zm<|zw<|zc<|zc<|zw<|zc<|zl Tryz.results54 (zd E zg) ⟨_,E,H39⟩)) fun c_6 H30=>s_p E (yF (zR E E) c_6)<|nx<|zF<|c_f E E<|qr<|zf<|zf<|zx<|hJx () _ _ _ _ [] H30 E ⟨E,E,True.intro⟩ E)) (fun Jx_1 hJx_1 H40=>csr<|mv E E<|iteK H40 (fun c_11 H41=>s_p E (yT (zN (p:=a) E E) c_11)<|mv E E<|sk2 E E<|pk E E E<|nx<|c_t E E<|csr<|mv E E<|iteK H41 (fun c_12 H42=>s_p E (yT (zN (p:=a) E E) c_12)<|mv E E<|mv E E<|s_p E (zN (p:=b) E E)<|pk E E E<|gv E E<|nx<|zm<|zc<|zl Tryz.results54 (zd E zg) ⟨_,E,H42⟩) fun c_12 H42=>s_p E (yF (zN (p:=a) E E) c_12)<|mv E E<|sk2 E E<|pk E E E<|gv E E<|nx<|zm<|zc<|zl Tryz.results54 (zd E zg) ⟨_,E,H42⟩) fun c_11 H41=>s_p E (yF (zN (p:=a) E E) c_11)<|mv E E<|mv E E<|iteK H41 (fun c_13 H43=>s_p E (yT (zN (p:=b) E E) c_13)<|pk E E E<|nx<|c_t E E<|csr<|mv E E<|iteK H43 (fun c_14 H44=>s_p E (yT (zN (p:=a) E E) c_14)<|mv E E<|mv E E<|s_p E (zN (p:=b) E E)<|pk E E E<|gv E E<|nx<|zm<|zc<|zl Tryz.results54 (zd E zg) ⟨_,E,H44⟩) fun c_14 H44=>s_p E (yF (zN (p:=a) E E) c_14)<|mv E E<|sk2 E E<|pk E E E<|gv E E<|nx<|zm<|zc<|zl Tryz.results54 (zd E zg) ⟨_,E,H44⟩) fun c_13 H43=>s_p E (yF (zN (p:=b) E E) c_13)<|pk E E E<|nx<|cfs E E<|hJx_1 () _ _ _ _ [] H43 E ⟨E,E,True.intro⟩ E)
def yt (S:Mem) (a:List Value) (b:List Value) (Q:Bool→Mem→Prop):Prop:=
 a.length=12 ∧
 b.length=12 ∧
 jn (fun (Sx:Mem)=>
 jn (fun (Sx_1:Mem)=>
 Q true Sx_1) fun Jx=>
 lp (fun Xx (t:Int) (Sx_2:Mem)=>
 if t<4 then
 0≤t∧t<4 ∧
 gL (nthL a (7+t.toNat*1)) fun t_1=>
 0≤t∧t<4 ∧
 gL (nthL b (7+t.toNat*1)) fun t_2=>
 yM Sx_2 t_1 t_2 fun t_3 Sx_3=>
 if t_3=true then
 Xx (IntKind.i64.wrap (t+1)) Sx_3
 else
 Q false Sx_3
 else
 Jx Sx_2) 0 Sx) fun Jx_1=>
 gB (nthL a 0) fun t_4=>
 gB (nthL b 0) fun t_5=>
 if t_4≠t_5 then
 Q false S
 else
 gI (nthL a 4) .i64 fun t_6=>
 gI (nthL b 4) .i64 fun t_7=>
 if t_6≠t_7 then
 Q false S
 else
 gI (nthL a 11) .u32 fun t_8=>
 gI (nthL b 11) .u32 fun t_9=>
 if t_8≠t_9 then
 Q false S
 else
 gL (nthL a 1) fun t_10=>
 gL (nthL b 1) fun t_11=>
 zE S t_10 t_11 fun t_12 Sx_4=>
 if t_12=true then
 gL (nthL a 6) fun t_13=>
 gL (nthL b 6) fun t_14=>
 yM Sx_4 t_13 t_14 fun t_15 Sx_5=>
 if t_15=true then
 Jx_1 Sx_5
 else
 Q false Sx_5
 else
 Q false Sx_4
theorem vA {S:Mem} {a:List Value} {b:List Value} {Q:Bool→Mem→Prop} (H:yt S a b Q):xe S a b Q:=by
 unfold yt at H
 exact Tr.intro Tryz.func112 E Tryz.ntmps112 E fun w0=>an H fun ha H1=>an H1 fun hb H2=>csr<|wj E E E fun b_1=>wj E E E fun b_2=>gv E E<|nx<|zo H2 (fun (J:Mem→Prop) (z:Unit) S=>J S) (fun z=>⟨55,[(2,.pointer (some ⟨b_1,0,none⟩)),(3,.pointer (some ⟨b_2,0,none⟩))]⟩) (fun z=>[⟨b_1,66,a⟩,⟨b_2,66,b⟩]) (fun _ Sx H3=>zo H3 (fun (J:Mem→Prop) (z:Unit) S=>J S) (fun z=>⟨55,[]⟩) (fun z=>[]) (fun _ Sx_1 H4=>csr<|gv E E<|nx<|zm<|zl Tryz.results112 (zd E zg) ⟨_,E,H4⟩) (fun Jx hJx H5=>csr<|mv E E<|nx<|zq<|qV (fun z=>⟨55,[(2,.pointer (some ⟨b_1,0,none⟩)),(3,.pointer (some ⟨b_2,0,none⟩)),(41,.int .i64 z)]⟩) (fun z=>[⟨b_1,66,a⟩,⟨b_2,66,b⟩]) 0 (idx:=[0,0]) H5 E ⟨E,E,E,True.intro⟩ E<|fun Xx hXx t Sx_2 H6=>csr<|iteK H6 (fun c H7=>s_p E (yT (zR E E) c)<|nx<|zF<|c_t E E<|qU<|zr<|zF<|zq<|csr<|mv E E<|gv E E<|nx<|zF<|yr (by kernel_rfl)<|a_takeP 0 E (by decide +kernel) (za (zh (za (za (zh (za zb)))))) E (zs E)<|by exact a_takeP 1 E (by decide +kernel) (za (zh (za (za (zh (za zb)))))) E (zY E E)<|by exact an2 H7 fun c_1 c_2 H8=>a_takeP 2 E (by decide +kernel) (za (zh (za (za (zh (za zb)))))) E (vU E E c_1 c_2 E)<|by exact gx H8 fun t_1 ht_1 H9=>xk 3 E (by decide +kernel) (za (zh (za (za (zh (za zb)))))) E (qf E) (kr 0 E ht_1)<|by exact a_takeP 4 E (by decide +kernel) (za (zh (za (za (zh (za zb)))))) E (zs E)<|by exact a_takeP 5 E (by decide +kernel) (za (zh (za (za (zh (za zb)))))) E (zY E E)<|by exact an2 H9 fun c_3 c_4 H10=>a_takeP 6 E (by decide +kernel) (za (zh (za (za (zh (za zb)))))) E (vU E E c_3 c_4 E)<|by exact gx H10 fun t_2 ht_2 H11=>xk 7 E (by decide +kernel) (za (zh (za (za (zh (za zb)))))) E (qf E) (kr 1 E ht_2)<|by exact qx 8 (by decide +kernel) E<|by exact yZ E E H11 fun t_3 Sx_3 H12=>by have H13:=gr H12;rcases H13 with ⟨rfl,H14⟩ | ⟨rfl,H14⟩;exact (zC<|yv ql<|a_takeP 9 E (by decide +kernel) (za (zh (za (za (zh (za zb)))))) E (yB (xp E) E)<|by exact yh (by decide +kernel)<|by exact zr<|cfs E E<|qm<|zr<|zn<|s_p E (yP E E)<|mv E E<|zC<|hXx (IntKind.i64.wrap (t+1)) _ _ _ _ [0,0] H14 E ⟨E,E,E,True.intro⟩ E);exact (zC<|yv ql<|a_takeP 9 E (by decide +kernel) (za (zh (za (za (zh (za zb)))))) E (yB (xp E) E)<|by exact yh (by decide +kernel)<|by exact zr<|c_t E E<|csr<|gv E E<|nx<|zm<|zw<|zc<|zc<|zw<|zc<|zl Tryz.results112 (zd E zg) ⟨_,E,H14⟩)) fun c H7=>s_p E (yF (zR E E) c)<|nx<|zF<|c_f E E<|qr<|zf<|zf<|zx<|hJx () _ _ _ _ [] H7 E True.intro E)) (fun Jx_1 hJx_1 H15=>csr<|s_p E (zY E E)<|gx H15 fun t_4 ht_4 H16=>s_v E (qf E) (kr 0 E ht_4)<|s_p E (zY E E)<|gx H16 fun t_5 ht_5 H17=>s_v E (qf E) (kr 1 E ht_5)<|iteK H17 (fun c_5 H18=>s_p E (yT (zbc E E) c_5)<|mv E E<|sk4 E E E E<|zH E<|pk E E E<|mv E E<|sk4 E E E E<|zH E<|pk E E E<|mv E E<|sk4 E E E E<|sk2 E E<|pk E E E<|mv E E<|sk4 E E E E<|zH E<|by exact zH E<|pk E E E<|nx<|c_t E E<|csr<|gv E E<|nx<|zm<|zc<|zl Tryz.results112 (zd E zg) ⟨_,E,H18⟩) fun c_5 H18=>s_p E (yF (zbc E E) c_5)<|mv E E<|s_p E (zY E E)<|gx H18 fun t_6 ht_6 H19=>s_v E (qf E) (kr 0 E ht_6)<|s_p E (zY E E)<|gx H19 fun t_7 ht_7 H20=>s_v E (qf E) (kr 1 E ht_7)<|iteK H20 (fun c_6 H21=>s_p E (yT (qE E E) c_6)<|pk E E E<|mv E E<|sk4 E E E E<|zH E<|pk E E E<|mv E E<|sk4 E E E E<|sk2 E E<|pk E E E<|mv E E<|sk2 E E<|by exact sk4 E E E E<|pk E E E<|nx<|c_t E E<|csr<|gv E E<|nx<|zm<|zc<|zl Tryz.results112 (zd E zg) ⟨_,E,H21⟩) fun c_6 H21=>s_p E (yF (qE E E) c_6)<|pk E E E<|mv E E<|s_p E (zY E E)<|gx H21 fun t_8 ht_8 H22=>s_v E (qf E) (kr 0 E ht_8)<|s_p E (zY E E)<|gx H22 fun t_9 ht_9 H23=>s_v E (qf E) (kr 1 E ht_9)<|iteK H23 (fun c_7 H24=>s_p E (yT (qE E E) c_7)<|pk E E E<|mv E E<|sk4 E E E E<|sk2 E E<|pk E E E<|by exact mv E E<|sk4 E E E E<|sk2 E E<|pk E E E<|nx<|c_t E E<|csr<|gv E E<|nx<|zm<|zc<|zl Tryz.results112 (zd E zg) ⟨_,E,H24⟩) fun c_7 H24=>s_p E (yF (qE E E) c_7)<|pk E E E<|mv E E<|s_p E (zY E E)<|gx H24 fun t_10 ht_10 H25=>s_v E (qf E) (kr 0 E ht_10)<|s_p E (zY E E)<|gx H25 fun t_11 ht_11 H26=>s_v E (qf E) (kr 1 E ht_11)<|yZ E E H26 fun t_12 Sx_4 H27=>by exact by have H28:=gr H27;rcases H28 with ⟨rfl,H29⟩ | ⟨rfl,H29⟩;exact (s_p E (yB (xp E) E)<|pk E E E<|mv E E<|s_p E (zY E E)<|gx H29 fun t_13 ht_13 H30=>s_v E (qf E) (kr 0 E ht_13)<|s_p E (zY E E)<|gx H30 fun t_14 ht_14 H31=>s_v E (qf E) (kr 1 E ht_14)<|yZ E E H31 fun t_15 Sx_5 H32=>by have H33:=gr H32;rcases H33 with ⟨rfl,H34⟩ | ⟨rfl,H34⟩;exact (s_p E (yB (xp E) E)<|pk E E E<|nx<|cfs E E<|hJx_1 () _ _ _ _ [0,0] H34 E ⟨E,E,True.intro⟩ E);exact (s_p E (yB (xp E) E)<|pk E E E<|nx<|c_t E E<|csr<|gv E E<|nx<|zm<|zc<|zl Tryz.results112 (zd E zg) ⟨_,E,H34⟩));exact (s_p E (yB (xp E) E)<|pk E E E<|mv E E<|sk4 E E E E<|sk2 E E<|pk E E E<|nx<|c_t E E<|csr<|gv E E<|nx<|zm<|zc<|zl Tryz.results112 (zd E zg) ⟨_,E,H29⟩))
def yf (S:Mem) (x:List Value) (y:List Value) (Q:Bool→Mem→Prop):Prop:=
 x.length=4 ∧
 y.length=4 ∧
 fits [.i .u8,.i .i64,.i .i64,.i .i64] x=true ∧
 fits [.i .u8,.i .i64,.i .i64,.i .i64] y=true ∧
 if (eqL x y)=true then
 Q true S
 else
 gI (nthL x 0) .u8 fun t=>
 if t≠3 then
 gI (nthL y 0) .u8 fun t_1=>
 Q (decide (t_1≠3)) S
 else
 Q false S
theorem wV {S:Mem} {x:List Value} {y:List Value} {Q:Bool→Mem→Prop} (H:yf S x y Q):xT S x y Q:=by
 unfold yf at H
 exact Tr.intro Tryz.func114 E Tryz.ntmps114 E fun w0=>an H fun hx H1=>an H1 fun hy H2=>csr<|wj E E E fun b=>wj E E E fun b_1=>gv E E<|nxr<|by refine s_v E (yV E hx) (jp (k:=4) 0 E (qa hx)) ?_;exact by refine s_v E (yV E hy) (jp (k:=4) 1 E (qa hy)) ?_;exact an H2 fun c H3=>an H3 fun c_1 H4=>iteK H4 (fun c_2 H5=>s_p E (yB (jO E E c c_1) c_2)<|mv E E<|sk8 E E E E E E E E<|pk E E E<|gv E E<|nx<|zm<|zl Tryz.results114 (zd E zg) ⟨_,E,H5⟩) fun c_2 H5=>s_p E (yB (jO E E c c_1) (zah c_2))<|mv E E<|s_p E (zY E E)<|gx H5 fun t ht H6=>s_v E (qf E) (kr 0 E ht)<|iteK H6 (fun c_3 H7=>s_p E (yT (qE E E) c_3)<|mv E E<|s_p E (zY E E)<|gx H7 fun t_1 ht_1 H8=>s_v E (qf E) (kr 1 E ht_1)<|s_p E (qE E E)<|pk E E E<|pk E E E<|gv E E<|nx<|zm<|zl Tryz.results114 (zd E zg) ⟨_,E,H8⟩) fun c_3 H7=>s_p E (yF (qE E E) c_3)<|mv E E<|sk2 E E<|zH E<|pk E E E<|pk E E E<|gv E E<|nx<|zm<|zl Tryz.results114 (zd E zg) ⟨_,E,H7⟩
end Go.Proofs.YtabdpmnhjlmnlaaGreatDoor
end
section
namespace Go.Proofs.YtabdpmnhjlmnlaaGreatDoor
open Go Go.Pt
attribute [local irreducible] Code.wp Back bodyPost wpList FR WL WC WQ WA AW Tr Yc HC AllC
set_option maxRecDepth 20000
set_option maxHeartbeats 4000000
set_option linter.unusedVariables false
end Go.Proofs.YtabdpmnhjlmnlaaGreatDoor
end
section
namespace Go.Proofs.YtabdpmnhjlmnlaaGreatDoor
open Go Go.Pt
attribute [local irreducible] Code.wp Back bodyPost wpList FR WL WC WQ WA AW Tr Yc HC AllC
set_option maxRecDepth 20000
set_option maxHeartbeats 4000000
set_option linter.unusedVariables false
end Go.Proofs.YtabdpmnhjlmnlaaGreatDoor
end
section
namespace Go.Proofs.YtabdpmnhjlmnlaaGreatDoor
open Go Go.Pt
attribute [local irreducible] Code.wp Back bodyPost wpList FR WL WC WQ WA AW Tr Yc HC AllC
set_option maxRecDepth 20000
set_option maxHeartbeats 4000000
set_option linter.unusedVariables false
def xE (S:Mem) (h:Value) (Q:Mem→Prop):Prop:=
 ci Tryz.prog S h "Len" [] fun rv Sx => ∃ t : Int, rv = .int .i64 t ∧ 
 lp (fun Xx (i:Int) (Sx_1:Mem)=>
 if 0≤i then
 xS Sx_1 h i t fun t_1 Sx_2=>
 Xx (IntKind.i64.wrap (i-1)) Sx_2
 else
 Q Sx_1) (IntKind.i64.wrap ((IntKind.i64.wrap (Int.tdiv t 2))-1)) Sx
theorem je {S:Mem} {h:Value} {Q:Mem→Prop} (H:xE S h Q):ve S h Q:=by
 unfold xE at H
 exact Tr.intro Tryz.func106 E Tryz.ntmps106 E fun w0=>csr<|mv E E<|gO E E E H fun rv Sx H1=>by obtain⟨t,rfl,H2⟩:=H1;exact gv E E<|nxr<|mv E E<|s_p E (zav E E (by decide))<|s_p E (kB E E)<|gv E E<|nx<|zq<|qV (fun z=>⟨17,[(0,h),(2,.int .i64 t),(3,.int .i64 z)]⟩) (fun z=>[]) (IntKind.i64.wrap ((IntKind.i64.wrap (Int.tdiv t 2))-1)) (idx:=[]) H2 E ⟨E,E,E,True.intro⟩ E<|fun Xx hXx i Sx_1 H3=>zF<|csr<|mv E E<|iteK H3 (fun c H4=>s_p E (yT (wC E E) c)<|nx<|c_t E E<|qU<|zr<|zF<|zq<|zn<|mv E E<|mv E E<|mv E E<|yZ E E H4 fun t_1 Sx_2 H5=>zC<|qm<|zr<|zn<|mv E E<|s_p E (kB E E)<|gv E E<|zC<|hXx (IntKind.i64.wrap (i-1)) _ _ _ _ [] H5 E ⟨E,E,E,True.intro⟩ E) fun c H4=>s_p E (yF (wC E E) c)<|nx<|c_f E E<|qr<|zf<|zf<|zx<|gb Tryz.results106 (zg) ⟨E,H4⟩
def ww (S:Mem) (h:Value) (Q:Value→Mem→Prop):Prop:=
 ci Tryz.prog S h "Len" [] fun rv Sx => ∃ t : Int, rv = .int .i64 t ∧ 
 ci Tryz.prog Sx h "Swap" [.int .i64 0, .int .i64 (IntKind.i64.wrap (t - 1))] fun rv Sx_1 => rv = .tuple #[] ∧ 
 xS Sx_1 h 0 (IntKind.i64.wrap (t-1)) fun t_1 Sx_2=>
 ci Tryz.prog Sx_2 h "Pop" [] fun rv Sx_3 => ∃ t_2 : Value, rv = t_2 ∧ 
 Q t_2 Sx_3
theorem jR {S:Mem} {h:Value} {Q:Value→Mem→Prop} (H:ww S h Q):kq S h Q:=by
 unfold ww at H
 exact Tr.intro Tryz.func155 E Tryz.ntmps155 E fun w0=>csr<|gv E E<|nxr<|mv E E<|gO E E E H fun rv Sx H1=>by obtain⟨t,rfl,H2⟩:=H1;exact s_p E (kB E E)<|gv E E<|nxr<|mv E E<|mv E E<|gO E E E H2 fun rv Sx_1 H3=>by obtain⟨rfl,H4⟩:=H3;exact nxr<|mv E E<|mv E E<|yZ E E H4 fun t_1 Sx_2 H5=>nxr<|mv E E<|gO E E E H5 fun rv Sx_3 H6=>by obtain⟨t_2,rfl,H7⟩:=H6;exact gv E E<|nx<|zm<|zl Tryz.results155 (zd E zg) ⟨_,E,H7⟩
def xD (S:Mem) (h:Value) (x:Value) (Q:Mem→Prop):Prop:=
 ci Tryz.prog S h "Push" [x] fun rv Sx => rv = .tuple #[] ∧ 
 ci Tryz.prog Sx h "Len" [] fun rv Sx_1 => ∃ t : Int, rv = .int .i64 t ∧ 
 jo Sx_1 h (IntKind.i64.wrap (t-1)) fun Sx_2=>
 Q Sx_2
theorem jd {S:Mem} {h:Value} {x:Value} {Q:Mem→Prop} (H:xD S h x Q):vd S h x Q:=by
 unfold xD at H
 exact Tr.intro Tryz.func150 E Tryz.ntmps150 E fun w0=>csr<|mv E E<|mv E E<|gO E E E H fun rv Sx H1=>by obtain⟨rfl,H2⟩:=H1;exact nx<|zn<|mv E E<|mv E E<|gO E E E H2 fun rv Sx_1 H3=>by obtain⟨t,rfl,H4⟩:=H3;exact s_p E (kB E E)<|zbF E E H4 fun Sx_2 H5=>zC<|gb Tryz.results150 (zg) ⟨E,H5⟩
def xC (S:Mem) (h:Value) (i0_0:Int) (n:Int) (Q:Bool→Mem→Prop):Prop:=
 jn (fun (i:Int) (Sx:Mem)=>
 Q (decide (i0_0<i)) Sx) fun Jx=>
 lp (fun Xx (i_1:Int) (Sx_1:Mem)=>
 jn (fun (Sx_2:Mem)=>
 jn (fun (j:Int) (Sx_3:Mem)=>
 ci Tryz.prog Sx_3 h "Less" [.int .i64 j, .int .i64 i_1] fun rv Sx_4 => ∃ t : Bool, rv = .bool t ∧ 
 if t=true then
 ci Tryz.prog Sx_4 h "Swap" [.int .i64 i_1, .int .i64 j] fun rv Sx_5 => rv = .tuple #[] ∧ 
 Xx j Sx_5
 else
 Jx i_1 Sx_4) fun Jx_1=>
 if IntKind.i64.wrap ((IntKind.i64.wrap ((IntKind.i64.wrap (2*i_1))+1))+1)<n then
 ci Tryz.prog Sx_2 h "Less" [.int .i64 (IntKind.i64.wrap ((IntKind.i64.wrap ((IntKind.i64.wrap (2 * i_1)) + 1)) + 1)), .int .i64 (IntKind.i64.wrap ((IntKind.i64.wrap (2 * i_1)) + 1))] fun rv Sx_6 => ∃ t_1 : Bool, rv = .bool t_1 ∧ 
 if t_1=true then
 Jx_1 (IntKind.i64.wrap ((IntKind.i64.wrap ((IntKind.i64.wrap (2*i_1))+1))+1)) Sx_6
 else
 Jx_1 (IntKind.i64.wrap ((IntKind.i64.wrap (2*i_1))+1)) Sx_6
 else
 Jx_1 (IntKind.i64.wrap ((IntKind.i64.wrap (2*i_1))+1)) Sx_2) fun Jx_2=>
 if n≤IntKind.i64.wrap ((IntKind.i64.wrap (2*i_1))+1) then
 Jx i_1 Sx_1
 else
 if IntKind.i64.wrap ((IntKind.i64.wrap (2*i_1))+1)<0 then
 Jx i_1 Sx_1
 else
 Jx_2 Sx_1) i0_0 S
theorem jc {S:Mem} {h:Value} {i0_0:Int} {n:Int} {Q:Bool→Mem→Prop} (H:xC S h i0_0 n Q):xS S h i0_0 n Q:=by
 unfold xC at H
 exact Tr.intro Tryz.func162 E Tryz.ntmps162 E fun w0=>csr<|gv E E<|nxr<|mv E E<|gv E E<|nx<|zo H (fun (J:Int→Mem→Prop) (z:Int) S=>J z S) (fun z=>⟨48,[(1,.int .i64 i0_0),(7,.int .i64 z)]⟩) (fun z=>[]) (fun i Sx H1=>csr<|mv E E<|mv E E<|s_p E (gC E E)<|gv E E<|nx<|zm<|zl Tryz.results162 (zd E zg) ⟨_,E,H1⟩) (fun Jx hJx H2=>zq<|qV (fun z=>⟨48,[(0,h),(1,.int .i64 i0_0),(2,.int .i64 n),(7,.int .i64 z)]⟩) (fun z=>[]) i0_0 (idx:=[]) H2 E ⟨E,E,E,E,True.intro⟩ E<|fun Xx hXx i_1 Sx_1 H3=>zq<|csr<|mv E E<|s_p E (zbe E E)<|s_p E (yP E E)<|gv E E<|nx<|zo H3 (fun (J:Mem→Prop) (z:Unit) S=>J S) (fun z=>⟨48,[(0,h),(1,.int .i64 i0_0),(2,.int .i64 n),(7,.int .i64 i_1),(8,.int .i64 (IntKind.i64.wrap ((IntKind.i64.wrap (2*i_1))+1)))]⟩) (fun z=>[]) (fun _ Sx_2 H4=>csr<|mv E E<|gv E E<|nx<|zo H4 (fun (J:Int→Mem→Prop) (z:Int) S=>J z S) (fun z=>⟨48,[(0,h),(1,.int .i64 i0_0),(2,.int .i64 n),(7,.int .i64 i_1),(9,.int .i64 z)]⟩) (fun z=>[]) (fun j Sx_3 H5=>zF<|csr<|mv E E<|mv E E<|mv E E<|gO E E E H5 fun rv Sx_4 H6=>by obtain⟨t,rfl,H7⟩:=H6;exact by have H8:=gr H7;rcases H8 with ⟨rfl,H9⟩ | ⟨rfl,H9⟩;exact (s_p E (yB (xp E) E)<|nx<|cfs E E<|zr<|csr<|mv E E<|mv E E<|mv E E<|gO E E E H9 fun rv Sx_5 H10=>by obtain⟨rfl,H11⟩:=H10;exact nx<|zn<|mv E E<|gv E E<|zC<|qm<|hXx j _ _ _ _ [] H11 E ⟨E,E,E,E,True.intro⟩ E);exact (s_p E (yB (xp E) E)<|nx<|c_t E E<|qr<|zf<|xP E<|zf<|zx<|hJx i_1 _ _ _ _ [] H9 E ⟨E,E,True.intro⟩ E)) (fun Jx_1 hJx_1 H12=>csr<|mv E E<|s_p E (yP E E)<|gv E E<|nxr<|mv E E<|mv E E<|iteK H12 (fun c H13=>s_p E (yT (zR E E) c)<|mv E E<|mv E E<|mv E E<|mv E E<|gO E E E H13 fun rv Sx_6 H14=>by obtain⟨t_1,rfl,H15⟩:=H14;exact by have H16:=gr H15;rcases H16 with ⟨rfl,H17⟩ | ⟨rfl,H17⟩;exact (pk E E E<|nx<|ctr E E<|mv E E<|gv E E<|zC<|hJx_1 (IntKind.i64.wrap ((IntKind.i64.wrap ((IntKind.i64.wrap (2*i_1))+1))+1)) _ _ _ _ [] H17 E ⟨E,E,E,E,E,True.intro⟩ E);exact (pk E E E<|nx<|cfs E E<|hJx_1 (IntKind.i64.wrap ((IntKind.i64.wrap (2*i_1))+1)) _ _ _ _ [] H17 E ⟨E,E,E,E,E,True.intro⟩ E)) fun c H13=>s_p E (yF (zR E E) c)<|mv E E<|sk4 E E E E<|by exact pk E E E<|nx<|cfs E E<|hJx_1 (IntKind.i64.wrap ((IntKind.i64.wrap (2*i_1))+1)) _ _ _ _ [] H13 E ⟨E,E,E,E,E,True.intro⟩ E)) (fun Jx_2 hJx_2 H18=>csr<|mv E E<|mv E E<|iteK H18 (fun c_1 H19=>s_p E (yT (wC E E) c_1)<|mv E E<|sk2 E E<|pk E E E<|nx<|c_t E E<|qr<|zf<|xP E<|zf<|zx<|hJx i_1 _ _ _ _ [] H19 E ⟨E,E,True.intro⟩ E) fun c_1 H19=>s_p E (yF (wC E E) c_1)<|mv E E<|mv E E<|iteK H19 (fun c_2 H20=>s_p E (yT (zR E E) c_2)<|pk E E E<|nx<|c_t E E<|qr<|zf<|xP E<|zf<|zx<|hJx i_1 _ _ _ _ [] H20 E ⟨E,E,True.intro⟩ E) fun c_2 H20=>s_p E (yF (zR E E) c_2)<|pk E E E<|nx<|cfs E E<|hJx_2 () _ _ _ _ [] H20 E ⟨E,E,E,E,E,True.intro⟩ E))
def vx (S:Mem) (h:Value) (j:Int) (Q:Mem→Prop):Prop:=
 lp (fun Xx (j_1:Int) (Sx:Mem)=>
 jn (fun (Sx_1:Mem)=>
 ci Tryz.prog Sx_1 h "Swap" [.int .i64 (IntKind.i64.wrap (Int.tdiv (IntKind.i64.wrap (j_1 - 1)) 2)), .int .i64 j_1] fun rv Sx_2 => rv = .tuple #[] ∧ 
 Xx (IntKind.i64.wrap (Int.tdiv (IntKind.i64.wrap (j_1-1)) 2)) Sx_2) fun Jx=>
 if IntKind.i64.wrap (Int.tdiv (IntKind.i64.wrap (j_1-1)) 2)=j_1 then
 Q Sx
 else
 ci Tryz.prog Sx h "Less" [.int .i64 j_1, .int .i64 (IntKind.i64.wrap (Int.tdiv (IntKind.i64.wrap (j_1 - 1)) 2))] fun rv Sx_3 => ∃ t : Bool, rv = .bool t ∧ 
 if t=true then
 Jx Sx_3
 else
 Q Sx_3) j S
theorem gG {S:Mem} {h:Value} {j:Int} {Q:Mem→Prop} (H:vx S h j Q):jo S h j Q:=by
 unfold vx at H
 exact Tr.intro Tryz.func215 E Tryz.ntmps215 E fun w0=>zq<|qV (fun z=>⟨23,[(0,h),(1,.int .i64 z)]⟩) (fun z=>[]) j (idx:=[]) H E ⟨E,E,True.intro⟩ E<|fun Xx hXx j_1 Sx H1=>zq<|csr<|mv E E<|s_p E (kB E E)<|s_p E (zav E E (by decide))<|gv E E<|nx<|zo H1 (fun (J:Mem→Prop) (z:Unit) S=>J S) (fun z=>⟨23,[(0,h),(1,.int .i64 j_1),(4,.int .i64 (IntKind.i64.wrap (Int.tdiv (IntKind.i64.wrap (j_1-1)) 2)))]⟩) (fun z=>[]) (fun _ Sx_1 H2=>csr<|mv E E<|mv E E<|mv E E<|gO E E E H2 fun rv Sx_2 H3=>by obtain⟨rfl,H4⟩:=H3;exact nx<|zn<|mv E E<|gv E E<|zC<|qm<|hXx (IntKind.i64.wrap (Int.tdiv (IntKind.i64.wrap (j_1-1)) 2)) _ _ _ _ [] H4 E ⟨E,E,True.intro⟩ E) (fun Jx hJx H5=>csr<|mv E E<|mv E E<|iteK H5 (fun c H6=>ceT E E E (c)<|mv E E<|sk4 E E E E<|zH E<|pk E E E<|nx<|c_t E E<|qr<|zf<|xP E<|zf<|zx<|gb Tryz.results215 (zg) ⟨E,H6⟩) fun c H6=>ceF E E E (c)<|mv E E<|mv E E<|mv E E<|mv E E<|gO E E E H6 fun rv Sx_3 H7=>by obtain⟨t,rfl,H8⟩:=H7;exact by have H9:=gr H8;rcases H9 with ⟨rfl,H10⟩ | ⟨rfl,H10⟩;exact (s_p E (yB (xp E) E)<|pk E E E<|nx<|cfs E E<|hJx () _ _ _ _ [] H10 E ⟨E,E,E,True.intro⟩ E);exact (s_p E (yB (xp E) E)<|pk E E E<|nx<|c_t E E<|qr<|zf<|xP E<|zf<|zx<|gb Tryz.results215 (zg) ⟨E,H10⟩))
def wv (S:Mem) (frames:Int) (Q:Pt→Mem→Prop):Prop:=
 al S 178 ([.slice (none) 0 0,.slice (none) 0 0,.int .i64 (-1)]) fun b Sx=>
 jn (fun (Sx_1:Mem)=>
 ve Sx_1 (.iface 205 (.pointer (some ⟨b,0,none⟩))) fun Sx_2=>
 Q (some (b,0)) Sx_2) fun Jx=>
 lp (fun Xx (t:Int) (Sx_3:Mem)=>
 if t<(if 512<(if frames<0 then 0 else frames) then 512 else (if frames<0 then 0 else frames)) then
 gL (Sx_3.cell b 0) fun t_1=>
 ap Sx_3 3 1 8 [.int .i64 0] t_1 1 ([.int .i64 t]) fun t_2 Sx_4=>
 pt Sx_4 b 0 1 ([eL t_2]) fun Sx_5=>
 gL (Sx_5.cell b 1) fun t_3=>
 ap Sx_5 4 1 1 [.bool false] t_3 1 ([.bool false]) fun t_4 Sx_6=>
 pt Sx_6 b 1 1 ([eL t_4]) fun Sx_7=>
 Xx (IntKind.i64.wrap (t+1)) Sx_7
 else
 Jx Sx_3) 0 Sx
theorem jQ {S:Mem} {frames:Int} {Q:Pt→Mem→Prop} (H:wv S frames Q):xQ S frames Q:=by
 unfold wv at H
 exact Tr.intro Tryz.func51 E Tryz.ntmps51 E fun w0=>csr<|gv E E<|nxr<|s_p E (qZ E E)<|by exact wj E E E fun b=>xy 0 E fun hb=>have H1:=H b hb;gv E E<|nx<|zo H1 (fun (J:Mem→Prop) (z:Unit) S=>J S) (fun z=>⟨39,[(3,.pointer (some ⟨b,0,none⟩))]⟩) (fun z=>[]) (fun _ Sx_1 H2=>csr<|mv E E<|s_p E (qF E)<|s_p E (zY E E)<|s_p E (wP E)<|zbF E E H2 fun Sx_2 H3=>nxr<|mv E E<|gv E E<|nx<|zm<|zl Tryz.results51 (zd E zg) ⟨_,E,H3⟩) (fun Jx hJx H4=>csr<|mv E E<|s_p E (gz E E)<|s_p E (zaw E E)<|mv E E<|nx<|zq<|qV (fun z=>⟨39,[(3,.pointer (some ⟨b,0,none⟩)),(9,.int .i64 (if 512<(if frames<0 then 0 else frames) then 512 else (if frames<0 then 0 else frames))),(10,.int .i64 z)]⟩) (fun z=>[]) 0 (idx:=[]) H4 E ⟨E,E,E,True.intro⟩ E<|fun Xx hXx t Sx_3 H5=>csr<|iteK H5 (fun c H6=>s_p E (yT (zR E E) c)<|nx<|zF<|c_t E E<|qU<|zr<|zF<|zq<|csr<|mv E E<|gv E E<|nxr<|mv E E<|mv E E<|s_p E (qF E)<|s_p E (zY E E)<|gx H6 fun t_1 ht_1 H7=>s_v E (qf E) (qJ ht_1)<|mv E E<|zao E E (by decide) E fun b_1=>kd (sx:=t_1) (vs:=[.int .i64 t]) E E E (zbG 0 E E) E E (by decide) H7 fun t_2 Sx_4 H8=>s_p E (qF E)<|s_p E (zY E E)<|an H8 fun c_1 H9=>yS E E E E E c_1 E<|nx<|zn<|by exact mv E E<|mv E E<|s_p E (qF E)<|s_p E (zY E E)<|gx H9 fun t_3 ht_3 H10=>s_v E (qf E) (qJ ht_3)<|zao E E (by decide) E fun b_2=>kd (sx:=t_3) (vs:=[.bool false]) E E E (zbG 1 E E) E E (by decide) H10 fun t_4 Sx_6 H11=>s_p E (qF E)<|s_p E (zY E E)<|an H11 fun c_2 H12=>yS E E E E E c_2 E<|zC<|qm<|zr<|zn<|s_p E (yP E E)<|mv E E<|zC<|hXx (IntKind.i64.wrap (t+1)) _ _ _ _ [] H12 E ⟨E,E,E,True.intro⟩ E) fun c H6=>s_p E (yF (zR E E) c)<|nx<|zF<|c_f E E<|qr<|zf<|zf<|zx<|hJx () _ _ _ _ [] H6 E ⟨E,True.intro⟩ E)
def qQ (S:Mem) (p:Pt) (n:Int) (Q:Int→Mem→Prop):Prop:=
 jn (fun (Sx:Mem)=>
 nn p fun b o=>
 gL (Sx.cell b (o+1)) fun t=>
 sl t fun b_1 o_1 n_1 n_2=>
 0≤n∧n<((n_1:Nat):Int) ∧
 pt Sx b_1 (o_1+n.toNat*1) 1 ([.bool false]) fun Sx_1=>
 vd Sx_1 (.iface 205 (.pointer (some ⟨b,o,none⟩))) (.iface 3 (.int .i64 n)) fun Sx_2=>
 Q 0 Sx_2) fun Jx=>
 if p=none then
 Q 2 S
 else
 if n<0 then
 Q 1 S
 else
 nn p fun b_2 o_2=>
 gL (S.cell b_2 (o_2+1)) fun t_1=>
 if (t_1.n:Int)≤n then
 Q 1 S
 else
 gL (S.cell b_2 (o_2+1)) fun t_2=>
 sl t_2 fun b_3 o_3 n_3 n_4=>
 0≤n∧n<((n_3:Nat):Int) ∧
 gB (S.cell b_3 (o_3+n.toNat*1)) fun t_3=>
 if t_3=true then
 Jx S
 else
 Q 8 S
theorem wI {S:Mem} {p:Pt} {n:Int} {Q:Int→Mem→Prop} (H:qQ S p n Q):yo S p n Q:=by
 unfold qQ at H
 exact Tr.intro Tryz.func88 E Tryz.ntmps88 E fun w0=>csr<|gv E E<|nx<|zo H (fun (J:Mem→Prop) (z:Unit) S=>J S) (fun z=>⟨42,[(0,eP p),(1,.int .i64 n)]⟩) (fun z=>[]) (fun _ Sx H1=>csr<|mv E E<|by obtain⟨b,o,rfl,H2⟩:=H1;exact s_p E (qF E)<|s_p E (zY E E)<|gx H2 fun t ht H3=>s_v E (qf E) (qJ ht)<|mv E E<|by obtain⟨b_1,o_1,n_1,n_2,rfl,H4⟩:=H3;exact an2 H4 fun c c_1 H5=>s_p E (yi E E c c_1 E)<|an H5 fun c_2 H6=>yS E E E E E c_2 E<|nxr<|mv E E<|s_p E (qF E)<|s_p E (zY E E)<|s_p E (wP E)<|mv E E<|s_p E (wP E)<|zbF E E H6 fun Sx_2 H7=>nxr<|gv E E<|nx<|zm<|zl Tryz.results88 (zd E zg) ⟨_,E,H7⟩) (fun Jx hJx H8=>zq<|csr<|mv E E<|iteK H8 (fun c_3 H9=>s_p E (yT (zN (p:=p) E E) c_3)<|gv E E<|nx<|c_t E E<|csr<|gv E E<|nx<|zm<|zw<|zc<|zl Tryz.results88 (zd E zg) ⟨_,E,H9⟩) fun c_3 H9=>s_p E (yF (zN (p:=p) E E) c_3)<|gv E E<|nx<|c_f E E<|csr<|mv E E<|iteK H9 (fun c_4 H10=>s_p E (yT (zR E E) c_4)<|mv E E<|sk4 E E E E<|sk2 E E<|zH E<|pk E E E<|gv E E<|nx<|c_t E E<|csr<|gv E E<|nx<|zm<|zw<|zc<|zl Tryz.results88 (zd E zg) ⟨_,E,H10⟩) fun c_4 H10=>s_p E (yF (zR E E) c_4)<|mv E E<|mv E E<|mv E E<|by obtain⟨b_2,o_2,rfl,H11⟩:=H10;exact s_p E (qF E)<|s_p E (zY E E)<|gx H11 fun t_1 ht_1 H12=>s_v E (qf E) (qJ ht_1)<|s_p E (xw E)<|iteK H12 (fun c_5 H13=>s_p E (yT (wC E E) c_5)<|pk E E E<|gv E E<|nx<|c_t E E<|csr<|gv E E<|nx<|zm<|zw<|zc<|zl Tryz.results88 (zd E zg) ⟨_,E,H13⟩) fun c_5 H13=>s_p E (yF (wC E E) c_5)<|pk E E E<|gv E E<|nx<|c_f E E<|csr<|mv E E<|s_p E (qF E)<|s_p E (zY E E)<|gx H13 fun t_2 ht_2 H14=>s_v E (qf E) (qJ ht_2)<|mv E E<|by obtain⟨b_3,o_3,n_3,n_4,rfl,H15⟩:=H14;exact an2 H15 fun c_6 c_7 H16=>s_p E (yi E E c_6 c_7 E)<|gx H16 fun t_3 ht_3 H17=>by have H18:=gr H17;rcases H18 with ⟨rfl,H19⟩ | ⟨rfl,H19⟩;exact (s_v E (qf E) (qJ ht_3)<|s_p E (yB (xp E) E)<|gv E E<|nx<|cfs E E<|qm<|hJx () _ _ _ _ [] H19 E ⟨E,E,True.intro⟩ E);exact (s_v E (qf E) (qJ ht_3)<|s_p E (yB (xp E) E)<|gv E E<|nx<|c_t E E<|csr<|gv E E<|nx<|zm<|zw<|zc<|zl Tryz.results88 (zd E zg) ⟨_,E,H19⟩))
def qP (S:Mem) (p:Pt) (n:Int) (Q:Sl→Int→Mem→Prop):Prop:=
 jn (fun (Sx:Mem)=>
 jn (fun (l:Sl) (Sx_1:Mem)=>
 Q l 0 Sx_1) fun Jx=>
 lp (fun Xx (z:Sl×Int) (Sx_2:Mem)=>
 match z with
 | (l_1,t)=>
 if t<(if n<0 then 0 else n) then
 jn (fun (l_2:Sl) (Sx_3:Mem)=>
 Xx (l_2,IntKind.i64.wrap (t+1)) Sx_3) fun Jx_1=>
 yn Sx_2 p fun t_1 t_2 Sx_4=>
 jn (fun (Sx_5:Mem)=>
 ap Sx_5 3 1 8 [.int .i64 0] l_1 1 ([.int .i64 t_1]) fun t_3 Sx_6=>
 Jx_1 t_3 Sx_6) fun Jx_2=>
 if t_2≠0 then
 jn (fun (Sx_7:Mem)=>
 Q (⟨none,0,0⟩) t_2 Sx_7) fun Jx_3=>
 lp (fun Xx_1 (t_4:Int) (Sx_8:Mem)=>
 if t_4<(l_1.n:Int) then
 sl l_1 fun b_1 o n_1 n_2=>
 0≤t_4∧t_4<((n_1:Nat):Int) ∧
 gI (Sx_8.cell b_1 (o+t_4.toNat*1)) .i64 fun t_5=>
 yo Sx_8 p t_5 fun t_6 Sx_9=>
 Xx_1 (IntKind.i64.wrap (t_4+1)) Sx_9
 else
 Jx_3 Sx_8) 0 Sx_4
 else
 Jx_2 Sx_4
 else
 Jx l_1 Sx_2) (⟨none,0,0⟩,0) Sx) fun Jx_4=>
 if p=none then
 Q (⟨none,0,0⟩) 2 S
 else
 Jx_4 S
theorem wH {S:Mem} {p:Pt} {n:Int} {Q:Sl→Int→Mem→Prop} (H:qP S p n Q):qD S p n Q:=by
 unfold qP at H
 exact Tr.intro Tryz.func71 E Tryz.ntmps71 E fun w0=>csr<|gv E E<|gv E E<|nx<|zo H (fun (J:Mem→Prop) (z:Unit) S=>J S) (fun z=>⟨41,[(0,eP p),(1,.int .i64 n)]⟩) (fun z=>[]) (fun _ Sx H1=>csr<|gv E E<|nx<|zo H1 (fun (J:Sl→Mem→Prop) (z:Sl) S=>J z S) (fun z=>⟨41,[(6,eL z)]⟩) (fun z=>[]) (fun l Sx_1 H2=>csr<|mv E E<|gv E E<|gv E E<|nx<|zm<|zl Tryz.results71 (zd E (zd E zg)) ⟨_,_,E,H2⟩) (fun Jx hJx H3=>csr<|mv E E<|s_p E (gz E E)<|mv E E<|nx<|zq<|qV (fun z=>⟨41,[(0,eP p),(6,eL z.1),(14,.int .i64 (if n<0 then 0 else n)),(15,.int .i64 z.2)]⟩) (fun z=>[]) (⟨none,0,0⟩,0) (idx:=[]) H3 E ⟨E,E,E,E,True.intro⟩ E<|by rintro Xx hXx ⟨l_1,t⟩ Sx_2 H4;exact csr<|iteK H4 (fun c H5=>s_p E (yT (zR E E) c)<|nx<|zF<|c_t E E<|qU<|zr<|zo H5 (fun (J:Sl→Mem→Prop) (z:Sl) S=>J z S) (fun z=>⟨41,[(0,eP p),(6,eL z),(14,.int .i64 (if n<0 then 0 else n)),(15,.int .i64 t)]⟩) (fun z=>[]) (fun l_2 Sx_3 H6=>zn<|s_p E (yP E E)<|mv E E<|zC<|hXx (l_2,IntKind.i64.wrap (t+1)) _ _ _ _ [] H6 E ⟨E,E,E,E,True.intro⟩ E) (fun Jx_1 hJx_1 H7=>zq<|csr<|mv E E<|fO E E H7 fun t_1 t_2 Sx_4 H8=>mv E E<|s_p E (zI E E)<|s_p E (zI E E)<|gv E E<|gv E E<|nx<|zo H8 (fun (J:Mem→Prop) (z:Unit) S=>J S) (fun z=>⟨41,[(0,eP p),(6,eL l_1),(7,.int .i64 t_1),(14,.int .i64 (if n<0 then 0 else n)),(15,.int .i64 t)]⟩) (fun z=>[]) (fun _ Sx_5 H9=>zn<|mv E E<|mv E E<|zao E E (by decide) E fun b=>kd (sx:=l_1) (vs:=[.int .i64 t_1]) E E E (zbG 0 E E) E E (by decide) H9 fun t_3 Sx_6 H10=>gv E E<|zC<|qm<|hJx_1 t_3 _ _ _ _ [] H10 E ⟨E,E,E,E,True.intro⟩ E) (fun Jx_2 hJx_2 H11=>csr<|mv E E<|iteK H11 (fun c_1 H12=>s_p E (yT (qE E E) c_1)<|nx<|c_t E E<|zo H12 (fun (J:Mem→Prop) (z:Unit) S=>J S) (fun z=>⟨41,[(8,.int .i64 t_2)]⟩) (fun z=>[]) (fun _ Sx_7 H13=>csr<|mv E E<|gv E E<|gv E E<|nx<|zm<|zc<|zw<|zc<|zc<|zw<|zc<|zl Tryz.results71 (zd E (zd E zg)) ⟨_,_,E,H13⟩) (fun Jx_3 hJx_3 H14=>csr<|mv E E<|s_p E (xw E)<|mv E E<|nx<|zq<|qV (fun z=>⟨41,[(0,eP p),(8,.int .i64 t_2),(24,eL l_1),(25,.int .i64 (l_1.n:Int)),(26,.int .i64 z)]⟩) (fun z=>[]) 0 (idx:=[]) H14 E ⟨E,E,E,E,E,True.intro⟩ E<|fun Xx_1 hXx_1 t_4 Sx_8 H15=>csr<|iteK H15 (fun c_2 H16=>s_p E (yT (zR E E) c_2)<|nx<|zF<|c_t E E<|qU<|zr<|by exact zF<|zq<|csr<|by obtain⟨b_1,o,n_1,n_2,rfl,H17⟩:=H16;exact an2 H17 fun c_3 c_4 H18=>s_p E (yi E E c_3 c_4 E)<|gx H18 fun t_5 ht_5 H19=>s_v E (qf E) (qJ ht_5)<|gv E E<|nx<|zn<|mv E E<|mv E E<|yZ E E H19 fun t_6 Sx_9 H20=>zC<|qm<|zr<|zn<|s_p E (yP E E)<|mv E E<|zC<|hXx_1 (IntKind.i64.wrap (t_4+1)) _ _ _ _ [] H20 E ⟨E,E,E,E,E,True.intro⟩ E) fun c_2 H16=>s_p E (yF (zR E E) c_2)<|nx<|zF<|c_f E E<|qr<|zf<|zf<|zx<|by exact hJx_3 () _ _ _ _ [] H16 E ⟨E,True.intro⟩ E)) fun c_1 H12=>s_p E (yF (qE E E) c_1)<|nx<|cfs E E<|hJx_2 () _ _ _ _ [] H12 E ⟨E,E,E,E,E,True.intro⟩ E))) fun c H5=>s_p E (yF (zR E E) c)<|nx<|zF<|c_f E E<|qr<|zf<|zf<|zx<|hJx l_1 _ _ _ _ [] H5 E ⟨E,True.intro⟩ E)) (fun Jx_4 hJx_4 H21=>csr<|mv E E<|iteK H21 (fun c_5 H22=>s_p E (yT (zN (p:=p) E E) c_5)<|nx<|c_t E E<|csr<|gv E E<|gv E E<|nx<|zm<|zc<|zl Tryz.results71 (zd E (zd E zg)) ⟨_,_,E,H22⟩) fun c_5 H22=>s_p E (yF (zN (p:=p) E E) c_5)<|nx<|cfs E E<|hJx_4 () _ _ _ _ [] H22 E ⟨E,E,True.intro⟩ E)
def qO (S:Mem) (p:Pt) (Q:Int→Int→Mem→Prop):Prop:=
 jn (fun (Sx:Mem)=>
 nn p fun b o=>
 gI (Sx.cell b (o+2)) .i64 fun t=>
 pt Sx b (o+2) 1 ([.int .i64 (if IntKind.i64.wrap (t-1)<(-1) then (-1) else IntKind.i64.wrap (t-1))]) fun Sx_1=>
 kq Sx_1 (.iface 205 (.pointer (some ⟨b,o,none⟩))) fun t_1 Sx_2=>
 asI t_1 3 .i64 fun t_2=>
 gL (Sx_2.cell b (o+1)) fun t_3=>
 sl t_3 fun b_1 o_1 n n_1=>
 0≤t_2∧t_2<((n:Nat):Int) ∧
 pt Sx_2 b_1 (o_1+t_2.toNat*1) 1 ([.bool true]) fun Sx_3=>
 Q t_2 0 Sx_3) fun Jx=>
 if p=none then
 Q 0 2 S
 else
 nn p fun b_2 o_2=>
 gI (S.cell b_2 (o_2+2)) .i64 fun t_4=>
 if t_4=0 then
 Q 0 3 S
 else
 gL (S.cell b_2 o_2) fun t_5=>
 if (t_5.n:Int)=0 then
 Q 0 3 S
 else
 Jx S
theorem wG {S:Mem} {p:Pt} {Q:Int→Int→Mem→Prop} (H:qO S p Q):yn S p Q:=by
 unfold qO at H
 exact Tr.intro Tryz.func139 E Tryz.ntmps139 E fun w0=>csr<|gv E E<|gv E E<|nx<|zo H (fun (J:Mem→Prop) (z:Unit) S=>J S) (fun z=>⟨44,[(0,eP p)]⟩) (fun z=>[]) (fun _ Sx H1=>csr<|mv E E<|mv E E<|by obtain⟨b,o,rfl,H2⟩:=H1;exact s_p E (qF E)<|s_p E (zY E E)<|gx H2 fun t ht H3=>s_v E (qf E) (qJ ht)<|s_p E (kB E E)<|s_p E (gz E E)<|s_p E (qF E)<|s_p E (zY E E)<|an H3 fun c H4=>yS E E E E E c E<|nxr<|mv E E<|s_p E (qF E)<|s_p E (zY E E)<|s_p E (wP E)<|yZ E E H4 fun t_1 Sx_2 H5=>by obtain⟨t_2,rfl,H6⟩:=H5;exact s_p E (jv E)<|gv E E<|nxr<|mv E E<|s_p E (qF E)<|s_p E (zY E E)<|gx H6 fun t_3 ht_3 H7=>s_v E (qf E) (qJ ht_3)<|mv E E<|by obtain⟨b_1,o_1,n,n_1,rfl,H8⟩:=H7;exact an2 H8 fun c_1 c_2 H9=>s_p E (yi E E c_1 c_2 E)<|an H9 fun c_3 H10=>yS E E E E E c_3 E<|nxr<|mv E E<|gv E E<|gv E E<|nx<|zm<|zl Tryz.results139 (zd E (zd E zg)) ⟨_,_,E,H10⟩) (fun Jx hJx H11=>zq<|csr<|mv E E<|iteK H11 (fun c_4 H12=>s_p E (yT (zN (p:=p) E E) c_4)<|gv E E<|nx<|c_t E E<|csr<|gv E E<|gv E E<|nx<|zm<|zw<|zc<|zl Tryz.results139 (zd E (zd E zg)) ⟨_,_,E,H12⟩) fun c_4 H12=>s_p E (yF (zN (p:=p) E E) c_4)<|gv E E<|nx<|c_f E E<|csr<|mv E E<|by obtain⟨b_2,o_2,rfl,H13⟩:=H12;exact s_p E (qF E)<|s_p E (zY E E)<|gx H13 fun t_4 ht_4 H14=>s_v E (qf E) (qJ ht_4)<|iteK H14 (fun c_5 H15=>ceT E E E (c_5)<|mv E E<|sk4 E E E E<|sk2 E E<|pk E E E<|gv E E<|nx<|c_t E E<|csr<|gv E E<|gv E E<|nx<|zm<|zw<|zc<|zl Tryz.results139 (zd E (zd E zg)) ⟨_,_,E,H15⟩) fun c_5 H15=>ceF E E E (c_5)<|mv E E<|mv E E<|s_p E (qF E)<|s_p E (zY E E)<|gx H15 fun t_5 ht_5 H16=>s_v E (qf E) (qJ ht_5)<|s_p E (xw E)<|iteK H16 (fun c_6 H17=>ceT E E E (c_6)<|pk E E E<|gv E E<|nx<|c_t E E<|csr<|gv E E<|gv E E<|nx<|zm<|zw<|zc<|zl Tryz.results139 (zd E (zd E zg)) ⟨_,_,E,H17⟩) fun c_6 H17=>ceF E E E (c_6)<|pk E E E<|gv E E<|nx<|cfs E E<|qm<|hJx () _ _ _ _ [] H17 E ⟨E,True.intro⟩ E)
def xf (S:Mem) (f:Sl) (Q:Int→Mem→Prop):Prop:=
 Q (f.n:Int) S
theorem wU {S:Mem} {f:Sl} {Q:Int→Mem→Prop} (H:xf S f Q):kj S f Q:=by
 unfold xf at H
 exact Tr.intro Tryz.func273 E Tryz.ntmps273 E fun w0=>csr<|gv E E<|nxr<|mv E E<|s_p E (xw E)<|gv E E<|nx<|zm<|zl Tryz.results273 (zd E zg) ⟨_,E,H⟩
def qN (S:Mem) (f:Sl) (i:Int) (j:Int) (Q:Bool→Mem→Prop):Prop:=
 sl f fun b o n n_1=>
 0≤i∧i<((n:Nat):Int) ∧
 gI (S.cell b (o+i.toNat*1)) .i64 fun t=>
 0≤j∧j<((n:Nat):Int) ∧
 gI (S.cell b (o+j.toNat*1)) .i64 fun t_1=>
 Q (decide (t<t_1)) S
theorem wF {S:Mem} {f:Sl} {i:Int} {j:Int} {Q:Bool→Mem→Prop} (H:qN S f i j Q):xr S f i j Q:=by
 unfold qN at H
 exact Tr.intro Tryz.func274 E Tryz.ntmps274 E fun w0=>csr<|gv E E<|nx<|zF<|yr (by kernel_rfl)<|aTP 0 E (by decide +kernel) E (zs E)<|by exact aTP 1 E (by decide +kernel) E (zs E)<|by exact by obtain⟨b,o,n,n_1,rfl,H1⟩:=H;exact an2 H1 fun c c_1 H2=>aTP 2 E (by decide +kernel) E (yi E E c c_1 E)<|by exact gx H2 fun t ht H3=>aT 3 E (by decide +kernel) E (qf E) (qJ ht)<|by exact aTP 4 E (by decide +kernel) E (zs E)<|by exact aTP 5 E (by decide +kernel) E (zs E)<|by exact an2 H3 fun c_2 c_3 H4=>aTP 6 E (by decide +kernel) E (yi E E c_2 c_3 E)<|by exact gx H4 fun t_1 ht_1 H5=>aT 7 E (by decide +kernel) E (qf E) (qJ ht_1)<|by exact aTP 8 E (by decide +kernel) E (zR E E)<|by exact aTP 9 E (by decide +kernel) E (xG E)<|by exact yh (by decide +kernel)<|by exact zr<|zm<|zl Tryz.results274 (zd E zg) ⟨_,E,H5⟩
def ye (S:Mem) (f:Pt) (Q:Value→Mem→Prop):Prop:=
 nn f fun b o=>
 gL (S.cell b o) fun t=>
 sl t fun b_1 o_1 n n_1=>
 0≤IntKind.i64.wrap ((t.n:Int)-1)∧IntKind.i64.wrap ((t.n:Int)-1)<((n:Nat):Int) ∧
 gI (S.cell b_1 (o_1+(IntKind.i64.wrap ((t.n:Int)-1)).toNat*1)) .i64 fun t_1=>
 (0:Int)≤IntKind.i64.wrap ((n:Int)-1)∧IntKind.i64.wrap ((n:Int)-1)≤((⟨some (b_1,o_1),n,n_1⟩:Sl).c:Int) ∧
 lt (slc 1 (⟨some (b_1,o_1),n,n_1⟩:Sl) 0 (IntKind.i64.wrap ((n:Int)-1))) fun t_2=>
 pt S b o 1 ([eL t_2]) fun Sx=>
 Q (.iface 3 (.int .i64 t_1)) Sx
theorem wT {S:Mem} {f:Pt} {Q:Value→Mem→Prop} (H:ye S f Q):ki S f Q:=by
 unfold ye at H
 exact Tr.intro Tryz.func276 E Tryz.ntmps276 E fun w0=>csr<|gv E E<|nxr<|mv E E<|by obtain⟨b,o,rfl,H1⟩:=H;exact s_p E (qF E)<|gx H1 fun t ht H2=>s_v E (qf E) (qJ ht)<|gv E E<|nxr<|mv E E<|mv E E<|s_p E (xw E)<|s_p E (kB E E)<|by obtain⟨b_1,o_1,n,n_1,rfl,H3⟩:=H2;exact an2 H3 fun c c_1 H4=>s_p E (yi E E c c_1 E)<|gx H4 fun t_1 ht_1 H5=>s_v E (qf E) (qJ ht_1)<|gv E E<|nxr<|mv E E<|mv E E<|mv E E<|s_p E (xw E)<|s_p E (kB E E)<|an2 H5 fun c_3 c_4 H6=>by obtain⟨t_2,et_2,H7⟩:=zbM H6;exact s_p E (eqv (zbH (a:=0) (b:=IntKind.i64.wrap ((n:Int)-1)) E E E (by decide) c_3 c_4) (congrArg eL et_2))<|s_p E (qF E)<|an H7 fun c_5 H8=>yS E E E E E c_5 E<|nxr<|mv E E<|s_p E (wP E)<|gv E E<|nx<|zm<|zl Tryz.results276 (zd E zg) ⟨_,E,H8⟩
def qM (S:Mem) (f:Pt) (x:Value) (Q:Mem→Prop):Prop:=
 nn f fun b o=>
 gL (S.cell b o) fun t=>
 asI x 3 .i64 fun t_1=>
 ap S 3 1 8 [.int .i64 0] t 1 ([.int .i64 t_1]) fun t_2 Sx=>
 pt Sx b o 1 ([eL t_2]) fun Sx_1=>
 Q Sx_1
theorem wE {S:Mem} {f:Pt} {x:Value} {Q:Mem→Prop} (H:qM S f x Q):vC S f x Q:=by
 unfold qM at H
 exact Tr.intro Tryz.func277 E Tryz.ntmps277 E fun w0=>yr (by kernel_rfl)<|a_takeP 0 E (by decide +kernel) zb E (zs E)<|by exact a_takeP 1 E (by decide +kernel) zb E (zs E)<|by exact by obtain⟨b,o,rfl,H1⟩:=H;exact a_takeP 2 E (by decide +kernel) zb E (qF E)<|by exact gx H1 fun t ht H2=>xk 3 E (by decide +kernel) zb E (qf E) (qJ ht)<|by exact a_takeP 4 E (by decide +kernel) zb E (zs E)<|by exact by obtain⟨t_1,rfl,H3⟩:=H2;exact a_takeP 5 E (by decide +kernel) zb E (jv E)<|by exact qx 6 (by decide +kernel) E<|by exact zao E E (by decide) E fun b_1=>zC<|yv (yg (qJ ht) ql)<|qx 7 (by decide +kernel) E<|by exact kd (sx:=t) (vs:=[.int .i64 t_1]) E E E (zbG 0 E E) E E (by decide) H3 fun t_2 Sx H4=>zC<|yv ql<|a_takeP 8 E (by decide +kernel) zb E (qF E)<|by exact qx 9 (by decide +kernel) E<|by exact an H4 fun c H5=>yS E E E E E c E<|zC<|yv ql<|yh (by decide +kernel)<|by exact gb Tryz.results277 (zg) ⟨E,H5⟩
def qL (S:Mem) (f:Sl) (i:Int) (j:Int) (Q:Mem→Prop):Prop:=
 sl f fun b o n n_1=>
 0≤j∧j<((n:Nat):Int) ∧
 gI (S.cell b (o+j.toNat*1)) .i64 fun t=>
 0≤i∧i<((n:Nat):Int) ∧
 gI (S.cell b (o+i.toNat*1)) .i64 fun t_1=>
 0≤i∧i<((n:Nat):Int) ∧
 pt S b (o+i.toNat*1) 1 ([.int .i64 t]) fun Sx=>
 0≤j∧j<((n:Nat):Int) ∧
 pt Sx b (o+j.toNat*1) 1 ([.int .i64 t_1]) fun Sx_1=>
 Q Sx_1
theorem wD {S:Mem} {f:Sl} {i:Int} {j:Int} {Q:Mem→Prop} (H:qL S f i j Q):xq S f i j Q:=by
 unfold qL at H
 exact Tr.intro Tryz.func275 E Tryz.ntmps275 E fun w0=>yr (by kernel_rfl)<|a_takeP 0 E (by decide +kernel) zb E (zs E)<|by exact a_takeP 1 E (by decide +kernel) zb E (zs E)<|by exact a_takeP 2 E (by decide +kernel) zb E (zs E)<|by exact a_takeP 3 E (by decide +kernel) zb E (zs E)<|by exact a_takeP 4 E (by decide +kernel) zb E (zs E)<|by exact a_takeP 5 E (by decide +kernel) zb E (zs E)<|by exact by obtain⟨b,o,n,n_1,rfl,H1⟩:=H;exact an2 H1 fun c c_1 H2=>a_takeP 6 E (by decide +kernel) zb E (yi E E c c_1 E)<|by exact gx H2 fun t ht H3=>xk 7 E (by decide +kernel) zb E (qf E) (qJ ht)<|by exact a_takeP 8 E (by decide +kernel) zb E (zs E)<|by exact a_takeP 9 E (by decide +kernel) zb E (zs E)<|by exact an2 H3 fun c_2 c_3 H4=>a_takeP 10 E (by decide +kernel) zb E (yi E E c_2 c_3 E)<|by exact gx H4 fun t_1 ht_1 H5=>xk 11 E (by decide +kernel) zb E (qf E) (qJ ht_1)<|by exact an2 H5 fun c_4 c_5 H6=>a_takeP 12 E (by decide +kernel) zb E (yi E E c_4 c_5 E)<|by exact qx 13 (by decide +kernel) E<|by exact an H6 fun c_6 H7=>yS E E E E E c_6 E<|zC<|yv ql<|an2 H7 fun c_7 c_8 H8=>a_takeP 14 E (by decide +kernel) zb E (yi E E c_7 c_8 E)<|by exact qx 15 (by decide +kernel) E<|by exact an H8 fun c_9 H9=>yS E E E E E c_9 E<|zC<|yv ql<|yh (by decide +kernel)<|by exact gb Tryz.results275 (zg) ⟨E,H9⟩
end Go.Proofs.YtabdpmnhjlmnlaaGreatDoor
end
section
namespace Go.Proofs.YtabdpmnhjlmnlaaGreatDoor
open Go Go.Pt
attribute [local irreducible] Code.wp Back bodyPost wpList FR WL WC WQ WA AW Tr Yc HC AllC
set_option maxRecDepth 20000
set_option maxHeartbeats 4000000
set_option linter.unusedVariables false
end Go.Proofs.YtabdpmnhjlmnlaaGreatDoor
end
section
namespace Go.Pt
open Go Go.RowKit
theorem qq {S:Mem} {b o:Nat} {k:Blk} (h:S b=some k):S.cell b o=nthL k.cs o:=by simp[Mem.cell,h]
theorem wl {S:Mem} {b o n:Nat} {k:Blk} (h:S b=some k):S.part b o n=lpart k.cs o n:=by simp[Mem.part,h]
theorem qT {S:Mem} {b o:Nat} {vs:List Value} {k:Blk} (h:S b=some k):S.put b o vs=S.set b ⟨k.ty,spl k.cs o vs,k.fr⟩:=by
 funext x;simp only[Mem.put,Mem.set,h,Option.map_some]
@[simp] theorem zk {S:Mem} {b:Nat} {k:Blk}:(S.set b k) b=some k:=by simp[Mem.set]
theorem zJ {S:Mem} {b c:Nat} {k:Blk} (h:c≠b):(S.set b k) c=S c:=by simp[Mem.set,h]
@[simp] theorem zaF {S:Mem} {b:Nat} {k k':Blk}:(S.set b k).set b k'=S.set b k':=by
 funext x;simp only[Mem.set];split <;> rfl
theorem jz {S:Mem} {b:Nat} {k:Blk} (h:S b=some k):S.set b k=S:=by
 funext x;simp only[Mem.set];split
 ·rename_i hx;rw[hx,h]
 ·rfl
theorem zbb {S:Mem} {b o n t:Nat} {vs cs:List Value} {K:Mem→Prop} (h:S b=some (bw t cs)) (hf:o+n≤cs.length) (hK:K (S.set b (bw t (spl cs o vs)))):pt S b o n vs K:=
 ⟨⟨_,h,rfl,hf⟩,by rw[qT h];exact hK⟩
def Keeps (S S':Mem) (W:List Nat):Prop:=∀ x,S x≠none→x∉W→S' x=S x
theorem Keeps.refl {S:Mem} {W:List Nat}:Keeps S S W:=fun _ _ _=>rfl
theorem Keeps.trans {S S' S'':Mem} {W:List Nat} (h:Keeps S S' W) (h':Keeps S' S'' W):Keeps S S'' W:=fun x hx hw=>by
 have e:=h x hx hw
 rw[h' x (by rw[e];exact hx) hw,e]
theorem Keeps.set {S S':Mem} {W:List Nat} (h:Keeps S S' W) {b:Nat} {k:Blk} (hb:b∈W):Keeps S (S'.set b k) W:=fun x hx hw=>by
 rw[zJ (fun e=>hw (by rw[e];exact hb))];exact h x hx hw
theorem Keeps.new {S S':Mem} {W:List Nat} (h:Keeps S S' W) {b:Nat} {k:Blk} (hb:S' b=none):Keeps S (S'.set b k) W:=fun x hx hw=>by
 have e:=h x hx hw
 rw[zJ (fun hxb=>by rw[←hxb,e] at hb;exact hx hb)];exact e
theorem Keeps.get {S S':Mem} {W:List Nat} (h:Keeps S S' W) {b:Nat} {k:Blk} (hb:S b=some k) (hw:b∉W):S' b=some k:=by
 rw[h b (by rw[hb];simp) hw,hb]
theorem w64 {x:Int} (h1 : -9223372036854775808≤x) (h2:x≤9223372036854775807):IntKind.i64.wrap x=x:=zax (k:=.i64) ⟨h1,h2⟩
theorem td {a b:Int} (h:0≤a):Int.tdiv a b=a/b:=Int.tdiv_eq_ediv_of_nonneg h
theorem tm {a b:Int} (h:0≤a):Int.tmod a b=a%b:=Int.tmod_eq_emod_of_nonneg h
theorem Keeps.fresh {S S':Mem} {W:List Nat} (h:Keeps S S' W) {b:Nat} {k:Blk} (hb:S b=none):Keeps S (S'.set b k) W:=fun x hx hw=>by
 rw[zJ (fun e=>by rw[e] at hx;exact hx hb)];exact h x hx hw
theorem fI {cs vs:List Value} {o:Nat} (h:o+vs.length≤cs.length):(spl cs o vs).take (o+vs.length)=cs.take o++vs:=by
 rw[yj _ _ _ (by omega),List.take_left']
 simp;omega
structure Row (S:Mem) (size:Nat) (s:Sl) (l:List Value):Prop where
 len:l.length=s.n*size
 cap:s.n≤s.c
 lie:(s.p=none∧s.c=0)∨∃ b k,s.p=some (b,0)∧S b=some k∧k.fr=(0,0)∧k.cs.length=s.c*size∧k.cs.take (s.n*size)=l
theorem Row.nil {S:Mem} {size:Nat}:Row S size ⟨none,0,0⟩ []:=⟨by simp,by simp,.inl ⟨rfl,rfl⟩⟩
theorem Row.part {S:Mem} {size:Nat} {s:Sl} {l:List Value} (h:Row S size s l) {b:Nat} (hp:s.p=some (b,0)):S.part b 0 (s.n*size)=some l:=by
 rcases h.lie with ⟨h1,_⟩ | ⟨b',k,h1,h2,hfr,h3,h4⟩
 ·rw[h1] at hp;cases hp
 ·rw[h1] at hp;cases hp
  rw[wl h2,zU (by rw[h3,Nat.zero_add];exact Nat.mul_le_mul_right _ h.cap)]
  simpa using h4
theorem Row.keep {S S':Mem} {size:Nat} {s:Sl} {l:List Value} (h:Row S size s l) (hk:∀ b,s.p=some (b,0)→S' b=S b):Row S' size s l:=by
 refine⟨h.len,h.cap,?_⟩
 rcases h.lie with h1 | ⟨b,k,h1,h2,h3⟩
 ·exact .inl h1
 ·exact .inr ⟨b,k,h1,by rw[hk b h1];exact h2,h3⟩
theorem jN {S:Mem} {e size bytes m:Nat} {z l vs:List Value} {s:Sl} {K:Sl→Mem→Prop} (h:Row S size s l) (hv:vs.length=m*size) (hm:0<m) (hz:z.length=size) (lim:(2*(s.n+m)+1024)*bytes≤281474976710656)
  (hK:∀ (s':Sl) (S':Mem) (b:Nat) (k:Blk),s'.n=s.n+m→s'.p=some (b,0)→(s.p=some (b,0)∨S b=none)→S'=S.set b k→Row S' size s' (l++vs)→K s' S'):ap S e size bytes z s m vs K:=by
 refine⟨lim,fun hc=>?_,fun hc=>?_⟩
 ·rcases h.lie with ⟨h1,h2⟩ | ⟨b,k,h1,h2,hfr,h3,h4⟩
  ·omega
  ·have hfit:0+s.n*size+m*size≤k.cs.length:=by
    rw[h3,Nat.zero_add,←Nat.add_mul];exact Nat.mul_le_mul_right _ hc
   refine .inr ⟨b,0,h1,⟨k,h2,hfr,hfit⟩,?_⟩
   refine hK _ _ b ⟨k.ty,spl k.cs (0+s.n*size) vs,k.fr⟩ rfl h1 (.inl h1) (qT h2) ⟨by simp[h.len,hv,Nat.add_mul],hc,.inr ⟨b,⟨k.ty,spl k.cs (0+s.n*size) vs,k.fr⟩,h1,by rw[qT h2,zk],hfr,?_,?_⟩⟩
   ·simp only;rw[zG (by rw[hv];exact hfit)];exact h3
   ·simp only
    rw[Nat.zero_add,Nat.add_mul,←hv,fI (by rw[hv];omega),h4]
 ·refine⟨l,?_,fun b c hb h1 h2=>?_⟩
  ·rcases h.lie with ⟨h1,h2⟩ | ⟨b,k,h1,h2,hfr,h3,h4⟩
   ·have h0:s.n=0:=by have:=h.cap;omega
    exact .inl ⟨h1,h0,List.length_eq_zero_iff.1 (by rw[h.len,h0,Nat.zero_mul])⟩
   ·exact .inr ⟨b,0,h1,h.part h1⟩
  ·refine hK _ _ b _ rfl rfl (.inr hb) rfl ⟨by simp[h.len,hv,Nat.add_mul],h1,.inr ⟨b,_,rfl,zk,rfl,?_,?_⟩⟩
   ·simp only[List.length_append,h.len,hv,xv,hz]
    rw[←Nat.add_mul,←Nat.add_mul];congr 1;omega
   ·simp only
    rw[List.take_left' (by simp[h.len,hv,Nat.add_mul])]
end Go.Pt
end
