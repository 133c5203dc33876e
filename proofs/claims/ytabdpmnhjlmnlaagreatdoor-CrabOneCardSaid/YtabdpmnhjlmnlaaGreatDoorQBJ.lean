/- Texts of this work,joined by program (pack.py). -/
import Derived.Test.YtabdpmnhjlmnlaaGreatDoorQBC
import Derived.Test.YtabdpmnhjlmnlaaGreatDoorQBD
import Derived.Test.YtabdpmnhjlmnlaaGreatDoorQBI
import Derived.Test.YtabdpmnhjlmnlaaGreatDoorQBF
import Derived.Test.YtabdpmnhjlmnlaaGreatDoorQBH
set_option linter.unusedVariables false
namespace Go.Proofs.YtabdpmnhjlmnlaaGreatDoor
section
open Go Go.Pt Go.Proofs.Tryz
attribute [local irreducible] lt WD WN Code.wp Back bodyPost wpList FR WL WC WQ WA AW Tr Yc HC AllC
set_option maxRecDepth 20000
set_option maxHeartbeats 4000000
def zaH (S:Mem) (form:Int) (x:List Value) (Q:Int→Mem→Prop):Prop:=
 x.length=3 ∧
 jn (fun (Sx:Mem)=>
 jn (fun (Sx_1:Mem)=>
 gI (nthL x 1) .i64 fun t=>
 yo Sx_1 9223372036854775808 0 16 (ineg .u64 (IntKind.u64.wrap t)) fun t_1 Sx_2=>
 gB (nthL x 2) fun t_2=>
 if t_2=true then
 Q (ior .u64 t_1 4611686018427387904) Sx_2
 else
 Q t_1 Sx_2) fun Jx=>
 if form=1 then
 gI (nthL x 1) .i64 fun t_3=>
 yo Sx 1 8 16 (IntKind.u64.wrap t_3) fun t_4 Sx_3=>
 gB (nthL x 2) fun t_5=>
 if t_5=true then
 Q (ior .u64 t_4 2) Sx_3
 else
 Q t_4 Sx_3
 else
 Jx Sx) fun Jx_1=>
 gB (nthL x 0) fun t_6=>
 if t_6=true then
 Jx_1 S
 else
 Q 0 S
theorem zhn {S:Mem} {form:Int} {x:List Value} {Q:Int→Mem→Prop} (H:zaH S form x Q):gj S form x Q:=by
 unfold zaH at H
 have:=dj (α:=Unit) 10 [3] (fun _=>[]) (fun _=>[(0,none)])
 have:=dj (α:=Unit) 4 [0,3] (fun _=>[]) (fun _=>[(0,none)])
 exact Tr.intro func111 E ntmps111 E fun w0=>go results111 H
def gd (S:Mem) (form:Int) (w:Int) (Q:List Value→Bool→Mem→Prop):Prop:=
 xc S w 8 16 fun t Sx=>
 jn (fun (x:List Value) (Sx_1:Mem)=>
 x.length=3 ∧
 jn (fun (v:List Value) (Sx_2:Mem)=>
 v.length=3 ∧
 gj Sx_2 form x fun t_1 Sx_3=>
 if t_1≠w then
 Q ([.bool false,.int .i64 0,.bool false]) false Sx_3
 else
 x.all (·.oneCell')=true ∧
 Q x true Sx_3) fun Jx=>
 if w=0 then
 Q ([.bool false,.int .i64 0,.bool false]) true Sx_1
 else
 Jx ([.bool false,.int .i64 0,.bool false]) Sx_1) fun Jx_1=>
 if form≠1 then
 xc Sx (ineg .u64 w) 0 16 fun t_2 Sx_4=>
 Jx_1 ([.bool true,.int .i64 (IntKind.i64.wrap t_2),.bool (decide (iand .u64 (ishr .u64 w 62) 1=1))]) Sx_4
 else
 Jx_1 ([.bool true,.int .i64 (IntKind.i64.wrap t),.bool (decide (iand .u64 w 2≠0))]) Sx
theorem zfG {S:Mem} {form:Int} {w:Int} {Q:List Value→Bool→Mem→Prop} (H:gd S form w Q):jI S form w Q:=by
 unfold gd at H
 have:=dj (α:=List Value×Unit) 7 [0,1,4,6] (fun _=>[]) (fun z=>[(0,some z.1),(1,none)])
 have:=dj (α:=List Value×Unit) 5 [0,1,4,6] (fun _=>[]) (fun z=>[(0,none),(1,some z.1)])
 exact Tr.intro func109 E ntmps109 E fun w0=>go results109 H
def wY (S:Mem) (t:List Value) (s:Pt) (page:Int) (Q:Int→Int→Int→Mem→Prop):Prop:=
 t.length=2 ∧
 jn (fun (Sx:Mem)=>
 gL (nthL t 1) fun t_1=>
 sl t_1 fun b_1 o n n_1=>
 (0:Int)<(n:Nat) ∧
 gI (Sx.cell b_1 o) .i64 fun t_2=>
 yW Sx s t_2 (IntKind.i64.wrap (Int.tdiv page 8)) fun t_3 t_4 Sx_1=>
 gI (nthL t 0) .i64 fun t_5=>
 jI Sx_1 t_5 t_3 fun t_6 t_7 Sx_2=>
 if t_7=true then
 t_6.all (·.oneCell')=true ∧
 jn (fun (Sx_3:Mem)=>
 gI (nthL t_6 1) .i64 fun t_8=>
 Q t_8 (Int.tmod page 8) 0 Sx_3) fun Jx=>
 if t_4≠0 then
 Q 0 0 11 Sx_2
 else
 gB (nthL t_6 0) fun t_9=>
 if t_9=true then
 Jx Sx_2
 else
 Q 0 0 11 Sx_2
 else
 t_6.all (·.oneCell')=true ∧
 jn (fun (Sx_4:Mem)=>
 gI (nthL t_6 1) .i64 fun t_10=>
 Q t_10 (Int.tmod page 8) 0 Sx_4) fun Jx_1=>
 if t_4≠0 then
 Q 0 0 11 Sx_2
 else
 Q 0 0 11 Sx_2) fun Jx_2=>
 if page<0 then
 Q 0 0 1 S
 else
 if 32≤page then
 Q 0 0 1 S
 else
 gL (nthL t 1) fun t_11=>
 if (t_11.n:Int)=0 then
 Q 0 0 1 S
 else
 Jx_2 S
theorem zcd {S:Mem} {t:List Value} {s:Pt} {page:Int} {Q:Int→Int→Int→Mem→Prop} (H:wY S t s page Q):yV S t s page Q:=by
 unfold wY at H
 have:=dj (α:=Unit) 8 [2,11] (fun _=>[]) (fun _=>[(1,none)])
 have:=dj (α:=Unit) 4 [1,2,3] (fun _=>[]) (fun _=>[(0,none)])
 exact Tr.intro func107 E ntmps107 E fun w0=>go results107 H
def vI (S:Mem) (t:List Value) (s:Pt) (page:Int) (frame:Int) (write:Bool) (Q:Int→Mem→Prop):Prop:=
 t.length=2 ∧
 yV S t s page fun t_1 t_2 t_3 Sx=>
 jn (fun (Sx_1:Mem)=>
 gI (nthL t 0) .i64 fun t_4=>
 gj Sx_1 t_4 ([.bool true,.int .i64 frame,.bool write]) fun t_5 Sx_2=>
 qU Sx_2 s t_1 t_2 t_5 fun t_6 Sx_3=>
 Q t_6 Sx_3) fun Jx=>
 if t_3≠0 then
 Q t_3 Sx
 else
 if frame<0 then
 Q 1 Sx
 else
 qX Sx s fun t_7 Sx_4=>
 if t_7≤frame then
 Q 1 Sx_4
 else
 Jx Sx_4
theorem zcR {S:Mem} {t:List Value} {s:Pt} {page:Int} {frame:Int} {write:Bool} {Q:Int→Mem→Prop} (H:vI S t s page frame write Q):jc S t s page frame write Q:=by
 unfold vI at H
 have:=dj (α:=Unit) 7 [1,3,4,5,11,12] (fun _=>[]) (fun _=>[(0,none)])
 exact Tr.intro func53 E ntmps53 E fun w0=>go results53 H
def wF (S:Mem) (t:List Value) (s:Pt) (page:Int) (Q:Int→Mem→Prop):Prop:=
 t.length=2 ∧
 yV S t s page fun t_1 t_2 t_3 Sx=>
 if t_3≠0 then
 Q t_3 Sx
 else
 qU Sx s t_1 t_2 0 fun t_4 Sx_1=>
 Q t_4 Sx_1
theorem zbu {S:Mem} {t:List Value} {s:Pt} {page:Int} {Q:Int→Mem→Prop} (H:wF S t s page Q):vy S t s page Q:=by
 unfold wF at H
 exact Tr.intro func214 E ntmps214 E fun w0=>go results214 H
def wZ (S:Mem) (t:List Value) (s:Pt) (page:Int) (Q:List Value→Int→Mem→Prop):Prop:=
 t.length=2 ∧
 yV S t s page fun t_1 t_2 t_3 Sx=>
 jn (fun (v:List Value) (Sx_1:Mem)=>
 v.length=3 ∧
 yW Sx_1 s t_1 t_2 fun t_4 t_5 Sx_2=>
 gI (nthL t 0) .i64 fun t_6=>
 jI Sx_2 t_6 t_4 fun t_7 t_8 Sx_3=>
 if t_8=true then
 t_7.all (·.oneCell')=true ∧
 if t_5≠0 then
 Q ([.bool false,.int .i64 0,.bool false]) 11 Sx_3
 else
 gB (nthL t_7 0) fun t_9=>
 if t_9=true then
 t_7.all (·.oneCell')=true ∧
 Q t_7 0 Sx_3
 else
 Q ([.bool false,.int .i64 0,.bool false]) 11 Sx_3
 else
 t_7.all (·.oneCell')=true ∧
 if t_5≠0 then
 Q ([.bool false,.int .i64 0,.bool false]) 11 Sx_3
 else
 Q ([.bool false,.int .i64 0,.bool false]) 11 Sx_3) fun Jx=>
 if t_3≠0 then
 Q ([.bool false,.int .i64 0,.bool false]) t_3 Sx
 else
 Jx ([.bool false,.int .i64 0,.bool false]) Sx
theorem zce {S:Mem} {t:List Value} {s:Pt} {page:Int} {Q:List Value→Int→Mem→Prop} (H:wZ S t s page Q):qv S t s page Q:=by
 unfold wZ at H
 have:=dj (α:=List Value×Unit) 5 [1,3,6,8,9] (fun _=>[]) (fun z=>[(0,none),(1,some z.1)])
 exact Tr.intro func52 E ntmps52 E fun w0=>go results52 H
def zaI (S:Mem) (s:Pt) (form:Int) (frames:Sl) (Q:List Value→Int→Mem→Prop):Prop:=
 jn (fun (v:List Value) (Sx:Mem)=>
 v.length=2 ∧
 jn (fun (v_1:List Value) (Sx_1:Mem)=>
 v_1.length=2 ∧
 jn (fun (Sx_2:Mem)=>
 sp Sx_2 frames 1 fun vs=>
 ap Sx_2 3 1 8 [.int .i64 0] (⟨none,0,0⟩) frames.n vs fun t Sx_3=>
 Q ([.int .i64 form,eL t]) 0 Sx_3) fun Jx=>
 (0:Int)≤1∧(1:Int)≤(frames.n:Int)∧(frames.n:Int)≤(frames.c:Int) ∧
 lt (slc 1 frames 1 (frames.n:Int)) fun t_1=>
 lp (fun Xx (t_2:Int) (Sx_4:Mem)=>
 if t_2<(t_1.n:Int) then
 sl t_1 fun b_1 o n n_1=>
 0≤t_2∧t_2<((n:Nat):Int) ∧
 gI (Sx_4.cell b_1 (o+t_2.toNat*1)) .i64 fun t_3=>
 sl frames fun b_2 o_1 n_2 n_3=>
 (0:Int)<(n_2:Nat) ∧
 gI (Sx_4.cell b_2 o_1) .i64 fun t_4=>
 gj Sx_4 form ([.bool true,.int .i64 t_3,.bool true]) fun t_5 Sx_5=>
 Sx_5.cell b_2 o_1=some (.int .i64 t_4) ∧
 qU Sx_5 s t_4 t_2 t_5 fun t_6 Sx_6=>
 Xx (IntKind.i64.wrap (t_2+1)) Sx_6
 else
 Jx Sx_4) 0 Sx_1) fun Jx_1=>
 lp (fun Xx_1 (z:Int×List Value) (Sx_7:Mem)=>
 match z with
 | (t_7,v_2)=>
 v_2.length=2 ∧
 if t_7<(frames.n:Int) then
 sl frames fun b_3 o_2 n_4 n_5=>
 0≤t_7∧t_7<((n_4:Nat):Int) ∧
 gI (Sx_7.cell b_3 (o_2+t_7.toNat*1)) .i64 fun t_8=>
 yq Sx_7 s t_8 fun t_9 Sx_8=>
 if t_9≠0 then
 Q ([.int .i64 0,.slice (none) 0 0]) t_9 Sx_8
 else
 Xx_1 (IntKind.i64.wrap (t_7+1),v_2) Sx_8
 else
 Jx_1 v_2 Sx_7) (0,v) Sx) fun Jx_2=>
 if (frames.n:Int)≠5 then
 Q ([.int .i64 0,.slice (none) 0 0]) 1 S
 else
 if form≠1 then
 if form≠2 then
 Q ([.int .i64 0,.slice (none) 0 0]) 1 S
 else
 Jx_2 ([.int .i64 0,.slice (none) 0 0]) S
 else
 Jx_2 ([.int .i64 0,.slice (none) 0 0]) S
theorem zho {S:Mem} {s:Pt} {form:Int} {frames:Sl} {Q:List Value→Int→Mem→Prop} (H:zaI S s form frames Q):zaT S s form frames Q:=by
 unfold zaI at H
 exact Tr.intro func74 E ntmps74 E fun w0=>csr<|by refine qk E fun b=>?_;exact gv E E<|nx<|zp H (fun (J:List Value→Mem→Prop) (z:List Value) S=>J z S) (fun z=>⟨62,[(0,eP s),(1,.int .i64 form),(2,eL frames),(6,.pointer (some ⟨b,0,none⟩))]⟩) (fun z=>[⟨b,63,z⟩]) (fun v Sx H1=>an H1 fun hv H2=>zp H2 (fun (J:List Value→Mem→Prop) (z:List Value) S=>J z S) (fun z=>⟨62,[(0,eP s),(1,.int .i64 form),(2,eL frames),(6,.pointer (some ⟨b,0,none⟩))]⟩) (fun z=>[⟨b,63,z⟩]) (fun v_1 Sx_1 H3=>an H3 fun hv_1 H4=>zp H4 (fun (J:Mem→Prop) (z:Unit) S=>J S) (fun z=>⟨62,[(1,.int .i64 form),(2,eL frames),(6,.pointer (some ⟨b,0,none⟩))]⟩) (fun z=>[⟨b,63,v_1⟩]) (fun _ Sx_2 H5=>csr<|mv E E<|mv E E<|by obtain⟨vs,h,c,H6⟩:=H5;exact zau (sx:=⟨none,0,0⟩) (vs:=vs) E E E ((fj h).1) ((fj (P:=prog) (w0:=w0) (S0:=S) (V:=[]) h).2) c (by decide) H6 fun t Sx_3 H7=>s_p E (qj E E)<|by exact zl 0 E E E E E E hv_1 E<|gv E E<|nx<|zo<|zn results74 (zr E (zx (k:=2) 0 E E) E (zd E zg)) ⟨_,_,E,E,H7⟩) (fun Jx hJx H8=>csr<|mv E E<|an3 H8 fun c_1 c_2 c_3 H9=>by obtain⟨t_1,et_1,H10⟩:=zkT H9;exact s_p E (eqv (zdP (a:=1) (b:=(frames.n:Int)) E E E c_1 c_2 c_3) (congrArg eL et_1))<|s_p E (vX E)<|mv E E<|nx<|zE<|xM (fun z=>⟨62,[(0,eP s),(1,.int .i64 form),(2,eL frames),(6,.pointer (some ⟨b,0,none⟩)),(40,eL t_1),(41,.int .i64 (t_1.n:Int)),(42,.int .i64 z)]⟩) (fun z=>[⟨b,63,v_1⟩]) 0 (idx:=[0]) H10 E ⟨E,E,E,E,E,E,E,True.intro⟩ E<|fun Xx hXx t_2 Sx_4 H11=>csr<|iteK H11 (fun c_4 H12=>s_p E (yT (zQ E E) c_4)<|nx<|zO<|c_t E E<|yu<|zC<|zO<|zE<|csr<|mv E E<|by obtain⟨b_1,o,n,n_1,rfl,H13⟩:=H12;exact an2 H13 fun c_5 c_6 H14=>s_p E (vx E E c_5 c_6 E)<|gx H14 fun t_3 ht_3 H15=>s_v E (zF E) (qh ht_3)<|gv E E<|gv E E<|nx<|qc (by kernel_rfl)<|a_takeP 0 E (by decide +kernel) (zf (za (za (zf (za zc))))) E (zt E)<|by exact a_takeP 1 E (by decide +kernel) (zf (za (za (zf (za zc))))) E (zt E)<|by exact by obtain⟨b_2,o_1,n_2,n_3,rfl,H16⟩:=H15;exact an H16 fun c_8 H17=>a_takeP 2 E (by decide +kernel) (zf (za (za (zf (za zc))))) E (vx E E (by decide) c_8 E)<|by exact gx H17 fun t_4 ht_4 H18=>qp 3 E (by decide +kernel) (zf (za (za (zf (za zc))))) E (zF E) (qh ht_4)<|by exact a_takeP 4 E (by decide +kernel) (zf (za (za (zf (za zc))))) E (zt E)<|by exact a_takeP 5 E (by decide +kernel) (zf (za (za (zf (za zc))))) E (zt E)<|by exact a_takeP 6 E (by decide +kernel) (zf (za (za (zf (za zc))))) E (zt E)<|by exact a_takeP 7 E (by decide +kernel) (zf (za (za (zf (za zc))))) E (qj E E)<|by exact zH 8 (by decide +kernel) E<|by exact vv E E H18 fun t_5 Sx_5 H19=>by obtain⟨k,H20⟩:=H19;exact zu<|qf (zA (qh k) zD)<|zH 9 (by decide +kernel) E<|by exact vv E E H20 fun t_6 Sx_6 H21=>zu<|qf zD<|qi (by decide +kernel)<|by exact zX<|zC<|zw<|s_p E (qy E E)<|mv E E<|zu<|hXx (IntKind.i64.wrap (t_2+1)) _ _ _ _ [0] H21 E ⟨E,E,E,E,E,E,E,True.intro⟩ E) fun c_4 H12=>s_p E (yF (zQ E E) c_4)<|nx<|zO<|c_f E E<|yg<|zm<|zm<|zU<|hJx () _ _ _ _ [0] H12 E ⟨E,E,E,True.intro⟩ E)) (fun Jx_1 hJx_1 H22=>csr<|mv E E<|s_p E (vX E)<|mv E E<|nx<|zE<|xM (fun z=>⟨62,[(0,eP s),(1,.int .i64 form),(2,eL frames),(6,.pointer (some ⟨b,0,none⟩)),(25,eL frames),(26,.int .i64 (frames.n:Int)),(27,.int .i64 z.1)]⟩) (fun z=>[⟨b,63,z.2⟩]) (0,v) (idx:=[0]) H22 E ⟨E,E,E,E,E,E,E,True.intro⟩ E<|by rintro Xx_1 hXx_1 ⟨t_7,v_2⟩ Sx_7 H23;exact an H23 fun hv_2 H24=>csr<|iteK H24 (fun c_9 H25=>s_p E (yT (zQ E E) c_9)<|nx<|zO<|c_t E E<|yu<|zC<|zO<|zE<|csr<|by obtain⟨b_3,o_2,n_4,n_5,rfl,H26⟩:=H25;exact an2 H26 fun c_10 c_11 H27=>s_p E (vx E E c_10 c_11 E)<|gx H27 fun t_8 ht_8 H28=>s_v E (zF E) (qh ht_8)<|gv E E<|nxr<|mv E E<|mv E E<|vv E E H28 fun t_9 Sx_8 H29=>gv E E<|nxr<|mv E E<|iteK H29 (fun c_12 H30=>s_p E (yT (qw E E) c_12)<|nx<|c_t E E<|csr<|s_p E (qj E E)<|by exact mv E E<|zl 0 E E E E E E hv_2 E<|gv E E<|nx<|zo<|zh<|zb<|zb<|zh<|zb<|zn results74 (zr E (zx (k:=2) 0 E E) E (zd E zg)) ⟨_,_,E,E,H30⟩) fun c_12 H30=>s_p E (yF (qw E E) c_12)<|nx<|cfs E E<|zX<|zC<|zw<|s_p E (qy E E)<|mv E E<|zu<|hXx_1 (IntKind.i64.wrap (t_7+1),v_2) _ _ _ _ [0] H30 E ⟨E,E,E,E,E,E,E,True.intro⟩ E) fun c_9 H25=>s_p E (yF (zQ E E) c_9)<|nx<|zO<|c_f E E<|yg<|zm<|zm<|zU<|hJx_1 v_2 _ _ _ _ [0] H25 E ⟨E,E,E,E,True.intro⟩ E)) (fun Jx_2 hJx_2 H31=>csr<|mv E E<|s_p E (vX E)<|iteK H31 (fun c_13 H32=>s_p E (yT (qw E E) c_13)<|mv E E<|sk4 E E E E<|sk2 E E<|pk E E E<|nx<|c_t E E<|csr<|s_p E (qj E E)<|by exact qu (sz:=2) (vs:=[.int .i64 0,.slice (none) 0 0]) 0 E E E E E E (Nat.le_of_ble_eq_true E) E<|gv E E<|nx<|zo<|zb<|zn results74 (zr E (zx (k:=2) 0 E E) E (zd E zg)) ⟨_,_,E,E,H32⟩) fun c_13 H32=>s_p E (yF (qw E E) c_13)<|mv E E<|mv E E<|iteK H32 (fun c_14 H33=>s_p E (yT (qw E E) c_14)<|mv E E<|mv E E<|iteK H33 (fun c_15 H34=>s_p E (yT (qw E E) c_15)<|pk E E E<|pk E E E<|nx<|c_t E E<|csr<|s_p E (qj E E)<|by exact qu (sz:=2) (vs:=[.int .i64 0,.slice (none) 0 0]) 0 E E E E E E (Nat.le_of_ble_eq_true E) E<|gv E E<|nx<|zo<|zb<|zn results74 (zr E (zx (k:=2) 0 E E) E (zd E zg)) ⟨_,_,E,E,H34⟩) fun c_15 H34=>s_p E (yF (qw E E) c_15)<|pk E E E<|pk E E E<|nx<|cfs E E<|hJx_2 ([.int .i64 0,.slice (none) 0 0]) _ _ _ _ [0] H34 E ⟨E,E,E,E,True.intro⟩ E) fun c_14 H33=>s_p E (yF (qw E E) c_14)<|mv E E<|sk2 E E<|pk E E E<|pk E E E<|nx<|cfs E E<|hJx_2 ([.int .i64 0,.slice (none) 0 0]) _ _ _ _ [0] H33 E ⟨E,E,E,E,True.intro⟩ E)
end
section
open Go Go.Pt Go.Cr
section
variable {S:Mem}
def enL (f:Int) (wr:Bool):List Value:=[.bool true,.int .i64 f,.bool wr]
theorem packw1 {f:Nat} (hf:f≤65535) {Q:Int→Mem→Prop} (hQ:Q ((1+256*f:Nat):Int) S):yo S 1 8 16 (f:Int) Q:=by
 apply gJ
 unfold vH
 simp only[jn]
 rw[if_neg (by decide),if_neg (by decide),if_neg (by decide),if_pos (by decide)]
 refine⟨by decide,by decide,by decide,?_⟩
 have e1:iandn .u64 1 (ishl .u64 (IntKind.u64.wrap (ishl .u64 1 16-1)) 8)=((1:Nat):Int):=by decide
 have e2:IntKind.u64.wrap (ishl .u64 1 16-1)=((2 ^ 16-1:Nat):Int):=by decide
 rw[e1,e2,yE (by omega) (by decide),Nat.and_two_pow_sub_one_eq_mod,Nat.mod_eq_of_lt (by omega)]
 have e3:ishl .u64 (f:Int) 8=((f*2 ^ 8:Nat):Int):=jL (a:=f) (s:=8) (by decide) (by omega)
 rw[e3,zay (by omega) (by omega),zlJ (by decide)]
 have:1+f*2 ^ 8=1+256*f:=by omega
 rw[this];exact hQ
theorem zgT {x:Nat} (hx:x<18446744073709551616):ineg .u64 (x:Int)=((18446744073709551615-x:Nat):Int):=by
 unfold ineg
 show ixor .u64 18446744073709551615 (x:Int)=_
 have h:=zjB (a:=18446744073709551615) (b:=x) (by decide) hx
 have e:18446744073709551615 ^^^ x=18446744073709551615-x:=by
  have h2:(BitVec.allOnes 64 ^^^ BitVec.ofNat 64 x).toNat=(~~~ BitVec.ofNat 64 x).toNat:=by rw[BitVec.allOnes_xor]
  rw[BitVec.toNat_xor,BitVec.toNat_allOnes,BitVec.toNat_ofNat,Nat.mod_eq_of_lt hx,BitVec.toNat_not,BitVec.toNat_ofNat,Nat.mod_eq_of_lt hx] at h2
  exact h2
 rw[e] at h
 exact h
theorem packw2 {f:Nat} (hf:f≤65535) {Q:Int→Mem→Prop} (hQ:Q ((9223372036854775808+(65535-f):Nat):Int) S):yo S 9223372036854775808 0 16 (ineg .u64 (f:Int)) Q:=by
 apply gJ
 unfold vH
 simp only[jn]
 rw[if_neg (by decide),if_neg (by decide),if_neg (by decide),if_pos (by decide)]
 refine⟨by decide,by decide,by decide,?_⟩
 have e1:iandn .u64 9223372036854775808 (ishl .u64 (IntKind.u64.wrap (ishl .u64 1 16-1)) 0)=((1*2 ^ 63:Nat):Int):=by decide
 have e2:IntKind.u64.wrap (ishl .u64 1 16-1)=((2 ^ 16-1:Nat):Int):=by decide
 rw[e1,e2,zgT (by omega),yE (by omega) (by decide),Nat.and_two_pow_sub_one_eq_mod]
 have e4:(18446744073709551615-f)%2 ^ 16=65535-f:=by omega
 rw[e4]
 have e3:ishl .u64 ((65535-f:Nat):Int) 0=(((65535-f)*2 ^ 0:Nat):Int):=jL (a:=65535-f) (s:=0) (by decide) (by omega)
 rw[e3,zay (by decide) (by omega),zbp (by omega)]
 have:1*2 ^ 63+(65535-f)*2 ^ 0=9223372036854775808+(65535-f):=by omega
 rw[this];exact hQ
theorem or2 {f:Nat}:(1+256*f) ||| 2=1+256*f+2:=by
 have e1:1+256*f=f*2 ^ 8 ||| 1:=by rw[zbp (by decide)];omega
 rw[e1,Nat.or_assoc,show 1 ||| 2=3 by decide,zbp (by decide),zbp (by decide)]
theorem or62 {x:Nat} (hx:x≤65535):(9223372036854775808+x) ||| 4611686018427387904=9223372036854775808+x+4611686018427387904:=by
 have e1:9223372036854775808+x=1*2 ^ 63 ||| x:=by rw[zbp (by omega)]
 rw[e1,Nat.or_assoc,Nat.or_comm x,←Nat.or_assoc,show 1*2 ^ 63 ||| 4611686018427387904=3*2 ^ 62 by decide,zbp (by omega),zbp (by omega)]
 omega
theorem zdc {form:Int} {f:Nat} (hf:f≤65535) {wr:Bool} {Q:Int→Mem→Prop} (hQ:Q (pk form f wr) S):gj S form (enL f wr) Q:=by
 apply zhn
 unfold zaH enL
 refine⟨rfl,?_⟩
 simp only[jn]
 rw[fM (show nthL [Value.bool true,.int .i64 f,.bool wr] 0=some (.bool true) from rfl),if_pos rfl]
 have g1:∀ K,gI (nthL [Value.bool true,.int .i64 f,.bool wr] 1) .i64 K=K (f:Int):=fun K=>zB rfl K
 have g2:∀ K,gB (nthL [Value.bool true,.int .i64 f,.bool wr] 2) K=K wr:=fun K=>fM rfl K
 have eu:IntKind.u64.wrap (f:Int)=(f:Int):=wu64 (by omega) (by omega)
 unfold Go.Cr.pk at hQ
 by_cases h1:form=1
 ·rw[if_pos h1] at hQ
  rw[if_pos h1,g1,eu]
  refine packw1 hf ?_
  rw[g2]
  cases wr
  ·rw[if_neg (by decide)]
   rw[if_neg (by decide)] at hQ
   have e:((1+256*f:Nat):Int)=1+256*(f:Int)+0:=by omega
   rw[e];exact hQ
  ·rw[if_pos rfl]
   rw[if_pos rfl] at hQ
   have:=zay (a:=1+256*f) (b:=2) (by omega) (by decide)
   rw[or2] at this
   have e2:((2:Nat):Int)=2:=rfl
   rw[e2] at this
   rw[this]
   have e:((1+256*f+2:Nat):Int)=1+256*(f:Int)+2:=by omega
   rw[e];exact hQ
 ·rw[if_neg h1] at hQ
  rw[if_neg h1,g1,eu]
  refine packw2 hf ?_
  rw[g2]
  cases wr
  ·rw[if_neg (by decide)]
   rw[if_neg (by decide)] at hQ
   have e:((9223372036854775808+(65535-f):Nat):Int)=9223372036854775808+(65535-(f:Int))+0:=by omega
   rw[e];exact hQ
  ·rw[if_pos rfl]
   rw[if_pos rfl] at hQ
   have:=zay (a:=9223372036854775808+(65535-f)) (b:=4611686018427387904) (by omega) (by decide)
   rw[or62 (by omega)] at this
   have e2:((4611686018427387904:Nat):Int)=4611686018427387904:=rfl
   rw[e2] at this
   rw[this]
   have e:((9223372036854775808+(65535-f)+4611686018427387904:Nat):Int)=9223372036854775808+(65535-(f:Int))+4611686018427387904:=by omega
   rw[e];exact hQ
theorem zex {w:Nat} (hw:w<18446744073709551616) {k:Nat} (hk:k≤63) {Q:Int→Mem→Prop} (hQ:Q ((w/2 ^ k%65536:Nat):Int) S):xc S (w:Int) (k:Int) 16 Q:=by
 apply zdG
 unfold jO
 simp only[jn]
 rw[if_neg (by omega),if_neg (by omega),if_neg (by decide),if_pos (by decide)]
 refine⟨by omega,by decide,?_⟩
 have e2:IntKind.u64.wrap (ishl .u64 1 16-1)=((2 ^ 16-1:Nat):Int):=by decide
 have hd:w/2 ^ k≤w:=Nat.div_le_self _ _
 rw[e2,vV hk,yE (by omega) (by decide),Nat.and_two_pow_sub_one_eq_mod]
 exact hQ
def noEn:List Value:=[.bool false,.int .i64 0,.bool false]
theorem gH {form w:Int} (hw:W64 w) {Q:List Value→Bool→Mem→Prop}
  (hY:∀ f b,unp form w=some (f,b)→Q (enL f b) true S) (hN:unp form w=none→Q noEn (decide (w=0)) S):jI S form w Q:=by
 obtain⟨n,rfl⟩:∃ n:Nat,w=n:=⟨w.toNat,by have:=hw.1;omega⟩
 have hn:n<18446744073709551616:=by have:=hw.2;omega
 apply zfG
 unfold gd
 refine zex (k:=8) hn (by decide) ?_
 refine zI (fun J=>J (enL (if form=1 then ((n:Int)/256%65536).toNat else (65535-(n:Int)%65536).toNat:Nat) (if form=1 then decide ((n:Int)/2%2=1) else decide ((n:Int)/4611686018427387904%2=1))) S) ?_ fun J hJ=>?_
 ·refine⟨rfl,?_⟩
  simp only[jn]
  by_cases h0:(n:Int)=0
  ·rw[if_pos h0]
   have e:unp form (n:Int)=none:=by unfold unp;rw[if_pos h0]
   have:=hN e
   rw[decide_eq_true h0] at this;exact this
  ·rw[if_neg h0]
   refine⟨rfl,?_⟩
   refine zdc (by split <;> omega) ?_
   have hu:unp form (n:Int)=if pk form (if form=1 then ((n:Int)/256%65536).toNat else (65535-(n:Int)%65536).toNat) (if form=1 then decide ((n:Int)/2%2=1) else decide ((n:Int)/4611686018427387904%2=1))=(n:Int) then some (if form=1 then ((n:Int)/256%65536).toNat else (65535-(n:Int)%65536).toNat,if form=1 then decide ((n:Int)/2%2=1) else decide ((n:Int)/4611686018427387904%2=1)) else none:=by
    unfold unp;rw[if_neg h0]
   by_cases hp:pk form (if form=1 then ((n:Int)/256%65536).toNat else (65535-(n:Int)%65536).toNat) (if form=1 then decide ((n:Int)/2%2=1) else decide ((n:Int)/4611686018427387904%2=1))=(n:Int)
   ·rw[if_neg (fun h=>h hp)]
    rw[if_pos hp] at hu
    exact⟨rfl,hY _ _ hu⟩
   ·rw[if_pos hp]
    rw[if_neg hp] at hu
    have:=hN hu
    rw[decide_eq_false h0] at this;exact this
 ·by_cases h1:form=1
  ·simp only[if_pos h1] at hJ
   rw[if_neg (fun h=>h h1)]
   have e1:((n/2 ^ 8%65536:Nat):Int)=((((n:Int)/256%65536).toNat:Nat):Int):=by omega
   have e2:decide (iand .u64 (n:Int) 2≠0)=decide ((n:Int)/2%2=1):=by
    have:=yE (a:=n) (b:=2) hn (by decide)
    have h3:=zje n 1
    rw[show 2 ^ 1=2 by decide] at h3
    rw[h3] at this
    have e3:((2:Nat):Int)=2:=rfl
    rw[e3] at this
    rw[this]
    apply decide_eq_decide.2
    omega
   rw[e1,w64 (by omega) (by omega),e2];exact hJ
  ·simp only[if_neg h1] at hJ
   rw[if_pos h1,zgT hn]
   refine zex (k:=0) (by omega) (by decide) ?_
   have hf:(18446744073709551615-n)/2 ^ 0%65536=(65535-(n:Int)%65536).toNat:=by omega
   rw[hf,w64 (by omega) (by omega)]
   have e2:decide (iand .u64 (ishr .u64 (n:Int) 62) 1=1)=decide ((n:Int)/4611686018427387904%2=1):=by
    have h3:=vV (a:=n) (s:=62) (by decide)
    have h4:=yE (a:=n/2 ^ 62) (b:=1) (by omega) (by decide)
    have h5:=zje (n/2 ^ 62) 0
    rw[show 2 ^ 0=1 by decide] at h5
    have e3:((1:Nat):Int)=1:=rfl
    have e4:((62:Nat):Int)=62:=rfl
    rw[e4] at h3
    rw[e3,h5] at h4
    rw[h3,h4]
    apply decide_eq_decide.2
    omega
   rw[e2];exact hJ
end
end
end Go.Proofs.YtabdpmnhjlmnlaaGreatDoor
namespace Go.Cr
section
open Go Go.Pt
theorem zkp {w:Int} (h:W64 w):num (bytes8 w)=w:=by
 obtain⟨h1,h2⟩:=h
 have e:bytes8 w=[w/1%256,w/256%256,w/65536%256,w/16777216%256,w/4294967296%256,w/1099511627776%256,w/281474976710656%256,w/72057594037927936%256]:=rfl
 rw[e]
 simp only[num]
 omega
theorem zqC {d:Nat→List Int} {f g i j:Nat} {w:Int} (hl:(d f).length=256) (hi:i<32) (hj:j<32) (hw:W64 w):ld (wr d f (8*i) (bytes8 w)) g j=if g=f∧j=i then w else ld d g j:=by
 have h8:=xe w
 unfold ld wr
 by_cases hg:g=f
 ·subst hg
  rw[zi]
  by_cases e:j=i
  ·subst e
   rw[if_pos ⟨rfl,rfl⟩]
   have:=zmU (d:=d g) (off:=8*j) (l:=bytes8 w) (by omega)
   rw[h8] at this
   rw[this,zkp hw]
  ·rw[if_neg (fun h=>e h.2),zlB (by omega) (by omega)]
 ·rw[zk hg,if_neg (fun h=>hg h.1)]
theorem zji {d:Nat→List Int} {f off:Nat} {l:List Int} (hl:off+l.length≤(d f).length) (g:Nat):(wr d f off l g).length=(d g).length:=by
 unfold wr
 by_cases hg:g=f
 ·subst hg;rw[zi,ziw hl]
 ·rw[zk hg]
theorem zjj {d:Nat→List Int} {f off:Nat} {l:List Int} (hb:Byt l) {g:Nat} (h:Byt (d g)):Byt (wr d f off l g):=by
 unfold wr
 by_cases hg:g=f
 ·subst hg;rw[zi];exact zix h hb
 ·rw[zk hg];exact h
theorem zqb {d:Nat→List Int} {f g off:Nat} {l:List Int} (h:g≠f):wr d f off l g=d g:=zk h
def lentN (ls:Nat→Ls) (n p:Nat):Nat:=count (fun i=>(ls i).on && (decide ((ls i).fr=n) && decide ((ls i).pg=p))) 16
structure WOk (W:Wd):Prop where
 off:∀ n,(W.vm n).on=false→W.vm n=bv0∧(∀ p,W.own n p=none)∧∀ k,W.alarm n k=none
 six:∀ n,6≤n→(W.vm n).on=false
 seats:∀ n,(W.vm n).on=true→1≤(W.vm n).seats.length∧(W.vm n).seats.length≤3
 ok:∀ n,∀ s∈(W.vm n).seats,s.Ok
 keys:∀ n,(W.vm n).keys.length≤64∧Byt (W.vm n).keys
 disk:∀ n j,(W.vm n).on=true→((W.vm n).disk j).length=256∧Byt ((W.vm n).disk j)
 quota:∀ n,0≤(W.vm n).quota∧(W.vm n).quota≤32
 bells:∀ n k,(W.vm n).bells k=true→(W.vm n).on=true∧(W.vm k).on=true∧(W.vm k).bells n=true∧k≠n
 pg:∀ n p l,W.own n p=some l→(W.vm n).on=true∧p<32∧l.length=256∧Byt l
 most:∀ n,(W.pages n:Int)≤(W.vm n).quota
 lsr:∀ i,(W.ls i).on=true→i<16∧(W.vm (W.ls i).fr).on=true∧(W.vm (W.ls i).to).on=true∧(W.ls i).fr≠(W.ls i).to∧(W.own (W.ls i).fr (W.ls i).pg).isSome=true∧-1≤(W.ls i).at_∧(W.ls i).at_≤31
 lso:∀ i,(W.ls i).on=false→W.ls i=ls0
 lsa:∀ i,(W.ls i).on=true→∀ p:Nat,(W.ls i).at_=p→W.own (W.ls i).to p=none
 lsu:∀ i j,(W.ls i).on=true→(W.ls j).on=true→(W.ls i).to=(W.ls j).to→0≤(W.ls i).at_→(W.ls i).at_=(W.ls j).at_→i=j
 alarm:∀ n k w,W.alarm n k=some w→k<(W.vm n).seats.length∧W64 w
def most64:Int:=18446744073709551615
structure Rel (C:Cst) (W:Wd) (φ:Nat→Nat→Nat):Prop where
 wk:WOk W
 vm:C.vm=W.vm
 ls:C.ls=W.ls
 ev:C.ev=W.ev
 N:C.N≤512
 form:C.form=1∨C.form=2
 now:0≤C.now∧C.now≤4611686018427387904
 time:∀ n,(W.vm n).on=true→0≤C.late n∧C.late n≤C.now∧W.time n=C.now-C.late n
 alm:∀ n k,C.alm n k=(W.alarm n k).map fun w=>min (w+C.late n) most64
 free:W.free=count (fun f=>! C.used f) C.N
 left:C.left = -1
 used:∀ f,f<C.N→C.used f=decide ((C.own f).kind≠0)
 own0:∀ f,f<C.N→(C.own f).kind=0→C.own f=ow0
 kind:∀ f,f<C.N→0≤(C.own f).kind∧(C.own f).kind≤3
 len:∀ f,f<C.N→(C.dat f).length=256∧Byt (C.dat f)
 off:∀ n,(W.vm n).on=false→C.fr n=[]∧C.tf n=0∧C.late n=0
 tab:∀ n,(W.vm n).on=true→C.tf n=C.form∧(C.fr n).length=5∧(C.fr n).Nodup
 tabf:∀ n f,f∈C.fr n→f<C.N∧C.own f=⟨2,n,0,0⟩
 tabk:∀ f,f<C.N→(C.own f).kind=2→∃ n,f∈C.fr n
 root:∀ n j,(W.vm n).on=true→j<4→unp C.form (ld C.dat ((C.fr n).getD 0 0) j)=some ((C.fr n).getD (j+1) 0,true)
 leaf:∀ n p,(W.vm n).on=true→p<32→unp C.form (ld C.dat ((C.fr n).getD (p/8+1) 0) (p%8))=(W.where_ n p).map fun q=>(φ q.1 q.2.1,q.2.2)
 pg:∀ n p l,W.own n p=some l→φ n p<C.N∧C.own (φ n p)=⟨3,n,p,lentN W.ls n p⟩∧C.dat (φ n p)=l
 pgk:∀ f,f<C.N→(C.own f).kind=3→∃ n p,(W.own n p).isSome=true∧φ n p=f
 hyp:C.region.Nodup∧∀ f,f∈C.region↔f<C.N∧(C.own f).kind=1
 cache:∀ r∈C.cache,∃ n:Nat,r.vm=n∧(W.vm n).on=true∧C.walk n r.page=some (r.f,r.w)
 csize:C.cache.length≤8
section
variable {C:Cst} {W:Wd} {φ:Nat→Nat→Nat}
theorem zgY {l:List Nat} {i:Nat} (h:i<l.length):l.getD i 0∈l:=by
 rw[List.getD_eq_getElem?_getD,List.getElem?_eq_getElem h];exact List.getElem_mem h
theorem Rel.frN (h:Rel C W φ) {n j:Nat} (hn:(W.vm n).on=true) (hj:j<5):(C.fr n).getD j 0<C.N∧C.own ((C.fr n).getD j 0)=⟨2,n,0,0⟩:=
 h.tabf n _ (zgY (by rw[(h.tab n hn).2.1];exact hj))
theorem Rel.cons (h:Rel C W φ) {n:Nat} (hn:(W.vm n).on=true):∃ a b c d e,C.fr n=[a,b,c,d,e]:=by
 have hl:=(h.tab n hn).2.1
 match hf:C.fr n,hl with
 | [a,b,c,d,e],_=>exact⟨a,b,c,d,e,rfl⟩
theorem Rel.leafC (h:Rel C W φ) {n:Nat} (hn:(W.vm n).on=true) {p:Nat} (hp:p<32):Go.Cr.leafC C.dat C.N (C.tf n) (C.fr n) p=some ((C.fr n).getD (p/8+1) 0,p%8):=by
 have h1:=(h.tab n hn).1
 have hr:=h.root n (p/8) hn (by omega)
 have h0:=h.frN hn (j:=0) (by decide)
 obtain⟨a,b,c,d,e,hf⟩:=h.cons hn
 rw[hf] at hr h0 ⊢
 unfold Go.Cr.leafC
 rw[if_neg (by omega)]
 simp only[List.getD_cons_zero] at h0 hr
 dsimp only
 rw[if_pos h0.1,h1]
 have e1:((p:Int)/8).toNat=p/8:=by omega
 have e2:((p:Int)%8).toNat=p%8:=by omega
 rw[e1,e2,hr];rfl
theorem Rel.walk (h:Rel C W φ) {n:Nat} (hn:(W.vm n).on=true) {p:Nat} (hp:p<32):C.walk n p=(W.where_ n p).map fun q=>(φ q.1 q.2.1,q.2.2):=by
 unfold Cst.walk walkC
 rw[h.leafC hn hp]
 dsimp only
 rw[if_pos (h.frN hn (by omega)).1,(h.tab n hn).1]
 exact h.leaf n p hn hp
theorem zel {C:Cst} {n:Nat} {page:Int} (hp:page<0∨31<page):C.walk n page=none:=by
 unfold Cst.walk walkC Go.Cr.leafC
 rw[if_pos hp]
theorem Rel.ld_keep (h:Rel C W φ) {f:Nat} (hf:(C.own f).kind≠2) {l:List Int} {n j i:Nat} (hn:(W.vm n).on=true) (hj:j<5):ld (upd C.dat f l) ((C.fr n).getD j 0) i=ld C.dat ((C.fr n).getD j 0) i:=by
 have:=(h.frN hn hj).2
 unfold ld
 rw[zk]
 intro e
 rw[e] at this
 rw[this] at hf
 exact hf rfl
theorem Rel.inj (h:Rel C W φ) {n p m q:Nat} {l l':List Int} (h1:W.own n p=some l) (h2:W.own m q=some l') (e:φ n p=φ m q):n=m∧p=q:=by
 have e1:=(h.pg n p l h1).2.1
 have e2:=(h.pg m q l' h2).2.1
 rw[e,e2] at e1
 simp only[Ow.mk.injEq,Int.natCast_inj] at e1
 exact⟨e1.2.1.symm,e1.2.2.1.symm⟩
theorem WOk.where_own (h:WOk W) {n p:Nat} {q:Nat×Nat×Bool} (hq:W.where_ n p=some q):∃ l,W.own q.1 q.2.1=some l:=by
 unfold Wd.where_ at hq
 split at hq
 ·rename_i hs
  cases hq
  exact Option.isSome_iff_exists.1 hs
 ·cases hf:leaseAt W.ls n p with
  | none=>rw[hf] at hq;cases hq
  | some i=>
   rw[hf] at hq
   simp only[Option.map_some,Option.some.injEq] at hq
   subst hq
   have:=List.find?_some hf
   simp only[Bool.and_eq_true,decide_eq_true_eq] at this
   exact Option.isSome_iff_exists.1 (h.lsr i this.1).2.2.2.2.1
end
end
end Go.Cr
section
namespace Go.Cr
open Go Go.Pt
theorem _root_.Go.Pt.Rw.claim {S S':Mem} {ρ:Rho} {R:Nat→Prop} {r size:Nat} {t:Sl} {l:List Value} (hg:∀ b r,ρ b=some r→S b≠none) (hk:Keeps S S' []) (hrow:Row S' size t l) (hf:∀ b o,t.p=some (b,o)→S b=none) :
  ∃ ρ',Mv S ρ S' ρ' R∧Rw S' ρ' r size t l:=by
 rcases hrow.lie with ⟨h1,_⟩ | ⟨b,k,h1,h2,_⟩
 ·exact⟨ρ,Mv.keeps hg hk,hrow,fun b o h=>by rw[h1] at h;cases h⟩
 ·refine⟨ρ.upd b r,Mv.claim hg hk (hf b 0 h1) (by rw[h2];simp),hrow,fun b' o h=>?_⟩
  rw[h1] at h;cases h;exact qO
structure StoreD (S:Mem) (ρ:Rho) (m N:Nat) (d:Nat→List Int):Prop where
 ex:∃ B,StoreAt S m B N (cF N d)∧ρ B=some 2
 rol:ρ m=some 1
 len:∀ f,f<N→(d f).length=256
 byt:∀ f,f<N→Byt (d f)
section
variable {S S':Mem} {ρ ρ':Rho} {R:Nat→Prop} {m N:Nat} {d:Nat→List Int}
theorem StoreD.keep (h:StoreD S ρ m N d) (mv:Mv S ρ S' ρ' R) (h1:¬R 1) (h2:¬R 2):StoreD S' ρ' m N d:=by
 obtain⟨B,hB,hr⟩:=h.ex
 have e1:S' m=S m:=mv.kp m (by rw[hB.hd];simp) fun r e=>by rw[h.rol] at e;cases e;exact h1
 have e2:S' B=S B:=mv.kp B (by rw[hB.dt];simp) fun r e=>by rw[hr] at e;cases e;exact h2
 exact⟨⟨B,⟨by rw[e1];exact hB.hd,by rw[e2];exact hB.dt,hB.ne,hB.len,hB.byt,hB.lim⟩,mv.ext B 2 hr⟩,mv.ext m 1 h.rol,h.len,h.byt⟩
theorem StoreD.keeps (h:StoreD S ρ m N d) (hk:Keeps S S' []):StoreD S' ρ m N d:=by
 obtain⟨B,hB,hr⟩:=h.ex
 exact⟨⟨B,hB.keep hk,hr⟩,h.rol,h.len,h.byt⟩
theorem StoreD.lim (h:StoreD S ρ m N d):N≤512:=by obtain⟨B,hB,_⟩:=h.ex;exact hB.lim
theorem zok (hg:∀ b r,ρ b=some r→S b≠none) {B:Nat} (hr:ρ B=some 2) (hk:Keeps S S' [B]) (hB:S' B≠none):Mv S ρ S' ρ (· = 2):=
 Mv.keepsW hg hk fun w hw=>by rw[List.mem_singleton] at hw;subst hw;exact⟨hB,2,hr,rfl⟩
end
end Go.Cr
namespace Go.Proofs.YtabdpmnhjlmnlaaGreatDoor
open Go Go.Pt Go.Cr
section
variable {S:Mem} {ρ:Rho} {m N:Nat} {d:Nat→List Int}
theorem framesD (h:StoreD S ρ m N d) {Q:Int→Mem→Prop} (hQ:Q N S):qX S (some (m,0)) Q:=by
 obtain⟨B,hB,_⟩:=h.ex
 exact zfo hB hQ
theorem readD (h:StoreD S ρ m N d) {f off n:Nat} (hf:f<N) (hn:0<n) (ho:off+n≤256) {Q:Sl→Int→Mem→Prop}
  (hQ:∀ t S',Keeps S S' []→Row S' 1 t (bL (rdB (d f) off n))→(∀ b o,t.p=some (b,o)→S b=none)→Q t 0 S'):qV S (some (m,0)) f off n Q:=by
 obtain⟨B,hB,_⟩:=h.ex
 refine zfb hB (by omega) (fun _ _ _ _ _ t S' hk hrow hfr=>?_) (fun hbad=>absurd ⟨by omega,by omega,by omega,by omega,by omega⟩ hbad) (by omega)
 rw[Int.toNat_natCast,Int.toNat_natCast,Int.toNat_natCast,znL h.len hf ho] at hrow
 exact hQ t S' hk hrow hfr
theorem readBad (h:StoreD S ρ m N d) {f off n:Nat} (hf:N≤f) (hn:0<n) (ho:off+n≤256) {Q:Sl→Int→Mem→Prop} (hQ:Q ⟨none,0,0⟩ 1 S):qV S (some (m,0)) f off n Q:=by
 obtain⟨B,hB,_⟩:=h.ex
 exact zfb hB (by omega) (fun _ hl _ _ _ t S' _ _ _=>absurd hl (by omega)) (fun _=>hQ) (by omega)
theorem loadD (h:StoreD S ρ m N d) {f i:Nat} (hi:i<32) {Q:Int→Int→Mem→Prop} (hY:f<N→∀ S',Keeps S S' []→Q (ld d f i) 0 S') (hN:N≤f→Q 0 1 S):yW S (some (m,0)) f i Q:=by
 by_cases hf:f<N
 ·obtain⟨B,hB,_⟩:=h.ex
  refine zjZ hB hf hi fun S' hk=>?_
  rw[znL h.len hf (by omega)]
  exact hY hf S' hk
 ·apply jK
  unfold xz
  simp only[jn]
  rw[if_neg (by omega),if_neg (by omega),w64 (by omega) (by omega)]
  refine readBad (off:=8*i) (n:=8) h (by omega) (by decide) (by omega) ?_
  exact zdf (xs:=[]) ⟨rfl,Nat.le_refl _,fun _ h=>by simp at h,.inl rfl⟩ (by decide) (hN (by omega))
theorem zrE (h:StoreD S ρ m N d) {f i:Nat} (hf:f<N) (hi:i<32):W64 (ld d f i):=by
 have hl:=h.len f hf
 have hb:Byt (rdB (d f) (8*i) 8):=fun x hx=>h.byt f hf x (List.mem_of_mem_drop (List.mem_of_mem_take hx))
 have:=zcC hb
 have e:(rdB (d f) (8*i) 8).length=8:=by unfold rdB;rw[List.length_take,List.length_drop];omega
 rw[e] at this
 have h8:(256:Int) ^ 8=18446744073709551616:=by decide
 unfold ld
 exact⟨this.1,by omega⟩
theorem writeD (h:StoreD S ρ m N d) (hg:∀ b r,ρ b=some r→S b≠none) {f off:Nat} (hf:f<N) {p:Sl} {l:List Int} (hp:∃ b o,p.p=some (b,o)∧S.part b o (l.length*1)=some (bL l)) (hpl:l.length=p.n) (hl0:l≠[]) (ho:off+l.length≤256) (hb:Byt l) {Q:Int→Mem→Prop}
  (hQ:∀ S',Mv S ρ S' ρ (· = 2)→StoreD S' ρ m N (wr d f off l)→Q 0 S'):qg S (some (m,0)) f off p Q:=by
 obtain⟨B,hB,hr⟩:=h.ex
 refine zaQ hB (by omega) (l:=l) (.inr hp) hpl hl0 hb (fun _ _ _ _ hs=>?_) (fun hbad=>absurd ⟨by omega,by omega,by omega,by omega,by omega⟩ hbad)
 rw[Int.toNat_natCast,Int.toNat_natCast,zkW h.len hf ho] at hs ⊢
 refine hQ _ (zok hg hr (Keeps.refl.set (by simp)) (by simp)) ⟨⟨B,hs,hr⟩,h.rol,fun g hg'=>?_,fun g hg'=>zjj hb (h.byt g hg')⟩
 rw[zji (by rw[h.len f hf];exact ho)];exact h.len g hg'
theorem writeBad (h:StoreD S ρ m N d) {f off:Nat} (hf:N≤f) {p:Sl} {l:List Int} (hp:∃ b o,p.p=some (b,o)∧S.part b o (l.length*1)=some (bL l)) (hpl:l.length=p.n) (hl0:l≠[]) (ho:off+l.length≤256) (hb:Byt l) {Q:Int→Mem→Prop} (hQ:Q 1 S):qg S (some (m,0)) f off p Q:=by
 obtain⟨B,hB,hr⟩:=h.ex
 exact zaQ hB (by omega) (l:=l) (.inr hp) hpl hl0 hb (fun _ h2 _ _ _=>absurd h2 (by omega)) (fun _=>hQ)
theorem saveD (h:StoreD S ρ m N d) (hg:∀ b r,ρ b=some r→S b≠none) {f i:Nat} (hi:i<32) {w:Int} (hw:W64 w) {Q:Int→Mem→Prop}
  (hQ:∀ e S',Mv S ρ S' ρ (· = 2)→StoreD S' ρ m N (if f<N then wr d f (8*i) (bytes8 w) else d)→Q e S'):qU S (some (m,0)) f i w Q:=by
 obtain⟨B,hB,hr⟩:=h.ex
 by_cases hf:f<N
 ·refine zjY hB hf hi hw fun S' hk hs=>?_
  rw[zkW h.len hf (by rw[xe];omega)] at hs
  refine hQ 0 S' (zok hg hr hk (by rw[hs.dt];simp)) ?_
  rw[if_pos hf]
  refine⟨⟨B,hs,hr⟩,h.rol,fun g hg'=>?_,fun g hg'=>zjj (vF w) (h.byt g hg')⟩
  rw[zji (by rw[h.len f hf,xe];omega)];exact h.len g hg'
 ·apply jJ
  unfold xy
  simp only[jn]
  rw[if_neg (by omega),if_neg (by omega),w64 (by omega) (by omega)]
  refine zdt hw fun c hc=>?_
  have hk:Keeps S (S.set c (bw 5 (bL (bytes8 w)))) []:=Keeps.refl.fresh hc
  have h8:=xe w
  refine writeBad (off:=8*i) (h.keeps hk) (by omega) (l:=bytes8 w) ⟨c,0,rfl,?_⟩ h8 (fun h0=>by rw[h0] at h8;simp at h8) (by omega) (vF w) ?_
  ·rw[yh zy,qA (by show 0+(bytes8 w).length*1≤(bL (bytes8 w)).length;simp[bL])]
   simp only[bL,List.drop_zero,Nat.mul_one]
   rw[List.take_of_length_le (by simp)]
  ·refine hQ 1 _ (Mv.keeps hg hk) ?_
   rw[if_neg hf];exact h.keeps hk
theorem clearD (h:StoreD S ρ m N d) (hg:∀ b r,ρ b=some r→S b≠none) {f:Nat} (hf:f<N) {Q:Int→Mem→Prop}
  (hQ:∀ S',Mv S ρ S' ρ (· = 2)→StoreD S' ρ m N (upd d f noughts)→Q 0 S'):yq S (some (m,0)) f Q:=by
 obtain⟨B,hB,hr⟩:=h.ex
 refine ziz hB hf fun S' hk hs=>?_
 have hl:=h.len f hf
 have e:wr d f 0 noughts=upd d f noughts:=by
  unfold wr spB
  rw[List.take_zero,List.nil_append,List.drop_of_length_le (by rw[qz];omega),List.append_nil]
 rw[zkq,zkW h.len hf (by rw[qz];omega),e] at hs
 refine hQ S' (zok hg hr hk (by rw[hs.dt];simp)) ⟨⟨B,hs,hr⟩,h.rol,fun g hg'=>?_,fun g hg'=>?_⟩
 ·by_cases e:g=f
  ·rw[e,zi];exact qz
  ·rw[zk e];exact h.len g hg'
 ·by_cases e:g=f
  ·rw[e,zi];exact fun x hx=>xF hx
  ·rw[zk e];exact h.byt g hg'
end
end Go.Proofs.YtabdpmnhjlmnlaaGreatDoor
namespace Go.Cr
open Go Go.Pt
open Go.Proofs.YtabdpmnhjlmnlaaGreatDoor (enL noEn)
def tbL (tf:Int) (fs:Sl):List Value:=[.int .i64 tf,eL fs]
theorem zgS {d:Nat→List Int} {N:Nat} {tf:Int} {fr:List Nat} {page:Int} {f i:Nat} (h:leafC d N tf fr page=some (f,i)):i<8∧f≤65535:=by
 unfold leafC at h
 split at h
 ·cases h
 ·cases fr with
  | nil=>cases h
  | cons r l=>
   dsimp only at h
   split at h
   ·cases hu:unp tf (ld d r (page/8).toNat) with
    | none=>rw[hu] at h;cases h
    | some q=>
     rw[hu] at h
     simp only[Option.map_some,Option.some.injEq,Prod.mk.injEq] at h
     have:=(zqe hu).1
     omega
   ·cases h
end Go.Cr
namespace Go.Proofs.YtabdpmnhjlmnlaaGreatDoor
open Go Go.Pt Go.Cr
section
variable {S:Mem} {ρ:Rho} {m N:Nat} {d:Nat→List Int} {tf:Int} {fs:Sl} {fr:List Nat}
theorem zoG (hr:Row S 1 fs (nL fr)) {i:Nat} (hi:i<fr.length):∃ b,fs.p=some (b,0)∧S.cell b i=some (.int .i64 (fr.getD i 0:Nat))∧fs.n=fr.length:=by
 have hl:=hr.len
 have hn:fs.n=fr.length:=by simp[nL] at hl;omega
 rcases hr.lie with ⟨_,h2⟩ | ⟨b,k,h1,h2,h3,h4,h5⟩
 ·have:=hr.cap;omega
 ·refine⟨b,h1,?_,hn⟩
  rw[qo h2,zK]
  have:(k.cs.take (fs.n*1))[i]? = (nL fr)[i]?:=by rw[h5]
  rw[List.getElem?_take,if_pos (by omega)] at this
  rw[this]
  simp[nL,List.getElem?_eq_getElem hi]
theorem leafD (h:StoreD S ρ m N d) (hr:Row S 1 fs (nL fr)) {page:Int} {Q:Int→Int→Int→Mem→Prop}
  (hY:∀ f i S',leafC d N tf fr page=some (f,i)→Keeps S S' []→Q f i 0 S') (hN:∀ e S',leafC d N tf fr page=none→e≠0→Keeps S S' []→Q 0 0 e S'):yV S (tbL tf fs) (some (m,0)) page Q:=by
 have hn:fs.n=fr.length:=by have:=hr.len;simp[nL] at this;omega
 have c0:nthL (tbL tf fs) 0=some (.int .i64 tf):=rfl
 have c1:nthL (tbL tf fs) 1=some (eL fs):=rfl
 have hk0:Keeps S S []:=Keeps.refl
 apply zcd
 unfold wY
 refine⟨rfl,?_⟩
 refine zI (fun J=>0≤page→page<32→fr≠[]→J S) ?_ fun J hJ=>?_
 rotate_left
 ·by_cases h1:page<0
  ·rw[if_pos h1];exact hN 1 S (by unfold leafC;rw[if_pos (by omega)]) (by decide) hk0
  rw[if_neg h1]
  by_cases h2:32≤page
  ·rw[if_pos h2];exact hN 1 S (by unfold leafC;rw[if_pos (by omega)]) (by decide) hk0
  rw[if_neg h2,wc c1]
  by_cases h3:(fs.n:Int)=0
  ·rw[if_pos h3]
   have:fr=[]:=List.length_eq_zero_iff.1 (by omega)
   refine hN 1 S ?_ (by decide) hk0
   subst this;unfold leafC;rw[if_neg (by omega)]
  ·rw[if_neg h3]
   exact hJ (by omega) (by omega) (fun e=>by rw[e] at hn;simp at hn;omega)
 intro h0 h1 hne
 obtain⟨r,l,hfr⟩:∃ r l,fr=r :: l:=by
  cases fr with
  | nil=>exact absurd rfl hne
  | cons r l=>exact⟨r,l,rfl⟩
 have hlf:leafC d N tf fr page=if r<N then (unp tf (ld d r (page/8).toNat)).map fun x=>(x.1,(page%8).toNat) else none:=by
  unfold leafC;rw[if_neg (by omega),hfr]
 obtain⟨b,hb,hcell,_⟩:=zoG hr (i:=0) (by rw[hfr];simp)
 rw[hfr,List.getD_cons_zero] at hcell
 have hsl:fs=⟨some (b,0),fs.n,fs.c⟩:=by obtain⟨p,n,c⟩:=fs;simp only at hb;rw[hb]
 rw[wc c1,hsl,jH]
 refine⟨by rw[hfr] at hn;simp at hn;omega,?_⟩
 rw[zB hcell,td h0,w64 (by omega) (by omega)]
 have e8:page/8=(((page/8).toNat:Nat):Int):=by omega
 have em:Int.tmod page 8=(((page%8).toNat:Nat):Int):=by rw[tm h0];omega
 rw[e8]
 have c0:nthL (tbL tf ⟨some (b,0),fs.n,fs.c⟩) 0=some (.int .i64 tf):=rfl
 refine loadD h (by omega) (fun hrN S1 hk=>?_) fun hrN=>?_
 ·rw[zB c0]
  rw[if_pos hrN] at hlf
  refine gH (zrE h hrN (by omega)) (fun f bb hu=>?_) fun hu=>?_
  ·rw[if_pos rfl]
   refine⟨rfl,?_⟩
   simp only[jn]
   rw[if_neg (by decide),fM (show nthL (enL f bb) 0=some (.bool true) from rfl),if_pos rfl,zB (show nthL (enL f bb) 1=some (.int .i64 f) from rfl),em]
   rw[hu] at hlf
   exact hY _ _ _ hlf hk
  ·have hz:leafC d N tf fr page=none:=by rw[hlf,hu];rfl
   by_cases hw:ld d r (page/8).toNat=0
   ·rw[decide_eq_true hw,if_pos rfl]
    refine⟨rfl,?_⟩
    simp only[jn]
    rw[if_neg (by decide),fM (show nthL noEn 0=some (.bool false) from rfl),if_neg (by decide)]
    exact hN _ _ hz (by decide) hk
   ·rw[decide_eq_false hw,if_neg (by decide)]
    refine⟨rfl,?_⟩
    simp only[jn]
    rw[if_neg (by decide)]
    exact hN _ _ hz (by decide) hk
 ·rw[zB c0]
  rw[if_neg (by omega)] at hlf
  refine gH ⟨by decide,by decide⟩ (fun f bb hu=>by rw[zcc] at hu;cases hu) fun _=>?_
  rw[decide_eq_true rfl,if_pos rfl]
  refine⟨rfl,?_⟩
  simp only[jn]
  rw[if_pos (by decide)]
  exact hN _ _ hlf (by decide) hk0
theorem walkD (h:StoreD S ρ m N d) (hr:Row S 1 fs (nL fr)) {page:Int} {Q:List Value→Int→Mem→Prop}
  (hY:∀ f b S',walkC d N tf fr page=some (f,b)→Keeps S S' []→Q (enL f b) 0 S') (hN:∀ e S',walkC d N tf fr page=none→e≠0→Keeps S S' []→Q noEn e S'):qv S (tbL tf fs) (some (m,0)) page Q:=by
 have c0:nthL (tbL tf fs) 0=some (.int .i64 tf):=rfl
 apply zce
 unfold wZ
 refine⟨rfl,?_⟩
 refine leafD h hr (fun f i S1 hl hk=>?_) fun e S1 hl he hk=>?_
 ·simp only[jn]
  rw[if_neg (by decide)]
  refine⟨rfl,?_⟩
  have hb:=zgS hl
  have hw:walkC d N tf fr page=if f<N then unp tf (ld d f i) else none:=by unfold walkC;rw[hl]
  have h1:=h.keeps hk
  refine loadD h1 (by omega) (fun hf S2 hk2=>?_) fun hf=>?_
  ·rw[zB c0]
   rw[if_pos hf] at hw
   refine gH (zrE h1 hf (by omega)) (fun f' bb hu=>?_) fun hu=>?_
   ·rw[if_pos rfl]
    refine⟨rfl,?_⟩
    rw[if_neg (by decide),fM (show nthL (enL f' bb) 0=some (.bool true) from rfl),if_pos rfl]
    exact⟨rfl,hY _ _ _ (by rw[hw,hu]) (hk.trans hk2)⟩
   ·rw[hu] at hw
    by_cases hz:ld d f i=0
    ·rw[decide_eq_true hz,if_pos rfl]
     refine⟨rfl,?_⟩
     rw[if_neg (by decide),fM (show nthL noEn 0=some (.bool false) from rfl),if_neg (by decide)]
     exact hN _ _ hw (by decide) (hk.trans hk2)
    ·rw[decide_eq_false hz,if_neg (by decide)]
     refine⟨rfl,?_⟩
     rw[if_neg (by decide)]
     exact hN _ _ hw (by decide) (hk.trans hk2)
  ·rw[zB c0]
   rw[if_neg (by omega)] at hw
   refine gH ⟨by decide,by decide⟩ (fun f bb hu=>by rw[zcc] at hu;cases hu) fun _=>?_
   rw[decide_eq_true rfl,if_pos rfl]
   refine⟨rfl,?_⟩
   rw[if_pos (by decide)]
   exact hN _ _ hw (by decide) hk
 ·simp only[jn]
  rw[if_pos he]
  exact hN e S1 (by unfold walkC;rw[hl]) he hk
theorem mapD (h:StoreD S ρ m N d) (hg:∀ b r,ρ b=some r→S b≠none) (hr:Row S 1 fs (nL fr)) {page:Int} {f:Nat} (hf:f<N) {wr:Bool} {Q:Int→Mem→Prop}
  (hQ:∀ e S',Mv S ρ S' ρ (· = 2)→StoreD S' ρ m N (setC d N tf fr page (Go.Cr.pk tf f wr))→Q e S'):jc S (tbL tf fs) (some (m,0)) page f wr Q:=by
 have c0:nthL (tbL tf fs) 0=some (.int .i64 tf):=rfl
 have hN:=h.lim
 apply zcR
 unfold vI
 refine⟨rfl,?_⟩
 refine leafD h hr (fun f' i S1 hl hk=>?_) fun e S1 hl he hk=>?_
 ·have hb:=zgS hl
  have h1:=h.keeps hk
  have m1:Mv S ρ S1 ρ (· = 2):=Mv.keeps hg hk
  simp only[jn]
  rw[if_neg (by decide),if_neg (by omega)]
  refine framesD h1 ?_
  rw[if_neg (by omega),zB c0]
  refine zdc (by omega) ?_
  refine saveD h1 m1.rg (by omega) (zpj (by omega)).1 fun e S2 m2 h2=>hQ e S2 (m1.trans m2) ?_
  unfold setC
  rw[hl];exact h2
 ·simp only[jn]
  rw[if_pos he]
  refine hQ e S1 (Mv.keeps hg hk) ?_
  unfold setC
  rw[hl];exact h.keeps hk
theorem unmapD (h:StoreD S ρ m N d) (hg:∀ b r,ρ b=some r→S b≠none) (hr:Row S 1 fs (nL fr)) {page:Int} {Q:Int→Mem→Prop}
  (hQ:∀ e S',Mv S ρ S' ρ (· = 2)→StoreD S' ρ m N (setC d N tf fr page 0)→Q e S'):vy S (tbL tf fs) (some (m,0)) page Q:=by
 apply zbu
 unfold wF
 refine⟨rfl,?_⟩
 refine leafD h hr (fun f' i S1 hl hk=>?_) fun e S1 hl he hk=>?_
 ·have hb:=zgS hl
  have h1:=h.keeps hk
  have m1:Mv S ρ S1 ρ (· = 2):=Mv.keeps hg hk
  rw[if_neg (by decide)]
  refine saveD h1 m1.rg (by omega) ⟨by decide,by decide⟩ fun e S2 m2 h2=>hQ e S2 (m1.trans m2) ?_
  unfold setC
  rw[hl];exact h2
 ·rw[if_pos he]
  refine hQ e S1 (Mv.keeps hg hk) ?_
  unfold setC
  rw[hl];exact h.keeps hk
end
end Go.Proofs.YtabdpmnhjlmnlaaGreatDoor
end
section
namespace Go.Cr
open Go Go.Pt
theorem zgZ {S S':Mem} {b:Nat} (hk:Keeps S S' []) (h:S' b=none):S b=none:=by
 cases hs:S b with
 | none=>rfl
 | some k=>have:=hk.get hs (by simp);rw[h] at this;cases this
theorem wB {α:Type} {f:α→List Value} {w:Nat} (h:∀ a,(f a).length=w):∀ l:List α,(l.flatMap f).length=l.length*w
 | []=>by simp
 | a :: l=>by rw[List.flatMap_cons,List.length_append,wB h l,h,List.length_cons,Nat.add_mul];omega
theorem zjD {α:Type} {f:α→List Value} {w:Nat} (h:∀ a,(f a).length=w) {l:List α} {j:Nat} (hj:j<l.length):l.flatMap f=(l.take j).flatMap f++(f l[j]++(l.drop (j+1)).flatMap f)∧((l.take j).flatMap f).length=j*w:=by
 constructor
 ·have e:l=l.take j++(l[j] :: l.drop (j+1)):=by rw[List.getElem_cons_drop,List.take_append_drop]
  have e2:=congrArg (List.flatMap f) e
  rw[List.flatMap_append,List.flatMap_cons] at e2
  exact e2
 ·rw[wB h,List.length_take,Nat.min_eq_left (by omega)]
theorem zfp {α:Type} {f:α→List Value} {w:Nat} (h:∀ a,(f a).length=w) {l:List α} {j:Nat} (hj:j<l.length):lpart (l.flatMap f) (j*w) w=some (f l[j]):=by
 obtain⟨e1,e2⟩:=zjD h hj
 have hl:=h l[j]
 rw[e1,show j*w=j*w+0 by omega,xZ e2,kX (by omega),←hl,ze rfl]
theorem gF (r:Cw):(cwL r).length=5:=rfl
structure CaP (S:Mem) (ρ:Rho) (r0 h i:Nat) (L:Sl→List Value) (l:List Cw):Prop where
 ex:∃ cs,Pc S ρ r0 h (L cs)∧Rw S ρ 6 5 cs (l.flatMap cwL)
 get:∀ cs,nthL (L cs) i=some (eL cs)
 set:∀ cs cs',spl (L cs) i [eL cs']=L cs'
 ne:r0≠6
variable {S S':Mem} {ρ ρ':Rho} {R:Nat→Prop} {r0 h i:Nat} {L:Sl→List Value} {l:List Cw}
theorem CaP.keep (hc:CaP S ρ r0 h i L l) (m:Mv S ρ S' ρ' R) (h0:¬R r0) (h6:¬R 6):CaP S' ρ' r0 h i L l:=by
 obtain⟨cs,h1,h2⟩:=hc.ex
 exact⟨⟨cs,h1.keep m h0,h2.keep m h6⟩,hc.get,hc.set,hc.ne⟩
theorem CaP.keeps (hc:CaP S ρ r0 h i L l) (hk:Keeps S S' []):CaP S' ρ r0 h i L l:=by
 obtain⟨cs,h1,h2⟩:=hc.ex
 exact⟨⟨cs,h1.keeps hk,h2.keeps hk⟩,hc.get,hc.set,hc.ne⟩
theorem zgh {l:List Cw} {vm page:Int} {i:Nat} (h:∀ j (hj:j<l.length),j<i→¬(l[j].vm=vm∧l[j].page=page)):lookC l vm page=lookC (l.drop i) vm page:=by
 unfold lookC
 congr 1
 have e:l=l.take i++l.drop i:=(List.take_append_drop _ _).symm
 conv=>lhs;rw[e,List.find?_append]
 rw[List.find?_eq_none.2 fun x hx=>?_,Option.none_or]
 obtain⟨j,hj,rfl⟩:=List.getElem_of_mem hx
 rw[List.length_take] at hj
 have:=h j (by omega) (by omega)
 rw[List.getElem_take]
 simpa using this
end Go.Cr
namespace Go.Proofs.YtabdpmnhjlmnlaaGreatDoor
open Go Go.Pt Go.Cr
section
variable {S:Mem} {ρ:Rho} {r0 h i:Nat} {L:Sl→List Value} {l:List Cw}
theorem zlV (hc:CaP S ρ r0 h i L l) (hl:l.length≤100) {vm page:Int} {Q:List Value→Bool→Mem→Prop}
  (hY:∀ f b,lookC l vm page=some (f,b)→Q (enL f b) true S) (hN:lookC l vm page=none→Q noEn false S):kq S (some (h,i)) vm page Q:=by
 obtain⟨cs,h1,h2⟩:=hc.ex
 have hn:=h2.n (by decide) (wB gF l)
 have hi:i<(L cs).length:=by have:=vB (hc.get cs);exact this
 have hcell:S.cell h i=some (eL cs):=(h1.cell i hi rfl).trans (hc.get cs)
 apply zcq
 unfold vl
 simp only[jn]
 rw[if_pos (by simp),zV,wc hcell]
 refine zM (fun (z:Int×List Value) S'=>∃ j:Nat,z=((j:Int),noEn)∧j≤l.length∧S'=S∧∀ k (hk:k<l.length),k<j→¬(l[k].vm=vm∧l[k].page=page)) (fun z=>l.length-z.1.toNat) ?_ ⟨0,rfl,by omega,rfl,fun _ _ h=>by omega⟩
 rintro X z S' ⟨j,rfl,hj,rfl,hno⟩ ih
 dsimp only at ih ⊢
 refine⟨rfl,?_⟩
 by_cases hlt:(j:Int)<(cs.n:Int)
 ·have hjl:j<l.length:=by omega
  have hfl:=wB gF l
  have hj5:j*5+5≤l.length*5:=by omega
  obtain⟨c,e1,e2⟩:=h2.sl (by rw[hfl];omega)
  rw[if_pos hlt]
  rw[e1,jH]
  refine⟨by omega,by omega,?_⟩
  rw[Int.toNat_natCast,gD (by rw[h2.part e2 (j*5) (by rw[hfl];omega) (by omega)];exact zfp gF hjl)]
  refine⟨rfl,?_⟩
  rw[gD (show lpart (cwL l[j]) 0 2=some [.int .i64 l[j].vm,.int .i64 l[j].page] from rfl)]
  refine⟨rfl,?_⟩
  by_cases hm:l[j].vm=vm∧l[j].page=page
  ·have he:eqL [Value.int .i64 l[j].vm,.int .i64 l[j].page] [.int .i64 vm,.int .i64 page]=true:=(zfs (ks:=[.i .i64,.i .i64]) rfl rfl).2 (by rw[hm.1,hm.2])
   rw[if_pos he,gD (show lpart (cwL l[j]) 2 3=some (enL l[j].f l[j].w) from rfl)]
   refine⟨rfl,hY _ _ ?_⟩
   rw[zgh hno]
   unfold lookC
   rw[List.drop_eq_getElem_cons hjl,List.find?_cons_of_pos (by simpa using hm)];rfl
  ·have he:¬eqL [Value.int .i64 l[j].vm,.int .i64 l[j].page] [.int .i64 vm,.int .i64 page]=true:=fun h=>hm (by
    have:=(zfs (ks:=[.i .i64,.i .i64]) rfl rfl).1 h
    simpa using this)
   rw[if_neg he,w64 (by omega) (by omega)]
   refine ih _ S' ⟨j+1,rfl,by omega,rfl,fun k hk hkj=>?_⟩ (by dsimp only;omega)
   by_cases e:k=j
   ·subst e;exact hm
   ·exact hno k hk (by omega)
 ·rw[if_neg hlt]
  refine⟨rfl,hN ?_⟩
  rw[zgh hno,List.drop_of_length_le (by omega)];rfl
def Wants (S:Mem) (fv:Value) (p:Cw→Bool):Prop:=∀ S' r (R:Value→Mem→Prop),Keeps S S' []→R (.bool (p r)) S'→cv Tryz.prog S' fv [valL (cwL r)] R
theorem zmd (hc:CaP S ρ r0 h i L l) (hg:∀ b r,ρ b=some r→S b≠none) (hl:l.length≤100) {fv:Value} {p:Cw→Bool} (hf:Wants S fv p) {Q:Mem→Prop}
  (hQ:∀ S' ρ',Mv S ρ S' ρ' (fun r=>r=r0∨r=6)→CaP S' ρ' r0 h i L (l.filter p)→Q S'):ko S (some (h,i)) fv Q:=by
 obtain⟨cs,h1,h2⟩:=hc.ex
 have hn:=h2.n (by decide) (wB gF l)
 have hi:i<(L cs).length:=by have:=vB (hc.get cs);exact this
 have hcell:S.cell h i=some (eL cs):=(h1.cell i hi rfl).trans (hc.get cs)
 apply zcp
 unfold vk
 simp only[jn]
 rw[zV,wc hcell]
 refine zM (fun (z:Sl×Int) S'=>∃ j:Nat,z.2=(j:Int)∧j≤l.length∧Keeps S S' []∧Row S' 5 z.1 (((l.take j).filter p).flatMap cwL)∧∀ b o,z.1.p=some (b,o)→S b=none) (fun z=>l.length-z.2.toNat) ?_ ⟨0,rfl,by omega,Keeps.refl,Row.nil,fun b o h=>by cases h⟩
 rintro X ⟨l1,t⟩ S1 ⟨j,rfl,hj,hk,hrow,hfr⟩ ih
 dsimp only at ih hrow hfr hj ⊢
 have h2':=h2.keeps hk
 by_cases hlt:(j:Int)<(cs.n:Int)
 ·have hjl:j<l.length:=by omega
  have hfl:=wB gF l
  obtain⟨c,e1,e2⟩:=h2.sl (by rw[hfl];omega)
  rw[if_pos hlt]
  rw[e1,jH]
  refine⟨by omega,by omega,?_⟩
  rw[Int.toNat_natCast,gD (by rw[h2'.part e2 (j*5) (by rw[hfl];omega) (by omega)];exact zfp gF hjl)]
  refine⟨rfl,?_⟩
  have ht:l.take (j+1)=l.take j++[l[j]]:=List.take_succ_eq_append_getElem hjl
  refine hf S1 l[j] _ hk ⟨_,rfl,?_⟩
  by_cases hp:p l[j]=true
  ·rw[if_pos hp]
   refine⟨rfl,?_⟩
   have hl1:l1.n=((l.take j).filter p).length:=by
    have:=hrow.len
    rw[wB gF] at this;omega
   have hle:((l.take j).filter p).length≤j:=Nat.le_trans (List.length_filter_le _ _) (by rw[List.length_take];omega)
   refine jR hrow rfl (by decide) rfl (by omega) fun s' S2 b k e3 e4 e5 e6 e7=>?_
   have hb:S b=none:=by
    rcases e5 with e5 | e5
    ·exact hfr b 0 e5
    ·exact zgZ hk e5
   rw[w64 (by omega) (by omega)]
   refine ih _ S2 ⟨j+1,rfl,by omega,by rw[e6];exact hk.fresh hb,?_,fun b' o' h'=>?_⟩ (by dsimp only;omega)
   ·rw[ht,List.filter_append,List.flatMap_append]
    have:([l[j]].filter p).flatMap cwL=cwL l[j]:=by rw[List.filter_cons_of_pos hp];simp
    rw[this];exact e7
   ·rw[e4] at h';cases h';exact hb
  ·rw[if_neg hp,w64 (by omega) (by omega)]
   refine ih _ S1 ⟨j+1,rfl,by omega,hk,?_,hfr⟩ (by dsimp only;omega)
   rw[ht,List.filter_append,List.flatMap_append]
   have:([l[j]].filter p).flatMap cwL=[]:=by rw[List.filter_cons_of_neg hp];rfl
   rw[this,List.append_nil];exact hrow
 ·rw[if_neg hlt,zV]
  have ej:l.take j=l:=List.take_of_length_le (by omega)
  rw[ej] at hrow
  obtain⟨ρ1,m1,h3⟩:=Rw.claim (R:=fun r=>r=r0∨r=6) (r:=6) hg hk hrow hfr
  have m1':Mv S ρ S1 ρ1 (fun _=>False):=⟨m1.ext,m1.old,fun b hb _=>hk b hb (by simp),m1.al,m1.rg⟩
  refine (h1.keep m1' (fun h=>h)).pt m1.rg (vs:=[eL l1]) i rfl hi rfl fun S2 m2 h4=>?_
  rw[hc.set] at h4
  refine hQ S2 ρ1 (m1.trans (m2.mono fun r hr=>.inl hr)) ⟨⟨l1,h4,h3.keep m2 hc.ne.symm⟩,hc.get,hc.set,hc.ne⟩
theorem zdo (hc:CaP S ρ r0 h i L l) (hg:∀ b r,ρ b=some r→S b≠none) (hl:l.length≤100) {vm page:Int} {Q:Mem→Prop}
  (hQ:∀ S' ρ',Mv S ρ S' ρ' (fun r=>r=r0∨r=6)→CaP S' ρ' r0 h i L (dropC l vm page)→Q S'):xb S (some (h,i)) vm page Q:=by
 apply zcr
 unfold vp
 intro b1 hb1 b2 hb2
 have hk1:Keeps S (S.set b1 (bw 3 [.int .i64 vm])) []:=Keeps.refl.new hb1
 have hk2:Keeps (S.set b1 (bw 3 [.int .i64 vm])) ((S.set b1 (bw 3 [.int .i64 vm])).set b2 (bw 3 [.int .i64 page])) []:=Keeps.refl.new hb2
 have n12:b1≠b2:=fun e=>by subst e;simp at hb2
 have m1:Mv S ρ ((S.set b1 (bw 3 [.int .i64 vm])).set b2 (bw 3 [.int .i64 page])) ρ (fun r=>r=r0∨r=6):=Mv.keeps hg (hk1.trans hk2)
 rw[if_pos (by simp)]
 refine zmd (hc.keeps (hk1.trans hk2)) m1.rg hl (p:=fun r=>! (decide (r.vm=vm) && decide (r.page=page))) ?_ fun S' ρ' m h=>hQ S' ρ' (m1.trans m) h
 intro S' a R hk hR
 have g1:S' b1=some (bw 3 [.int .i64 vm]):=hk.get (by rw[qe n12];exact zy) (by simp)
 have g2:S' b2=some (bw 3 [.int .i64 page]):=hk.get zy (by simp)
 refine⟨_,[],[_,_],rfl,inferInstance,Tr.mono (zar (S:=S') (r:=cwL a) (t:=some (b1,0)) (t_1:=some (b2,0)) (Q:=fun r S2=>R (.bool r) S2) ?_) (by rintro v S2 ⟨r,rfl,h⟩;exact h)⟩
 unfold xW
 refine⟨rfl,?_⟩
 rw[gD (show lpart (cwL a) 0 2=some [.int .i64 a.vm,.int .i64 a.page] from rfl),zV,zB (by rw[qo g1];rfl),zV,zB (by rw[qo g2];rfl)]
 refine⟨rfl,?_⟩
 have e:eqL [Value.int .i64 a.vm,.int .i64 a.page] [.int .i64 vm,.int .i64 page]=(decide (a.vm=vm) && decide (a.page=page)):=by
  rw[Bool.eq_iff_iff,zfs (ks:=[.i .i64,.i .i64]) rfl rfl]
  simp
 rw[e];exact hR
theorem zqS {r:Cw}:spl (spl ([.int .i64 0,.int .i64 0,.bool false,.int .i64 0,.bool false]) 0 [.int .i64 r.vm,.int .i64 r.page]) 2 (enL r.f r.w)=cwL r:=rfl
theorem zlE (hc:CaP S ρ r0 h i L l) (hg:∀ b r,ρ b=some r→S b≠none) (hl:l.length≤100) {r:Cw} {Q:Mem→Prop}
  (hQ:∀ S' ρ',Mv S ρ S' ρ' (fun r=>r=r0∨r=6)→CaP S' ρ' r0 h i L (putC l r)→Q S'):js S (some (h,i)) r.vm r.page (enL r.f r.w) Q:=by
 apply zcY
 unfold vP
 refine⟨rfl,?_⟩
 refine zI (fun J=>J S) ?_ fun J hJ=>by rw[if_neg (by simp)];exact hJ
 have hdl:(dropC l r.vm r.page).length≤l.length:=List.length_filter_le _ _
 refine zdo hc hg hl fun S1 ρ1 m1 h1=>?_
 refine zI (fun J=>∀ S2 ρ2,Mv S ρ S2 ρ2 (fun r=>r=r0∨r=6)→CaP S2 ρ2 r0 h i L (if (dropC l r.vm r.page).length=8 then (dropC l r.vm r.page).tail else dropC l r.vm r.page)→J S2) ?_ fun J hJ=>?_
 ·intro S2 ρ2 m2 h2
  obtain⟨cs,h3,h4⟩:=h2.ex
  have hi:i<(L cs).length:=by have:=vB (h2.get cs);exact this
  rw[zV,wc ((h3.cell i hi rfl).trans (h2.get cs)),zqS]
  refine⟨rfl,?_⟩
  have hn:=h4.n (by decide) (wB gF _)
  have hle:(if (dropC l r.vm r.page).length=8 then (dropC l r.vm r.page).tail else dropC l r.vm r.page).length≤100:=by
   split
   ·rw[List.length_tail];omega
   ·omega
  refine zid (R:=fun r=>r=r0∨r=6) m2 (.inr rfl) h4 rfl (by decide) rfl (by omega) fun s' S3 ρ3 m3 m3' h5 _=>?_
  refine (h3.keep m3' h2.ne).pt m3.rg (vs:=[eL s']) i rfl hi rfl fun S4 m4 h6=>?_
  rw[h2.set] at h6
  refine hQ S4 ρ3 (m3.trans (m4.mono fun r hr=>.inl hr)) ⟨⟨s',h6,?_⟩,h2.get,h2.set,h2.ne⟩
  have:=h5.keep m4 h2.ne.symm
  unfold putC
  rw[List.flatMap_append]
  have e:[r].flatMap cwL=cwL r:=by simp
  rw[e];exact this
 ·obtain⟨cs,h3,h4⟩:=h1.ex
  have hi:i<(L cs).length:=by have:=vB (h1.get cs);exact this
  have hcell:=(h3.cell i hi rfl).trans (h1.get cs)
  have hn:=h4.n (by decide) (wB gF _)
  rw[zV,wc hcell]
  by_cases h8:(dropC l r.vm r.page).length=8
  ·have hJ':=fun S2 ρ2 m h=>hJ S2 ρ2 m (by rw[if_pos h8];exact h)
   rw[if_pos (by omega),wc hcell]
   obtain⟨c,e1,e2⟩:=h4.sl (by rw[wB gF];omega)
   refine⟨by decide,by omega,by have:=h4.row.cap;omega,?_⟩
   have es:slc 5 cs 1 (cs.n:Int)=if cs.c=1 then ⟨some (c,0),cs.n-1,cs.c-1⟩ else ⟨some (c,5),cs.n-1,cs.c-1⟩:=by
    unfold slc
    rw[e2]
    have e3:(1:Int).toNat=1:=rfl
    have e4:((cs.n:Int)-1).toNat=cs.n-1:=by omega
    rw[e3,e4]
    split <;> rfl
   have hcap:=h4.row.cap
   rw[if_neg (by omega)] at es
   show sp S1 (slc 5 cs 1 (cs.n:Int)) 5 _
   rw[es]
   obtain⟨a,tl,hd⟩:∃ a tl,dropC l r.vm r.page=a :: tl:=by
    cases hq:dropC l r.vm r.page with
    | nil=>rw[hq] at h8;simp at h8
    | cons a b=>exact⟨a,b,rfl⟩
   have htl:(dropC l r.vm r.page).tail=tl:=by rw[hd];rfl
   have hfl:=wB gF (dropC l r.vm r.page)
   have hpart:S1.part c 5 ((cs.n-1)*5)=some ((dropC l r.vm r.page).tail.flatMap cwL):=by
    rw[h4.part e2 5 (by rw[hfl];omega) rfl]
    have e3:(dropC l r.vm r.page).flatMap cwL=cwL a++(dropC l r.vm r.page).tail.flatMap cwL:=by
     rw[htl,hd,List.flatMap_cons]
    have e6:=xZ (A:=cwL a) (B:=(dropC l r.vm r.page).tail.flatMap cwL) (n:=5) (j:=0) (m:=(cs.n-1)*5) rfl
    rw[Nat.add_zero] at e6
    rw[e3,e6]
    have e5:(cs.n-1)*5=((dropC l r.vm r.page).tail.flatMap cwL).length:=by rw[wB gF,List.length_tail];omega
    rw[e5,ze rfl]
   refine⟨_,.inr ⟨c,5,rfl,hpart⟩,?_,?_⟩
   ·rw[List.all_flatMap]
    exact List.all_eq_true.2 fun x _=>rfl
   ·refine jR (m:=cs.n-1) Row.nil (by rw[wB gF,List.length_tail];omega) (by omega) rfl (by show (2*(0+(cs.n-1))+1024)*40≤_;omega) fun s' S2 b k e3 e4 e5 e6 e7=>?_
    have hb:S1 b=none:=by
     rcases e5 with e5 | e5
     ·cases e5
     ·exact e5
    have hk:Keeps S1 S2 []:=by rw[e6];exact Keeps.refl.fresh hb
    obtain⟨ρ2,m2,h5⟩:=Rw.claim (R:=fun r=>r=r0∨r=6) (r:=6) m1.rg hk e7 fun b' o' h'=>by rw[e4] at h';cases h';exact hb
    have m2':Mv S1 ρ1 S2 ρ2 (fun _=>False):=⟨m2.ext,m2.old,fun b hb _=>hk b hb (by simp),m2.al,m2.rg⟩
    refine (h3.keep m2' (fun h=>h)).pt m2.rg (vs:=[eL s']) i rfl hi rfl fun S3 m3 h6=>?_
    rw[h1.set] at h6
    exact hJ' S3 ρ2 (m1.trans (m2.trans (m3.mono fun r hr=>.inl hr))) ⟨⟨s',h6,by have:=h5.keep m3 h1.ne.symm;rw[List.nil_append] at this;exact this⟩,h1.get,h1.set,h1.ne⟩
  ·rw[if_neg (by omega)]
   have:=hJ S1 ρ1 m1
   rw[if_neg h8] at this
   exact this h1
end
end Go.Proofs.YtabdpmnhjlmnlaaGreatDoor
end
section
namespace Go.Cr
open Go Go.Pt Go.Hp
def freeL (N:Nat) (used:Nat→Bool):List Int:=((List.range N).filter fun i=>! used i).map fun (n:Nat)=>(n:Int)
theorem wU {N:Nat} {used:Nat→Bool} {f:Int}:f∈freeL N used↔0≤f∧f<N∧used f.toNat=false:=by
 unfold freeL
 simp only[List.mem_map,List.mem_filter,List.mem_range,Bool.not_eq_true']
 constructor
 ·rintro⟨n,⟨h1,h2⟩,rfl⟩
  exact⟨by omega,by omega,by simpa using h2⟩
 ·rintro⟨h0,h1,h2⟩
  exact⟨f.toNat,⟨by omega,h2⟩,by omega⟩
theorem ff {N:Nat} {used:Nat→Bool}:(freeL N used).Nodup:=by
 unfold freeL List.Nodup
 rw[List.pairwise_map]
 exact (List.Pairwise.filter _ List.nodup_range).imp fun {a b} (h:a≠b)=>by omega
theorem zfn {N:Nat} {used:Nat→Bool}:(freeL N used).length=count (fun i=>! used i) N:=by simp[freeL,count]
theorem zkA {N:Nat} {used:Nat→Bool} {F F':List Int} {m:Int} (h:F.Perm (freeL N used)) (h2:F.Perm (m :: F')) (h3:∀ x∈F',¬x<m):∃ f:Nat,m=f∧firstOff used N=some f∧F'.Perm (freeL N (upd used f true)):=by
 have hm:m∈freeL N used:=h.subset (h2.symm.subset (by simp))
 have hp:(m :: F').Perm (freeL N used):=h2.symm.trans h
 have hnd:=hp.nodup_iff.2 ff
 obtain⟨h0,h1,hu⟩:=wU.1 hm
 refine⟨m.toNat,by omega,jl (by omega) hu fun g hg=>?_,?_⟩
 ·cases hgu:used g with
  | true=>rfl
  | false=>
   have:(g:Int)∈freeL N used:=wU.2 ⟨by omega,by omega,by simpa using hgu⟩
   have:=hp.symm.subset this
   rcases List.mem_cons.1 this with e | e
   ·omega
   ·have:=h3 _ e;omega
 ·rw[List.perm_ext_iff_of_nodup (List.nodup_cons.1 hnd).2 ff]
  intro a
  rw[wU]
  constructor
  ·intro ha
   have h4:=wU.1 (hp.subset (List.mem_cons_of_mem _ ha))
   have hne:a≠m:=fun e=>by rw[e] at ha;exact (List.nodup_cons.1 hnd).1 ha
   exact⟨h4.1,h4.2.1,by rw[zk (by omega)];exact h4.2.2⟩
  ·rintro⟨a0,a1,a2⟩
   have hne:a≠m:=fun e=>by rw[e,zi] at a2;cases a2
   rw[zk (by omega)] at a2
   rcases List.mem_cons.1 (hp.symm.subset (wU.2 ⟨a0,a1,a2⟩)) with e | e
   ·exact absurd e hne
   ·exact e
theorem zkB {N:Nat} {used:Nat→Bool} {F:List Int} {f:Nat} (h:F.Perm (freeL N used)) (hf:f<N) (hu:used f=true):((f:Int) :: F).Perm (freeL N (upd used f false)):=by
 have hnd:=h.nodup_iff.2 ff
 have hn:(f:Int)∉F:=fun hm=>by
  have:=(wU.1 (h.subset hm)).2.2
  rw[Int.toNat_natCast,hu] at this;cases this
 rw[List.perm_ext_iff_of_nodup (List.nodup_cons.2 ⟨hn,hnd⟩) ff]
 intro a
 rw[wU,List.mem_cons]
 constructor
 ·rintro (rfl | ha)
  ·exact⟨by omega,by omega,by rw[Int.toNat_natCast,zi]⟩
  ·have h4:=wU.1 (h.subset ha)
   have hne:a≠f:=fun e=>hn (e ▸ ha)
   exact⟨h4.1,h4.2.1,by rw[zk (by omega)];exact h4.2.2⟩
 ·rintro⟨a0,a1,a2⟩
  by_cases e:a=f
  ·exact .inl e
  ·rw[zk (by omega)] at a2
   exact .inr (h.symm.subset (wU.2 ⟨a0,a1,a2⟩))
def uL (N:Nat) (used:Nat→Bool):List Value:=cF N fun i=>[Value.bool (used i)]
theorem zey {N:Nat} {used:Nat→Bool}:(uL N used).length=N*1:=wd (w:=1) fun _ _=>rfl
theorem zqg {N f:Nat} {used:Nat→Bool} (hf:f<N):nthL (uL N used) f=some (.bool (used f)):=by
 have:=zdL (w:=1) (k:=0) (n:=N) (f:=fun i=>[Value.bool (used i)]) (fun _ _=>rfl) hf (by decide)
 rw[Nat.mul_one] at this;exact this
theorem zqf {N f:Nat} {used:Nat→Bool} (hf:f<N) (b:Bool):spl (uL N used) f [.bool b]=uL N (upd used f b):=by
 have:=zfA (w:=1) (k:=0) (n:=N) (vs:=[.bool b]) (f:=fun i=>[Value.bool (used i)]) (fun _ _=>rfl) hf (by simp)
 rw[Nat.mul_one] at this
 unfold uL
 rw[show f=f+0 by rfl,this]
 refine yn fun g _=>?_
 by_cases e:g=f
 ·subst e;simp only[zi,Nat.add_zero];rfl
 ·simp only[zk e,Nat.add_zero]
end Go.Cr
namespace Go.Proofs.YtabdpmnhjlmnlaaGreatDoor
open Go Go.Pt Go.Cr Go.Hp
structure PoolP (S:Mem) (ρ:Rho) (p N:Nat) (used:Nat→Bool) (left:Int):Prop where
 ex:∃ tb fs us F,Hq.Ck S p 0 tb [eL fs,eL us,.int .i64 left] fs F∧(∀ x∈Hq.own fs,ρ x=some 4)∧Rw S ρ 5 1 us (uL N used)∧F.Perm (freeL N used)
 rol:ρ p=some 3
 lim:N≤512
abbrev R345 (r:Nat):Prop:=r=3∨r=4∨r=5
section
variable {S S':Mem} {ρ ρ':Rho} {R:Nat→Prop} {p N:Nat} {used:Nat→Bool} {left:Int}
theorem zav {b r:Nat} (m:Mv S ρ S' ρ' R) (hb:S b≠none) (hr:ρ b=some r) (hR:¬R r):S' b=S b:=m.kp b hb fun r' e=>by rw[hr] at e;cases e;exact hR
theorem PoolP.keep (h:PoolP S ρ p N used left) (m:Mv S ρ S' ρ' R) (h3:¬R 3) (h4:¬R 4) (h5:¬R 5):PoolP S' ρ' p N used left:=by
 obtain⟨tb,fs,us,F,hck,ho,hus,hF⟩:=h.ex
 refine⟨⟨tb,fs,us,F,⟨?_,hck.cell,?_,hck.ne,hck.heap,hck.len⟩,fun x hx=>m.ext x 4 (ho x hx),hus.keep m h5,hF⟩,m.ext p 3 h.rol,h.lim⟩
 ·rw[zav m (by rw[hck.blk];simp) h.rol h3];exact hck.blk
 ·refine hck.row.keep fun b hb=>?_
  have hx:b∈Hq.own fs:=by simp[Hq.own,hb]
  obtain⟨k,hk⟩:=Hq.own_row hck.row hx
  exact zav m (by rw[hk];simp) (ho b hx) h4
theorem PoolP.keeps (h:PoolP S ρ p N used left) (hg:∀ b r,ρ b=some r→S b≠none) (hk:Keeps S S' []):PoolP S' ρ p N used left:=
 h.keep (Mv.keeps (R:=fun _=>False) hg hk) (fun h=>h) (fun h=>h) (fun h=>h)
theorem zlO {b:Nat} {s s':Sl} {rb rr:Nat} (hg:∀ b r,ρ b=some r→S b≠none) (hk:Keeps S S' (b :: Hq.own s)) (hb:ρ b=some rb) (ho:∀ x∈Hq.own s,ρ x=some rr) (hf:∀ x∈Hq.own s',x∈Hq.own s∨S x=none) (hal:Grows S S') (hs':∀ x∈Hq.own s',S' x≠none) :
  ∃ ρ',Mv S ρ S' ρ' (fun r=>r=rb∨r=rr)∧∀ x∈Hq.own s',ρ' x=some rr:=by
 have m0:Mv S ρ S' ρ (fun r=>r=rb∨r=rr):=Mv.keepsW hg hk fun w hw=>by
  rcases List.mem_cons.1 hw with e | e
  ·subst e;exact⟨hal w (hg w rb hb),rb,hb,.inl rfl⟩
  ·exact⟨hal w (hg w rr (ho w e)),rr,ho w e,.inr rfl⟩
 by_cases hex:∃ c,c∈Hq.own s'∧S c=none
 ·obtain⟨c,hc,hcn⟩:=hex
  have hone:∀ x∈Hq.own s',x=c:=by
   intro x hx
   unfold Hq.own at hx hc
   cases hp:s'.p with
   | none=>rw[hp] at hc;simp at hc
   | some q=>rw[hp] at hx hc;simp at hx hc;rw[hx,hc]
  refine⟨ρ.upd c rr,⟨fun x r e=>?_,fun x r e hx=>?_,m0.kp,m0.al,fun x r e=>?_⟩,fun x hx=>by rw[hone x hx];exact qO⟩
  ·rw[yp (fun e2=>hg x r e (by rw[e2];exact hcn))];exact e
  ·rw[yp (fun e2=>hx (by rw[e2];exact hcn))] at e;exact e
  ·by_cases e2:x=c
   ·rw[e2];exact hs' c hc
   ·rw[yp e2] at e;exact m0.rg x r e
 ·refine⟨ρ,m0,fun x hx=>?_⟩
  rcases hf x hx with e | e
  ·exact ho x e
  ·exact absurd ⟨x,hx,e⟩ hex
theorem zlY (h:PoolP S ρ p N used left) {Q:Int→Mem→Prop} (hQ:Q (count (fun i=>! used i) N) S):jW S (some (p,0)) Q:=by
 obtain⟨tb,fs,us,F,hck,ho,hus,hF⟩:=h.ex
 apply zdW
 unfold kB
 rw[if_neg (by simp),zV,wc hck.rd]
 have hn:fs.n=F.length:=by have:=hck.row.len;rw[Hq.fl_length] at this;omega
 rw[hn,hF.length_eq,zfn];exact hQ
theorem zhN {tb:TypeId} {fs us:Sl} {F:List Int} (hg:∀ b r,ρ b=some r→S b≠none) (hp:ρ p=some 3) (hlim:N≤512) (hck:Hq.Ck S p 0 tb [eL fs,eL us,.int .i64 left] fs F) (ho:∀ x∈Hq.own fs,ρ x=some 4) (hus:Rw S ρ 5 1 us (uL N used)) {f x n:Nat} (hf:f<N) {b:Bool} {c:Nat} (hc:us.p=some (c,0)) (hx:x=f) (hn:n=1) {K:Mem→Prop}
  (hK:∀ S',Mv S ρ S' ρ (· = 5)→Hq.Ck S' p 0 tb [eL fs,eL us,.int .i64 left] fs F→Rw S' ρ 5 1 us (uL N (upd used f b))→K S'):pt S c x n [.bool b] K:=
 hus.pt hg hc f hn (by rw[zey];simp;omega) hx fun S' m h1=>by
  rw[zqf hf] at h1
  refine hK S' m ⟨?_,hck.cell,?_,hck.ne,hck.heap,hck.len⟩ h1
  ·rw[zav m (by rw[hck.blk];simp) hp (by decide)];exact hck.blk
  ·refine hck.row.keep fun b hb=>?_
   have hx:b∈Hq.own fs:=by simp[Hq.own,hb]
   obtain⟨k,hk⟩:=Hq.own_row hck.row hx
   exact zav m (by rw[hk];simp) (ho b hx) (by decide)
theorem zgb (h:PoolP S ρ p N used left) (hg:∀ b r,ρ b=some r→S b≠none) (hl : -1≤left∧left≤4294967296) {Q:Int→Int→Mem→Prop}
  (hY:∀ f:Nat,left≠0→firstOff used N=some f→∀ S' ρ',Mv S ρ S' ρ' R345→PoolP S' ρ' p N (upd used f true) (if left-1 < -1 then -1 else left-1)→Q f 0 S')
  (hN:left=0∨firstOff used N=none→Q 0 3 S):vT S (some (p,0)) Q:=by
 obtain⟨tb,fs,us,F,hck,ho,hus,hF⟩:=h.ex
 have hn:fs.n=F.length:=by have:=hck.row.len;rw[Hq.fl_length] at this;omega
 have c0:S.cell p 0=some (eL fs):=hck.rd
 have c2:S.cell p (0+2)=some (.int .i64 left):=by rw[qo hck.blk];rfl
 have hlen:F.length=count (fun i=>! used i) N:=by rw[hF.length_eq,zfn]
 apply zdU
 unfold kz
 simp only[jn]
 rw[if_neg (by simp),zV,zB c2]
 by_cases h0:left=0
 ·rw[if_pos h0];exact hN (.inl h0)
 rw[if_neg h0,wc c0]
 by_cases h1:(fs.n:Int)=0
 ·rw[if_pos h1]
  exact hN (.inr (yt.2 (by omega)))
 rw[if_neg h1,zV,zB c2,w64 (by omega) (by omega)]
 refine zkS hck.blk (by simp) ?_
 have e0:spl [eL fs,eL us,.int .i64 left] (0+2) [.int .i64 (if left-1 < -1 then -1 else left-1)]=[eL fs,eL us,.int .i64 (if left-1 < -1 then -1 else left-1)]:=rfl
 rw[e0]
 have hpo:∀ x∈Hq.own fs,x≠p:=fun x hx e=>hck.ne x hx e.symm
 have hck1:Hq.Ck (S.set p (bw tb [eL fs,eL us,.int .i64 (if left-1 < -1 then -1 else left-1)])) p 0 tb [eL fs,eL us,.int .i64 (if left-1 < -1 then -1 else left-1)] fs F:=
  ⟨zy,rfl,hck.row.keep fun b hb=>qe (hpo b (by simp[Hq.own,hb])),hck.ne,hck.heap,hck.len⟩
 have m1:Mv S ρ (S.set p (bw tb [eL fs,eL us,.int .i64 (if left-1 < -1 then -1 else left-1)])) ρ R345:=(Mv.refl hg).put h.rol (.inl rfl) _
 have m1':Mv S ρ (S.set p (bw tb [eL fs,eL us,.int .i64 (if left-1 < -1 then -1 else left-1)])) ρ (· = 3):=(Mv.refl (R:=(· = 3)) hg).put h.rol rfl _
 refine Hq.pop_spec hck1 (fun e=>h1 (by rw[hn,e];rfl)) fun S2 s2 m F2 hp hmin _ hown hL=>?_
 obtain⟨f,rfl,hff,hF2⟩:=zkA hF hp fun x hx=>by have:=hmin x hx;simpa [Hq.bf] using this
 have hfN:=(zZ hff).1
 have e1:spl [eL fs,eL us,.int .i64 (if left-1 < -1 then -1 else left-1)] 0 [eL s2]=[eL s2,eL us,.int .i64 (if left-1 < -1 then -1 else left-1)]:=rfl
 have hck2:=hL.ck
 rw[e1] at hck2
 obtain⟨ρ2,m2,ho2⟩:=zlO (rb:=3) (rr:=4) m1.rg hL.keep h.rol (by exact ho) hL.fresh hL.al fun x hx=>by
  obtain⟨k,hk⟩:=Hq.own_row hck2.row hx;rw[hk];simp
 have m2':Mv (S.set p (bw tb [eL fs,eL us,.int .i64 (if left-1 < -1 then -1 else left-1)])) ρ S2 ρ2 R345:=m2.mono fun r hr=>by rcases hr with hr | hr <;> simp[hr,R345]
 have hus2:=(hus.keep m1' (by decide)).keep m2 (by decide)
 obtain⟨c,e2,e3⟩:=hus.sl (by rw[zey];omega)
 have hun:=hus.n (by decide) zey
 refine⟨f,rfl,?_⟩
 show gL (S2.cell p (0+1)) _
 rw[wc (n:=us) (by rw[qo hck2.blk];rfl),e2,jH]
 refine⟨by omega,by omega,?_⟩
 rw[Int.toNat_natCast]
 refine zhN (f:=f) m2.rg (m2.ext p 3 h.rol) h.lim hck2 ho2 hus2 hfN e3 (by omega) rfl fun S3 m3 hck3 hus3=>?_
 have hm3:=(m1.trans m2').trans (m3.mono (R':=R345) fun r hr=>.inr (.inr hr))
 exact hY f h0 hff S3 ρ2 hm3 ⟨⟨tb,s2,us,F2,hck3,ho2,hus3,hF2⟩,hm3.ext p 3 h.rol,h.lim⟩
theorem zhS (h:PoolP S ρ p N used left) (hg:∀ b r,ρ b=some r→S b≠none) {f:Nat} (hf:f<N) {Q:Int→Mem→Prop}
  (hY:used f=true→∀ S' ρ',Mv S ρ S' ρ' R345→PoolP S' ρ' p N (upd used f false) left→Q 0 S') (hN:used f=false→Q 8 S):vU S (some (p,0)) f Q:=by
 obtain⟨tb,fs,us,F,hck,ho,hus,hF⟩:=h.ex
 have hlim:=h.lim
 have hlen:F.length=count (fun i=>! used i) N:=by rw[hF.length_eq,zfn]
 have hcl:=fp (fun i=>! used i) N
 have c1:S.cell p (0+1)=some (eL us):=by rw[qo hck.blk];rfl
 obtain⟨c,e2,e3⟩:=hus.sl (by rw[zey];omega)
 have hun:=hus.n (by decide) zey
 apply zdX
 unfold kC
 simp only[jn]
 rw[if_neg (by simp),if_neg (by omega),zV,wc c1,if_neg (by omega),wc c1,e2,jH]
 refine⟨by omega,by omega,?_⟩
 rw[Int.toNat_natCast,fM (by rw[hus.cell e3 f (by rw[zey];omega) (by omega)];exact zqg hf)]
 cases hu:used f with
 | false=>rw[if_neg (by decide)];exact hN hu
 | true=>
  rw[if_pos rfl,zV,wc c1,e2,jH]
  refine⟨by omega,by omega,?_⟩
  refine zhN (f:=f) hg h.rol h.lim hck ho hus hf e3 (by omega) rfl fun S1 m1 hck1 hus1=>?_
  refine Hq.push_spec hck1 (by omega) fun S2 s2 F2 hp hL=>?_
  have e1:spl [eL fs,eL us,.int .i64 left] 0 [eL s2]=[eL s2,eL us,.int .i64 left]:=rfl
  have hck2:=hL.ck
  rw[e1] at hck2
  obtain⟨ρ2,m2,ho2⟩:=zlO (rb:=3) (rr:=4) m1.rg hL.keep h.rol (by exact ho) hL.fresh hL.al fun x hx=>by
   obtain⟨k,hk⟩:=Hq.own_row hck2.row hx;rw[hk];simp
  have hm:=(m1.mono (R':=R345) fun r hr=>.inr (.inr hr)).trans (m2.mono (R':=R345) fun r hr=>by rcases hr with hr | hr <;> simp[hr,R345])
  exact hY hu S2 ρ2 hm ⟨⟨tb,s2,us,F2,hck2,ho2,hus1.keep m2 (by decide),hp.trans ((hF.cons _).trans (by have:=zkB (List.Perm.refl _) hf hu;exact this))⟩,hm.ext p 3 h.rol,h.lim⟩
end
end Go.Proofs.YtabdpmnhjlmnlaaGreatDoor
namespace Go.Cr
open Go Go.Pt
theorem zfU {N:Nat}:∀ {i:Nat} {u u':Nat→Bool} {l:List Nat} {f:Nat},takeN N i u=some (l,u')→firstOff u' N=some f→takeN N (i+1) u=some (l++[f],upd u' f true)
 | 0,u,u',l,f,h,hf=>by
  simp only[takeN,Option.some.injEq,Prod.mk.injEq] at h
  obtain⟨rfl,rfl⟩:=h
  simp only[takeN,hf,List.nil_append]
 | i+1,u,u',l,f,h,hf=>by
  simp only[takeN] at h
  cases h1:firstOff u N with
  | none=>rw[h1] at h;cases h
  | some g=>
   rw[h1] at h
   dsimp only at h
   cases h2:takeN N i (upd u g true) with
   | none=>rw[h2] at h;cases h
   | some q=>
    obtain⟨l2,u2⟩:=q
    rw[h2] at h
    simp only[Option.some.injEq,Prod.mk.injEq] at h
    obtain⟨rfl,rfl⟩:=h
    have:=zfU h2 hf
    have e:takeN N (i+1+1) u=(match firstOff u N with
     | none=>none
     | some f=>match takeN N (i+1) (upd u f true) with
      | none=>none
      | some (l,u')=>some (f :: l,u')):=rfl
    rw[e]
    simp only[h1,this]
    rfl
def leftN (left:Int) (i:Nat):Int:=if left<0 then -1 else left-i
def unmark (u:Nat→Bool) (l:List Nat):Nat→Bool:=l.foldl (fun u f=>upd u f false) u
theorem zcQ:∀ {l:List Nat} {u:Nat→Bool} {x:Nat},unmark u l x=(u x && ! decide (x∈l))
 | [],u,x=>by simp[unmark]
 | f :: l,u,x=>by
  unfold unmark
  rw[List.foldl_cons]
  have:=zcQ (l:=l) (u:=upd u f false) (x:=x)
  unfold unmark at this
  rw[this]
  by_cases e:x=f
  ·subst e;rw[zi];simp
  ·rw[zk e];simp[e]
end Go.Cr
namespace Go.Proofs.YtabdpmnhjlmnlaaGreatDoor
open Go Go.Pt Go.Cr Go.Hp
section
variable {S S':Mem} {ρ ρ':Rho} {R:Nat→Prop} {p N:Nat} {used:Nat→Bool} {left:Int}
theorem zqy (l:List Nat) (f:Nat):nL l++[.int .i64 (f:Int)]=nL (l++[f]):=by simp[nL]
theorem gy (l:List Nat):(nL l).length=l.length*1:=by simp[nL]
theorem zjw {l:List Nat} {i:Nat} (h:i<l.length):nthL (nL l) i=some (.int .i64 (l[i]:Nat)):=by
 rw[zK];simp[nL,List.getElem?_eq_getElem h]
theorem zhy (h:PoolP S ρ p N used left) (hg:∀ b r,ρ b=some r→S b≠none) (hl : -1≤left∧left≤4294967296) {n:Nat} (hn:n≤1000) {r:Nat} (hr:r≠3∧r≠4∧r≠5) {Q:Sl→Int→Mem→Prop}
  (hY:∀ l u',¬(0≤left∧left<n)→takeN N n used=some (l,u')→∀ s S' ρ',Mv S ρ S' ρ' (fun x=>R345 x∨x=r)→PoolP S' ρ' p N u' (leftN left n)→Rw S' ρ' r 1 s (nL l)→Q s 0 S')
  (hN:(0≤left∧left<n)∨takeN N n used=none→∀ S' ρ' left',Mv S ρ S' ρ' (fun x=>R345 x∨x=r)→(left = -1→left' = -1)→-1≤left'→PoolP S' ρ' p N used left'→Q ⟨none,0,0⟩ 3 S'):wz S (some (p,0)) n Q:=by
 have hlim:=h.lim
 apply zdV
 unfold kA
 simp only[jn]
 rw[if_neg (by simp),if_neg (by omega)]
 refine zM (fun (z:Sl×Int) S'=>∃ (i:Nat) (l:List Nat) (u':Nat→Bool) (ρ':Rho),z.2=(i:Int)∧i≤n∧¬(0≤left∧left<i)∧takeN N i used=some (l,u')∧Mv S ρ S' ρ' (fun x=>R345 x∨x=r)∧PoolP S' ρ' p N u' (leftN left i)∧Rw S' ρ' r 1 z.1 (nL l)) (fun z=>n-z.2.toNat) ?_
  ⟨0,[],used,ρ,rfl,by omega,by omega,rfl,Mv.refl hg,by unfold leftN;split <;> (try (have:left = -1:=by omega)) <;> simp_all,Rw.nil⟩
 rintro X ⟨s,t⟩ S1 ⟨i,l,u',ρ1,rfl,hi,hli,ht,m1,hp1,hrow⟩ ih
 dsimp only at ih hrow hi ⊢
 obtain⟨hll,hnd,hfree,hu',_⟩:=wO ht
 by_cases hlt:(i:Int)<(n:Int)
 ·rw[if_pos hlt]
  have hlb : -1≤leftN left i∧leftN left i≤4294967296:=by unfold leftN;split <;> omega
  refine zgb hp1 m1.rg hlb (fun f hl0 hff S2 ρ2 m2 hp2=>?_) fun hbad=>?_
  ·rw[if_neg (by decide)]
   have m2':Mv S1 ρ1 S2 ρ2 (fun x=>R345 x∨x=r):=m2.mono fun x hx=>.inl hx
   have hrow2:=hrow.keep m2 (by unfold R345;omega)
   have hsn:=hrow2.n (by decide) (gy l)
   refine zid (R:=fun x=>R345 x∨x=r) m2' (.inr rfl) hrow2 rfl (by decide) rfl (by omega) fun s' S3 ρ3 m3 m3' h3 _=>?_
   rw[zqy] at h3
   rw[w64 (by omega) (by omega)]
   refine ih _ S3 ⟨i+1,l++[f],_,ρ3,rfl,by omega,?_,zfU ht hff,m1.trans m3,?_,h3⟩ (by dsimp only;omega)
   ·unfold leftN at hl0
    split at hl0 <;> omega
   ·have e:leftN left (i+1)=if leftN left i-1 < -1 then -1 else leftN left i-1:=by
     unfold leftN
     unfold leftN at hl0
     split at hl0 <;> split <;> split <;> omega
    rw[e]
    exact hp2.keep m3' (by omega) (by omega) (by omega)
  ·rw[if_pos (by decide)]
   have hfail:(0≤left∧left<n)∨takeN N n used=none:=by
    rcases hbad with e | e
    ·left
     unfold leftN at e
     split at e <;> omega
    ·right
     rw[gi]
     have h1:=yt.1 e
     obtain⟨_,_,_,_,h5⟩:=wO ht
     omega
   refine zM (fun (z:Int) S'=>∃ (j:Nat) (ρ':Rho),z=(j:Int)∧j≤l.length∧Mv S1 ρ1 S' ρ' R345∧PoolP S' ρ' p N (unmark u' (l.take j)) (leftN left i)) (fun z=>l.length-z.toNat) ?_ ⟨0,ρ1,rfl,by omega,Mv.refl m1.rg,hp1⟩
   rintro Y z S2 ⟨j,ρ2,rfl,hj,m2,hp2⟩ ih2
   have hrow2:=hrow.keep m2 (by unfold R345;omega)
   have hsn:=hrow.n (by decide) (gy l)
   by_cases hlt2:(j:Int)<(s.n:Int)
   ·have hjl:j<l.length:=by omega
    obtain⟨c,e1,e2⟩:=hrow2.sl (by rw[gy];omega)
    rw[if_pos hlt2]
    rw[e1,jH]
    refine⟨by omega,by omega,?_⟩
    rw[Int.toNat_natCast,zB (by rw[hrow2.cell e2 j (by rw[gy];omega) (by omega)];exact zjw hjl)]
    have htk:l.take (j+1)=l.take j++[l[j]]:=List.take_succ_eq_append_getElem hjl
    have hmem:=hfree l[j] (List.getElem_mem hjl)
    have e5:unmark u' (l.take (j+1))=upd (unmark u' (l.take j)) l[j] false:=by
     unfold unmark;rw[htk,List.foldl_append];rfl
    refine zhS hp2 m2.rg hmem.1 (fun _ S3 ρ3 m3 hp3=>?_) fun hf=>?_
    ·rw[w64 (by omega) (by omega)]
     refine ih2 _ S3 ⟨j+1,ρ3,rfl,by omega,m2.trans m3,?_⟩ (by omega)
     rw[e5];exact hp3
    ·exfalso
     rw[zcQ,hu'] at hf
     have hnt:l[j]∉l.take j:=by
      intro hm
      have h9:l=l.take j++(l[j] :: l.drop (j+1)):=by rw[List.getElem_cons_drop,List.take_append_drop]
      rw[h9] at hnd
      exact (List.nodup_append.1 hnd).2.2 _ hm _ List.mem_cons_self rfl
     simp[hnt] at hf
   ·rw[if_neg hlt2]
    have hjl:j=l.length:=by omega
    have eu:unmark u' (l.take j)=used:=by
     funext x
     rw[zcQ,hu',hjl,List.take_length]
     by_cases hx:x∈l
     ·simp[hx,(hfree x hx).2]
     ·simp[hx]
    rw[eu] at hp2
    exact hN hfail S2 ρ2 _ (m1.trans (m2.mono fun x hx=>.inl hx)) (fun e=>by unfold leftN;rw[if_pos (by omega)]) (by unfold leftN;split <;> omega) hp2
 ·rw[if_neg hlt]
  have:i=n:=by omega
  subst this
  exact hY l u' hli ht s S1 ρ1 m1 hp1 hrow
end
end Go.Proofs.YtabdpmnhjlmnlaaGreatDoor
end
namespace Go.Proofs.YtabdpmnhjlmnlaaGreatDoor
section
open Go Go.Pt Go.Proofs.Tryz
attribute [local irreducible] lt WD WN Code.wp Back bodyPost wpList FR WL WC WQ WA AW Tr Yc HC AllC
set_option maxRecDepth 20000
set_option maxHeartbeats 4000000
def vc (S:Mem) (b:Pt) (kind:Int) (n:Int) (Q:Int→Mem→Prop):Prop:=
 jn (fun (Sx:Mem)=>
 jn (fun (k:Int) (Sx_1:Mem)=>
 Q k Sx_1) fun Jx=>
 nn b fun b_1 o=>
 gL (Sx.cell b_1 o) fun t=>
 lp (fun Xx (z:Int×Int) (Sx_2:Mem)=>
 match z with
 | (k_1,t_1)=>
 if t_1<(t.n:Int) then
 jn (fun (k_2:Int) (Sx_3:Mem)=>
 Xx (k_2,IntKind.i64.wrap (t_1+1)) Sx_3) fun Jx_1=>
 sl t fun b_2 o_1 n_1 n_2=>
 0≤t_1∧t_1<((n_1:Nat):Int) ∧
 gA (Sx_2.part b_2 (o_1+t_1.toNat*4) 4) fun t_2=>
 t_2.all (·.oneCell')=true ∧
 gI (nthL t_2 0) .u8 fun t_3=>
 if t_3=kind then
 if kind<2 then
 Jx_1 (IntKind.i64.wrap (k_1+1)) Sx_2
 else
 gI (nthL t_2 1) .i64 fun t_4=>
 if t_4=n then
 Jx_1 (IntKind.i64.wrap (k_1+1)) Sx_2
 else
 Jx_1 k_1 Sx_2
 else
 Jx_1 k_1 Sx_2
 else
 Jx k_1 Sx_2) (0,0) Sx) fun Jx_2=>
 if b=none then
 Q 0 S
 else
 Jx_2 S
theorem zch {S:Mem} {b:Pt} {kind:Int} {n:Int} {Q:Int→Mem→Prop} (H:vc S b kind n Q):ki S b kind n Q:=by
 unfold vc at H
 have:=dj0 (α:=Int×Unit) 11 [] (fun z=>[(7,.int .i64 z.1)])
 have:=dj0 (α:=Int×Int) 6 [1,2,15,16] (fun z=>[(7,.int .i64 z.1),(17,.int .i64 z.2)])
 have:=dj0 (α:=Int×Unit) 10 [1,2,15,16,17] (fun z=>[(7,.int .i64 z.1)])
 have:=dj1 5 [0,1,2,7]
 exact Tr.intro func93 E ntmps93 E fun w0=>go results93 H
def wI (S:Mem) (b:Pt) (frame:Int) (n:Int) (page:Int) (Q:Int→Mem→Prop):Prop:=
 wA S b frame fun t t_1 Sx=>
 jn (fun (Sx_1:Mem)=>
 nn t fun b_1 o=>
 pt Sx_1 b_1 o 4 ([.int .u8 3,.int .i64 n,.int .i64 page,.int .i64 0]) fun Sx_2=>
 Q 0 Sx_2) fun Jx=>
 if t_1≠0 then
 Q t_1 Sx
 else
 zgN Sx n page fun t_2 Sx_3=>
 if t_2=true then
 nn t fun b_2 o_1=>
 gI (Sx_3.cell b_2 o_1) .u8 fun t_3=>
 if t_3≠0 then
 Q 8 Sx_3
 else
 Jx Sx_3
 else
 Q 1 Sx_3
theorem zbx {S:Mem} {b:Pt} {frame:Int} {n:Int} {page:Int} {Q:Int→Mem→Prop} (H:wI S b frame n page Q):vA S b frame n page Q:=by
 unfold wI at H
 have:=dj1 9 [2,3,9]
 exact Tr.intro func141 E ntmps141 E fun w0=>go results141 H
def vK (S:Mem) (b:Pt) (frame:Int) (n:Int) (Q:Int→Mem→Prop):Prop:=
 wA S b frame fun t t_1 Sx=>
 jn (fun (Sx_1:Mem)=>
 nn t fun b_1 o=>
 pt Sx_1 b_1 o 4 ([.int .u8 1,.int .i64 0,.int .i64 0,.int .i64 0]) fun Sx_2=>
 if 0≤n then
 pt Sx_2 b_1 o 4 ([.int .u8 2,.int .i64 n,.int .i64 0,.int .i64 0]) fun Sx_3=>
 Q 0 Sx_3
 else
 Q 0 Sx_2) fun Jx=>
 if t_1≠0 then
 Q t_1 Sx
 else
 if 6≤n then
 Q 1 Sx
 else
 nn t fun b_2 o_1=>
 gI (Sx.cell b_2 o_1) .u8 fun t_2=>
 if t_2≠0 then
 Q 8 Sx
 else
 Jx Sx
theorem zcT {S:Mem} {b:Pt} {frame:Int} {n:Int} {Q:Int→Mem→Prop} (H:vK S b frame n Q):yr S b frame n Q:=by
 unfold vK at H
 have:=dj1 9 [2,7]
 exact Tr.intro func72 E ntmps72 E fun w0=>go results72 H
def wv (S:Mem) (b:Pt) (frame:Int) (n:Int) (Q:Int→Mem→Prop):Prop:=
 xE S b frame n fun t t_1 Sx=>
 jn (fun (Sx_1:Mem)=>
 nn t fun b_1 o=>
 pt Sx_1 b_1 o 4 ([.int .u8 0,.int .i64 0,.int .i64 0,.int .i64 0]) fun Sx_2=>
 Q 0 Sx_2) fun Jx=>
 if t_1≠0 then
 Q t_1 Sx
 else
 nn t fun b_2 o_1=>
 gI (Sx.cell b_2 (o_1+3)) .i64 fun t_2=>
 if 0<t_2 then
 Q 8 Sx
 else
 Jx Sx
theorem zbf {S:Mem} {b:Pt} {frame:Int} {n:Int} {Q:Int→Mem→Prop} (H:wv S b frame n Q):wR S b frame n Q:=by
 unfold wv at H
 have:=dj1 7 [7]
 exact Tr.intro func87 E ntmps87 E fun w0=>go results87 H
def vb (S:Mem) (b:Pt) (frame:Int) (n:Int) (Q:Int→Mem→Prop):Prop:=
 xE S b frame n fun t t_1 Sx=>
 if t_1=0 then
 nn t fun b_1 o=>
 gI (Sx.cell b_1 (o+3)) .i64 fun t_2=>
 pt Sx b_1 (o+3) 1 ([.int .i64 (IntKind.i64.wrap (t_2+1))]) fun Sx_1=>
 Q t_1 Sx_1
 else
 Q t_1 Sx
theorem zcg {S:Mem} {b:Pt} {frame:Int} {n:Int} {Q:Int→Mem→Prop} (H:vb S b frame n Q):kg S b frame n Q:=by
 unfold vb at H
 exact Tr.intro func232 E ntmps232 E fun w0=>go results232 H
def wu (S:Mem) (b:Pt) (frame:Int) (n:Int) (Q:Int→Mem→Prop):Prop:=
 xE S b frame n fun t t_1 Sx=>
 jn (fun (Sx_1:Mem)=>
 nn t fun b_1 o=>
 gI (Sx_1.cell b_1 (o+3)) .i64 fun t_2=>
 pt Sx_1 b_1 (o+3) 1 ([.int .i64 (IntKind.i64.wrap (t_2-1))]) fun Sx_2=>
 Q 0 Sx_2) fun Jx=>
 if t_1≠0 then
 Q t_1 Sx
 else
 nn t fun b_2 o_1=>
 gI (Sx.cell b_2 (o_1+3)) .i64 fun t_3=>
 if t_3=0 then
 Q 8 Sx
 else
 Jx Sx
theorem zbe {S:Mem} {b:Pt} {frame:Int} {n:Int} {Q:Int→Mem→Prop} (H:wu S b frame n Q):xx S b frame n Q:=by
 unfold wu at H
 have:=dj1 7 [7]
 exact Tr.intro func147 E ntmps147 E fun w0=>go results147 H
def vJ (S:Mem) (b:Pt) (frame:Int) (n:Int) (Q:Pt→Int→Mem→Prop):Prop:=
 wA S b frame fun t t_1 Sx=>
 jn (fun (Sx_1:Mem)=>
 Q t 0 Sx_1) fun Jx=>
 if t_1≠0 then
 Q none t_1 Sx
 else
 nn t fun b_1 o=>
 gI (Sx.cell b_1 o) .u8 fun t_2=>
 if t_2≠3 then
 Q none 7 Sx
 else
 gI (Sx.cell b_1 (o+1)) .i64 fun t_3=>
 if t_3≠n then
 Q none 7 Sx
 else
 Jx Sx
theorem zcS {S:Mem} {b:Pt} {frame:Int} {n:Int} {Q:Pt→Int→Mem→Prop} (H:vJ S b frame n Q):xE S b frame n Q:=by
 unfold vJ at H
 exact Tr.intro func149 E ntmps149 E fun w0=>csr<|gv E E<|gv E E<|nxr<|mv E E<|mv E E<|zhi E E H fun t t_1 Sx H1=>mv E E<|s_p E (zj E E)<|s_p E (zj E E)<|gv E E<|gv E E<|nx<|zp H1 (fun (J:Mem→Prop) (z:Unit) S=>J S) (fun z=>⟨35,[(8,eP t)]⟩) (fun z=>[]) (fun _ Sx_1 H2=>csr<|mv E E<|gv E E<|gv E E<|nx<|zo<|zn results149 (zd E (zd E zg)) ⟨_,_,E,H2⟩) (fun Jx hJx H3=>zE<|csr<|mv E E<|iteK H3 (fun c H4=>s_p E (yT (qw E E) c)<|gv E E<|nx<|c_t E E<|csr<|mv E E<|gv E E<|gv E E<|nx<|zo<|zh<|zb<|zn results149 (zd E (zd E zg)) ⟨_,_,E,H4⟩) fun c H4=>s_p E (yF (qw E E) c)<|gv E E<|nx<|c_f E E<|csr<|mv E E<|by obtain⟨b_1,o,rfl,H5⟩:=H4;exact s_p E (qt E)<|s_p E (zv E E)<|gx H5 fun t_2 ht_2 H6=>s_v E (zF E) (qh ht_2)<|iteK H6 (fun c_1 H7=>s_p E (yT (qw E E) c_1)<|mv E E<|sk4 E E E E<|sk2 E E<|pk E E E<|gv E E<|nx<|c_t E E<|csr<|gv E E<|gv E E<|nx<|zo<|zh<|zb<|zn results149 (zd E (zd E zg)) ⟨_,_,E,H7⟩) fun c_1 H7=>s_p E (yF (qw E E) c_1)<|mv E E<|mv E E<|s_p E (qt E)<|s_p E (zv E E)<|gx H7 fun t_3 ht_3 H8=>s_v E (zF E) (qh ht_3)<|mv E E<|iteK H8 (fun c_2 H9=>s_p E (yT (qw E E) c_2)<|pk E E E<|gv E E<|nx<|c_t E E<|csr<|gv E E<|gv E E<|nx<|zo<|zh<|zb<|zn results149 (zd E (zd E zg)) ⟨_,_,E,H9⟩) fun c_2 H9=>s_p E (yF (qw E E) c_2)<|pk E E E<|gv E E<|nx<|cfs E E<|zX<|hJx () _ _ _ _ [] H9 E ⟨E,True.intro⟩ E)
def kD (S:Mem) (b:Pt) (frame:Int) (Q:Pt→Int→Mem→Prop):Prop:=
 jn (fun (Sx:Mem)=>
 nn b fun b_1 o=>
 gL (Sx.cell b_1 o) fun t=>
 sl t fun b_2 o_1 n n_1=>
 0≤frame∧frame<((n:Nat):Int) ∧
 Q (some (b_2,o_1+frame.toNat*4)) 0 Sx) fun Jx=>
 if b=none then
 Q none 1 S
 else
 if frame<0 then
 Q none 1 S
 else
 nn b fun b_3 o_2=>
 gL (S.cell b_3 o_2) fun t_1=>
 if (t_1.n:Int)≤frame then
 Q none 1 S
 else
 Jx S
theorem zdY {S:Mem} {b:Pt} {frame:Int} {Q:Pt→Int→Mem→Prop} (H:kD S b frame Q):wA S b frame Q:=by
 unfold kD at H
 exact Tr.intro func82 E ntmps82 E fun w0=>csr<|gv E E<|gv E E<|nx<|zp H (fun (J:Mem→Prop) (z:Unit) S=>J S) (fun z=>⟨27,[(0,eP b),(1,.int .i64 frame)]⟩) (fun z=>[]) (fun _ Sx H1=>csr<|mv E E<|by obtain⟨b_1,o,rfl,H2⟩:=H1;exact s_p E (qt E)<|s_p E (zv E E)<|gx H2 fun t ht H3=>s_v E (zF E) (qh ht)<|mv E E<|by obtain⟨b_2,o_1,n,n_1,rfl,H4⟩:=H3;exact an2 H4 fun c c_1 H5=>s_p E (vx E E c c_1 E)<|gv E E<|gv E E<|nx<|zo<|zn results82 (zd E (zd E zg)) ⟨_,_,E,H5⟩) (fun Jx hJx H6=>csr<|mv E E<|iteK H6 (fun c_2 H7=>s_p E (yT (wb (p:=b) E E) c_2)<|mv E E<|sk2 E E<|pk E E E<|mv E E<|sk4 E E E E<|sk2 E E<|zG E<|pk E E E<|nx<|c_t E E<|csr<|gv E E<|gv E E<|nx<|zo<|zb<|zn results82 (zd E (zd E zg)) ⟨_,_,E,H7⟩) fun c_2 H7=>s_p E (yF (wb (p:=b) E E) c_2)<|mv E E<|mv E E<|iteK H7 (fun c_3 H8=>s_p E (yT (zQ E E) c_3)<|pk E E E<|mv E E<|sk4 E E E E<|sk2 E E<|zG E<|pk E E E<|nx<|c_t E E<|csr<|gv E E<|gv E E<|nx<|zo<|zb<|zn results82 (zd E (zd E zg)) ⟨_,_,E,H8⟩) fun c_3 H8=>s_p E (yF (zQ E E) c_3)<|pk E E E<|mv E E<|mv E E<|mv E E<|by obtain⟨b_3,o_2,rfl,H9⟩:=H8;exact s_p E (qt E)<|s_p E (zv E E)<|gx H9 fun t_1 ht_1 H10=>s_v E (zF E) (qh ht_1)<|s_p E (vX E)<|iteK H10 (fun c_4 H11=>s_p E (yT (wP E E) c_4)<|pk E E E<|nx<|c_t E E<|csr<|gv E E<|gv E E<|nx<|zo<|zb<|zn results82 (zd E (zd E zg)) ⟨_,_,E,H11⟩) fun c_4 H11=>s_p E (yF (wP E E) c_4)<|pk E E E<|nx<|cfs E E<|hJx () _ _ _ _ [] H11 E ⟨E,E,True.intro⟩ E)
def zbT (S:Mem) (frames:Int) (Q:Pt→Mem→Prop):Prop:=
 0≤(if 512<(if frames<0 then 0 else frames) then 512 else (if frames<0 then 0 else frames))∧(if 512<(if frames<0 then 0 else frames) then 512 else (if frames<0 then 0 else frames))≤(if 512<(if frames<0 then 0 else frames) then 512 else (if frames<0 then 0 else frames))∧(32:Int)*(if 512<(if frames<0 then 0 else frames) then 512 else (if frames<0 then 0 else frames))≤281474976710656∧(if 512<(if frames<0 then 0 else frames) then 512 else (if frames<0 then 0 else frames))≤9223372036854775807 ∧
 al S 91 (zrep (Int.toNat (if 512<(if frames<0 then 0 else frames) then 512 else (if frames<0 then 0 else frames))) [.int .u8 0,.int .i64 0,.int .i64 0,.int .i64 0]) fun b Sx=>
 al Sx 199 ([.slice (some ⟨b,0,none⟩) (Int.toNat (if 512<(if frames<0 then 0 else frames) then 512 else (if frames<0 then 0 else frames))) (Int.toNat (if 512<(if frames<0 then 0 else frames) then 512 else (if frames<0 then 0 else frames)))]) fun b_1 Sx_1=>
 Q (some (b_1,0)) Sx_1
theorem zio {S:Mem} {frames:Int} {Q:Pt→Mem→Prop} (H:zbT S frames Q):zfe S frames Q:=by
 unfold zbT at H
 exact Tr.intro func138 E ntmps138 E fun w0=>go results138 H
def zdB (S:Mem) (n:Int) (page:Int) (Q:Bool→Mem→Prop):Prop:=
 if 0≤n then
 if n<6 then
 if 0≤page then
 Q (decide (page<32)) S
 else
 Q false S
 else
 Q false S
 else
 Q false S
theorem zjU {S:Mem} {n:Int} {page:Int} {Q:Bool→Mem→Prop} (H:zdB S n page Q):zgN S n page Q:=by
 unfold zdB at H
 exact Tr.intro func202 E ntmps202 E fun w0=>go results202 H
end
end Go.Proofs.YtabdpmnhjlmnlaaGreatDoor
