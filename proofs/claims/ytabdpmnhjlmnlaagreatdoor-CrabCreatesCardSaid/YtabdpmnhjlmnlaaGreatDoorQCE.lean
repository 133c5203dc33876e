/- Texts of this work,joined by program (pack.py): PsK,PsI,PsJ. -/
import Derived.Test.YtabdpmnhjlmnlaaGreatDoorQCC
set_option linter.unusedVariables false
section
namespace Go.Proofs.YtabdpmnhjlmnlaaGreatDoor
open Go Go.Pt
attribute [local irreducible] Code.wp Back bodyPost wpList FR WL WC WQ WA AW Tr Yc HC AllC
set_option maxRecDepth 20000
set_option maxHeartbeats 4000000
set_option linter.unusedVariables false
def wD (S:Mem) (h:Pt) (vm:Int) (Q:Sl→Mem→Prop):Prop:=
 jn (fun (Sx:Mem)=>
 nn h fun b o=>
 0≤vm∧vm<6 ∧
 gL (Sx.cell b (o+5+vm.toNat*1)) fun t=>
 sp Sx t 4 fun vs=>
 ap Sx 45 4 32 [.int .u8 0,.int .i64 0,.int .u64 0,.int .u64 0] (⟨none,0,0⟩) t.n vs fun t_1 Sx_1=>
 Q t_1 Sx_1) fun Jx=>
 if h=none then
 Q (⟨none,0,0⟩) S
 else
 if vm<0 then
 Q (⟨none,0,0⟩) S
 else
 if 6≤vm then
 Q (⟨none,0,0⟩) S
 else
 Jx S
theorem zbl {S:Mem} {h:Pt} {vm:Int} {Q:Sl→Mem→Prop} (H:wD S h vm Q):yH S h vm Q:=by
 unfold wD at H
 exact Tr.intro Tryz.func32 E Tryz.ntmps32 E fun w0=>csr<|gv E E<|nx<|zn H (fun (J:Mem→Prop) (z:Unit) S=>J S) (fun z=>⟨22,[(0,eP h),(1,.int .i64 vm)]⟩) (fun z=>[]) (fun _ Sx H1=>csr<|mv E E<|mv E E<|by obtain⟨b,o,rfl,H2⟩:=H1;exact s_p E (zJ E)<|s_p E (zv E E)<|an2 H2 fun c c_1 H3=>s_p E (qv E E c c_1 E)<|gx H3 fun t ht H4=>s_v E (zz E) (zH ht)<|by obtain⟨vs,h_1,c_2,H5⟩:=H4;exact vY (sx:=⟨none,0,0⟩) (vs:=vs) E E E ((zaH h_1).1) ((zaH (P:=Tryz.prog) (w0:=w0) (S0:=S) (V:=[]) h_1).2) c_2 (by decide) H5 fun t_1 Sx_1 H6=>gv E E<|nx<|zi<|zh Tryz.results32 (zd E ze) ⟨_,E,H6⟩) (fun Jx hJx H7=>csr<|mv E E<|iteK H7 (fun c_3 H8=>s_p E (yT (qE (p:=h) E E) c_3)<|mv E E<|sk2 E E<|pk E E E<|mv E E<|sk2 E E<|pk E E E<|nx<|c_t E E<|csr<|gv E E<|nx<|zi<|zb<|zh Tryz.results32 (zd E ze) ⟨_,E,H8⟩) fun c_3 H8=>s_p E (yF (qE (p:=h) E E) c_3)<|mv E E<|mv E E<|iteK H8 (fun c_4 H9=>s_p E (yT (zD E E) c_4)<|pk E E E<|mv E E<|sk2 E E<|pk E E E<|nx<|c_t E E<|csr<|gv E E<|nx<|zi<|zb<|zh Tryz.results32 (zd E ze) ⟨_,E,H9⟩) fun c_4 H9=>s_p E (yF (zD E E) c_4)<|pk E E E<|mv E E<|mv E E<|iteK H9 (fun c_5 H10=>s_p E (yT (qj E E) c_5)<|pk E E E<|nx<|c_t E E<|csr<|gv E E<|nx<|zi<|zb<|zh Tryz.results32 (zd E ze) ⟨_,E,H10⟩) fun c_5 H10=>s_p E (yF (qj E E) c_5)<|pk E E E<|nx<|cfs E E<|hJx () _ _ _ _ [] H10 E ⟨E,E,True.intro⟩ E)
def xp (S:Mem) (h:Pt) (vm:Int) (Q:Int→Mem→Prop):Prop:=
 jn (fun (Sx:Mem)=>
 nn h fun b o=>
 gP (Sx.cell b (o+3)) fun t=>
 nn t fun b_1 o_1=>
 gP (Sx.cell b_1 (o_1+74)) fun t_1=>
 vt Sx t_1 3 vm fun t_2 Sx_1=>
 Q t_2 Sx_1) fun Jx=>
 if h=none then
 Q 0 S
 else
 nn h fun b_2 o_2=>
 gP (S.cell b_2 (o_2+3)) fun t_3=>
 qy S t_3 vm fun t_4 Sx_2=>
 if t_4=true then
 Jx Sx_2
 else
 Q 0 Sx_2
theorem jE {S:Mem} {h:Pt} {vm:Int} {Q:Int→Mem→Prop} (H:xp S h vm Q):xd S h vm Q:=by
 unfold xp at H
 exact Tr.intro Tryz.func40 E Tryz.ntmps40 E fun w0=>csr<|gv E E<|nx<|zn H (fun (J:Mem→Prop) (z:Unit) S=>J S) (fun z=>⟨25,[(0,eP h),(1,.int .i64 vm)]⟩) (fun z=>[]) (fun _ Sx H1=>csr<|mv E E<|by obtain⟨b,o,rfl,H2⟩:=H1;exact s_p E (zJ E)<|s_p E (zv E E)<|gx H2 fun t ht H3=>s_v E (zz E) (zH ht)<|by obtain⟨b_1,o_1,rfl,H4⟩:=H3;exact s_p E (zJ E)<|s_p E (zv E E)<|gx H4 fun t_1 ht_1 H5=>s_v E (zz E) (zH ht_1)<|mv E E<|qC E E H5 fun t_2 Sx_1 H6=>gv E E<|nx<|zi<|zh Tryz.results40 (zd E ze) ⟨_,E,H6⟩) (fun Jx hJx H7=>csr<|mv E E<|iteK H7 (fun c H8=>s_p E (yT (qE (p:=h) E E) c)<|mv E E<|sk4 E E E E<|sk2 E E<|zP E<|pk E E E<|nx<|c_t E E<|csr<|gv E E<|nx<|zi<|zb<|zh Tryz.results40 (zd E ze) ⟨_,E,H8⟩) fun c H8=>s_p E (yF (qE (p:=h) E E) c)<|mv E E<|mv E E<|by obtain⟨b_2,o_2,rfl,H9⟩:=H8;exact s_p E (zJ E)<|s_p E (zv E E)<|gx H9 fun t_3 ht_3 H10=>s_v E (zz E) (zH ht_3)<|mv E E<|qC E E H10 fun t_4 Sx_2 H11=>by have H12:=wM H11;rcases H12 with ⟨rfl,H13⟩ | ⟨rfl,H13⟩;exact (s_p E (yB (ql E) E)<|pk E E E<|nx<|cfs E E<|hJx () _ _ _ _ [] H13 E ⟨E,E,True.intro⟩ E);exact (s_p E (yB (ql E) E)<|pk E E E<|nx<|c_t E E<|csr<|gv E E<|nx<|zi<|zb<|zh Tryz.results40 (zd E ze) ⟨_,E,H13⟩))
def vL (S:Mem) (h:Pt) (vm:Int) (page:Int) (Q:Int→Int→Mem→Prop):Prop:=
 nn h fun b o=>
 gP (S.cell b (o+3)) fun t=>
 nn t fun b_1 o_1=>
 0≤vm∧vm<6 ∧
 gA (S.part b_1 (o_1+2+vm.toNat*12+2) 2) fun t_1=>
 gP (S.cell b o) fun t_2=>
 qw S t_1 t_2 page fun t_3 t_4 Sx=>
 Sx.cell b (o+3)=some (.pointer (some ⟨b_1,o_1,none⟩)) ∧
 t_3.all (·.oneCell')=true ∧
 if t_4≠0 then
 Q 0 11 Sx
 else
 gP (Sx.cell b (o+3)) fun t_5=>
 nn t_5 fun b_3 o_2=>
 gA (Sx.part b_3 (o_2+75) 96) fun t_6=>
 jV Sx t_6 vm page fun t_7 Sx_1=>
 if 0≤t_7 then
 Q 0 7 Sx_1
 else
 gI (nthL t_3 1) .i64 fun t_8=>
 Q t_8 0 Sx_1
theorem zcY {S:Mem} {h:Pt} {vm:Int} {page:Int} {Q:Int→Int→Mem→Prop} (H:vL S h vm page Q):vk S h vm page Q:=by
 unfold vL at H
 exact Tr.intro Tryz.func231 E Tryz.ntmps231 E fun w0=>csr<|gv E E<|gv E E<|nx<|zC<|zM (by kernel_rfl)<|aTP 0 E (by decide +kernel) E (zm E)<|by exact by obtain⟨b,o,rfl,H1⟩:=H;exact aTP 1 E (by decide +kernel) E (zJ E)<|by exact aTP 2 E (by decide +kernel) E (zv E E)<|by exact gx H1 fun t ht H2=>aT 3 E (by decide +kernel) E (zz E) (zH ht)<|by exact aTP 4 E (by decide +kernel) E (zm E)<|by exact by obtain⟨b_1,o_1,rfl,H3⟩:=H2;exact aTP 5 E (by decide +kernel) E (zJ E)<|by exact aTP 6 E (by decide +kernel) E (zv E E)<|by exact an2 H3 fun c c_1 H4=>aTP 7 E (by decide +kernel) E (qv E E c c_1 E)<|by exact aTP 8 E (by decide +kernel) E (zv E E)<|by exact gx H4 fun t_1 ht_1 H5=>by refine aT 9 E (by decide +kernel) E (zT E (zG ht_1)) (yi ht_1) ?_;exact aTP 10 E (by decide +kernel) E (zm E)<|by exact aTP 11 E (by decide +kernel) E (zJ E)<|by exact aTP 12 E (by decide +kernel) E (zv E E)<|by exact gx H5 fun t_2 ht_2 H6=>aT 13 E (by decide +kernel) E (zz E) (zH ht_2)<|by exact aTP 14 E (by decide +kernel) E (zm E)<|by exact gp 15 19 (by decide +kernel) E E (qr E E H6 fun rv Sx H7=>by obtain⟨t_3,t_4,rfl,ht_3,H8⟩:=H7;exact by obtain⟨k,H9⟩:=H8;exact zr<|zN (zx (zH k) zy)<|aTP 16 E (by decide +kernel) E (zm E)<|by exact aTP 17 E (by decide +kernel) E (zg E E)<|by exact aTP 18 E (by decide +kernel) E (zg E E)<|by exact zB 19 (by decide +kernel) E<|by exact by refine zL E fun b_2=>?_;exact zr<|zN (zx (zH k) zy)<|zB 20 (by decide +kernel) E<|by exact an H9 fun c_2 H10=>zp 0 E E E E E ht_3 E c_2<|zr<|zN zy<|aTP 21 E (by decide +kernel) E (zS E)<|by exact zK (by decide +kernel)<|by exact zt<|zC<|zw<|csr<|mv E E<|iteK H10 (fun c_3 H11=>s_p E (yT (zQ E E) c_3)<|gv E E<|nx<|c_t E E<|csr<|gv E E<|gv E E<|nx<|zi<|zj<|zb<|zh Tryz.results231 (zd E (zd E ze)) ⟨_,_,E,H11⟩) fun c_3 H11=>s_p E (yF (zQ E E) c_3)<|gv E E<|nx<|c_f E E<|csr<|mv E E<|s_p E (zJ E)<|s_p E (zv E E)<|gx H11 fun t_5 ht_5 H12=>s_v E (zz E) (zH ht_5)<|by obtain⟨b_3,o_2,rfl,H13⟩:=H12;exact s_p E (zJ E)<|s_p E (zv E E)<|gx H13 fun t_6 ht_6 H14=>by refine s_v E (zT E (zG ht_6)) (yi ht_6) ?_;exact mv E E<|mv E E<|qC E E H14 fun t_7 Sx_1 H15=>iteK H15 (fun c_4 H16=>s_p E (yT (qj E E) c_4)<|gv E E<|nx<|c_t E E<|csr<|gv E E<|gv E E<|nx<|zi<|zj<|zb<|zh Tryz.results231 (zd E (zd E ze)) ⟨_,_,E,H16⟩) fun c_4 H16=>s_p E (yF (qj E E) c_4)<|gv E E<|nx<|cfs E E<|zU<|zt<|csr<|s_p E (zv E E)<|gx H16 fun t_8 ht_8 H17=>s_v E (zz E) (zW 0 E ht_8)<|gv E E<|gv E E<|nx<|zi<|zh Tryz.results231 (zd E (zd E ze)) ⟨_,_,E,H17⟩) (by refine zL E fun b_2=>?_;exact zr<|zN (zx (zH ht_2) (zx (yi ht_1) (zx (zH ht) zy)))<|zB 15 (by decide +kernel) E<|by exact qr E E H6 fun rv Sx H18=>by obtain⟨t_3,t_4,rfl,ht_3,H19⟩:=H18;exact by obtain⟨k,H20⟩:=H19;exact zr<|zN (zx (zH k) zy)<|aTP 16 E (by decide +kernel) E (zm E)<|by exact aTP 17 E (by decide +kernel) E (zg E E)<|by exact aTP 18 E (by decide +kernel) E (zg E E)<|by exact zB 20 (by decide +kernel) E<|by exact an H20 fun c_2 H21=>zp 0 E E E E E ht_3 E c_2<|zr<|zN zy<|aTP 21 E (by decide +kernel) E (zS E)<|by exact zK (by decide +kernel)<|by exact zt<|zC<|zw<|csr<|mv E E<|iteK H21 (fun c_3 H22=>s_p E (yT (zQ E E) c_3)<|gv E E<|nx<|c_t E E<|csr<|gv E E<|gv E E<|nx<|zi<|zj<|zb<|zh Tryz.results231 (zd E (zd E ze)) ⟨_,_,E,H22⟩) fun c_3 H22=>s_p E (yF (zQ E E) c_3)<|gv E E<|nx<|c_f E E<|csr<|mv E E<|s_p E (zJ E)<|s_p E (zv E E)<|gx H22 fun t_5 ht_5 H23=>s_v E (zz E) (zH ht_5)<|by obtain⟨b_3,o_2,rfl,H24⟩:=H23;exact s_p E (zJ E)<|s_p E (zv E E)<|gx H24 fun t_6 ht_6 H25=>by refine s_v E (zT E (zG ht_6)) (yi ht_6) ?_;exact mv E E<|mv E E<|qC E E H25 fun t_7 Sx_1 H26=>iteK H26 (fun c_4 H27=>s_p E (yT (qj E E) c_4)<|gv E E<|nx<|c_t E E<|csr<|gv E E<|gv E E<|nx<|zi<|zj<|zb<|zh Tryz.results231 (zd E (zd E ze)) ⟨_,_,E,H27⟩) fun c_4 H27=>s_p E (yF (qj E E) c_4)<|gv E E<|nx<|cfs E E<|zU<|zt<|csr<|s_p E (zv E E)<|gx H27 fun t_8 ht_8 H28=>s_v E (zz E) (zW 0 E ht_8)<|gv E E<|gv E E<|nx<|zi<|zh Tryz.results231 (zd E (zd E ze)) ⟨_,_,E,H28⟩)
def b_crab_Crab_own (S:Mem) (h:Pt) (vm:Int) (page:Int) (frame:Int) (Q:Mem→Prop):Prop:=
 nn h fun b o=>
 gP (S.cell b o) fun t=>
 yo S t frame fun t_1 Sx=>
 gP (Sx.cell b (o+3)) fun t_2=>
 nn t_2 fun b_1 o_1=>
 gP (Sx.cell b_1 (o_1+74)) fun t_3=>
 wP Sx t_3 frame vm page fun t_4 Sx_1=>
 wl Sx_1 (some (b,o)) vm page frame true fun Sx_2=>
 Q Sx_2
theorem t_crab_Crab_own {S:Mem} {h:Pt} {vm:Int} {page:Int} {frame:Int} {Q:Mem→Prop} (H:b_crab_Crab_own S h vm page frame Q):crab_Crab_own S h vm page frame Q:=by
 unfold b_crab_Crab_own at H
 exact Tr.intro Tryz.func75 E Tryz.ntmps75 E fun w0=>csr<|mv E E<|by obtain⟨b,o,rfl,H1⟩:=H;exact s_p E (zJ E)<|s_p E (zv E E)<|gx H1 fun t ht H2=>s_v E (zz E) (zH ht)<|mv E E<|qC E E H2 fun t_1 Sx H3=>nxr<|mv E E<|s_p E (zJ E)<|s_p E (zv E E)<|gx H3 fun t_2 ht_2 H4=>s_v E (zz E) (zH ht_2)<|by obtain⟨b_1,o_1,rfl,H5⟩:=H4;exact s_p E (zJ E)<|s_p E (zv E E)<|gx H5 fun t_3 ht_3 H6=>s_v E (zz E) (zH ht_3)<|mv E E<|mv E E<|mv E E<|qC E E H6 fun t_4 Sx_1 H7=>nx<|zu<|mv E E<|mv E E<|mv E E<|mv E E<|fK E E H7 fun Sx_2 H8=>zr<|wb Tryz.results75 (ze) ⟨E,H8⟩
def kQ (S:Mem) (h:Pt) (vm:Int) (page:Int) (frame:Int) (write:Bool) (Q:Mem→Prop):Prop:=
 nn h fun b o=>
 gP (S.cell b (o+3)) fun t=>
 nn t fun b_1 o_1=>
 0≤vm∧vm<6 ∧
 gA (S.part b_1 (o_1+2+vm.toNat*12+2) 2) fun t_1=>
 gP (S.cell b o) fun t_2=>
 kq S t_1 t_2 page frame write fun t_3 Sx=>
 Sx.cell b (o+3)=some (.pointer (some ⟨b_1,o_1,none⟩)) ∧
 yJ Sx (some (b,o+2)) vm page fun Sx_1=>
 Q Sx_1
theorem zdz {S:Mem} {h:Pt} {vm:Int} {page:Int} {frame:Int} {write:Bool} {Q:Mem→Prop} (H:kQ S h vm page frame write Q):wl S h vm page frame write Q:=by
 unfold kQ at H
 exact Tr.intro Tryz.func142 E Tryz.ntmps142 E fun w0=>zC<|zM (by kernel_rfl)<|aTP 0 E (by decide +kernel) E (zm E)<|by exact by obtain⟨b,o,rfl,H1⟩:=H;exact aTP 1 E (by decide +kernel) E (zJ E)<|by exact aTP 2 E (by decide +kernel) E (zv E E)<|by exact gx H1 fun t ht H2=>aT 3 E (by decide +kernel) E (zz E) (zH ht)<|by exact aTP 4 E (by decide +kernel) E (zm E)<|by exact by obtain⟨b_1,o_1,rfl,H3⟩:=H2;exact aTP 5 E (by decide +kernel) E (zJ E)<|by exact aTP 6 E (by decide +kernel) E (zv E E)<|by exact an2 H3 fun c c_1 H4=>aTP 7 E (by decide +kernel) E (qv E E c c_1 E)<|by exact aTP 8 E (by decide +kernel) E (zv E E)<|by exact gx H4 fun t_1 ht_1 H5=>by refine aT 9 E (by decide +kernel) E (zT E (zG ht_1)) (yi ht_1) ?_;exact aTP 10 E (by decide +kernel) E (zm E)<|by exact aTP 11 E (by decide +kernel) E (zJ E)<|by exact aTP 12 E (by decide +kernel) E (zv E E)<|by exact gx H5 fun t_2 ht_2 H6=>aT 13 E (by decide +kernel) E (zz E) (zH ht_2)<|by exact aTP 14 E (by decide +kernel) E (zm E)<|by exact aTP 15 E (by decide +kernel) E (zm E)<|by exact aTP 16 E (by decide +kernel) E (zm E)<|by exact zB 17 (by decide +kernel) E<|by exact qC E E H6 fun t_3 Sx H7=>by obtain⟨k,H8⟩:=H7;exact zr<|zN (zx (zH k) zy)<|zK (by decide +kernel)<|by exact zt<|zu<|mv E E<|s_p E (zJ E)<|s_p E (zv E E)<|mv E E<|mv E E<|fK E E H8 fun Sx_1 H9=>zr<|wb Tryz.results142 (ze) ⟨E,H9⟩
def vI (S:Mem) (h:Pt) (vm:Int) (x:List Value) (Q:Mem→Prop):Prop:=
 x.length=4 ∧
 nn h fun b_1 o=>
 0≤vm∧vm<6 ∧
 gL (S.cell b_1 (o+5+vm.toNat*1)) fun t=>
 x.all (·.oneCell')=true ∧
 ap S 45 4 32 [.int .u8 0,.int .i64 0,.int .u64 0,.int .u64 0] t 1 x fun t_1 Sx=>
 0≤vm∧vm<6 ∧
 pt Sx b_1 (o+5+vm.toNat*1) 1 ([eL t_1]) fun Sx_1=>
 Q Sx_1
theorem zcV {S:Mem} {h:Pt} {vm:Int} {x:List Value} {Q:Mem→Prop} (H:vI S h vm x Q):yN S h vm x Q:=by
 unfold vI at H
 exact Tr.intro Tryz.func79 E Tryz.ntmps79 E fun w0=>an H fun hx H1=>csr<|qM E E E fun b=>nx<|zM (by kernel_rfl)<|a_takeP 0 E (by decide +kernel) zc E (zm E)<|by exact a_takeP 1 E (by decide +kernel) zc E (zm E)<|by exact a_takeP 2 E (by decide +kernel) zc E (zm E)<|by exact a_takeP 3 E (by decide +kernel) zc E (zm E)<|by exact by obtain⟨b_1,o,rfl,H2⟩:=H1;exact a_takeP 4 E (by decide +kernel) zc E (zJ E)<|by exact a_takeP 5 E (by decide +kernel) zc E (zv E E)<|by exact an2 H2 fun c c_1 H3=>a_takeP 6 E (by decide +kernel) zc E (qv E E c c_1 E)<|by exact gx H3 fun t ht H4=>zV 7 E (by decide +kernel) zc E (zz E) (zH ht)<|by exact by refine zV 8 E (by decide +kernel) zc E (zT E hx) (zE (k:=4) 0 E (zk hx)) ?_;exact a_takeP 11 E (by decide +kernel) zc E (zJ E)<|by exact a_takeP 12 E (by decide +kernel) zc E (zv E E)<|by exact zB 9 (by decide +kernel) E<|by exact zgb E E (by decide) (jd (size:=4) E hx) fun b_2=>zr<|zN (zx (zH ht) zy)<|zB 10 (by decide +kernel) E<|by exact an H4 fun c_2 H5=>vY (sx:=t) (vs:=x) E E E (zgc 1 E (zk hx)) hx c_2 (by decide) H5 fun t_1 Sx H6=>zr<|zN zy<|an2 H6 fun c_3 c_4 H7=>a_takeP 13 E (by decide +kernel) zc E (qv E E c_3 c_4 E)<|by exact zB 14 (by decide +kernel) E<|by exact an H7 fun c_5 H8=>qo E E E E E c_5 E<|zr<|zN zy<|zK (by decide +kernel)<|by exact wb Tryz.results79 (ze) ⟨E,H8⟩
def vc (S:Mem) (h:Pt) (vm:Int) (page:Int) (Q:Mem→Prop):Prop:=
 nn h fun b o=>
 gP (S.cell b (o+3)) fun t=>
 nn t fun b_1 o_1=>
 0≤vm∧vm<6 ∧
 gA (S.part b_1 (o_1+2+vm.toNat*12+2) 2) fun t_1=>
 gP (S.cell b o) fun t_2=>
 wO S t_1 t_2 page fun t_3 Sx=>
 Sx.cell b (o+3)=some (.pointer (some ⟨b_1,o_1,none⟩)) ∧
 yJ Sx (some (b,o+2)) vm page fun Sx_1=>
 Q Sx_1
theorem zbU {S:Mem} {h:Pt} {vm:Int} {page:Int} {Q:Mem→Prop} (H:vc S h vm page Q):xc S h vm page Q:=by
 unfold vc at H
 exact Tr.intro Tryz.func146 E Tryz.ntmps146 E fun w0=>zC<|zM (by kernel_rfl)<|aTP 0 E (by decide +kernel) E (zm E)<|by exact by obtain⟨b,o,rfl,H1⟩:=H;exact aTP 1 E (by decide +kernel) E (zJ E)<|by exact aTP 2 E (by decide +kernel) E (zv E E)<|by exact gx H1 fun t ht H2=>aT 3 E (by decide +kernel) E (zz E) (zH ht)<|by exact aTP 4 E (by decide +kernel) E (zm E)<|by exact by obtain⟨b_1,o_1,rfl,H3⟩:=H2;exact aTP 5 E (by decide +kernel) E (zJ E)<|by exact aTP 6 E (by decide +kernel) E (zv E E)<|by exact an2 H3 fun c c_1 H4=>aTP 7 E (by decide +kernel) E (qv E E c c_1 E)<|by exact aTP 8 E (by decide +kernel) E (zv E E)<|by exact gx H4 fun t_1 ht_1 H5=>by refine aT 9 E (by decide +kernel) E (zT E (zG ht_1)) (yi ht_1) ?_;exact aTP 10 E (by decide +kernel) E (zm E)<|by exact aTP 11 E (by decide +kernel) E (zJ E)<|by exact aTP 12 E (by decide +kernel) E (zv E E)<|by exact gx H5 fun t_2 ht_2 H6=>aT 13 E (by decide +kernel) E (zz E) (zH ht_2)<|by exact aTP 14 E (by decide +kernel) E (zm E)<|by exact zB 15 (by decide +kernel) E<|by exact qC E E H6 fun t_3 Sx H7=>by obtain⟨k,H8⟩:=H7;exact zr<|zN (zx (zH k) zy)<|zK (by decide +kernel)<|by exact zt<|zu<|mv E E<|s_p E (zJ E)<|s_p E (zv E E)<|mv E E<|mv E E<|fK E E H8 fun Sx_1 H9=>zr<|wb Tryz.results146 (ze) ⟨E,H9⟩
def fp (S:Mem) (w:Int) (Q:Int→Mem→Prop):Prop:=
 if 65536≤w then
 Q (-1) S
 else
 Q (IntKind.i64.wrap w) S
theorem zgm {S:Mem} {w:Int} {Q:Int→Mem→Prop} (H:fp S w Q):fR S w Q:=by
 unfold fp at H
 exact Tr.intro Tryz.func43 E Tryz.ntmps43 E fun w0=>csr<|gv E E<|nx<|zC<|csr<|mv E E<|iteK H (fun c H1=>s_p E (yT (qj E E) c)<|nx<|c_t E E<|csr<|gv E E<|nx<|zi<|zb<|zh Tryz.results43 (zd E ze) ⟨_,E,H1⟩) fun c H1=>s_p E (yF (qj E E) c)<|nx<|cfs E E<|zt<|csr<|mv E E<|s_p E (qq ⟨_,Tryz.underlying39⟩ E)<|gv E E<|nx<|zi<|zh Tryz.results43 (zd E ze) ⟨_,E,H1⟩
def zaW (S:Mem) (x:List Value) (n:Int) (pc:Int) (s:List Value) (Q:List Value→Mem→Prop):Prop:=
 x.length=2 ∧
 s.length=26 ∧
 jn (fun (v:List Value) (Sx:Mem)=>
 v.length=4 ∧
 zft Sx s fun t Sx_1=>
 Q ([.int .u8 1,.int .i64 n,.int .u64 pc,.int .u64 t]) Sx_1) fun Jx=>
 gI (nthL x 0) .u8 fun t_1=>
 if t_1=1 then
 gI (nthL x 1) .u64 fun t_2=>
 Q ([.int .u8 4,.int .i64 n,.int .u64 t_2,.int .u64 pc]) S
 else
 if t_1=4 then
 gI (nthL x 1) .u64 fun t_3=>
 Q ([.int .u8 5,.int .i64 n,.int .u64 t_3,.int .u64 pc]) S
 else
 Jx ([.int .u8 0,.int .i64 0,.int .u64 0,.int .u64 0]) S
theorem zhp {S:Mem} {x:List Value} {n:Int} {pc:Int} {s:List Value} {Q:List Value→Mem→Prop} (H:zaW S x n pc s Q):zej S x n pc s Q:=by
 unfold zaW at H
 exact Tr.intro Tryz.func25 E Tryz.ntmps25 E fun w0=>an H fun hx H1=>an H1 fun hs H2=>csr<|qM E E E fun b=>qM E E E fun b_1=>by refine zL E fun b_2=>?_;exact nx<|zn H2 (fun (J:List Value→Mem→Prop) (z:List Value) S=>J z S) (fun z=>⟨30,[(1,.int .i64 n),(2,.int .u64 pc),(7,.pointer (some ⟨b_1,0,none⟩)),(8,.pointer (some ⟨b_2,0,none⟩))]⟩) (fun z=>[⟨b_1,43,s⟩,⟨b_2,45,z⟩]) (fun v Sx H3=>an H3 fun hv H4=>csr<|mv E E<|mv E E<|by refine s_v E (zT E hs) (zE (k:=26) 0 E (zk hs)) ?_;exact qC E E H4 fun t Sx_1 H5=>s_p E (zF E E)<|by exact zp 1 E E E E E E hv E<|nx<|zi<|zh Tryz.results25 (zA E (zE (k:=4) 1 E E) E ze) ⟨_,E,E,H5⟩) (fun Jx hJx H6=>csr<|s_p E (zv E E)<|gx H6 fun t_1 ht_1 H7=>s_v E (zz E) (zW 0 E ht_1)<|nx<|zw<|csr<|iteK H7 (fun c H8=>ceT E E E (c)<|gv E E<|nx<|c_t E E<|csr<|mv E E<|s_p E (zv E E)<|gx H8 fun t_2 ht_2 H9=>s_v E (zz E) (zW 0 E ht_2)<|mv E E<|s_p E (zF E E)<|by exact qT (sz:=4) (vs:=[.int .u8 4,.int .i64 n,.int .u64 t_2,.int .u64 pc]) 2 E E E E E E (Nat.le_of_ble_eq_true E) E<|nx<|zi<|zj<|zb<|zh Tryz.results25 (zA E (zE (k:=4) 2 E E) E ze) ⟨_,E,E,H9⟩) fun c H8=>ceF E E E (c)<|gv E E<|nx<|c_f E E<|csr<|iteK H8 (fun c_1 H10=>ceT E E E (c_1)<|gv E E<|nx<|c_t E E<|csr<|mv E E<|s_p E (zv E E)<|gx H10 fun t_3 ht_3 H11=>s_v E (zz E) (zW 0 E ht_3)<|mv E E<|s_p E (zF E E)<|by exact qT (sz:=4) (vs:=[.int .u8 5,.int .i64 n,.int .u64 t_3,.int .u64 pc]) 2 E E E E E E (Nat.le_of_ble_eq_true E) E<|nx<|zi<|zj<|zb<|zh Tryz.results25 (zA E (zE (k:=4) 2 E E) E ze) ⟨_,E,E,H11⟩) fun c_1 H10=>ceF E E E (c_1)<|gv E E<|nx<|cfs E E<|zU<|hJx ([.int .u8 0,.int .i64 0,.int .u64 0,.int .u64 0]) _ _ _ _ [1,1] H10 E ⟨E,E,E,E,True.intro⟩ E)
def kP (S:Mem) (b:List Value) (page:Int) (off:Int) (n:Int) (Q:Sl→Int→Mem→Prop):Prop:=
 b.length=2 ∧
 ka S b page fun t t_1 Sx=>
 t.all (·.oneCell')=true ∧
 jn (fun (Sx_1:Mem)=>
 gP (nthL b 0) fun t_2=>
 nn t_2 fun b_3 o=>
 gP (Sx_1.cell b_3 o) fun t_3=>
 gI (nthL t 1) .i64 fun t_4=>
 qY Sx_1 t_3 t_4 off n fun t_5 t_6 Sx_2=>
 Q t_5 t_6 Sx_2) fun Jx=>
 if t_1≠0 then
 Q (⟨none,0,0⟩) t_1 Sx
 else
 Jx Sx
theorem zdy {S:Mem} {b:List Value} {page:Int} {off:Int} {n:Int} {Q:Sl→Int→Mem→Prop} (H:kP S b page off n Q):gc S b page off n Q:=by
 unfold kP at H
 exact Tr.intro Tryz.func234 E Tryz.ntmps234 E fun w0=>an H fun hb H1=>csr<|qM E E E fun b_1=>gv E E<|gv E E<|nxr<|by refine s_v E (zT E hb) (zE (k:=2) 0 E (zk hb)) ?_;exact mv E E<|qr E E H1 fun rv Sx H2=>by obtain⟨t,t_1,rfl,ht,H3⟩:=H2;exact mv E E<|s_p E (zg E E)<|s_p E (zg E E)<|by refine zL E fun b_2=>?_;exact an H3 fun c H4=>zp 1 E E E E E ht E c<|gv E E<|nx<|zn H4 (fun (J:Mem→Prop) (z:Unit) S=>J S) (fun z=>⟨33,[(2,.int .i64 off),(3,.int .i64 n),(4,.pointer (some ⟨b_1,0,none⟩)),(10,.pointer (some ⟨b_2,0,none⟩))]⟩) (fun z=>[⟨b_1,173,b⟩,⟨b_2,111,t⟩]) (fun _ Sx_1 H5=>zC<|zM (by kernel_rfl)<|aTP 0 E (by decide +kernel) E (zv E E)<|by exact gx H5 fun t_2 ht_2 H6=>aT 1 E (by decide +kernel) E (zz E) (zW 0 E ht_2)<|by exact by obtain⟨b_3,o,rfl,H7⟩:=H6;exact aTP 2 E (by decide +kernel) E (zJ E)<|by exact aTP 3 E (by decide +kernel) E (zv E E)<|by exact gx H7 fun t_3 ht_3 H8=>aT 4 E (by decide +kernel) E (zz E) (zH ht_3)<|by exact aTP 5 E (by decide +kernel) E (zv E E)<|by exact gx H8 fun t_4 ht_4 H9=>aT 6 E (by decide +kernel) E (zz E) (zW 1 E ht_4)<|by exact aTP 7 E (by decide +kernel) E (zm E)<|by exact aTP 8 E (by decide +kernel) E (zm E)<|by exact zB 9 (by decide +kernel) E<|by exact gO E E H9 fun t_5 t_6 Sx_2 H10=>zr<|zN (zx (zW 0 E ht_2) zy)<|aTP 10 E (by decide +kernel) E (zg E E)<|by exact aTP 11 E (by decide +kernel) E (zg E E)<|by exact aTP 12 E (by decide +kernel) E (zS E)<|by exact aTP 13 E (by decide +kernel) E (zS E)<|by exact zK (by decide +kernel)<|by exact zt<|zi<|zh Tryz.results234 (zd E (zd E ze)) ⟨_,_,E,H10⟩) (fun Jx hJx H11=>csr<|mv E E<|iteK H11 (fun c_1 H12=>s_p E (yT (zQ E E) c_1)<|nx<|c_t E E<|csr<|mv E E<|gv E E<|gv E E<|nx<|zi<|zb<|zh Tryz.results234 (zd E (zd E ze)) ⟨_,_,E,H12⟩) fun c_1 H12=>s_p E (yF (zQ E E) c_1)<|nx<|cfs E E<|hJx () _ _ _ _ [0,0] H12 E ⟨E,E,E,E,True.intro⟩ E)
def kO (S:Mem) (b:List Value) (page:Int) (off:Int) (p:Sl) (Q:Int→Mem→Prop):Prop:=
 b.length=2 ∧
 ka S b page fun t t_1 Sx=>
 t.all (·.oneCell')=true ∧
 jn (fun (Sx_1:Mem)=>
 gP (nthL b 0) fun t_2=>
 nn t_2 fun b_3 o=>
 gP (Sx_1.cell b_3 o) fun t_3=>
 gI (nthL t 1) .i64 fun t_4=>
 qp Sx_1 t_3 t_4 off p fun t_5 Sx_2=>
 Q t_5 Sx_2) fun Jx=>
 if t_1≠0 then
 Q t_1 Sx
 else
 gB (nthL t 2) fun t_6=>
 if t_6=true then
 Jx Sx
 else
 Q 11 Sx
theorem zdx {S:Mem} {b:List Value} {page:Int} {off:Int} {p:Sl} {Q:Int→Mem→Prop} (H:kO S b page off p Q):gb S b page off p Q:=by
 unfold kO at H
 exact Tr.intro Tryz.func233 E Tryz.ntmps233 E fun w0=>an H fun hb H1=>csr<|qM E E E fun b_1=>gv E E<|nxr<|by refine s_v E (zT E hb) (zE (k:=2) 0 E (zk hb)) ?_;exact mv E E<|qr E E H1 fun rv Sx H2=>by obtain⟨t,t_1,rfl,ht,H3⟩:=H2;exact mv E E<|s_p E (zg E E)<|s_p E (zg E E)<|by refine zL E fun b_2=>?_;exact an H3 fun c H4=>zp 1 E E E E E ht E c<|gv E E<|nx<|zn H4 (fun (J:Mem→Prop) (z:Unit) S=>J S) (fun z=>⟨35,[(2,.int .i64 off),(3,eL p),(4,.pointer (some ⟨b_1,0,none⟩)),(9,.pointer (some ⟨b_2,0,none⟩))]⟩) (fun z=>[⟨b_1,173,b⟩,⟨b_2,111,t⟩]) (fun _ Sx_1 H5=>zC<|zM (by kernel_rfl)<|aTP 0 E (by decide +kernel) E (zv E E)<|by exact gx H5 fun t_2 ht_2 H6=>aT 1 E (by decide +kernel) E (zz E) (zW 0 E ht_2)<|by exact by obtain⟨b_3,o,rfl,H7⟩:=H6;exact aTP 2 E (by decide +kernel) E (zJ E)<|by exact aTP 3 E (by decide +kernel) E (zv E E)<|by exact gx H7 fun t_3 ht_3 H8=>aT 4 E (by decide +kernel) E (zz E) (zH ht_3)<|by exact aTP 5 E (by decide +kernel) E (zv E E)<|by exact gx H8 fun t_4 ht_4 H9=>aT 6 E (by decide +kernel) E (zz E) (zW 1 E ht_4)<|by exact aTP 7 E (by decide +kernel) E (zm E)<|by exact aTP 8 E (by decide +kernel) E (zm E)<|by exact zB 9 (by decide +kernel) E<|by exact qC E E H9 fun t_5 Sx_2 H10=>zr<|zN (zx (zW 0 E ht_2) zy)<|aTP 10 E (by decide +kernel) E (zS E)<|by exact zK (by decide +kernel)<|by exact zt<|zi<|zh Tryz.results233 (zd E ze) ⟨_,E,H10⟩) (fun Jx hJx H11=>zw<|csr<|mv E E<|iteK H11 (fun c_1 H12=>s_p E (yT (zQ E E) c_1)<|gv E E<|nx<|c_t E E<|csr<|mv E E<|gv E E<|nx<|zi<|zj<|zb<|zh Tryz.results233 (zd E ze) ⟨_,E,H12⟩) fun c_1 H12=>s_p E (yF (zQ E E) c_1)<|gv E E<|nx<|c_f E E<|csr<|s_p E (zv E E)<|gx H12 fun t_6 ht_6 H13=>by have H14:=wM H13;rcases H14 with ⟨rfl,H15⟩ | ⟨rfl,H15⟩;exact (s_v E (zz E) (zW 1 E ht_6)<|s_p E (yB (ql E) E)<|gv E E<|nx<|cfs E E<|zU<|hJx () _ _ _ _ [0,0] H15 E ⟨E,E,E,E,True.intro⟩ E);exact (s_v E (zz E) (zW 1 E ht_6)<|s_p E (yB (ql E) E)<|gv E E<|nx<|c_t E E<|csr<|gv E E<|nx<|zi<|zj<|zb<|zh Tryz.results233 (zd E ze) ⟨_,E,H15⟩))
def kN (S:Mem) (b:List Value) (page:Int) (Q:List Value→Int→Mem→Prop):Prop:=
 b.length=2 ∧
 jn (fun (v:List Value) (Sx:Mem)=>
 v.length=3 ∧
 gP (nthL b 0) fun t=>
 nn t fun b_3 o=>
 gP (Sx.cell b_3 (o+3)) fun t_1=>
 gI (nthL b 1) .i64 fun t_2=>
 nn t_1 fun b_4 o_1=>
 0≤t_2∧t_2<6 ∧
 gA (Sx.part b_4 (o_1+2+t_2.toNat*12+2) 2) fun t_3=>
 gP (nthL b 0) fun t_4=>
 nn t_4 fun b_5 o_2=>
 gP (Sx.cell b_5 o_2) fun t_5=>
 qw Sx t_3 t_5 page fun t_6 t_7 Sx_1=>
 Sx_1.cell b_3 (o+3)=some (.pointer (some ⟨b_4,o_1,none⟩)) ∧
 t_6.all (·.oneCell')=true ∧
 if t_7=0 then
 gP (nthL b 0) fun t_8=>
 nn t_8 fun b_7 o_3=>
 gI (nthL b 1) .i64 fun t_9=>
 kI Sx_1 (some (b_7,o_3+2)) t_9 page t_6 fun Sx_2=>
 t_6.all (·.oneCell')=true ∧
 Q t_6 t_7 Sx_2
 else
 t_6.all (·.oneCell')=true ∧
 Q t_6 t_7 Sx_1) fun Jx=>
 gP (nthL b 0) fun t_10=>
 nn t_10 fun b_8 o_4=>
 gI (nthL b 1) .i64 fun t_11=>
 vx S (some (b_8,o_4+2)) t_11 page fun t_12 t_13 Sx_3=>
 if t_13=true then
 t_12.all (·.oneCell')=true ∧
 t_12.all (·.oneCell')=true ∧
 Q t_12 0 Sx_3
 else
 t_12.all (·.oneCell')=true ∧
 Jx ([.bool false,.int .i64 0,.bool false]) Sx_3
theorem zdw {S:Mem} {b:List Value} {page:Int} {Q:List Value→Int→Mem→Prop} (H:kN S b page Q):ka S b page Q:=by
 unfold kN at H
 exact Tr.intro Tryz.func243 E Tryz.ntmps243 E fun w0=>an H fun hb H1=>csr<|qM E E E fun b_1=>by refine zL E fun b_2=>?_;exact gv E E<|nx<|zn H1 (fun (J:List Value→Mem→Prop) (z:List Value) S=>J z S) (fun z=>⟨58,[(1,.int .i64 page),(2,.pointer (some ⟨b_1,0,none⟩)),(4,.pointer (some ⟨b_2,0,none⟩))]⟩) (fun z=>[⟨b_1,173,b⟩,⟨b_2,111,z⟩]) (fun v Sx H2=>an H2 fun hv H3=>zC<|zM (by kernel_rfl)<|aTP 0 E (by decide +kernel) E (zv E E)<|by exact gx H3 fun t ht H4=>aT 1 E (by decide +kernel) E (zz E) (zW 0 E ht)<|by exact by obtain⟨b_3,o,rfl,H5⟩:=H4;exact aTP 2 E (by decide +kernel) E (zJ E)<|by exact aTP 3 E (by decide +kernel) E (zv E E)<|by exact gx H5 fun t_1 ht_1 H6=>aT 4 E (by decide +kernel) E (zz E) (zH ht_1)<|by exact aTP 5 E (by decide +kernel) E (zv E E)<|by exact gx H6 fun t_2 ht_2 H7=>aT 6 E (by decide +kernel) E (zz E) (zW 0 E ht_2)<|by exact by obtain⟨b_4,o_1,rfl,H8⟩:=H7;exact aTP 7 E (by decide +kernel) E (zJ E)<|by exact aTP 8 E (by decide +kernel) E (zv E E)<|by exact an2 H8 fun c c_1 H9=>aTP 9 E (by decide +kernel) E (qv E E c c_1 E)<|by exact aTP 10 E (by decide +kernel) E (zv E E)<|by exact gx H9 fun t_3 ht_3 H10=>by refine aT 11 E (by decide +kernel) E (zT E (zG ht_3)) (yi ht_3) ?_;exact aTP 12 E (by decide +kernel) E (zv E E)<|by exact gx H10 fun t_4 ht_4 H11=>aT 13 E (by decide +kernel) E (zz E) (zW 0 E ht_4)<|by exact by obtain⟨b_5,o_2,rfl,H12⟩:=H11;exact aTP 14 E (by decide +kernel) E (zJ E)<|by exact aTP 15 E (by decide +kernel) E (zv E E)<|by exact gx H12 fun t_5 ht_5 H13=>aT 16 E (by decide +kernel) E (zz E) (zH ht_5)<|by exact aTP 17 E (by decide +kernel) E (zm E)<|by exact gp 18 22 (by decide +kernel) E E (qr E E H13 fun rv Sx_1 H14=>by obtain⟨t_6,t_7,rfl,ht_6,H15⟩:=H14;exact by obtain⟨k,H16⟩:=H15;exact zr<|zN (zx (zW 0 E ht_4) (zx (zW 0 E ht_2) (zx (zH k) (zx (zW 0 E ht) zy))))<|aTP 19 E (by decide +kernel) E (zm E)<|by exact aTP 20 E (by decide +kernel) E (zg E E)<|by exact aTP 21 E (by decide +kernel) E (zg E E)<|by exact zB 22 (by decide +kernel) E<|by exact by refine zL E fun b_6=>?_;exact zr<|zN (zx (zW 0 E ht_4) (zx (zW 0 E ht_2) (zx (zH k) (zx (zW 0 E ht) zy))))<|zB 23 (by decide +kernel) E<|by exact an H16 fun c_2 H17=>zp 2 E E E E E ht_6 E c_2<|zr<|zN zy<|aTP 24 E (by decide +kernel) E (zS E)<|by exact zK (by decide +kernel)<|by exact zt<|zC<|csr<|mv E E<|iteK H17 (fun c_3 H18=>ceT E E E (c_3)<|nx<|c_t E E<|zM (by kernel_rfl)<|aTP 0 E (by decide +kernel) E (zv E E)<|by exact gx H18 fun t_8 ht_8 H19=>aT 1 E (by decide +kernel) E (zz E) (zW 0 E ht_8)<|by exact by obtain⟨b_7,o_3,rfl,H20⟩:=H19;exact aTP 2 E (by decide +kernel) E (zJ E)<|by exact aTP 3 E (by decide +kernel) E (zv E E)<|by exact aTP 4 E (by decide +kernel) E (zv E E)<|by exact gx H20 fun t_9 ht_9 H21=>aT 5 E (by decide +kernel) E (zz E) (zW 0 E ht_9)<|by exact aTP 6 E (by decide +kernel) E (zm E)<|by exact by refine aT 7 E (by decide +kernel) E (zT E ht_6) (zE (k:=3) 2 E (zk ht_6)) ?_;exact zB 8 (by decide +kernel) E<|by exact fK E E H21 fun Sx_2 H22=>zr<|zN (zx (zW 0 E ht_8) zy)<|zK (by decide +kernel)<|by exact zt<|csr<|by refine s_v E (zT E ht_6) (zE (k:=3) 2 E (zk ht_6)) ?_;exact mv E E<|an H22 fun c_4 H23=>zp 1 E E E E E ht_6 hv c_4<|gv E E<|nx<|zi<|zh Tryz.results243 (zA E (zE (k:=3) 1 E (zk ht_6)) ht_6 (zd E ze)) ⟨_,_,E,ht_6,H23⟩) fun c_3 H18=>ceF E E E (c_3)<|nx<|cfs E E<|zt<|csr<|by refine s_v E (zT E ht_6) (zE (k:=3) 2 E (zk ht_6)) ?_;exact mv E E<|an H18 fun c_5 H24=>zp 1 E E E E E ht_6 hv c_5<|gv E E<|nx<|zi<|zh Tryz.results243 (zA E (zE (k:=3) 1 E (zk ht_6)) ht_6 (zd E ze)) ⟨_,_,E,ht_6,H24⟩) (by refine zL E fun b_6=>?_;exact zr<|zN (zx (zH ht_5) (zx (zW 0 E ht_4) (zx (yi ht_3) (zx (zW 0 E ht_2) (zx (zH ht_1) (zx (zW 0 E ht) zy))))))<|zB 18 (by decide +kernel) E<|by exact qr E E H13 fun rv Sx_1 H25=>by obtain⟨t_6,t_7,rfl,ht_6,H26⟩:=H25;exact by obtain⟨k,H27⟩:=H26;exact zr<|zN (zx (zW 0 E ht_4) (zx (zW 0 E ht_2) (zx (zH k) (zx (zW 0 E ht) zy))))<|aTP 19 E (by decide +kernel) E (zm E)<|by exact aTP 20 E (by decide +kernel) E (zg E E)<|by exact aTP 21 E (by decide +kernel) E (zg E E)<|by exact zB 23 (by decide +kernel) E<|by exact an H27 fun c_2 H28=>zp 2 E E E E E ht_6 E c_2<|zr<|zN zy<|aTP 24 E (by decide +kernel) E (zS E)<|by exact zK (by decide +kernel)<|by exact zt<|zC<|csr<|mv E E<|iteK H28 (fun c_3 H29=>ceT E E E (c_3)<|nx<|c_t E E<|zM (by kernel_rfl)<|aTP 0 E (by decide +kernel) E (zv E E)<|by exact gx H29 fun t_8 ht_8 H30=>aT 1 E (by decide +kernel) E (zz E) (zW 0 E ht_8)<|by exact by obtain⟨b_7,o_3,rfl,H31⟩:=H30;exact aTP 2 E (by decide +kernel) E (zJ E)<|by exact aTP 3 E (by decide +kernel) E (zv E E)<|by exact aTP 4 E (by decide +kernel) E (zv E E)<|by exact gx H31 fun t_9 ht_9 H32=>aT 5 E (by decide +kernel) E (zz E) (zW 0 E ht_9)<|by exact aTP 6 E (by decide +kernel) E (zm E)<|by exact by refine aT 7 E (by decide +kernel) E (zT E ht_6) (zE (k:=3) 2 E (zk ht_6)) ?_;exact zB 8 (by decide +kernel) E<|by exact fK E E H32 fun Sx_2 H33=>zr<|zN (zx (zW 0 E ht_8) zy)<|zK (by decide +kernel)<|by exact zt<|csr<|by refine s_v E (zT E ht_6) (zE (k:=3) 2 E (zk ht_6)) ?_;exact mv E E<|an H33 fun c_4 H34=>zp 1 E E E E E ht_6 hv c_4<|gv E E<|nx<|zi<|zh Tryz.results243 (zA E (zE (k:=3) 1 E (zk ht_6)) ht_6 (zd E ze)) ⟨_,_,E,ht_6,H34⟩) fun c_3 H29=>ceF E E E (c_3)<|nx<|cfs E E<|zt<|csr<|by refine s_v E (zT E ht_6) (zE (k:=3) 2 E (zk ht_6)) ?_;exact mv E E<|an H29 fun c_5 H35=>zp 1 E E E E E ht_6 hv c_5<|gv E E<|nx<|zi<|zh Tryz.results243 (zA E (zE (k:=3) 1 E (zk ht_6)) ht_6 (zd E ze)) ⟨_,_,E,ht_6,H35⟩)) (fun Jx hJx H36=>zC<|zM (by kernel_rfl)<|a_takeP 0 E (by decide +kernel) (za (za zc)) E (zv E E)<|by exact gx H36 fun t_10 ht_10 H37=>zV 1 E (by decide +kernel) (za (za zc)) E (zz E) (zW 0 E ht_10)<|by exact by obtain⟨b_8,o_4,rfl,H38⟩:=H37;exact a_takeP 2 E (by decide +kernel) (za (za zc)) E (zJ E)<|by exact a_takeP 3 E (by decide +kernel) (za (za zc)) E (zv E E)<|by exact a_takeP 4 E (by decide +kernel) (za (za zc)) E (zv E E)<|by exact gx H38 fun t_11 ht_11 H39=>zV 5 E (by decide +kernel) (za (za zc)) E (zz E) (zW 0 E ht_11)<|by exact a_takeP 6 E (by decide +kernel) (za (za zc)) E (zm E)<|by exact gp 7 11 (by decide +kernel) E E (qr E E H39 fun rv Sx_3 H40=>by obtain⟨t_12,t_13,rfl,ht_12,H41⟩:=H40;exact zr<|zN (zx (zW 0 E ht_10) zy)<|a_takeP 8 E (by decide +kernel) (za (za zc)) E (zm E)<|by exact a_takeP 9 E (by decide +kernel) (za (za zc)) E (zg E E)<|by exact iteK H41 (fun c_6 H42=>a_takeP 10 E (by decide +kernel) (za (za zc)) E (yB (zg E E) c_6)<|by exact zB 11 (by decide +kernel) E<|by exact by refine zL E fun b_9=>?_;exact zr<|zN (zx (zW 0 E ht_10) zy)<|zB 12 (by decide +kernel) E<|by exact an H42 fun c_7 H43=>zp 2 E E E E E ht_12 E c_7<|zr<|zN zy<|a_takeP 13 E (by decide +kernel) (za (za zc)) E (zS E)<|by exact zK (by decide +kernel)<|by exact zt<|csr<|mv E E<|nx<|c_t E E<|csr<|by refine s_v E (zT E ht_12) (zE (k:=3) 2 E (zk ht_12)) ?_;exact an H43 fun c_8 H44=>zp 1 E E E E E ht_12 E c_8<|gv E E<|nx<|zi<|zb<|zh Tryz.results243 (zA E (zE (k:=3) 1 E (zk ht_12)) ht_12 (zd E ze)) ⟨_,_,E,ht_12,H44⟩) fun c_6 H42=>a_takeP 10 E (by decide +kernel) (za (za zc)) E (yB (zg E E) (kX c_6))<|by exact zB 11 (by decide +kernel) E<|by exact by refine zL E fun b_10=>?_;exact zr<|zN (zx (zW 0 E ht_10) zy)<|zB 12 (by decide +kernel) E<|by exact an H42 fun c_9 H45=>zp 2 E E E E E ht_12 E c_9<|zr<|zN zy<|a_takeP 13 E (by decide +kernel) (za (za zc)) E (zS E)<|by exact zK (by decide +kernel)<|by exact zt<|csr<|mv E E<|nx<|cfs E E<|hJx ([.bool false,.int .i64 0,.bool false]) _ _ _ _ [0,0] H45 E ⟨E,E,E,True.intro⟩ E) (by refine zL E fun b_9=>?_;exact zr<|zN (zx (zW 0 E ht_11) (zx (zW 0 E ht_10) zy))<|zB 7 (by decide +kernel) E<|by exact qr E E H39 fun rv Sx_3 H46=>by obtain⟨t_12,t_13,rfl,ht_12,H47⟩:=H46;exact zr<|zN (zx (zW 0 E ht_10) zy)<|a_takeP 8 E (by decide +kernel) (za (za zc)) E (zm E)<|by exact a_takeP 9 E (by decide +kernel) (za (za zc)) E (zg E E)<|by exact iteK H47 (fun c_6 H48=>a_takeP 10 E (by decide +kernel) (za (za zc)) E (yB (zg E E) c_6)<|by exact zB 12 (by decide +kernel) E<|by exact an H48 fun c_7 H49=>zp 2 E E E E E ht_12 E c_7<|zr<|zN zy<|a_takeP 13 E (by decide +kernel) (za (za zc)) E (zS E)<|by exact zK (by decide +kernel)<|by exact zt<|csr<|mv E E<|nx<|c_t E E<|csr<|by refine s_v E (zT E ht_12) (zE (k:=3) 2 E (zk ht_12)) ?_;exact an H49 fun c_8 H50=>zp 1 E E E E E ht_12 E c_8<|gv E E<|nx<|zi<|zb<|zh Tryz.results243 (zA E (zE (k:=3) 1 E (zk ht_12)) ht_12 (zd E ze)) ⟨_,_,E,ht_12,H50⟩) fun c_6 H48=>a_takeP 10 E (by decide +kernel) (za (za zc)) E (yB (zg E E) (kX c_6))<|by exact zB 12 (by decide +kernel) E<|by exact an H48 fun c_9 H51=>zp 2 E E E E E ht_12 E c_9<|zr<|zN zy<|a_takeP 13 E (by decide +kernel) (za (za zc)) E (zS E)<|by exact zK (by decide +kernel)<|by exact zt<|csr<|mv E E<|nx<|cfs E E<|hJx ([.bool false,.int .i64 0,.bool false]) _ _ _ _ [0,0] H51 E ⟨E,E,E,True.intro⟩ E))
def xz (S:Mem) (s:Pt) (a:Int) (b:Int) (Q:Bool→Mem→Prop):Prop:=
 qy S s a fun t Sx=>
 if t=true then
 qy Sx s b fun t_1 Sx_1=>
 if t_1=true then
 nn s fun b_1 o=>
 0≤a∧a<6 ∧
 gI (Sx_1.cell b_1 (o+2+a.toNat*12+11)) .u32 fun t_2=>
 0≤b ∧
 Q (decide (iand .u32 (ishr .u32 t_2 b) 1=1)) Sx_1
 else
 Q false Sx_1
 else
 Q false Sx
theorem fY {S:Mem} {s:Pt} {a:Int} {b:Int} {Q:Bool→Mem→Prop} (H:xz S s a b Q):we S s a b Q:=by
 unfold xz at H
 exact Tr.intro Tryz.func161 E Tryz.ntmps161 E fun w0=>csr<|gv E E<|nxr<|mv E E<|mv E E<|qC E E H fun t Sx H1=>by have H2:=wM H1;rcases H2 with ⟨rfl,H3⟩ | ⟨rfl,H3⟩;exact (mv E E<|mv E E<|mv E E<|qC E E H3 fun t_1 Sx_1 H4=>by have H5:=wM H4;rcases H5 with ⟨rfl,H6⟩ | ⟨rfl,H6⟩;exact (pk E E E<|mv E E<|mv E E<|mv E E<|by obtain⟨b_1,o,rfl,H7⟩:=H6;exact s_p E (zJ E)<|s_p E (zv E E)<|an2 H7 fun c c_1 H8=>s_p E (qv E E c c_1 E)<|s_p E (zv E E)<|gx H8 fun t_2 ht_2 H9=>s_v E (zz E) (zH ht_2)<|mv E E<|an H9 fun c_2 H10=>s_p E (zap E E c_2)<|s_p E (kW E E)<|s_p E (jA E E)<|pk E E E<|gv E E<|nx<|zi<|zh Tryz.results161 (zd E ze) ⟨_,E,H10⟩);exact (pk E E E<|mv E E<|sk8 E E E E E E E E<|sk2 E E<|zP E<|pk E E E<|gv E E<|nx<|zi<|zh Tryz.results161 (zd E ze) ⟨_,E,H6⟩));exact (mv E E<|sk2 E E<|zP E<|pk E E E<|mv E E<|sk8 E E E E E E E E<|sk2 E E<|zP E<|pk E E E<|gv E E<|nx<|zi<|zh Tryz.results161 (zd E ze) ⟨_,E,H3⟩)
def wB (S:Mem) (s:Pt) (vm:Int) (n:Int) (Q:Pt→Mem→Prop):Prop:=
 jn (fun (Sx:Mem)=>
 nn s fun b o=>
 0≤vm∧vm<6 ∧
 gL (Sx.cell b (o+2+vm.toNat*12+1)) fun t=>
 sl t fun b_1 o_1 n_1 n_2=>
 0≤n∧n<((n_1:Nat):Int) ∧
 Q (some (b_1,o_1+n.toNat*26)) Sx) fun Jx=>
 qy S s vm fun t_1 Sx_1=>
 if t_1=true then
 if n<0 then
 Q none Sx_1
 else
 nn s fun b_2 o_2=>
 0≤vm∧vm<6 ∧
 gL (Sx_1.cell b_2 (o_2+2+vm.toNat*12+1)) fun t_2=>
 if (t_2.n:Int)≤n then
 Q none Sx_1
 else
 Jx Sx_1
 else
 Q none Sx_1
theorem zbj {S:Mem} {s:Pt} {vm:Int} {n:Int} {Q:Pt→Mem→Prop} (H:wB S s vm n Q):qN S s vm n Q:=by
 unfold wB at H
 exact Tr.intro Tryz.func77 E Tryz.ntmps77 E fun w0=>csr<|gv E E<|nx<|zn H (fun (J:Mem→Prop) (z:Unit) S=>J S) (fun z=>⟨36,[(0,eP s),(1,.int .i64 vm),(2,.int .i64 n)]⟩) (fun z=>[]) (fun _ Sx H1=>csr<|mv E E<|mv E E<|by obtain⟨b,o,rfl,H2⟩:=H1;exact s_p E (zJ E)<|s_p E (zv E E)<|an2 H2 fun c c_1 H3=>s_p E (qv E E c c_1 E)<|s_p E (zv E E)<|gx H3 fun t ht H4=>s_v E (zz E) (zH ht)<|mv E E<|by obtain⟨b_1,o_1,n_1,n_2,rfl,H5⟩:=H4;exact an2 H5 fun c_2 c_3 H6=>s_p E (qS E E c_2 c_3 E)<|gv E E<|nx<|zi<|zh Tryz.results77 (zd E ze) ⟨_,E,H6⟩) (fun Jx hJx H7=>csr<|mv E E<|mv E E<|qC E E H7 fun t_1 Sx_1 H8=>by have H9:=wM H8;rcases H9 with ⟨rfl,H10⟩ | ⟨rfl,H10⟩;exact (s_p E (yB (ql E) E)<|mv E E<|mv E E<|iteK H10 (fun c_4 H11=>s_p E (yT (zD E E) c_4)<|pk E E E<|mv E E<|sk8 E E E E E E E E<|sk2 E E<|pk E E E<|nx<|c_t E E<|csr<|gv E E<|nx<|zi<|zb<|zh Tryz.results77 (zd E ze) ⟨_,E,H11⟩) fun c_4 H11=>s_p E (yF (zD E E) c_4)<|pk E E E<|mv E E<|mv E E<|mv E E<|mv E E<|by obtain⟨b_2,o_2,rfl,H12⟩:=H11;exact s_p E (zJ E)<|s_p E (zv E E)<|an2 H12 fun c_5 c_6 H13=>s_p E (qv E E c_5 c_6 E)<|s_p E (zv E E)<|gx H13 fun t_2 ht_2 H14=>s_v E (zz E) (zH ht_2)<|s_p E (yk E)<|iteK H14 (fun c_7 H15=>s_p E (yT (qj E E) c_7)<|pk E E E<|nx<|c_t E E<|csr<|gv E E<|nx<|zi<|zb<|zh Tryz.results77 (zd E ze) ⟨_,E,H15⟩) fun c_7 H15=>s_p E (yF (qj E E) c_7)<|pk E E E<|nx<|cfs E E<|hJx () _ _ _ _ [] H15 E ⟨E,E,E,True.intro⟩ E);exact (s_p E (yB (ql E) E)<|mv E E<|sk2 E E<|pk E E E<|mv E E<|sk8 E E E E E E E E<|sk2 E E<|pk E E E<|nx<|c_t E E<|csr<|gv E E<|nx<|zi<|zb<|zh Tryz.results77 (zd E ze) ⟨_,E,H10⟩))
def xU (S:Mem) (s:Pt) (vm:Int) (Q:Bool→Mem→Prop):Prop:=
 if s≠none then
 if 0≤vm then
 if vm<6 then
 nn s fun b o=>
 0≤vm∧vm<6 ∧
 gB (S.cell b (o+2+vm.toNat*12)) fun t=>
 Q t S
 else
 Q false S
 else
 Q false S
 else
 Q false S
theorem zaw {S:Mem} {s:Pt} {vm:Int} {Q:Bool→Mem→Prop} (H:xU S s vm Q):qy S s vm Q:=by
 unfold xU at H
 exact Tr.intro Tryz.func81 E Tryz.ntmps81 E fun w0=>csr<|gv E E<|nxr<|mv E E<|iteK H (fun c H1=>s_p E (yT (zaY (p:=s) E E) c)<|mv E E<|mv E E<|iteK H1 (fun c_1 H2=>s_p E (yT (qj E E) c_1)<|pk E E E<|mv E E<|mv E E<|iteK H2 (fun c_2 H3=>s_p E (yT (zD E E) c_2)<|pk E E E<|mv E E<|mv E E<|mv E E<|by obtain⟨b,o,rfl,H4⟩:=H3;exact s_p E (zJ E)<|s_p E (zv E E)<|an2 H4 fun c_3 c_4 H5=>s_p E (qv E E c_3 c_4 E)<|s_p E (zv E E)<|gx H5 fun t ht H6=>s_v E (zz E) (zH ht)<|pk E E E<|gv E E<|nx<|zi<|zh Tryz.results81 (zd E ze) ⟨_,E,H6⟩) fun c_2 H3=>s_p E (yF (zD E E) c_2)<|pk E E E<|mv E E<|sk4 E E E E<|sk2 E E<|zP E<|pk E E E<|gv E E<|nx<|zi<|zh Tryz.results81 (zd E ze) ⟨_,E,H3⟩) fun c_1 H2=>s_p E (yF (qj E E) c_1)<|pk E E E<|mv E E<|sk2 E E<|pk E E E<|mv E E<|sk4 E E E E<|sk2 E E<|zP E<|pk E E E<|gv E E<|nx<|zi<|zh Tryz.results81 (zd E ze) ⟨_,E,H2⟩) fun c H1=>s_p E (yF (zaY (p:=s) E E) c)<|mv E E<|sk2 E E<|pk E E E<|mv E E<|sk2 E E<|pk E E E<|mv E E<|sk4 E E E E<|sk2 E E<|zP E<|pk E E E<|gv E E<|nx<|zi<|zh Tryz.results81 (zd E ze) ⟨_,E,H1⟩
def wA (S:Mem) (s:Pt) (vm:Int) (Q:Int→Mem→Prop):Prop:=
 nn s fun b o=>
 gI (S.cell b (o+1)) .u64 fun t=>
 0≤vm∧vm<6 ∧
 gI (S.cell b (o+2+vm.toNat*12+5)) .u64 fun t_1=>
 Q (IntKind.u64.wrap (t-t_1)) S
theorem zbi {S:Mem} {s:Pt} {vm:Int} {Q:Int→Mem→Prop} (H:wA S s vm Q):vv S s vm Q:=by
 unfold wA at H
 exact Tr.intro Tryz.func78 E Tryz.ntmps78 E fun w0=>csr<|gv E E<|nx<|zC<|zM (by kernel_rfl)<|aTP 0 E (by decide +kernel) E (zm E)<|by exact by obtain⟨b,o,rfl,H1⟩:=H;exact aTP 1 E (by decide +kernel) E (zJ E)<|by exact aTP 2 E (by decide +kernel) E (zv E E)<|by exact gx H1 fun t ht H2=>aT 3 E (by decide +kernel) E (zz E) (zH ht)<|by exact aTP 4 E (by decide +kernel) E (zm E)<|by exact aTP 5 E (by decide +kernel) E (zm E)<|by exact aTP 6 E (by decide +kernel) E (zJ E)<|by exact aTP 7 E (by decide +kernel) E (zv E E)<|by exact an2 H2 fun c c_1 H3=>aTP 8 E (by decide +kernel) E (qv E E c c_1 E)<|by exact aTP 9 E (by decide +kernel) E (zv E E)<|by exact gx H3 fun t_1 ht_1 H4=>aT 10 E (by decide +kernel) E (zz E) (zH ht_1)<|by exact aTP 11 E (by decide +kernel) E (gu E E)<|by exact aTP 12 E (by decide +kernel) E (zS E)<|by exact zK (by decide +kernel)<|by exact zt<|zi<|zh Tryz.results78 (zd E ze) ⟨_,E,H4⟩
end Go.Proofs.YtabdpmnhjlmnlaaGreatDoor
end
section
namespace Go.Proofs.YtabdpmnhjlmnlaaGreatDoor
open Go Go.Pt
attribute [local irreducible] Code.wp Back bodyPost wpList FR WL WC WQ WA AW Tr Yc HC AllC
set_option maxRecDepth 20000
set_option maxHeartbeats 4000000
set_option linter.unusedVariables false
def kM (S:Mem) (h:Value) (Q:Mem→Prop):Prop:=
 ci Tryz.prog S h "Len" [] fun rv Sx => ∃ t : Int, rv = .int .i64 t ∧ 
 lp (fun Xx (i:Int) (Sx_1:Mem)=>
 if 0≤i then
 gY Sx_1 h i t fun t_1 Sx_2=>
 Xx (IntKind.i64.wrap (i-1)) Sx_2
 else
 Q Sx_1) (IntKind.i64.wrap ((IntKind.i64.wrap (Int.tdiv t 2))-1)) Sx
theorem zav {S:Mem} {h:Value} {Q:Mem→Prop} (H:kM S h Q):jH S h Q:=by
 unfold kM at H
 exact Tr.intro Tryz.func106 E Tryz.ntmps106 E fun w0=>csr<|mv E E<|zif E E E H fun rv Sx H1=>by obtain⟨t,rfl,H2⟩:=H1;exact gv E E<|nxr<|mv E E<|s_p E (ziD E E (by decide))<|s_p E (gu E E)<|gv E E<|nx<|zw<|qB (fun z=>⟨17,[(0,h),(2,.int .i64 t),(3,.int .i64 z)]⟩) (fun z=>[]) (IntKind.i64.wrap ((IntKind.i64.wrap (Int.tdiv t 2))-1)) (idx:=[]) H2 E ⟨E,E,E,True.intro⟩ E<|fun Xx hXx i Sx_1 H3=>zC<|csr<|mv E E<|iteK H3 (fun c H4=>s_p E (yT (qj E E) c)<|nx<|c_t E E<|qg<|zt<|zC<|zw<|zu<|mv E E<|mv E E<|mv E E<|qC E E H4 fun t_1 Sx_2 H5=>zr<|zU<|zt<|zu<|mv E E<|s_p E (gu E E)<|gv E E<|zr<|hXx (IntKind.i64.wrap (i-1)) _ _ _ _ [] H5 E ⟨E,E,E,True.intro⟩ E) fun c H4=>s_p E (yF (qj E E) c)<|nx<|c_f E E<|qt<|zl<|zl<|zI<|wb Tryz.results106 (ze) ⟨E,H4⟩
def zcA (S:Mem) (h:Value) (Q:Value→Mem→Prop):Prop:=
 ci Tryz.prog S h "Len" [] fun rv Sx => ∃ t : Int, rv = .int .i64 t ∧ 
 ci Tryz.prog Sx h "Swap" [.int .i64 0, .int .i64 (IntKind.i64.wrap (t - 1))] fun rv Sx_1 => rv = .tuple #[] ∧ 
 gY Sx_1 h 0 (IntKind.i64.wrap (t-1)) fun t_1 Sx_2=>
 ci Tryz.prog Sx_2 h "Pop" [] fun rv Sx_3 => ∃ t_2 : Value, rv = t_2 ∧ 
 Q t_2 Sx_3
theorem ziM {S:Mem} {h:Value} {Q:Value→Mem→Prop} (H:zcA S h Q):zfN S h Q:=by
 unfold zcA at H
 exact Tr.intro Tryz.func155 E Tryz.ntmps155 E fun w0=>csr<|gv E E<|nxr<|mv E E<|zif E E E H fun rv Sx H1=>by obtain⟨t,rfl,H2⟩:=H1;exact s_p E (gu E E)<|gv E E<|nxr<|mv E E<|mv E E<|zif E E E H2 fun rv Sx_1 H3=>by obtain⟨rfl,H4⟩:=H3;exact nxr<|mv E E<|mv E E<|qC E E H4 fun t_1 Sx_2 H5=>nxr<|mv E E<|zif E E E H5 fun rv Sx_3 H6=>by obtain⟨t_2,rfl,H7⟩:=H6;exact gv E E<|nx<|zi<|zh Tryz.results155 (zd E ze) ⟨_,E,H7⟩
def gh (S:Mem) (h:Value) (x:Value) (Q:Mem→Prop):Prop:=
 ci Tryz.prog S h "Push" [x] fun rv Sx => rv = .tuple #[] ∧ 
 ci Tryz.prog Sx h "Len" [] fun rv Sx_1 => ∃ t : Int, rv = .int .i64 t ∧ 
 zfM Sx_1 h (IntKind.i64.wrap (t-1)) fun Sx_2=>
 Q Sx_2
theorem zdv {S:Mem} {h:Value} {x:Value} {Q:Mem→Prop} (H:gh S h x Q):gZ S h x Q:=by
 unfold gh at H
 exact Tr.intro Tryz.func150 E Tryz.ntmps150 E fun w0=>csr<|mv E E<|mv E E<|zif E E E H fun rv Sx H1=>by obtain⟨rfl,H2⟩:=H1;exact nx<|zu<|mv E E<|mv E E<|zif E E E H2 fun rv Sx_1 H3=>by obtain⟨t,rfl,H4⟩:=H3;exact s_p E (gu E E)<|fK E E H4 fun Sx_2 H5=>zr<|wb Tryz.results150 (ze) ⟨E,H5⟩
def gg (S:Mem) (h:Value) (i0_0:Int) (n:Int) (Q:Bool→Mem→Prop):Prop:=
 jn (fun (i:Int) (Sx:Mem)=>
 Q (decide (i0_0<i)) Sx) fun Jx=>
 lp (fun Xx (i_1:Int) (Sx_1:Mem)=>
 jn (fun (Sx_2:Mem)=>
 jn (fun (j:Int) (Sx_3:Mem)=>
 ci Tryz.prog Sx_3 h "Less" [.int .i64 j, .int .i64 i_1] fun rv Sx_4 => ∃ t : Bool, rv = .bool t ∧ 
 if t=true then
 ci Tryz.prog Sx_4 h "Swap" [.int .i64 i_1, .int .i64 j] fun rv Sx_5 => rv = .tuple #[] ∧ 
 Xx j Sx_5
 else
 Jx i_1 Sx_4) fun Jx_1=>
 if IntKind.i64.wrap ((IntKind.i64.wrap ((IntKind.i64.wrap (2*i_1))+1))+1)<n then
 ci Tryz.prog Sx_2 h "Less" [.int .i64 (IntKind.i64.wrap ((IntKind.i64.wrap ((IntKind.i64.wrap (2 * i_1)) + 1)) + 1)), .int .i64 (IntKind.i64.wrap ((IntKind.i64.wrap (2 * i_1)) + 1))] fun rv Sx_6 => ∃ t_1 : Bool, rv = .bool t_1 ∧ 
 if t_1=true then
 Jx_1 (IntKind.i64.wrap ((IntKind.i64.wrap ((IntKind.i64.wrap (2*i_1))+1))+1)) Sx_6
 else
 Jx_1 (IntKind.i64.wrap ((IntKind.i64.wrap (2*i_1))+1)) Sx_6
 else
 Jx_1 (IntKind.i64.wrap ((IntKind.i64.wrap (2*i_1))+1)) Sx_2) fun Jx_2=>
 if n≤IntKind.i64.wrap ((IntKind.i64.wrap (2*i_1))+1) then
 Jx i_1 Sx_1
 else
 if IntKind.i64.wrap ((IntKind.i64.wrap (2*i_1))+1)<0 then
 Jx i_1 Sx_1
 else
 Jx_2 Sx_1) i0_0 S
theorem zdu {S:Mem} {h:Value} {i0_0:Int} {n:Int} {Q:Bool→Mem→Prop} (H:gg S h i0_0 n Q):gY S h i0_0 n Q:=by
 unfold gg at H
 exact Tr.intro Tryz.func162 E Tryz.ntmps162 E fun w0=>csr<|gv E E<|nxr<|mv E E<|gv E E<|nx<|zn H (fun (J:Int→Mem→Prop) (z:Int) S=>J z S) (fun z=>⟨48,[(1,.int .i64 i0_0),(7,.int .i64 z)]⟩) (fun z=>[]) (fun i Sx H1=>csr<|mv E E<|mv E E<|s_p E (xu E E)<|gv E E<|nx<|zi<|zh Tryz.results162 (zd E ze) ⟨_,E,H1⟩) (fun Jx hJx H2=>zw<|qB (fun z=>⟨48,[(0,h),(1,.int .i64 i0_0),(2,.int .i64 n),(7,.int .i64 z)]⟩) (fun z=>[]) i0_0 (idx:=[]) H2 E ⟨E,E,E,E,True.intro⟩ E<|fun Xx hXx i_1 Sx_1 H3=>zw<|csr<|mv E E<|s_p E (ji E E)<|s_p E (qh E E)<|gv E E<|nx<|zn H3 (fun (J:Mem→Prop) (z:Unit) S=>J S) (fun z=>⟨48,[(0,h),(1,.int .i64 i0_0),(2,.int .i64 n),(7,.int .i64 i_1),(8,.int .i64 (IntKind.i64.wrap ((IntKind.i64.wrap (2*i_1))+1)))]⟩) (fun z=>[]) (fun _ Sx_2 H4=>csr<|mv E E<|gv E E<|nx<|zn H4 (fun (J:Int→Mem→Prop) (z:Int) S=>J z S) (fun z=>⟨48,[(0,h),(1,.int .i64 i0_0),(2,.int .i64 n),(7,.int .i64 i_1),(9,.int .i64 z)]⟩) (fun z=>[]) (fun j Sx_3 H5=>zC<|csr<|mv E E<|mv E E<|mv E E<|zif E E E H5 fun rv Sx_4 H6=>by obtain⟨t,rfl,H7⟩:=H6;exact by have H8:=wM H7;rcases H8 with ⟨rfl,H9⟩ | ⟨rfl,H9⟩;exact (s_p E (yB (ql E) E)<|nx<|cfs E E<|zt<|csr<|mv E E<|mv E E<|mv E E<|zif E E E H9 fun rv Sx_5 H10=>by obtain⟨rfl,H11⟩:=H10;exact nx<|zu<|mv E E<|gv E E<|zr<|zU<|hXx j _ _ _ _ [] H11 E ⟨E,E,E,E,True.intro⟩ E);exact (s_p E (yB (ql E) E)<|nx<|c_t E E<|qt<|zl<|zby E<|zl<|zI<|hJx i_1 _ _ _ _ [] H9 E ⟨E,E,True.intro⟩ E)) (fun Jx_1 hJx_1 H12=>csr<|mv E E<|s_p E (qh E E)<|gv E E<|nxr<|mv E E<|mv E E<|iteK H12 (fun c H13=>s_p E (yT (zD E E) c)<|mv E E<|mv E E<|mv E E<|mv E E<|zif E E E H13 fun rv Sx_6 H14=>by obtain⟨t_1,rfl,H15⟩:=H14;exact by have H16:=wM H15;rcases H16 with ⟨rfl,H17⟩ | ⟨rfl,H17⟩;exact (pk E E E<|nx<|ctr E E<|mv E E<|gv E E<|zr<|hJx_1 (IntKind.i64.wrap ((IntKind.i64.wrap ((IntKind.i64.wrap (2*i_1))+1))+1)) _ _ _ _ [] H17 E ⟨E,E,E,E,E,True.intro⟩ E);exact (pk E E E<|nx<|cfs E E<|hJx_1 (IntKind.i64.wrap ((IntKind.i64.wrap (2*i_1))+1)) _ _ _ _ [] H17 E ⟨E,E,E,E,E,True.intro⟩ E)) fun c H13=>s_p E (yF (zD E E) c)<|mv E E<|sk4 E E E E<|by exact pk E E E<|nx<|cfs E E<|hJx_1 (IntKind.i64.wrap ((IntKind.i64.wrap (2*i_1))+1)) _ _ _ _ [] H13 E ⟨E,E,E,E,E,True.intro⟩ E)) (fun Jx_2 hJx_2 H18=>csr<|mv E E<|mv E E<|iteK H18 (fun c_1 H19=>s_p E (yT (qj E E) c_1)<|mv E E<|sk2 E E<|pk E E E<|nx<|c_t E E<|qt<|zl<|zby E<|zl<|zI<|hJx i_1 _ _ _ _ [] H19 E ⟨E,E,True.intro⟩ E) fun c_1 H19=>s_p E (yF (qj E E) c_1)<|mv E E<|mv E E<|iteK H19 (fun c_2 H20=>s_p E (yT (zD E E) c_2)<|pk E E E<|nx<|c_t E E<|qt<|zl<|zby E<|zl<|zI<|hJx i_1 _ _ _ _ [] H20 E ⟨E,E,True.intro⟩ E) fun c_2 H20=>s_p E (yF (zD E E) c_2)<|pk E E E<|nx<|cfs E E<|hJx_2 () _ _ _ _ [] H20 E ⟨E,E,E,E,E,True.intro⟩ E))
def zbK (S:Mem) (h:Value) (j:Int) (Q:Mem→Prop):Prop:=
 lp (fun Xx (j_1:Int) (Sx:Mem)=>
 jn (fun (Sx_1:Mem)=>
 ci Tryz.prog Sx_1 h "Swap" [.int .i64 (IntKind.i64.wrap (Int.tdiv (IntKind.i64.wrap (j_1 - 1)) 2)), .int .i64 j_1] fun rv Sx_2 => rv = .tuple #[] ∧ 
 Xx (IntKind.i64.wrap (Int.tdiv (IntKind.i64.wrap (j_1-1)) 2)) Sx_2) fun Jx=>
 if IntKind.i64.wrap (Int.tdiv (IntKind.i64.wrap (j_1-1)) 2)=j_1 then
 Q Sx
 else
 ci Tryz.prog Sx h "Less" [.int .i64 j_1, .int .i64 (IntKind.i64.wrap (Int.tdiv (IntKind.i64.wrap (j_1 - 1)) 2))] fun rv Sx_3 => ∃ t : Bool, rv = .bool t ∧ 
 if t=true then
 Jx Sx_3
 else
 Q Sx_3) j S
theorem zgl {S:Mem} {h:Value} {j:Int} {Q:Mem→Prop} (H:zbK S h j Q):zfM S h j Q:=by
 unfold zbK at H
 exact Tr.intro Tryz.func215 E Tryz.ntmps215 E fun w0=>zw<|qB (fun z=>⟨23,[(0,h),(1,.int .i64 z)]⟩) (fun z=>[]) j (idx:=[]) H E ⟨E,E,True.intro⟩ E<|fun Xx hXx j_1 Sx H1=>zw<|csr<|mv E E<|s_p E (gu E E)<|s_p E (ziD E E (by decide))<|gv E E<|nx<|zn H1 (fun (J:Mem→Prop) (z:Unit) S=>J S) (fun z=>⟨23,[(0,h),(1,.int .i64 j_1),(4,.int .i64 (IntKind.i64.wrap (Int.tdiv (IntKind.i64.wrap (j_1-1)) 2)))]⟩) (fun z=>[]) (fun _ Sx_1 H2=>csr<|mv E E<|mv E E<|mv E E<|zif E E E H2 fun rv Sx_2 H3=>by obtain⟨rfl,H4⟩:=H3;exact nx<|zu<|mv E E<|gv E E<|zr<|zU<|hXx (IntKind.i64.wrap (Int.tdiv (IntKind.i64.wrap (j_1-1)) 2)) _ _ _ _ [] H4 E ⟨E,E,True.intro⟩ E) (fun Jx hJx H5=>csr<|mv E E<|mv E E<|iteK H5 (fun c H6=>ceT E E E (c)<|mv E E<|sk4 E E E E<|zP E<|pk E E E<|nx<|c_t E E<|qt<|zl<|zby E<|zl<|zI<|wb Tryz.results215 (ze) ⟨E,H6⟩) fun c H6=>ceF E E E (c)<|mv E E<|mv E E<|mv E E<|mv E E<|zif E E E H6 fun rv Sx_3 H7=>by obtain⟨t,rfl,H8⟩:=H7;exact by have H9:=wM H8;rcases H9 with ⟨rfl,H10⟩ | ⟨rfl,H10⟩;exact (s_p E (yB (ql E) E)<|pk E E E<|nx<|cfs E E<|hJx () _ _ _ _ [] H10 E ⟨E,E,E,True.intro⟩ E);exact (s_p E (yB (ql E) E)<|pk E E E<|nx<|c_t E E<|qt<|zl<|zby E<|zl<|zI<|wb Tryz.results215 (ze) ⟨E,H10⟩))
def zcy (S:Mem) (frames:Int) (Q:Pt→Mem→Prop):Prop:=
 al S 178 ([.slice (none) 0 0,.slice (none) 0 0,.int .i64 (-1)]) fun b Sx=>
 jn (fun (Sx_1:Mem)=>
 jH Sx_1 (.iface 205 (.pointer (some ⟨b,0,none⟩))) fun Sx_2=>
 Q (some (b,0)) Sx_2) fun Jx=>
 lp (fun Xx (t:Int) (Sx_3:Mem)=>
 if t<(if 512<(if frames<0 then 0 else frames) then 512 else (if frames<0 then 0 else frames)) then
 gL (Sx_3.cell b 0) fun t_1=>
 ap Sx_3 3 1 8 [.int .i64 0] t_1 1 ([.int .i64 t]) fun t_2 Sx_4=>
 pt Sx_4 b 0 1 ([eL t_2]) fun Sx_5=>
 gL (Sx_5.cell b 1) fun t_3=>
 ap Sx_5 4 1 1 [.bool false] t_3 1 ([.bool false]) fun t_4 Sx_6=>
 pt Sx_6 b 1 1 ([eL t_4]) fun Sx_7=>
 Xx (IntKind.i64.wrap (t+1)) Sx_7
 else
 Jx Sx_3) 0 Sx
theorem ziK {S:Mem} {frames:Int} {Q:Pt→Mem→Prop} (H:zcy S frames Q):zbz S frames Q:=by
 unfold zcy at H
 exact Tr.intro Tryz.func51 E Tryz.ntmps51 E fun w0=>csr<|gv E E<|nxr<|s_p E (zF E E)<|by exact qM E E E fun b=>ku 0 E fun hb=>have H1:=H b hb;gv E E<|nx<|zn H1 (fun (J:Mem→Prop) (z:Unit) S=>J S) (fun z=>⟨39,[(3,.pointer (some ⟨b,0,none⟩))]⟩) (fun z=>[]) (fun _ Sx_1 H2=>csr<|mv E E<|s_p E (zJ E)<|s_p E (zv E E)<|s_p E (jK E)<|fK E E H2 fun Sx_2 H3=>nxr<|mv E E<|gv E E<|nx<|zi<|zh Tryz.results51 (zd E ze) ⟨_,E,H3⟩) (fun Jx hJx H4=>csr<|mv E E<|s_p E (zjF E E)<|s_p E (zjE E E)<|mv E E<|nx<|zw<|qB (fun z=>⟨39,[(3,.pointer (some ⟨b,0,none⟩)),(9,.int .i64 (if 512<(if frames<0 then 0 else frames) then 512 else (if frames<0 then 0 else frames))),(10,.int .i64 z)]⟩) (fun z=>[]) 0 (idx:=[]) H4 E ⟨E,E,E,True.intro⟩ E<|fun Xx hXx t Sx_3 H5=>csr<|iteK H5 (fun c H6=>s_p E (yT (zD E E) c)<|nx<|zC<|c_t E E<|qg<|zt<|zC<|zw<|csr<|mv E E<|gv E E<|nxr<|mv E E<|mv E E<|s_p E (zJ E)<|s_p E (zv E E)<|gx H6 fun t_1 ht_1 H7=>s_v E (zz E) (zH ht_1)<|mv E E<|zgb E E (by decide) E fun b_1=>vY (sx:=t_1) (vs:=[.int .i64 t]) E E E (zgc 0 E E) E E (by decide) H7 fun t_2 Sx_4 H8=>s_p E (zJ E)<|s_p E (zv E E)<|an H8 fun c_1 H9=>qo E E E E E c_1 E<|nx<|zu<|by exact mv E E<|mv E E<|s_p E (zJ E)<|s_p E (zv E E)<|gx H9 fun t_3 ht_3 H10=>s_v E (zz E) (zH ht_3)<|zgb E E (by decide) E fun b_2=>vY (sx:=t_3) (vs:=[.bool false]) E E E (zgc 1 E E) E E (by decide) H10 fun t_4 Sx_6 H11=>s_p E (zJ E)<|s_p E (zv E E)<|an H11 fun c_2 H12=>qo E E E E E c_2 E<|zr<|zU<|zt<|zu<|s_p E (qh E E)<|mv E E<|zr<|hXx (IntKind.i64.wrap (t+1)) _ _ _ _ [] H12 E ⟨E,E,E,True.intro⟩ E) fun c H6=>s_p E (yF (zD E E) c)<|nx<|zC<|c_f E E<|qt<|zl<|zl<|zI<|hJx () _ _ _ _ [] H6 E ⟨E,True.intro⟩ E)
def vF (S:Mem) (p:Pt) (n:Int) (Q:Int→Mem→Prop):Prop:=
 jn (fun (Sx:Mem)=>
 nn p fun b o=>
 gL (Sx.cell b (o+1)) fun t=>
 sl t fun b_1 o_1 n_1 n_2=>
 0≤n∧n<((n_1:Nat):Int) ∧
 pt Sx b_1 (o_1+n.toNat*1) 1 ([.bool false]) fun Sx_1=>
 gZ Sx_1 (.iface 205 (.pointer (some ⟨b,o,none⟩))) (.iface 3 (.int .i64 n)) fun Sx_2=>
 Q 0 Sx_2) fun Jx=>
 if p=none then
 Q 2 S
 else
 if n<0 then
 Q 1 S
 else
 nn p fun b_2 o_2=>
 gL (S.cell b_2 (o_2+1)) fun t_1=>
 if (t_1.n:Int)≤n then
 Q 1 S
 else
 gL (S.cell b_2 (o_2+1)) fun t_2=>
 sl t_2 fun b_3 o_3 n_3 n_4=>
 0≤n∧n<((n_3:Nat):Int) ∧
 gB (S.cell b_3 (o_3+n.toNat*1)) fun t_3=>
 if t_3=true then
 Jx S
 else
 Q 8 S
theorem zcS {S:Mem} {p:Pt} {n:Int} {Q:Int→Mem→Prop} (H:vF S p n Q):yg S p n Q:=by
 unfold vF at H
 exact Tr.intro Tryz.func88 E Tryz.ntmps88 E fun w0=>csr<|gv E E<|nx<|zn H (fun (J:Mem→Prop) (z:Unit) S=>J S) (fun z=>⟨42,[(0,eP p),(1,.int .i64 n)]⟩) (fun z=>[]) (fun _ Sx H1=>csr<|mv E E<|by obtain⟨b,o,rfl,H2⟩:=H1;exact s_p E (zJ E)<|s_p E (zv E E)<|gx H2 fun t ht H3=>s_v E (zz E) (zH ht)<|mv E E<|by obtain⟨b_1,o_1,n_1,n_2,rfl,H4⟩:=H3;exact an2 H4 fun c c_1 H5=>s_p E (qS E E c c_1 E)<|an H5 fun c_2 H6=>qo E E E E E c_2 E<|nxr<|mv E E<|s_p E (zJ E)<|s_p E (zv E E)<|s_p E (jK E)<|mv E E<|s_p E (jK E)<|fK E E H6 fun Sx_2 H7=>nxr<|gv E E<|nx<|zi<|zh Tryz.results88 (zd E ze) ⟨_,E,H7⟩) (fun Jx hJx H8=>zw<|csr<|mv E E<|iteK H8 (fun c_3 H9=>s_p E (yT (qE (p:=p) E E) c_3)<|gv E E<|nx<|c_t E E<|csr<|gv E E<|nx<|zi<|zj<|zb<|zh Tryz.results88 (zd E ze) ⟨_,E,H9⟩) fun c_3 H9=>s_p E (yF (qE (p:=p) E E) c_3)<|gv E E<|nx<|c_f E E<|csr<|mv E E<|iteK H9 (fun c_4 H10=>s_p E (yT (zD E E) c_4)<|mv E E<|sk4 E E E E<|sk2 E E<|zP E<|pk E E E<|gv E E<|nx<|c_t E E<|csr<|gv E E<|nx<|zi<|zj<|zb<|zh Tryz.results88 (zd E ze) ⟨_,E,H10⟩) fun c_4 H10=>s_p E (yF (zD E E) c_4)<|mv E E<|mv E E<|mv E E<|by obtain⟨b_2,o_2,rfl,H11⟩:=H10;exact s_p E (zJ E)<|s_p E (zv E E)<|gx H11 fun t_1 ht_1 H12=>s_v E (zz E) (zH ht_1)<|s_p E (yk E)<|iteK H12 (fun c_5 H13=>s_p E (yT (qj E E) c_5)<|pk E E E<|gv E E<|nx<|c_t E E<|csr<|gv E E<|nx<|zi<|zj<|zb<|zh Tryz.results88 (zd E ze) ⟨_,E,H13⟩) fun c_5 H13=>s_p E (yF (qj E E) c_5)<|pk E E E<|gv E E<|nx<|c_f E E<|csr<|mv E E<|s_p E (zJ E)<|s_p E (zv E E)<|gx H13 fun t_2 ht_2 H14=>s_v E (zz E) (zH ht_2)<|mv E E<|by obtain⟨b_3,o_3,n_3,n_4,rfl,H15⟩:=H14;exact an2 H15 fun c_6 c_7 H16=>s_p E (qS E E c_6 c_7 E)<|gx H16 fun t_3 ht_3 H17=>by have H18:=wM H17;rcases H18 with ⟨rfl,H19⟩ | ⟨rfl,H19⟩;exact (s_v E (zz E) (zH ht_3)<|s_p E (yB (ql E) E)<|gv E E<|nx<|cfs E E<|zU<|hJx () _ _ _ _ [] H19 E ⟨E,E,True.intro⟩ E);exact (s_v E (zz E) (zH ht_3)<|s_p E (yB (ql E) E)<|gv E E<|nx<|c_t E E<|csr<|gv E E<|nx<|zi<|zj<|zb<|zh Tryz.results88 (zd E ze) ⟨_,E,H19⟩))
def vE (S:Mem) (p:Pt) (Q:Int→Mem→Prop):Prop:=
 if p=none then
 Q 0 S
 else
 nn p fun b o=>
 gL (S.cell b o) fun t=>
 Q (t.n:Int) S
theorem zcR {S:Mem} {p:Pt} {Q:Int→Mem→Prop} (H:vE S p Q):vj S p Q:=by
 unfold vE at H
 exact Tr.intro Tryz.func34 E Tryz.ntmps34 E fun w0=>csr<|gv E E<|nx<|zC<|csr<|mv E E<|iteK H (fun c H1=>s_p E (yT (qE (p:=p) E E) c)<|nx<|c_t E E<|csr<|gv E E<|nx<|zi<|zb<|zh Tryz.results34 (zd E ze) ⟨_,E,H1⟩) fun c H1=>s_p E (yF (qE (p:=p) E E) c)<|nx<|cfs E E<|zt<|csr<|mv E E<|by obtain⟨b,o,rfl,H2⟩:=H1;exact s_p E (zJ E)<|s_p E (zv E E)<|gx H2 fun t ht H3=>s_v E (zz E) (zH ht)<|s_p E (yk E)<|gv E E<|nx<|zi<|zh Tryz.results34 (zd E ze) ⟨_,E,H3⟩
def vD (S:Mem) (p:Pt) (n:Int) (Q:Sl→Int→Mem→Prop):Prop:=
 jn (fun (Sx:Mem)=>
 jn (fun (l:Sl) (Sx_1:Mem)=>
 Q l 0 Sx_1) fun Jx=>
 lp (fun Xx (z:Sl×Int) (Sx_2:Mem)=>
 match z with
 | (l_1,t)=>
 if t<(if n<0 then 0 else n) then
 jn (fun (l_2:Sl) (Sx_3:Mem)=>
 Xx (l_2,IntKind.i64.wrap (t+1)) Sx_3) fun Jx_1=>
 vi Sx_2 p fun t_1 t_2 Sx_4=>
 jn (fun (Sx_5:Mem)=>
 ap Sx_5 3 1 8 [.int .i64 0] l_1 1 ([.int .i64 t_1]) fun t_3 Sx_6=>
 Jx_1 t_3 Sx_6) fun Jx_2=>
 if t_2≠0 then
 jn (fun (Sx_7:Mem)=>
 Q (⟨none,0,0⟩) t_2 Sx_7) fun Jx_3=>
 lp (fun Xx_1 (t_4:Int) (Sx_8:Mem)=>
 if t_4<(l_1.n:Int) then
 sl l_1 fun b_1 o n_1 n_2=>
 0≤t_4∧t_4<((n_1:Nat):Int) ∧
 gI (Sx_8.cell b_1 (o+t_4.toNat*1)) .i64 fun t_5=>
 yg Sx_8 p t_5 fun t_6 Sx_9=>
 Xx_1 (IntKind.i64.wrap (t_4+1)) Sx_9
 else
 Jx_3 Sx_8) 0 Sx_4
 else
 Jx_2 Sx_4
 else
 Jx l_1 Sx_2) (⟨none,0,0⟩,0) Sx) fun Jx_4=>
 if p=none then
 Q (⟨none,0,0⟩) 2 S
 else
 Jx_4 S
theorem zcQ {S:Mem} {p:Pt} {n:Int} {Q:Sl→Int→Mem→Prop} (H:vD S p n Q):xE S p n Q:=by
 unfold vD at H
 exact Tr.intro Tryz.func71 E Tryz.ntmps71 E fun w0=>csr<|gv E E<|gv E E<|nx<|zn H (fun (J:Mem→Prop) (z:Unit) S=>J S) (fun z=>⟨41,[(0,eP p),(1,.int .i64 n)]⟩) (fun z=>[]) (fun _ Sx H1=>csr<|gv E E<|nx<|zn H1 (fun (J:Sl→Mem→Prop) (z:Sl) S=>J z S) (fun z=>⟨41,[(6,eL z)]⟩) (fun z=>[]) (fun l Sx_1 H2=>csr<|mv E E<|gv E E<|gv E E<|nx<|zi<|zh Tryz.results71 (zd E (zd E ze)) ⟨_,_,E,H2⟩) (fun Jx hJx H3=>csr<|mv E E<|s_p E (zjF E E)<|mv E E<|nx<|zw<|qB (fun z=>⟨41,[(0,eP p),(6,eL z.1),(14,.int .i64 (if n<0 then 0 else n)),(15,.int .i64 z.2)]⟩) (fun z=>[]) (⟨none,0,0⟩,0) (idx:=[]) H3 E ⟨E,E,E,E,True.intro⟩ E<|by rintro Xx hXx ⟨l_1,t⟩ Sx_2 H4;exact csr<|iteK H4 (fun c H5=>s_p E (yT (zD E E) c)<|nx<|zC<|c_t E E<|qg<|zt<|zn H5 (fun (J:Sl→Mem→Prop) (z:Sl) S=>J z S) (fun z=>⟨41,[(0,eP p),(6,eL z),(14,.int .i64 (if n<0 then 0 else n)),(15,.int .i64 t)]⟩) (fun z=>[]) (fun l_2 Sx_3 H6=>zu<|s_p E (qh E E)<|mv E E<|zr<|hXx (l_2,IntKind.i64.wrap (t+1)) _ _ _ _ [] H6 E ⟨E,E,E,E,True.intro⟩ E) (fun Jx_1 hJx_1 H7=>zw<|csr<|mv E E<|gO E E H7 fun t_1 t_2 Sx_4 H8=>mv E E<|s_p E (zg E E)<|s_p E (zg E E)<|gv E E<|gv E E<|nx<|zn H8 (fun (J:Mem→Prop) (z:Unit) S=>J S) (fun z=>⟨41,[(0,eP p),(6,eL l_1),(7,.int .i64 t_1),(14,.int .i64 (if n<0 then 0 else n)),(15,.int .i64 t)]⟩) (fun z=>[]) (fun _ Sx_5 H9=>zu<|mv E E<|mv E E<|zgb E E (by decide) E fun b=>vY (sx:=l_1) (vs:=[.int .i64 t_1]) E E E (zgc 0 E E) E E (by decide) H9 fun t_3 Sx_6 H10=>gv E E<|zr<|zU<|hJx_1 t_3 _ _ _ _ [] H10 E ⟨E,E,E,E,True.intro⟩ E) (fun Jx_2 hJx_2 H11=>csr<|mv E E<|iteK H11 (fun c_1 H12=>s_p E (yT (zQ E E) c_1)<|nx<|c_t E E<|zn H12 (fun (J:Mem→Prop) (z:Unit) S=>J S) (fun z=>⟨41,[(8,.int .i64 t_2)]⟩) (fun z=>[]) (fun _ Sx_7 H13=>csr<|mv E E<|gv E E<|gv E E<|nx<|zi<|zb<|zj<|zb<|zb<|zj<|zb<|zh Tryz.results71 (zd E (zd E ze)) ⟨_,_,E,H13⟩) (fun Jx_3 hJx_3 H14=>csr<|mv E E<|s_p E (yk E)<|mv E E<|nx<|zw<|qB (fun z=>⟨41,[(0,eP p),(8,.int .i64 t_2),(24,eL l_1),(25,.int .i64 (l_1.n:Int)),(26,.int .i64 z)]⟩) (fun z=>[]) 0 (idx:=[]) H14 E ⟨E,E,E,E,E,True.intro⟩ E<|fun Xx_1 hXx_1 t_4 Sx_8 H15=>csr<|iteK H15 (fun c_2 H16=>s_p E (yT (zD E E) c_2)<|nx<|zC<|c_t E E<|qg<|zt<|by exact zC<|zw<|csr<|by obtain⟨b_1,o,n_1,n_2,rfl,H17⟩:=H16;exact an2 H17 fun c_3 c_4 H18=>s_p E (qS E E c_3 c_4 E)<|gx H18 fun t_5 ht_5 H19=>s_v E (zz E) (zH ht_5)<|gv E E<|nx<|zu<|mv E E<|mv E E<|qC E E H19 fun t_6 Sx_9 H20=>zr<|zU<|zt<|zu<|s_p E (qh E E)<|mv E E<|zr<|hXx_1 (IntKind.i64.wrap (t_4+1)) _ _ _ _ [] H20 E ⟨E,E,E,E,E,True.intro⟩ E) fun c_2 H16=>s_p E (yF (zD E E) c_2)<|nx<|zC<|c_f E E<|qt<|zl<|zl<|zI<|by exact hJx_3 () _ _ _ _ [] H16 E ⟨E,True.intro⟩ E)) fun c_1 H12=>s_p E (yF (zQ E E) c_1)<|nx<|cfs E E<|hJx_2 () _ _ _ _ [] H12 E ⟨E,E,E,E,E,True.intro⟩ E))) fun c H5=>s_p E (yF (zD E E) c)<|nx<|zC<|c_f E E<|qt<|zl<|zl<|zI<|hJx l_1 _ _ _ _ [] H5 E ⟨E,True.intro⟩ E)) (fun Jx_4 hJx_4 H21=>csr<|mv E E<|iteK H21 (fun c_5 H22=>s_p E (yT (qE (p:=p) E E) c_5)<|nx<|c_t E E<|csr<|gv E E<|gv E E<|nx<|zi<|zb<|zh Tryz.results71 (zd E (zd E ze)) ⟨_,_,E,H22⟩) fun c_5 H22=>s_p E (yF (qE (p:=p) E E) c_5)<|nx<|cfs E E<|hJx_4 () _ _ _ _ [] H22 E ⟨E,E,True.intro⟩ E)
def vC (S:Mem) (p:Pt) (Q:Int→Int→Mem→Prop):Prop:=
 jn (fun (Sx:Mem)=>
 nn p fun b o=>
 gI (Sx.cell b (o+2)) .i64 fun t=>
 pt Sx b (o+2) 1 ([.int .i64 (if IntKind.i64.wrap (t-1)<(-1) then (-1) else IntKind.i64.wrap (t-1))]) fun Sx_1=>
 zfN Sx_1 (.iface 205 (.pointer (some ⟨b,o,none⟩))) fun t_1 Sx_2=>
 asI t_1 3 .i64 fun t_2=>
 gL (Sx_2.cell b (o+1)) fun t_3=>
 sl t_3 fun b_1 o_1 n n_1=>
 0≤t_2∧t_2<((n:Nat):Int) ∧
 pt Sx_2 b_1 (o_1+t_2.toNat*1) 1 ([.bool true]) fun Sx_3=>
 Q t_2 0 Sx_3) fun Jx=>
 if p=none then
 Q 0 2 S
 else
 nn p fun b_2 o_2=>
 gI (S.cell b_2 (o_2+2)) .i64 fun t_4=>
 if t_4=0 then
 Q 0 3 S
 else
 gL (S.cell b_2 o_2) fun t_5=>
 if (t_5.n:Int)=0 then
 Q 0 3 S
 else
 Jx S
theorem zcP {S:Mem} {p:Pt} {Q:Int→Int→Mem→Prop} (H:vC S p Q):vi S p Q:=by
 unfold vC at H
 exact Tr.intro Tryz.func139 E Tryz.ntmps139 E fun w0=>csr<|gv E E<|gv E E<|nx<|zn H (fun (J:Mem→Prop) (z:Unit) S=>J S) (fun z=>⟨44,[(0,eP p)]⟩) (fun z=>[]) (fun _ Sx H1=>csr<|mv E E<|mv E E<|by obtain⟨b,o,rfl,H2⟩:=H1;exact s_p E (zJ E)<|s_p E (zv E E)<|gx H2 fun t ht H3=>s_v E (zz E) (zH ht)<|s_p E (gu E E)<|s_p E (zjF E E)<|s_p E (zJ E)<|s_p E (zv E E)<|an H3 fun c H4=>qo E E E E E c E<|nxr<|mv E E<|s_p E (zJ E)<|s_p E (zv E E)<|s_p E (jK E)<|qC E E H4 fun t_1 Sx_2 H5=>by obtain⟨t_2,rfl,H6⟩:=H5;exact s_p E (zfj E)<|gv E E<|nxr<|mv E E<|s_p E (zJ E)<|s_p E (zv E E)<|gx H6 fun t_3 ht_3 H7=>s_v E (zz E) (zH ht_3)<|mv E E<|by obtain⟨b_1,o_1,n,n_1,rfl,H8⟩:=H7;exact an2 H8 fun c_1 c_2 H9=>s_p E (qS E E c_1 c_2 E)<|an H9 fun c_3 H10=>qo E E E E E c_3 E<|nxr<|mv E E<|gv E E<|gv E E<|nx<|zi<|zh Tryz.results139 (zd E (zd E ze)) ⟨_,_,E,H10⟩) (fun Jx hJx H11=>zw<|csr<|mv E E<|iteK H11 (fun c_4 H12=>s_p E (yT (qE (p:=p) E E) c_4)<|gv E E<|nx<|c_t E E<|csr<|gv E E<|gv E E<|nx<|zi<|zj<|zb<|zh Tryz.results139 (zd E (zd E ze)) ⟨_,_,E,H12⟩) fun c_4 H12=>s_p E (yF (qE (p:=p) E E) c_4)<|gv E E<|nx<|c_f E E<|csr<|mv E E<|by obtain⟨b_2,o_2,rfl,H13⟩:=H12;exact s_p E (zJ E)<|s_p E (zv E E)<|gx H13 fun t_4 ht_4 H14=>s_v E (zz E) (zH ht_4)<|iteK H14 (fun c_5 H15=>ceT E E E (c_5)<|mv E E<|sk4 E E E E<|sk2 E E<|pk E E E<|gv E E<|nx<|c_t E E<|csr<|gv E E<|gv E E<|nx<|zi<|zj<|zb<|zh Tryz.results139 (zd E (zd E ze)) ⟨_,_,E,H15⟩) fun c_5 H15=>ceF E E E (c_5)<|mv E E<|mv E E<|s_p E (zJ E)<|s_p E (zv E E)<|gx H15 fun t_5 ht_5 H16=>s_v E (zz E) (zH ht_5)<|s_p E (yk E)<|iteK H16 (fun c_6 H17=>ceT E E E (c_6)<|pk E E E<|gv E E<|nx<|c_t E E<|csr<|gv E E<|gv E E<|nx<|zi<|zj<|zb<|zh Tryz.results139 (zd E (zd E ze)) ⟨_,_,E,H17⟩) fun c_6 H17=>ceF E E E (c_6)<|pk E E E<|gv E E<|nx<|cfs E E<|zU<|hJx () _ _ _ _ [] H17 E ⟨E,True.intro⟩ E)
def fm (S:Mem) (f:Sl) (Q:Int→Mem→Prop):Prop:=
 Q (f.n:Int) S
theorem zdr {S:Mem} {f:Sl} {Q:Int→Mem→Prop} (H:fm S f Q):zfz S f Q:=by
 unfold fm at H
 exact Tr.intro Tryz.func273 E Tryz.ntmps273 E fun w0=>csr<|gv E E<|nxr<|mv E E<|s_p E (yk E)<|gv E E<|nx<|zi<|zh Tryz.results273 (zd E ze) ⟨_,E,H⟩
def vB (S:Mem) (f:Sl) (i:Int) (j:Int) (Q:Bool→Mem→Prop):Prop:=
 sl f fun b o n n_1=>
 0≤i∧i<((n:Nat):Int) ∧
 gI (S.cell b (o+i.toNat*1)) .i64 fun t=>
 0≤j∧j<((n:Nat):Int) ∧
 gI (S.cell b (o+j.toNat*1)) .i64 fun t_1=>
 Q (decide (t<t_1)) S
theorem zcO {S:Mem} {f:Sl} {i:Int} {j:Int} {Q:Bool→Mem→Prop} (H:vB S f i j Q):zaj S f i j Q:=by
 unfold vB at H
 exact Tr.intro Tryz.func274 E Tryz.ntmps274 E fun w0=>csr<|gv E E<|nx<|zC<|zM (by kernel_rfl)<|aTP 0 E (by decide +kernel) E (zm E)<|by exact aTP 1 E (by decide +kernel) E (zm E)<|by exact by obtain⟨b,o,n,n_1,rfl,H1⟩:=H;exact an2 H1 fun c c_1 H2=>aTP 2 E (by decide +kernel) E (qS E E c c_1 E)<|by exact gx H2 fun t ht H3=>aT 3 E (by decide +kernel) E (zz E) (zH ht)<|by exact aTP 4 E (by decide +kernel) E (zm E)<|by exact aTP 5 E (by decide +kernel) E (zm E)<|by exact an2 H3 fun c_2 c_3 H4=>aTP 6 E (by decide +kernel) E (qS E E c_2 c_3 E)<|by exact gx H4 fun t_1 ht_1 H5=>aT 7 E (by decide +kernel) E (zz E) (zH ht_1)<|by exact aTP 8 E (by decide +kernel) E (zD E E)<|by exact aTP 9 E (by decide +kernel) E (zS E)<|by exact zK (by decide +kernel)<|by exact zt<|zi<|zh Tryz.results274 (zd E ze) ⟨_,E,H5⟩
def kJ (S:Mem) (f:Pt) (Q:Value→Mem→Prop):Prop:=
 nn f fun b o=>
 gL (S.cell b o) fun t=>
 sl t fun b_1 o_1 n n_1=>
 0≤IntKind.i64.wrap ((t.n:Int)-1)∧IntKind.i64.wrap ((t.n:Int)-1)<((n:Nat):Int) ∧
 gI (S.cell b_1 (o_1+(IntKind.i64.wrap ((t.n:Int)-1)).toNat*1)) .i64 fun t_1=>
 (0:Int)≤IntKind.i64.wrap ((n:Int)-1)∧IntKind.i64.wrap ((n:Int)-1)≤((⟨some (b_1,o_1),n,n_1⟩:Sl).c:Int) ∧
 lt (slc 1 (⟨some (b_1,o_1),n,n_1⟩:Sl) 0 (IntKind.i64.wrap ((n:Int)-1))) fun t_2=>
 pt S b o 1 ([eL t_2]) fun Sx=>
 Q (.iface 3 (.int .i64 t_1)) Sx
theorem zdq {S:Mem} {f:Pt} {Q:Value→Mem→Prop} (H:kJ S f Q):zfy S f Q:=by
 unfold kJ at H
 exact Tr.intro Tryz.func276 E Tryz.ntmps276 E fun w0=>csr<|gv E E<|nxr<|mv E E<|by obtain⟨b,o,rfl,H1⟩:=H;exact s_p E (zJ E)<|gx H1 fun t ht H2=>s_v E (zz E) (zH ht)<|gv E E<|nxr<|mv E E<|mv E E<|s_p E (yk E)<|s_p E (gu E E)<|by obtain⟨b_1,o_1,n,n_1,rfl,H3⟩:=H2;exact an2 H3 fun c c_1 H4=>s_p E (qS E E c c_1 E)<|gx H4 fun t_1 ht_1 H5=>s_v E (zz E) (zH ht_1)<|gv E E<|nxr<|mv E E<|mv E E<|mv E E<|s_p E (yk E)<|s_p E (gu E E)<|an2 H5 fun c_3 c_4 H6=>by obtain⟨t_2,et_2,H7⟩:=zjD H6;exact s_p E (eqv (zcK (a:=0) (b:=IntKind.i64.wrap ((n:Int)-1)) E E E (by decide) c_3 c_4) (congrArg eL et_2))<|s_p E (zJ E)<|an H7 fun c_5 H8=>qo E E E E E c_5 E<|nxr<|mv E E<|s_p E (jK E)<|gv E E<|nx<|zi<|zh Tryz.results276 (zd E ze) ⟨_,E,H8⟩
def vA (S:Mem) (f:Pt) (x:Value) (Q:Mem→Prop):Prop:=
 nn f fun b o=>
 gL (S.cell b o) fun t=>
 asI x 3 .i64 fun t_1=>
 ap S 3 1 8 [.int .i64 0] t 1 ([.int .i64 t_1]) fun t_2 Sx=>
 pt Sx b o 1 ([eL t_2]) fun Sx_1=>
 Q Sx_1
theorem zcN {S:Mem} {f:Pt} {x:Value} {Q:Mem→Prop} (H:vA S f x Q):zex S f x Q:=by
 unfold vA at H
 exact Tr.intro Tryz.func277 E Tryz.ntmps277 E fun w0=>zM (by kernel_rfl)<|a_takeP 0 E (by decide +kernel) zc E (zm E)<|by exact a_takeP 1 E (by decide +kernel) zc E (zm E)<|by exact by obtain⟨b,o,rfl,H1⟩:=H;exact a_takeP 2 E (by decide +kernel) zc E (zJ E)<|by exact gx H1 fun t ht H2=>zV 3 E (by decide +kernel) zc E (zz E) (zH ht)<|by exact a_takeP 4 E (by decide +kernel) zc E (zm E)<|by exact by obtain⟨t_1,rfl,H3⟩:=H2;exact a_takeP 5 E (by decide +kernel) zc E (zfj E)<|by exact zB 6 (by decide +kernel) E<|by exact zgb E E (by decide) E fun b_1=>zr<|zN (zx (zH ht) zy)<|zB 7 (by decide +kernel) E<|by exact vY (sx:=t) (vs:=[.int .i64 t_1]) E E E (zgc 0 E E) E E (by decide) H3 fun t_2 Sx H4=>zr<|zN zy<|a_takeP 8 E (by decide +kernel) zc E (zJ E)<|by exact zB 9 (by decide +kernel) E<|by exact an H4 fun c H5=>qo E E E E E c E<|zr<|zN zy<|zK (by decide +kernel)<|by exact wb Tryz.results277 (ze) ⟨E,H5⟩
def vz (S:Mem) (f:Sl) (i:Int) (j:Int) (Q:Mem→Prop):Prop:=
 sl f fun b o n n_1=>
 0≤j∧j<((n:Nat):Int) ∧
 gI (S.cell b (o+j.toNat*1)) .i64 fun t=>
 0≤i∧i<((n:Nat):Int) ∧
 gI (S.cell b (o+i.toNat*1)) .i64 fun t_1=>
 0≤i∧i<((n:Nat):Int) ∧
 pt S b (o+i.toNat*1) 1 ([.int .i64 t]) fun Sx=>
 0≤j∧j<((n:Nat):Int) ∧
 pt Sx b (o+j.toNat*1) 1 ([.int .i64 t_1]) fun Sx_1=>
 Q Sx_1
theorem zcM {S:Mem} {f:Sl} {i:Int} {j:Int} {Q:Mem→Prop} (H:vz S f i j Q):zai S f i j Q:=by
 unfold vz at H
 exact Tr.intro Tryz.func275 E Tryz.ntmps275 E fun w0=>zM (by kernel_rfl)<|a_takeP 0 E (by decide +kernel) zc E (zm E)<|by exact a_takeP 1 E (by decide +kernel) zc E (zm E)<|by exact a_takeP 2 E (by decide +kernel) zc E (zm E)<|by exact a_takeP 3 E (by decide +kernel) zc E (zm E)<|by exact a_takeP 4 E (by decide +kernel) zc E (zm E)<|by exact a_takeP 5 E (by decide +kernel) zc E (zm E)<|by exact by obtain⟨b,o,n,n_1,rfl,H1⟩:=H;exact an2 H1 fun c c_1 H2=>a_takeP 6 E (by decide +kernel) zc E (qS E E c c_1 E)<|by exact gx H2 fun t ht H3=>zV 7 E (by decide +kernel) zc E (zz E) (zH ht)<|by exact a_takeP 8 E (by decide +kernel) zc E (zm E)<|by exact a_takeP 9 E (by decide +kernel) zc E (zm E)<|by exact an2 H3 fun c_2 c_3 H4=>a_takeP 10 E (by decide +kernel) zc E (qS E E c_2 c_3 E)<|by exact gx H4 fun t_1 ht_1 H5=>zV 11 E (by decide +kernel) zc E (zz E) (zH ht_1)<|by exact an2 H5 fun c_4 c_5 H6=>a_takeP 12 E (by decide +kernel) zc E (qS E E c_4 c_5 E)<|by exact zB 13 (by decide +kernel) E<|by exact an H6 fun c_6 H7=>qo E E E E E c_6 E<|zr<|zN zy<|an2 H7 fun c_7 c_8 H8=>a_takeP 14 E (by decide +kernel) zc E (qS E E c_7 c_8 E)<|by exact zB 15 (by decide +kernel) E<|by exact an H8 fun c_9 H9=>qo E E E E E c_9 E<|zr<|zN zy<|zK (by decide +kernel)<|by exact wb Tryz.results275 (ze) ⟨E,H9⟩
end Go.Proofs.YtabdpmnhjlmnlaaGreatDoor
end
section
namespace Go.Proofs.YtabdpmnhjlmnlaaGreatDoor
open Go Go.Pt
attribute [local irreducible] Code.wp Back bodyPost wpList FR WL WC WQ WA AW Tr Yc HC AllC
set_option maxRecDepth 20000
set_option maxHeartbeats 4000000
set_option linter.unusedVariables false
def xD (S:Mem) (a:List Value) (b:List Value) (Q:Bool→Mem→Prop):Prop:=
 a.length=3 ∧
 b.length=3 ∧
 jn (fun (Sx:Mem)=>
 gI (nthL a 2) .i64 fun t=>
 gI (nthL b 2) .i64 fun t_1=>
 Q (decide (t<t_1)) Sx) fun Jx=>
 gI (nthL a 0) .u64 fun t_2=>
 gI (nthL b 0) .u64 fun t_3=>
 if t_2≠t_3 then
 gI (nthL a 0) .u64 fun t_4=>
 gI (nthL b 0) .u64 fun t_5=>
 Q (decide (t_4<t_5)) S
 else
 gI (nthL a 1) .i64 fun t_6=>
 gI (nthL b 1) .i64 fun t_7=>
 if t_6≠t_7 then
 gI (nthL a 1) .i64 fun t_8=>
 gI (nthL b 1) .i64 fun t_9=>
 Q (decide (t_8<t_9)) S
 else
 Jx S
theorem zac {S:Mem} {a:List Value} {b:List Value} {Q:Bool→Mem→Prop} (H:xD S a b Q):wL S a b Q:=by
 unfold xD at H
 exact Tr.intro Tryz.func272 E Tryz.ntmps272 E fun w0=>an H fun ha H1=>an H1 fun hb H2=>csr<|qM E E E fun b_1=>qM E E E fun b_2=>gv E E<|nx<|zn H2 (fun (J:Mem→Prop) (z:Unit) S=>J S) (fun z=>⟨32,[(2,.pointer (some ⟨b_1,0,none⟩)),(3,.pointer (some ⟨b_2,0,none⟩))]⟩) (fun z=>[⟨b_1,193,a⟩,⟨b_2,193,b⟩]) (fun _ Sx H3=>csr<|s_p E (zv E E)<|gx H3 fun t ht H4=>s_v E (zz E) (zW 0 E ht)<|s_p E (zv E E)<|gx H4 fun t_1 ht_1 H5=>s_v E (zz E) (zW 1 E ht_1)<|s_p E (zD E E)<|gv E E<|nx<|zi<|zh Tryz.results272 (zd E ze) ⟨_,E,H5⟩) (fun Jx hJx H6=>zw<|csr<|s_p E (zv E E)<|gx H6 fun t_2 ht_2 H7=>s_v E (zz E) (zW 0 E ht_2)<|s_p E (zv E E)<|gx H7 fun t_3 ht_3 H8=>s_v E (zz E) (zW 1 E ht_3)<|iteK H8 (fun c H9=>s_p E (yT (zQ E E) c)<|gv E E<|nx<|c_t E E<|csr<|s_p E (zv E E)<|gx H9 fun t_4 ht_4 H10=>s_v E (zz E) (zW 0 E ht_4)<|s_p E (zv E E)<|gx H10 fun t_5 ht_5 H11=>s_v E (zz E) (zW 1 E ht_5)<|s_p E (zD E E)<|gv E E<|nx<|zi<|zj<|zb<|zh Tryz.results272 (zd E ze) ⟨_,E,H11⟩) fun c H9=>s_p E (yF (zQ E E) c)<|gv E E<|nx<|c_f E E<|csr<|s_p E (zv E E)<|gx H9 fun t_6 ht_6 H12=>s_v E (zz E) (zW 0 E ht_6)<|s_p E (zv E E)<|gx H12 fun t_7 ht_7 H13=>s_v E (zz E) (zW 1 E ht_7)<|iteK H13 (fun c_1 H14=>s_p E (yT (zQ E E) c_1)<|gv E E<|nx<|c_t E E<|csr<|s_p E (zv E E)<|gx H14 fun t_8 ht_8 H15=>s_v E (zz E) (zW 0 E ht_8)<|s_p E (zv E E)<|gx H15 fun t_9 ht_9 H16=>s_v E (zz E) (zW 1 E ht_9)<|s_p E (zD E E)<|gv E E<|nx<|by exact zi<|zj<|zb<|zh Tryz.results272 (zd E ze) ⟨_,E,H16⟩) fun c_1 H14=>s_p E (yF (zQ E E) c_1)<|gv E E<|nx<|cfs E E<|zU<|hJx () _ _ _ _ [0,0] H14 E ⟨E,E,True.intro⟩ E)
def wJ (S:Mem) (c:Pt) (vm:Int) (seat:Int) (Q:Mem→Prop):Prop:=
 al S 3 ([.int .i64 vm]) fun b Sx=>
 al Sx 3 ([.int .i64 seat]) fun b_1 Sx_1=>
 xJ Sx_1 c (.func (.func 242) #[] #[.pointer (some ⟨b,0,none⟩),.pointer (some ⟨b_1,0,none⟩)]) fun Sx_2=>
 Q Sx_2
theorem zbr {S:Mem} {c:Pt} {vm:Int} {seat:Int} {Q:Mem→Prop} (H:wJ S c vm seat Q):vS S c vm seat Q:=by
 unfold wJ at H
 exact Tr.intro Tryz.func230 E Tryz.ntmps230 E fun w0=>csr<|qM E E E fun b=>ku 0 E fun hb=>have H1:=H b hb;qM E E E fun b_1=>ku 0 E fun hb_1=>have H2:=H1 b_1 hb_1;nx<|zu<|mv E E<|s_p E (zlq E)<|fK E E H2 fun Sx_2 H3=>zr<|wb Tryz.results230 (ze) ⟨E,H3⟩
def xj (S:Mem) (a:List Value) (t:Pt) (t_1:Pt) (Q:Bool→Mem→Prop):Prop:=
 a.length=3 ∧
 gI (nthL a 1) .i64 fun t_2=>
 nn t fun b_1 o=>
 gI (S.cell b_1 o) .i64 fun t_3=>
 if t_2=t_3 then
 gI (nthL a 2) .i64 fun t_4=>
 nn t_1 fun b_2 o_1=>
 gI (S.cell b_2 o_1) .i64 fun t_5=>
 Q (decide (t_4=t_5)) S
 else
 Q false S
theorem gK {S:Mem} {a:List Value} {t:Pt} {t_1:Pt} {Q:Bool→Mem→Prop} (H:xj S a t t_1 Q):zaX S a t t_1 Q:=by
 unfold xj at H
 exact Tr.intro Tryz.func242 E Tryz.ntmps242 E fun w0=>an H fun ha H1=>csr<|qM E E E fun b=>gv E E<|nxr<|s_p E (zv E E)<|gx H1 fun t_2 ht_2 H2=>s_v E (zz E) (zW 0 E ht_2)<|by obtain⟨b_1,o,rfl,H3⟩:=H2;exact gx H3 fun t_3 ht_3 H4=>s_v E (zz E) (zH ht_3)<|iteK H4 (fun c H5=>ceT E E E (c)<|mv E E<|s_p E (zv E E)<|gx H5 fun t_4 ht_4 H6=>s_v E (zz E) (zW 0 E ht_4)<|by obtain⟨b_2,o_1,rfl,H7⟩:=H6;exact gx H7 fun t_5 ht_5 H8=>s_v E (zz E) (zH ht_5)<|s_p E (jA E E)<|pk E E E<|gv E E<|nx<|zi<|zh Tryz.results242 (zd E ze) ⟨_,E,H8⟩) fun c H5=>ceF E E E (c)<|mv E E<|sk4 E E E E<|pk E E E<|gv E E<|nx<|zi<|zh Tryz.results242 (zd E ze) ⟨_,E,H5⟩
def vg (S:Mem) (c:Pt) (vm:Int) (seat:Int) (atx:Int) (Q:Int→Mem→Prop):Prop:=
 jn (fun (Sx:Mem)=>
 vS Sx c vm seat fun Sx_1=>
 nn c fun b o=>
 gZ Sx_1 (.iface 269 (.pointer (some ⟨b,o,none⟩))) (.iface 193 (valL ([.int .u64 atx,.int .i64 vm,.int .i64 seat]))) fun Sx_2=>
 Q 0 Sx_2) fun Jx=>
 if c=none then
 Q 2 S
 else
 if vm<0 then
 Q 1 S
 else
 if 6≤vm then
 Q 1 S
 else
 if seat<0 then
 Q 1 S
 else
 if 3≤seat then
 Q 1 S
 else
 Jx S
theorem zbY {S:Mem} {c:Pt} {vm:Int} {seat:Int} {atx:Int} {Q:Int→Mem→Prop} (H:vg S c vm seat atx Q):wK S c vm seat atx Q:=by
 unfold vg at H
 exact Tr.intro Tryz.func205 E Tryz.ntmps205 E fun w0=>csr<|gv E E<|nx<|zn H (fun (J:Mem→Prop) (z:Unit) S=>J S) (fun z=>⟨41,[(0,eP c),(1,.int .i64 vm),(2,.int .i64 seat),(3,.int .u64 atx)]⟩) (fun z=>[]) (fun _ Sx H1=>csr<|mv E E<|mv E E<|mv E E<|fK E E H1 fun Sx_1 H2=>nxr<|mv E E<|by obtain⟨b,o,rfl,H3⟩:=H2;exact s_p E (zJ E)<|s_p E (zv E E)<|s_p E (jK E)<|mv E E<|mv E E<|mv E E<|s_p E (zF E E)<|by exact s_p E (jK E)<|fK E E H3 fun Sx_2 H4=>nxr<|gv E E<|nx<|zi<|zh Tryz.results205 (zd E ze) ⟨_,E,H4⟩) (fun Jx hJx H5=>zw<|csr<|mv E E<|iteK H5 (fun c_1 H6=>s_p E (yT (qE (p:=c) E E) c_1)<|gv E E<|nx<|c_t E E<|csr<|gv E E<|nx<|zi<|zj<|zb<|zh Tryz.results205 (zd E ze) ⟨_,E,H6⟩) fun c_1 H6=>s_p E (yF (qE (p:=c) E E) c_1)<|gv E E<|nx<|c_f E E<|csr<|mv E E<|iteK H6 (fun c_2 H7=>s_p E (yT (zD E E) c_2)<|mv E E<|sk2 E E<|pk E E E<|mv E E<|sk2 E E<|pk E E E<|mv E E<|sk2 E E<|pk E E E<|gv E E<|nx<|c_t E E<|csr<|gv E E<|nx<|zi<|zj<|zb<|zh Tryz.results205 (zd E ze) ⟨_,E,H7⟩) fun c_2 H7=>s_p E (yF (zD E E) c_2)<|mv E E<|mv E E<|iteK H7 (fun c_3 H8=>s_p E (yT (qj E E) c_3)<|pk E E E<|mv E E<|sk2 E E<|pk E E E<|mv E E<|sk2 E E<|pk E E E<|gv E E<|nx<|c_t E E<|csr<|gv E E<|nx<|zi<|zj<|zb<|zh Tryz.results205 (zd E ze) ⟨_,E,H8⟩) fun c_3 H8=>s_p E (yF (qj E E) c_3)<|pk E E E<|mv E E<|mv E E<|iteK H8 (fun c_4 H9=>s_p E (yT (zD E E) c_4)<|pk E E E<|mv E E<|sk2 E E<|pk E E E<|gv E E<|nx<|c_t E E<|csr<|gv E E<|nx<|zi<|zj<|zb<|zh Tryz.results205 (zd E ze) ⟨_,E,H9⟩) fun c_4 H9=>s_p E (yF (zD E E) c_4)<|pk E E E<|mv E E<|mv E E<|iteK H9 (fun c_5 H10=>s_p E (yT (qj E E) c_5)<|pk E E E<|gv E E<|nx<|c_t E E<|csr<|gv E E<|nx<|zi<|zj<|zb<|zh Tryz.results205 (zd E ze) ⟨_,E,H10⟩) fun c_5 H10=>s_p E (yF (qj E E) c_5)<|pk E E E<|gv E E<|nx<|cfs E E<|zU<|hJx () _ _ _ _ [] H10 E ⟨E,E,E,E,True.intro⟩ E)
def wI (S:Mem) (c:Pt) (ofx:Value) (Q:Mem→Prop):Prop:=
 if c≠none then
 nn c fun b o=>
 gL (S.cell b o) fun t=>
 qe S t ofx fun t_1 Sx=>
 pt Sx b o 1 ([eL t_1]) fun Sx_1=>
 jH Sx_1 (.iface 269 (.pointer (some ⟨b,o,none⟩))) fun Sx_2=>
 Q Sx_2
 else
 Q S
theorem zbq {S:Mem} {c:Pt} {ofx:Value} {Q:Mem→Prop} (H:wI S c ofx Q):xJ S c ofx Q:=by
 unfold wI at H
 exact Tr.intro Tryz.func153 E Tryz.ntmps153 E fun w0=>csr<|mv E E<|iteK H (fun c_1 H1=>s_p E (yT (zaY (p:=c) E E) c_1)<|nx<|c_t E E<|csr<|mv E E<|mv E E<|by obtain⟨b,o,rfl,H2⟩:=H1;exact s_p E (zJ E)<|s_p E (zv E E)<|gx H2 fun t ht H3=>s_v E (zz E) (zH ht)<|mv E E<|qC E E H3 fun t_1 Sx H4=>s_p E (zJ E)<|s_p E (zv E E)<|an H4 fun c_2 H5=>qo E E E E E c_2 E<|nx<|zu<|mv E E<|s_p E (zJ E)<|s_p E (zv E E)<|s_p E (jK E)<|fK E E H5 fun Sx_2 H6=>zr<|wb Tryz.results153 (ze) ⟨E,H6⟩) fun c_1 H1=>s_p E (yF (zaY (p:=c) E E) c_1)<|nx<|cfs E E<|wb Tryz.results153 (ze) ⟨E,H1⟩
def fE (S:Mem) (r:Sl) (Q:Int→Mem→Prop):Prop:=
 Q (r.n:Int) S
theorem zdE {S:Mem} {r:Sl} {Q:Int→Mem→Prop} (H:fE S r Q):zga S r Q:=by
 unfold fE at H
 exact Tr.intro Tryz.func269 E Tryz.ntmps269 E fun w0=>csr<|gv E E<|nxr<|mv E E<|s_p E (yk E)<|gv E E<|nx<|zi<|zh Tryz.results269 (zd E ze) ⟨_,E,H⟩
def vR (S:Mem) (r:Sl) (i:Int) (j:Int) (Q:Bool→Mem→Prop):Prop:=
 sl r fun b o n n_1=>
 0≤i∧i<((n:Nat):Int) ∧
 gA (S.part b (o+i.toNat*3) 3) fun t=>
 0≤j∧j<((n:Nat):Int) ∧
 gA (S.part b (o+j.toNat*3) 3) fun t_1=>
 wL S t t_1 fun t_2 Sx=>
 Q t_2 Sx
theorem zde {S:Mem} {r:Sl} {i:Int} {j:Int} {Q:Bool→Mem→Prop} (H:vR S r i j Q):zao S r i j Q:=by
 unfold vR at H
 exact Tr.intro Tryz.func270 E Tryz.ntmps270 E fun w0=>csr<|gv E E<|nx<|zC<|zM (by kernel_rfl)<|aTP 0 E (by decide +kernel) E (zm E)<|by exact aTP 1 E (by decide +kernel) E (zm E)<|by exact by obtain⟨b,o,n,n_1,rfl,H1⟩:=H;exact an2 H1 fun c c_1 H2=>aTP 2 E (by decide +kernel) E (qS E E c c_1 E)<|by exact gx H2 fun t ht H3=>by refine aT 3 E (by decide +kernel) E (zT E (zG ht)) (yi ht) ?_;exact aTP 4 E (by decide +kernel) E (zm E)<|by exact aTP 5 E (by decide +kernel) E (zm E)<|by exact an2 H3 fun c_2 c_3 H4=>aTP 6 E (by decide +kernel) E (qS E E c_2 c_3 E)<|by exact gx H4 fun t_1 ht_1 H5=>by refine aT 7 E (by decide +kernel) E (zT E (zG ht_1)) (yi ht_1) ?_;exact zB 8 (by decide +kernel) E<|by exact qC E E H5 fun t_2 Sx H6=>zr<|zN zy<|aTP 9 E (by decide +kernel) E (zS E)<|by exact zK (by decide +kernel)<|by exact zt<|zi<|zh Tryz.results270 (zd E ze) ⟨_,E,H6⟩
def vQ (S:Mem) (r:Pt) (x:Value) (Q:Mem→Prop):Prop:=
 nn r fun b o=>
 gL (S.cell b o) fun t=>
 asA x 193 3 fun t_1=>
 t_1.all (·.oneCell')=true ∧
 ap S 193 3 24 [.int .u64 0,.int .i64 0,.int .i64 0] t 1 t_1 fun t_2 Sx=>
 pt Sx b o 1 ([eL t_2]) fun Sx_1=>
 Q Sx_1
theorem zdd {S:Mem} {r:Pt} {x:Value} {Q:Mem→Prop} (H:vQ S r x Q):zeB S r x Q:=by
 unfold vQ at H
 exact Tr.intro Tryz.func281 E Tryz.ntmps281 E fun w0=>zM (by kernel_rfl)<|a_takeP 0 E (by decide +kernel) zc E (zm E)<|by exact a_takeP 1 E (by decide +kernel) zc E (zm E)<|by exact by obtain⟨b,o,rfl,H1⟩:=H;exact a_takeP 2 E (by decide +kernel) zc E (zJ E)<|by exact gx H1 fun t ht H2=>zV 3 E (by decide +kernel) zc E (zz E) (zH ht)<|by exact a_takeP 4 E (by decide +kernel) zc E (zm E)<|by exact by obtain⟨t_1,rfl,ht_1,H3⟩:=H2;exact a_takeP 5 E (by decide +kernel) zc E (zfj E)<|by exact zB 6 (by decide +kernel) E<|by exact zgb E E (by decide) (jd (size:=3) E ht_1) fun b_1=>zr<|zN (zx (zH ht) zy)<|zB 7 (by decide +kernel) E<|by exact an H3 fun c H4=>vY (sx:=t) (vs:=t_1) E E E (zgc 0 E (zk ht_1)) ht_1 c (by decide) H4 fun t_2 Sx H5=>zr<|zN zy<|a_takeP 8 E (by decide +kernel) zc E (zJ E)<|by exact zB 9 (by decide +kernel) E<|by exact an H5 fun c_1 H6=>qo E E E E E c_1 E<|zr<|zN zy<|zK (by decide +kernel)<|by exact wb Tryz.results281 (ze) ⟨E,H6⟩
def vP (S:Mem) (r:Sl) (i:Int) (j:Int) (Q:Mem→Prop):Prop:=
 sl r fun b o n n_1=>
 0≤j∧j<((n:Nat):Int) ∧
 gA (S.part b (o+j.toNat*3) 3) fun t=>
 0≤i∧i<((n:Nat):Int) ∧
 gA (S.part b (o+i.toNat*3) 3) fun t_1=>
 0≤i∧i<((n:Nat):Int) ∧
 t.all (·.oneCell')=true ∧
 pt S b (o+i.toNat*3) 3 t fun Sx=>
 0≤j∧j<((n:Nat):Int) ∧
 t_1.all (·.oneCell')=true ∧
 pt Sx b (o+j.toNat*3) 3 t_1 fun Sx_1=>
 Q Sx_1
theorem zdc {S:Mem} {r:Sl} {i:Int} {j:Int} {Q:Mem→Prop} (H:vP S r i j Q):zan S r i j Q:=by
 unfold vP at H
 exact Tr.intro Tryz.func271 E Tryz.ntmps271 E fun w0=>zM (by kernel_rfl)<|a_takeP 0 E (by decide +kernel) zc E (zm E)<|by exact a_takeP 1 E (by decide +kernel) zc E (zm E)<|by exact a_takeP 2 E (by decide +kernel) zc E (zm E)<|by exact a_takeP 3 E (by decide +kernel) zc E (zm E)<|by exact a_takeP 4 E (by decide +kernel) zc E (zm E)<|by exact a_takeP 5 E (by decide +kernel) zc E (zm E)<|by exact by obtain⟨b,o,n,n_1,rfl,H1⟩:=H;exact an2 H1 fun c c_1 H2=>a_takeP 6 E (by decide +kernel) zc E (qS E E c c_1 E)<|by exact gx H2 fun t ht H3=>by refine zV 7 E (by decide +kernel) zc E (zT E (zG ht)) (yi ht) ?_;exact a_takeP 8 E (by decide +kernel) zc E (zm E)<|by exact a_takeP 9 E (by decide +kernel) zc E (zm E)<|by exact an2 H3 fun c_2 c_3 H4=>a_takeP 10 E (by decide +kernel) zc E (qS E E c_2 c_3 E)<|by exact gx H4 fun t_1 ht_1 H5=>by refine zV 11 E (by decide +kernel) zc E (zT E (zG ht_1)) (yi ht_1) ?_;exact an2 H5 fun c_4 c_5 H6=>a_takeP 12 E (by decide +kernel) zc E (qS E E c_4 c_5 E)<|by exact zB 13 (by decide +kernel) E<|by exact an H6 fun c_6 H7=>an H7 fun c_7 H8=>qo E E E E (zG ht) c_7 c_6<|zr<|zN zy<|an2 H8 fun c_8 c_9 H9=>a_takeP 14 E (by decide +kernel) zc E (qS E E c_8 c_9 E)<|by exact zB 15 (by decide +kernel) E<|by exact an H9 fun c_10 H10=>an H10 fun c_11 H11=>qo E E E E (zG ht_1) c_11 c_10<|zr<|zN zy<|zK (by decide +kernel)<|by exact wb Tryz.results271 (ze) ⟨E,H11⟩
def zZ (S:Mem) (s:Sl) (del:Value) (Q:Sl→Mem→Prop):Prop:=
 qi S s del fun t Sx=>
 jn (fun (Sx_1:Mem)=>
 jn (fun (i:Int) (Sx_2:Mem)=>
 (0:Int)≤i∧(i:Int)≤(s.n:Int)∧(s.n:Int)≤(s.c:Int) ∧
 lt (slc 3 s i (s.n:Int)) fun t_1=>
 clr Sx_2 3 [.int .u64 0,.int .i64 0,.int .i64 0] t_1 fun Sx_3=>
 (0:Int)≤i∧i≤(s.c:Int) ∧
 lt (slc 3 s 0 i) fun t_2=>
 Q t_2 Sx_3) fun Jx=>
 lp (fun Xx (z:Int×Int) (Sx_4:Mem)=>
 match z with
 | (i_1,j)=>
 jn (fun (Sx_5:Mem)=>
 sl s fun b o n n_1=>
 0≤j∧j<((n:Nat):Int) ∧
 gA (Sx_5.part b (o+j.toNat*3) 3) fun t_3=>
 t_3.all (·.oneCell')=true ∧
 cv Tryz.prog Sx_5 del [valL t_3] fun rv Sx_6=>∃ t_4:Bool,rv=.bool t_4∧
 if t_4=true then
 Xx (i_1,IntKind.i64.wrap (j+1)) Sx_6
 else
 0≤i_1∧i_1<((n:Nat):Int) ∧
 t_3.all (·.oneCell')=true ∧
 pt Sx_6 b (o+i_1.toNat*3) 3 t_3 fun Sx_7=>
 Xx (IntKind.i64.wrap (i_1+1),IntKind.i64.wrap (j+1)) Sx_7) fun Jx_1=>
 if j<(s.n:Int) then
 Jx_1 Sx_4
 else
 Jx i_1 Sx_4) (t,IntKind.i64.wrap (t+1)) Sx_1) fun Jx_2=>
 if t=(-1) then
 Q s Sx
 else
 Jx_2 Sx
theorem qH {S:Mem} {s:Sl} {del:Value} {Q:Sl→Mem→Prop} (H:zZ S s del Q):qe S s del Q:=by
 unfold zZ at H
 exact Tr.intro Tryz.func216 E Tryz.ntmps216 E fun w0=>csr<|gv E E<|nxr<|mv E E<|mv E E<|qC E E H fun t Sx H1=>gv E E<|nx<|zn H1 (fun (J:Mem→Prop) (z:Unit) S=>J S) (fun z=>⟨42,[(0,eL s),(1,del),(5,.int .i64 t)]⟩) (fun z=>[]) (fun _ Sx_1 H2=>zn H2 (fun (J:Int→Mem→Prop) (z:Int) S=>J z S) (fun z=>⟨42,[(0,eL s),(5,.int .i64 z)]⟩) (fun z=>[]) (fun i Sx_2 H3=>csr<|mv E E<|mv E E<|an3 H3 fun c c_1 c_2 H4=>by obtain⟨t_1,et_1,H5⟩:=zjD H4;exact s_p E (eqv (zcK (a:=i) (b:=(s.n:Int)) E E E c c_1 c_2) (congrArg eL et_1))<|zoR (s:=t_1) (z:=[.int .u64 0,.int .i64 0,.int .i64 0]) E E E H5 fun Sx_3 H6=>nxr<|mv E E<|mv E E<|an2 H6 fun c_4 c_5 H7=>by obtain⟨t_2,et_2,H8⟩:=zjD H7;exact s_p E (eqv (zcK (a:=0) (b:=i) E E E (by decide) c_4 c_5) (congrArg eL et_2))<|gv E E<|nx<|zi<|zh Tryz.results216 (zd E ze) ⟨_,E,H8⟩) (fun Jx hJx H9=>csr<|mv E E<|s_p E (qh E E)<|gv E E<|nx<|zw<|qB (fun z=>⟨42,[(0,eL s),(1,del),(5,.int .i64 z.1),(6,.int .i64 z.2)]⟩) (fun z=>[]) (t,IntKind.i64.wrap (t+1)) (idx:=[]) H9 E ⟨E,E,E,E,True.intro⟩ E<|by rintro Xx hXx ⟨i_1,j⟩ Sx_4 H10;exact zn H10 (fun (J:Mem→Prop) (z:Unit) S=>J S) (fun z=>⟨42,[(0,eL s),(1,del),(5,.int .i64 i_1),(6,.int .i64 j)]⟩) (fun z=>[]) (fun _ Sx_5 H11=>zC<|zw<|csr<|mv E E<|mv E E<|by obtain⟨b,o,n,n_1,rfl,H12⟩:=H11;exact an2 H12 fun c_6 c_7 H13=>s_p E (qS E E c_6 c_7 E)<|gx H13 fun t_3 ht_3 H14=>by refine s_v E (zT E (zG ht_3)) (yi ht_3) ?_;exact by refine zL E fun b_1=>?_;exact an H14 fun c_8 H15=>zp 0 E E E E E (zG ht_3) E c_8<|nxr<|mv E E<|by refine s_v E (zT E (zG ht_3)) (zE (k:=3) 0 E (zk (zG ht_3))) ?_;exact znK E E E H15 fun rv Sx_6 H16=>by obtain⟨t_4,rfl,H17⟩:=H16;exact by have H18:=wM H17;rcases H18 with ⟨rfl,H19⟩ | ⟨rfl,H19⟩;exact (s_p E (yB (ql E) E)<|nx<|cfs E E<|zU<|zt<|zu<|mv E E<|s_p E (qh E E)<|gv E E<|zr<|hXx (i_1,IntKind.i64.wrap (j+1)) _ _ _ _ [] H19 E ⟨E,E,E,E,True.intro⟩ E);exact (s_p E (yB (ql E) E)<|nx<|c_t E E<|csr<|mv E E<|mv E E<|by refine s_v E (zT E (zG ht_3)) (zE (k:=3) 0 E (zk (zG ht_3))) ?_;exact an2 H19 fun c_9 c_10 H20=>s_p E (qS E E c_9 c_10 E)<|an H20 fun c_11 H21=>an H21 fun c_12 H22=>qo E E E E (zG ht_3) c_12 c_11<|nx<|zu<|mv E E<|s_p E (qh E E)<|gv E E<|zr<|zU<|zt<|zu<|mv E E<|s_p E (qh E E)<|gv E E<|zr<|hXx (IntKind.i64.wrap (i_1+1),IntKind.i64.wrap (j+1)) _ _ _ _ [] H22 E ⟨E,E,E,E,True.intro⟩ E)) (fun Jx_1 hJx_1 H23=>csr<|mv E E<|mv E E<|s_p E (yk E)<|iteK H23 (fun c_13 H24=>s_p E (yT (zD E E) c_13)<|nx<|c_t E E<|qg<|hJx_1 () _ _ _ _ [] H24 E ⟨E,E,E,E,True.intro⟩ E) fun c_13 H24=>s_p E (yF (zD E E) c_13)<|nx<|c_f E E<|qt<|zl<|zl<|zI<|hJx i_1 _ _ _ _ [] H24 E ⟨E,E,True.intro⟩ E))) (fun Jx_2 hJx_2 H25=>csr<|mv E E<|iteK H25 (fun c_14 H26=>ceT E E E (c_14)<|nx<|c_t E E<|csr<|mv E E<|gv E E<|nx<|zi<|zb<|zh Tryz.results216 (zd E ze) ⟨_,E,H26⟩) fun c_14 H26=>ceF E E E (c_14)<|nx<|cfs E E<|hJx_2 () _ _ _ _ [] H26 E ⟨E,E,E,True.intro⟩ E)
def qa (S:Mem) (s:Sl) (f:Value) (Q:Int→Mem→Prop):Prop:=
 jn (fun (Sx:Mem)=>
 Q (-1) Sx) fun Jx=>
 lp (fun Xx (t:Int) (Sx_1:Mem)=>
 if t<(s.n:Int) then
 sl s fun b o n n_1=>
 0≤t∧t<((n:Nat):Int) ∧
 gA (Sx_1.part b (o+t.toNat*3) 3) fun t_1=>
 cv Tryz.prog Sx_1 f [valL t_1] fun rv Sx_2=>∃ t_2:Bool,rv=.bool t_2∧
 if t_2=true then
 Q t Sx_2
 else
 Xx (IntKind.i64.wrap (t+1)) Sx_2
 else
 Jx Sx_1) 0 S
theorem qK {S:Mem} {s:Sl} {f:Value} {Q:Int→Mem→Prop} (H:qa S s f Q):qi S s f Q:=by
 unfold qa at H
 exact Tr.intro Tryz.func235 E Tryz.ntmps235 E fun w0=>csr<|gv E E<|nx<|zn H (fun (J:Mem→Prop) (z:Unit) S=>J S) (fun z=>⟨19,[]⟩) (fun z=>[]) (fun _ Sx H1=>csr<|gv E E<|nx<|zi<|zh Tryz.results235 (zd E ze) ⟨_,E,H1⟩) (fun Jx hJx H2=>csr<|mv E E<|s_p E (yk E)<|mv E E<|nx<|zw<|qB (fun z=>⟨19,[(0,eL s),(1,f),(7,.int .i64 (s.n:Int)),(8,.int .i64 z)]⟩) (fun z=>[]) 0 (idx:=[]) H2 E ⟨E,E,E,E,True.intro⟩ E<|fun Xx hXx t Sx_1 H3=>csr<|iteK H3 (fun c H4=>s_p E (yT (zD E E) c)<|nx<|zC<|c_t E E<|qg<|zt<|zC<|zw<|csr<|mv E E<|gv E E<|nxr<|mv E E<|mv E E<|mv E E<|by obtain⟨b,o,n,n_1,rfl,H5⟩:=H4;exact an2 H5 fun c_1 c_2 H6=>s_p E (qS E E c_1 c_2 E)<|gx H6 fun t_1 ht_1 H7=>by refine s_v E (zT E (zG ht_1)) (yi ht_1) ?_;exact znK E E E H7 fun rv Sx_2 H8=>by obtain⟨t_2,rfl,H9⟩:=H8;exact by have H10:=wM H9;rcases H10 with ⟨rfl,H11⟩ | ⟨rfl,H11⟩;exact (nx<|c_t E E<|csr<|mv E E<|gv E E<|nx<|zi<|zj<|zb<|zb<|zj<|zb<|zh Tryz.results235 (zd E ze) ⟨_,E,H11⟩);exact (nx<|cfs E E<|zU<|zt<|zu<|s_p E (qh E E)<|mv E E<|zr<|hXx (IntKind.i64.wrap (t+1)) _ _ _ _ [] H11 E ⟨E,E,E,E,True.intro⟩ E)) fun c H4=>s_p E (yF (zD E E) c)<|nx<|zC<|c_f E E<|qt<|zl<|zl<|zI<|hJx () _ _ _ _ [] H4 E True.intro E)
def xC (S:Mem) (c:Pt) (vm:Int) (Q:Mem→Prop):Prop:=
 al S 3 ([.int .i64 vm]) fun b Sx=>
 xJ Sx c (.func (.func 154) #[] #[.pointer (some ⟨b,0,none⟩)]) fun Sx_1=>
 Q Sx_1
theorem zab {S:Mem} {c:Pt} {vm:Int} {Q:Mem→Prop} (H:xC S c vm Q):yW S c vm Q:=by
 unfold xC at H
 exact Tr.intro Tryz.func91 E Tryz.ntmps91 E fun w0=>csr<|qM E E E fun b=>ku 0 E fun hb=>have H1:=H b hb;nx<|zu<|mv E E<|s_p E (zlq E)<|fK E E H1 fun Sx_1 H2=>zr<|wb Tryz.results91 (ze) ⟨E,H2⟩
def yD (S:Mem) (a:List Value) (t:Pt) (Q:Bool→Mem→Prop):Prop:=
 a.length=3 ∧
 gI (nthL a 1) .i64 fun t_1=>
 nn t fun b_1 o=>
 gI (S.cell b_1 o) .i64 fun t_2=>
 Q (decide (t_1=t_2)) S
theorem jR {S:Mem} {a:List Value} {t:Pt} {Q:Bool→Mem→Prop} (H:yD S a t Q):fF S a t Q:=by
 unfold yD at H
 exact Tr.intro Tryz.func154 E Tryz.ntmps154 E fun w0=>an H fun ha H1=>csr<|qM E E E fun b=>gv E E<|nxr<|s_p E (zv E E)<|gx H1 fun t_1 ht_1 H2=>s_v E (zz E) (zW 0 E ht_1)<|by obtain⟨b_1,o,rfl,H3⟩:=H2;exact gx H3 fun t_2 ht_2 H4=>s_v E (zz E) (zH ht_2)<|s_p E (jA E E)<|gv E E<|nx<|zi<|zh Tryz.results154 (zd E ze) ⟨_,E,H4⟩
end Go.Proofs.YtabdpmnhjlmnlaaGreatDoor
end
