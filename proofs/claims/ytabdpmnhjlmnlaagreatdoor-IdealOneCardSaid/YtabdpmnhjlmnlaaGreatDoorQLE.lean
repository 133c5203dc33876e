/- Texts of this work,joined by program (pack.py): PsA,PtU,Rl,Fo,Sm,Sa. -/
import Derived.Test.YtabdpmnhjlmnlaaGreatDoorQLC
import Derived.Test.YtabdpmnhjlmnlaaGreatDoorQLB
import Derived.Lib.TrailingZeros
set_option linter.unusedVariables false
section
namespace Go.Proofs.YtabdpmnhjlmnlaaGreatDoor
open Go Go.Pt
attribute [local irreducible] Code.wp Back bodyPost wpList FR WL WC WQ WA AW Tr Yc HC AllC
set_option maxRecDepth 20000
set_option maxHeartbeats 4000000
set_option linter.unusedVariables false
def gu (S:Mem) (s:Pt) (n:Int) (Q:Int→Mem→Prop):Prop:=
 jn (fun (Sx:Mem)=>
 nn s fun b o=>
 gI (Sx.cell b (o+24)) .u32 fun t=>
 0≤n ∧
 pt Sx b (o+24) 1 ([.int .u32 (ior .u32 t (ishl .u32 1 n))]) fun Sx_1=>
 zar Sx_1 (some (b,o)) fun Sx_2=>
 Q 0 Sx_2) fun Jx=>
 if s=none then
 Q 1 S
 else
 zaL S n fun t_1 Sx_3=>
 if t_1=true then
 nn s fun b_1 o_1=>
 gI (Sx_3.cell b_1 (o_1+23)) .u8 fun t_2=>
 if t_2=2 then
 Q 10 Sx_3
 else
 Jx Sx_3
 else
 Q 1 Sx_3
theorem zdC {S:Mem} {s:Pt} {n:Int} {Q:Int→Mem→Prop} (H:gu S s n Q):gG S s n Q:=by
 unfold gu at H
 exact Tr.intro Tryz.func58 E Tryz.ntmps58 E fun w0=>csr<|gv E E<|nx<|zm H (fun (J:Mem→Prop) (z:Unit) S=>J S) (fun z=>⟨30,[(0,eP s),(1,.int .i64 n)]⟩) (fun z=>[]) (fun _ Sx H1=>zG<|zI (by kernel_rfl)<|aTP 0 E (by decide +kernel) E (zk E)<|by exact by obtain⟨b,o,rfl,H2⟩:=H1;exact aTP 1 E (by decide +kernel) E (zT E)<|by exact aTP 2 E (by decide +kernel) E (zp E E)<|by exact gx H2 fun t ht H3=>aT 3 E (by decide +kernel) E (zA E) (qc ht)<|by exact aTP 4 E (by decide +kernel) E (zk E)<|by exact an H3 fun c H4=>aTP 5 E (by decide +kernel) E (zaz E E c)<|by exact aTP 6 E (by decide +kernel) E (zie E E)<|by exact aTP 7 E (by decide +kernel) E (zT E)<|by exact aTP 8 E (by decide +kernel) E (zp E E)<|by exact zw 9 (by decide +kernel) E<|by exact an H4 fun c_1 H5=>zY E E E E E c_1 E<|zn<|zF zu<|zJ (by decide +kernel)<|by exact zr<|csr<|mv E E<|zaY E E H5 fun Sx_2 H6=>nxr<|gv E E<|nx<|zi<|zh Tryz.results58 (zc E ze) ⟨_,E,H6⟩) (fun Jx hJx H7=>zE<|csr<|mv E E<|iteK H7 (fun c_2 H8=>s_p E (yT (xE (p:=s) E E) c_2)<|mv E E<|sk2 E E<|zK E<|pk E E E<|gv E E<|nx<|c_t E E<|csr<|gv E E<|nx<|zi<|zl<|zb<|zh Tryz.results58 (zc E ze) ⟨_,E,H8⟩) fun c_2 H8=>s_p E (yF (xE (p:=s) E E) c_2)<|mv E E<|mv E E<|qM E E H8 fun t_1 Sx_3 H9=>by have H10:=wO H9;rcases H10 with ⟨rfl,H11⟩ | ⟨rfl,H11⟩;exact (s_p E (yB (qe E) E)<|pk E E E<|gv E E<|nx<|c_f E E<|csr<|mv E E<|by obtain⟨b_1,o_1,rfl,H12⟩:=H11;exact s_p E (zT E)<|s_p E (zp E E)<|gx H12 fun t_2 ht_2 H13=>s_v E (zA E) (qc ht_2)<|iteK H13 (fun c_3 H14=>ceT E E E (c_3)<|gv E E<|nx<|c_t E E<|csr<|gv E E<|nx<|zi<|zl<|zb<|zh Tryz.results58 (zc E ze) ⟨_,E,H14⟩) fun c_3 H14=>ceF E E E (c_3)<|gv E E<|nx<|cfs E E<|zS<|hJx () _ _ _ _ [] H14 E ⟨E,E,True.intro⟩ E);exact (s_p E (yB (qe E) E)<|pk E E E<|gv E E<|nx<|c_t E E<|csr<|gv E E<|nx<|zi<|zl<|zb<|zh Tryz.results58 (zc E ze) ⟨_,E,H11⟩))
def gr (S:Mem) (n:Int) (Q:Bool→Mem→Prop):Prop:=
 if 0≤n then
 Q (decide (n<8)) S
 else
 Q false S
theorem zdB {S:Mem} {n:Int} {Q:Bool→Mem→Prop} (H:gr S n Q):zaL S n Q:=by
 unfold gr at H
 exact Tr.intro Tryz.func117 E Tryz.ntmps117 E fun w0=>csr<|gv E E<|nxr<|mv E E<|iteK H (fun c H1=>s_p E (yT (qq E E) c)<|mv E E<|mv E E<|s_p E (zH E E)<|pk E E E<|gv E E<|nx<|zi<|zh Tryz.results117 (zc E ze) ⟨_,E,H1⟩) fun c H1=>s_p E (yF (qq E E) c)<|mv E E<|sk2 E E<|pk E E E<|gv E E<|nx<|zi<|zh Tryz.results117 (zc E ze) ⟨_,E,H1⟩
def fL (S:Mem) (s:Pt) (Q:Mem→Prop):Prop:=
 if s≠none then
 nn s fun b o=>
 gI (S.cell b (o+23)) .u8 fun t=>
 if t=1 then
 gI (S.cell b (o+24)) .u32 fun t_1=>
 gI (S.cell b (o+25)) .u32 fun t_2=>
 if iand .u32 t_1 t_2≠0 then
 pt S b (o+23) 1 ([.int .u8 0]) fun Sx=>
 Q Sx
 else
 Q S
 else
 Q S
 else
 Q S
theorem zew {S:Mem} {s:Pt} {Q:Mem→Prop} (H:fL S s Q):zar S s Q:=by
 unfold fL at H
 exact Tr.intro Tryz.func118 E Tryz.ntmps118 E fun w0=>zG<|zI (by kernel_rfl)<|aTP 0 E (by decide +kernel) E (zk E)<|by exact iteK H (fun c H1=>aTP 1 E (by decide +kernel) E (yT (zbe (p:=s) E E) c)<|by exact aTP 2 E (by decide +kernel) E (zk E)<|by exact aTP 3 E (by decide +kernel) E (zk E)<|by exact by obtain⟨b,o,rfl,H2⟩:=H1;exact aTP 4 E (by decide +kernel) E (zT E)<|by exact aTP 5 E (by decide +kernel) E (zp E E)<|by exact gx H2 fun t ht H3=>aT 6 E (by decide +kernel) E (zA E) (qc ht)<|by exact iteK H3 (fun c_1 H4=>aTP 7 E (by decide +kernel) E (yT (jz E E) c_1)<|by exact aTP 8 E (by decide +kernel) E (xS E E)<|by exact aTP 9 E (by decide +kernel) E (zk E)<|by exact aTP 10 E (by decide +kernel) E (zk E)<|by exact aTP 11 E (by decide +kernel) E (zT E)<|by exact aTP 12 E (by decide +kernel) E (zp E E)<|by exact gx H4 fun t_1 ht_1 H5=>aT 13 E (by decide +kernel) E (zA E) (qc ht_1)<|by exact aTP 14 E (by decide +kernel) E (zk E)<|by exact aTP 15 E (by decide +kernel) E (zT E)<|by exact aTP 16 E (by decide +kernel) E (zp E E)<|by exact gx H5 fun t_2 ht_2 H6=>aT 17 E (by decide +kernel) E (zA E) (qc ht_2)<|by exact aTP 18 E (by decide +kernel) E (vH E E)<|by exact iteK H6 (fun c_2 H7=>aTP 19 E (by decide +kernel) E (yT (qm E E) c_2)<|by exact aTP 20 E (by decide +kernel) E (xS E E)<|by exact zJ (by decide +kernel)<|by exact zr<|ctr E E<|mv E E<|s_p E (zT E)<|s_p E (zp E E)<|an H7 fun c_3 H8=>zY E E E E E c_3 E<|zn<|kD Tryz.results118 (ze) ⟨E,H8⟩) fun c_2 H7=>aTP 19 E (by decide +kernel) E (yF (qm E E) c_2)<|by exact aTP 20 E (by decide +kernel) E (xS E E)<|by exact zJ (by decide +kernel)<|by exact zr<|cfs E E<|kD Tryz.results118 (ze) ⟨E,H7⟩) fun c_1 H4=>aTP 7 E (by decide +kernel) E (yF (jz E E) c_1)<|by exact aTP 8 E (by decide +kernel) E (xS E E)<|by exact aTP 9 E (by decide +kernel) E (zk E)<|by exact qa 10 E (by decide +kernel) (za zd) E<|by exact qa 11 E (by decide +kernel) (za zd) E<|by exact qa 12 E (by decide +kernel) (za zd) E<|by exact qa 13 E (by decide +kernel) (za zd) E<|by exact qa 14 E (by decide +kernel) (za zd) E<|by exact qa 15 E (by decide +kernel) (za zd) E<|by exact qa 16 E (by decide +kernel) (za zd) E<|by exact qa 17 E (by decide +kernel) (za zd) E<|by exact qa 18 E (by decide +kernel) (za zd) E<|by exact qa 19 E (by decide +kernel) (za zd) E<|by exact aTP 20 E (by decide +kernel) E (xS E E)<|by exact zJ (by decide +kernel)<|by exact zr<|cfs E E<|kD Tryz.results118 (ze) ⟨E,H4⟩) fun c H1=>aTP 1 E (by decide +kernel) E (yF (zbe (p:=s) E E) c)<|by exact aTP 2 E (by decide +kernel) E (zk E)<|by exact qa 3 E (by decide +kernel) (za zd) E<|by exact qa 4 E (by decide +kernel) (za zd) E<|by exact qa 5 E (by decide +kernel) (za zd) E<|by exact qa 6 E (by decide +kernel) (za zd) E<|by exact qa 7 E (by decide +kernel) (za zd) E<|by exact aTP 8 E (by decide +kernel) E (xS E E)<|by exact aTP 9 E (by decide +kernel) E (zk E)<|by exact qa 10 E (by decide +kernel) (za zd) E<|by exact qa 11 E (by decide +kernel) (za zd) E<|by exact qa 12 E (by decide +kernel) (za zd) E<|by exact qa 13 E (by decide +kernel) (za zd) E<|by exact qa 14 E (by decide +kernel) (za zd) E<|by exact qa 15 E (by decide +kernel) (za zd) E<|by exact qa 16 E (by decide +kernel) (za zd) E<|by exact qa 17 E (by decide +kernel) (za zd) E<|by exact qa 18 E (by decide +kernel) (za zd) E<|by exact qa 19 E (by decide +kernel) (za zd) E<|by exact aTP 20 E (by decide +kernel) E (xS E E)<|by exact zJ (by decide +kernel)<|by exact zr<|cfs E E<|kD Tryz.results118 (ze) ⟨E,H1⟩
def fM (S:Mem) (s:Pt) (Q:Int→Bool→Mem→Prop):Prop:=
 zbO S s fun t t_1 Sx=>
 if t_1=true then
 nn s fun b o=>
 gI (Sx.cell b (o+24)) .u32 fun t_2=>
 0≤t ∧
 pt Sx b (o+24) 1 ([.int .u32 (iandn .u32 t_2 (ishl .u32 1 t))]) fun Sx_1=>
 Q t true Sx_1
 else
 Q t false Sx
theorem zex {S:Mem} {s:Pt} {Q:Int→Bool→Mem→Prop} (H:fM S s Q):zbN S s Q:=by
 unfold fM at H
 exact Tr.intro Tryz.func120 E Tryz.ntmps120 E fun w0=>csr<|gv E E<|gv E E<|nxr<|mv E E<|zcu E E H fun t t_1 Sx H1=>mv E E<|s_p E (zj E E)<|iteK H1 (fun c H2=>s_p E (yB (zj E E) c)<|gv E E<|gv E E<|nx<|zG<|csr<|mv E E<|nx<|c_t E E<|zI (by kernel_rfl)<|aTP 0 E (by decide +kernel) E (zk E)<|by exact by obtain⟨b,o,rfl,H3⟩:=H2;exact aTP 1 E (by decide +kernel) E (zT E)<|by exact aTP 2 E (by decide +kernel) E (zp E E)<|by exact gx H3 fun t_2 ht_2 H4=>aT 3 E (by decide +kernel) E (zA E) (qc ht_2)<|by exact aTP 4 E (by decide +kernel) E (zk E)<|by exact an H4 fun c_1 H5=>aTP 5 E (by decide +kernel) E (zaz E E c_1)<|by exact aTP 6 E (by decide +kernel) E (ziW E E)<|by exact aTP 7 E (by decide +kernel) E (zT E)<|by exact aTP 8 E (by decide +kernel) E (zp E E)<|by exact zw 9 (by decide +kernel) E<|by exact an H5 fun c_2 H6=>zY E E E E E c_2 E<|zn<|zF zu<|zJ (by decide +kernel)<|by exact zr<|csr<|mv E E<|mv E E<|gv E E<|gv E E<|nx<|zi<|zh Tryz.results120 (zc E (zc E ze)) ⟨_,_,E,H6⟩) fun c H2=>s_p E (yB (zj E E) (wQ c))<|gv E E<|gv E E<|nx<|zG<|csr<|mv E E<|nx<|cfs E E<|zr<|csr<|mv E E<|mv E E<|gv E E<|gv E E<|nx<|zi<|zh Tryz.results120 (zc E (zc E ze)) ⟨_,_,E,H2⟩
def fO (S:Mem) (s:Pt) (Q:Int→Bool→Mem→Prop):Prop:=
 jn (fun (Sx:Mem)=>
 nn s fun b o=>
 gI (Sx.cell b (o+24)) .u32 fun t=>
 gI (Sx.cell b (o+25)) .u32 fun t_1=>
 zaA Sx (IntKind.u64.wrap (iand .u32 t t_1)) fun t_2 Sx_1=>
 Sx_1.cell b (o+25)=some (.int .u32 t_1) ∧
 Sx_1.cell b (o+24)=some (.int .u32 t) ∧
 Q t_2 true Sx_1) fun Jx=>
 if s=none then
 Q 0 false S
 else
 nn s fun b_1 o_1=>
 gB (S.cell b_1 (o_1+22)) fun t_3=>
 if t_3=true then
 gI (S.cell b_1 (o_1+24)) .u32 fun t_4=>
 gI (S.cell b_1 (o_1+25)) .u32 fun t_5=>
 if iand .u32 t_4 t_5=0 then
 Q 0 false S
 else
 Jx S
 else
 Q 0 false S
theorem zey {S:Mem} {s:Pt} {Q:Int→Bool→Mem→Prop} (H:fO S s Q):zbO S s Q:=by
 unfold fO at H
 exact Tr.intro Tryz.func170 E Tryz.ntmps170 E fun w0=>csr<|gv E E<|gv E E<|nx<|zm H (fun (J:Mem→Prop) (z:Unit) S=>J S) (fun z=>⟨36,[(0,eP s)]⟩) (fun z=>[]) (fun _ Sx H1=>zG<|zI (by kernel_rfl)<|aTP 0 E (by decide +kernel) E (zk E)<|by exact by obtain⟨b,o,rfl,H2⟩:=H1;exact aTP 1 E (by decide +kernel) E (zT E)<|by exact aTP 2 E (by decide +kernel) E (zp E E)<|by exact gx H2 fun t ht H3=>aT 3 E (by decide +kernel) E (zA E) (qc ht)<|by exact aTP 4 E (by decide +kernel) E (zk E)<|by exact aTP 5 E (by decide +kernel) E (zT E)<|by exact aTP 6 E (by decide +kernel) E (zp E E)<|by exact gx H3 fun t_1 ht_1 H4=>aT 7 E (by decide +kernel) E (zA E) (qc ht_1)<|by exact aTP 8 E (by decide +kernel) E (vH E E)<|by exact aTP 9 E (by decide +kernel) E (zN ⟨_,Tryz.underlying41⟩ E)<|by exact zw 10 (by decide +kernel) E<|by exact qM E E H4 fun t_2 Sx_1 H5=>by obtain⟨k,H6⟩:=H5;exact by obtain⟨k_1,H7⟩:=H6;exact zn<|zF (zB (qc k) (zB (qc k_1) zu))<|aTP 11 E (by decide +kernel) E (zM E)<|by exact aTP 12 E (by decide +kernel) E (zM E)<|by exact zJ (by decide +kernel)<|by exact zr<|zi<|zh Tryz.results170 (zc E (zc E ze)) ⟨_,_,E,H7⟩) (fun Jx hJx H8=>zG<|zI (by kernel_rfl)<|a_takeP 0 E (by decide +kernel) (za (za zd)) E (zk E)<|by exact iteK H8 (fun c H9=>a_takeP 1 E (by decide +kernel) (za (za zd)) E (yT (xE (p:=s) E E) c)<|by exact a_takeP 2 E (by decide +kernel) (za (za zd)) E (zk E)<|by exact qa 3 E (by decide +kernel) (za (za zd)) E<|by exact qa 4 E (by decide +kernel) (za (za zd)) E<|by exact qa 5 E (by decide +kernel) (za (za zd)) E<|by exact qa 6 E (by decide +kernel) (za (za zd)) E<|by exact qa 7 E (by decide +kernel) (za (za zd)) E<|by exact a_takeP 8 E (by decide +kernel) (za (za zd)) E (xS E E)<|by exact a_takeP 9 E (by decide +kernel) (za (za zd)) E (zk E)<|by exact qa 10 E (by decide +kernel) (za (za zd)) E<|by exact qa 11 E (by decide +kernel) (za (za zd)) E<|by exact qa 12 E (by decide +kernel) (za (za zd)) E<|by exact qa 13 E (by decide +kernel) (za (za zd)) E<|by exact qa 14 E (by decide +kernel) (za (za zd)) E<|by exact qa 15 E (by decide +kernel) (za (za zd)) E<|by exact qa 16 E (by decide +kernel) (za (za zd)) E<|by exact qa 17 E (by decide +kernel) (za (za zd)) E<|by exact qa 18 E (by decide +kernel) (za (za zd)) E<|by exact qa 19 E (by decide +kernel) (za (za zd)) E<|by exact a_takeP 20 E (by decide +kernel) (za (za zd)) E (xS E E)<|by exact zJ (by decide +kernel)<|by exact zr<|c_t E E<|csr<|gv E E<|gv E E<|nx<|zi<|zb<|zh Tryz.results170 (zc E (zc E ze)) ⟨_,_,E,H9⟩) fun c H9=>a_takeP 1 E (by decide +kernel) (za (za zd)) E (yF (xE (p:=s) E E) c)<|by exact a_takeP 2 E (by decide +kernel) (za (za zd)) E (zk E)<|by exact a_takeP 3 E (by decide +kernel) (za (za zd)) E (zk E)<|by exact by obtain⟨b_1,o_1,rfl,H10⟩:=H9;exact a_takeP 4 E (by decide +kernel) (za (za zd)) E (zT E)<|by exact a_takeP 5 E (by decide +kernel) (za (za zd)) E (zp E E)<|by exact gx H10 fun t_3 ht_3 H11=>by have H12:=wO H11;rcases H12 with ⟨rfl,H13⟩ | ⟨rfl,H13⟩;exact (qp 6 E (by decide +kernel) (za (za zd)) E (zA E) (qc ht_3)<|by exact a_takeP 7 E (by decide +kernel) (za (za zd)) E (yB (qe E) E)<|by exact a_takeP 8 E (by decide +kernel) (za (za zd)) E (xS E E)<|by exact a_takeP 9 E (by decide +kernel) (za (za zd)) E (zk E)<|by exact a_takeP 10 E (by decide +kernel) (za (za zd)) E (zk E)<|by exact a_takeP 11 E (by decide +kernel) (za (za zd)) E (zT E)<|by exact a_takeP 12 E (by decide +kernel) (za (za zd)) E (zp E E)<|by exact gx H13 fun t_4 ht_4 H14=>qp 13 E (by decide +kernel) (za (za zd)) E (zA E) (qc ht_4)<|by exact a_takeP 14 E (by decide +kernel) (za (za zd)) E (zk E)<|by exact a_takeP 15 E (by decide +kernel) (za (za zd)) E (zT E)<|by exact a_takeP 16 E (by decide +kernel) (za (za zd)) E (zp E E)<|by exact gx H14 fun t_5 ht_5 H15=>qp 17 E (by decide +kernel) (za (za zd)) E (zA E) (qc ht_5)<|by exact a_takeP 18 E (by decide +kernel) (za (za zd)) E (vH E E)<|by exact iteK H15 (fun c_1 H16=>a_takeP 19 E (by decide +kernel) (za (za zd)) E (yT (jz E E) c_1)<|by exact a_takeP 20 E (by decide +kernel) (za (za zd)) E (xS E E)<|by exact zJ (by decide +kernel)<|by exact zr<|c_t E E<|csr<|gv E E<|gv E E<|nx<|zi<|zb<|zh Tryz.results170 (zc E (zc E ze)) ⟨_,_,E,H16⟩) fun c_1 H16=>a_takeP 19 E (by decide +kernel) (za (za zd)) E (yF (jz E E) c_1)<|by exact a_takeP 20 E (by decide +kernel) (za (za zd)) E (xS E E)<|by exact zJ (by decide +kernel)<|by exact zr<|cfs E E<|hJx () _ _ _ _ [] H16 E ⟨E,True.intro⟩ E);exact (qp 6 E (by decide +kernel) (za (za zd)) E (zA E) (qc ht_3)<|by exact a_takeP 7 E (by decide +kernel) (za (za zd)) E (yB (qe E) E)<|by exact a_takeP 8 E (by decide +kernel) (za (za zd)) E (xS E E)<|by exact a_takeP 9 E (by decide +kernel) (za (za zd)) E (zk E)<|by exact qa 10 E (by decide +kernel) (za (za zd)) E<|by exact qa 11 E (by decide +kernel) (za (za zd)) E<|by exact qa 12 E (by decide +kernel) (za (za zd)) E<|by exact qa 13 E (by decide +kernel) (za (za zd)) E<|by exact qa 14 E (by decide +kernel) (za (za zd)) E<|by exact qa 15 E (by decide +kernel) (za (za zd)) E<|by exact qa 16 E (by decide +kernel) (za (za zd)) E<|by exact qa 17 E (by decide +kernel) (za (za zd)) E<|by exact qa 18 E (by decide +kernel) (za (za zd)) E<|by exact qa 19 E (by decide +kernel) (za (za zd)) E<|by exact a_takeP 20 E (by decide +kernel) (za (za zd)) E (xS E E)<|by exact zJ (by decide +kernel)<|by exact zr<|c_t E E<|csr<|gv E E<|gv E E<|nx<|zi<|zb<|zh Tryz.results170 (zc E (zc E ze)) ⟨_,_,E,H13⟩))
def fI (S:Mem) (s:Pt) (cause:Int) (addr:Int) (Q:Mem→Prop):Prop:=
 jn (fun (Sx:Mem)=>
 jn (fun (Sx_1:Mem)=>
 nn s fun b o=>
 gI (Sx_1.cell b (o+16)) .u64 fun t=>
 gI (Sx_1.cell b (o+18)) .u64 fun t_1=>
 pt Sx_1 b (o+19) 1 ([.int .u64 t]) fun Sx_2=>
 pt Sx_2 b (o+20) 1 ([.int .u64 cause]) fun Sx_3=>
 pt Sx_3 b (o+21) 1 ([.int .u64 addr]) fun Sx_4=>
 pt Sx_4 b (o+16) 1 ([.int .u64 t_1]) fun Sx_5=>
 pt Sx_5 b (o+22) 1 ([.bool false]) fun Sx_6=>
 Q Sx_6) fun Jx=>
 nn s fun b_1 o_1=>
 gI (Sx.cell b_1 (o_1+18)) .u64 fun t_2=>
 if t_2=0 then
 pt Sx b_1 (o_1+23) 1 ([.int .u8 2]) fun Sx_7=>
 Q Sx_7
 else
 Jx Sx) fun Jx_1=>
 if s=none then
 Q S
 else
 Jx_1 S
theorem zet {S:Mem} {s:Pt} {cause:Int} {addr:Int} {Q:Mem→Prop} (H:fI S s cause addr Q):zbD S s cause addr Q:=by
 unfold fI at H
 exact Tr.intro Tryz.func171 E Tryz.ntmps171 E fun w0=>zm H (fun (J:Mem→Prop) (z:Unit) S=>J S) (fun z=>⟨41,[(0,eP s),(1,.int .u64 cause),(2,.int .u64 addr)]⟩) (fun z=>[]) (fun _ Sx H1=>zm H1 (fun (J:Mem→Prop) (z:Unit) S=>J S) (fun z=>⟨41,[(0,eP s),(1,.int .u64 cause),(2,.int .u64 addr)]⟩) (fun z=>[]) (fun _ Sx_1 H2=>zI (by kernel_rfl)<|a_takeP 0 E (by decide +kernel) zd E (zk E)<|by exact a_takeP 1 E (by decide +kernel) zd E (zk E)<|by exact a_takeP 2 E (by decide +kernel) zd E (zk E)<|by exact a_takeP 3 E (by decide +kernel) zd E (zk E)<|by exact a_takeP 4 E (by decide +kernel) zd E (zk E)<|by exact a_takeP 5 E (by decide +kernel) zd E (zk E)<|by exact by obtain⟨b,o,rfl,H3⟩:=H2;exact a_takeP 6 E (by decide +kernel) zd E (zT E)<|by exact a_takeP 7 E (by decide +kernel) zd E (zp E E)<|by exact gx H3 fun t ht H4=>qp 8 E (by decide +kernel) zd E (zA E) (qc ht)<|by exact a_takeP 9 E (by decide +kernel) zd E (zk E)<|by exact a_takeP 10 E (by decide +kernel) zd E (zk E)<|by exact a_takeP 11 E (by decide +kernel) zd E (zk E)<|by exact a_takeP 12 E (by decide +kernel) zd E (zT E)<|by exact a_takeP 13 E (by decide +kernel) zd E (zp E E)<|by exact gx H4 fun t_1 ht_1 H5=>qp 14 E (by decide +kernel) zd E (zA E) (qc ht_1)<|by exact a_takeP 15 E (by decide +kernel) zd E (zT E)<|by exact a_takeP 16 E (by decide +kernel) zd E (zp E E)<|by exact zw 17 (by decide +kernel) E<|by exact an H5 fun c H6=>zY E E E E E c E<|zn<|zF zu<|a_takeP 18 E (by decide +kernel) zd E (zT E)<|by exact a_takeP 19 E (by decide +kernel) zd E (zp E E)<|by exact zw 20 (by decide +kernel) E<|by exact an H6 fun c_1 H7=>zY E E E E E c_1 E<|zn<|zF zu<|a_takeP 21 E (by decide +kernel) zd E (zT E)<|by exact a_takeP 22 E (by decide +kernel) zd E (zp E E)<|by exact zw 23 (by decide +kernel) E<|by exact an H7 fun c_2 H8=>zY E E E E E c_2 E<|zn<|zF zu<|a_takeP 24 E (by decide +kernel) zd E (zT E)<|by exact a_takeP 25 E (by decide +kernel) zd E (zp E E)<|by exact zw 26 (by decide +kernel) E<|by exact an H8 fun c_3 H9=>zY E E E E E c_3 E<|zn<|zF zu<|a_takeP 27 E (by decide +kernel) zd E (zT E)<|by exact a_takeP 28 E (by decide +kernel) zd E (zp E E)<|by exact zw 29 (by decide +kernel) E<|by exact an H9 fun c_4 H10=>zY E E E E E c_4 E<|zn<|zF zu<|zJ (by decide +kernel)<|by exact kD Tryz.results171 (ze) ⟨E,H10⟩) (fun Jx hJx H11=>csr<|mv E E<|by obtain⟨b_1,o_1,rfl,H12⟩:=H11;exact s_p E (zT E)<|s_p E (zp E E)<|gx H12 fun t_2 ht_2 H13=>s_v E (zA E) (qc ht_2)<|iteK H13 (fun c_5 H14=>ceT E E E (c_5)<|nx<|c_t E E<|csr<|mv E E<|s_p E (zT E)<|s_p E (zp E E)<|an H14 fun c_6 H15=>zY E E E E E c_6 E<|nx<|zi<|zb<|zh Tryz.results171 (ze) ⟨E,H15⟩) fun c_5 H14=>ceF E E E (c_5)<|nx<|cfs E E<|hJx () _ _ _ _ [] H14 E ⟨E,E,E,True.intro⟩ E)) (fun Jx_1 hJx_1 H16=>csr<|mv E E<|iteK H16 (fun c_7 H17=>s_p E (yT (xE (p:=s) E E) c_7)<|nx<|c_t E E<|zi<|zb<|zh Tryz.results171 (ze) ⟨E,H17⟩) fun c_7 H17=>s_p E (yF (xE (p:=s) E E) c_7)<|nx<|cfs E E<|hJx_1 () _ _ _ _ [] H17 E ⟨E,E,E,True.intro⟩ E)
def zaW (S:Mem) (s:List Value) (n:Int) (time:Int) (me:Int) (Q:Int→Bool→Mem→Prop):Prop:=
 s.length=26 ∧
 jn (fun (Sx:Mem)=>
 Q 0 false Sx) fun Jx=>
 if n=0 then
 gI (nthL s 17) .u64 fun t=>
 Q t true S
 else
 if n=1 then
 gI (nthL s 18) .u64 fun t_1=>
 Q t_1 true S
 else
 if n=2 then
 gI (nthL s 19) .u64 fun t_2=>
 Q t_2 true S
 else
 if n=3 then
 gI (nthL s 20) .u64 fun t_3=>
 Q t_3 true S
 else
 if n=4 then
 gI (nthL s 21) .u64 fun t_4=>
 Q t_4 true S
 else
 if n=5 then
 gI (nthL s 25) .u32 fun t_5=>
 Q (IntKind.u64.wrap t_5) true S
 else
 if n=6 then
 gB (nthL s 22) fun t_6=>
 zai S t_6 fun t_7 Sx_1=>
 Q t_7 true Sx_1
 else
 if n=7 then
 Q time true S
 else
 if n=8 then
 Q (IntKind.u64.wrap me) true S
 else
 Jx S
theorem zfR {S:Mem} {s:List Value} {n:Int} {time:Int} {me:Int} {Q:Int→Bool→Mem→Prop} (H:zaW S s n time me Q):zde S s n time me Q:=by
 unfold zaW at H
 exact Tr.intro Tryz.func177 E Tryz.ntmps177 E fun w0=>an H fun hs H1=>csr<|qI E E E fun b=>gv E E<|gv E E<|nx<|zm H1 (fun (J:Mem→Prop) (z:Unit) S=>J S) (fun z=>⟨48,[]⟩) (fun z=>[]) (fun _ Sx H2=>csr<|gv E E<|gv E E<|nx<|zi<|zh Tryz.results177 (zc E (zc E ze)) ⟨_,_,E,H2⟩) (fun Jx hJx H3=>csr<|mv E E<|nx<|zE<|csr<|iteK H3 (fun c H4=>ceT E E E (c)<|gv E E<|nx<|c_t E E<|csr<|s_p E (zp E E)<|gx H4 fun t ht H5=>s_v E (zA E) (zQ 0 E ht)<|gv E E<|gv E E<|nx<|zi<|zl<|zb<|zh Tryz.results177 (zc E (zc E ze)) ⟨_,_,E,H5⟩) fun c H4=>ceF E E E (c)<|gv E E<|nx<|c_f E E<|csr<|iteK H4 (fun c_1 H6=>ceT E E E (c_1)<|gv E E<|nx<|c_t E E<|csr<|s_p E (zp E E)<|gx H6 fun t_1 ht_1 H7=>s_v E (zA E) (zQ 0 E ht_1)<|gv E E<|gv E E<|nx<|zi<|zl<|zb<|zh Tryz.results177 (zc E (zc E ze)) ⟨_,_,E,H7⟩) fun c_1 H6=>ceF E E E (c_1)<|gv E E<|nx<|c_f E E<|csr<|iteK H6 (fun c_2 H8=>ceT E E E (c_2)<|gv E E<|nx<|c_t E E<|csr<|s_p E (zp E E)<|gx H8 fun t_2 ht_2 H9=>s_v E (zA E) (zQ 0 E ht_2)<|gv E E<|gv E E<|nx<|zi<|zl<|zb<|zh Tryz.results177 (zc E (zc E ze)) ⟨_,_,E,H9⟩) fun c_2 H8=>ceF E E E (c_2)<|gv E E<|nx<|c_f E E<|csr<|iteK H8 (fun c_3 H10=>ceT E E E (c_3)<|gv E E<|nx<|c_t E E<|csr<|s_p E (zp E E)<|gx H10 fun t_3 ht_3 H11=>s_v E (zA E) (zQ 0 E ht_3)<|gv E E<|by exact gv E E<|nx<|zi<|zl<|zb<|zh Tryz.results177 (zc E (zc E ze)) ⟨_,_,E,H11⟩) fun c_3 H10=>ceF E E E (c_3)<|gv E E<|nx<|c_f E E<|csr<|iteK H10 (fun c_4 H12=>ceT E E E (c_4)<|gv E E<|nx<|by exact c_t E E<|csr<|s_p E (zp E E)<|gx H12 fun t_4 ht_4 H13=>s_v E (zA E) (zQ 0 E ht_4)<|gv E E<|gv E E<|nx<|zi<|zl<|zb<|zh Tryz.results177 (zc E (zc E ze)) ⟨_,_,E,H13⟩) fun c_4 H12=>ceF E E E (c_4)<|gv E E<|nx<|by exact c_f E E<|csr<|iteK H12 (fun c_5 H14=>ceT E E E (c_5)<|gv E E<|nx<|c_t E E<|csr<|s_p E (zp E E)<|gx H14 fun t_5 ht_5 H15=>s_v E (zA E) (zQ 0 E ht_5)<|s_p E (zN ⟨_,Tryz.underlying41⟩ E)<|gv E E<|gv E E<|nx<|zi<|zl<|zb<|zh Tryz.results177 (zc E (zc E ze)) ⟨_,_,E,H15⟩) fun c_5 H14=>ceF E E E (c_5)<|gv E E<|nx<|c_f E E<|csr<|iteK H14 (fun c_6 H16=>ceT E E E (c_6)<|gv E E<|nx<|c_t E E<|csr<|s_p E (zp E E)<|gx H16 fun t_6 ht_6 H17=>s_v E (zA E) (zQ 0 E ht_6)<|qM E E H17 fun t_7 Sx_1 H18=>gv E E<|gv E E<|nx<|zi<|zl<|zb<|zh Tryz.results177 (zc E (zc E ze)) ⟨_,_,E,H18⟩) fun c_6 H16=>ceF E E E (c_6)<|gv E E<|nx<|c_f E E<|csr<|iteK H16 (fun c_7 H19=>ceT E E E (c_7)<|gv E E<|nx<|c_t E E<|csr<|mv E E<|gv E E<|gv E E<|nx<|zi<|zl<|zb<|zh Tryz.results177 (zc E (zc E ze)) ⟨_,_,E,H19⟩) fun c_7 H19=>ceF E E E (c_7)<|gv E E<|nx<|c_f E E<|csr<|iteK H19 (fun c_8 H20=>ceT E E E (c_8)<|gv E E<|nx<|c_t E E<|csr<|mv E E<|s_p E (zN ⟨_,Tryz.underlying3⟩ E)<|gv E E<|gv E E<|nx<|zi<|zl<|zb<|zh Tryz.results177 (zc E (zc E ze)) ⟨_,_,E,H20⟩) fun c_8 H20=>ceF E E E (c_8)<|gv E E<|nx<|cfs E E<|zS<|hJx () _ _ _ _ [] H20 E True.intro E)
def zaU (S:Mem) (s:Pt) (n:Int) (v:Int) (Q:Bool→Mem→Prop):Prop:=
 jn (fun (Sx:Mem)=>
 jn (fun (Sx_1:Mem)=>
 Q true Sx_1) fun Jx=>
 if n=0 then
 nn s fun b o=>
 pt Sx b (o+17) 1 ([.int .u64 v]) fun Sx_2=>
 Jx Sx_2
 else
 if n=1 then
 nn s fun b_1 o_1=>
 pt Sx b_1 (o_1+18) 1 ([.int .u64 v]) fun Sx_3=>
 Jx Sx_3
 else
 if n=2 then
 nn s fun b_2 o_2=>
 pt Sx b_2 (o_2+19) 1 ([.int .u64 v]) fun Sx_4=>
 Jx Sx_4
 else
 if n=3 then
 nn s fun b_3 o_3=>
 pt Sx b_3 (o_3+20) 1 ([.int .u64 v]) fun Sx_5=>
 Jx Sx_5
 else
 if n=4 then
 nn s fun b_4 o_4=>
 pt Sx b_4 (o_4+21) 1 ([.int .u64 v]) fun Sx_6=>
 Jx Sx_6
 else
 if n=5 then
 nn s fun b_5 o_5=>
 pt Sx b_5 (o_5+25) 1 ([.int .u32 (IntKind.u32.wrap (iand .u64 v 255))]) fun Sx_7=>
 Jx Sx_7
 else
 if n=6 then
 nn s fun b_6 o_6=>
 pt Sx b_6 (o_6+22) 1 ([.bool (decide (iand .u64 v 1=1))]) fun Sx_8=>
 Jx Sx_8
 else
 Q false Sx) fun Jx_1=>
 if s=none then
 Q false S
 else
 Jx_1 S
theorem zfP {S:Mem} {s:Pt} {n:Int} {v:Int} {Q:Bool→Mem→Prop} (H:zaU S s n v Q):zdd S s n v Q:=by
 unfold zaU at H
 exact Tr.intro Tryz.func178 E Tryz.ntmps178 E fun w0=>csr<|gv E E<|nx<|zm H (fun (J:Mem→Prop) (z:Unit) S=>J S) (fun z=>⟨56,[(0,eP s),(1,.int .i64 n),(2,.int .u64 v)]⟩) (fun z=>[]) (fun _ Sx H1=>zm H1 (fun (J:Mem→Prop) (z:Unit) S=>J S) (fun z=>⟨56,[]⟩) (fun z=>[]) (fun _ Sx_1 H2=>csr<|gv E E<|nx<|zi<|zh Tryz.results178 (zc E ze) ⟨_,E,H2⟩) (fun Jx hJx H3=>csr<|mv E E<|nx<|zE<|csr<|iteK H3 (fun c H4=>ceT E E E (c)<|gv E E<|nx<|ctr E E<|mv E E<|mv E E<|by obtain⟨b,o,rfl,H5⟩:=H4;exact s_p E (zT E)<|s_p E (zp E E)<|an H5 fun c_1 H6=>zY E E E E E c_1 E<|zn<|zS<|hJx () _ _ _ _ [] H6 E True.intro E) fun c H4=>ceF E E E (c)<|gv E E<|nx<|c_f E E<|csr<|iteK H4 (fun c_2 H7=>ceT E E E (c_2)<|gv E E<|nx<|ctr E E<|mv E E<|mv E E<|by obtain⟨b_1,o_1,rfl,H8⟩:=H7;exact s_p E (zT E)<|s_p E (zp E E)<|an H8 fun c_3 H9=>zY E E E E E c_3 E<|zn<|zS<|hJx () _ _ _ _ [] H9 E True.intro E) fun c_2 H7=>ceF E E E (c_2)<|gv E E<|nx<|c_f E E<|csr<|iteK H7 (fun c_4 H10=>ceT E E E (c_4)<|gv E E<|nx<|ctr E E<|mv E E<|mv E E<|by obtain⟨b_2,o_2,rfl,H11⟩:=H10;exact s_p E (zT E)<|s_p E (zp E E)<|an H11 fun c_5 H12=>zY E E E E E c_5 E<|zn<|zS<|hJx () _ _ _ _ [] H12 E True.intro E) fun c_4 H10=>ceF E E E (c_4)<|gv E E<|nx<|c_f E E<|csr<|iteK H10 (fun c_6 H13=>ceT E E E (c_6)<|gv E E<|nx<|ctr E E<|mv E E<|mv E E<|by obtain⟨b_3,o_3,rfl,H14⟩:=H13;exact s_p E (zT E)<|s_p E (zp E E)<|an H14 fun c_7 H15=>zY E E E E E c_7 E<|zn<|zS<|hJx () _ _ _ _ [] H15 E True.intro E) fun c_6 H13=>ceF E E E (c_6)<|gv E E<|nx<|c_f E E<|csr<|iteK H13 (fun c_8 H16=>ceT E E E (c_8)<|gv E E<|nx<|c_t E E<|by exact zx<|mv E E<|mv E E<|by obtain⟨b_4,o_4,rfl,H17⟩:=H16;exact s_p E (zT E)<|s_p E (zp E E)<|an H17 fun c_9 H18=>zY E E E E E c_9 E<|zn<|zS<|hJx () _ _ _ _ [] H18 E True.intro E) fun c_8 H16=>ceF E E E (c_8)<|gv E E<|nx<|c_f E E<|by exact csr<|iteK H16 (fun c_10 H19=>ceT E E E (c_10)<|gv E E<|nx<|ctr E E<|mv E E<|mv E E<|s_p E (vH E E)<|s_p E (zN ⟨_,Tryz.underlying39⟩ E)<|by obtain⟨b_5,o_5,rfl,H20⟩:=H19;exact s_p E (zT E)<|s_p E (zp E E)<|an H20 fun c_11 H21=>zY E E E E E c_11 E<|zn<|zS<|hJx () _ _ _ _ [] H21 E True.intro E) fun c_10 H19=>ceF E E E (c_10)<|gv E E<|nx<|c_f E E<|csr<|iteK H19 (fun c_12 H22=>ceT E E E (c_12)<|gv E E<|nx<|ctr E E<|mv E E<|mv E E<|s_p E (vH E E)<|s_p E (jz E E)<|by obtain⟨b_6,o_6,rfl,H23⟩:=H22;exact s_p E (zT E)<|s_p E (zp E E)<|an H23 fun c_13 H24=>zY E E E E E c_13 E<|zn<|zS<|hJx () _ _ _ _ [] H24 E True.intro E) fun c_12 H22=>ceF E E E (c_12)<|gv E E<|nx<|c_f E E<|csr<|gv E E<|nx<|zi<|zl<|zb<|zh Tryz.results178 (zc E ze) ⟨_,E,H22⟩)) (fun Jx_1 hJx_1 H25=>csr<|mv E E<|iteK H25 (fun c_14 H26=>s_p E (yT (xE (p:=s) E E) c_14)<|nx<|c_t E E<|csr<|gv E E<|nx<|zi<|zb<|zh Tryz.results178 (zc E ze) ⟨_,E,H26⟩) fun c_14 H26=>s_p E (yF (xE (p:=s) E E) c_14)<|nx<|cfs E E<|hJx_1 () _ _ _ _ [] H26 E ⟨E,E,E,True.intro⟩ E)
def fK (S:Mem) (s:Pt) (Q:Mem→Prop):Prop:=
 if s≠none then
 nn s fun b o=>
 gI (S.cell b (o+19)) .u64 fun t=>
 pt S b (o+16) 1 ([.int .u64 t]) fun Sx=>
 pt Sx b (o+22) 1 ([.bool true]) fun Sx_1=>
 Q Sx_1
 else
 Q S
theorem zev {S:Mem} {s:Pt} {Q:Mem→Prop} (H:fK S s Q):zbF S s Q:=by
 unfold fK at H
 exact Tr.intro Tryz.func179 E Tryz.ntmps179 E fun w0=>csr<|mv E E<|iteK H (fun c H1=>s_p E (yT (zbe (p:=s) E E) c)<|nx<|ctr E E<|mv E E<|mv E E<|mv E E<|by obtain⟨b,o,rfl,H2⟩:=H1;exact s_p E (zT E)<|s_p E (zp E E)<|gx H2 fun t ht H3=>s_v E (zA E) (qc ht)<|s_p E (zT E)<|s_p E (zp E E)<|an H3 fun c_1 H4=>zY E E E E E c_1 E<|s_p E (zT E)<|s_p E (zp E E)<|an H4 fun c_2 H5=>zY E E E E E c_2 E<|zn<|kD Tryz.results179 (ze) ⟨E,H5⟩) fun c H1=>s_p E (yF (zbe (p:=s) E E) c)<|nx<|cfs E E<|kD Tryz.results179 (ze) ⟨E,H1⟩
def fH (S:Mem) (onx:Bool) (Q:Int→Mem→Prop):Prop:=
 if onx=true then
 Q 1 S
 else
 Q 0 S
theorem zes {S:Mem} {onx:Bool} {Q:Int→Mem→Prop} (H:fH S onx Q):zai S onx Q:=by
 unfold fH at H
 exact Tr.intro Tryz.func199 E Tryz.ntmps199 E fun w0=>csr<|gv E E<|nx<|zG<|csr<|iteK H (fun c H1=>s_p E (qZ E c)<|nx<|c_t E E<|csr<|gv E E<|nx<|zi<|zb<|zh Tryz.results199 (zc E ze) ⟨_,E,H1⟩) fun c H1=>s_p E (qZ E (wQ c))<|nx<|cfs E E<|zr<|csr<|gv E E<|nx<|zi<|zh Tryz.results199 (zc E ze) ⟨_,E,H1⟩
def gn (S:Mem) (w:Int) (Q:Int→Mem→Prop):Prop:=
 vz S w fun t Sx=>
 Q t Sx
theorem zdy {S:Mem} {w:Int} {Q:Int→Mem→Prop} (H:gn S w Q):zaA S w Q:=by
 unfold gn at H
 exact Tr.intro Tryz.func218 E Tryz.ntmps218 E fun w0=>csr<|gv E E<|nxr<|mv E E<|qM E E H fun t Sx H1=>gv E E<|nx<|zi<|zh Tryz.results218 (zc E ze) ⟨_,E,H1⟩
def xc (S:Mem) (x:Int) (Q:Int→Mem→Prop):Prop:=
 if x=0 then
 Q 64 S
 else
 0≤ishr .u64 (IntKind.u64.wrap ((iand .u64 x (IntKind.u64.wrap (0-x)))*285870213051353865)) 58∧ishr .u64 (IntKind.u64.wrap ((iand .u64 x (IntKind.u64.wrap (0-x)))*285870213051353865)) 58<64 ∧
 gI (S.cell 0 (0+(ishr .u64 (IntKind.u64.wrap ((iand .u64 x (IntKind.u64.wrap (0-x)))*285870213051353865)) 58).toNat*1)) .u8 fun t=>
 Q (IntKind.i64.wrap t) S
theorem jM {S:Mem} {x:Int} {Q:Int→Mem→Prop} (H:xc S x Q):vz S x Q:=by
 unfold xc at H
 exact Tr.intro Tryz.func239 E Tryz.ntmps239 E fun w0=>csr<|gv E E<|nx<|zG<|csr<|mv E E<|iteK H (fun c H1=>ceT E E E (c)<|nx<|c_t E E<|csr<|gv E E<|nx<|zi<|zb<|zh Tryz.results239 (zc E ze) ⟨_,E,H1⟩) fun c H1=>ceF E E E (c)<|nx<|cfs E E<|zr<|csr<|mv E E<|mv E E<|s_p E (zlk E)<|s_p E (vH E E)<|s_p E (xg E E)<|s_p E (jy E E (by decide))<|an2 H1 fun c_1 c_2 H2=>s_p E (zz E E c_1 c_2 E)<|gx H2 fun t ht H3=>s_v E (zA E) (qc ht)<|s_p E (zN ⟨_,Tryz.underlying5⟩ E)<|gv E E<|nx<|zi<|zh Tryz.results239 (zc E ze) ⟨_,E,H3⟩
def gD (S:Mem) (x:Int) (y:Int) (Q:Int→Int→Mem→Prop):Prop:=
 Q (IntKind.u64.wrap ((IntKind.u64.wrap ((IntKind.u64.wrap ((ishr .u64 x 32)*(ishr .u64 y 32)))+(ishr .u64 (IntKind.u64.wrap ((IntKind.u64.wrap ((ishr .u64 x 32)*(iand .u64 y 4294967295)))+(ishr .u64 (IntKind.u64.wrap ((iand .u64 x 4294967295)*(iand .u64 y 4294967295))) 32))) 32)))+(ishr .u64 (IntKind.u64.wrap ((iand .u64 (IntKind.u64.wrap ((IntKind.u64.wrap ((ishr .u64 x 32)*(iand .u64 y 4294967295)))+(ishr .u64 (IntKind.u64.wrap ((iand .u64 x 4294967295)*(iand .u64 y 4294967295))) 32))) 4294967295)+(IntKind.u64.wrap ((iand .u64 x 4294967295)*(ishr .u64 y 32))))) 32))) (IntKind.u64.wrap (x*y)) S
theorem zdH {S:Mem} {x:Int} {y:Int} {Q:Int→Int→Mem→Prop} (H:gD S x y Q):zaR S x y Q:=by
 unfold gD at H
 exact Tr.intro Tryz.func200 E Tryz.ntmps200 E fun w0=>csr<|gv E E<|gv E E<|nxr<|mv E E<|s_p E (vH E E)<|gv E E<|nxr<|mv E E<|s_p E (jy E E (by decide))<|gv E E<|nxr<|mv E E<|s_p E (vH E E)<|gv E E<|nxr<|mv E E<|s_p E (jy E E (by decide))<|gv E E<|nxr<|mv E E<|mv E E<|s_p E (xg E E)<|gv E E<|nxr<|mv E E<|mv E E<|s_p E (xg E E)<|mv E E<|s_p E (jy E E (by decide))<|s_p E (qd E E)<|gv E E<|nxr<|by exact mv E E<|s_p E (vH E E)<|gv E E<|nxr<|mv E E<|s_p E (jy E E (by decide))<|gv E E<|nxr<|mv E E<|mv E E<|mv E E<|s_p E (xg E E)<|s_p E (qd E E)<|gv E E<|nxr<|mv E E<|mv E E<|s_p E (xg E E)<|mv E E<|s_p E (qd E E)<|mv E E<|s_p E (jy E E (by decide))<|s_p E (qd E E)<|gv E E<|nxr<|mv E E<|mv E E<|s_p E (xg E E)<|gv E E<|nx<|zi<|zh Tryz.results200 (zc E (zc E ze)) ⟨_,_,E,H⟩
def wq (S:Mem) (x:Int) (k:Int) (Q:Int→Mem→Prop):Prop:=
 0≤iand .u64 (IntKind.u64.wrap k) 63 ∧
 0≤IntKind.u64.wrap (64-(iand .u64 (IntKind.u64.wrap k) 63)) ∧
 Q (ior .u64 (ishl .u64 x (iand .u64 (IntKind.u64.wrap k) 63)) (ishr .u64 x (IntKind.u64.wrap (64-(iand .u64 (IntKind.u64.wrap k) 63))))) S
theorem fj {S:Mem} {x:Int} {k:Int} {Q:Int→Mem→Prop} (H:wq S x k Q):wY S x k Q:=by
 unfold wq at H
 exact Tr.intro Tryz.func201 E Tryz.ntmps201 E fun w0=>csr<|gv E E<|nxr<|mv E E<|s_p E (zN ⟨_,Tryz.underlying3⟩ E)<|s_p E (vH E E)<|gv E E<|nxr<|mv E E<|mv E E<|an H fun c H1=>s_p E (zaz E E c)<|mv E E<|mv E E<|s_p E (jw E E)<|an H1 fun c_1 H2=>s_p E (jy E E c_1)<|s_p E (zie E E)<|gv E E<|nx<|zi<|zh Tryz.results201 (zc E ze) ⟨_,E,H2⟩
def zaS (S:Mem) (sum:Int) (w:Int) (Q:Int→Mem→Prop):Prop:=
 zaR S (ixor .u64 sum w) 11400714819323198485 fun t t_1 Sx=>
 wY Sx t 17 fun t_2 Sx_1=>
 Q (ixor .u64 t_2 t_1) Sx_1
theorem zfN {S:Mem} {sum:Int} {w:Int} {Q:Int→Mem→Prop} (H:zaS S sum w Q):zbl S sum w Q:=by
 unfold zaS at H
 exact Tr.intro Tryz.func135 E Tryz.ntmps135 E fun w0=>csr<|gv E E<|nxr<|mv E E<|mv E E<|s_p E (zfJ E E)<|zcu E E H fun t t_1 Sx H1=>mv E E<|s_p E (zj E E)<|s_p E (zj E E)<|gv E E<|gv E E<|nxr<|mv E E<|qM E E H1 fun t_2 Sx_1 H2=>mv E E<|s_p E (zfJ E E)<|gv E E<|nx<|zi<|zh Tryz.results135 (zc E ze) ⟨_,E,H2⟩
def fJ (S:Mem) (s:List Value) (Q:Sl→Mem→Prop):Prop:=
 s.length=26 ∧
 al S 43 s fun b Sx=>
 sp Sx ⟨some (b,0),16,16⟩ 1 fun vs=>
 ap Sx 39 1 8 [.int .u64 0] (⟨none,0,0⟩) 16 vs fun t Sx_1=>
 gI (Sx_1.cell b 16) .u64 fun t_1=>
 gI (Sx_1.cell b 17) .u64 fun t_2=>
 gI (Sx_1.cell b 18) .u64 fun t_3=>
 gI (Sx_1.cell b 19) .u64 fun t_4=>
 gI (Sx_1.cell b 20) .u64 fun t_5=>
 gI (Sx_1.cell b 21) .u64 fun t_6=>
 gB (Sx_1.cell b 22) fun t_7=>
 gI (Sx_1.cell b 23) .u8 fun t_8=>
 gI (Sx_1.cell b 24) .u32 fun t_9=>
 gI (Sx_1.cell b 25) .u32 fun t_10=>
 zai Sx_1 t_7 fun t_11 Sx_2=>
 Sx_2.cell b 25=some (.int .u32 t_10) ∧
 Sx_2.cell b 24=some (.int .u32 t_9) ∧
 Sx_2.cell b 23=some (.int .u8 t_8) ∧
 Sx_2.cell b 21=some (.int .u64 t_6) ∧
 Sx_2.cell b 20=some (.int .u64 t_5) ∧
 Sx_2.cell b 19=some (.int .u64 t_4) ∧
 Sx_2.cell b 18=some (.int .u64 t_3) ∧
 Sx_2.cell b 17=some (.int .u64 t_2) ∧
 Sx_2.cell b 16=some (.int .u64 t_1) ∧
 ap Sx_2 39 1 8 [.int .u64 0] t 10 ([.int .u64 t_1,.int .u64 t_2,.int .u64 t_3,.int .u64 t_4,.int .u64 t_5,.int .u64 t_6,.int .u64 t_11,.int .u64 (IntKind.u64.wrap t_8),.int .u64 (IntKind.u64.wrap t_9),.int .u64 (IntKind.u64.wrap t_10)]) fun t_12 Sx_3=>
 Sx_3.cell b 25=some (.int .u32 t_10) ∧
 Sx_3.cell b 24=some (.int .u32 t_9) ∧
 Sx_3.cell b 23=some (.int .u8 t_8) ∧
 Q t_12 Sx_3
theorem zeu {S:Mem} {s:List Value} {Q:Sl→Mem→Prop} (H:fJ S s Q):zbE S s Q:=by
 unfold fJ at H
 exact Tr.intro Tryz.func134 E Tryz.ntmps134 E fun w0=>an H fun hs H1=>csr<|qI E E E fun b=>zaj 0 E fun hb=>have H2:=H1 b hb;gv E E<|nxr<|s_p E (zp E E)<|s_p E (ziV E)<|by obtain⟨vs,h,c,H3⟩:=H2;exact zak (sx:=⟨none,0,0⟩) (vs:=vs) E E E ((zbU h).1) ((zbU (P:=Tryz.prog) (w0:=w0) (S0:=S) (V:=[]) h).2) c (by decide) H3 fun t Sx_1 H4=>gv E E<|nx<|zG<|zI (by kernel_rfl)<|aTP 0 E (by decide +kernel) E (zk E)<|by exact aTP 1 E (by decide +kernel) E (zp E E)<|by exact gx H4 fun t_1 ht_1 H5=>aT 2 E (by decide +kernel) E (zA E) (qc ht_1)<|by exact aTP 3 E (by decide +kernel) E (zp E E)<|by exact gx H5 fun t_2 ht_2 H6=>aT 4 E (by decide +kernel) E (zA E) (qc ht_2)<|by exact aTP 5 E (by decide +kernel) E (zp E E)<|by exact gx H6 fun t_3 ht_3 H7=>aT 6 E (by decide +kernel) E (zA E) (qc ht_3)<|by exact aTP 7 E (by decide +kernel) E (zp E E)<|by exact gx H7 fun t_4 ht_4 H8=>aT 8 E (by decide +kernel) E (zA E) (qc ht_4)<|by exact aTP 9 E (by decide +kernel) E (zp E E)<|by exact gx H8 fun t_5 ht_5 H9=>aT 10 E (by decide +kernel) E (zA E) (qc ht_5)<|by exact aTP 11 E (by decide +kernel) E (zp E E)<|by exact gx H9 fun t_6 ht_6 H10=>aT 12 E (by decide +kernel) E (zA E) (qc ht_6)<|by exact aTP 13 E (by decide +kernel) E (zp E E)<|by exact gx H10 fun t_7 ht_7 H11=>aT 14 E (by decide +kernel) E (zA E) (qc ht_7)<|by exact aTP 16 E (by decide +kernel) E (zp E E)<|by exact gx H11 fun t_8 ht_8 H12=>aT 17 E (by decide +kernel) E (zA E) (qc ht_8)<|by exact aTP 18 E (by decide +kernel) E (zN ⟨_,Tryz.underlying5⟩ E)<|by exact aTP 19 E (by decide +kernel) E (zp E E)<|by exact gx H12 fun t_9 ht_9 H13=>aT 20 E (by decide +kernel) E (zA E) (qc ht_9)<|by exact aTP 21 E (by decide +kernel) E (zN ⟨_,Tryz.underlying41⟩ E)<|by exact aTP 22 E (by decide +kernel) E (zp E E)<|by exact gx H13 fun t_10 ht_10 H14=>aT 23 E (by decide +kernel) E (zA E) (qc ht_10)<|by exact aTP 24 E (by decide +kernel) E (zN ⟨_,Tryz.underlying41⟩ E)<|by exact zw 15 (by decide +kernel) E<|by exact qM E E H14 fun t_11 Sx_2 H15=>by obtain⟨k,H16⟩:=H15;exact by obtain⟨k_1,H17⟩:=H16;exact by obtain⟨k_2,H18⟩:=H17;exact by obtain⟨k_3,H19⟩:=H18;exact by obtain⟨k_4,H20⟩:=H19;exact by obtain⟨k_5,H21⟩:=H20;exact by obtain⟨k_6,H22⟩:=H21;exact by obtain⟨k_7,H23⟩:=H22;exact by obtain⟨k_8,H24⟩:=H23;exact zn<|zF (zB (qc k) (zB (qc k_1) (zB (qc k_2) (zB (qc k_3) (zB (qc k_4) (zB (qc k_5) (zB (qc k_6) (zB (qc k_7) (zB (qc k_8) zu)))))))))<|zw 25 (by decide +kernel) E<|by exact zgA E E (by decide) E fun b_1=>zn<|zF (zB (qc k) (zB (qc k_1) (zB (qc k_2) zu)))<|zw 26 (by decide +kernel) E<|by exact zak (sx:=t) (vs:=[.int .u64 t_1,.int .u64 t_2,.int .u64 t_3,.int .u64 t_4,.int .u64 t_5,.int .u64 t_6,.int .u64 t_11,.int .u64 (IntKind.u64.wrap t_8),.int .u64 (IntKind.u64.wrap t_9),.int .u64 (IntKind.u64.wrap t_10)]) E E E (zif 0 E E) E E (by decide) H24 fun t_12 Sx_3 H25=>by obtain⟨k_9,H26⟩:=H25;exact by obtain⟨k_10,H27⟩:=H26;exact by obtain⟨k_11,H28⟩:=H27;exact zn<|zF (zB (qc k_9) (zB (qc k_10) (zB (qc k_11) zu)))<|aTP 27 E (by decide +kernel) E (zM E)<|by exact zJ (by decide +kernel)<|by exact zr<|zi<|zh Tryz.results134 (zc E ze) ⟨_,E,H28⟩
def zaT (S:Mem) (s:List Value) (Q:Int→Mem→Prop):Prop:=
 s.length=26 ∧
 jn (fun (n:Int) (Sx:Mem)=>
 Q n Sx) fun Jx=>
 zbE S s fun t Sx_1=>
 lp (fun Xx (z:Int×Int) (Sx_2:Mem)=>
 match z with
 | (n_1,t_1)=>
 if t_1<(t.n:Int) then
 sl t fun b_1 o n_2 n_3=>
 0≤t_1∧t_1<((n_2:Nat):Int) ∧
 gI (Sx_2.cell b_1 (o+t_1.toNat*1)) .u64 fun t_2=>
 zbl Sx_2 n_1 t_2 fun t_3 Sx_3=>
 Xx (t_3,IntKind.i64.wrap (t_1+1)) Sx_3
 else
 Jx n_1 Sx_2) (0,0) Sx_1
theorem zfO {S:Mem} {s:List Value} {Q:Int→Mem→Prop} (H:zaT S s Q):zdc S s Q:=by
 unfold zaT at H
 exact Tr.intro Tryz.func68 E Tryz.ntmps68 E fun w0=>an H fun hs H1=>csr<|qI E E E fun b=>gv E E<|nxr<|gv E E<|nx<|zm H1 (fun (J:Int→Mem→Prop) (z:Int) S=>J z S) (fun z=>⟨18,[(3,.int .u64 z)]⟩) (fun z=>[]) (fun n Sx H2=>csr<|mv E E<|gv E E<|nx<|zi<|zh Tryz.results68 (zc E ze) ⟨_,E,H2⟩) (fun Jx hJx H3=>csr<|by refine s_v E (zO E hs) (zD (k:=26) 0 E (zg hs)) ?_;exact qM E E H3 fun t Sx_1 H4=>s_p E (wP E)<|mv E E<|nx<|zE<|qS (fun z=>⟨18,[(3,.int .u64 z.1),(7,eL t),(8,.int .i64 (t.n:Int)),(9,.int .i64 z.2)]⟩) (fun z=>[]) (0,0) (idx:=[]) H4 E ⟨E,E,E,E,True.intro⟩ E<|by rintro Xx hXx ⟨n_1,t_1⟩ Sx_2 H5;exact csr<|iteK H5 (fun c H6=>s_p E (yT (zH E E) c)<|nx<|zG<|c_t E E<|qw<|zr<|zG<|zE<|csr<|by obtain⟨b_1,o,n_2,n_3,rfl,H7⟩:=H6;exact an2 H7 fun c_1 c_2 H8=>s_p E (yf E E c_1 c_2 E)<|gx H8 fun t_2 ht_2 H9=>s_v E (zA E) (qc ht_2)<|gv E E<|nx<|zx<|mv E E<|mv E E<|qM E E H9 fun t_3 Sx_3 H10=>gv E E<|zn<|zS<|zr<|zx<|s_p E (qd E E)<|mv E E<|zn<|hXx (t_3,IntKind.i64.wrap (t_1+1)) _ _ _ _ [] H10 E ⟨E,E,E,E,True.intro⟩ E) fun c H6=>s_p E (yF (zH E E) c)<|nx<|zG<|c_f E E<|qB<|zo<|zo<|zV<|hJx n_1 _ _ _ _ [] H6 E ⟨E,True.intro⟩ E)
def yZ (S:Mem) (s:List Value) (cause:Int) (addr:Int) (Q:List Value→Mem→Prop):Prop:=
 s.length=26 ∧
 jn (fun (s_1:List Value) (v:List Value) (Sx:Mem)=>
 s_1.length=26 ∧
 v.length=26 ∧
 gI (nthL s_1 16) .u64 fun t=>
 gI (nthL (spl (spl (spl s_1 19 ([.int .u64 t])) 20 ([.int .u64 cause])) 21 ([.int .u64 addr])) 18) .u64 fun t_1=>
 (spl (spl (spl (spl (spl s_1 19 ([.int .u64 t])) 20 ([.int .u64 cause])) 21 ([.int .u64 addr])) 16 ([.int .u64 t_1])) 22 ([.bool false])).all (·.oneCell')=true ∧
 Q (spl (spl (spl (spl (spl s_1 19 ([.int .u64 t])) 20 ([.int .u64 cause])) 21 ([.int .u64 addr])) 16 ([.int .u64 t_1])) 22 ([.bool false])) Sx) fun Jx=>
 gI (nthL s 18) .u64 fun t_2=>
 if t_2=0 then
 (spl s 23 ([.int .u8 2])).all (·.oneCell')=true ∧
 Q (spl s 23 ([.int .u8 2])) S
 else
 Jx s z43 S
theorem jJ {S:Mem} {s:List Value} {cause:Int} {addr:Int} {Q:List Value→Mem→Prop} (H:yZ S s cause addr Q):xL S s cause addr Q:=by
 unfold yZ at H
 exact Tr.intro Tryz.func195 E Tryz.ntmps195 E fun w0=>an H fun hs H1=>csr<|qI E E E fun b=>by refine zP E fun b_1=>?_;exact nx<|zm H1 (fun (J:List Value→List Value→Mem→Prop) (z:List Value×List Value) S=>J z.1 z.2 S) (fun z=>⟨24,[(1,.int .u64 cause),(2,.int .u64 addr),(3,.pointer (some ⟨b,0,none⟩)),(6,.pointer (some ⟨b_1,0,none⟩))]⟩) (fun z=>[⟨b,43,z.1⟩,⟨b_1,43,z.2⟩]) (by rintro⟨s_1,v⟩ Sx H2;exact an H2 fun hs_1 H3=>an H3 fun hv H4=>csr<|s_p E (zp E E)<|gx H4 fun t ht H5=>s_v E (zA E) (zQ 0 E ht)<|s_p E (zp E E)<|qv (sz:=1) (vs:=[.int .u64 t]) 0 E E E E E E (qt hs_1 (by omega)) E<|nxr<|mv E E<|s_p E (zp E E)<|qv (sz:=1) (vs:=[.int .u64 cause]) 0 E E E E E E (qt (zC hs_1 (by have:=True.intro;(try simp only[List.length_cons,List.length_nil]);omega)) (by omega)) E<|nxr<|mv E E<|s_p E (zp E E)<|qv (sz:=1) (vs:=[.int .u64 addr]) 0 E E E E E E (qt (zC (zC hs_1 (by have:=True.intro;(try simp only[List.length_cons,List.length_nil]);omega)) (by have:=True.intro;(try simp only[List.length_cons,List.length_nil]);omega)) (by omega)) E<|nxr<|s_p E (zp E E)<|gx H5 fun t_1 ht_1 H6=>s_v E (zA E) (zQ 0 E ht_1)<|s_p E (zp E E)<|qv (sz:=1) (vs:=[.int .u64 t_1]) 0 E E E E E E (qt (zC (zC (zC hs_1 (by have:=True.intro;(try simp only[List.length_cons,List.length_nil]);omega)) (by have:=True.intro;(try simp only[List.length_cons,List.length_nil]);omega)) (by have:=True.intro;(try simp only[List.length_cons,List.length_nil]);omega)) (by omega)) E<|nxr<|s_p E (zp E E)<|qv (sz:=1) (vs:=[.bool false]) 0 E E E E E E (qt (zC (zC (zC (zC hs_1 (by have:=True.intro;(try simp only[List.length_cons,List.length_nil]);omega)) (by have:=True.intro;(try simp only[List.length_cons,List.length_nil]);omega)) (by have:=True.intro;(try simp only[List.length_cons,List.length_nil]);omega)) (by have:=True.intro;(try simp only[List.length_cons,List.length_nil]);omega)) (by omega)) E<|nxr<|by refine s_v E (zO E (zC (zC (zC (zC (zC hs_1 (by have:=True.intro;(try simp only[List.length_cons,List.length_nil]);omega)) (by have:=True.intro;(try simp only[List.length_cons,List.length_nil]);omega)) (by have:=True.intro;(try simp only[List.length_cons,List.length_nil]);omega)) (by have:=True.intro;(try simp only[List.length_cons,List.length_nil]);omega)) (by have:=True.intro;(try simp only[List.length_cons,List.length_nil]);omega))) (zD (k:=26) 0 E (zg (zC (zC (zC (zC (zC hs_1 (by have:=True.intro;(try simp only[List.length_cons,List.length_nil]);omega)) (by have:=True.intro;(try simp only[List.length_cons,List.length_nil]);omega)) (by have:=True.intro;(try simp only[List.length_cons,List.length_nil]);omega)) (by have:=True.intro;(try simp only[List.length_cons,List.length_nil]);omega)) (by have:=True.intro;(try simp only[List.length_cons,List.length_nil]);omega)))) ?_;exact an H6 fun c H7=>zq 1 E E E E E (zC (zC (zC (zC (zC hs_1 (by have:=True.intro;(try simp only[List.length_cons,List.length_nil]);omega)) (by have:=True.intro;(try simp only[List.length_cons,List.length_nil]);omega)) (by have:=True.intro;(try simp only[List.length_cons,List.length_nil]);omega)) (by have:=True.intro;(try simp only[List.length_cons,List.length_nil]);omega)) (by have:=True.intro;(try simp only[List.length_cons,List.length_nil]);omega)) hv c<|nx<|zi<|zh Tryz.results195 (zy E (zD (k:=26) 1 E (zg (zC (zC (zC (zC (zC hs_1 (by have:=True.intro;(try simp only[List.length_cons,List.length_nil]);omega)) (by have:=True.intro;(try simp only[List.length_cons,List.length_nil]);omega)) (by have:=True.intro;(try simp only[List.length_cons,List.length_nil]);omega)) (by have:=True.intro;(try simp only[List.length_cons,List.length_nil]);omega)) (by have:=True.intro;(try simp only[List.length_cons,List.length_nil]);omega)))) (zC (zC (zC (zC (zC hs_1 (by have:=True.intro;(try simp only[List.length_cons,List.length_nil]);omega)) (by have:=True.intro;(try simp only[List.length_cons,List.length_nil]);omega)) (by have:=True.intro;(try simp only[List.length_cons,List.length_nil]);omega)) (by have:=True.intro;(try simp only[List.length_cons,List.length_nil]);omega)) (by have:=True.intro;(try simp only[List.length_cons,List.length_nil]);omega)) ze) ⟨_,E,zC (zC (zC (zC (zC hs_1 (by have:=True.intro;(try simp only[List.length_cons,List.length_nil]);omega)) (by have:=True.intro;(try simp only[List.length_cons,List.length_nil]);omega)) (by have:=True.intro;(try simp only[List.length_cons,List.length_nil]);omega)) (by have:=True.intro;(try simp only[List.length_cons,List.length_nil]);omega)) (by have:=True.intro;(try simp only[List.length_cons,List.length_nil]);omega),H7⟩) (fun Jx hJx H8=>csr<|s_p E (zp E E)<|gx H8 fun t_2 ht_2 H9=>s_v E (zA E) (zQ 0 E ht_2)<|iteK H9 (fun c_1 H10=>ceT E E E (c_1)<|nx<|c_t E E<|csr<|s_p E (zp E E)<|qv (sz:=1) (vs:=[.int .u8 2]) 0 E E E E E E (qt hs (by omega)) E<|nxr<|by refine s_v E (zO E (zC hs (by have:=True.intro;(try simp only[List.length_cons,List.length_nil]);omega))) (zD (k:=26) 0 E (zg (zC hs (by have:=True.intro;(try simp only[List.length_cons,List.length_nil]);omega)))) ?_;exact an H10 fun c_2 H11=>zq 1 E E E E E (zC hs (by have:=True.intro;(try simp only[List.length_cons,List.length_nil]);omega)) wR c_2<|nx<|zi<|zb<|zh Tryz.results195 (zy E (zD (k:=26) 1 E (zg (zC hs (by have:=True.intro;(try simp only[List.length_cons,List.length_nil]);omega)))) (zC hs (by have:=True.intro;(try simp only[List.length_cons,List.length_nil]);omega)) ze) ⟨_,E,zC hs (by have:=True.intro;(try simp only[List.length_cons,List.length_nil]);omega),H11⟩) fun c_1 H10=>ceF E E E (c_1)<|nx<|cfs E E<|hJx (s,z43) _ _ _ _ [0,0] H10 E ⟨E,E,E,E,True.intro⟩ E)
def yG (S:Mem) (s:List Value) (Q:Sl→Mem→Prop):Prop:=
 s.length=26 ∧
 jn (fun (l:Sl) (Sx:Mem)=>
 jn (fun (openx:Int) (Sx_1:Mem)=>
 gI (nthL s 16) .u64 fun t=>
 gI (nthL s 17) .u64 fun t_1=>
 gI (nthL s 18) .u64 fun t_2=>
 gI (nthL s 19) .u64 fun t_3=>
 gI (nthL s 20) .u64 fun t_4=>
 gI (nthL s 21) .u64 fun t_5=>
 gI (nthL s 23) .u8 fun t_6=>
 gI (nthL s 24) .u32 fun t_7=>
 gI (nthL s 25) .u32 fun t_8=>
 ap Sx_1 39 1 8 [.int .u64 0] l 10 ([.int .u64 t,.int .u64 t_1,.int .u64 t_2,.int .u64 t_3,.int .u64 t_4,.int .u64 t_5,.int .u64 openx,.int .u64 (IntKind.u64.wrap t_6),.int .u64 (IntKind.u64.wrap t_7),.int .u64 (IntKind.u64.wrap t_8)]) fun t_9 Sx_2=>
 Q t_9 Sx_2) fun Jx=>
 gB (nthL s 22) fun t_10=>
 if t_10=true then
 Jx 1 Sx
 else
 Jx 0 Sx) fun Jx_1=>
 lp (fun Xx (z:Sl×Int) (Sx_3:Mem)=>
 match z with
 | (l_1,i)=>
 jn (fun (Sx_4:Mem)=>
 0≤i∧i<16 ∧
 gI (nthL s (0+i.toNat*1)) .u64 fun t_11=>
 ap Sx_4 39 1 8 [.int .u64 0] l_1 1 ([.int .u64 t_11]) fun t_12 Sx_5=>
 Xx (t_12,IntKind.i64.wrap (i+1)) Sx_5) fun Jx_2=>
 if i<16 then
 Jx_2 Sx_3
 else
 Jx_1 l_1 Sx_3) (⟨none,0,0⟩,0) S
theorem kT {S:Mem} {s:List Value} {Q:Sl→Mem→Prop} (H:yG S s Q):xm S s Q:=by
 unfold yG at H
 exact Tr.intro Tryz.func136 E Tryz.ntmps136 E fun w0=>an H fun hs H1=>csr<|qI E E E fun b=>gv E E<|nxr<|gv E E<|nx<|zm H1 (fun (J:Sl→Mem→Prop) (z:Sl) S=>J z S) (fun z=>⟨44,[(1,.pointer (some ⟨b,0,none⟩)),(3,eL z)]⟩) (fun z=>[⟨b,43,s⟩]) (fun l Sx H2=>csr<|gv E E<|nx<|zm H2 (fun (J:Int→Mem→Prop) (z:Int) S=>J z S) (fun z=>⟨44,[(1,.pointer (some ⟨b,0,none⟩)),(3,eL l),(5,.int .u64 z)]⟩) (fun z=>[⟨b,43,s⟩]) (fun openx Sx_1 H3=>csr<|mv E E<|s_p E (zp E E)<|gx H3 fun t ht H4=>s_v E (zA E) (zQ 0 E ht)<|s_p E (zp E E)<|gx H4 fun t_1 ht_1 H5=>s_v E (zA E) (zQ 0 E ht_1)<|s_p E (zp E E)<|gx H5 fun t_2 ht_2 H6=>s_v E (zA E) (zQ 0 E ht_2)<|s_p E (zp E E)<|gx H6 fun t_3 ht_3 H7=>s_v E (zA E) (zQ 0 E ht_3)<|s_p E (zp E E)<|gx H7 fun t_4 ht_4 H8=>s_v E (zA E) (zQ 0 E ht_4)<|s_p E (zp E E)<|gx H8 fun t_5 ht_5 H9=>s_v E (zA E) (zQ 0 E ht_5)<|mv E E<|s_p E (zp E E)<|gx H9 fun t_6 ht_6 H10=>s_v E (zA E) (zQ 0 E ht_6)<|s_p E (zN ⟨_,Tryz.underlying5⟩ E)<|s_p E (zp E E)<|gx H10 fun t_7 ht_7 H11=>s_v E (zA E) (zQ 0 E ht_7)<|s_p E (zN ⟨_,Tryz.underlying41⟩ E)<|by exact s_p E (zp E E)<|gx H11 fun t_8 ht_8 H12=>s_v E (zA E) (zQ 0 E ht_8)<|s_p E (zN ⟨_,Tryz.underlying41⟩ E)<|zgA E E (by decide) E fun b_1=>zak (sx:=l) (vs:=[.int .u64 t,.int .u64 t_1,.int .u64 t_2,.int .u64 t_3,.int .u64 t_4,.int .u64 t_5,.int .u64 openx,.int .u64 (IntKind.u64.wrap t_6),.int .u64 (IntKind.u64.wrap t_7),.int .u64 (IntKind.u64.wrap t_8)]) E E E (zif 1 E E) E E (by decide) H12 fun t_9 Sx_2 H13=>gv E E<|nx<|zi<|zh Tryz.results136 (zc E ze) ⟨_,E,H13⟩) (fun Jx hJx H14=>csr<|s_p E (zp E E)<|gx H14 fun t_10 ht_10 H15=>by have H16:=wO H15;rcases H16 with ⟨rfl,H17⟩ | ⟨rfl,H17⟩;exact (s_v E (zA E) (zQ 0 E ht_10)<|nx<|ctr E E<|gv E E<|zn<|hJx 1 _ _ _ _ [0] H17 E ⟨E,E,E,True.intro⟩ E);exact (s_v E (zA E) (zQ 0 E ht_10)<|nx<|cfs E E<|hJx 0 _ _ _ _ [0] H17 E ⟨E,E,E,True.intro⟩ E))) (fun Jx_1 hJx_1 H18=>csr<|gv E E<|nx<|zE<|qS (fun z=>⟨44,[(1,.pointer (some ⟨b,0,none⟩)),(3,eL z.1),(4,.int .i64 z.2)]⟩) (fun z=>[⟨b,43,s⟩]) (⟨none,0,0⟩,0) (idx:=[0]) H18 E ⟨E,E,E,True.intro⟩ E<|by rintro Xx hXx ⟨l_1,i⟩ Sx_3 H19;exact zm H19 (fun (J:Mem→Prop) (z:Unit) S=>J S) (fun z=>⟨44,[(1,.pointer (some ⟨b,0,none⟩)),(3,eL l_1),(4,.int .i64 i)]⟩) (fun z=>[⟨b,43,s⟩]) (fun _ Sx_4 H20=>zG<|zE<|zx<|mv E E<|mv E E<|s_p E (zp E E)<|an2 H20 fun c c_1 H21=>s_p E (zz E E c c_1 E)<|gx H21 fun t_11 ht_11 H22=>s_v E (zA E) (zQ 0 E ht_11)<|zgA E E (by decide) E fun b_2=>zak (sx:=l_1) (vs:=[.int .u64 t_11]) E E E (zif 1 E E) E E (by decide) H22 fun t_12 Sx_5 H23=>gv E E<|zn<|zS<|zr<|zx<|mv E E<|s_p E (qd E E)<|gv E E<|zn<|hXx (t_12,IntKind.i64.wrap (i+1)) _ _ _ _ [0] H23 E ⟨E,E,E,True.intro⟩ E) (fun Jx_2 hJx_2 H24=>csr<|mv E E<|iteK H24 (fun c_2 H25=>s_p E (yT (zH E E) c_2)<|nx<|c_t E E<|qw<|hJx_2 () _ _ _ _ [0] H25 E ⟨E,E,E,True.intro⟩ E) fun c_2 H25=>s_p E (yF (zH E E) c_2)<|nx<|c_f E E<|qB<|zo<|zo<|zV<|hJx_1 l_1 _ _ _ _ [0] H25 E ⟨E,E,True.intro⟩ E))
def xA (S:Mem) (sum:Int) (w:Int) (Q:Int→Mem→Prop):Prop:=
 Q (ixor .u64 (IntKind.u64.wrap ((IntKind.u64.wrap ((IntKind.u64.wrap ((IntKind.u64.wrap ((IntKind.u64.wrap ((IntKind.u64.wrap (Int.tdiv (ixor .u64 sum w) 4294967296))*(IntKind.u64.wrap (Int.tdiv 11400714819323198485 4294967296))))+(IntKind.u64.wrap (Int.tdiv (IntKind.u64.wrap ((IntKind.u64.wrap ((IntKind.u64.wrap (Int.tdiv (ixor .u64 sum w) 4294967296))*(Int.tmod 11400714819323198485 4294967296)))+(IntKind.u64.wrap (Int.tdiv (IntKind.u64.wrap ((Int.tmod (ixor .u64 sum w) 4294967296)*(Int.tmod 11400714819323198485 4294967296))) 4294967296)))) 4294967296))))+(IntKind.u64.wrap (Int.tdiv (IntKind.u64.wrap ((IntKind.u64.wrap ((Int.tmod (ixor .u64 sum w) 4294967296)*(IntKind.u64.wrap (Int.tdiv 11400714819323198485 4294967296))))+(Int.tmod (IntKind.u64.wrap ((IntKind.u64.wrap ((IntKind.u64.wrap (Int.tdiv (ixor .u64 sum w) 4294967296))*(Int.tmod 11400714819323198485 4294967296)))+(IntKind.u64.wrap (Int.tdiv (IntKind.u64.wrap ((Int.tmod (ixor .u64 sum w) 4294967296)*(Int.tmod 11400714819323198485 4294967296))) 4294967296)))) 4294967296))) 4294967296))))*131072))+(IntKind.u64.wrap (Int.tdiv (IntKind.u64.wrap ((IntKind.u64.wrap ((IntKind.u64.wrap ((IntKind.u64.wrap (Int.tdiv (ixor .u64 sum w) 4294967296))*(IntKind.u64.wrap (Int.tdiv 11400714819323198485 4294967296))))+(IntKind.u64.wrap (Int.tdiv (IntKind.u64.wrap ((IntKind.u64.wrap ((IntKind.u64.wrap (Int.tdiv (ixor .u64 sum w) 4294967296))*(Int.tmod 11400714819323198485 4294967296)))+(IntKind.u64.wrap (Int.tdiv (IntKind.u64.wrap ((Int.tmod (ixor .u64 sum w) 4294967296)*(Int.tmod 11400714819323198485 4294967296))) 4294967296)))) 4294967296))))+(IntKind.u64.wrap (Int.tdiv (IntKind.u64.wrap ((IntKind.u64.wrap ((Int.tmod (ixor .u64 sum w) 4294967296)*(IntKind.u64.wrap (Int.tdiv 11400714819323198485 4294967296))))+(Int.tmod (IntKind.u64.wrap ((IntKind.u64.wrap ((IntKind.u64.wrap (Int.tdiv (ixor .u64 sum w) 4294967296))*(Int.tmod 11400714819323198485 4294967296)))+(IntKind.u64.wrap (Int.tdiv (IntKind.u64.wrap ((Int.tmod (ixor .u64 sum w) 4294967296)*(Int.tmod 11400714819323198485 4294967296))) 4294967296)))) 4294967296))) 4294967296)))) 140737488355328)))) (IntKind.u64.wrap ((IntKind.u64.wrap ((Int.tmod (IntKind.u64.wrap ((IntKind.u64.wrap ((Int.tmod (ixor .u64 sum w) 4294967296)*(IntKind.u64.wrap (Int.tdiv 11400714819323198485 4294967296))))+(Int.tmod (IntKind.u64.wrap ((IntKind.u64.wrap ((IntKind.u64.wrap (Int.tdiv (ixor .u64 sum w) 4294967296))*(Int.tmod 11400714819323198485 4294967296)))+(IntKind.u64.wrap (Int.tdiv (IntKind.u64.wrap ((Int.tmod (ixor .u64 sum w) 4294967296)*(Int.tmod 11400714819323198485 4294967296))) 4294967296)))) 4294967296))) 4294967296)*4294967296))+(Int.tmod (IntKind.u64.wrap ((Int.tmod (ixor .u64 sum w) 4294967296)*(Int.tmod 11400714819323198485 4294967296))) 4294967296)))) S
theorem jZ {S:Mem} {sum:Int} {w:Int} {Q:Int→Mem→Prop} (H:xA S sum w Q):yx S sum w Q:=by
 unfold xA at H
 exact Tr.intro Tryz.func137 E Tryz.ntmps137 E fun w0=>csr<|gv E E<|nxr<|mv E E<|mv E E<|s_p E (zfJ E E)<|gv E E<|nxr<|gv E E<|nxr<|mv E E<|s_p E (xf E E (by decide))<|gv E E<|nxr<|mv E E<|s_p E (xe E E (by decide))<|gv E E<|nxr<|mv E E<|s_p E (xf E E (by decide))<|gv E E<|nxr<|mv E E<|s_p E (xe E E (by decide))<|gv E E<|nxr<|mv E E<|mv E E<|s_p E (xg E E)<|gv E E<|nxr<|by exact mv E E<|mv E E<|s_p E (xg E E)<|mv E E<|s_p E (xf E E (by decide))<|s_p E (qd E E)<|gv E E<|nxr<|mv E E<|mv E E<|s_p E (xg E E)<|mv E E<|s_p E (xe E E (by decide))<|s_p E (qd E E)<|gv E E<|nxr<|mv E E<|mv E E<|s_p E (xg E E)<|mv E E<|s_p E (xf E E (by decide))<|s_p E (qd E E)<|mv E E<|s_p E (xf E E (by decide))<|s_p E (qd E E)<|gv E E<|nxr<|mv E E<|s_p E (xe E E (by decide))<|s_p E (xg E E)<|mv E E<|s_p E (xe E E (by decide))<|s_p E (qd E E)<|gv E E<|nxr<|mv E E<|s_p E (xg E E)<|mv E E<|s_p E (xf E E (by decide))<|s_p E (qd E E)<|mv E E<|by exact s_p E (zfJ E E)<|gv E E<|nx<|zi<|zh Tryz.results137 (zc E ze) ⟨_,E,H⟩
def xz (S:Mem) (s:List Value) (Q:Int→Mem→Prop):Prop:=
 s.length=26 ∧
 xm S s fun t Sx=>
 jn (fun (n:Int) (Sx_1:Mem)=>
 Q n Sx_1) fun Jx=>
 lp (fun Xx (z:Int×Int) (Sx_2:Mem)=>
 match z with
 | (n_1,i)=>
 jn (fun (Sx_3:Mem)=>
 sl t fun b_1 o n_2 n_3=>
 0≤i∧i<((n_2:Nat):Int) ∧
 gI (Sx_3.cell b_1 (o+i.toNat*1)) .u64 fun t_1=>
 yx Sx_3 n_1 t_1 fun t_2 Sx_4=>
 Xx (t_2,IntKind.i64.wrap (i+1)) Sx_4) fun Jx_1=>
 if i<(t.n:Int) then
 Jx_1 Sx_2
 else
 Jx n_1 Sx_2) (0,0) Sx
theorem jY {S:Mem} {s:List Value} {Q:Int→Mem→Prop} (H:xz S s Q):vO S s Q:=by
 unfold xz at H
 exact Tr.intro Tryz.func69 E Tryz.ntmps69 E fun w0=>an H fun hs H1=>csr<|qI E E E fun b=>gv E E<|nxr<|by refine s_v E (zO E hs) (zD (k:=26) 0 E (zg hs)) ?_;exact qM E E H1 fun t Sx H2=>gv E E<|nxr<|gv E E<|nx<|zm H2 (fun (J:Int→Mem→Prop) (z:Int) S=>J z S) (fun z=>⟨21,[(4,.int .u64 z)]⟩) (fun z=>[]) (fun n Sx_1 H3=>csr<|mv E E<|gv E E<|nx<|zi<|zh Tryz.results69 (zc E ze) ⟨_,E,H3⟩) (fun Jx hJx H4=>csr<|gv E E<|nx<|zE<|qS (fun z=>⟨21,[(3,eL t),(4,.int .u64 z.1),(5,.int .i64 z.2)]⟩) (fun z=>[]) (0,0) (idx:=[]) H4 E ⟨E,E,E,True.intro⟩ E<|by rintro Xx hXx ⟨n_1,i⟩ Sx_2 H5;exact zm H5 (fun (J:Mem→Prop) (z:Unit) S=>J S) (fun z=>⟨21,[(3,eL t),(4,.int .u64 n_1),(5,.int .i64 i)]⟩) (fun z=>[]) (fun _ Sx_3 H6=>zG<|zE<|zx<|mv E E<|mv E E<|mv E E<|by obtain⟨b_1,o,n_2,n_3,rfl,H7⟩:=H6;exact an2 H7 fun c c_1 H8=>s_p E (yf E E c c_1 E)<|gx H8 fun t_1 ht_1 H9=>s_v E (zA E) (qc ht_1)<|qM E E H9 fun t_2 Sx_4 H10=>gv E E<|zn<|zS<|zr<|zx<|mv E E<|s_p E (qd E E)<|gv E E<|zn<|hXx (t_2,IntKind.i64.wrap (i+1)) _ _ _ _ [] H10 E ⟨E,E,E,True.intro⟩ E) (fun Jx_1 hJx_1 H11=>csr<|mv E E<|mv E E<|s_p E (wP E)<|iteK H11 (fun c_2 H12=>s_p E (yT (zH E E) c_2)<|nx<|c_t E E<|qw<|hJx_1 () _ _ _ _ [] H12 E ⟨E,E,E,True.intro⟩ E) fun c_2 H12=>s_p E (yF (zH E E) c_2)<|nx<|c_f E E<|qB<|zo<|zo<|zV<|hJx n_1 _ _ _ _ [] H12 E ⟨E,True.intro⟩ E))
def xy (S:Mem) (s:List Value) (Q:Int→Mem→Prop):Prop:=
 s.length=26 ∧
 vO S s fun t Sx=>
 Q t Sx
theorem jX {S:Mem} {s:List Value} {Q:Int→Mem→Prop} (H:xy S s Q):wb S s Q:=by
 unfold xy at H
 exact Tr.intro Tryz.func26 E Tryz.ntmps26 E fun w0=>an H fun hs H1=>csr<|qI E E E fun b=>gv E E<|nxr<|by refine s_v E (zO E hs) (zD (k:=26) 0 E (zg hs)) ?_;exact qM E E H1 fun t Sx H2=>gv E E<|nx<|zi<|zh Tryz.results26 (zc E ze) ⟨_,E,H2⟩
def zce (S:Mem) (p:Sl) (Q:Int→Mem→Prop):Prop:=
 jn (fun (w:Int) (Sx:Mem)=>
 Q w Sx) fun Jx=>
 lp (fun Xx (z:Int×Int) (Sx_1:Mem)=>
 match z with
 | (w_1,t)=>
 if t<(p.n:Int) then
 sl p fun b o n n_1=>
 0≤t∧t<((n:Nat):Int) ∧
 gI (Sx_1.cell b (o+t.toNat*1)) .u8 fun t_1=>
 if t<8 then
 0≤IntKind.i64.wrap (8*t) ∧
 Xx (ior .u64 w_1 (ishl .u64 (IntKind.u64.wrap t_1) (IntKind.i64.wrap (8*t))),IntKind.i64.wrap (t+1)) Sx_1
 else
 Xx (w_1,IntKind.i64.wrap (t+1)) Sx_1
 else
 Jx w_1 Sx_1) (0,0) S
theorem zgN {S:Mem} {p:Sl} {Q:Int→Mem→Prop} (H:zce S p Q):zcV S p Q:=by
 unfold zce at H
 exact Tr.intro Tryz.func164 E Tryz.ntmps164 E fun w0=>csr<|gv E E<|nxr<|gv E E<|nx<|zm H (fun (J:Int→Mem→Prop) (z:Int) S=>J z S) (fun z=>⟨24,[(3,.int .u64 z)]⟩) (fun z=>[]) (fun w Sx H1=>csr<|mv E E<|gv E E<|nx<|zi<|zh Tryz.results164 (zc E ze) ⟨_,E,H1⟩) (fun Jx hJx H2=>csr<|mv E E<|s_p E (wP E)<|mv E E<|nx<|zE<|qS (fun z=>⟨24,[(3,.int .u64 z.1),(6,eL p),(7,.int .i64 (p.n:Int)),(8,.int .i64 z.2)]⟩) (fun z=>[]) (0,0) (idx:=[]) H2 E ⟨E,E,E,E,True.intro⟩ E<|by rintro Xx hXx ⟨w_1,t⟩ Sx_1 H3;exact csr<|iteK H3 (fun c H4=>s_p E (yT (zH E E) c)<|nx<|zG<|c_t E E<|qw<|zr<|zG<|zE<|csr<|mv E E<|by obtain⟨b,o,n,n_1,rfl,H5⟩:=H4;exact an2 H5 fun c_1 c_2 H6=>s_p E (yf E E c_1 c_2 E)<|gx H6 fun t_1 ht_1 H7=>s_v E (zA E) (qc ht_1)<|gv E E<|gv E E<|nxr<|mv E E<|iteK H7 (fun c_3 H8=>s_p E (yT (zH E E) c_3)<|nx<|ctr E E<|mv E E<|mv E E<|s_p E (zN ⟨_,Tryz.underlying5⟩ E)<|mv E E<|s_p E (xg E E)<|an H8 fun c_4 H9=>s_p E (zaz E E c_4)<|s_p E (zie E E)<|gv E E<|zn<|zS<|zr<|zx<|s_p E (qd E E)<|mv E E<|zn<|hXx (ior .u64 w_1 (ishl .u64 (IntKind.u64.wrap t_1) (IntKind.i64.wrap (8*t))),IntKind.i64.wrap (t+1)) _ _ _ _ [] H9 E ⟨E,E,E,E,True.intro⟩ E) fun c_3 H8=>s_p E (yF (zH E E) c_3)<|nx<|cfs E E<|zS<|zr<|zx<|s_p E (qd E E)<|mv E E<|zn<|hXx (w_1,IntKind.i64.wrap (t+1)) _ _ _ _ [] H8 E ⟨E,E,E,E,True.intro⟩ E) fun c H4=>s_p E (yF (zH E E) c)<|nx<|zG<|c_f E E<|qB<|zo<|zo<|zV<|hJx w_1 _ _ _ _ [] H4 E ⟨E,True.intro⟩ E)
def gq (S:Mem) (w:Int) (Q:Sl→Mem→Prop):Prop:=
 al S 5 ([.int .u8 0,.int .u8 0,.int .u8 0,.int .u8 0,.int .u8 0,.int .u8 0,.int .u8 0,.int .u8 0]) fun b Sx=>
 jn (fun (Sx_1:Mem)=>
 Q (⟨some (b,0),8,8⟩) Sx_1) fun Jx=>
 lp (fun Xx (t:Int) (Sx_2:Mem)=>
 if t<8 then
 0≤IntKind.i64.wrap (8*t) ∧
 0≤t∧t<8 ∧
 pt Sx_2 b (0+t.toNat*1) 1 ([.int .u8 (IntKind.u8.wrap (ishr .u64 w (IntKind.i64.wrap (8*t))))]) fun Sx_3=>
 Xx (IntKind.i64.wrap (t+1)) Sx_3
 else
 Jx Sx_2) 0 Sx
theorem zdA {S:Mem} {w:Int} {Q:Sl→Mem→Prop} (H:gq S w Q):zaB S w Q:=by
 unfold gq at H
 exact Tr.intro Tryz.func166 E Tryz.ntmps166 E fun w0=>csr<|gv E E<|nxr<|zkC E E E (by decide) (by decide) (by decide) (by decide) fun b=>zaj 0 E fun hb=>have H1:=H b hb;gv E E<|nx<|zm H1 (fun (J:Mem→Prop) (z:Unit) S=>J S) (fun z=>⟨21,[(3,.slice (some ⟨b,0,none⟩) 8 8)]⟩) (fun z=>[]) (fun _ Sx_1 H2=>csr<|mv E E<|gv E E<|nx<|zi<|zh Tryz.results166 (zc E ze) ⟨_,E,H2⟩) (fun Jx hJx H3=>csr<|mv E E<|s_p E (wP E)<|mv E E<|nx<|zE<|qS (fun z=>⟨21,[(0,.int .u64 w),(3,.slice (some ⟨b,0,none⟩) 8 8),(7,.int .i64 8),(8,.int .i64 z)]⟩) (fun z=>[]) 0 (idx:=[]) H3 E ⟨E,E,E,E,True.intro⟩ E<|fun Xx hXx t Sx_2 H4=>csr<|iteK H4 (fun c H5=>s_p E (yT (zH E E) c)<|nx<|zG<|c_t E E<|qw<|zr<|zG<|zE<|csr<|mv E E<|gv E E<|nx<|zx<|mv E E<|mv E E<|mv E E<|mv E E<|s_p E (xg E E)<|an H5 fun c_1 H6=>s_p E (jy E E c_1)<|s_p E (zN ⟨_,Tryz.underlying39⟩ E)<|an2 H6 fun c_2 c_3 H7=>s_p E (yf E E c_2 c_3 E)<|by exact an H7 fun c_4 H8=>zY E E E E E c_4 E<|zn<|zS<|zr<|zx<|s_p E (qd E E)<|mv E E<|zn<|hXx (IntKind.i64.wrap (t+1)) _ _ _ _ [] H8 E ⟨E,E,E,E,True.intro⟩ E) fun c H5=>s_p E (yF (zH E E) c)<|nx<|zG<|c_f E E<|qB<|zo<|zo<|zV<|hJx () _ _ _ _ [] H5 E ⟨E,True.intro⟩ E)
end Go.Proofs.YtabdpmnhjlmnlaaGreatDoor
end
section
namespace Go.Pt
open Go Go.RowKit
theorem qK {S:Mem} {b o:Nat} {k:Blk} (h:S b=some k):S.cell b o=nthL k.cs o:=by simp[Mem.cell,h]
theorem xG {S:Mem} {b o n:Nat} {k:Blk} (h:S b=some k):S.part b o n=lpart k.cs o n:=by simp[Mem.part,h]
theorem wu {S:Mem} {b o:Nat} {vs:List Value} {k:Blk} (h:S b=some k):S.put b o vs=S.set b ⟨k.ty,spl k.cs o vs,k.fr⟩:=by
 funext x;simp only[Mem.put,Mem.set,h,Option.map_some]
@[simp] theorem qf {S:Mem} {b:Nat} {k:Blk}:(S.set b k) b=some k:=by simp[Mem.set]
theorem yl {S:Mem} {b c:Nat} {k:Blk} (h:c≠b):(S.set b k) c=S c:=by simp[Mem.set,h]
@[simp] theorem set_set {S:Mem} {b:Nat} {k k':Blk}:(S.set b k).set b k'=S.set b k':=by
 funext x;simp only[Mem.set];split <;> rfl
theorem zbn {S:Mem} {b:Nat} {k:Blk} (h:S b=some k):S.set b k=S:=by
 funext x;simp only[Mem.set];split
 ·rename_i hx;rw[hx,h]
 ·rfl
theorem zkm {S:Mem} {b o n t:Nat} {vs cs:List Value} {K:Mem→Prop} (h:S b=some (bw t cs)) (hf:o+n≤cs.length) (hK:K (S.set b (bw t (spl cs o vs)))):pt S b o n vs K:=
 ⟨⟨_,h,rfl,hf⟩,by rw[wu h];exact hK⟩
def Keeps (S S':Mem) (W:List Nat):Prop:=∀ x,S x≠none→x∉W→S' x=S x
theorem Keeps.refl {S:Mem} {W:List Nat}:Keeps S S W:=fun _ _ _=>rfl
theorem Keeps.trans {S S' S'':Mem} {W:List Nat} (h:Keeps S S' W) (h':Keeps S' S'' W):Keeps S S'' W:=fun x hx hw=>by
 have e:=h x hx hw
 rw[h' x (by rw[e];exact hx) hw,e]
theorem Keeps.wider {S S':Mem} {W W':List Nat} (h:Keeps S S' W) (hw:∀ x∈W,x∈W'):Keeps S S' W':=fun x hx h2=>h x hx fun h3=>h2 (hw x h3)
theorem Keeps.set {S S':Mem} {W:List Nat} (h:Keeps S S' W) {b:Nat} {k:Blk} (hb:b∈W):Keeps S (S'.set b k) W:=fun x hx hw=>by
 rw[yl (fun e=>hw (by rw[e];exact hb))];exact h x hx hw
theorem Keeps.new {S S':Mem} {W:List Nat} (h:Keeps S S' W) {b:Nat} {k:Blk} (hb:S' b=none):Keeps S (S'.set b k) W:=fun x hx hw=>by
 have e:=h x hx hw
 rw[yl (fun hxb=>by rw[←hxb,e] at hb;exact hx hb)];exact e
theorem Keeps.get {S S':Mem} {W:List Nat} (h:Keeps S S' W) {b:Nat} {k:Blk} (hb:S b=some k) (hw:b∉W):S' b=some k:=by
 rw[h b (by rw[hb];simp) hw,hb]
theorem w64 {x:Int} (h1 : -9223372036854775808≤x) (h2:x≤9223372036854775807):IntKind.i64.wrap x=x:=zcU (k:=.i64) ⟨h1,h2⟩
theorem wu64 {x:Int} (h1:0≤x) (h2:x≤18446744073709551615):IntKind.u64.wrap x=x:=zcU (k:=.u64) ⟨h1,h2⟩
theorem wu32 {x:Int} (h1:0≤x) (h2:x≤4294967295):IntKind.u32.wrap x=x:=zcU (k:=.u32) ⟨h1,h2⟩
theorem wu8 {x:Int} (h1:0≤x) (h2:x≤255):IntKind.u8.wrap x=x:=zcU (k:=.u8) ⟨h1,h2⟩
theorem td {a b:Int} (h:0≤a):Int.tdiv a b=a/b:=Int.tdiv_eq_ediv_of_nonneg h
theorem tm {a b:Int} (h:0≤a):Int.tmod a b=a%b:=Int.tmod_eq_emod_of_nonneg h
theorem Keeps.fresh {S S':Mem} {W:List Nat} (h:Keeps S S' W) {b:Nat} {k:Blk} (hb:S b=none):Keeps S (S'.set b k) W:=fun x hx hw=>by
 rw[yl (fun e=>by rw[e] at hx;exact hx hb)];exact h x hx hw
theorem zin {cs vs:List Value} {o:Nat} (h:o+vs.length≤cs.length):(spl cs o vs).take (o+vs.length)=cs.take o++vs:=by
 rw[xF _ _ _ (by omega),List.take_left']
 simp;omega
structure Row (S:Mem) (size:Nat) (s:Sl) (l:List Value):Prop where
 len:l.length=s.n*size
 cap:s.n≤s.c
 lie:(s.p=none∧s.c=0)∨∃ b k,s.p=some (b,0)∧S b=some k∧k.fr=(0,0)∧k.cs.length=s.c*size∧k.cs.take (s.n*size)=l
theorem Row.nil {S:Mem} {size:Nat}:Row S size ⟨none,0,0⟩ []:=⟨by simp,by simp,.inl ⟨rfl,rfl⟩⟩
theorem Row.part {S:Mem} {size:Nat} {s:Sl} {l:List Value} (h:Row S size s l) {b:Nat} (hp:s.p=some (b,0)):S.part b 0 (s.n*size)=some l:=by
 rcases h.lie with ⟨h1,_⟩ | ⟨b',k,h1,h2,hfr,h3,h4⟩
 ·rw[h1] at hp;cases hp
 ·rw[h1] at hp;cases hp
  rw[xG h2,qR (by rw[h3,Nat.zero_add];exact Nat.mul_le_mul_right _ h.cap)]
  simpa using h4
theorem Row.keep {S S':Mem} {size:Nat} {s:Sl} {l:List Value} (h:Row S size s l) (hk:∀ b,s.p=some (b,0)→S' b=S b):Row S' size s l:=by
 refine⟨h.len,h.cap,?_⟩
 rcases h.lie with h1 | ⟨b,k,h1,h2,h3⟩
 ·exact .inl h1
 ·exact .inr ⟨b,k,h1,by rw[hk b h1];exact h2,h3⟩
theorem jv {S:Mem} {e size bytes m:Nat} {z l vs:List Value} {s:Sl} {K:Sl→Mem→Prop} (h:Row S size s l) (hv:vs.length=m*size) (hm:0<m) (hz:z.length=size) (lim:(2*(s.n+m)+1024)*bytes≤281474976710656)
  (hK:∀ (s':Sl) (S':Mem) (b:Nat) (k:Blk),s'.n=s.n+m→s'.p=some (b,0)→(s.p=some (b,0)∨S b=none)→S'=S.set b k→Row S' size s' (l++vs)→K s' S'):ap S e size bytes z s m vs K:=by
 refine⟨lim,fun hc=>?_,fun hc=>?_⟩
 ·rcases h.lie with ⟨h1,h2⟩ | ⟨b,k,h1,h2,hfr,h3,h4⟩
  ·omega
  ·have hfit:0+s.n*size+m*size≤k.cs.length:=by
    rw[h3,Nat.zero_add,←Nat.add_mul];exact Nat.mul_le_mul_right _ hc
   refine .inr ⟨b,0,h1,⟨k,h2,hfr,hfit⟩,?_⟩
   refine hK _ _ b ⟨k.ty,spl k.cs (0+s.n*size) vs,k.fr⟩ rfl h1 (.inl h1) (wu h2) ⟨by simp[h.len,hv,Nat.add_mul],hc,.inr ⟨b,⟨k.ty,spl k.cs (0+s.n*size) vs,k.fr⟩,h1,by rw[wu h2,qf],hfr,?_,?_⟩⟩
   ·simp only;rw[qj (by rw[hv];exact hfit)];exact h3
   ·simp only
    rw[Nat.zero_add,Nat.add_mul,←hv,zin (by rw[hv];omega),h4]
 ·refine⟨l,?_,fun b c hb h1 h2=>?_⟩
  ·rcases h.lie with ⟨h1,h2⟩ | ⟨b,k,h1,h2,hfr,h3,h4⟩
   ·have h0:s.n=0:=by have:=h.cap;omega
    exact .inl ⟨h1,h0,List.length_eq_zero_iff.1 (by rw[h.len,h0,Nat.zero_mul])⟩
   ·exact .inr ⟨b,0,h1,h.part h1⟩
  ·refine hK _ _ b _ rfl rfl (.inr hb) rfl ⟨by simp[h.len,hv,Nat.add_mul],h1,.inr ⟨b,_,rfl,qf,rfl,?_,?_⟩⟩
   ·simp only[List.length_append,h.len,hv,vG,hz]
    rw[←Nat.add_mul,←Nat.add_mul];congr 1;omega
   ·simp only
    rw[List.take_left' (by simp[h.len,hv,Nat.add_mul])]
end Go.Pt
end
section
namespace Go.Pt
open Go Go.RowKit
abbrev Rho:=Nat→Option Nat
def Rho.upd (ρ:Rho) (b r:Nat):Rho:=fun x=>if x=b then some r else ρ x
theorem yt {ρ:Rho} {b r:Nat}:(ρ.upd b r) b=some r:=by simp[Rho.upd]
theorem ky {ρ:Rho} {b r c:Nat} (h:c≠b):(ρ.upd b r) c=ρ c:=by simp[Rho.upd,h]
structure Mv (S:Mem) (ρ:Rho) (S':Mem) (ρ':Rho) (R:Nat→Prop):Prop where
 ext:∀ b r,ρ b=some r→ρ' b=some r
 old:∀ b r,ρ' b=some r→S b≠none→ρ b=some r
 kp:∀ b,S b≠none→(∀ r,ρ b=some r→¬R r)→S' b=S b
 al:∀ b,S b≠none→S' b≠none
 rg:∀ b r,ρ' b=some r→S' b≠none
variable {S S' S'':Mem} {ρ ρ' ρ'':Rho} {R R':Nat→Prop}
theorem Mv.refl (h:∀ b r,ρ b=some r→S b≠none):Mv S ρ S ρ R:=⟨fun _ _ h=>h,fun _ _ h _=>h,fun _ _ _=>rfl,fun _ h=>h,h⟩
theorem Mv.trans (h:Mv S ρ S' ρ' R) (k:Mv S' ρ' S'' ρ'' R):Mv S ρ S'' ρ'' R:=
 ⟨fun b r e=>k.ext b r (h.ext b r e),fun b r e hb=>h.old b r (k.old b r e (h.al b hb)) hb,fun b hb hr=>by
  have e:=h.kp b hb hr
  rw[k.kp b (by rw[e];exact hb) fun r e'=>hr r (h.old b r e' hb),e],fun b hb=>k.al b (h.al b hb),k.rg⟩
theorem Mv.mono (h:Mv S ρ S' ρ' R) (hR:∀ r,R r→R' r):Mv S ρ S' ρ' R':=⟨h.ext,h.old,fun b hb hr=>h.kp b hb fun r e hr'=>hr r e (hR r hr'),h.al,h.rg⟩
theorem Mv.keeps (h:∀ b r,ρ b=some r→S b≠none) (hk:Keeps S S' []):Mv S ρ S' ρ R:=
 ⟨fun _ _ h=>h,fun _ _ h _=>h,fun b hb _=>hk b hb (by simp),fun b hb=>by rw[hk b hb (by simp)];exact hb,fun b r e=>by rw[hk b (h b r e) (by simp)];exact h b r e⟩
theorem Mv.claim (h:∀ b r,ρ b=some r→S b≠none) (hk:Keeps S S' []) {c r:Nat} (hc:S c=none) (hc':S' c≠none):Mv S ρ S' (ρ.upd c r) R:=by
 have k:=Mv.keeps (R:=R) h hk
 have hn:∀ b r',ρ b=some r'→b≠c:=fun b r' e e2=>by rw[e2] at e;exact h c r' e hc
 refine⟨fun b r' e=>by rw[ky (hn b r' e)];exact e,fun b r' e hb=>?_,k.kp,k.al,fun b r' e=>?_⟩
 ·rw[ky (fun e2=>by rw[e2] at hb;exact hb hc)] at e;exact e
 ·by_cases hbc:b=c
  ·rw[hbc];exact hc'
  ·rw[ky hbc] at e;exact k.rg b r' e
theorem Mv.put (h:Mv S ρ S' ρ' R) {b r:Nat} (hb:ρ' b=some r) (hr:R r) (k:Blk):Mv S ρ (S'.set b k) ρ' R:=
 ⟨h.ext,h.old,fun x hx hxr=>by
  by_cases e:x=b
  ·subst e;exact absurd hr (hxr r (h.old x r hb hx))
  ·rw[yl e];exact h.kp x hx hxr,fun x hx=>by
  by_cases e:x=b
  ·rw[e,qf];simp
  ·rw[yl e];exact h.al x hx,fun x r' e'=>by
  by_cases e:x=b
  ·rw[e,qf];simp
  ·rw[yl e];exact h.rg x r' e'⟩
theorem Mv.new (h:Mv S ρ S' ρ' R) {b:Nat} (hb:S' b=none) (k:Blk) (r:Nat):Mv S ρ (S'.set b k) (ρ'.upd b r) R:=by
 have h2:Mv S' ρ' (S'.set b k) (ρ'.upd b r) R:=Mv.claim h.rg (Keeps.refl.fresh hb) hb (by simp)
 exact h.trans h2
theorem Mv.then (h:Mv S ρ S' ρ' R) (hk:Keeps S' S'' []):Mv S ρ S'' ρ' R:=h.trans (Mv.keeps h.rg hk)
theorem Mv.keepsW {W:List Nat} (h:∀ b r,ρ b=some r→S b≠none) (hk:Keeps S S' W) (hW:∀ w∈W,S' w≠none∧∃ r,ρ w=some r∧R r):Mv S ρ S' ρ R:=
 ⟨fun _ _ h=>h,fun _ _ h _=>h,fun b hb hr=>by
  by_cases hw:b∈W
  ·obtain⟨_,r,e,h2⟩:=hW b hw;exact absurd h2 (hr r e)
  ·exact hk b hb hw,fun b hb=>by
  by_cases hw:b∈W
  ·exact (hW b hw).1
  ·rw[hk b hb hw];exact hb,fun b r e=>by
  by_cases hw:b∈W
  ·exact (hW b hw).1
  ·rw[hk b (h b r e) hw];exact h b r e⟩
structure Bl (S:Mem) (ρ:Rho) (r b:Nat) (k:Blk):Prop where
 at_:S b=some k
 rol:ρ b=some r
theorem Bl.keep {r b:Nat} {k:Blk} (h:Bl S ρ r b k) (m:Mv S ρ S' ρ' R) (hr:¬R r):Bl S' ρ' r b k:=
 ⟨by rw[m.kp b (by rw[h.at_];simp) fun r' e=>by rw[h.rol] at e;cases e;exact hr];exact h.at_,m.ext b r h.rol⟩
theorem Bl.ne {r r' b b':Nat} {k k':Blk} (h:Bl S ρ r b k) (h':Bl S ρ r' b' k') (hr:r≠r'):b≠b':=fun e=>by
 have:=h.rol;rw[e,h'.rol] at this;cases this;exact hr rfl
structure Rw (S:Mem) (ρ:Rho) (r size:Nat) (s:Sl) (l:List Value):Prop where
 row:Row S size s l
 rol:∀ b o,s.p=some (b,o)→ρ b=some r
theorem Rw.nil {r size:Nat}:Rw S ρ r size ⟨none,0,0⟩ []:=⟨Row.nil,fun b o h=>by cases h⟩
theorem Rw.keep {r size:Nat} {s:Sl} {l:List Value} (h:Rw S ρ r size s l) (m:Mv S ρ S' ρ' R) (hr:¬R r):Rw S' ρ' r size s l:=
 ⟨h.row.keep fun b hb=>m.kp b (by
  rcases h.row.lie with ⟨h1,_⟩ | ⟨b',k,h1,h2,_⟩
  ·rw[h1] at hb;cases hb
  ·rw[h1] at hb;cases hb;rw[h2];simp) fun r' e=>by rw[h.rol b 0 hb] at e;cases e;exact hr,fun b o hb=>m.ext b r (h.rol b o hb)⟩
theorem Rw.ne {r r' size b:Nat} {s:Sl} {l:List Value} {k:Blk} (h:Rw S ρ r size s l) (h':Bl S ρ r' b k) (hr:r≠r'):∀ o,s.p≠some (b,o):=fun o e=>by
 have:=h.rol b o e;rw[h'.rol] at this;cases this;exact hr rfl
theorem zkh {S0:Mem} {ρ0:Rho} {r e size bytes m:Nat} {z l vs:List Value} {s:Sl} {K:Sl→Mem→Prop} (hm0:Mv S0 ρ0 S ρ R) (hr:R r) (h:Rw S ρ r size s l) (hv:vs.length=m*size) (hm:0<m) (hz:z.length=size) (lim:(2*(s.n+m)+1024)*bytes≤281474976710656)
  (hK:∀ (s':Sl) (S':Mem) (ρ':Rho),Mv S0 ρ0 S' ρ' R→Mv S ρ S' ρ' (· = r)→Rw S' ρ' r size s' (l++vs)→s'.n=s.n+m→K s' S'):ap S e size bytes z s m vs K:=
 jv h.row hv hm hz lim fun s' S' b k hn hp hor hS' hrow=>by
  subst hS'
  have key:∃ ρ',Mv S ρ (S.set b k) ρ' (· = r)∧ρ' b=some r:=by
   rcases hor with h1 | h1
   ·exact⟨ρ,(Mv.refl (R:=(· = r)) hm0.rg).put (h.rol b 0 h1) rfl k,h.rol b 0 h1⟩
   ·exact⟨_,(Mv.refl hm0.rg).new h1 k r,yt⟩
  obtain⟨ρ',m1,hb⟩:=key
  exact hK s' _ ρ' (hm0.trans (m1.mono fun x hx=>by rw[hx];exact hr)) m1 ⟨hrow,fun b' o hb'=>by rw[hp] at hb';cases hb';exact hb⟩ hn
end Go.Pt
end
section
namespace Go.Pt
open Go Go.RowKit
structure At (S:Mem) (b o:Nat) (l:List Value):Prop where
 ex:∃ k,S b=some k∧k.fr=(0,0)∧lpart k.cs o l.length=some l
theorem zkv {cs l vs:List Value} {o i:Nat} (h:lpart cs o l.length=some l) (hi:i+vs.length≤l.length):spl cs (o+i) vs=spl cs o (spl l i vs):=by
 obtain⟨h1,_,_⟩:=qV h
 have hl:=qj hi
 apply List.ext_getElem?
 intro j
 rw[kX (by omega),kX (by omega),hl]
 by_cases hj:o≤j∧j<o+l.length
 ·rw[if_pos hj,kX hi]
  by_cases h2:i≤j-o∧j-o<i+vs.length
  ·rw[if_pos h2,if_pos (by omega)];congr 1;omega
  ·rw[if_neg h2,if_neg (by omega),vK h (j-o) (by omega)];congr 1;omega
 ·rw[if_neg hj,if_neg (by omega)]
theorem zim {cs l l':List Value} {o:Nat} (h:o+l.length≤cs.length) (hl:l'.length=l.length):spl (spl cs o l) o l'=spl cs o l':=by
 apply List.ext_getElem?
 intro j
 rw[kX (by rw[qj h];omega),kX h,kX (by omega)]
 by_cases hj:o≤j∧j<o+l'.length
 ·rw[if_pos hj,if_pos hj]
 ·rw[if_neg hj,if_neg hj,if_neg (by omega)]
theorem zil {cs l:List Value} {o:Nat} (h:lpart cs o l.length=some l):spl cs o l=cs:=by
 obtain⟨h1,_,_⟩:=qV h
 apply List.ext_getElem?
 intro j
 rw[kX h1]
 by_cases hj:o≤j∧j<o+l.length
 ·rw[if_pos hj,vK h (j-o) (by omega)];congr 1;omega
 ·rw[if_neg hj]
theorem zhw {cs l:List Value} {o:Nat} (h:o+l.length≤cs.length):lpart (spl cs o l) o l.length=some l:=by
 rw[qR (by rw[qj h];exact h)]
 congr 1
 apply List.ext_getElem?
 intro j
 rw[List.getElem?_take,List.getElem?_drop,kX h]
 by_cases hj:j<l.length
 ·rw[if_pos hj,if_pos (by omega)];congr 1;omega
 ·rw[if_neg hj,List.getElem?_eq_none (by omega)]
variable {S:Mem} {b o:Nat} {l:List Value}
theorem At.self (h:At S b o l):S.put b o l=S:=by
 obtain⟨k,h1,_,h3⟩:=h.ex
 rw[wu h1,zil h3];exact zbn h1
theorem At.put (h:At S b o l) {l':List Value} (hl:l'.length=l.length):At (S.put b o l') b o l':=by
 obtain⟨k,h1,h2,h3⟩:=h.ex
 have h4:=(qV h3).1
 exact⟨⟨k.ty,spl k.cs o l',k.fr⟩,by rw[wu h1,qf],h2,zhw (by omega)⟩
theorem At.put2 (h:At S b o l) {l1 l2:List Value} (h1:l1.length=l.length) (h2:l2.length=l.length):(S.put b o l1).put b o l2=S.put b o l2:=by
 obtain⟨k,e1,_,e3⟩:=h.ex
 have h4:=(qV e3).1
 rw[wu e1,wu e1,wu (qf),set_set]
 simp only
 rw[zim (by omega) (by omega)]
theorem At.cell (h:At S b o l) {i:Nat} (hi:i<l.length):S.cell b (o+i)=nthL l i:=by
 obtain⟨k,h1,_,h3⟩:=h.ex
 rw[qK h1,qi,qi,vK h3 i hi]
theorem At.part (h:At S b o l) {i n:Nat} (hi:i+n≤l.length):S.part b (o+i) n=lpart l i n:=by
 obtain⟨k,h1,_,h3⟩:=h.ex
 have h4:=qV h3
 rw[xG h1,qR (by omega),qR hi]
 congr 1
 apply List.ext_getElem?
 intro j
 rw[List.getElem?_take,List.getElem?_take,List.getElem?_drop,List.getElem?_drop]
 by_cases hj:j<n
 ·rw[if_pos hj,if_pos hj,vK h3 (i+j) (by omega)];congr 1;omega
 ·rw[if_neg hj,if_neg hj]
theorem At.all (h:At S b o l):S.part b o l.length=some l:=by
 obtain⟨k,h1,_,h3⟩:=h.ex
 rw[xG h1];exact h3
theorem At.pt (h:At S b o l) {i n:Nat} {vs:List Value} (hn:n=vs.length) (hi:i+vs.length≤l.length) {K:Mem→Prop} (hK:K (S.put b o (spl l i vs))):Go.Pt.pt S b (o+i) n vs K:=by
 obtain⟨k,h1,h2,h3⟩:=h.ex
 have h4:=qV h3
 refine⟨⟨k,h1,h2,by omega⟩,?_⟩
 have:S.put b (o+i) vs=S.put b o (spl l i vs):=by rw[wu h1,wu h1,zkv h3 hi]
 rw[this];exact hK
theorem At.keep {S':Mem} (h:At S b o l) (hk:S' b=S b):At S' b o l:=by
 obtain⟨k,h1,h2⟩:=h.ex
 exact⟨k,by rw[hk];exact h1,h2⟩
theorem At.some (h:At S b o l):S b≠none:=by
 obtain⟨k,h1,_⟩:=h.ex;rw[h1];simp
theorem At.mv {ρ:Rho} {R:Nat→Prop} {S0:Mem} {ρ0:Rho} (m:Mv S0 ρ0 S ρ R) (h:At S b o l) {r:Nat} (hb:ρ b=Option.some r) (hr:R r) (l':List Value):Mv S0 ρ0 (S.put b o l') ρ R:=by
 obtain⟨k,h1,_⟩:=h.ex
 rw[wu h1];exact m.put hb hr _
theorem Rw.at_ {ρ:Rho} {r w:Nat} {s:Sl} {A:List (List Value)} (h:Rw S ρ r w s A.flatten) (hw:∀ v∈A,v.length=w) {i:Nat} (hi:i<A.length) (hw0:0<w):∃ c,s=⟨Option.some (c,0),A.length,s.c⟩∧At S c (i*w) A[i]:=by
 have hfl:A.flatten.length=A.length*w:=by
  clear h hi
  induction A with
  | nil=>simp
  | cons x A ih=>
   have:=ih fun v hv=>hw v (by simp[hv])
   rw[List.flatten_cons,List.length_append,this,hw x (by simp),List.length_cons,Nat.add_mul];omega
 have hn:s.n=A.length:=by
  have:=h.row.len
  rw[hfl] at this
  exact (Nat.eq_of_mul_eq_mul_right hw0 this).symm
 have hcap:=h.row.cap
 rcases h.row.lie with ⟨_,h2⟩ | ⟨c,k,h1,h2,h3,h4,h5⟩
 ·omega
 refine⟨c,?_,⟨k,h2,h3,?_⟩⟩
 ·obtain⟨p,n,cc⟩:=s;simp only at h1 hn;subst h1;subst hn;rfl
 have hAi:A[i].length=w:=hw _ (List.getElem_mem hi)
 have hi1:(i+1)*w≤A.length*w:=Nat.mul_le_mul_right _ hi
 rw[Nat.add_mul,Nat.one_mul] at hi1
 have hcw:A.length*w≤s.c*w:=Nat.mul_le_mul_right _ (by omega)
 rw[qR (by omega)]
 congr 1
 have key:∀ (A:List (List Value)) (i:Nat) (hi:i<A.length),(∀ v∈A,v.length=w)→(A.flatten.drop (i*w)).take w=A[i]:=by
  intro A
  induction A with
  | nil=>intro i hi;simp at hi
  | cons x A ih=>
   intro i hi hw
   have hx:x.length=w:=hw x (by simp)
   cases i with
   | zero=>rw[Nat.zero_mul,List.drop_zero,List.flatten_cons,List.take_left' hx];rfl
   | succ i=>
    rw[List.flatten_cons,show (i+1)*w=x.length+i*w by rw[Nat.add_mul,hx];omega,←List.drop_drop,List.drop_left' rfl]
    exact ih i (by simpa using hi) fun v hv=>hw v (by simp[hv])
 have h6:=key A i hi hw
 rw[hAi,←h6,←h5]
 apply List.ext_getElem?
 intro j
 simp only[List.getElem?_take,List.getElem?_drop]
 by_cases hj:j<w
 ·rw[if_pos hj,if_pos hj,if_pos (by rw[hn];omega)]
 ·rw[if_neg hj,if_neg hj]
end Go.Pt
end
section
namespace Go.Cr
open Go Go.Pt
structure Seat where
 R:List Int
 pc:Int
 base:Int
 vec:Int
 epc:Int
 cause:Int
 addr:Int
 opn:Bool
 st:Int
 pend:Int
 mask:Int
def Seat.tail (s:Seat):List Value:=[.int .u64 s.pc,.int .u64 s.base,.int .u64 s.vec,.int .u64 s.epc,.int .u64 s.cause,.int .u64 s.addr,.bool s.opn,.int .u8 s.st,.int .u32 s.pend,.int .u32 s.mask]
def Seat.L (s:Seat):List Value:=s.R.map (Value.int .u64)++s.tail
abbrev W64 (x:Int):Prop:=0≤x∧x≤18446744073709551615
structure Seat.Ok (s:Seat):Prop where
 len:s.R.length=16
 r:∀ x∈s.R,W64 x
 pc:W64 s.pc
 base:W64 s.base
 vec:W64 s.vec
 epc:W64 s.epc
 cause:W64 s.cause
 addr:W64 s.addr
 st:0≤s.st∧s.st≤2
 pend:0≤s.pend∧s.pend≤255
 mask:0≤s.mask∧s.mask≤255
def seat0:Seat:=⟨List.replicate 16 0,0,0,0,0,0,0,false,0,0,0⟩
theorem zfo:seat0.Ok:=⟨rfl,fun x hx=>by rw[List.eq_of_mem_replicate hx];decide,by decide,by decide,by decide,by decide,by decide,by decide,by decide,by decide,by decide⟩
theorem zft {A B:List Value} {n j:Nat} (h:A.length=n):nthL (A++B) (n+j)=nthL B j:=by
 rw[qi,qi,List.getElem?_append_right (by omega)]
 congr 1;omega
theorem zU:∀ {A B v:List Value} {n j:Nat},A.length=n→spl (A++B) (n+j) v=A++spl B j v
 | [],B,v,n,j,h=>by
  have:n=0:=by simpa using h.symm
  subst this;simp
 | a :: A,B,v,n,j,h=>by
  obtain⟨m,rfl⟩:∃ m,n=m+1:=⟨A.length,by simpa using h.symm⟩
  rw[show m+1+j=(m+j)+1 by omega]
  simp only[List.cons_append,spl]
  rw[zU (by simpa using h)]
theorem zdL:∀ {A B:List Value} {j:Nat} {v:Value},j<A.length→spl (A++B) j [v]=A.set j v++B
 | [],B,j,v,h=>by simp at h
 | a :: A,B,0,v,h=>by cases B <;> simp[spl] <;> cases A <;> simp[spl]
 | a :: A,B,j+1,v,h=>by
  simp only[List.cons_append,spl,List.set_cons_succ]
  rw[zdL (by simpa using h)]
variable {s:Seat}
theorem Seat.L_len (h:s.R.length=16):s.L.length=26:=by simp[Seat.L,Seat.tail,h]
theorem Seat.L_r (h:s.R.length=16) {i:Nat} (hi:i<16):nthL s.L i=some (.int .u64 (s.R.getD i 0)):=by
 unfold Seat.L
 rw[qi,List.getElem?_append_left (by simpa [h] using hi),List.getElem?_map,List.getD_eq_getElem?_getD,List.getElem?_eq_getElem (by omega)];rfl
theorem Seat.L_t (h:s.R.length=16) (j:Nat):nthL s.L (16+j)=nthL s.tail j:=zft (by simpa using h)
theorem Seat.set_t (h:s.R.length=16) (j:Nat) (v:List Value):spl s.L (16+j) v=s.R.map (Value.int .u64)++spl s.tail j v:=zU (by simpa using h)
theorem Seat.set_r (h:s.R.length=16) {i:Nat} (hi:i<16) (x:Int):spl s.L i [.int .u64 x]=({ s with R:=s.R.set i x }:Seat).L:=by
 unfold Seat.L
 rw[zdL (by simpa [h] using hi)]
 show _=(s.R.set i x).map _++_
 rw[List.map_set];rfl
section
variable (h:s.R.length=16)
include h
theorem Seat.g16:nthL s.L 16=some (.int .u64 s.pc):=Seat.L_t h 0
theorem Seat.g17:nthL s.L 17=some (.int .u64 s.base):=Seat.L_t h 1
theorem Seat.g18:nthL s.L 18=some (.int .u64 s.vec):=Seat.L_t h 2
theorem Seat.g19:nthL s.L 19=some (.int .u64 s.epc):=Seat.L_t h 3
theorem Seat.g20:nthL s.L 20=some (.int .u64 s.cause):=Seat.L_t h 4
theorem Seat.g21:nthL s.L 21=some (.int .u64 s.addr):=Seat.L_t h 5
theorem Seat.g22:nthL s.L 22=some (.bool s.opn):=Seat.L_t h 6
theorem Seat.g23:nthL s.L 23=some (.int .u8 s.st):=Seat.L_t h 7
theorem Seat.g24:nthL s.L 24=some (.int .u32 s.pend):=Seat.L_t h 8
theorem Seat.g25:nthL s.L 25=some (.int .u32 s.mask):=Seat.L_t h 9
theorem Seat.s16 (x:Int):spl s.L 16 [.int .u64 x]=({ s with pc:=x }:Seat).L:=Seat.set_t h 0 _
theorem Seat.s17 (x:Int):spl s.L 17 [.int .u64 x]=({ s with base:=x }:Seat).L:=Seat.set_t h 1 _
theorem Seat.s18 (x:Int):spl s.L 18 [.int .u64 x]=({ s with vec:=x }:Seat).L:=Seat.set_t h 2 _
theorem Seat.s19 (x:Int):spl s.L 19 [.int .u64 x]=({ s with epc:=x }:Seat).L:=Seat.set_t h 3 _
theorem Seat.s20 (x:Int):spl s.L 20 [.int .u64 x]=({ s with cause:=x }:Seat).L:=Seat.set_t h 4 _
theorem Seat.s21 (x:Int):spl s.L 21 [.int .u64 x]=({ s with addr:=x }:Seat).L:=Seat.set_t h 5 _
theorem Seat.s22 (x:Bool):spl s.L 22 [.bool x]=({ s with opn:=x }:Seat).L:=Seat.set_t h 6 _
theorem Seat.s23 (x:Int):spl s.L 23 [.int .u8 x]=({ s with st:=x }:Seat).L:=Seat.set_t h 7 _
theorem Seat.s24 (x:Int):spl s.L 24 [.int .u32 x]=({ s with pend:=x }:Seat).L:=Seat.set_t h 8 _
theorem Seat.s25 (x:Int):spl s.L 25 [.int .u32 x]=({ s with mask:=x }:Seat).L:=Seat.set_t h 9 _
end
end Go.Cr
end
section
namespace Go.Cr
open Go Go.Pt Go.Lib
theorem zZ {β:Type} {J:β} {B:β→Prop} (R:β→Prop) (hJ:R J) (hB:∀ j,R j→B j):jn J B:=hB J hJ
structure Pl (S:Mem) (b o:Nat):Prop where
 ex:∃ l,At S b o l∧l.length=26
theorem Pl.of {S:Mem} {b o:Nat} {s:Seat} (h:At S b o s.L) (hl:s.R.length=16):Pl S b o:=⟨_,h,Seat.L_len hl⟩
section
variable {S:Mem} {b o:Nat} {s:Seat}
theorem Pl.at_ (h:Pl S b o) (hl:s.R.length=16):At (S.put b o s.L) b o s.L:=by
 obtain⟨l,h1,h2⟩:=h.ex
 exact h1.put (by rw[Seat.L_len hl,h2])
theorem Pl.cell (h:Pl S b o) (hl:s.R.length=16) {i:Nat} (hi:i<26):(S.put b o s.L).cell b (o+i)=nthL s.L i:=(h.at_ hl).cell (by rw[Seat.L_len hl];exact hi)
theorem Pl.all (h:Pl S b o) (hl:s.R.length=16):(S.put b o s.L).part b o 26=some s.L:=by
 have:=(h.at_ hl).all
 rwa [Seat.L_len hl] at this
theorem Pl.pt (h:Pl S b o) (hl:s.R.length=16) {i:Nat} {v:Value} {s':Seat} (hi:i<26) (he:spl s.L i [v]=s'.L) {K:Mem→Prop} (hK:K (S.put b o s'.L)):Go.Pt.pt (S.put b o s.L) b (o+i) 1 [v] K:=by
 obtain⟨l,h1,h2⟩:=h.ex
 have hll:=Seat.L_len hl
 refine (h.at_ hl).pt (i:=i) (vs:=[v]) rfl (by rw[hll];show i+1≤26;omega) ?_
 have hl':s'.L.length=26:=by rw[←he,qj (by rw[hll];show i+1≤26;omega),hll]
 rw[he,h1.put2 (by omega) (by omega)]
 exact hK
end
def Seat.trap (s:Seat) (cause addr:Int):Seat:=if s.vec=0 then { s with st:=2 } else { s with epc:=s.pc,cause:=cause,addr:=addr,pc:=s.vec,opn:=false }
theorem Seat.trap_ok {s:Seat} (h:s.Ok) {c a:Int} (hc:W64 c) (ha:W64 a):(s.trap c a).Ok:=by
 unfold Seat.trap
 split
 ·exact { h with st:=⟨by show (0:Int)≤2;decide,by show (2:Int)≤2;decide⟩ }
 ·exact { h with epc:=h.pc,cause:=hc,addr:=ha,pc:=h.vec }
def Seat.back (s:Seat):Seat:={ s with pc:=s.epc,opn:=true }
theorem Seat.back_ok {s:Seat} (h:s.Ok):s.back.Ok:={ h with pc:=h.epc }
def Seat.may (s:Seat):Int:=iand .u32 s.pend s.mask
theorem iand32 {a b:Int} (ha:0≤a∧a≤255) (hb:0≤b∧b≤255):∃ m:Nat,iand .u32 a b=m∧m=a.toNat &&& b.toNat∧m≤255:=by
 obtain⟨x,rfl⟩:∃ m:Nat,a=m:=⟨a.toNat,by omega⟩
 obtain⟨y,rfl⟩:∃ m:Nat,b=m:=⟨b.toNat,by omega⟩
 refine⟨x &&& y,?_,by simp,?_⟩
 ·unfold iand
  show IntKind.u32.wrap ((BitVec.ofInt 32 (x:Int) &&& BitVec.ofInt 32 (y:Int)).toNat:Int)=_
  have e1:(BitVec.ofInt 32 (x:Int))=BitVec.ofNat 32 x:=BitVec.ofInt_natCast 32 x
  have e2:(BitVec.ofInt 32 (y:Int))=BitVec.ofNat 32 y:=BitVec.ofInt_natCast 32 y
  rw[e1,e2,BitVec.toNat_and,BitVec.toNat_ofNat,BitVec.toNat_ofNat,Nat.mod_eq_of_lt (by omega),Nat.mod_eq_of_lt (by omega)]
  have:x &&& y≤x:=Nat.and_le_left
  exact wu32 (by omega) (by omega)
 ·have:x &&& y≤x:=Nat.and_le_left
  omega
theorem Seat.may_nat {s:Seat} (h:s.Ok):∃ m:Nat,s.may=m∧m=s.pend.toNat &&& s.mask.toNat∧m≤255:=iand32 h.pend h.mask
def Seat.wake (s:Seat):Seat:=if s.st=1∧s.may≠0 then { s with st:=0 } else s
theorem Seat.wake_ok {s:Seat} (h:s.Ok):s.wake.Ok:=by
 unfold Seat.wake
 split
 ·exact { h with st:=⟨by show (0:Int)≤0;decide,by show (0:Int)≤2;decide⟩ }
 ·exact h
def low (m:Nat):Nat:=((List.range 8).find? fun i=>m/2 ^ i%2 == 1).getD 8
def nextL (s:Seat):Option Nat:=if s.opn=true∧s.may≠0 then some (low s.may.toNat) else none
theorem zjb:∀ m:Fin 256,m.1≠0→0≤ishr .u64 (IntKind.u64.wrap ((iand .u64 (m.1:Int) (IntKind.u64.wrap (0-(m.1:Int))))*285870213051353865)) 58 ∧
  ishr .u64 (IntKind.u64.wrap ((iand .u64 (m.1:Int) (IntKind.u64.wrap (0-(m.1:Int))))*285870213051353865)) 58<64 ∧
  deBruijn64tab[(ishr .u64 (IntKind.u64.wrap ((iand .u64 (m.1:Int) (IntKind.u64.wrap (0-(m.1:Int))))*285870213051353865)) 58).toNat]? = some (low m.1)∧low m.1<8∧m.1/2 ^ low m.1%2=1:=by decide +kernel
end Go.Cr
namespace Go.Proofs.YtabdpmnhjlmnlaaGreatDoor
open Go Go.Pt Go.Cr Go.Lib
structure Gl (S:Mem):Prop where
 tab:∃ t fr,S 0=some ⟨t,deBruijn64tab.map fun (n:Nat)=>Value.int .u8 n,fr⟩
theorem Gl.keep {S S':Mem} (h:Gl S) (hk:S' 0=S 0):Gl S':=by
 obtain⟨t,fr,h1⟩:=h.tab
 exact⟨t,fr,by rw[hk];exact h1⟩
section
variable {S:Mem} {b o:Nat} {s:Seat}
theorem zgr (hg:Gl S) {m:Nat} (h0:m≠0) (hm:m≤255) {Q:Int→Mem→Prop} (hQ:Q (low m:Int) S):zaA S (m:Int) Q:=by
 obtain⟨h1,h2,h3,h4,_⟩:=zjb ⟨m,by omega⟩ h0
 simp only at h1 h2 h3 h4
 obtain⟨t,fr,ht⟩:=hg.tab
 apply zdy
 unfold gn
 apply jM
 unfold xc
 rw[if_neg (by omega)]
 refine⟨h1,h2,?_⟩
 rw[zW (n:=(low m:Int)) ?_]
 ·rw[w64 (by omega) (by omega)];exact hQ
 ·rw[qK ht,qi]
  simp only[Nat.zero_add,Nat.mul_one,List.getElem?_map,h3,Option.map_some]
theorem zgK (hp:Pl S b o) (hl:s.R.length=16) {cause addr:Int} {Q:Mem→Prop} (hQ:Q (S.put b o (s.trap cause addr).L)):zbD (S.put b o s.L) (some (b,o)) cause addr Q:=by
 apply zet
 unfold fI
 simp only[jn,reduceCtorEq,if_false]
 rw[qY,qY,zW ((hp.cell hl (by decide)).trans (Seat.g18 hl))]
 unfold Seat.trap at hQ
 by_cases hv:s.vec=0
 ·rw[if_pos hv] at hQ ⊢
  exact hp.pt hl (by decide) (Seat.s23 hl _) hQ
 ·rw[if_neg hv] at hQ ⊢
  rw[zW ((hp.cell hl (by decide)).trans (Seat.g16 hl)),zW ((hp.cell hl (by decide)).trans (Seat.g18 hl))]
  refine hp.pt hl (by decide) (Seat.s19 hl _) ?_
  refine hp.pt (s:={ s with epc:=s.pc }) hl (by decide) (Seat.s20 (s:={ s with epc:=s.pc }) hl _) ?_
  refine hp.pt (s:={ s with epc:=s.pc,cause:=cause }) hl (by decide) (Seat.s21 (s:={ s with epc:=s.pc,cause:=cause }) hl _) ?_
  refine hp.pt (s:={ s with epc:=s.pc,cause:=cause,addr:=addr }) hl (by decide) (Seat.s16 (s:={ s with epc:=s.pc,cause:=cause,addr:=addr }) hl _) ?_
  exact hp.pt (s:={ s with epc:=s.pc,cause:=cause,addr:=addr,pc:=s.vec }) hl (by decide) (Seat.s22 (s:={ s with epc:=s.pc,cause:=cause,addr:=addr,pc:=s.vec }) hl _) hQ
theorem zib (hp:Pl S b o) (hl:s.R.length=16) {Q:Mem→Prop} (hQ:Q (S.put b o s.back.L)):zbF (S.put b o s.L) (some (b,o)) Q:=by
 apply zev
 unfold fK
 rw[if_pos (by simp),qY,zW ((hp.cell hl (by decide)).trans (Seat.g19 hl))]
 refine hp.pt hl (by decide) (Seat.s16 hl _) ?_
 exact hp.pt (s:={ s with pc:=s.epc }) hl (by decide) (Seat.s22 (s:={ s with pc:=s.epc }) hl _) hQ
theorem zdx (hp:Pl S b o) (hl:s.R.length=16) {Q:Mem→Prop} (hQ:Q (S.put b o s.wake.L)):zar (S.put b o s.L) (some (b,o)) Q:=by
 apply zew
 unfold fL
 rw[if_pos (by simp),qY,zW ((hp.cell hl (by decide)).trans (Seat.g23 hl))]
 unfold Seat.wake Seat.may at hQ
 by_cases h1:s.st=1
 ·rw[if_pos h1,zW ((hp.cell hl (by decide)).trans (Seat.g24 hl)),zW ((hp.cell hl (by decide)).trans (Seat.g25 hl))]
  by_cases h2:iand .u32 s.pend s.mask≠0
  ·rw[if_pos ⟨h1,h2⟩] at hQ
   rw[if_pos h2]
   exact hp.pt hl (by decide) (Seat.s23 hl _) hQ
  ·rw[if_neg (fun h=>h2 h.2)] at hQ
   rw[if_neg h2];exact hQ
 ·rw[if_neg (fun h=>h1 h.1)] at hQ
  rw[if_neg h1];exact hQ
theorem zhr (hg:Gl (S.put b o s.L)) (hp:Pl S b o) (hs:s.Ok) {Q:Int→Bool→Mem→Prop} (hQ:match nextL s with | some n=>Q n true (S.put b o s.L) | none=>Q 0 false (S.put b o s.L)):zbO (S.put b o s.L) (some (b,o)) Q:=by
 have hl:=hs.len
 apply zey
 unfold fO
 unfold nextL at hQ
 simp only[jn,reduceCtorEq,if_false]
 rw[qY,qY,zav ((hp.cell hl (by decide)).trans (Seat.g22 hl))]
 by_cases h1:s.opn=true
 ·rw[if_pos h1,zW ((hp.cell hl (by decide)).trans (Seat.g24 hl)),zW ((hp.cell hl (by decide)).trans (Seat.g25 hl))]
  obtain⟨m,e,_,hm⟩:=Seat.may_nat hs
  unfold Seat.may at e hQ
  by_cases h2:iand .u32 s.pend s.mask=0
  ·rw[if_neg (fun h=>h.2 h2)] at hQ
   rw[if_pos h2];exact hQ
  ·rw[if_pos ⟨h1,h2⟩] at hQ
   rw[if_neg h2]
   simp only[e,Int.toNat_natCast] at hQ h2 ⊢
   rw[zW ((hp.cell hl (by decide)).trans (Seat.g24 hl)),zW ((hp.cell hl (by decide)).trans (Seat.g25 hl)),e,wu64 (by omega) (by omega)]
   refine zgr hg (by omega) hm ?_
   exact⟨(hp.cell hl (by decide)).trans (Seat.g25 hl),(hp.cell hl (by decide)).trans (Seat.g24 hl),hQ⟩
 ·rw[if_neg (fun h=>h1 h.1)] at hQ
  rw[if_neg h1];exact hQ
end
end Go.Proofs.YtabdpmnhjlmnlaaGreatDoor
end
