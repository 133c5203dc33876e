/- Texts of this work,joined by program (pack.py): PsA,Rl,Fo,Sm,Sa,Cd,Cm. -/
import Derived.Test.YtabdpmnhjlmnlaaGreatDoorQCC
import Derived.Test.YtabdpmnhjlmnlaaGreatDoorQCF
import Derived.Test.YtabdpmnhjlmnlaaGreatDoorQCG
import Derived.Lib.TrailingZeros
set_option linter.unusedVariables false
section
namespace Go.Proofs.YtabdpmnhjlmnlaaGreatDoor
open Go Go.Pt
attribute [local irreducible] Code.wp Back bodyPost wpList FR WL WC WQ WA AW Tr Yc HC AllC
set_option maxRecDepth 20000
set_option maxHeartbeats 4000000
set_option linter.unusedVariables false
def fo (S:Mem) (s:Pt) (n:Int) (Q:Int→Mem→Prop):Prop:=
 jn (fun (Sx:Mem)=>
 nn s fun b o=>
 gI (Sx.cell b (o+24)) .u32 fun t=>
 0≤n ∧
 pt Sx b (o+24) 1 ([.int .u32 (ior .u32 t (ishl .u32 1 n))]) fun Sx_1=>
 zbD Sx_1 (some (b,o)) fun Sx_2=>
 Q 0 Sx_2) fun Jx=>
 if s=none then
 Q 1 S
 else
 zch S n fun t_1 Sx_3=>
 if t_1=true then
 nn s fun b_1 o_1=>
 gI (Sx_3.cell b_1 (o_1+23)) .u8 fun t_2=>
 if t_2=2 then
 Q 10 Sx_3
 else
 Jx Sx_3
 else
 Q 1 Sx_3
theorem zgk {S:Mem} {s:Pt} {n:Int} {Q:Int→Mem→Prop} (H:fo S s n Q):fO S s n Q:=by
 unfold fo at H
 exact Tr.intro Tryz.func58 E Tryz.ntmps58 E fun w0=>csr<|gv E E<|nx<|zn H (fun (J:Mem→Prop) (z:Unit) S=>J S) (fun z=>⟨30,[(0,eP s),(1,.int .i64 n)]⟩) (fun z=>[]) (fun _ Sx H1=>zC<|zM (by kernel_rfl)<|aTP 0 E (by decide +kernel) E (zm E)<|by exact by obtain⟨b,o,rfl,H2⟩:=H1;exact aTP 1 E (by decide +kernel) E (zJ E)<|by exact aTP 2 E (by decide +kernel) E (zv E E)<|by exact gx H2 fun t ht H3=>aT 3 E (by decide +kernel) E (zz E) (zH ht)<|by exact aTP 4 E (by decide +kernel) E (zm E)<|by exact an H3 fun c H4=>aTP 5 E (by decide +kernel) E (zdk E E c)<|by exact aTP 6 E (by decide +kernel) E (zms E E)<|by exact aTP 7 E (by decide +kernel) E (zJ E)<|by exact aTP 8 E (by decide +kernel) E (zv E E)<|by exact zB 9 (by decide +kernel) E<|by exact an H4 fun c_1 H5=>qo E E E E E c_1 E<|zr<|zN zy<|zK (by decide +kernel)<|by exact zt<|csr<|mv E E<|fK E E H5 fun Sx_2 H6=>nxr<|gv E E<|nx<|zi<|zh Tryz.results58 (zd E ze) ⟨_,E,H6⟩) (fun Jx hJx H7=>zw<|csr<|mv E E<|iteK H7 (fun c_2 H8=>s_p E (yT (qE (p:=s) E E) c_2)<|mv E E<|sk2 E E<|zP E<|pk E E E<|gv E E<|nx<|c_t E E<|csr<|gv E E<|nx<|zi<|zj<|zb<|zh Tryz.results58 (zd E ze) ⟨_,E,H8⟩) fun c_2 H8=>s_p E (yF (qE (p:=s) E E) c_2)<|mv E E<|mv E E<|qC E E H8 fun t_1 Sx_3 H9=>by have H10:=wM H9;rcases H10 with ⟨rfl,H11⟩ | ⟨rfl,H11⟩;exact (s_p E (yB (ql E) E)<|pk E E E<|gv E E<|nx<|c_f E E<|csr<|mv E E<|by obtain⟨b_1,o_1,rfl,H12⟩:=H11;exact s_p E (zJ E)<|s_p E (zv E E)<|gx H12 fun t_2 ht_2 H13=>s_v E (zz E) (zH ht_2)<|iteK H13 (fun c_3 H14=>ceT E E E (c_3)<|gv E E<|nx<|c_t E E<|csr<|gv E E<|nx<|zi<|zj<|zb<|zh Tryz.results58 (zd E ze) ⟨_,E,H14⟩) fun c_3 H14=>ceF E E E (c_3)<|gv E E<|nx<|cfs E E<|zU<|hJx () _ _ _ _ [] H14 E ⟨E,E,True.intro⟩ E);exact (s_p E (yB (ql E) E)<|pk E E E<|gv E E<|nx<|c_t E E<|csr<|gv E E<|nx<|zi<|zj<|zb<|zh Tryz.results58 (zd E ze) ⟨_,E,H11⟩))
def jg (S:Mem) (n:Int) (Q:Bool→Mem→Prop):Prop:=
 if 0≤n then
 Q (decide (n<8)) S
 else
 Q false S
theorem zcE {S:Mem} {n:Int} {Q:Bool→Mem→Prop} (H:jg S n Q):zch S n Q:=by
 unfold jg at H
 exact Tr.intro Tryz.func117 E Tryz.ntmps117 E fun w0=>csr<|gv E E<|nxr<|mv E E<|iteK H (fun c H1=>s_p E (yT (qj E E) c)<|mv E E<|mv E E<|s_p E (zD E E)<|pk E E E<|gv E E<|nx<|zi<|zh Tryz.results117 (zd E ze) ⟨_,E,H1⟩) fun c H1=>s_p E (yF (qj E E) c)<|mv E E<|sk2 E E<|pk E E E<|gv E E<|nx<|zi<|zh Tryz.results117 (zd E ze) ⟨_,E,H1⟩
def zaS (S:Mem) (s:Pt) (Q:Mem→Prop):Prop:=
 if s≠none then
 nn s fun b o=>
 gI (S.cell b (o+23)) .u8 fun t=>
 if t=1 then
 gI (S.cell b (o+24)) .u32 fun t_1=>
 gI (S.cell b (o+25)) .u32 fun t_2=>
 if iand .u32 t_1 t_2≠0 then
 pt S b (o+23) 1 ([.int .u8 0]) fun Sx=>
 Q Sx
 else
 Q S
 else
 Q S
 else
 Q S
theorem zhl {S:Mem} {s:Pt} {Q:Mem→Prop} (H:zaS S s Q):zbD S s Q:=by
 unfold zaS at H
 exact Tr.intro Tryz.func118 E Tryz.ntmps118 E fun w0=>zC<|zM (by kernel_rfl)<|aTP 0 E (by decide +kernel) E (zm E)<|by exact iteK H (fun c H1=>aTP 1 E (by decide +kernel) E (yT (zaY (p:=s) E E) c)<|by exact aTP 2 E (by decide +kernel) E (zm E)<|by exact aTP 3 E (by decide +kernel) E (zm E)<|by exact by obtain⟨b,o,rfl,H2⟩:=H1;exact aTP 4 E (by decide +kernel) E (zJ E)<|by exact aTP 5 E (by decide +kernel) E (zv E E)<|by exact gx H2 fun t ht H3=>aT 6 E (by decide +kernel) E (zz E) (zH ht)<|by exact iteK H3 (fun c_1 H4=>aTP 7 E (by decide +kernel) E (yT (jA E E) c_1)<|by exact aTP 8 E (by decide +kernel) E (yQ E E)<|by exact aTP 9 E (by decide +kernel) E (zm E)<|by exact aTP 10 E (by decide +kernel) E (zm E)<|by exact aTP 11 E (by decide +kernel) E (zJ E)<|by exact aTP 12 E (by decide +kernel) E (zv E E)<|by exact gx H4 fun t_1 ht_1 H5=>aT 13 E (by decide +kernel) E (zz E) (zH ht_1)<|by exact aTP 14 E (by decide +kernel) E (zm E)<|by exact aTP 15 E (by decide +kernel) E (zJ E)<|by exact aTP 16 E (by decide +kernel) E (zv E E)<|by exact gx H5 fun t_2 ht_2 H6=>aT 17 E (by decide +kernel) E (zz E) (zH ht_2)<|by exact aTP 18 E (by decide +kernel) E (kW E E)<|by exact iteK H6 (fun c_2 H7=>aTP 19 E (by decide +kernel) E (yT (zQ E E) c_2)<|by exact aTP 20 E (by decide +kernel) E (yQ E E)<|by exact zK (by decide +kernel)<|by exact zt<|ctr E E<|mv E E<|s_p E (zJ E)<|s_p E (zv E E)<|an H7 fun c_3 H8=>qo E E E E E c_3 E<|zr<|wb Tryz.results118 (ze) ⟨E,H8⟩) fun c_2 H7=>aTP 19 E (by decide +kernel) E (yF (zQ E E) c_2)<|by exact aTP 20 E (by decide +kernel) E (yQ E E)<|by exact zK (by decide +kernel)<|by exact zt<|cfs E E<|wb Tryz.results118 (ze) ⟨E,H7⟩) fun c_1 H4=>aTP 7 E (by decide +kernel) E (yF (jA E E) c_1)<|by exact aTP 8 E (by decide +kernel) E (yQ E E)<|by exact aTP 9 E (by decide +kernel) E (zm E)<|by exact zR 10 E (by decide +kernel) (za zc) E<|by exact zR 11 E (by decide +kernel) (za zc) E<|by exact zR 12 E (by decide +kernel) (za zc) E<|by exact zR 13 E (by decide +kernel) (za zc) E<|by exact zR 14 E (by decide +kernel) (za zc) E<|by exact zR 15 E (by decide +kernel) (za zc) E<|by exact zR 16 E (by decide +kernel) (za zc) E<|by exact zR 17 E (by decide +kernel) (za zc) E<|by exact zR 18 E (by decide +kernel) (za zc) E<|by exact zR 19 E (by decide +kernel) (za zc) E<|by exact aTP 20 E (by decide +kernel) E (yQ E E)<|by exact zK (by decide +kernel)<|by exact zt<|cfs E E<|wb Tryz.results118 (ze) ⟨E,H4⟩) fun c H1=>aTP 1 E (by decide +kernel) E (yF (zaY (p:=s) E E) c)<|by exact aTP 2 E (by decide +kernel) E (zm E)<|by exact zR 3 E (by decide +kernel) (za zc) E<|by exact zR 4 E (by decide +kernel) (za zc) E<|by exact zR 5 E (by decide +kernel) (za zc) E<|by exact zR 6 E (by decide +kernel) (za zc) E<|by exact zR 7 E (by decide +kernel) (za zc) E<|by exact aTP 8 E (by decide +kernel) E (yQ E E)<|by exact aTP 9 E (by decide +kernel) E (zm E)<|by exact zR 10 E (by decide +kernel) (za zc) E<|by exact zR 11 E (by decide +kernel) (za zc) E<|by exact zR 12 E (by decide +kernel) (za zc) E<|by exact zR 13 E (by decide +kernel) (za zc) E<|by exact zR 14 E (by decide +kernel) (za zc) E<|by exact zR 15 E (by decide +kernel) (za zc) E<|by exact zR 16 E (by decide +kernel) (za zc) E<|by exact zR 17 E (by decide +kernel) (za zc) E<|by exact zR 18 E (by decide +kernel) (za zc) E<|by exact zR 19 E (by decide +kernel) (za zc) E<|by exact aTP 20 E (by decide +kernel) E (yQ E E)<|by exact zK (by decide +kernel)<|by exact zt<|cfs E E<|wb Tryz.results118 (ze) ⟨E,H1⟩
def zaT (S:Mem) (s:Pt) (Q:Int→Bool→Mem→Prop):Prop:=
 zdW S s fun t t_1 Sx=>
 if t_1=true then
 nn s fun b o=>
 gI (Sx.cell b (o+24)) .u32 fun t_2=>
 0≤t ∧
 pt Sx b (o+24) 1 ([.int .u32 (iandn .u32 t_2 (ishl .u32 1 t))]) fun Sx_1=>
 Q t true Sx_1
 else
 Q t false Sx
theorem zhm {S:Mem} {s:Pt} {Q:Int→Bool→Mem→Prop} (H:zaT S s Q):zdV S s Q:=by
 unfold zaT at H
 exact Tr.intro Tryz.func120 E Tryz.ntmps120 E fun w0=>csr<|gv E E<|gv E E<|nxr<|mv E E<|gO E E H fun t t_1 Sx H1=>mv E E<|s_p E (zg E E)<|iteK H1 (fun c H2=>s_p E (yB (zg E E) c)<|gv E E<|gv E E<|nx<|zC<|csr<|mv E E<|nx<|c_t E E<|zM (by kernel_rfl)<|aTP 0 E (by decide +kernel) E (zm E)<|by exact by obtain⟨b,o,rfl,H3⟩:=H2;exact aTP 1 E (by decide +kernel) E (zJ E)<|by exact aTP 2 E (by decide +kernel) E (zv E E)<|by exact gx H3 fun t_2 ht_2 H4=>aT 3 E (by decide +kernel) E (zz E) (zH ht_2)<|by exact aTP 4 E (by decide +kernel) E (zm E)<|by exact an H4 fun c_1 H5=>aTP 5 E (by decide +kernel) E (zdk E E c_1)<|by exact aTP 6 E (by decide +kernel) E (zjJ E E)<|by exact aTP 7 E (by decide +kernel) E (zJ E)<|by exact aTP 8 E (by decide +kernel) E (zv E E)<|by exact zB 9 (by decide +kernel) E<|by exact an H5 fun c_2 H6=>qo E E E E E c_2 E<|zr<|zN zy<|zK (by decide +kernel)<|by exact zt<|csr<|mv E E<|mv E E<|gv E E<|gv E E<|nx<|zi<|zh Tryz.results120 (zd E (zd E ze)) ⟨_,_,E,H6⟩) fun c H2=>s_p E (yB (zg E E) (kX c))<|gv E E<|gv E E<|nx<|zC<|csr<|mv E E<|nx<|cfs E E<|zt<|csr<|mv E E<|mv E E<|gv E E<|gv E E<|nx<|zi<|zh Tryz.results120 (zd E (zd E ze)) ⟨_,_,E,H2⟩
def zaU (S:Mem) (s:Pt) (Q:Int→Bool→Mem→Prop):Prop:=
 jn (fun (Sx:Mem)=>
 nn s fun b o=>
 gI (Sx.cell b (o+24)) .u32 fun t=>
 gI (Sx.cell b (o+25)) .u32 fun t_1=>
 zbM Sx (IntKind.u64.wrap (iand .u32 t t_1)) fun t_2 Sx_1=>
 Sx_1.cell b (o+25)=some (.int .u32 t_1) ∧
 Sx_1.cell b (o+24)=some (.int .u32 t) ∧
 Q t_2 true Sx_1) fun Jx=>
 if s=none then
 Q 0 false S
 else
 nn s fun b_1 o_1=>
 gB (S.cell b_1 (o_1+22)) fun t_3=>
 if t_3=true then
 gI (S.cell b_1 (o_1+24)) .u32 fun t_4=>
 gI (S.cell b_1 (o_1+25)) .u32 fun t_5=>
 if iand .u32 t_4 t_5=0 then
 Q 0 false S
 else
 Jx S
 else
 Q 0 false S
theorem zhn {S:Mem} {s:Pt} {Q:Int→Bool→Mem→Prop} (H:zaU S s Q):zdW S s Q:=by
 unfold zaU at H
 exact Tr.intro Tryz.func170 E Tryz.ntmps170 E fun w0=>csr<|gv E E<|gv E E<|nx<|zn H (fun (J:Mem→Prop) (z:Unit) S=>J S) (fun z=>⟨36,[(0,eP s)]⟩) (fun z=>[]) (fun _ Sx H1=>zC<|zM (by kernel_rfl)<|aTP 0 E (by decide +kernel) E (zm E)<|by exact by obtain⟨b,o,rfl,H2⟩:=H1;exact aTP 1 E (by decide +kernel) E (zJ E)<|by exact aTP 2 E (by decide +kernel) E (zv E E)<|by exact gx H2 fun t ht H3=>aT 3 E (by decide +kernel) E (zz E) (zH ht)<|by exact aTP 4 E (by decide +kernel) E (zm E)<|by exact aTP 5 E (by decide +kernel) E (zJ E)<|by exact aTP 6 E (by decide +kernel) E (zv E E)<|by exact gx H3 fun t_1 ht_1 H4=>aT 7 E (by decide +kernel) E (zz E) (zH ht_1)<|by exact aTP 8 E (by decide +kernel) E (kW E E)<|by exact aTP 9 E (by decide +kernel) E (qq ⟨_,Tryz.underlying41⟩ E)<|by exact zB 10 (by decide +kernel) E<|by exact qC E E H4 fun t_2 Sx_1 H5=>by obtain⟨k,H6⟩:=H5;exact by obtain⟨k_1,H7⟩:=H6;exact zr<|zN (zx (zH k) (zx (zH k_1) zy))<|aTP 11 E (by decide +kernel) E (zS E)<|by exact aTP 12 E (by decide +kernel) E (zS E)<|by exact zK (by decide +kernel)<|by exact zt<|zi<|zh Tryz.results170 (zd E (zd E ze)) ⟨_,_,E,H7⟩) (fun Jx hJx H8=>zC<|zM (by kernel_rfl)<|a_takeP 0 E (by decide +kernel) (za (za zc)) E (zm E)<|by exact iteK H8 (fun c H9=>a_takeP 1 E (by decide +kernel) (za (za zc)) E (yT (qE (p:=s) E E) c)<|by exact a_takeP 2 E (by decide +kernel) (za (za zc)) E (zm E)<|by exact zR 3 E (by decide +kernel) (za (za zc)) E<|by exact zR 4 E (by decide +kernel) (za (za zc)) E<|by exact zR 5 E (by decide +kernel) (za (za zc)) E<|by exact zR 6 E (by decide +kernel) (za (za zc)) E<|by exact zR 7 E (by decide +kernel) (za (za zc)) E<|by exact a_takeP 8 E (by decide +kernel) (za (za zc)) E (yQ E E)<|by exact a_takeP 9 E (by decide +kernel) (za (za zc)) E (zm E)<|by exact zR 10 E (by decide +kernel) (za (za zc)) E<|by exact zR 11 E (by decide +kernel) (za (za zc)) E<|by exact zR 12 E (by decide +kernel) (za (za zc)) E<|by exact zR 13 E (by decide +kernel) (za (za zc)) E<|by exact zR 14 E (by decide +kernel) (za (za zc)) E<|by exact zR 15 E (by decide +kernel) (za (za zc)) E<|by exact zR 16 E (by decide +kernel) (za (za zc)) E<|by exact zR 17 E (by decide +kernel) (za (za zc)) E<|by exact zR 18 E (by decide +kernel) (za (za zc)) E<|by exact zR 19 E (by decide +kernel) (za (za zc)) E<|by exact a_takeP 20 E (by decide +kernel) (za (za zc)) E (yQ E E)<|by exact zK (by decide +kernel)<|by exact zt<|c_t E E<|csr<|gv E E<|gv E E<|nx<|zi<|zb<|zh Tryz.results170 (zd E (zd E ze)) ⟨_,_,E,H9⟩) fun c H9=>a_takeP 1 E (by decide +kernel) (za (za zc)) E (yF (qE (p:=s) E E) c)<|by exact a_takeP 2 E (by decide +kernel) (za (za zc)) E (zm E)<|by exact a_takeP 3 E (by decide +kernel) (za (za zc)) E (zm E)<|by exact by obtain⟨b_1,o_1,rfl,H10⟩:=H9;exact a_takeP 4 E (by decide +kernel) (za (za zc)) E (zJ E)<|by exact a_takeP 5 E (by decide +kernel) (za (za zc)) E (zv E E)<|by exact gx H10 fun t_3 ht_3 H11=>by have H12:=wM H11;rcases H12 with ⟨rfl,H13⟩ | ⟨rfl,H13⟩;exact (zV 6 E (by decide +kernel) (za (za zc)) E (zz E) (zH ht_3)<|by exact a_takeP 7 E (by decide +kernel) (za (za zc)) E (yB (ql E) E)<|by exact a_takeP 8 E (by decide +kernel) (za (za zc)) E (yQ E E)<|by exact a_takeP 9 E (by decide +kernel) (za (za zc)) E (zm E)<|by exact a_takeP 10 E (by decide +kernel) (za (za zc)) E (zm E)<|by exact a_takeP 11 E (by decide +kernel) (za (za zc)) E (zJ E)<|by exact a_takeP 12 E (by decide +kernel) (za (za zc)) E (zv E E)<|by exact gx H13 fun t_4 ht_4 H14=>zV 13 E (by decide +kernel) (za (za zc)) E (zz E) (zH ht_4)<|by exact a_takeP 14 E (by decide +kernel) (za (za zc)) E (zm E)<|by exact a_takeP 15 E (by decide +kernel) (za (za zc)) E (zJ E)<|by exact a_takeP 16 E (by decide +kernel) (za (za zc)) E (zv E E)<|by exact gx H14 fun t_5 ht_5 H15=>zV 17 E (by decide +kernel) (za (za zc)) E (zz E) (zH ht_5)<|by exact a_takeP 18 E (by decide +kernel) (za (za zc)) E (kW E E)<|by exact iteK H15 (fun c_1 H16=>a_takeP 19 E (by decide +kernel) (za (za zc)) E (yT (jA E E) c_1)<|by exact a_takeP 20 E (by decide +kernel) (za (za zc)) E (yQ E E)<|by exact zK (by decide +kernel)<|by exact zt<|c_t E E<|csr<|gv E E<|gv E E<|nx<|zi<|zb<|zh Tryz.results170 (zd E (zd E ze)) ⟨_,_,E,H16⟩) fun c_1 H16=>a_takeP 19 E (by decide +kernel) (za (za zc)) E (yF (jA E E) c_1)<|by exact a_takeP 20 E (by decide +kernel) (za (za zc)) E (yQ E E)<|by exact zK (by decide +kernel)<|by exact zt<|cfs E E<|hJx () _ _ _ _ [] H16 E ⟨E,True.intro⟩ E);exact (zV 6 E (by decide +kernel) (za (za zc)) E (zz E) (zH ht_3)<|by exact a_takeP 7 E (by decide +kernel) (za (za zc)) E (yB (ql E) E)<|by exact a_takeP 8 E (by decide +kernel) (za (za zc)) E (yQ E E)<|by exact a_takeP 9 E (by decide +kernel) (za (za zc)) E (zm E)<|by exact zR 10 E (by decide +kernel) (za (za zc)) E<|by exact zR 11 E (by decide +kernel) (za (za zc)) E<|by exact zR 12 E (by decide +kernel) (za (za zc)) E<|by exact zR 13 E (by decide +kernel) (za (za zc)) E<|by exact zR 14 E (by decide +kernel) (za (za zc)) E<|by exact zR 15 E (by decide +kernel) (za (za zc)) E<|by exact zR 16 E (by decide +kernel) (za (za zc)) E<|by exact zR 17 E (by decide +kernel) (za (za zc)) E<|by exact zR 18 E (by decide +kernel) (za (za zc)) E<|by exact zR 19 E (by decide +kernel) (za (za zc)) E<|by exact a_takeP 20 E (by decide +kernel) (za (za zc)) E (yQ E E)<|by exact zK (by decide +kernel)<|by exact zt<|c_t E E<|csr<|gv E E<|gv E E<|nx<|zi<|zb<|zh Tryz.results170 (zd E (zd E ze)) ⟨_,_,E,H13⟩))
def zaO (S:Mem) (s:Pt) (cause:Int) (addr:Int) (Q:Mem→Prop):Prop:=
 jn (fun (Sx:Mem)=>
 jn (fun (Sx_1:Mem)=>
 nn s fun b o=>
 gI (Sx_1.cell b (o+16)) .u64 fun t=>
 gI (Sx_1.cell b (o+18)) .u64 fun t_1=>
 pt Sx_1 b (o+19) 1 ([.int .u64 t]) fun Sx_2=>
 pt Sx_2 b (o+20) 1 ([.int .u64 cause]) fun Sx_3=>
 pt Sx_3 b (o+21) 1 ([.int .u64 addr]) fun Sx_4=>
 pt Sx_4 b (o+16) 1 ([.int .u64 t_1]) fun Sx_5=>
 pt Sx_5 b (o+22) 1 ([.bool false]) fun Sx_6=>
 Q Sx_6) fun Jx=>
 nn s fun b_1 o_1=>
 gI (Sx.cell b_1 (o_1+18)) .u64 fun t_2=>
 if t_2=0 then
 pt Sx b_1 (o_1+23) 1 ([.int .u8 2]) fun Sx_7=>
 Q Sx_7
 else
 Jx Sx) fun Jx_1=>
 if s=none then
 Q S
 else
 Jx_1 S
theorem zhh {S:Mem} {s:Pt} {cause:Int} {addr:Int} {Q:Mem→Prop} (H:zaO S s cause addr Q):zdI S s cause addr Q:=by
 unfold zaO at H
 exact Tr.intro Tryz.func171 E Tryz.ntmps171 E fun w0=>zn H (fun (J:Mem→Prop) (z:Unit) S=>J S) (fun z=>⟨41,[(0,eP s),(1,.int .u64 cause),(2,.int .u64 addr)]⟩) (fun z=>[]) (fun _ Sx H1=>zn H1 (fun (J:Mem→Prop) (z:Unit) S=>J S) (fun z=>⟨41,[(0,eP s),(1,.int .u64 cause),(2,.int .u64 addr)]⟩) (fun z=>[]) (fun _ Sx_1 H2=>zM (by kernel_rfl)<|a_takeP 0 E (by decide +kernel) zc E (zm E)<|by exact a_takeP 1 E (by decide +kernel) zc E (zm E)<|by exact a_takeP 2 E (by decide +kernel) zc E (zm E)<|by exact a_takeP 3 E (by decide +kernel) zc E (zm E)<|by exact a_takeP 4 E (by decide +kernel) zc E (zm E)<|by exact a_takeP 5 E (by decide +kernel) zc E (zm E)<|by exact by obtain⟨b,o,rfl,H3⟩:=H2;exact a_takeP 6 E (by decide +kernel) zc E (zJ E)<|by exact a_takeP 7 E (by decide +kernel) zc E (zv E E)<|by exact gx H3 fun t ht H4=>zV 8 E (by decide +kernel) zc E (zz E) (zH ht)<|by exact a_takeP 9 E (by decide +kernel) zc E (zm E)<|by exact a_takeP 10 E (by decide +kernel) zc E (zm E)<|by exact a_takeP 11 E (by decide +kernel) zc E (zm E)<|by exact a_takeP 12 E (by decide +kernel) zc E (zJ E)<|by exact a_takeP 13 E (by decide +kernel) zc E (zv E E)<|by exact gx H4 fun t_1 ht_1 H5=>zV 14 E (by decide +kernel) zc E (zz E) (zH ht_1)<|by exact a_takeP 15 E (by decide +kernel) zc E (zJ E)<|by exact a_takeP 16 E (by decide +kernel) zc E (zv E E)<|by exact zB 17 (by decide +kernel) E<|by exact an H5 fun c H6=>qo E E E E E c E<|zr<|zN zy<|a_takeP 18 E (by decide +kernel) zc E (zJ E)<|by exact a_takeP 19 E (by decide +kernel) zc E (zv E E)<|by exact zB 20 (by decide +kernel) E<|by exact an H6 fun c_1 H7=>qo E E E E E c_1 E<|zr<|zN zy<|a_takeP 21 E (by decide +kernel) zc E (zJ E)<|by exact a_takeP 22 E (by decide +kernel) zc E (zv E E)<|by exact zB 23 (by decide +kernel) E<|by exact an H7 fun c_2 H8=>qo E E E E E c_2 E<|zr<|zN zy<|a_takeP 24 E (by decide +kernel) zc E (zJ E)<|by exact a_takeP 25 E (by decide +kernel) zc E (zv E E)<|by exact zB 26 (by decide +kernel) E<|by exact an H8 fun c_3 H9=>qo E E E E E c_3 E<|zr<|zN zy<|a_takeP 27 E (by decide +kernel) zc E (zJ E)<|by exact a_takeP 28 E (by decide +kernel) zc E (zv E E)<|by exact zB 29 (by decide +kernel) E<|by exact an H9 fun c_4 H10=>qo E E E E E c_4 E<|zr<|zN zy<|zK (by decide +kernel)<|by exact wb Tryz.results171 (ze) ⟨E,H10⟩) (fun Jx hJx H11=>csr<|mv E E<|by obtain⟨b_1,o_1,rfl,H12⟩:=H11;exact s_p E (zJ E)<|s_p E (zv E E)<|gx H12 fun t_2 ht_2 H13=>s_v E (zz E) (zH ht_2)<|iteK H13 (fun c_5 H14=>ceT E E E (c_5)<|nx<|c_t E E<|csr<|mv E E<|s_p E (zJ E)<|s_p E (zv E E)<|an H14 fun c_6 H15=>qo E E E E E c_6 E<|nx<|zi<|zb<|zh Tryz.results171 (ze) ⟨E,H15⟩) fun c_5 H14=>ceF E E E (c_5)<|nx<|cfs E E<|hJx () _ _ _ _ [] H14 E ⟨E,E,E,True.intro⟩ E)) (fun Jx_1 hJx_1 H16=>csr<|mv E E<|iteK H16 (fun c_7 H17=>s_p E (yT (qE (p:=s) E E) c_7)<|nx<|c_t E E<|zi<|zb<|zh Tryz.results171 (ze) ⟨E,H17⟩) fun c_7 H17=>s_p E (yF (qE (p:=s) E E) c_7)<|nx<|cfs E E<|hJx_1 () _ _ _ _ [] H17 E ⟨E,E,E,True.intro⟩ E)
def zcx (S:Mem) (s:List Value) (n:Int) (time:Int) (me:Int) (Q:Int→Bool→Mem→Prop):Prop:=
 s.length=26 ∧
 jn (fun (Sx:Mem)=>
 Q 0 false Sx) fun Jx=>
 if n=0 then
 gI (nthL s 17) .u64 fun t=>
 Q t true S
 else
 if n=1 then
 gI (nthL s 18) .u64 fun t_1=>
 Q t_1 true S
 else
 if n=2 then
 gI (nthL s 19) .u64 fun t_2=>
 Q t_2 true S
 else
 if n=3 then
 gI (nthL s 20) .u64 fun t_3=>
 Q t_3 true S
 else
 if n=4 then
 gI (nthL s 21) .u64 fun t_4=>
 Q t_4 true S
 else
 if n=5 then
 gI (nthL s 25) .u32 fun t_5=>
 Q (IntKind.u64.wrap t_5) true S
 else
 if n=6 then
 gB (nthL s 22) fun t_6=>
 zbt S t_6 fun t_7 Sx_1=>
 Q t_7 true Sx_1
 else
 if n=7 then
 Q time true S
 else
 if n=8 then
 Q (IntKind.u64.wrap me) true S
 else
 Jx S
theorem ziJ {S:Mem} {s:List Value} {n:Int} {time:Int} {me:Int} {Q:Int→Bool→Mem→Prop} (H:zcx S s n time me Q):zfv S s n time me Q:=by
 unfold zcx at H
 exact Tr.intro Tryz.func177 E Tryz.ntmps177 E fun w0=>an H fun hs H1=>csr<|qM E E E fun b=>gv E E<|gv E E<|nx<|zn H1 (fun (J:Mem→Prop) (z:Unit) S=>J S) (fun z=>⟨48,[]⟩) (fun z=>[]) (fun _ Sx H2=>csr<|gv E E<|gv E E<|nx<|zi<|zh Tryz.results177 (zd E (zd E ze)) ⟨_,_,E,H2⟩) (fun Jx hJx H3=>csr<|mv E E<|nx<|zw<|csr<|iteK H3 (fun c H4=>ceT E E E (c)<|gv E E<|nx<|c_t E E<|csr<|s_p E (zv E E)<|gx H4 fun t ht H5=>s_v E (zz E) (zW 0 E ht)<|gv E E<|gv E E<|nx<|zi<|zj<|zb<|zh Tryz.results177 (zd E (zd E ze)) ⟨_,_,E,H5⟩) fun c H4=>ceF E E E (c)<|gv E E<|nx<|c_f E E<|csr<|iteK H4 (fun c_1 H6=>ceT E E E (c_1)<|gv E E<|nx<|c_t E E<|csr<|s_p E (zv E E)<|gx H6 fun t_1 ht_1 H7=>s_v E (zz E) (zW 0 E ht_1)<|gv E E<|gv E E<|nx<|zi<|zj<|zb<|zh Tryz.results177 (zd E (zd E ze)) ⟨_,_,E,H7⟩) fun c_1 H6=>ceF E E E (c_1)<|gv E E<|nx<|c_f E E<|csr<|iteK H6 (fun c_2 H8=>ceT E E E (c_2)<|gv E E<|nx<|c_t E E<|csr<|s_p E (zv E E)<|gx H8 fun t_2 ht_2 H9=>s_v E (zz E) (zW 0 E ht_2)<|gv E E<|gv E E<|nx<|zi<|zj<|zb<|zh Tryz.results177 (zd E (zd E ze)) ⟨_,_,E,H9⟩) fun c_2 H8=>ceF E E E (c_2)<|gv E E<|nx<|c_f E E<|csr<|iteK H8 (fun c_3 H10=>ceT E E E (c_3)<|gv E E<|nx<|c_t E E<|csr<|s_p E (zv E E)<|gx H10 fun t_3 ht_3 H11=>s_v E (zz E) (zW 0 E ht_3)<|gv E E<|by exact gv E E<|nx<|zi<|zj<|zb<|zh Tryz.results177 (zd E (zd E ze)) ⟨_,_,E,H11⟩) fun c_3 H10=>ceF E E E (c_3)<|gv E E<|nx<|c_f E E<|csr<|iteK H10 (fun c_4 H12=>ceT E E E (c_4)<|gv E E<|nx<|by exact c_t E E<|csr<|s_p E (zv E E)<|gx H12 fun t_4 ht_4 H13=>s_v E (zz E) (zW 0 E ht_4)<|gv E E<|gv E E<|nx<|zi<|zj<|zb<|zh Tryz.results177 (zd E (zd E ze)) ⟨_,_,E,H13⟩) fun c_4 H12=>ceF E E E (c_4)<|gv E E<|nx<|by exact c_f E E<|csr<|iteK H12 (fun c_5 H14=>ceT E E E (c_5)<|gv E E<|nx<|c_t E E<|csr<|s_p E (zv E E)<|gx H14 fun t_5 ht_5 H15=>s_v E (zz E) (zW 0 E ht_5)<|s_p E (qq ⟨_,Tryz.underlying41⟩ E)<|gv E E<|gv E E<|nx<|zi<|zj<|zb<|zh Tryz.results177 (zd E (zd E ze)) ⟨_,_,E,H15⟩) fun c_5 H14=>ceF E E E (c_5)<|gv E E<|nx<|c_f E E<|csr<|iteK H14 (fun c_6 H16=>ceT E E E (c_6)<|gv E E<|nx<|c_t E E<|csr<|s_p E (zv E E)<|gx H16 fun t_6 ht_6 H17=>s_v E (zz E) (zW 0 E ht_6)<|qC E E H17 fun t_7 Sx_1 H18=>gv E E<|gv E E<|nx<|zi<|zj<|zb<|zh Tryz.results177 (zd E (zd E ze)) ⟨_,_,E,H18⟩) fun c_6 H16=>ceF E E E (c_6)<|gv E E<|nx<|c_f E E<|csr<|iteK H16 (fun c_7 H19=>ceT E E E (c_7)<|gv E E<|nx<|c_t E E<|csr<|mv E E<|gv E E<|gv E E<|nx<|zi<|zj<|zb<|zh Tryz.results177 (zd E (zd E ze)) ⟨_,_,E,H19⟩) fun c_7 H19=>ceF E E E (c_7)<|gv E E<|nx<|c_f E E<|csr<|iteK H19 (fun c_8 H20=>ceT E E E (c_8)<|gv E E<|nx<|c_t E E<|csr<|mv E E<|s_p E (qq ⟨_,Tryz.underlying3⟩ E)<|gv E E<|gv E E<|nx<|zi<|zj<|zb<|zh Tryz.results177 (zd E (zd E ze)) ⟨_,_,E,H20⟩) fun c_8 H20=>ceF E E E (c_8)<|gv E E<|nx<|cfs E E<|zU<|hJx () _ _ _ _ [] H20 E True.intro E)
def zcv (S:Mem) (s:Pt) (n:Int) (v:Int) (Q:Bool→Mem→Prop):Prop:=
 jn (fun (Sx:Mem)=>
 jn (fun (Sx_1:Mem)=>
 Q true Sx_1) fun Jx=>
 if n=0 then
 nn s fun b o=>
 pt Sx b (o+17) 1 ([.int .u64 v]) fun Sx_2=>
 Jx Sx_2
 else
 if n=1 then
 nn s fun b_1 o_1=>
 pt Sx b_1 (o_1+18) 1 ([.int .u64 v]) fun Sx_3=>
 Jx Sx_3
 else
 if n=2 then
 nn s fun b_2 o_2=>
 pt Sx b_2 (o_2+19) 1 ([.int .u64 v]) fun Sx_4=>
 Jx Sx_4
 else
 if n=3 then
 nn s fun b_3 o_3=>
 pt Sx b_3 (o_3+20) 1 ([.int .u64 v]) fun Sx_5=>
 Jx Sx_5
 else
 if n=4 then
 nn s fun b_4 o_4=>
 pt Sx b_4 (o_4+21) 1 ([.int .u64 v]) fun Sx_6=>
 Jx Sx_6
 else
 if n=5 then
 nn s fun b_5 o_5=>
 pt Sx b_5 (o_5+25) 1 ([.int .u32 (IntKind.u32.wrap (iand .u64 v 255))]) fun Sx_7=>
 Jx Sx_7
 else
 if n=6 then
 nn s fun b_6 o_6=>
 pt Sx b_6 (o_6+22) 1 ([.bool (decide (iand .u64 v 1=1))]) fun Sx_8=>
 Jx Sx_8
 else
 Q false Sx) fun Jx_1=>
 if s=none then
 Q false S
 else
 Jx_1 S
theorem ziH {S:Mem} {s:Pt} {n:Int} {v:Int} {Q:Bool→Mem→Prop} (H:zcv S s n v Q):zfu S s n v Q:=by
 unfold zcv at H
 exact Tr.intro Tryz.func178 E Tryz.ntmps178 E fun w0=>csr<|gv E E<|nx<|zn H (fun (J:Mem→Prop) (z:Unit) S=>J S) (fun z=>⟨56,[(0,eP s),(1,.int .i64 n),(2,.int .u64 v)]⟩) (fun z=>[]) (fun _ Sx H1=>zn H1 (fun (J:Mem→Prop) (z:Unit) S=>J S) (fun z=>⟨56,[]⟩) (fun z=>[]) (fun _ Sx_1 H2=>csr<|gv E E<|nx<|zi<|zh Tryz.results178 (zd E ze) ⟨_,E,H2⟩) (fun Jx hJx H3=>csr<|mv E E<|nx<|zw<|csr<|iteK H3 (fun c H4=>ceT E E E (c)<|gv E E<|nx<|ctr E E<|mv E E<|mv E E<|by obtain⟨b,o,rfl,H5⟩:=H4;exact s_p E (zJ E)<|s_p E (zv E E)<|an H5 fun c_1 H6=>qo E E E E E c_1 E<|zr<|zU<|hJx () _ _ _ _ [] H6 E True.intro E) fun c H4=>ceF E E E (c)<|gv E E<|nx<|c_f E E<|csr<|iteK H4 (fun c_2 H7=>ceT E E E (c_2)<|gv E E<|nx<|ctr E E<|mv E E<|mv E E<|by obtain⟨b_1,o_1,rfl,H8⟩:=H7;exact s_p E (zJ E)<|s_p E (zv E E)<|an H8 fun c_3 H9=>qo E E E E E c_3 E<|zr<|zU<|hJx () _ _ _ _ [] H9 E True.intro E) fun c_2 H7=>ceF E E E (c_2)<|gv E E<|nx<|c_f E E<|csr<|iteK H7 (fun c_4 H10=>ceT E E E (c_4)<|gv E E<|nx<|ctr E E<|mv E E<|mv E E<|by obtain⟨b_2,o_2,rfl,H11⟩:=H10;exact s_p E (zJ E)<|s_p E (zv E E)<|an H11 fun c_5 H12=>qo E E E E E c_5 E<|zr<|zU<|hJx () _ _ _ _ [] H12 E True.intro E) fun c_4 H10=>ceF E E E (c_4)<|gv E E<|nx<|c_f E E<|csr<|iteK H10 (fun c_6 H13=>ceT E E E (c_6)<|gv E E<|nx<|ctr E E<|mv E E<|mv E E<|by obtain⟨b_3,o_3,rfl,H14⟩:=H13;exact s_p E (zJ E)<|s_p E (zv E E)<|an H14 fun c_7 H15=>qo E E E E E c_7 E<|zr<|zU<|hJx () _ _ _ _ [] H15 E True.intro E) fun c_6 H13=>ceF E E E (c_6)<|gv E E<|nx<|c_f E E<|csr<|iteK H13 (fun c_8 H16=>ceT E E E (c_8)<|gv E E<|nx<|c_t E E<|by exact zu<|mv E E<|mv E E<|by obtain⟨b_4,o_4,rfl,H17⟩:=H16;exact s_p E (zJ E)<|s_p E (zv E E)<|an H17 fun c_9 H18=>qo E E E E E c_9 E<|zr<|zU<|hJx () _ _ _ _ [] H18 E True.intro E) fun c_8 H16=>ceF E E E (c_8)<|gv E E<|nx<|c_f E E<|by exact csr<|iteK H16 (fun c_10 H19=>ceT E E E (c_10)<|gv E E<|nx<|ctr E E<|mv E E<|mv E E<|s_p E (kW E E)<|s_p E (qq ⟨_,Tryz.underlying39⟩ E)<|by obtain⟨b_5,o_5,rfl,H20⟩:=H19;exact s_p E (zJ E)<|s_p E (zv E E)<|an H20 fun c_11 H21=>qo E E E E E c_11 E<|zr<|zU<|hJx () _ _ _ _ [] H21 E True.intro E) fun c_10 H19=>ceF E E E (c_10)<|gv E E<|nx<|c_f E E<|csr<|iteK H19 (fun c_12 H22=>ceT E E E (c_12)<|gv E E<|nx<|ctr E E<|mv E E<|mv E E<|s_p E (kW E E)<|s_p E (jA E E)<|by obtain⟨b_6,o_6,rfl,H23⟩:=H22;exact s_p E (zJ E)<|s_p E (zv E E)<|an H23 fun c_13 H24=>qo E E E E E c_13 E<|zr<|zU<|hJx () _ _ _ _ [] H24 E True.intro E) fun c_12 H22=>ceF E E E (c_12)<|gv E E<|nx<|c_f E E<|csr<|gv E E<|nx<|zi<|zj<|zb<|zh Tryz.results178 (zd E ze) ⟨_,E,H22⟩)) (fun Jx_1 hJx_1 H25=>csr<|mv E E<|iteK H25 (fun c_14 H26=>s_p E (yT (qE (p:=s) E E) c_14)<|nx<|c_t E E<|csr<|gv E E<|nx<|zi<|zb<|zh Tryz.results178 (zd E ze) ⟨_,E,H26⟩) fun c_14 H26=>s_p E (yF (qE (p:=s) E E) c_14)<|nx<|cfs E E<|hJx_1 () _ _ _ _ [] H26 E ⟨E,E,E,True.intro⟩ E)
def zaQ (S:Mem) (s:Pt) (Q:Mem→Prop):Prop:=
 if s≠none then
 nn s fun b o=>
 gI (S.cell b (o+19)) .u64 fun t=>
 pt S b (o+16) 1 ([.int .u64 t]) fun Sx=>
 pt Sx b (o+22) 1 ([.bool true]) fun Sx_1=>
 Q Sx_1
 else
 Q S
theorem zhj {S:Mem} {s:Pt} {Q:Mem→Prop} (H:zaQ S s Q):zdK S s Q:=by
 unfold zaQ at H
 exact Tr.intro Tryz.func179 E Tryz.ntmps179 E fun w0=>csr<|mv E E<|iteK H (fun c H1=>s_p E (yT (zaY (p:=s) E E) c)<|nx<|ctr E E<|mv E E<|mv E E<|mv E E<|by obtain⟨b,o,rfl,H2⟩:=H1;exact s_p E (zJ E)<|s_p E (zv E E)<|gx H2 fun t ht H3=>s_v E (zz E) (zH ht)<|s_p E (zJ E)<|s_p E (zv E E)<|an H3 fun c_1 H4=>qo E E E E E c_1 E<|s_p E (zJ E)<|s_p E (zv E E)<|an H4 fun c_2 H5=>qo E E E E E c_2 E<|zr<|wb Tryz.results179 (ze) ⟨E,H5⟩) fun c H1=>s_p E (yF (zaY (p:=s) E E) c)<|nx<|cfs E E<|wb Tryz.results179 (ze) ⟨E,H1⟩
def zaN (S:Mem) (onx:Bool) (Q:Int→Mem→Prop):Prop:=
 if onx=true then
 Q 1 S
 else
 Q 0 S
theorem zhg {S:Mem} {onx:Bool} {Q:Int→Mem→Prop} (H:zaN S onx Q):zbt S onx Q:=by
 unfold zaN at H
 exact Tr.intro Tryz.func199 E Tryz.ntmps199 E fun w0=>csr<|gv E E<|nx<|zC<|csr<|iteK H (fun c H1=>s_p E (vp E c)<|nx<|c_t E E<|csr<|gv E E<|nx<|zi<|zb<|zh Tryz.results199 (zd E ze) ⟨_,E,H1⟩) fun c H1=>s_p E (vp E (kX c))<|nx<|cfs E E<|zt<|csr<|gv E E<|nx<|zi<|zh Tryz.results199 (zd E ze) ⟨_,E,H1⟩
def fh (S:Mem) (w:Int) (Q:Int→Mem→Prop):Prop:=
 vW S w fun t Sx=>
 Q t Sx
theorem zgg {S:Mem} {w:Int} {Q:Int→Mem→Prop} (H:fh S w Q):zbM S w Q:=by
 unfold fh at H
 exact Tr.intro Tryz.func218 E Tryz.ntmps218 E fun w0=>csr<|gv E E<|nxr<|mv E E<|qC E E H fun t Sx H1=>gv E E<|nx<|zi<|zh Tryz.results218 (zd E ze) ⟨_,E,H1⟩
def yP (S:Mem) (x:Int) (Q:Int→Mem→Prop):Prop:=
 if x=0 then
 Q 64 S
 else
 0≤ishr .u64 (IntKind.u64.wrap ((iand .u64 x (IntKind.u64.wrap (0-x)))*285870213051353865)) 58∧ishr .u64 (IntKind.u64.wrap ((iand .u64 x (IntKind.u64.wrap (0-x)))*285870213051353865)) 58<64 ∧
 gI (S.cell 0 (0+(ishr .u64 (IntKind.u64.wrap ((iand .u64 x (IntKind.u64.wrap (0-x)))*285870213051353865)) 58).toNat*1)) .u8 fun t=>
 Q (IntKind.i64.wrap t) S
theorem gy {S:Mem} {x:Int} {Q:Int→Mem→Prop} (H:yP S x Q):vW S x Q:=by
 unfold yP at H
 exact Tr.intro Tryz.func239 E Tryz.ntmps239 E fun w0=>csr<|gv E E<|nx<|zC<|csr<|mv E E<|iteK H (fun c H1=>ceT E E E (c)<|nx<|c_t E E<|csr<|gv E E<|nx<|zi<|zb<|zh Tryz.results239 (zd E ze) ⟨_,E,H1⟩) fun c H1=>ceF E E E (c)<|nx<|cfs E E<|zt<|csr<|mv E E<|mv E E<|s_p E (zoM E)<|s_p E (kW E E)<|s_p E (ji E E)<|s_p E (zap E E (by decide))<|an2 H1 fun c_1 c_2 H2=>s_p E (qv E E c_1 c_2 E)<|gx H2 fun t ht H3=>s_v E (zz E) (zH ht)<|s_p E (qq ⟨_,Tryz.underlying5⟩ E)<|gv E E<|nx<|zi<|zh Tryz.results239 (zd E ze) ⟨_,E,H3⟩
def fD (S:Mem) (x:Int) (y:Int) (Q:Int→Int→Mem→Prop):Prop:=
 Q (IntKind.u64.wrap ((IntKind.u64.wrap ((IntKind.u64.wrap ((ishr .u64 x 32)*(ishr .u64 y 32)))+(ishr .u64 (IntKind.u64.wrap ((IntKind.u64.wrap ((ishr .u64 x 32)*(iand .u64 y 4294967295)))+(ishr .u64 (IntKind.u64.wrap ((iand .u64 x 4294967295)*(iand .u64 y 4294967295))) 32))) 32)))+(ishr .u64 (IntKind.u64.wrap ((iand .u64 (IntKind.u64.wrap ((IntKind.u64.wrap ((ishr .u64 x 32)*(iand .u64 y 4294967295)))+(ishr .u64 (IntKind.u64.wrap ((iand .u64 x 4294967295)*(iand .u64 y 4294967295))) 32))) 4294967295)+(IntKind.u64.wrap ((iand .u64 x 4294967295)*(ishr .u64 y 32))))) 32))) (IntKind.u64.wrap (x*y)) S
theorem zgp {S:Mem} {x:Int} {y:Int} {Q:Int→Int→Mem→Prop} (H:fD S x y Q):zcs S x y Q:=by
 unfold fD at H
 exact Tr.intro Tryz.func200 E Tryz.ntmps200 E fun w0=>csr<|gv E E<|gv E E<|nxr<|mv E E<|s_p E (kW E E)<|gv E E<|nxr<|mv E E<|s_p E (zap E E (by decide))<|gv E E<|nxr<|mv E E<|s_p E (kW E E)<|gv E E<|nxr<|mv E E<|s_p E (zap E E (by decide))<|gv E E<|nxr<|mv E E<|mv E E<|s_p E (ji E E)<|gv E E<|nxr<|mv E E<|mv E E<|s_p E (ji E E)<|mv E E<|s_p E (zap E E (by decide))<|s_p E (qh E E)<|gv E E<|nxr<|by exact mv E E<|s_p E (kW E E)<|gv E E<|nxr<|mv E E<|s_p E (zap E E (by decide))<|gv E E<|nxr<|mv E E<|mv E E<|mv E E<|s_p E (ji E E)<|s_p E (qh E E)<|gv E E<|nxr<|mv E E<|mv E E<|s_p E (ji E E)<|mv E E<|s_p E (qh E E)<|mv E E<|s_p E (zap E E (by decide))<|s_p E (qh E E)<|gv E E<|nxr<|mv E E<|mv E E<|s_p E (ji E E)<|gv E E<|nx<|zi<|zh Tryz.results200 (zd E (zd E ze)) ⟨_,_,E,H⟩
def xW (S:Mem) (x:Int) (k:Int) (Q:Int→Mem→Prop):Prop:=
 0≤iand .u64 (IntKind.u64.wrap k) 63 ∧
 0≤IntKind.u64.wrap (64-(iand .u64 (IntKind.u64.wrap k) 63)) ∧
 Q (ior .u64 (ishl .u64 x (iand .u64 (IntKind.u64.wrap k) 63)) (ishr .u64 x (IntKind.u64.wrap (64-(iand .u64 (IntKind.u64.wrap k) 63))))) S
theorem zaz {S:Mem} {x:Int} {k:Int} {Q:Int→Mem→Prop} (H:xW S x k Q):wV S x k Q:=by
 unfold xW at H
 exact Tr.intro Tryz.func201 E Tryz.ntmps201 E fun w0=>csr<|gv E E<|nxr<|mv E E<|s_p E (qq ⟨_,Tryz.underlying3⟩ E)<|s_p E (kW E E)<|gv E E<|nxr<|mv E E<|mv E E<|an H fun c H1=>s_p E (zdk E E c)<|mv E E<|mv E E<|s_p E (gu E E)<|an H1 fun c_1 H2=>s_p E (zap E E c_1)<|s_p E (zms E E)<|gv E E<|nx<|zi<|zh Tryz.results201 (zd E ze) ⟨_,E,H2⟩
def zct (S:Mem) (sum:Int) (w:Int) (Q:Int→Mem→Prop):Prop:=
 zcs S (ixor .u64 sum w) 11400714819323198485 fun t t_1 Sx=>
 wV Sx t 17 fun t_2 Sx_1=>
 Q (ixor .u64 t_2 t_1) Sx_1
theorem ziF {S:Mem} {sum:Int} {w:Int} {Q:Int→Mem→Prop} (H:zct S sum w Q):zdf S sum w Q:=by
 unfold zct at H
 exact Tr.intro Tryz.func135 E Tryz.ntmps135 E fun w0=>csr<|gv E E<|nxr<|mv E E<|mv E E<|s_p E (zmI E E)<|gO E E H fun t t_1 Sx H1=>mv E E<|s_p E (zg E E)<|s_p E (zg E E)<|gv E E<|gv E E<|nxr<|mv E E<|qC E E H1 fun t_2 Sx_1 H2=>mv E E<|s_p E (zmI E E)<|gv E E<|nx<|zi<|zh Tryz.results135 (zd E ze) ⟨_,E,H2⟩
def zaP (S:Mem) (s:List Value) (Q:Sl→Mem→Prop):Prop:=
 s.length=26 ∧
 al S 43 s fun b Sx=>
 sp Sx ⟨some (b,0),16,16⟩ 1 fun vs=>
 ap Sx 39 1 8 [.int .u64 0] (⟨none,0,0⟩) 16 vs fun t Sx_1=>
 gI (Sx_1.cell b 16) .u64 fun t_1=>
 gI (Sx_1.cell b 17) .u64 fun t_2=>
 gI (Sx_1.cell b 18) .u64 fun t_3=>
 gI (Sx_1.cell b 19) .u64 fun t_4=>
 gI (Sx_1.cell b 20) .u64 fun t_5=>
 gI (Sx_1.cell b 21) .u64 fun t_6=>
 gB (Sx_1.cell b 22) fun t_7=>
 gI (Sx_1.cell b 23) .u8 fun t_8=>
 gI (Sx_1.cell b 24) .u32 fun t_9=>
 gI (Sx_1.cell b 25) .u32 fun t_10=>
 zbt Sx_1 t_7 fun t_11 Sx_2=>
 Sx_2.cell b 25=some (.int .u32 t_10) ∧
 Sx_2.cell b 24=some (.int .u32 t_9) ∧
 Sx_2.cell b 23=some (.int .u8 t_8) ∧
 Sx_2.cell b 21=some (.int .u64 t_6) ∧
 Sx_2.cell b 20=some (.int .u64 t_5) ∧
 Sx_2.cell b 19=some (.int .u64 t_4) ∧
 Sx_2.cell b 18=some (.int .u64 t_3) ∧
 Sx_2.cell b 17=some (.int .u64 t_2) ∧
 Sx_2.cell b 16=some (.int .u64 t_1) ∧
 ap Sx_2 39 1 8 [.int .u64 0] t 10 ([.int .u64 t_1,.int .u64 t_2,.int .u64 t_3,.int .u64 t_4,.int .u64 t_5,.int .u64 t_6,.int .u64 t_11,.int .u64 (IntKind.u64.wrap t_8),.int .u64 (IntKind.u64.wrap t_9),.int .u64 (IntKind.u64.wrap t_10)]) fun t_12 Sx_3=>
 Sx_3.cell b 25=some (.int .u32 t_10) ∧
 Sx_3.cell b 24=some (.int .u32 t_9) ∧
 Sx_3.cell b 23=some (.int .u8 t_8) ∧
 Q t_12 Sx_3
theorem zhi {S:Mem} {s:List Value} {Q:Sl→Mem→Prop} (H:zaP S s Q):zdJ S s Q:=by
 unfold zaP at H
 exact Tr.intro Tryz.func134 E Tryz.ntmps134 E fun w0=>an H fun hs H1=>csr<|qM E E E fun b=>ku 0 E fun hb=>have H2:=H1 b hb;gv E E<|nxr<|s_p E (zv E E)<|s_p E (znN E)<|by obtain⟨vs,h,c,H3⟩:=H2;exact vY (sx:=⟨none,0,0⟩) (vs:=vs) E E E ((zaH h).1) ((zaH (P:=Tryz.prog) (w0:=w0) (S0:=S) (V:=[]) h).2) c (by decide) H3 fun t Sx_1 H4=>gv E E<|nx<|zC<|zM (by kernel_rfl)<|aTP 0 E (by decide +kernel) E (zm E)<|by exact aTP 1 E (by decide +kernel) E (zv E E)<|by exact gx H4 fun t_1 ht_1 H5=>aT 2 E (by decide +kernel) E (zz E) (zH ht_1)<|by exact aTP 3 E (by decide +kernel) E (zv E E)<|by exact gx H5 fun t_2 ht_2 H6=>aT 4 E (by decide +kernel) E (zz E) (zH ht_2)<|by exact aTP 5 E (by decide +kernel) E (zv E E)<|by exact gx H6 fun t_3 ht_3 H7=>aT 6 E (by decide +kernel) E (zz E) (zH ht_3)<|by exact aTP 7 E (by decide +kernel) E (zv E E)<|by exact gx H7 fun t_4 ht_4 H8=>aT 8 E (by decide +kernel) E (zz E) (zH ht_4)<|by exact aTP 9 E (by decide +kernel) E (zv E E)<|by exact gx H8 fun t_5 ht_5 H9=>aT 10 E (by decide +kernel) E (zz E) (zH ht_5)<|by exact aTP 11 E (by decide +kernel) E (zv E E)<|by exact gx H9 fun t_6 ht_6 H10=>aT 12 E (by decide +kernel) E (zz E) (zH ht_6)<|by exact aTP 13 E (by decide +kernel) E (zv E E)<|by exact gx H10 fun t_7 ht_7 H11=>aT 14 E (by decide +kernel) E (zz E) (zH ht_7)<|by exact aTP 16 E (by decide +kernel) E (zv E E)<|by exact gx H11 fun t_8 ht_8 H12=>aT 17 E (by decide +kernel) E (zz E) (zH ht_8)<|by exact aTP 18 E (by decide +kernel) E (qq ⟨_,Tryz.underlying5⟩ E)<|by exact aTP 19 E (by decide +kernel) E (zv E E)<|by exact gx H12 fun t_9 ht_9 H13=>aT 20 E (by decide +kernel) E (zz E) (zH ht_9)<|by exact aTP 21 E (by decide +kernel) E (qq ⟨_,Tryz.underlying41⟩ E)<|by exact aTP 22 E (by decide +kernel) E (zv E E)<|by exact gx H13 fun t_10 ht_10 H14=>aT 23 E (by decide +kernel) E (zz E) (zH ht_10)<|by exact aTP 24 E (by decide +kernel) E (qq ⟨_,Tryz.underlying41⟩ E)<|by exact zB 15 (by decide +kernel) E<|by exact qC E E H14 fun t_11 Sx_2 H15=>by obtain⟨k,H16⟩:=H15;exact by obtain⟨k_1,H17⟩:=H16;exact by obtain⟨k_2,H18⟩:=H17;exact by obtain⟨k_3,H19⟩:=H18;exact by obtain⟨k_4,H20⟩:=H19;exact by obtain⟨k_5,H21⟩:=H20;exact by obtain⟨k_6,H22⟩:=H21;exact by obtain⟨k_7,H23⟩:=H22;exact by obtain⟨k_8,H24⟩:=H23;exact zr<|zN (zx (zH k) (zx (zH k_1) (zx (zH k_2) (zx (zH k_3) (zx (zH k_4) (zx (zH k_5) (zx (zH k_6) (zx (zH k_7) (zx (zH k_8) zy)))))))))<|zB 25 (by decide +kernel) E<|by exact zgb E E (by decide) E fun b_1=>zr<|zN (zx (zH k) (zx (zH k_1) (zx (zH k_2) zy)))<|zB 26 (by decide +kernel) E<|by exact vY (sx:=t) (vs:=[.int .u64 t_1,.int .u64 t_2,.int .u64 t_3,.int .u64 t_4,.int .u64 t_5,.int .u64 t_6,.int .u64 t_11,.int .u64 (IntKind.u64.wrap t_8),.int .u64 (IntKind.u64.wrap t_9),.int .u64 (IntKind.u64.wrap t_10)]) E E E (zgc 0 E E) E E (by decide) H24 fun t_12 Sx_3 H25=>by obtain⟨k_9,H26⟩:=H25;exact by obtain⟨k_10,H27⟩:=H26;exact by obtain⟨k_11,H28⟩:=H27;exact zr<|zN (zx (zH k_9) (zx (zH k_10) (zx (zH k_11) zy)))<|aTP 27 E (by decide +kernel) E (zS E)<|by exact zK (by decide +kernel)<|by exact zt<|zi<|zh Tryz.results134 (zd E ze) ⟨_,E,H28⟩
def zcu (S:Mem) (s:List Value) (Q:Int→Mem→Prop):Prop:=
 s.length=26 ∧
 jn (fun (n:Int) (Sx:Mem)=>
 Q n Sx) fun Jx=>
 zdJ S s fun t Sx_1=>
 lp (fun Xx (z:Int×Int) (Sx_2:Mem)=>
 match z with
 | (n_1,t_1)=>
 if t_1<(t.n:Int) then
 sl t fun b_1 o n_2 n_3=>
 0≤t_1∧t_1<((n_2:Nat):Int) ∧
 gI (Sx_2.cell b_1 (o+t_1.toNat*1)) .u64 fun t_2=>
 zdf Sx_2 n_1 t_2 fun t_3 Sx_3=>
 Xx (t_3,IntKind.i64.wrap (t_1+1)) Sx_3
 else
 Jx n_1 Sx_2) (0,0) Sx_1
theorem ziG {S:Mem} {s:List Value} {Q:Int→Mem→Prop} (H:zcu S s Q):zft S s Q:=by
 unfold zcu at H
 exact Tr.intro Tryz.func68 E Tryz.ntmps68 E fun w0=>an H fun hs H1=>csr<|qM E E E fun b=>gv E E<|nxr<|gv E E<|nx<|zn H1 (fun (J:Int→Mem→Prop) (z:Int) S=>J z S) (fun z=>⟨18,[(3,.int .u64 z)]⟩) (fun z=>[]) (fun n Sx H2=>csr<|mv E E<|gv E E<|nx<|zi<|zh Tryz.results68 (zd E ze) ⟨_,E,H2⟩) (fun Jx hJx H3=>csr<|by refine s_v E (zT E hs) (zE (k:=26) 0 E (zk hs)) ?_;exact qC E E H3 fun t Sx_1 H4=>s_p E (yk E)<|mv E E<|nx<|zw<|qB (fun z=>⟨18,[(3,.int .u64 z.1),(7,eL t),(8,.int .i64 (t.n:Int)),(9,.int .i64 z.2)]⟩) (fun z=>[]) (0,0) (idx:=[]) H4 E ⟨E,E,E,E,True.intro⟩ E<|by rintro Xx hXx ⟨n_1,t_1⟩ Sx_2 H5;exact csr<|iteK H5 (fun c H6=>s_p E (yT (zD E E) c)<|nx<|zC<|c_t E E<|qg<|zt<|zC<|zw<|csr<|by obtain⟨b_1,o,n_2,n_3,rfl,H7⟩:=H6;exact an2 H7 fun c_1 c_2 H8=>s_p E (qS E E c_1 c_2 E)<|gx H8 fun t_2 ht_2 H9=>s_v E (zz E) (zH ht_2)<|gv E E<|nx<|zu<|mv E E<|mv E E<|qC E E H9 fun t_3 Sx_3 H10=>gv E E<|zr<|zU<|zt<|zu<|s_p E (qh E E)<|mv E E<|zr<|hXx (t_3,IntKind.i64.wrap (t_1+1)) _ _ _ _ [] H10 E ⟨E,E,E,E,True.intro⟩ E) fun c H6=>s_p E (yF (zD E E) c)<|nx<|zC<|c_f E E<|qt<|zl<|zl<|zI<|hJx n_1 _ _ _ _ [] H6 E ⟨E,True.intro⟩ E)
def zep (S:Mem) (p:Sl) (Q:Int→Mem→Prop):Prop:=
 jn (fun (w:Int) (Sx:Mem)=>
 Q w Sx) fun Jx=>
 lp (fun Xx (z:Int×Int) (Sx_1:Mem)=>
 match z with
 | (w_1,t)=>
 if t<(p.n:Int) then
 sl p fun b o n n_1=>
 0≤t∧t<((n:Nat):Int) ∧
 gI (Sx_1.cell b (o+t.toNat*1)) .u8 fun t_1=>
 if t<8 then
 0≤IntKind.i64.wrap (8*t) ∧
 Xx (ior .u64 w_1 (ishl .u64 (IntKind.u64.wrap t_1) (IntKind.i64.wrap (8*t))),IntKind.i64.wrap (t+1)) Sx_1
 else
 Xx (w_1,IntKind.i64.wrap (t+1)) Sx_1
 else
 Jx w_1 Sx_1) (0,0) S
theorem zjU {S:Mem} {p:Sl} {Q:Int→Mem→Prop} (H:zep S p Q):zdm S p Q:=by
 unfold zep at H
 exact Tr.intro Tryz.func164 E Tryz.ntmps164 E fun w0=>csr<|gv E E<|nxr<|gv E E<|nx<|zn H (fun (J:Int→Mem→Prop) (z:Int) S=>J z S) (fun z=>⟨24,[(3,.int .u64 z)]⟩) (fun z=>[]) (fun w Sx H1=>csr<|mv E E<|gv E E<|nx<|zi<|zh Tryz.results164 (zd E ze) ⟨_,E,H1⟩) (fun Jx hJx H2=>csr<|mv E E<|s_p E (yk E)<|mv E E<|nx<|zw<|qB (fun z=>⟨24,[(3,.int .u64 z.1),(6,eL p),(7,.int .i64 (p.n:Int)),(8,.int .i64 z.2)]⟩) (fun z=>[]) (0,0) (idx:=[]) H2 E ⟨E,E,E,E,True.intro⟩ E<|by rintro Xx hXx ⟨w_1,t⟩ Sx_1 H3;exact csr<|iteK H3 (fun c H4=>s_p E (yT (zD E E) c)<|nx<|zC<|c_t E E<|qg<|zt<|zC<|zw<|csr<|mv E E<|by obtain⟨b,o,n,n_1,rfl,H5⟩:=H4;exact an2 H5 fun c_1 c_2 H6=>s_p E (qS E E c_1 c_2 E)<|gx H6 fun t_1 ht_1 H7=>s_v E (zz E) (zH ht_1)<|gv E E<|gv E E<|nxr<|mv E E<|iteK H7 (fun c_3 H8=>s_p E (yT (zD E E) c_3)<|nx<|ctr E E<|mv E E<|mv E E<|s_p E (qq ⟨_,Tryz.underlying5⟩ E)<|mv E E<|s_p E (ji E E)<|an H8 fun c_4 H9=>s_p E (zdk E E c_4)<|s_p E (zms E E)<|gv E E<|zr<|zU<|zt<|zu<|s_p E (qh E E)<|mv E E<|zr<|hXx (ior .u64 w_1 (ishl .u64 (IntKind.u64.wrap t_1) (IntKind.i64.wrap (8*t))),IntKind.i64.wrap (t+1)) _ _ _ _ [] H9 E ⟨E,E,E,E,True.intro⟩ E) fun c_3 H8=>s_p E (yF (zD E E) c_3)<|nx<|cfs E E<|zU<|zt<|zu<|s_p E (qh E E)<|mv E E<|zr<|hXx (w_1,IntKind.i64.wrap (t+1)) _ _ _ _ [] H8 E ⟨E,E,E,E,True.intro⟩ E) fun c H4=>s_p E (yF (zD E E) c)<|nx<|zC<|c_f E E<|qt<|zl<|zl<|zI<|hJx w_1 _ _ _ _ [] H4 E ⟨E,True.intro⟩ E)
def fi (S:Mem) (w:Int) (Q:Sl→Mem→Prop):Prop:=
 al S 5 ([.int .u8 0,.int .u8 0,.int .u8 0,.int .u8 0,.int .u8 0,.int .u8 0,.int .u8 0,.int .u8 0]) fun b Sx=>
 jn (fun (Sx_1:Mem)=>
 Q (⟨some (b,0),8,8⟩) Sx_1) fun Jx=>
 lp (fun Xx (t:Int) (Sx_2:Mem)=>
 if t<8 then
 0≤IntKind.i64.wrap (8*t) ∧
 0≤t∧t<8 ∧
 pt Sx_2 b (0+t.toNat*1) 1 ([.int .u8 (IntKind.u8.wrap (ishr .u64 w (IntKind.i64.wrap (8*t))))]) fun Sx_3=>
 Xx (IntKind.i64.wrap (t+1)) Sx_3
 else
 Jx Sx_2) 0 Sx
theorem zgh {S:Mem} {w:Int} {Q:Sl→Mem→Prop} (H:fi S w Q):fH S w Q:=by
 unfold fi at H
 exact Tr.intro Tryz.func166 E Tryz.ntmps166 E fun w0=>csr<|gv E E<|nxr<|zmX E E E (by decide) (by decide) (by decide) (by decide) fun b=>ku 0 E fun hb=>have H1:=H b hb;gv E E<|nx<|zn H1 (fun (J:Mem→Prop) (z:Unit) S=>J S) (fun z=>⟨21,[(3,.slice (some ⟨b,0,none⟩) 8 8)]⟩) (fun z=>[]) (fun _ Sx_1 H2=>csr<|mv E E<|gv E E<|nx<|zi<|zh Tryz.results166 (zd E ze) ⟨_,E,H2⟩) (fun Jx hJx H3=>csr<|mv E E<|s_p E (yk E)<|mv E E<|nx<|zw<|qB (fun z=>⟨21,[(0,.int .u64 w),(3,.slice (some ⟨b,0,none⟩) 8 8),(7,.int .i64 8),(8,.int .i64 z)]⟩) (fun z=>[]) 0 (idx:=[]) H3 E ⟨E,E,E,E,True.intro⟩ E<|fun Xx hXx t Sx_2 H4=>csr<|iteK H4 (fun c H5=>s_p E (yT (zD E E) c)<|nx<|zC<|c_t E E<|qg<|zt<|zC<|zw<|csr<|mv E E<|gv E E<|nx<|zu<|mv E E<|mv E E<|mv E E<|mv E E<|s_p E (ji E E)<|an H5 fun c_1 H6=>s_p E (zap E E c_1)<|s_p E (qq ⟨_,Tryz.underlying39⟩ E)<|an2 H6 fun c_2 c_3 H7=>s_p E (qS E E c_2 c_3 E)<|by exact an H7 fun c_4 H8=>qo E E E E E c_4 E<|zr<|zU<|zt<|zu<|s_p E (qh E E)<|mv E E<|zr<|hXx (IntKind.i64.wrap (t+1)) _ _ _ _ [] H8 E ⟨E,E,E,E,True.intro⟩ E) fun c H5=>s_p E (yF (zD E E) c)<|nx<|zC<|c_f E E<|qt<|zl<|zl<|zI<|hJx () _ _ _ _ [] H5 E ⟨E,True.intro⟩ E)
end Go.Proofs.YtabdpmnhjlmnlaaGreatDoor
end
section
namespace Go.Pt
open Go Go.RowKit
abbrev Rho:=Nat→Option Nat
def Rho.upd (ρ:Rho) (b r:Nat):Rho:=fun x=>if x=b then some r else ρ x
theorem qU {ρ:Rho} {b r:Nat}:(ρ.upd b r) b=some r:=by simp[Rho.upd]
theorem yn {ρ:Rho} {b r c:Nat} (h:c≠b):(ρ.upd b r) c=ρ c:=by simp[Rho.upd,h]
structure Mv (S:Mem) (ρ:Rho) (S':Mem) (ρ':Rho) (R:Nat→Prop):Prop where
 ext:∀ b r,ρ b=some r→ρ' b=some r
 old:∀ b r,ρ' b=some r→S b≠none→ρ b=some r
 kp:∀ b,S b≠none→(∀ r,ρ b=some r→¬R r)→S' b=S b
 al:∀ b,S b≠none→S' b≠none
 rg:∀ b r,ρ' b=some r→S' b≠none
variable {S S' S'':Mem} {ρ ρ' ρ'':Rho} {R R':Nat→Prop}
theorem Mv.refl (h:∀ b r,ρ b=some r→S b≠none):Mv S ρ S ρ R:=⟨fun _ _ h=>h,fun _ _ h _=>h,fun _ _ _=>rfl,fun _ h=>h,h⟩
theorem Mv.trans (h:Mv S ρ S' ρ' R) (k:Mv S' ρ' S'' ρ'' R):Mv S ρ S'' ρ'' R:=
 ⟨fun b r e=>k.ext b r (h.ext b r e),fun b r e hb=>h.old b r (k.old b r e (h.al b hb)) hb,fun b hb hr=>by
  have e:=h.kp b hb hr
  rw[k.kp b (by rw[e];exact hb) fun r e'=>hr r (h.old b r e' hb),e],fun b hb=>k.al b (h.al b hb),k.rg⟩
theorem Mv.mono (h:Mv S ρ S' ρ' R) (hR:∀ r,R r→R' r):Mv S ρ S' ρ' R':=⟨h.ext,h.old,fun b hb hr=>h.kp b hb fun r e hr'=>hr r e (hR r hr'),h.al,h.rg⟩
theorem Mv.keeps (h:∀ b r,ρ b=some r→S b≠none) (hk:Keeps S S' []):Mv S ρ S' ρ R:=
 ⟨fun _ _ h=>h,fun _ _ h _=>h,fun b hb _=>hk b hb (by simp),fun b hb=>by rw[hk b hb (by simp)];exact hb,fun b r e=>by rw[hk b (h b r e) (by simp)];exact h b r e⟩
theorem Mv.claim (h:∀ b r,ρ b=some r→S b≠none) (hk:Keeps S S' []) {c r:Nat} (hc:S c=none) (hc':S' c≠none):Mv S ρ S' (ρ.upd c r) R:=by
 have k:=Mv.keeps (R:=R) h hk
 have hn:∀ b r',ρ b=some r'→b≠c:=fun b r' e e2=>by rw[e2] at e;exact h c r' e hc
 refine⟨fun b r' e=>by rw[yn (hn b r' e)];exact e,fun b r' e hb=>?_,k.kp,k.al,fun b r' e=>?_⟩
 ·rw[yn (fun e2=>by rw[e2] at hb;exact hb hc)] at e;exact e
 ·by_cases hbc:b=c
  ·rw[hbc];exact hc'
  ·rw[yn hbc] at e;exact k.rg b r' e
theorem Mv.put (h:Mv S ρ S' ρ' R) {b r:Nat} (hb:ρ' b=some r) (hr:R r) (k:Blk):Mv S ρ (S'.set b k) ρ' R:=
 ⟨h.ext,h.old,fun x hx hxr=>by
  by_cases e:x=b
  ·subst e;exact absurd hr (hxr r (h.old x r hb hx))
  ·rw[qm e];exact h.kp x hx hxr,fun x hx=>by
  by_cases e:x=b
  ·rw[e,zO];simp
  ·rw[qm e];exact h.al x hx,fun x r' e'=>by
  by_cases e:x=b
  ·rw[e,zO];simp
  ·rw[qm e];exact h.rg x r' e'⟩
theorem Mv.new (h:Mv S ρ S' ρ' R) {b:Nat} (hb:S' b=none) (k:Blk) (r:Nat):Mv S ρ (S'.set b k) (ρ'.upd b r) R:=by
 have h2:Mv S' ρ' (S'.set b k) (ρ'.upd b r) R:=Mv.claim h.rg (Keeps.refl.fresh hb) hb (by simp)
 exact h.trans h2
theorem Mv.then (h:Mv S ρ S' ρ' R) (hk:Keeps S' S'' []):Mv S ρ S'' ρ' R:=h.trans (Mv.keeps h.rg hk)
theorem Mv.keepsW {W:List Nat} (h:∀ b r,ρ b=some r→S b≠none) (hk:Keeps S S' W) (hW:∀ w∈W,S' w≠none∧∃ r,ρ w=some r∧R r):Mv S ρ S' ρ R:=
 ⟨fun _ _ h=>h,fun _ _ h _=>h,fun b hb hr=>by
  by_cases hw:b∈W
  ·obtain⟨_,r,e,h2⟩:=hW b hw;exact absurd h2 (hr r e)
  ·exact hk b hb hw,fun b hb=>by
  by_cases hw:b∈W
  ·exact (hW b hw).1
  ·rw[hk b hb hw];exact hb,fun b r e=>by
  by_cases hw:b∈W
  ·exact (hW b hw).1
  ·rw[hk b (h b r e) hw];exact h b r e⟩
structure Bl (S:Mem) (ρ:Rho) (r b:Nat) (k:Blk):Prop where
 at_:S b=some k
 rol:ρ b=some r
theorem Bl.keep {r b:Nat} {k:Blk} (h:Bl S ρ r b k) (m:Mv S ρ S' ρ' R) (hr:¬R r):Bl S' ρ' r b k:=
 ⟨by rw[m.kp b (by rw[h.at_];simp) fun r' e=>by rw[h.rol] at e;cases e;exact hr];exact h.at_,m.ext b r h.rol⟩
theorem Bl.ne {r r' b b':Nat} {k k':Blk} (h:Bl S ρ r b k) (h':Bl S ρ r' b' k') (hr:r≠r'):b≠b':=fun e=>by
 have:=h.rol;rw[e,h'.rol] at this;cases this;exact hr rfl
structure Rw (S:Mem) (ρ:Rho) (r size:Nat) (s:Sl) (l:List Value):Prop where
 row:Row S size s l
 rol:∀ b o,s.p=some (b,o)→ρ b=some r
theorem Rw.nil {r size:Nat}:Rw S ρ r size ⟨none,0,0⟩ []:=⟨Row.nil,fun b o h=>by cases h⟩
theorem Rw.keep {r size:Nat} {s:Sl} {l:List Value} (h:Rw S ρ r size s l) (m:Mv S ρ S' ρ' R) (hr:¬R r):Rw S' ρ' r size s l:=
 ⟨h.row.keep fun b hb=>m.kp b (by
  rcases h.row.lie with ⟨h1,_⟩ | ⟨b',k,h1,h2,_⟩
  ·rw[h1] at hb;cases hb
  ·rw[h1] at hb;cases hb;rw[h2];simp) fun r' e=>by rw[h.rol b 0 hb] at e;cases e;exact hr,fun b o hb=>m.ext b r (h.rol b o hb)⟩
theorem Rw.ne {r r' size b:Nat} {s:Sl} {l:List Value} {k:Blk} (h:Rw S ρ r size s l) (h':Bl S ρ r' b k) (hr:r≠r'):∀ o,s.p≠some (b,o):=fun o e=>by
 have:=h.rol b o e;rw[h'.rol] at this;cases this;exact hr rfl
theorem zjC {S0:Mem} {ρ0:Rho} {r e size bytes m:Nat} {z l vs:List Value} {s:Sl} {K:Sl→Mem→Prop} (hm0:Mv S0 ρ0 S ρ R) (hr:R r) (h:Rw S ρ r size s l) (hv:vs.length=m*size) (hm:0<m) (hz:z.length=size) (lim:(2*(s.n+m)+1024)*bytes≤281474976710656)
  (hK:∀ (s':Sl) (S':Mem) (ρ':Rho),Mv S0 ρ0 S' ρ' R→Mv S ρ S' ρ' (· = r)→Rw S' ρ' r size s' (l++vs)→s'.n=s.n+m→K s' S'):ap S e size bytes z s m vs K:=
 gr h.row hv hm hz lim fun s' S' b k hn hp hor hS' hrow=>by
  subst hS'
  have key:∃ ρ',Mv S ρ (S.set b k) ρ' (· = r)∧ρ' b=some r:=by
   rcases hor with h1 | h1
   ·exact⟨ρ,(Mv.refl (R:=(· = r)) hm0.rg).put (h.rol b 0 h1) rfl k,h.rol b 0 h1⟩
   ·exact⟨_,(Mv.refl hm0.rg).new h1 k r,qU⟩
  obtain⟨ρ',m1,hb⟩:=key
  exact hK s' _ ρ' (hm0.trans (m1.mono fun x hx=>by rw[hx];exact hr)) m1 ⟨hrow,fun b' o hb'=>by rw[hp] at hb';cases hb';exact hb⟩ hn
end Go.Pt
end
section
namespace Go.Pt
open Go Go.RowKit
structure At (S:Mem) (b o:Nat) (l:List Value):Prop where
 ex:∃ k,S b=some k∧k.fr=(0,0)∧lpart k.cs o l.length=some l
theorem zoa {cs l vs:List Value} {o i:Nat} (h:lpart cs o l.length=some l) (hi:i+vs.length≤l.length):spl cs (o+i) vs=spl cs o (spl l i vs):=by
 obtain⟨h1,_,_⟩:=qG h
 have hl:=qx hi
 apply List.ext_getElem?
 intro j
 rw[jk (by omega),jk (by omega),hl]
 by_cases hj:o≤j∧j<o+l.length
 ·rw[if_pos hj,jk hi]
  by_cases h2:i≤j-o∧j-o<i+vs.length
  ·rw[if_pos h2,if_pos (by omega)];congr 1;omega
  ·rw[if_neg h2,if_neg (by omega),vl h (j-o) (by omega)];congr 1;omega
 ·rw[if_neg hj,if_neg (by omega)]
theorem zlv {cs l l':List Value} {o:Nat} (h:o+l.length≤cs.length) (hl:l'.length=l.length):spl (spl cs o l) o l'=spl cs o l':=by
 apply List.ext_getElem?
 intro j
 rw[jk (by rw[qx h];omega),jk h,jk (by omega)]
 by_cases hj:o≤j∧j<o+l'.length
 ·rw[if_pos hj,if_pos hj]
 ·rw[if_neg hj,if_neg hj,if_neg (by omega)]
theorem zlu {cs l:List Value} {o:Nat} (h:lpart cs o l.length=some l):spl cs o l=cs:=by
 obtain⟨h1,_,_⟩:=qG h
 apply List.ext_getElem?
 intro j
 rw[jk h1]
 by_cases hj:o≤j∧j<o+l.length
 ·rw[if_pos hj,vl h (j-o) (by omega)];congr 1;omega
 ·rw[if_neg hj]
theorem zkH {cs l:List Value} {o:Nat} (h:o+l.length≤cs.length):lpart (spl cs o l) o l.length=some l:=by
 rw[qJ (by rw[qx h];exact h)]
 congr 1
 apply List.ext_getElem?
 intro j
 rw[List.getElem?_take,List.getElem?_drop,jk h]
 by_cases hj:j<l.length
 ·rw[if_pos hj,if_pos (by omega)];congr 1;omega
 ·rw[if_neg hj,List.getElem?_eq_none (by omega)]
variable {S:Mem} {b o:Nat} {l:List Value}
theorem At.self (h:At S b o l):S.put b o l=S:=by
 obtain⟨k,h1,_,h3⟩:=h.ex
 rw[vU h1,zlu h3];exact zdh h1
theorem At.put (h:At S b o l) {l':List Value} (hl:l'.length=l.length):At (S.put b o l') b o l':=by
 obtain⟨k,h1,h2,h3⟩:=h.ex
 have h4:=(qG h3).1
 exact⟨⟨k.ty,spl k.cs o l',k.fr⟩,by rw[vU h1,zO],h2,zkH (by omega)⟩
theorem At.put2 (h:At S b o l) {l1 l2:List Value} (h1:l1.length=l.length) (h2:l2.length=l.length):(S.put b o l1).put b o l2=S.put b o l2:=by
 obtain⟨k,e1,_,e3⟩:=h.ex
 have h4:=(qG e3).1
 rw[vU e1,vU e1,vU (zO),zhs]
 simp only
 rw[zlv (by omega) (by omega)]
theorem At.cell (h:At S b o l) {i:Nat} (hi:i<l.length):S.cell b (o+i)=nthL l i:=by
 obtain⟨k,h1,_,h3⟩:=h.ex
 rw[qA h1,qb,qb,vl h3 i hi]
theorem At.part (h:At S b o l) {i n:Nat} (hi:i+n≤l.length):S.part b (o+i) n=lpart l i n:=by
 obtain⟨k,h1,_,h3⟩:=h.ex
 have h4:=qG h3
 rw[yu h1,qJ (by omega),qJ hi]
 congr 1
 apply List.ext_getElem?
 intro j
 rw[List.getElem?_take,List.getElem?_take,List.getElem?_drop,List.getElem?_drop]
 by_cases hj:j<n
 ·rw[if_pos hj,if_pos hj,vl h3 (i+j) (by omega)];congr 1;omega
 ·rw[if_neg hj,if_neg hj]
theorem At.all (h:At S b o l):S.part b o l.length=some l:=by
 obtain⟨k,h1,_,h3⟩:=h.ex
 rw[yu h1];exact h3
theorem At.pt (h:At S b o l) {i n:Nat} {vs:List Value} (hn:n=vs.length) (hi:i+vs.length≤l.length) {K:Mem→Prop} (hK:K (S.put b o (spl l i vs))):Go.Pt.pt S b (o+i) n vs K:=by
 obtain⟨k,h1,h2,h3⟩:=h.ex
 have h4:=qG h3
 refine⟨⟨k,h1,h2,by omega⟩,?_⟩
 have:S.put b (o+i) vs=S.put b o (spl l i vs):=by rw[vU h1,vU h1,zoa h3 hi]
 rw[this];exact hK
theorem At.keep {S':Mem} (h:At S b o l) (hk:S' b=S b):At S' b o l:=by
 obtain⟨k,h1,h2⟩:=h.ex
 exact⟨k,by rw[hk];exact h1,h2⟩
theorem At.some (h:At S b o l):S b≠none:=by
 obtain⟨k,h1,_⟩:=h.ex;rw[h1];simp
theorem At.mv {ρ:Rho} {R:Nat→Prop} {S0:Mem} {ρ0:Rho} (m:Mv S0 ρ0 S ρ R) (h:At S b o l) {r:Nat} (hb:ρ b=Option.some r) (hr:R r) (l':List Value):Mv S0 ρ0 (S.put b o l') ρ R:=by
 obtain⟨k,h1,_⟩:=h.ex
 rw[vU h1];exact m.put hb hr _
theorem Rw.at_ {ρ:Rho} {r w:Nat} {s:Sl} {A:List (List Value)} (h:Rw S ρ r w s A.flatten) (hw:∀ v∈A,v.length=w) {i:Nat} (hi:i<A.length) (hw0:0<w):∃ c,s=⟨Option.some (c,0),A.length,s.c⟩∧At S c (i*w) A[i]:=by
 have hfl:A.flatten.length=A.length*w:=by
  clear h hi
  induction A with
  | nil=>simp
  | cons x A ih=>
   have:=ih fun v hv=>hw v (by simp[hv])
   rw[List.flatten_cons,List.length_append,this,hw x (by simp),List.length_cons,Nat.add_mul];omega
 have hn:s.n=A.length:=by
  have:=h.row.len
  rw[hfl] at this
  exact (Nat.eq_of_mul_eq_mul_right hw0 this).symm
 have hcap:=h.row.cap
 rcases h.row.lie with ⟨_,h2⟩ | ⟨c,k,h1,h2,h3,h4,h5⟩
 ·omega
 refine⟨c,?_,⟨k,h2,h3,?_⟩⟩
 ·obtain⟨p,n,cc⟩:=s;simp only at h1 hn;subst h1;subst hn;rfl
 have hAi:A[i].length=w:=hw _ (List.getElem_mem hi)
 have hi1:(i+1)*w≤A.length*w:=Nat.mul_le_mul_right _ hi
 rw[Nat.add_mul,Nat.one_mul] at hi1
 have hcw:A.length*w≤s.c*w:=Nat.mul_le_mul_right _ (by omega)
 rw[qJ (by omega)]
 congr 1
 have key:∀ (A:List (List Value)) (i:Nat) (hi:i<A.length),(∀ v∈A,v.length=w)→(A.flatten.drop (i*w)).take w=A[i]:=by
  intro A
  induction A with
  | nil=>intro i hi;simp at hi
  | cons x A ih=>
   intro i hi hw
   have hx:x.length=w:=hw x (by simp)
   cases i with
   | zero=>rw[Nat.zero_mul,List.drop_zero,List.flatten_cons,List.take_left' hx];rfl
   | succ i=>
    rw[List.flatten_cons,show (i+1)*w=x.length+i*w by rw[Nat.add_mul,hx];omega,←List.drop_drop,List.drop_left' rfl]
    exact ih i (by simpa using hi) fun v hv=>hw v (by simp[hv])
 have h6:=key A i hi hw
 rw[hAi,←h6,←h5]
 apply List.ext_getElem?
 intro j
 simp only[List.getElem?_take,List.getElem?_drop]
 by_cases hj:j<w
 ·rw[if_pos hj,if_pos hj,if_pos (by rw[hn];omega)]
 ·rw[if_neg hj,if_neg hj]
end Go.Pt
end
section
namespace Go.Cr
open Go Go.Pt
structure Seat where
 R:List Int
 pc:Int
 base:Int
 vec:Int
 epc:Int
 cause:Int
 addr:Int
 opn:Bool
 st:Int
 pend:Int
 mask:Int
def Seat.tail (s:Seat):List Value:=[.int .u64 s.pc,.int .u64 s.base,.int .u64 s.vec,.int .u64 s.epc,.int .u64 s.cause,.int .u64 s.addr,.bool s.opn,.int .u8 s.st,.int .u32 s.pend,.int .u32 s.mask]
def Seat.L (s:Seat):List Value:=s.R.map (Value.int .u64)++s.tail
abbrev W64 (x:Int):Prop:=0≤x∧x≤18446744073709551615
structure Seat.Ok (s:Seat):Prop where
 len:s.R.length=16
 r:∀ x∈s.R,W64 x
 pc:W64 s.pc
 base:W64 s.base
 vec:W64 s.vec
 epc:W64 s.epc
 cause:W64 s.cause
 addr:W64 s.addr
 st:0≤s.st∧s.st≤2
 pend:0≤s.pend∧s.pend≤255
 mask:0≤s.mask∧s.mask≤255
def seat0:Seat:=⟨List.replicate 16 0,0,0,0,0,0,0,false,0,0,0⟩
theorem zie:seat0.Ok:=⟨rfl,fun x hx=>by rw[List.eq_of_mem_replicate hx];decide,by decide,by decide,by decide,by decide,by decide,by decide,by decide,by decide,by decide⟩
theorem zim {A B:List Value} {n j:Nat} (h:A.length=n):nthL (A++B) (n+j)=nthL B j:=by
 rw[qb,qb,List.getElem?_append_right (by omega)]
 congr 1;omega
theorem qz:∀ {A B v:List Value} {n j:Nat},A.length=n→spl (A++B) (n+j) v=A++spl B j v
 | [],B,v,n,j,h=>by
  have:n=0:=by simpa using h.symm
  subst this;simp
 | a :: A,B,v,n,j,h=>by
  obtain⟨m,rfl⟩:∃ m,n=m+1:=⟨A.length,by simpa using h.symm⟩
  rw[show m+1+j=(m+j)+1 by omega]
  simp only[List.cons_append,spl]
  rw[qz (by simpa using h)]
theorem zgr:∀ {A B:List Value} {j:Nat} {v:Value},j<A.length→spl (A++B) j [v]=A.set j v++B
 | [],B,j,v,h=>by simp at h
 | a :: A,B,0,v,h=>by cases B <;> simp[spl] <;> cases A <;> simp[spl]
 | a :: A,B,j+1,v,h=>by
  simp only[List.cons_append,spl,List.set_cons_succ]
  rw[zgr (by simpa using h)]
variable {s:Seat}
theorem Seat.L_len (h:s.R.length=16):s.L.length=26:=by simp[Seat.L,Seat.tail,h]
theorem Seat.L_r (h:s.R.length=16) {i:Nat} (hi:i<16):nthL s.L i=some (.int .u64 (s.R.getD i 0)):=by
 unfold Seat.L
 rw[qb,List.getElem?_append_left (by simpa [h] using hi),List.getElem?_map,List.getD_eq_getElem?_getD,List.getElem?_eq_getElem (by omega)];rfl
theorem Seat.L_t (h:s.R.length=16) (j:Nat):nthL s.L (16+j)=nthL s.tail j:=zim (by simpa using h)
theorem Seat.set_t (h:s.R.length=16) (j:Nat) (v:List Value):spl s.L (16+j) v=s.R.map (Value.int .u64)++spl s.tail j v:=qz (by simpa using h)
theorem Seat.set_r (h:s.R.length=16) {i:Nat} (hi:i<16) (x:Int):spl s.L i [.int .u64 x]=({ s with R:=s.R.set i x }:Seat).L:=by
 unfold Seat.L
 rw[zgr (by simpa [h] using hi)]
 show _=(s.R.set i x).map _++_
 rw[List.map_set];rfl
section
variable (h:s.R.length=16)
include h
theorem Seat.g16:nthL s.L 16=some (.int .u64 s.pc):=Seat.L_t h 0
theorem Seat.g17:nthL s.L 17=some (.int .u64 s.base):=Seat.L_t h 1
theorem Seat.g18:nthL s.L 18=some (.int .u64 s.vec):=Seat.L_t h 2
theorem Seat.g19:nthL s.L 19=some (.int .u64 s.epc):=Seat.L_t h 3
theorem Seat.g20:nthL s.L 20=some (.int .u64 s.cause):=Seat.L_t h 4
theorem Seat.g21:nthL s.L 21=some (.int .u64 s.addr):=Seat.L_t h 5
theorem Seat.g22:nthL s.L 22=some (.bool s.opn):=Seat.L_t h 6
theorem Seat.g23:nthL s.L 23=some (.int .u8 s.st):=Seat.L_t h 7
theorem Seat.g24:nthL s.L 24=some (.int .u32 s.pend):=Seat.L_t h 8
theorem Seat.g25:nthL s.L 25=some (.int .u32 s.mask):=Seat.L_t h 9
theorem Seat.s16 (x:Int):spl s.L 16 [.int .u64 x]=({ s with pc:=x }:Seat).L:=Seat.set_t h 0 _
theorem Seat.s17 (x:Int):spl s.L 17 [.int .u64 x]=({ s with base:=x }:Seat).L:=Seat.set_t h 1 _
theorem Seat.s18 (x:Int):spl s.L 18 [.int .u64 x]=({ s with vec:=x }:Seat).L:=Seat.set_t h 2 _
theorem Seat.s19 (x:Int):spl s.L 19 [.int .u64 x]=({ s with epc:=x }:Seat).L:=Seat.set_t h 3 _
theorem Seat.s20 (x:Int):spl s.L 20 [.int .u64 x]=({ s with cause:=x }:Seat).L:=Seat.set_t h 4 _
theorem Seat.s21 (x:Int):spl s.L 21 [.int .u64 x]=({ s with addr:=x }:Seat).L:=Seat.set_t h 5 _
theorem Seat.s22 (x:Bool):spl s.L 22 [.bool x]=({ s with opn:=x }:Seat).L:=Seat.set_t h 6 _
theorem Seat.s23 (x:Int):spl s.L 23 [.int .u8 x]=({ s with st:=x }:Seat).L:=Seat.set_t h 7 _
theorem Seat.s24 (x:Int):spl s.L 24 [.int .u32 x]=({ s with pend:=x }:Seat).L:=Seat.set_t h 8 _
theorem Seat.s25 (x:Int):spl s.L 25 [.int .u32 x]=({ s with mask:=x }:Seat).L:=Seat.set_t h 9 _
end
end Go.Cr
end
section
namespace Go.Cr
open Go Go.Pt Go.Lib
theorem qc {β:Type} {J:β} {B:β→Prop} (R:β→Prop) (hJ:R J) (hB:∀ j,R j→B j):jn J B:=hB J hJ
structure Pl (S:Mem) (b o:Nat):Prop where
 ex:∃ l,At S b o l∧l.length=26
theorem Pl.of {S:Mem} {b o:Nat} {s:Seat} (h:At S b o s.L) (hl:s.R.length=16):Pl S b o:=⟨_,h,Seat.L_len hl⟩
section
variable {S:Mem} {b o:Nat} {s:Seat}
theorem Pl.at_ (h:Pl S b o) (hl:s.R.length=16):At (S.put b o s.L) b o s.L:=by
 obtain⟨l,h1,h2⟩:=h.ex
 exact h1.put (by rw[Seat.L_len hl,h2])
theorem Pl.cell (h:Pl S b o) (hl:s.R.length=16) {i:Nat} (hi:i<26):(S.put b o s.L).cell b (o+i)=nthL s.L i:=(h.at_ hl).cell (by rw[Seat.L_len hl];exact hi)
theorem Pl.all (h:Pl S b o) (hl:s.R.length=16):(S.put b o s.L).part b o 26=some s.L:=by
 have:=(h.at_ hl).all
 rwa [Seat.L_len hl] at this
theorem Pl.pt (h:Pl S b o) (hl:s.R.length=16) {i:Nat} {v:Value} {s':Seat} (hi:i<26) (he:spl s.L i [v]=s'.L) {K:Mem→Prop} (hK:K (S.put b o s'.L)):Go.Pt.pt (S.put b o s.L) b (o+i) 1 [v] K:=by
 obtain⟨l,h1,h2⟩:=h.ex
 have hll:=Seat.L_len hl
 refine (h.at_ hl).pt (i:=i) (vs:=[v]) rfl (by rw[hll];show i+1≤26;omega) ?_
 have hl':s'.L.length=26:=by rw[←he,qx (by rw[hll];show i+1≤26;omega),hll]
 rw[he,h1.put2 (by omega) (by omega)]
 exact hK
end
def Seat.trap (s:Seat) (cause addr:Int):Seat:=if s.vec=0 then { s with st:=2 } else { s with epc:=s.pc,cause:=cause,addr:=addr,pc:=s.vec,opn:=false }
theorem Seat.trap_ok {s:Seat} (h:s.Ok) {c a:Int} (hc:W64 c) (ha:W64 a):(s.trap c a).Ok:=by
 unfold Seat.trap
 split
 ·exact { h with st:=⟨by show (0:Int)≤2;decide,by show (2:Int)≤2;decide⟩ }
 ·exact { h with epc:=h.pc,cause:=hc,addr:=ha,pc:=h.vec }
def Seat.back (s:Seat):Seat:={ s with pc:=s.epc,opn:=true }
theorem Seat.back_ok {s:Seat} (h:s.Ok):s.back.Ok:={ h with pc:=h.epc }
def Seat.may (s:Seat):Int:=iand .u32 s.pend s.mask
theorem iand32 {a b:Int} (ha:0≤a∧a≤255) (hb:0≤b∧b≤255):∃ m:Nat,iand .u32 a b=m∧m=a.toNat &&& b.toNat∧m≤255:=by
 obtain⟨x,rfl⟩:∃ m:Nat,a=m:=⟨a.toNat,by omega⟩
 obtain⟨y,rfl⟩:∃ m:Nat,b=m:=⟨b.toNat,by omega⟩
 refine⟨x &&& y,?_,by simp,?_⟩
 ·unfold iand
  show IntKind.u32.wrap ((BitVec.ofInt 32 (x:Int) &&& BitVec.ofInt 32 (y:Int)).toNat:Int)=_
  have e1:(BitVec.ofInt 32 (x:Int))=BitVec.ofNat 32 x:=BitVec.ofInt_natCast 32 x
  have e2:(BitVec.ofInt 32 (y:Int))=BitVec.ofNat 32 y:=BitVec.ofInt_natCast 32 y
  rw[e1,e2,BitVec.toNat_and,BitVec.toNat_ofNat,BitVec.toNat_ofNat,Nat.mod_eq_of_lt (by omega),Nat.mod_eq_of_lt (by omega)]
  have:x &&& y≤x:=Nat.and_le_left
  exact wu32 (by omega) (by omega)
 ·have:x &&& y≤x:=Nat.and_le_left
  omega
theorem Seat.may_nat {s:Seat} (h:s.Ok):∃ m:Nat,s.may=m∧m=s.pend.toNat &&& s.mask.toNat∧m≤255:=iand32 h.pend h.mask
def Seat.wake (s:Seat):Seat:=if s.st=1∧s.may≠0 then { s with st:=0 } else s
theorem Seat.wake_ok {s:Seat} (h:s.Ok):s.wake.Ok:=by
 unfold Seat.wake
 split
 ·exact { h with st:=⟨by show (0:Int)≤0;decide,by show (0:Int)≤2;decide⟩ }
 ·exact h
def low (m:Nat):Nat:=((List.range 8).find? fun i=>m/2 ^ i%2 == 1).getD 8
def nextL (s:Seat):Option Nat:=if s.opn=true∧s.may≠0 then some (low s.may.toNat) else none
theorem zmt:∀ m:Fin 256,m.1≠0→0≤ishr .u64 (IntKind.u64.wrap ((iand .u64 (m.1:Int) (IntKind.u64.wrap (0-(m.1:Int))))*285870213051353865)) 58 ∧
  ishr .u64 (IntKind.u64.wrap ((iand .u64 (m.1:Int) (IntKind.u64.wrap (0-(m.1:Int))))*285870213051353865)) 58<64 ∧
  deBruijn64tab[(ishr .u64 (IntKind.u64.wrap ((iand .u64 (m.1:Int) (IntKind.u64.wrap (0-(m.1:Int))))*285870213051353865)) 58).toNat]? = some (low m.1)∧low m.1<8∧m.1/2 ^ low m.1%2=1:=by decide +kernel
end Go.Cr
namespace Go.Proofs.YtabdpmnhjlmnlaaGreatDoor
open Go Go.Pt Go.Cr Go.Lib
structure Gl (S:Mem):Prop where
 tab:∃ t fr,S 0=some ⟨t,deBruijn64tab.map fun (n:Nat)=>Value.int .u8 n,fr⟩
theorem Gl.keep {S S':Mem} (h:Gl S) (hk:S' 0=S 0):Gl S':=by
 obtain⟨t,fr,h1⟩:=h.tab
 exact⟨t,fr,by rw[hk];exact h1⟩
section
variable {S:Mem} {b o:Nat} {s:Seat}
theorem zjn (hg:Gl S) {m:Nat} (h0:m≠0) (hm:m≤255) {Q:Int→Mem→Prop} (hQ:Q (low m:Int) S):zbM S (m:Int) Q:=by
 obtain⟨h1,h2,h3,h4,_⟩:=zmt ⟨m,by omega⟩ h0
 simp only at h1 h2 h3 h4
 obtain⟨t,fr,ht⟩:=hg.tab
 apply zgg
 unfold fh
 apply gy
 unfold yP
 rw[if_neg (by omega)]
 refine⟨h1,h2,?_⟩
 rw[zY (n:=(low m:Int)) ?_]
 ·rw[w64 (by omega) (by omega)];exact hQ
 ·rw[qA ht,qb]
  simp only[Nat.zero_add,Nat.mul_one,List.getElem?_map,h3,Option.map_some]
theorem zjO (hp:Pl S b o) (hl:s.R.length=16) {cause addr:Int} {Q:Mem→Prop} (hQ:Q (S.put b o (s.trap cause addr).L)):zdI (S.put b o s.L) (some (b,o)) cause addr Q:=by
 apply zhh
 unfold zaO
 simp only[jn,reduceCtorEq,if_false]
 rw[qk,qk,zY ((hp.cell hl (by decide)).trans (Seat.g18 hl))]
 unfold Seat.trap at hQ
 by_cases hv:s.vec=0
 ·rw[if_pos hv] at hQ ⊢
  exact hp.pt hl (by decide) (Seat.s23 hl _) hQ
 ·rw[if_neg hv] at hQ ⊢
  rw[zY ((hp.cell hl (by decide)).trans (Seat.g16 hl)),zY ((hp.cell hl (by decide)).trans (Seat.g18 hl))]
  refine hp.pt hl (by decide) (Seat.s19 hl _) ?_
  refine hp.pt (s:={ s with epc:=s.pc }) hl (by decide) (Seat.s20 (s:={ s with epc:=s.pc }) hl _) ?_
  refine hp.pt (s:={ s with epc:=s.pc,cause:=cause }) hl (by decide) (Seat.s21 (s:={ s with epc:=s.pc,cause:=cause }) hl _) ?_
  refine hp.pt (s:={ s with epc:=s.pc,cause:=cause,addr:=addr }) hl (by decide) (Seat.s16 (s:={ s with epc:=s.pc,cause:=cause,addr:=addr }) hl _) ?_
  exact hp.pt (s:={ s with epc:=s.pc,cause:=cause,addr:=addr,pc:=s.vec }) hl (by decide) (Seat.s22 (s:={ s with epc:=s.pc,cause:=cause,addr:=addr,pc:=s.vec }) hl _) hQ
theorem zli (hp:Pl S b o) (hl:s.R.length=16) {Q:Mem→Prop} (hQ:Q (S.put b o s.back.L)):zdK (S.put b o s.L) (some (b,o)) Q:=by
 apply zhj
 unfold zaQ
 rw[if_pos (by simp),qk,zY ((hp.cell hl (by decide)).trans (Seat.g19 hl))]
 refine hp.pt hl (by decide) (Seat.s16 hl _) ?_
 exact hp.pt (s:={ s with pc:=s.epc }) hl (by decide) (Seat.s22 (s:={ s with pc:=s.epc }) hl _) hQ
theorem zgd (hp:Pl S b o) (hl:s.R.length=16) {Q:Mem→Prop} (hQ:Q (S.put b o s.wake.L)):zbD (S.put b o s.L) (some (b,o)) Q:=by
 apply zhl
 unfold zaS
 rw[if_pos (by simp),qk,zY ((hp.cell hl (by decide)).trans (Seat.g23 hl))]
 unfold Seat.wake Seat.may at hQ
 by_cases h1:s.st=1
 ·rw[if_pos h1,zY ((hp.cell hl (by decide)).trans (Seat.g24 hl)),zY ((hp.cell hl (by decide)).trans (Seat.g25 hl))]
  by_cases h2:iand .u32 s.pend s.mask≠0
  ·rw[if_pos ⟨h1,h2⟩] at hQ
   rw[if_pos h2]
   exact hp.pt hl (by decide) (Seat.s23 hl _) hQ
  ·rw[if_neg (fun h=>h2 h.2)] at hQ
   rw[if_neg h2];exact hQ
 ·rw[if_neg (fun h=>h1 h.1)] at hQ
  rw[if_neg h1];exact hQ
theorem zky (hg:Gl (S.put b o s.L)) (hp:Pl S b o) (hs:s.Ok) {Q:Int→Bool→Mem→Prop} (hQ:match nextL s with | some n=>Q n true (S.put b o s.L) | none=>Q 0 false (S.put b o s.L)):zdW (S.put b o s.L) (some (b,o)) Q:=by
 have hl:=hs.len
 apply zhn
 unfold zaU
 unfold nextL at hQ
 simp only[jn,reduceCtorEq,if_false]
 rw[qk,qk,zaF ((hp.cell hl (by decide)).trans (Seat.g22 hl))]
 by_cases h1:s.opn=true
 ·rw[if_pos h1,zY ((hp.cell hl (by decide)).trans (Seat.g24 hl)),zY ((hp.cell hl (by decide)).trans (Seat.g25 hl))]
  obtain⟨m,e,_,hm⟩:=Seat.may_nat hs
  unfold Seat.may at e hQ
  by_cases h2:iand .u32 s.pend s.mask=0
  ·rw[if_neg (fun h=>h.2 h2)] at hQ
   rw[if_pos h2];exact hQ
  ·rw[if_pos ⟨h1,h2⟩] at hQ
   rw[if_neg h2]
   simp only[e,Int.toNat_natCast] at hQ h2 ⊢
   rw[zY ((hp.cell hl (by decide)).trans (Seat.g24 hl)),zY ((hp.cell hl (by decide)).trans (Seat.g25 hl)),e,wu64 (by omega) (by omega)]
   refine zjn hg (by omega) hm ?_
   exact⟨(hp.cell hl (by decide)).trans (Seat.g25 hl),(hp.cell hl (by decide)).trans (Seat.g24 hl),hQ⟩
 ·rw[if_neg (fun h=>h1 h.1)] at hQ
  rw[if_neg h1];exact hQ
end
end Go.Proofs.YtabdpmnhjlmnlaaGreatDoor
end
section
namespace Go.Cr
open Go Go.Pt
def cls (c:Int):Nat:=if c=0∨c=21∨c=22 then 0 else if c=1∨c=2∨c=18∨c=19 then 1 else if c=20 then 2 else if 11≤c∧c≤17 then 3 else 4
theorem zoB (c:Int):cls c≤4:=by unfold cls;repeat' split <;> try omega
def fA:Nat→Bool | 1 | 3 | 4=>true | _=>false
def fB:Nat→Bool | 3 | 4=>true | _=>false
def fC:Nat→Bool | 4=>true | _=>false
def fN:Nat→Bool | 1 | 2 | 3=>true | _=>false
def kdL (m:Nat):List Value:=[.bool (fA m),.bool (fB m),.bool (fC m),.bool (fN m)]
def rf:Nat→Int | 0=>0 | 1=>9 | 2=>8 | 3=>11 | _=>7
def regR (f:Bool) (r:Int):Prop:=r=0∨(f=true∧r<16)
structure Rt (k a b c n:Int):Prop where
 kk:k<23
 aa:regR (fA (cls k)) a
 bb:regR (fB (cls k)) b
 cc:regR (fC (cls k)) c
 nn:fN (cls k)=true∨n=0
 rw:k=18∨k=19→0≤n∧n<9
instance (f:Bool) (r:Int):Decidable (regR f r):=by unfold regR;infer_instance
instance (k a b c n:Int):Decidable (Rt k a b c n):=
 decidable_of_iff (k<23∧regR (fA (cls k)) a∧regR (fB (cls k)) b∧regR (fC (cls k)) c∧(fN (cls k)=true∨n=0)∧(k=18∨k=19→0≤n∧n<9))
  ⟨fun⟨h1,h2,h3,h4,h5,h6⟩=>⟨h1,h2,h3,h4,h5,h6⟩,fun h=>⟨h.kk,h.aa,h.bb,h.cc,h.nn,h.rw⟩⟩
structure Bd (k a b c n:Int):Prop where
 kk:0≤k∧k≤255
 aa:0≤a∧a≤255
 bb:0≤b∧b≤255
 cc:0≤c∧c≤255
 nn : -32768≤n∧n≤32767
def opL (k a b c n:Int):List Value:=[.int .u8 k,.int .u8 a,.int .u8 b,.int .u8 c,.int .i16 n]
theorem wd (w n:Nat):BitVec.ofInt w (n:Int)=BitVec.ofNat w n:=by
 apply BitVec.eq_of_toNat_eq;simp
theorem yw {a b:Nat} (ha:a<18446744073709551616) (hb:b<18446744073709551616):iand .u64 a b=((a &&& b:Nat):Int):=by
 unfold iand
 show IntKind.u64.wrap ((BitVec.ofInt 64 (a:Int) &&& BitVec.ofInt 64 (b:Int)).toNat:Int)=_
 rw[wd,wd,BitVec.toNat_and,BitVec.toNat_ofNat,BitVec.toNat_ofNat,Nat.mod_eq_of_lt ha,Nat.mod_eq_of_lt hb]
 have:a &&& b≤a:=Nat.and_le_left
 exact wu64 (by omega) (by omega)
theorem gX {a b:Nat} (ha:a<18446744073709551616) (hb:b<18446744073709551616):ior .u64 a b=((a ||| b:Nat):Int):=by
 unfold ior
 show IntKind.u64.wrap ((BitVec.ofInt 64 (a:Int) ||| BitVec.ofInt 64 (b:Int)).toNat:Int)=_
 rw[wd,wd,BitVec.toNat_or,BitVec.toNat_ofNat,BitVec.toNat_ofNat,Nat.mod_eq_of_lt ha,Nat.mod_eq_of_lt hb]
 have:a ||| b<2 ^ 64:=Nat.or_lt_two_pow (by omega) (by omega)
 exact wu64 (by omega) (by omega)
theorem znJ {x y:BitVec 64} (h:x &&& y=0#64):x &&& ~~~y=x:=by
 apply BitVec.eq_of_getLsbD_eq
 intro i hi
 have h2:=congrArg (fun z=>z.getLsbD i) h
 simp only[BitVec.getLsbD_and,BitVec.getLsbD_not,BitVec.getLsbD_zero] at h2 ⊢
 cases hx:x.getLsbD i <;> cases hy:y.getLsbD i <;> simp_all
theorem znl {X j b:Nat} (hb:b<2 ^ j):(X*2 ^ j) &&& b=0:=by
 apply Nat.eq_of_testBit_eq
 intro i
 rw[Nat.testBit_and,Nat.zero_testBit,←Nat.shiftLeft_eq,Nat.testBit_shiftLeft]
 by_cases hi:j≤i
 ·have:b.testBit i=false:=Nat.testBit_lt_two_pow (Nat.lt_of_lt_of_le hb (Nat.pow_le_pow_right (by decide) hi))
  rw[this];simp
 ·simp[hi]
theorem zkS {a b:Nat} (ha:a<18446744073709551616) (hb:b<18446744073709551616) (h:a &&& b=0):iandn .u64 a b=(a:Int):=by
 unfold iandn
 show IntKind.u64.wrap ((BitVec.ofInt 64 (a:Int) &&& ~~~ BitVec.ofInt 64 (b:Int)).toNat:Int)=_
 rw[wd,wd,znJ ?_]
 ·rw[BitVec.toNat_ofNat,Nat.mod_eq_of_lt ha]
  exact wu64 (by omega) (by omega)
 ·apply BitVec.eq_of_toNat_eq
  rw[BitVec.toNat_and,BitVec.toNat_ofNat,BitVec.toNat_ofNat,Nat.mod_eq_of_lt ha,Nat.mod_eq_of_lt hb,h]
  rfl
theorem zal {X j b:Nat} (hb:b<2 ^ j):(X*2 ^ j) ||| b=X*2 ^ j+b:=by
 rw[←Nat.shiftLeft_eq,Nat.shiftLeft_add_eq_or_of_lt hb]
def wrd (k a b c n:Int):Int:=k*67108864+a*4194304+b*262144+(if fC (cls k)=true then c else n%65536)
theorem jb {a s:Nat} (hs:s≤63) (h:a*2 ^ s<18446744073709551616):ishl .u64 (a:Int) (s:Int)=((a*2 ^ s:Nat):Int):=by
 unfold ishl
 have e:min ((s:Int)).toNat IntKind.u64.bits=s:=by
  show min ((s:Int)).toNat 64=s
  simp;omega
 rw[e]
 have e2:((a:Int)*2 ^ s)=((a*2 ^ s:Nat):Int):=by push_cast;rfl
 rw[e2]
 exact wu64 (by omega) (by omega)
theorem vZ {a s:Nat} (hs:s≤63):ishr .u64 (a:Int) (s:Int)=((a/2 ^ s:Nat):Int):=by
 unfold ishr
 have e:min ((s:Int)).toNat IntKind.u64.bits=s:=by
  show min ((s:Int)).toNat 64=s
  simp;omega
 rw[e]
 have e2:((2:Int) ^ s)=((2 ^ s:Nat):Int):=by push_cast;rfl
 rw[e2,Int.fdiv_eq_ediv_of_nonneg _ (Int.natCast_nonneg _)]
 exact (Int.natCast_ediv _ _).symm
theorem zfF {n:Nat} (h0:0<n) (hn:n≤63):IntKind.u64.wrap (ishl .u64 1 (n:Int)-1)=((2 ^ n-1:Nat):Int):=by
 have hp:2 ^ n<18446744073709551616:=Nat.lt_of_le_of_lt (Nat.pow_le_pow_right (by decide) hn) (by decide)
 have hp0:0<2 ^ n:=Nat.two_pow_pos n
 have:=jb (a:=1) hn (by rw[Nat.one_mul];exact hp)
 rw[Nat.one_mul] at this
 rw[show ((1:Nat):Int)=1 from rfl] at this
 rw[this,show ((2 ^ n:Nat):Int)-1=((2 ^ n-1:Nat):Int) by omega]
 exact wu64 (by omega) (by omega)
theorem znR {k a b c n:Int} (hb:Bd k a b c n) (hr:Rt k a b c n):0≤wrd k a b c n∧wrd k a b c n<1543503872:=by
 have h1:=hb.kk
 have h2:=hb.aa
 have h3:=hb.bb
 have h4:=hb.cc
 have hk:=hr.kk
 have ha:=hr.aa
 have hbb:=hr.bb
 have hcc:=hr.cc
 unfold regR at ha hbb hcc
 unfold wrd
 split <;> omega
def dK (w:Int):Int:=w/67108864%64
def dA (w:Int):Int:=w/4194304%16
def dB (w:Int):Int:=w/262144%16
def dC (w:Int):Int:=if fC (cls (dK w))=true then w%16 else 0
def dN (w:Int):Int:=if fC (cls (dK w))=true then 0 else IntKind.i16.wrap (w%65536)
theorem zot (x:Int) : -32768≤IntKind.i16.wrap x∧IntKind.i16.wrap x≤32767:=by
 simp[IntKind.wrap,IntKind.bits,IntKind.signed];omega
theorem zpf (w:Int):Bd (dK w) (dA w) (dB w) (dC w) (dN w):=by
 refine⟨by unfold dK;omega,by unfold dA;omega,by unfold dB;omega,?_,?_⟩
 ·unfold dC;split <;> omega
 ·unfold dN;split
  ·decide
  ·exact zot _
def isW (w:Int):Prop:=Rt (dK w) (dA w) (dB w) (dC w) (dN w)∧wrd (dK w) (dA w) (dB w) (dC w) (dN w)=w
theorem znQ {k a b c n:Int} (hb:Bd k a b c n) (hr:Rt k a b c n):isW (wrd k a b c n)∧dK (wrd k a b c n)=k∧dA (wrd k a b c n)=a∧dB (wrd k a b c n)=b∧dC (wrd k a b c n)=c∧dN (wrd k a b c n)=n:=by
 have h1:=hb.kk
 have h2:=hb.aa
 have h3:=hb.bb
 have h4:=hb.cc
 have h5:=hb.nn
 have hk:=hr.kk
 have ha:=hr.aa
 have hbb:=hr.bb
 have hcc:=hr.cc
 unfold regR at ha hbb hcc
 have q:0≤(if fC (cls k)=true then c else n%65536)∧(if fC (cls k)=true then c else n%65536)<65536:=by split <;> omega
 have eK:dK (wrd k a b c n)=k:=by unfold dK wrd;omega
 have eA:dA (wrd k a b c n)=a:=by unfold dA wrd;omega
 have eB:dB (wrd k a b c n)=b:=by unfold dB wrd;omega
 have eC:dC (wrd k a b c n)=c:=by
  unfold dC;rw[eK]
  by_cases hf:fC (cls k)=true
  ·rw[if_pos hf];unfold wrd;rw[if_pos hf];omega
  ·rw[if_neg hf];simp only[hf] at hcc;simp at hcc;omega
 have eN:dN (wrd k a b c n)=n:=by
  unfold dN;rw[eK]
  by_cases hf:fC (cls k)=true
  ·rw[if_pos hf]
   have hfn:fN (cls k)=false:=by
    have hm4:=zoB k
    generalize cls k=m at *
    rcases m with _ | _ | _ | _ | _ | m <;> simp[fC,fN] at *
   rcases hr.nn with h | h
   ·rw[hfn] at h;cases h
   ·exact h.symm
  ·rw[if_neg hf]
   have e:wrd k a b c n%65536=n%65536:=by unfold wrd;rw[if_neg hf];omega
   rw[e]
   simp[IntKind.wrap,IntKind.bits,IntKind.signed]
   omega
 refine⟨⟨?_,?_⟩,eK,eA,eB,eC,eN⟩
 ·rw[eK,eA,eB,eC,eN];exact hr
 ·rw[eK,eA,eB,eC,eN]
instance (w:Int):Decidable (isW w):=by unfold isW;infer_instance
end Go.Cr
namespace Go.Proofs.YtabdpmnhjlmnlaaGreatDoor
open Go Go.Pt Go.Cr
section
variable {S:Mem}
theorem zaG {c:Int} {Q:List Value→Mem→Prop} (hQ:Q (kdL (cls c)) S):kH S c Q:=by
 apply zfo
 unfold gj
 simp only[jn,if_true,Bool.false_eq_true,if_false]
 have key:∀ m,cls c=m→Q (kdL m) S:=fun m h=>by rw[←h];exact hQ
 by_cases h0:c=0
 ·rw[if_pos h0];exact key 0 (by unfold cls;rw[if_pos (by omega)])
 rw[if_neg h0]
 by_cases h21:c=21
 ·rw[if_pos h21];exact key 0 (by unfold cls;rw[if_pos (by omega)])
 rw[if_neg h21]
 by_cases h22:c=22
 ·rw[if_pos h22];exact key 0 (by unfold cls;rw[if_pos (by omega)])
 rw[if_neg h22]
 by_cases h1:c=1
 ·rw[if_pos h1];exact key 1 (by unfold cls;rw[if_neg (by omega),if_pos (by omega)])
 rw[if_neg h1]
 by_cases h2:c=2
 ·rw[if_pos h2];exact key 1 (by unfold cls;rw[if_neg (by omega),if_pos (by omega)])
 rw[if_neg h2]
 by_cases h18:c=18
 ·rw[if_pos h18];exact key 1 (by unfold cls;rw[if_neg (by omega),if_pos (by omega)])
 rw[if_neg h18]
 by_cases h19:c=19
 ·rw[if_pos h19];exact key 1 (by unfold cls;rw[if_neg (by omega),if_pos (by omega)])
 rw[if_neg h19]
 by_cases h20:c=20
 ·rw[if_pos h20];exact key 2 (by unfold cls;rw[if_neg (by omega),if_neg (by omega),if_pos (by omega)])
 rw[if_neg h20]
 by_cases h11:c=11
 ·rw[if_pos h11];exact key 3 (by unfold cls;rw[if_neg (by omega),if_neg (by omega),if_neg (by omega),if_pos (by omega)])
 rw[if_neg h11]
 by_cases h12:c=12
 ·rw[if_pos h12];exact key 3 (by unfold cls;rw[if_neg (by omega),if_neg (by omega),if_neg (by omega),if_pos (by omega)])
 rw[if_neg h12]
 by_cases h13:c=13
 ·rw[if_pos h13];exact key 3 (by unfold cls;rw[if_neg (by omega),if_neg (by omega),if_neg (by omega),if_pos (by omega)])
 rw[if_neg h13]
 by_cases h14:c=14
 ·rw[if_pos h14];exact key 3 (by unfold cls;rw[if_neg (by omega),if_neg (by omega),if_neg (by omega),if_pos (by omega)])
 rw[if_neg h14]
 by_cases h15:c=15
 ·rw[if_pos h15];exact key 3 (by unfold cls;rw[if_neg (by omega),if_neg (by omega),if_neg (by omega),if_pos (by omega)])
 rw[if_neg h15]
 by_cases h16:c=16
 ·rw[if_pos h16];exact key 3 (by unfold cls;rw[if_neg (by omega),if_neg (by omega),if_neg (by omega),if_pos (by omega)])
 rw[if_neg h16]
 by_cases h17:c=17
 ·rw[if_pos h17];exact key 3 (by unfold cls;rw[if_neg (by omega),if_neg (by omega),if_neg (by omega),if_pos (by omega)])
 rw[if_neg h17]
 exact⟨rfl,key 4 (by unfold cls;rw[if_neg (by omega),if_neg (by omega),if_neg (by omega),if_neg (by omega)])⟩
theorem zlN {f:Bool} {r:Int} {Q:Bool→Mem→Prop} (hQ:Q (decide (regR f r)) S):ge S f r Q:=by
 apply zdD
 unfold kV
 unfold regR at hQ
 by_cases h:r=0
 ·rw[if_pos h];simp only[h,true_or,decide_true] at hQ;exact hQ
 ·rw[if_neg h]
  cases f with
  | true=>rw[if_pos rfl];simpa [h] using hQ
  | false=>rw[if_neg (by decide)];simpa [h] using hQ
theorem zlb {f:Bool} {r:Int} {K:Bool→Mem→Prop} (hK:K (decide (regR f r)) S):cv Tryz.prog S (.func (.func 240) #[] #[]) [.bool f,.int .u8 r] fun rv S'=>∃ t:Bool,rv=.bool t∧K t S':=by
 refine⟨240,[],[],rfl,inferInstance,?_⟩
 have h:=zlN (f:=f) (r:=r) (Q:=K) hK
 unfold ge at h
 exact Tr.mono h fun v S' ⟨r0,h1,h2⟩=>⟨r0,h1,h2⟩
theorem ziW {k a b c n:Int} {Q:Bool→Mem→Prop} (hQ:Q (decide (Rt k a b c n)) S):zcp S (opL k a b c n) Q:=by
 have g0:nthL (opL k a b c n) 0=some (.int .u8 k):=rfl
 have g1:nthL (opL k a b c n) 1=some (.int .u8 a):=rfl
 have g2:nthL (opL k a b c n) 2=some (.int .u8 b):=rfl
 have g3:nthL (opL k a b c n) 3=some (.int .u8 c):=rfl
 have g4:nthL (opL k a b c n) 4=some (.int .i16 n):=rfl
 have no:¬Rt k a b c n→Q false S:=fun h=>by rw[decide_eq_false h] at hQ;exact hQ
 apply zgo
 unfold fu
 refine⟨rfl,?_⟩
 rw[zY g0]
 refine zaG ⟨rfl,?_⟩
 refine qc (fun j=>k<23→regR (fA (cls k)) a→regR (fB (cls k)) b→regR (fC (cls k)) c→(fN (cls k)=true∨n=0)→j S) ?_ fun j hj=>?_
 ·intro h1 h2 h3 h4 h5
  have fin:∀ (p:Prop) [Decidable p],(p↔(k=18∨k=19→0≤n∧n<9))→Q (decide p) S:=fun p _ hp=>by
   have:decide p=decide (Rt k a b c n):=decide_eq_decide.2 ⟨fun h=>⟨h1,h2,h3,h4,h5,hp.1 h⟩,fun h=>hp.2 h.rw⟩
   rw[this];exact hQ
  rw[zY g0]
  by_cases h18:k=18
  ·rw[if_pos h18,zY g4]
   by_cases h0:0≤n
   ·rw[if_pos h0,zY g4]
    exact fin _ ⟨fun h _=>⟨h0,h⟩,fun h=>(h (.inl h18)).2⟩
   ·rw[if_neg h0];exact no fun h=>h0 (h.rw (.inl h18)).1
  rw[if_neg h18,zY g0]
  by_cases h19:k=19
  ·rw[if_pos h19,zY g4]
   by_cases h0:0≤n
   ·rw[if_pos h0,zY g4]
    exact fin _ ⟨fun h _=>⟨h0,h⟩,fun h=>(h (.inr h19)).2⟩
   ·rw[if_neg h0];exact no fun h=>h0 (h.rw (.inr h19)).1
  rw[if_neg h19]
  have:=fin True ⟨fun _ h=>by omega,fun _=>trivial⟩
  simpa using this
 ·rw[zY g0]
  by_cases h1:23≤k
  ·rw[if_pos h1];exact no fun h=>by have:=h.kk;omega
  rw[if_neg h1,zaF (show nthL (kdL (cls k)) 0=some (.bool (fA (cls k))) from rfl),zY g1]
  refine zlb ?_
  by_cases h2:regR (fA (cls k)) a
  rotate_left
  ·rw[decide_eq_false h2,if_neg (by decide)];exact no fun h=>h2 h.aa
  rw[decide_eq_true h2,if_pos rfl,zaF (show nthL (kdL (cls k)) 1=some (.bool (fB (cls k))) from rfl),zY g2]
  refine zlb ?_
  by_cases h3:regR (fB (cls k)) b
  rotate_left
  ·rw[decide_eq_false h3,if_neg (by decide)];exact no fun h=>h3 h.bb
  rw[decide_eq_true h3,if_pos rfl,zaF (show nthL (kdL (cls k)) 2=some (.bool (fC (cls k))) from rfl),zY g3]
  refine zlb ?_
  by_cases h4:regR (fC (cls k)) c
  rotate_left
  ·rw[decide_eq_false h4,if_neg (by decide)];exact no fun h=>h4 h.cc
  rw[decide_eq_true h4,if_pos rfl,zaF (show nthL (kdL (cls k)) 3=some (.bool (fN (cls k))) from rfl)]
  by_cases h5:fN (cls k)=true
  ·rw[if_pos h5];exact hj (by omega) h2 h3 h4 (.inl h5)
  rw[if_neg h5,zY g4]
  by_cases h6:n=0
  ·rw[if_neg (by simpa using h6)];exact hj (by omega) h2 h3 h4 (.inr h6)
  ·rw[if_pos h6];exact no fun h=>by rcases h.nn with h | h <;> contradiction
theorem gD {w v X j:Nat} {at_ n:Nat} (hw:w=X*2 ^ j) (hj:at_+n≤j) (hj2:j≤63) (hn:0<n) (hv:v<2 ^ n) (hw64:w<18446744073709551616) {Q:Int→Mem→Prop} (hQ:Q ((w+v*2 ^ at_:Nat):Int) S):ym S (w:Int) at_ n (v:Int) Q:=by
 apply jM
 unfold wW
 have hpn:2 ^ n<18446744073709551616:=Nat.lt_of_le_of_lt (Nat.pow_le_pow_right (by decide) (show n≤63 by omega)) (by decide)
 have hpj:2 ^ j<18446744073709551616:=Nat.lt_of_le_of_lt (Nat.pow_le_pow_right (by decide) hj2) (by decide)
 have hp0:0<2 ^ n:=Nat.two_pow_pos n
 have hpa:0<2 ^ at_:=Nat.two_pow_pos at_
 have hmul:2 ^ n*2 ^ at_≤2 ^ j:=by rw[←Nat.pow_add];exact Nat.pow_le_pow_right (by decide) (by omega)
 have hm1:(2 ^ n-1)*2 ^ at_<2 ^ j:=Nat.lt_of_lt_of_le (Nat.mul_lt_mul_of_pos_right (by omega) hpa) hmul
 have hv1:v*2 ^ at_<2 ^ j:=Nat.lt_of_lt_of_le (Nat.mul_lt_mul_of_pos_right hv hpa) hmul
 refine qc (fun j=>j S) ?_ fun j0 hj0=>by rw[if_neg (by omega),if_neg (by omega),if_neg (by omega)];exact hj0
 refine qc (fun j0=>j0 ((2 ^ n-1:Nat):Int) S) ?_ fun j0 hj0=>?_
 ·refine⟨by omega,by omega,?_⟩
  rw[jb (by omega) (by omega),zkS hw64 (by omega) (by rw[hw];exact znl hm1)]
  rw[yw (by omega) (by omega),Nat.and_two_pow_sub_one_eq_mod,Nat.mod_eq_of_lt hv,jb (by omega) (by omega),gX hw64 (by omega),hw,zal hv1,←hw]
  exact hQ
 ·rw[if_pos (by omega)]
  refine⟨by omega,?_⟩
  rw[zfF hn (by omega)]
  exact hj0
theorem jI {w at_ n:Nat} (ha:at_≤63) (hn:0<n) (hn2:n≤63) (hw64:w<18446744073709551616) {Q:Int→Mem→Prop} (hQ:Q ((w/2 ^ at_%2 ^ n:Nat):Int) S):yK S (w:Int) at_ n Q:=by
 apply zcD
 unfold jf
 have hpn:2 ^ n<18446744073709551616:=Nat.lt_of_le_of_lt (Nat.pow_le_pow_right (by decide) hn2) (by decide)
 refine qc (fun j=>j S) ?_ fun j0 hj0=>by rw[if_neg (by omega),if_neg (by omega),if_neg (by omega)];exact hj0
 refine⟨by omega,?_⟩
 have hd:w/2 ^ at_≤w:=Nat.div_le_self _ _
 rw[if_pos (by omega)]
 refine⟨by omega,?_⟩
 rw[zfF hn hn2,vZ ha,yw (by omega) (by omega),Nat.and_two_pow_sub_one_eq_mod]
 exact hQ
theorem zhI {k a b c n:Int} (hb:Bd k a b c n) {Q:Int→Bool→Mem→Prop} (hY:Rt k a b c n→Q (wrd k a b c n) true S) (hN:¬Rt k a b c n→Q 0 false S):zaI S (opL k a b c n) Q:=by
 apply zfp
 unfold gk
 refine⟨rfl,?_⟩
 refine qc (fun j=>Rt k a b c n→j S) ?_ fun j hj=>?_
 rotate_left
 ·refine ziW ?_
  by_cases hr:Rt k a b c n
  ·rw[decide_eq_true hr,if_pos rfl];exact hj hr
  ·rw[decide_eq_false hr,if_neg (by decide)];exact hN hr
 intro hr
 have h1:=hb.kk
 have h2:=hb.aa
 have h3:=hb.bb
 have h4:=hb.cc
 have h5:=hb.nn
 have hq:=hY hr
 have hk:=hr.kk
 have ha:=hr.aa
 have hbb:=hr.bb
 have hcc:=hr.cc
 unfold regR at ha hbb hcc
 have g0:nthL (opL k a b c n) 0=some (.int .u8 k):=rfl
 have g1:nthL (opL k a b c n) 1=some (.int .u8 a):=rfl
 have g2:nthL (opL k a b c n) 2=some (.int .u8 b):=rfl
 have g3:nthL (opL k a b c n) 3=some (.int .u8 c):=rfl
 have g4:nthL (opL k a b c n) 4=some (.int .i16 n):=rfl
 generalize opL k a b c n=o at *
 obtain⟨kk,hkk⟩:∃ m:Nat,k=m:=⟨k.toNat,by omega⟩
 obtain⟨aa,haa⟩:∃ m:Nat,a=m:=⟨a.toNat,by omega⟩
 obtain⟨bb,hbb'⟩:∃ m:Nat,b=m:=⟨b.toNat,by omega⟩
 obtain⟨cc,hcc'⟩:∃ m:Nat,c=m:=⟨c.toNat,by omega⟩
 obtain⟨nn,hnn⟩:∃ m:Nat,n%65536=m:=⟨(n%65536).toNat,by omega⟩
 rw[zY g0,wu64 h1.1 (by omega),hkk]
 refine gD (w:=0) (v:=kk) (X:=0) (j:=63) (at_:=26) (n:=6) (by simp) (by decide) (by decide) (by decide) (by omega) (by decide) ?_
 rw[zY g1,wu64 h2.1 (by omega),haa]
 refine gD (v:=aa) (X:=kk) (j:=26) (at_:=22) (n:=4) (by simp) (by decide) (by decide) (by decide) (by omega) (by omega) ?_
 rw[zY g2,wu64 h3.1 (by omega),hbb']
 refine gD (v:=bb) (X:=kk*16+aa) (j:=22) (at_:=18) (n:=4) (by omega) (by decide) (by decide) (by decide) (by omega) (by omega) ?_
 refine qc (fun j=>fC (cls k)=false→j S) ?_ fun j hj=>?_
 ·intro hf
  have hw16:IntKind.u16.wrap n=n%65536:=by simp[IntKind.wrap,IntKind.bits,IntKind.signed]
  rw[zY g4,hw16,wu64 (by omega) (by omega),hnn]
  refine gD (v:=nn) (X:=kk*256+aa*16+bb) (j:=18) (at_:=0) (n:=16) (by omega) (by decide) (by decide) (by decide) (by omega) (by omega) ?_
  have e:IntKind.u32.wrap (((0+kk*2 ^ 26+aa*2 ^ 22+bb*2 ^ 18+nn*2 ^ 0:Nat)):Int)=wrd k a b c n:=by
   rw[wu32 (by omega) (by omega)]
   unfold wrd
   rw[hf,if_neg (by decide)]
   omega
  rw[e];exact hq
 ·rw[zY g0]
  refine zaG ?_
  rw[zaF (show nthL (kdL (cls k)) 2=some (.bool (fC (cls k))) from rfl)]
  by_cases hf:fC (cls k)=true
  ·rw[if_pos hf,zY g3,wu64 h4.1 (by omega),hcc']
   refine gD (v:=cc) (X:=kk*256+aa*16+bb) (j:=18) (at_:=0) (n:=4) (by omega) (by decide) (by decide) (by decide) (by omega) (by omega) ?_
   have e:IntKind.u32.wrap (((0+kk*2 ^ 26+aa*2 ^ 22+bb*2 ^ 18+cc*2 ^ 0:Nat)):Int)=wrd k a b c n:=by
    rw[wu32 (by omega) (by omega)]
    unfold wrd
    rw[if_pos hf]
    omega
   rw[e];exact hq
  ·rw[if_neg hf];exact hj (by simpa using hf)
theorem zhN {w:Int} (h0:0≤w) (h1:w≤4294967295) {Q:List Value→Bool→Mem→Prop} (hY:isW w→Q (opL (dK w) (dA w) (dB w) (dC w) (dN w)) true S) (hN:¬isW w→Q (opL 0 0 0 0 0) false S):zaJ S w Q:=by
 apply zfq
 unfold gn
 obtain⟨m,rfl⟩:∃ m:Nat,w=m:=⟨w.toNat,by omega⟩
 rw[wu64 (x:=(m:Int)) (by omega) (by omega)]
 refine jI (w:=m) (at_:=26) (n:=6) (by decide) (by decide) (by decide) (by omega) ?_
 refine jI (w:=m) (at_:=22) (n:=4) (by decide) (by decide) (by decide) (by omega) ?_
 refine jI (w:=m) (at_:=18) (n:=4) (by decide) (by decide) (by decide) (by omega) ?_
 have eK:IntKind.u8.wrap ((m/2 ^ 26%2 ^ 6:Nat):Int)=dK m:=by rw[wu8 (by omega) (by omega)];unfold dK;omega
 have eA:IntKind.u8.wrap ((m/2 ^ 22%2 ^ 4:Nat):Int)=dA m:=by rw[wu8 (by omega) (by omega)];unfold dA;omega
 have eB:IntKind.u8.wrap ((m/2 ^ 18%2 ^ 4:Nat):Int)=dB m:=by rw[wu8 (by omega) (by omega)];unfold dB;omega
 rw[eK,eA,eB]
 refine qc (fun j=>j (opL (dK m) (dA m) (dB m) (dC m) (dN m)) S) ?_ fun j hj=>?_
 ·refine⟨rfl,?_⟩
  refine zhI (zpf m) (fun hr=>?_) fun hr=>?_
  ·rw[if_pos rfl]
   by_cases he:wrd (dK m) (dA m) (dB m) (dC m) (dN m)=m
   ·rw[if_neg (by simpa using he)]
    exact⟨rfl,hY ⟨hr,he⟩⟩
   ·rw[if_pos he];exact hN fun h=>he h.2
  ·rw[if_neg (by decide)];exact hN fun h=>hr h.1
 ·refine zaG ?_
  rw[zaF (show nthL (kdL (cls (dK m))) 2=some (.bool (fC (cls (dK m)))) from rfl)]
  by_cases hf:fC (cls (dK m))=true
  ·rw[if_pos hf]
   refine jI (w:=m) (at_:=0) (n:=4) (by decide) (by decide) (by decide) (by omega) ?_
   have eC:IntKind.u8.wrap ((m/2 ^ 0%2 ^ 4:Nat):Int)=dC m:=by rw[wu8 (by omega) (by omega)];unfold dC;rw[if_pos hf];omega
   have eN:dN m=0:=by unfold dN;rw[if_pos hf]
   rw[eC];rw[eN] at hj;exact hj
  ·rw[if_neg hf]
   refine jI (w:=m) (at_:=0) (n:=16) (by decide) (by decide) (by decide) (by omega) ?_
   have eC:dC m=0:=by unfold dC;rw[if_neg hf]
   have eN:IntKind.i16.wrap ((m/2 ^ 0%2 ^ 16:Nat):Int)=dN m:=by unfold dN;rw[if_neg hf];congr 1;omega
   rw[eN];rw[eC] at hj;exact hj
end
end Go.Proofs.YtabdpmnhjlmnlaaGreatDoor
end
section
namespace Go.Cr
open Go Go.Pt
structure GM where
 map:Nat→Option (Nat×Bool)
 dat:Nat→List Int
def Byt (l:List Int):Prop:=∀ x∈l,0≤x∧x≤255
structure GM.Ok (g:GM):Prop where
 pg:∀ p,32≤p→g.map p=none
 len:∀ p f w,g.map p=some (f,w)→(g.dat f).length=256
 byt:∀ p f w,g.map p=some (f,w)→Byt (g.dat f)
def num:List Int→Int
 | []=>0
 | x :: l=>x+256*num l
theorem zeO:∀ {l:List Int},Byt l→0≤num l∧num l<256 ^ l.length
 | [],_=>by simp[num]
 | x :: l,h=>by
  have h1:=h x (by simp)
  have h2:=zeO (l:=l) fun y hy=>h y (by simp[hy])
  simp only[num,List.length_cons,Int.pow_succ]
  omega
theorem zeP:∀ (l r:List Int),num (l++r)=num l+256 ^ l.length*num r
 | [],r=>by simp[num]
 | x :: l,r=>by
  simp only[List.cons_append,num,List.length_cons,Int.pow_succ,zeP l r]
  rw[Int.mul_add,Int.mul_comm (256 ^ l.length) 256,Int.mul_assoc]
  omega
def bytes8 (w:Int):List Int:=(List.range 8).map fun i=>w/2 ^ (8*i)%256
theorem xo (w:Int):(bytes8 w).length=8:=by simp[bytes8]
theorem kn (w:Int):Byt (bytes8 w):=fun x hx=>by
 obtain⟨i,_,rfl⟩:=List.mem_map.1 hx
 omega
def ldB (g:GM) (page off n:Nat):Option (List Int):=(g.map page).map fun q=>((g.dat q.1).drop off).take n
theorem zfJ {g:GM} (hg:g.Ok) {page off n:Nat} {l:List Int} (h:ldB g page off n=some l) (hn:off+n≤256):l.length=n∧Byt l:=by
 unfold ldB at h
 cases hm:g.map page with
 | none=>rw[hm] at h;cases h
 | some q=>
  rw[hm] at h
  simp only[Option.map_some,Option.some.injEq] at h
  subst h
  have hl:=hg.len page q.1 q.2 hm
  refine⟨by simp only[List.length_take,List.length_drop];omega,fun x hx=>hg.byt page q.1 q.2 hm x (List.mem_of_mem_drop (List.mem_of_mem_take hx))⟩
def place (s:Seat) (g:GM) (addr:Int) (wr:Bool):Option (Nat×Nat):=
 if 31<addr/256 then none
 else if s.base=0 then some ((addr/256).toNat,(addr%256).toNat)
 else if 31<s.base/256 then none
 else match ldB g (s.base/256).toNat (8*(addr/256)).toNat 8 with
  | none=>none
  | some p=>if num p%2=0∨(wr=true∧num p/2%2=0)∨31<num p/256 then none else some ((num p/256).toNat,(addr%256).toNat)
theorem zfA {s:Seat} {g:GM} (hg:g.Ok) {addr:Int} (ha:W64 addr) {wr:Bool} {q:Nat×Nat} (h:place s g addr wr=some q):q.1≤31∧q.2=(addr%256).toNat∧q.2≤255:=by
 unfold place at h
 split at h
 ·cases h
 ·split at h
  ·cases h;exact⟨by show (addr/256).toNat≤31;omega,rfl,by show (addr%256).toNat≤255;omega⟩
  ·split at h
   ·cases h
   ·split at h
    ·cases h
    ·rename_i p hp
     have hb:=zfJ hg hp (by omega)
     have:=zeO hb.2
     split at h
     ·cases h
     ·cases h;exact⟨by show (num p/256).toNat≤31;omega,rfl,by show (addr%256).toNat≤255;omega⟩
def getW (s:Seat) (g:GM) (addr:Int) (n:Nat):Option Int:=match place s g addr false with
 | none=>none
 | some q=>if addr%n≠0 then none else (ldB g q.1 q.2 n).map num
def wrB (g:GM) (f off:Nat) (l:List Int):GM:={ g with dat:=fun x=>if x=f then (g.dat f).take off++l++(g.dat f).drop (off+l.length) else g.dat x }
def putW (s:Seat) (g:GM) (addr w:Int):Option GM:=match place s g addr true with
 | none=>none
 | some q=>if addr%8≠0 then none else match g.map q.1 with
  | some (f,true)=>some (wrB g f q.2 (bytes8 w))
  | _=>none
structure Out where
 s:Seat
 k:Int
 n:Int
 g:GM
def trapM (s:Seat) (g:GM) (c a:Int):Out:=⟨s.trap c a,if (s.trap c a).st=2 then 4 else 1,c,g⟩
def x64 (n:Int):Int:=IntKind.u64.wrap n
def getR (s:Seat) (time:Int) (me:Int) (n:Int):Int:=if n=0 then s.base else if n=1 then s.vec else if n=2 then s.epc else if n=3 then s.cause else if n=4 then s.addr else if n=5 then s.mask else if n=6 then (if s.opn=true then 1 else 0) else if n=7 then time else me
def setR (s:Seat) (n v:Int):Option Seat:=if n=0 then some { s with base:=v } else if n=1 then some { s with vec:=v } else if n=2 then some { s with epc:=v } else if n=3 then some { s with cause:=v } else if n=4 then some { s with addr:=v } else if n=5 then some { s with mask:=v%256 } else if n=6 then some { s with opn:=decide (v%2=1) } else none
def sumM (k b c:Int):Int:=if k=3 then x64 (b+c) else if k=4 then x64 (b-c) else if k=5 then x64 (b*c) else if k=6 then iand .u64 b c else if k=7 then ior .u64 b c else if k=8 then ixor .u64 b c else if k=9 then ishl .u64 b (c%64) else ishr .u64 b (c%64)
def Seat.r (s:Seat) (i:Int):Int:=s.R.getD i.toNat 0
def Seat.setr (s:Seat) (i v:Int):Seat:={ s with R:=s.R.set i.toNat v }
def doM (s:Seat) (g:GM) (time me k a b c n:Int):Out:=
 let N:=x64 n
 let nx:=x64 (s.pc+4)
 let ok (t:Seat) (pc:Int):Out:=⟨{ t with pc:=pc },0,0,g⟩
 if k=1 then ok (s.setr a N) nx
 else if k=2 then ok (s.setr a (x64 (s.r a%65536+x64 (N*65536)))) nx
 else if k=11 then ok (s.setr a (x64 (s.r b+N))) nx
 else if k=12 then match getW s g (x64 (s.r b+N)) 8 with
  | some v=>ok (s.setr a v) nx
  | none=>trapM s g 3 (x64 (s.r b+N))
 else if k=13 then match putW s g (x64 (s.r b+N)) (s.r a) with
  | some g'=>⟨{ s with pc:=nx },0,0,g'⟩
  | none=>trapM s g 4 (x64 (s.r b+N))
 else if k=14 then ok s (if s.r a=s.r b then x64 (s.pc+x64 (4*N)) else nx)
 else if k=15 then ok s (if s.r a≠s.r b then x64 (s.pc+x64 (4*N)) else nx)
 else if k=16 then ok s (if IntKind.i64.wrap (s.r a)<IntKind.i64.wrap (s.r b) then x64 (s.pc+x64 (4*N)) else nx)
 else if k=17 then ok (s.setr a nx) (x64 (s.r b+N))
 else if k=18 then ok (s.setr a (getR s time me n)) nx
 else if k=19 then match setR s n (s.r a) with
  | some t=>ok t nx
  | none=>trapM s g 1 s.pc
 else if k=20 then ⟨{ s with pc:=nx },2,N,g⟩
 else if k=21 then if s.may=0 then ⟨{ s with pc:=nx,st:=1 },3,0,g⟩ else ⟨{ s with pc:=nx },0,0,g⟩
 else if k=22 then ⟨s.back,0,0,g⟩
 else if 3≤k then ok (s.setr a (sumM k (s.r b) (s.r c))) nx
 else ok s nx
def stepM (s:Seat) (g:GM) (time me:Int):Out:=
 if s.st≠0 then ⟨s,5,0,g⟩
 else match nextL s with
  | some n=>trapM { s with pend:=s.pend-2 ^ n } g (16+n) 0
  | none=>match getW s g s.pc 4 with
   | none=>trapM s g 2 s.pc
   | some w=>if isW w then doM s g time me (dK w) (dA w) (dB w) (dC w) (dN w) else trapM s g 1 w
end Go.Cr
end
