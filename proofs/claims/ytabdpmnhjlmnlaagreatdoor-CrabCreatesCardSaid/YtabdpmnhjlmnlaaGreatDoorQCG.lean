/- Texts of this work,joined by program (pack.py): PsC,PsB. -/
import Derived.Test.YtabdpmnhjlmnlaaGreatDoorQCC
set_option linter.unusedVariables false
section
namespace Go.Proofs.YtabdpmnhjlmnlaaGreatDoor
open Go Go.Pt
attribute [local irreducible] Code.wp Back bodyPost wpList FR WL WC WQ WA AW Tr Yc HC AllC
set_option maxRecDepth 20000
set_option maxHeartbeats 4000000
set_option linter.unusedVariables false
def zcC (S:Mem) (s:Pt) (bus:Value) (time:Int) (me:Int) (Q:List Value→Mem→Prop):Prop:=
 bus.oneCell'=true ∧
 ([eP s,bus,.int .u64 time,.int .i64 me]).all (·.oneCell')=true ∧
 jn (fun (v:List Value) (Sx:Mem)=>
 v.length=2 ∧
 jn (fun (v_1:List Value) (Sx_1:Mem)=>
 v_1.length=2 ∧
 jn (fun (w:Int) (ok:Bool) (Sx_2:Mem)=>
 if ok=true then
 zaJ Sx_2 (IntKind.u32.wrap w) fun t t_1 Sx_3=>
 if t_1=true then
 t.all (·.oneCell')=true ∧
 zco Sx_3 ([eP s,bus,.int .u64 time,.int .i64 me]) t fun t_2 Sx_4=>
 t_2.all (·.oneCell')=true ∧
 Q t_2 Sx_4
 else
 t.all (·.oneCell')=true ∧
 yt Sx_3 ([eP s,bus,.int .u64 time,.int .i64 me]) 1 w fun t_3 Sx_5=>
 t_3.all (·.oneCell')=true ∧
 Q t_3 Sx_5
 else
 nn s fun b_4 o=>
 gI (Sx_2.cell b_4 (o+16)) .u64 fun t_4=>
 yt Sx_2 ([.pointer (some ⟨b_4,o,none⟩),bus,.int .u64 time,.int .i64 me]) 2 t_4 fun t_5 Sx_6=>
 t_5.all (·.oneCell')=true ∧
 Q t_5 Sx_6) fun Jx=>
 nn s fun b_5 o_1=>
 gI (Sx_1.cell b_5 (o_1+16)) .u64 fun t_6=>
 je Sx_1 ([.pointer (some ⟨b_5,o_1,none⟩),bus,.int .u64 time,.int .i64 me]) t_6 4 fun t_7 t_8 Sx_7=>
 if t_8=true then
 Jx t_7 true Sx_7
 else
 Jx t_7 false Sx_7) fun Jx_1=>
 zdV Sx s fun t_9 t_10 Sx_8=>
 if t_10=true then
 yt Sx_8 ([eP s,bus,.int .u64 time,.int .i64 me]) (IntKind.u64.wrap (16+(IntKind.u64.wrap t_9))) 0 fun t_11 Sx_9=>
 t_11.all (·.oneCell')=true ∧
 Q t_11 Sx_9
 else
 Jx_1 v Sx_8) fun Jx_2=>
 if s=none then
 Q ([.int .u8 5,.int .u64 0]) S
 else
 ni bus fun i=>
 if i=true then
 Q ([.int .u8 5,.int .u64 0]) S
 else
 nn s fun b_6 o_2=>
 gI (S.cell b_6 (o_2+23)) .u8 fun t_12=>
 if t_12≠0 then
 Q ([.int .u8 5,.int .u64 0]) S
 else
 Jx_2 ([.int .u8 0,.int .u64 0]) S
theorem ziO {S:Mem} {s:Pt} {bus:Value} {time:Int} {me:Int} {Q:List Value→Mem→Prop} (H:zcC S s bus time me Q):zfW S s bus time me Q:=by
 unfold zcC at H
 exact Tr.intro Tryz.func61 E Tryz.ntmps61 E fun w0=>csr<|by refine zL E fun b=>?_;exact nxr<|mv E E<|mv E E<|mv E E<|mv E E<|an H fun c H1=>s_p E (zF (cs:=[eP s,bus,.int .u64 time,.int .i64 me]) E (yd (off:=0) (size:=1) E E (Nat.le_of_ble_eq_true E) (zjp (off:=1) E c (Nat.le_of_ble_eq_true E) (yd (off:=2) (size:=1) E E (Nat.le_of_ble_eq_true E) (yd (off:=3) (size:=1) E E (Nat.le_of_ble_eq_true E) (fQ))))))<|by exact by refine zL E fun b_1=>?_;exact an H1 fun c_1 H2=>qT (sz:=4) (vs:=[eP s,bus,.int .u64 time,.int .i64 me]) 1 E E E E E E (Nat.le_of_ble_eq_true E) c_1<|nx<|zn H2 (fun (J:List Value→Mem→Prop) (z:List Value) S=>J z S) (fun z=>⟨76,[(0,eP s),(8,.pointer (some ⟨b,0,none⟩)),(9,.pointer (some ⟨b_1,0,none⟩))]⟩) (fun z=>[⟨b,48,z⟩,⟨b_1,224,[eP s,bus,.int .u64 time,.int .i64 me]⟩]) (fun v Sx H3=>an H3 fun hv H4=>zn H4 (fun (J:List Value→Mem→Prop) (z:List Value) S=>J z S) (fun z=>⟨76,[(0,eP s),(8,.pointer (some ⟨b,0,none⟩)),(9,.pointer (some ⟨b_1,0,none⟩))]⟩) (fun z=>[⟨b,48,z⟩,⟨b_1,224,[eP s,bus,.int .u64 time,.int .i64 me]⟩]) (fun v_1 Sx_1 H5=>an H5 fun hv_1 H6=>zn H6 (fun (J:Int→Bool→Mem→Prop) (z:Int×Bool) S=>J z.1 z.2 S) (fun z=>⟨76,[(0,eP s),(8,.pointer (some ⟨b,0,none⟩)),(9,.pointer (some ⟨b_1,0,none⟩)),(12,.int .u64 z.1),(13,.bool z.2)]⟩) (fun z=>[⟨b,48,v_1⟩,⟨b_1,224,[eP s,bus,.int .u64 time,.int .i64 me]⟩]) (by rintro⟨w,ok⟩ Sx_2 H7;exact zC<|csr<|iteK H7 (fun c_2 H8=>s_p E (vp E c_2)<|s_p E (yB (ql E) E)<|nx<|cfs E E<|zt<|csr<|mv E E<|s_p E (qq ⟨_,Tryz.underlying39⟩ E)<|qr E E H8 fun rv Sx_3 H9=>by obtain⟨t,t_1,rfl,ht,H10⟩:=H9;exact mv E E<|s_p E (zg E E)<|iteK H10 (fun c_3 H11=>s_p E (yB (zg E E) c_3)<|by refine zL E fun b_2=>?_;exact an H11 fun c_4 H12=>zp 2 E E E E E ht E c_4<|gv E E<|nx<|zC<|csr<|mv E E<|s_p E (yB (ql E) E)<|nx<|cfs E E<|zt<|csr<|by refine s_v E (zT (vs:=[eP s,bus,.int .u64 time,.int .i64 me]) E E) (zE (k:=4) 1 E E) ?_;exact by refine s_v E (zT E ht) (zE (k:=5) 2 E (zk ht)) ?_;exact qr E E H12 fun rv Sx_4 H13=>by obtain⟨t_2,rfl,ht_2,H14⟩:=H13;exact an H14 fun c_5 H15=>zp 0 E E E E E ht_2 hv_1 c_5<|nx<|zi<|zh Tryz.results61 (zA E (zE (k:=2) 0 E (zk ht_2)) ht_2 ze) ⟨_,E,ht_2,H15⟩) fun c_3 H11=>s_p E (yB (zg E E) (kX c_3))<|by refine zL E fun b_3=>?_;exact an H11 fun c_6 H16=>zp 2 E E E E E ht E c_6<|gv E E<|nx<|zC<|csr<|mv E E<|s_p E (yB (ql E) E)<|nx<|c_t E E<|csr<|by refine s_v E (zT (vs:=[eP s,bus,.int .u64 time,.int .i64 me]) E E) (zE (k:=4) 1 E E) ?_;exact mv E E<|qr E E H16 fun rv Sx_5 H17=>by obtain⟨t_3,rfl,ht_3,H18⟩:=H17;exact an H18 fun c_7 H19=>zp 0 E E E E E ht_3 hv_1 c_7<|nx<|zi<|zb<|zh Tryz.results61 (zA E (zE (k:=2) 0 E (zk ht_3)) ht_3 ze) ⟨_,E,ht_3,H19⟩) fun c_2 H8=>s_p E (vp E (kX c_2))<|s_p E (yB (ql E) E)<|nx<|c_t E E<|zC<|zM (by kernel_rfl)<|by refine zV 0 E (by decide +kernel) (za (za zc)) E (zT (vs:=[eP s,bus,.int .u64 time,.int .i64 me]) E E) (zE (k:=4) 1 E E) ?_;exact a_takeP 1 E (by decide +kernel) (za (za zc)) E (zm E)<|by exact by obtain⟨b_4,o,rfl,H20⟩:=H8;exact a_takeP 2 E (by decide +kernel) (za (za zc)) E (zJ E)<|by exact a_takeP 3 E (by decide +kernel) (za (za zc)) E (zv E E)<|by exact gx H20 fun t_4 ht_4 H21=>zV 4 E (by decide +kernel) (za (za zc)) E (zz E) (zH ht_4)<|by exact zB 5 (by decide +kernel) E<|by exact qr E E H21 fun rv Sx_6 H22=>by obtain⟨t_5,rfl,ht_5,H23⟩:=H22;exact zr<|zN zy<|zB 6 (by decide +kernel) E<|by exact an H23 fun c_8 H24=>zp 0 E E E E E ht_5 hv_1 c_8<|zr<|zN zy<|zK (by decide +kernel)<|by exact zt<|zi<|zb<|zh Tryz.results61 (zA E (zE (k:=2) 0 E (zk ht_5)) ht_5 ze) ⟨_,E,ht_5,H24⟩) (fun Jx hJx H25=>zM (by kernel_rfl)<|by refine aT 0 E (by decide +kernel) E (zT (vs:=[eP s,bus,.int .u64 time,.int .i64 me]) E E) (zE (k:=4) 1 E E) ?_;exact aTP 1 E (by decide +kernel) E (zm E)<|by exact by obtain⟨b_5,o_1,rfl,H26⟩:=H25;exact aTP 2 E (by decide +kernel) E (zJ E)<|by exact aTP 3 E (by decide +kernel) E (zv E E)<|by exact gx H26 fun t_6 ht_6 H27=>aT 4 E (by decide +kernel) E (zz E) (zH ht_6)<|by exact zB 5 (by decide +kernel) E<|by exact gO E E H27 fun t_7 t_8 Sx_7 H28=>zr<|zN zy<|aTP 6 E (by decide +kernel) E (zm E)<|by exact aTP 7 E (by decide +kernel) E (zg E E)<|by exact iteK H28 (fun c_9 H29=>aTP 8 E (by decide +kernel) E (yB (zg E E) c_9)<|by exact aTP 9 E (by decide +kernel) E (zS E)<|by exact aTP 10 E (by decide +kernel) E (zS E)<|by exact zK (by decide +kernel)<|by exact hJx (t_7,true) _ _ _ _ [0,0] H29 E ⟨E,E,E,E,E,True.intro⟩ E) fun c_9 H29=>aTP 8 E (by decide +kernel) E (yB (zg E E) (kX c_9))<|by exact aTP 9 E (by decide +kernel) E (zS E)<|by exact aTP 10 E (by decide +kernel) E (zS E)<|by exact zK (by decide +kernel)<|by exact hJx (t_7,false) _ _ _ _ [0,0] H29 E ⟨E,E,E,E,E,True.intro⟩ E)) (fun Jx_1 hJx_1 H30=>csr<|mv E E<|gO E E H30 fun t_9 t_10 Sx_8 H31=>mv E E<|s_p E (zg E E)<|iteK H31 (fun c_10 H32=>s_p E (yB (zg E E) c_10)<|gv E E<|gv E E<|nxr<|mv E E<|nx<|c_t E E<|csr<|by refine s_v E (zT (vs:=[eP s,bus,.int .u64 time,.int .i64 me]) E E) (zE (k:=4) 1 E E) ?_;exact mv E E<|s_p E (qq ⟨_,Tryz.underlying3⟩ E)<|s_p E (qh E E)<|qr E E H32 fun rv Sx_9 H33=>by obtain⟨t_11,rfl,ht_11,H34⟩:=H33;exact an H34 fun c_11 H35=>zp 0 E E E E E ht_11 hv c_11<|nx<|zi<|zb<|zh Tryz.results61 (zA E (zE (k:=2) 0 E (zk ht_11)) ht_11 ze) ⟨_,E,ht_11,H35⟩) fun c_10 H32=>s_p E (yB (zg E E) (kX c_10))<|gv E E<|gv E E<|nxr<|mv E E<|nx<|cfs E E<|hJx_1 v _ _ _ _ [0,0] H32 E ⟨E,E,E,True.intro⟩ E)) (fun Jx_2 hJx_2 H36=>csr<|mv E E<|iteK H36 (fun c_12 H37=>s_p E (yT (qE (p:=s) E E) c_12)<|mv E E<|sk2 E E<|pk E E E<|mv E E<|sk4 E E E E<|zP E<|pk E E E<|nx<|c_t E E<|csr<|s_p E (zF E E)<|by exact qT (sz:=2) (vs:=[.int .u8 5,.int .u64 0]) 0 E E E E E E (Nat.le_of_ble_eq_true E) E<|nx<|zi<|zb<|zh Tryz.results61 (zA E (zE (k:=2) 0 E E) E ze) ⟨_,E,E,H37⟩) fun c_12 H37=>s_p E (yF (qE (p:=s) E E) c_12)<|mv E E<|mv E E<|gx H37 fun i hi H38=>iteK H38 (fun c_13 H39=>s_p E (yB (zjH E hi) c_13)<|pk E E E<|mv E E<|sk4 E E E E<|zP E<|pk E E E<|nx<|c_t E E<|csr<|s_p E (zF E E)<|by exact qT (sz:=2) (vs:=[.int .u8 5,.int .u64 0]) 0 E E E E E E (Nat.le_of_ble_eq_true E) E<|nx<|zi<|zb<|zh Tryz.results61 (zA E (zE (k:=2) 0 E E) E ze) ⟨_,E,E,H39⟩) fun c_13 H39=>s_p E (yB (zjH E hi) (kX c_13))<|pk E E E<|mv E E<|mv E E<|by obtain⟨b_6,o_2,rfl,H40⟩:=H39;exact s_p E (zJ E)<|s_p E (zv E E)<|gx H40 fun t_12 ht_12 H41=>s_v E (zz E) (zH ht_12)<|iteK H41 (fun c_14 H42=>s_p E (yT (zQ E E) c_14)<|pk E E E<|nx<|c_t E E<|csr<|s_p E (zF E E)<|by exact qT (sz:=2) (vs:=[.int .u8 5,.int .u64 0]) 0 E E E E E E (Nat.le_of_ble_eq_true E) E<|nx<|zi<|zb<|zh Tryz.results61 (zA E (zE (k:=2) 0 E E) E ze) ⟨_,E,E,H42⟩) fun c_14 H42=>s_p E (yF (zQ E E) c_14)<|pk E E E<|nx<|cfs E E<|hJx_2 ([.int .u8 0,.int .u64 0]) _ _ _ _ [0,0] H42 E ⟨E,E,E,True.intro⟩ E)
def jw (S:Mem) (c:List Value) (cause:Int) (addr:Int) (Q:List Value→Mem→Prop):Prop:=
 c.length=4 ∧
 gP (nthL c 0) fun t=>
 zdI S t cause addr fun Sx=>
 gP (nthL c 0) fun t_1=>
 nn t_1 fun b_2 o=>
 gI (Sx.cell b_2 (o+23)) .u8 fun t_2=>
 if t_2=2 then
 Q ([.int .u8 4,.int .u64 cause]) Sx
 else
 Q ([.int .u8 1,.int .u64 cause]) Sx
theorem zeu {S:Mem} {c:List Value} {cause:Int} {addr:Int} {Q:List Value→Mem→Prop} (H:jw S c cause addr Q):yt S c cause addr Q:=by
 unfold jw at H
 exact Tr.intro Tryz.func121 E Tryz.ntmps121 E fun w0=>an H fun hc H1=>csr<|qM E E E fun b=>by refine zL E fun b_1=>?_;exact nxr<|s_p E (zv E E)<|gx H1 fun t ht H2=>s_v E (zz E) (zW 0 E ht)<|mv E E<|mv E E<|fK E E H2 fun Sx H3=>nx<|zC<|csr<|s_p E (zv E E)<|gx H3 fun t_1 ht_1 H4=>s_v E (zz E) (zW 0 E ht_1)<|by obtain⟨b_2,o,rfl,H5⟩:=H4;exact s_p E (zJ E)<|s_p E (zv E E)<|gx H5 fun t_2 ht_2 H6=>s_v E (zz E) (zH ht_2)<|iteK H6 (fun c_1 H7=>ceT E E E (c_1)<|nx<|c_t E E<|csr<|mv E E<|s_p E (zF E E)<|by exact qT (sz:=2) (vs:=[.int .u8 4,.int .u64 cause]) 1 E E E E E E (Nat.le_of_ble_eq_true E) E<|nx<|zi<|zb<|zh Tryz.results121 (zA E (zE (k:=2) 1 E E) E ze) ⟨_,E,E,H7⟩) fun c_1 H7=>ceF E E E (c_1)<|nx<|cfs E E<|zt<|csr<|mv E E<|s_p E (zF E E)<|by exact qT (sz:=2) (vs:=[.int .u8 1,.int .u64 cause]) 1 E E E E E E (Nat.le_of_ble_eq_true E) E<|nx<|zi<|zh Tryz.results121 (zA E (zE (k:=2) 1 E E) E ze) ⟨_,E,E,H7⟩
def jz (S:Mem) (c:List Value) (addr:Int) (n:Int) (Q:Int→Bool→Mem→Prop):Prop:=
 c.length=4 ∧
 jn (fun (page:Int) (off:Int) (ok:Bool) (Sx:Mem)=>
 jn (fun (Sx_1:Mem)=>
 gV (nthL c 1) fun t=>
 ci Tryz.prog Sx_1 t "Load" [.int .i64 page, .int .i64 off, .int .i64 n] fun rv Sx_2 => ∃ t_1 : Sl, ∃ t_2 : Int, rv = .tuple #[eL t_1, .int .i64 t_2] ∧ 
 zdm Sx_2 t_1 fun t_3 Sx_3=>
 Q t_3 (decide (t_2=0)) Sx_3) fun Jx=>
 if ok=true then
 IntKind.u64.wrap n≠0 ∧
 if Int.tmod addr (IntKind.u64.wrap n)≠0 then
 Q 0 false Sx
 else
 Jx Sx
 else
 Q 0 false Sx) fun Jx_1=>
 kd S c addr false fun t_4 t_5 t_6 Sx_4=>
 if t_6=true then
 Jx_1 t_4 t_5 true Sx_4
 else
 Jx_1 t_4 t_5 false Sx_4
theorem zew {S:Mem} {c:List Value} {addr:Int} {n:Int} {Q:Int→Bool→Mem→Prop} (H:jz S c addr n Q):je S c addr n Q:=by
 unfold jz at H
 exact Tr.intro Tryz.func122 E Tryz.ntmps122 E fun w0=>an H fun hc H1=>csr<|qM E E E fun b=>gv E E<|gv E E<|nx<|zn H1 (fun (J:Int→Int→Bool→Mem→Prop) (z:Int×Int×Bool) S=>J z.1 z.2.1 z.2.2 S) (fun z=>⟨42,[(1,.int .u64 addr),(2,.int .i64 n),(3,.pointer (some ⟨b,0,none⟩)),(8,.int .i64 z.1),(9,.int .i64 z.2.1),(10,.bool z.2.2)]⟩) (fun z=>[⟨b,224,c⟩]) (by rintro⟨page,off,ok⟩ Sx H2;exact zn H2 (fun (J:Mem→Prop) (z:Unit) S=>J S) (fun z=>⟨42,[(2,.int .i64 n),(3,.pointer (some ⟨b,0,none⟩)),(8,.int .i64 page),(9,.int .i64 off)]⟩) (fun z=>[⟨b,224,c⟩]) (fun _ Sx_1 H3=>csr<|s_p E (zv E E)<|gx H3 fun t ht H4=>s_v E (zz E) (zW 0 E ht)<|mv E E<|mv E E<|mv E E<|zif E E E H4 fun rv Sx_2 H5=>by obtain⟨t_1,t_2,rfl,H6⟩:=H5;exact mv E E<|s_p E (zg E E)<|s_p E (zg E E)<|gv E E<|gv E E<|nxr<|mv E E<|qC E E H6 fun t_3 Sx_3 H7=>mv E E<|s_p E (jA E E)<|gv E E<|gv E E<|nx<|zi<|zh Tryz.results122 (zd E (zd E ze)) ⟨_,_,E,H7⟩) (fun Jx hJx H8=>csr<|iteK H8 (fun c_1 H9=>s_p E (vp E c_1)<|s_p E (yB (ql E) E)<|mv E E<|mv E E<|mv E E<|s_p E (qq ⟨_,Tryz.underlying3⟩ E)<|an H9 fun c_2 H10=>s_p E (ziC E E c_2)<|iteK H10 (fun c_3 H11=>s_p E (yT (zQ E E) c_3)<|pk E E E<|nx<|c_t E E<|csr<|gv E E<|gv E E<|nx<|zi<|zb<|zh Tryz.results122 (zd E (zd E ze)) ⟨_,_,E,H11⟩) fun c_3 H11=>s_p E (yF (zQ E E) c_3)<|pk E E E<|nx<|cfs E E<|hJx () _ _ _ _ [0] H11 E ⟨E,E,E,E,True.intro⟩ E) fun c_1 H9=>s_p E (vp E (kX c_1))<|s_p E (yB (ql E) E)<|mv E E<|sk4 E E E E<|zP E<|pk E E E<|nx<|c_t E E<|csr<|gv E E<|gv E E<|nx<|zi<|zb<|zh Tryz.results122 (zd E (zd E ze)) ⟨_,_,E,H9⟩)) (fun Jx_1 hJx_1 H12=>zu<|by refine s_v E (zT E hc) (zE (k:=4) 0 E (zk hc)) ?_;exact mv E E<|zof E E H12 fun t_4 t_5 t_6 Sx_4 H13=>mv E E<|s_p E (zg E E)<|s_p E (zg E E)<|iteK H13 (fun c_4 H14=>s_p E (yB (zg E E) c_4)<|gv E E<|gv E E<|gv E E<|zr<|hJx_1 (t_4,t_5,true) _ _ _ _ [0] H14 E ⟨E,E,E,E,E,E,True.intro⟩ E) fun c_4 H14=>s_p E (yB (zg E E) (kX c_4))<|gv E E<|gv E E<|gv E E<|zr<|hJx_1 (t_4,t_5,false) _ _ _ _ [0] H14 E ⟨E,E,E,E,E,E,True.intro⟩ E)
def fq (S:Mem) (c:List Value) (o:List Value) (Q:List Value→Mem→Prop):Prop:=
 c.length=4 ∧
 o.length=5 ∧
 gP (nthL c 0) fun t=>
 gI (nthL o 4) .i16 fun t_1=>
 nn t fun b_3 o_1=>
 gI (S.cell b_3 (o_1+16)) .u64 fun t_2=>
 gI (nthL o 1) .u8 fun t_3=>
 0≤t_3∧t_3<16 ∧
 gI (S.cell b_3 (o_1+t_3.toNat*1)) .u64 fun t_4=>
 gI (nthL o 2) .u8 fun t_5=>
 0≤t_5∧t_5<16 ∧
 gI (S.cell b_3 (o_1+t_5.toNat*1)) .u64 fun t_6=>
 jn (fun (next:Int) (v:List Value) (Sx:Mem)=>
 v.length=2 ∧
 pt Sx b_3 (o_1+16) 1 ([.int .u64 next]) fun Sx_1=>
 Q ([.int .u8 0,.int .u64 0]) Sx_1) fun Jx=>
 gI (nthL o 0) .u8 fun t_7=>
 if t_7=1 then
 gI (nthL o 1) .u8 fun t_8=>
 0≤t_8∧t_8<16 ∧
 pt S b_3 (o_1+t_8.toNat*1) 1 ([.int .u64 (IntKind.u64.wrap (IntKind.i64.wrap t_1))]) fun Sx_2=>
 Jx (IntKind.u64.wrap (t_2+4)) ([.int .u8 0,.int .u64 0]) Sx_2
 else
 if t_7=2 then
 gI (nthL o 1) .u8 fun t_9=>
 ym S t_4 16 48 (IntKind.u64.wrap (IntKind.i64.wrap t_1)) fun t_10 Sx_3=>
 0≤t_9∧t_9<16 ∧
 pt Sx_3 b_3 (o_1+t_9.toNat*1) 1 ([.int .u64 t_10]) fun Sx_4=>
 Jx (IntKind.u64.wrap (t_2+4)) ([.int .u8 0,.int .u64 0]) Sx_4
 else
 if t_7=11 then
 gI (nthL o 1) .u8 fun t_11=>
 0≤t_11∧t_11<16 ∧
 pt S b_3 (o_1+t_11.toNat*1) 1 ([.int .u64 (IntKind.u64.wrap (t_6+(IntKind.u64.wrap (IntKind.i64.wrap t_1))))]) fun Sx_5=>
 Jx (IntKind.u64.wrap (t_2+4)) ([.int .u8 0,.int .u64 0]) Sx_5
 else
 if t_7=12 then
 je S c (IntKind.u64.wrap (t_6+(IntKind.u64.wrap (IntKind.i64.wrap t_1)))) 8 fun t_12 t_13 Sx_6=>
 if t_13=true then
 gI (nthL o 1) .u8 fun t_14=>
 0≤t_14∧t_14<16 ∧
 pt Sx_6 b_3 (o_1+t_14.toNat*1) 1 ([.int .u64 t_12]) fun Sx_7=>
 Jx (IntKind.u64.wrap (t_2+4)) ([.int .u8 0,.int .u64 0]) Sx_7
 else
 yt Sx_6 c 3 (IntKind.u64.wrap (t_6+(IntKind.u64.wrap (IntKind.i64.wrap t_1)))) fun t_15 Sx_8=>
 t_15.all (·.oneCell')=true ∧
 Q t_15 Sx_8
 else
 if t_7=13 then
 ff S c (IntKind.u64.wrap (t_6+(IntKind.u64.wrap (IntKind.i64.wrap t_1)))) t_4 fun t_16 Sx_9=>
 if t_16=true then
 Jx (IntKind.u64.wrap (t_2+4)) ([.int .u8 0,.int .u64 0]) Sx_9
 else
 yt Sx_9 c 4 (IntKind.u64.wrap (t_6+(IntKind.u64.wrap (IntKind.i64.wrap t_1)))) fun t_17 Sx_10=>
 t_17.all (·.oneCell')=true ∧
 Q t_17 Sx_10
 else
 jn (fun (t_18:Bool) (Sx_11:Mem)=>
 if t_18=true then
 gI (nthL o 0) .u8 fun t_19=>
 fe Sx_11 t_19 t_4 t_6 fun t_20 Sx_12=>
 if t_20=true then
 gI (Sx_12.cell b_3 (o_1+16)) .u64 fun t_21=>
 Jx (IntKind.u64.wrap (t_21+(IntKind.u64.wrap (4*(IntKind.u64.wrap (IntKind.i64.wrap t_1)))))) ([.int .u8 0,.int .u64 0]) Sx_12
 else
 Jx (IntKind.u64.wrap (t_2+4)) ([.int .u8 0,.int .u64 0]) Sx_12
 else
 if t_7=17 then
 gI (nthL o 1) .u8 fun t_22=>
 0≤t_22∧t_22<16 ∧
 pt Sx_11 b_3 (o_1+t_22.toNat*1) 1 ([.int .u64 (IntKind.u64.wrap (t_2+4))]) fun Sx_13=>
 Jx (IntKind.u64.wrap (t_6+(IntKind.u64.wrap (IntKind.i64.wrap t_1)))) ([.int .u8 0,.int .u64 0]) Sx_13
 else
 if t_7=18 then
 gI (nthL o 1) .u8 fun t_23=>
 gA (Sx_11.part b_3 o_1 26) fun t_24=>
 gI (nthL o 4) .i16 fun t_25=>
 gI (nthL c 2) .u64 fun t_26=>
 gI (nthL c 3) .i64 fun t_27=>
 zfv Sx_11 t_24 (IntKind.i64.wrap t_25) t_26 t_27 fun t_28 t_29 Sx_14=>
 0≤t_23∧t_23<16 ∧
 pt Sx_14 b_3 (o_1+t_23.toNat*1) 1 ([.int .u64 t_28]) fun Sx_15=>
 Jx (IntKind.u64.wrap (t_2+4)) ([.int .u8 0,.int .u64 0]) Sx_15
 else
 if t_7=19 then
 gI (nthL o 4) .i16 fun t_30=>
 zfu Sx_11 (some (b_3,o_1)) (IntKind.i64.wrap t_30) t_4 fun t_31 Sx_16=>
 if t_31=true then
 zbD Sx_16 (some (b_3,o_1)) fun Sx_17=>
 Jx (IntKind.u64.wrap (t_2+4)) ([.int .u8 0,.int .u64 0]) Sx_17
 else
 gI (Sx_16.cell b_3 (o_1+16)) .u64 fun t_32=>
 yt Sx_16 c 1 t_32 fun t_33 Sx_18=>
 t_33.all (·.oneCell')=true ∧
 Q t_33 Sx_18
 else
 if t_7=20 then
 pt Sx_11 b_3 (o_1+16) 1 ([.int .u64 (IntKind.u64.wrap (t_2+4))]) fun Sx_19=>
 Q ([.int .u8 2,.int .u64 (IntKind.u64.wrap (IntKind.i64.wrap t_1))]) Sx_19
 else
 if t_7=21 then
 pt Sx_11 b_3 (o_1+16) 1 ([.int .u64 (IntKind.u64.wrap (t_2+4))]) fun Sx_20=>
 gI (Sx_20.cell b_3 (o_1+24)) .u32 fun t_34=>
 gI (Sx_20.cell b_3 (o_1+25)) .u32 fun t_35=>
 if iand .u32 t_34 t_35=0 then
 pt Sx_20 b_3 (o_1+23) 1 ([.int .u8 1]) fun Sx_21=>
 Q ([.int .u8 3,.int .u64 0]) Sx_21
 else
 Q ([.int .u8 0,.int .u64 0]) Sx_20
 else
 if t_7=22 then
 zdK Sx_11 (some (b_3,o_1)) fun Sx_22=>
 Q ([.int .u8 0,.int .u64 0]) Sx_22
 else
 gI (nthL o 0) .u8 fun t_36=>
 if 3≤t_36 then
 gI (nthL o 1) .u8 fun t_37=>
 gI (nthL o 0) .u8 fun t_38=>
 gI (nthL o 3) .u8 fun t_39=>
 0≤t_39∧t_39<16 ∧
 gI (Sx_11.cell b_3 (o_1+t_39.toNat*1)) .u64 fun t_40=>
 zfV Sx_11 t_38 t_6 t_40 fun t_41 Sx_23=>
 0≤t_37∧t_37<16 ∧
 pt Sx_23 b_3 (o_1+t_37.toNat*1) 1 ([.int .u64 t_41]) fun Sx_24=>
 Jx (IntKind.u64.wrap (t_2+4)) ([.int .u8 0,.int .u64 0]) Sx_24
 else
 Jx (IntKind.u64.wrap (t_2+4)) ([.int .u8 0,.int .u64 0]) Sx_11) fun Jx_1=>
 if t_7=14 then
 Jx_1 true S
 else
 if t_7=15 then
 Jx_1 true S
 else
 if t_7=16 then
 Jx_1 true S
 else
 Jx_1 false S
theorem zgn {S:Mem} {c:List Value} {o:List Value} {Q:List Value→Mem→Prop} (H:fq S c o Q):zco S c o Q:=by
 unfold fq at H
 exact Tr.intro Tryz.func124 E Tryz.ntmps124 E fun w0=>an H fun hc H1=>an H1 fun ho H2=>csr<|qM E E E fun b=>qM E E E fun b_1=>by refine zL E fun b_2=>?_;exact nxr<|s_p E (zv E E)<|gx H2 fun t ht H3=>s_v E (zz E) (zW 0 E ht)<|gv E E<|nxr<|s_p E (zv E E)<|gx H3 fun t_1 ht_1 H4=>s_v E (zz E) (zW 1 E ht_1)<|s_p E (qq ⟨_,Tryz.underlying54⟩ E)<|s_p E (qq ⟨_,Tryz.underlying2⟩ E)<|gv E E<|nxr<|mv E E<|by obtain⟨b_3,o_1,rfl,H5⟩:=H4;exact s_p E (zJ E)<|s_p E (zv E E)<|gx H5 fun t_2 ht_2 H6=>s_v E (zz E) (zH ht_2)<|s_p E (qh E E)<|gv E E<|nx<|zC<|zM (by kernel_rfl)<|aTP 0 E (by decide +kernel) E (zm E)<|by exact aTP 1 E (by decide +kernel) E (zv E E)<|by exact gx H6 fun t_3 ht_3 H7=>aT 2 E (by decide +kernel) E (zz E) (zW 1 E ht_3)<|by exact aTP 3 E (by decide +kernel) E (zJ E)<|by exact aTP 4 E (by decide +kernel) E (zv E E)<|by exact an2 H7 fun c_1 c_2 H8=>aTP 5 E (by decide +kernel) E (qv E E c_1 c_2 E)<|by exact gx H8 fun t_4 ht_4 H9=>aT 6 E (by decide +kernel) E (zz E) (zH ht_4)<|by exact aTP 7 E (by decide +kernel) E (zm E)<|by exact aTP 8 E (by decide +kernel) E (zv E E)<|by exact gx H9 fun t_5 ht_5 H10=>aT 9 E (by decide +kernel) E (zz E) (zW 1 E ht_5)<|by exact aTP 10 E (by decide +kernel) E (zJ E)<|by exact aTP 11 E (by decide +kernel) E (zv E E)<|by exact an2 H10 fun c_3 c_4 H11=>aTP 12 E (by decide +kernel) E (qv E E c_3 c_4 E)<|by exact gx H11 fun t_6 ht_6 H12=>aT 13 E (by decide +kernel) E (zz E) (zH ht_6)<|by exact aTP 14 E (by decide +kernel) E (zS E)<|by exact aTP 15 E (by decide +kernel) E (zS E)<|by exact zK (by decide +kernel)<|by exact zt<|zn H12 (fun (J:Int→List Value→Mem→Prop) (z:Int×List Value) S=>J z.1 z.2 S) (fun z=>⟨234,[(4,.pointer (some ⟨b_2,0,none⟩)),(5,.pointer (some ⟨b_3,o_1,none⟩)),(7,.int .u64 z.1)]⟩) (fun z=>[⟨b_2,48,z.2⟩]) (by rintro⟨next,v⟩ Sx H13;exact an H13 fun hv H14=>csr<|mv E E<|mv E E<|s_p E (zJ E)<|s_p E (zv E E)<|an H14 fun c_5 H15=>qo E E E E E c_5 E<|nxr<|s_p E (zF E E)<|by exact zp 0 E E E E E E hv E<|nx<|zi<|zh Tryz.results124 (zA E (zE (k:=2) 0 E E) E ze) ⟨_,E,E,H15⟩) (fun Jx hJx H16=>csr<|s_p E (zv E E)<|gx H16 fun t_7 ht_7 H17=>s_v E (zz E) (zW 1 E ht_7)<|nx<|zw<|csr<|iteK H17 (fun c_6 H18=>ceT E E E (c_6)<|gv E E<|nx<|c_t E E<|zM (by kernel_rfl)<|a_takeP 0 E (by decide +kernel) (zf (za zc)) E (zm E)<|by exact a_takeP 1 E (by decide +kernel) (zf (za zc)) E (zv E E)<|by exact gx H18 fun t_8 ht_8 H19=>zV 2 E (by decide +kernel) (zf (za zc)) E (zz E) (zW 1 E ht_8)<|by exact a_takeP 3 E (by decide +kernel) (zf (za zc)) E (zm E)<|by exact a_takeP 4 E (by decide +kernel) (zf (za zc)) E (zJ E)<|by exact a_takeP 5 E (by decide +kernel) (zf (za zc)) E (zv E E)<|by exact an2 H19 fun c_7 c_8 H20=>a_takeP 6 E (by decide +kernel) (zf (za zc)) E (qv E E c_7 c_8 E)<|by exact zB 7 (by decide +kernel) E<|by exact an H20 fun c_9 H21=>qo E E E E E c_9 E<|zr<|zN zy<|zK (by decide +kernel)<|by exact zU<|hJx (IntKind.u64.wrap (t_2+4),[.int .u8 0,.int .u64 0]) _ _ _ _ [2] H21 E ⟨E,E,E,True.intro⟩ E) fun c_6 H18=>ceF E E E (c_6)<|gv E E<|nx<|c_f E E<|csr<|iteK H18 (fun c_10 H22=>ceT E E E (c_10)<|gv E E<|nx<|c_t E E<|zM (by kernel_rfl)<|a_takeP 0 E (by decide +kernel) (zf (za zc)) E (zm E)<|by exact a_takeP 1 E (by decide +kernel) (zf (za zc)) E (zv E E)<|by exact gx H22 fun t_9 ht_9 H23=>zV 2 E (by decide +kernel) (zf (za zc)) E (zz E) (zW 1 E ht_9)<|by exact a_takeP 3 E (by decide +kernel) (zf (za zc)) E (zm E)<|by exact a_takeP 4 E (by decide +kernel) (zf (za zc)) E (zm E)<|by exact a_takeP 6 E (by decide +kernel) (zf (za zc)) E (zJ E)<|by exact a_takeP 7 E (by decide +kernel) (zf (za zc)) E (zv E E)<|by exact zB 5 (by decide +kernel) E<|by exact qC E E H23 fun t_10 Sx_3 H24=>zr<|zN (zx (zW 1 E ht_9) zy)<|an2 H24 fun c_11 c_12 H25=>a_takeP 8 E (by decide +kernel) (zf (za zc)) E (qv E E c_11 c_12 E)<|by exact zB 9 (by decide +kernel) E<|by exact an H25 fun c_13 H26=>qo E E E E E c_13 E<|zr<|zN zy<|zK (by decide +kernel)<|by exact zU<|hJx (IntKind.u64.wrap (t_2+4),[.int .u8 0,.int .u64 0]) _ _ _ _ [2] H26 E ⟨E,E,E,True.intro⟩ E) fun c_10 H22=>ceF E E E (c_10)<|gv E E<|nx<|c_f E E<|csr<|iteK H22 (fun c_14 H27=>ceT E E E (c_14)<|gv E E<|nx<|c_t E E<|zM (by kernel_rfl)<|a_takeP 0 E (by decide +kernel) (zf (za zc)) E (zm E)<|by exact a_takeP 1 E (by decide +kernel) (zf (za zc)) E (zv E E)<|by exact gx H27 fun t_11 ht_11 H28=>zV 2 E (by decide +kernel) (zf (za zc)) E (zz E) (zW 1 E ht_11)<|by exact a_takeP 3 E (by decide +kernel) (zf (za zc)) E (zm E)<|by exact a_takeP 4 E (by decide +kernel) (zf (za zc)) E (zm E)<|by exact a_takeP 5 E (by decide +kernel) (zf (za zc)) E (qh E E)<|by exact a_takeP 6 E (by decide +kernel) (zf (za zc)) E (zJ E)<|by exact a_takeP 7 E (by decide +kernel) (zf (za zc)) E (zv E E)<|by exact an2 H28 fun c_15 c_16 H29=>a_takeP 8 E (by decide +kernel) (zf (za zc)) E (qv E E c_15 c_16 E)<|by exact zB 9 (by decide +kernel) E<|by exact an H29 fun c_17 H30=>qo E E E E E c_17 E<|zr<|zN zy<|zK (by decide +kernel)<|by exact zU<|hJx (IntKind.u64.wrap (t_2+4),[.int .u8 0,.int .u64 0]) _ _ _ _ [2] H30 E ⟨E,E,E,True.intro⟩ E) fun c_14 H27=>ceF E E E (c_14)<|gv E E<|nx<|c_f E E<|csr<|iteK H27 (fun c_18 H31=>ceT E E E (c_18)<|gv E E<|nx<|c_t E E<|csr<|by refine s_v E (zT E hc) (zE (k:=4) 0 E (zk hc)) ?_;exact mv E E<|mv E E<|s_p E (qh E E)<|gO E E H31 fun t_12 t_13 Sx_6 H32=>mv E E<|s_p E (zg E E)<|iteK H32 (fun c_19 H33=>s_p E (yB (zg E E) c_19)<|gv E E<|gv E E<|nx<|zC<|csr<|mv E E<|s_p E (yB (ql E) E)<|nx<|cfs E E<|zt<|zM (by kernel_rfl)<|a_takeP 0 E (by decide +kernel) (zf (za zc)) E (zm E)<|by exact a_takeP 1 E (by decide +kernel) (zf (za zc)) E (zv E E)<|by exact gx H33 fun t_14 ht_14 H34=>zV 2 E (by decide +kernel) (zf (za zc)) E (zz E) (zW 1 E ht_14)<|by exact a_takeP 3 E (by decide +kernel) (zf (za zc)) E (zm E)<|by exact a_takeP 4 E (by decide +kernel) (zf (za zc)) E (zJ E)<|by exact a_takeP 5 E (by decide +kernel) (zf (za zc)) E (zv E E)<|by exact an2 H34 fun c_20 c_21 H35=>a_takeP 6 E (by decide +kernel) (zf (za zc)) E (qv E E c_20 c_21 E)<|by exact zB 7 (by decide +kernel) E<|by exact an H35 fun c_22 H36=>qo E E E E E c_22 E<|zr<|zN zy<|zK (by decide +kernel)<|by exact zU<|hJx (IntKind.u64.wrap (t_2+4),[.int .u8 0,.int .u64 0]) _ _ _ _ [2] H36 E ⟨E,E,E,True.intro⟩ E) fun c_19 H33=>s_p E (yB (zg E E) (kX c_19))<|gv E E<|gv E E<|nx<|zC<|csr<|mv E E<|s_p E (yB (ql E) E)<|nx<|c_t E E<|csr<|by refine s_v E (zT E hc) (zE (k:=4) 0 E (zk hc)) ?_;exact mv E E<|mv E E<|s_p E (qh E E)<|qr E E H33 fun rv Sx_8 H37=>by obtain⟨t_15,rfl,ht_15,H38⟩:=H37;exact an H38 fun c_23 H39=>zp 2 E E E E E ht_15 E c_23<|nx<|zi<|zb<|zj<|zb<|zh Tryz.results124 (zA E (zE (k:=2) 2 E (zk ht_15)) ht_15 ze) ⟨_,E,ht_15,H39⟩) fun c_18 H31=>ceF E E E (c_18)<|gv E E<|nx<|c_f E E<|csr<|iteK H31 (fun c_24 H40=>ceT E E E (c_24)<|gv E E<|nx<|c_t E E<|csr<|by refine s_v E (zT E hc) (zE (k:=4) 0 E (zk hc)) ?_;exact mv E E<|mv E E<|s_p E (qh E E)<|mv E E<|qC E E H40 fun t_16 Sx_9 H41=>by have H42:=wM H41;rcases H42 with ⟨rfl,H43⟩ | ⟨rfl,H43⟩;exact (s_p E (yB (ql E) E)<|nx<|cfs E E<|zU<|hJx (IntKind.u64.wrap (t_2+4),[.int .u8 0,.int .u64 0]) _ _ _ _ [2] H43 E ⟨E,E,E,True.intro⟩ E);exact (s_p E (yB (ql E) E)<|nx<|c_t E E<|csr<|by refine s_v E (zT E hc) (zE (k:=4) 0 E (zk hc)) ?_;exact mv E E<|mv E E<|s_p E (qh E E)<|qr E E H43 fun rv Sx_10 H44=>by obtain⟨t_17,rfl,ht_17,H45⟩:=H44;exact an H45 fun c_25 H46=>zp 2 E E E E E ht_17 E c_25<|nx<|zi<|zj<|zb<|zh Tryz.results124 (zA E (zE (k:=2) 2 E (zk ht_17)) ht_17 ze) ⟨_,E,ht_17,H46⟩)) fun c_24 H40=>ceF E E E (c_24)<|gv E E<|nx<|c_f E E<|zn H40 (fun (J:Bool→Mem→Prop) (z:Bool) S=>J z S) (fun z=>⟨234,[(2,.pointer (some ⟨b,0,none⟩)),(3,.pointer (some ⟨b_1,0,none⟩)),(4,.pointer (some ⟨b_2,0,none⟩)),(5,.pointer (some ⟨b_3,o_1,none⟩)),(6,.int .u64 (IntKind.u64.wrap (IntKind.i64.wrap t_1))),(7,.int .u64 (IntKind.u64.wrap (t_2+4))),(8,.int .u64 t_4),(9,.int .u64 t_6),(38,.int .u8 t_7),(128,.bool z)]⟩) (fun z=>[⟨b,224,c⟩,⟨b_1,231,o⟩,⟨b_2,48,[.int .u8 0,.int .u64 0]⟩]) (fun t_18 Sx_11 H47=>by have H48:=wM H47;rcases H48 with ⟨c_26,H49⟩ | ⟨c_26,H49⟩;exact (c_t E c_26<|csr<|s_p E (zv E E)<|gx H49 fun t_19 ht_19 H50=>s_v E (zz E) (zW 1 E ht_19)<|mv E E<|mv E E<|qC E E H50 fun t_20 Sx_12 H51=>by have H52:=wM H51;rcases H52 with ⟨rfl,H53⟩ | ⟨rfl,H53⟩;exact (nx<|ctr E E<|mv E E<|s_p E (zJ E)<|s_p E (zv E E)<|gx H53 fun t_21 ht_21 H54=>s_v E (zz E) (zH ht_21)<|mv E E<|s_p E (ji E E)<|s_p E (qh E E)<|gv E E<|zr<|zU<|hJx (IntKind.u64.wrap (t_21+(IntKind.u64.wrap (4*(IntKind.u64.wrap (IntKind.i64.wrap t_1))))),[.int .u8 0,.int .u64 0]) _ _ _ _ [2] H54 E ⟨E,E,E,True.intro⟩ E);exact (nx<|cfs E E<|zU<|hJx (IntKind.u64.wrap (t_2+4),[.int .u8 0,.int .u64 0]) _ _ _ _ [2] H53 E ⟨E,E,E,True.intro⟩ E));exact (c_f E c_26<|csr<|iteK H49 (fun c_27 H55=>ceT E E E (c_27)<|gv E E<|nx<|c_t E E<|zM (by kernel_rfl)<|a_takeP 0 E (by decide +kernel) (zf (za zc)) E (zm E)<|by exact a_takeP 1 E (by decide +kernel) (zf (za zc)) E (zv E E)<|by exact gx H55 fun t_22 ht_22 H56=>zV 2 E (by decide +kernel) (zf (za zc)) E (zz E) (zW 1 E ht_22)<|by exact a_takeP 3 E (by decide +kernel) (zf (za zc)) E (zm E)<|by exact a_takeP 4 E (by decide +kernel) (zf (za zc)) E (zm E)<|by exact a_takeP 5 E (by decide +kernel) (zf (za zc)) E (zm E)<|by exact a_takeP 6 E (by decide +kernel) (zf (za zc)) E (qh E E)<|by exact a_takeP 7 E (by decide +kernel) (zf (za zc)) E (zJ E)<|by exact a_takeP 8 E (by decide +kernel) (zf (za zc)) E (zv E E)<|by exact an2 H56 fun c_28 c_29 H57=>a_takeP 9 E (by decide +kernel) (zf (za zc)) E (qv E E c_28 c_29 E)<|by exact zB 10 (by decide +kernel) E<|by exact an H57 fun c_30 H58=>qo E E E E E c_30 E<|zr<|zN zy<|a_takeP 11 E (by decide +kernel) (zf (za zc)) E (zS E)<|by exact zK (by decide +kernel)<|by exact zU<|hJx (IntKind.u64.wrap (t_6+(IntKind.u64.wrap (IntKind.i64.wrap t_1))),[.int .u8 0,.int .u64 0]) _ _ _ _ [2] H58 E ⟨E,E,E,True.intro⟩ E) fun c_27 H55=>ceF E E E (c_27)<|gv E E<|nx<|c_f E E<|csr<|iteK H55 (fun c_31 H59=>ceT E E E (c_31)<|gv E E<|nx<|c_t E E<|zM (by kernel_rfl)<|a_takeP 0 E (by decide +kernel) (zf (za zc)) E (zm E)<|by exact a_takeP 1 E (by decide +kernel) (zf (za zc)) E (zv E E)<|by exact gx H59 fun t_23 ht_23 H60=>zV 2 E (by decide +kernel) (zf (za zc)) E (zz E) (zW 1 E ht_23)<|by exact a_takeP 3 E (by decide +kernel) (zf (za zc)) E (zm E)<|by exact a_takeP 4 E (by decide +kernel) (zf (za zc)) E (zJ E)<|by exact gx H60 fun t_24 ht_24 H61=>by refine zV 5 E (by decide +kernel) (zf (za zc)) E (zT E (zG ht_24)) (yi ht_24) ?_;exact a_takeP 6 E (by decide +kernel) (zf (za zc)) E (zv E E)<|by exact gx H61 fun t_25 ht_25 H62=>zV 7 E (by decide +kernel) (zf (za zc)) E (zz E) (zW 1 E ht_25)<|by exact a_takeP 8 E (by decide +kernel) (zf (za zc)) E (qq ⟨_,Tryz.underlying54⟩ E)<|by exact a_takeP 9 E (by decide +kernel) (zf (za zc)) E (zv E E)<|by exact gx H62 fun t_26 ht_26 H63=>zV 10 E (by decide +kernel) (zf (za zc)) E (zz E) (zW 0 E ht_26)<|by exact a_takeP 11 E (by decide +kernel) (zf (za zc)) E (zv E E)<|by exact gx H63 fun t_27 ht_27 H64=>zV 12 E (by decide +kernel) (zf (za zc)) E (zz E) (zW 0 E ht_27)<|by exact a_takeP 17 E (by decide +kernel) (zf (za zc)) E (zJ E)<|by exact a_takeP 18 E (by decide +kernel) (zf (za zc)) E (zv E E)<|by exact zB 13 (by decide +kernel) E<|by exact gO E E H64 fun t_28 t_29 Sx_14 H65=>zr<|zN (zx (zW 1 E ht_25) (zx (zW 1 E ht_23) zy))<|a_takeP 14 E (by decide +kernel) (zf (za zc)) E (zm E)<|by exact a_takeP 15 E (by decide +kernel) (zf (za zc)) E (zg E E)<|by exact a_takeP 16 E (by decide +kernel) (zf (za zc)) E (zg E E)<|by exact an2 H65 fun c_32 c_33 H66=>a_takeP 19 E (by decide +kernel) (zf (za zc)) E (qv E E c_32 c_33 E)<|by exact zB 20 (by decide +kernel) E<|by exact an H66 fun c_34 H67=>qo E E E E E c_34 E<|zr<|zN zy<|zK (by decide +kernel)<|by exact zU<|hJx (IntKind.u64.wrap (t_2+4),[.int .u8 0,.int .u64 0]) _ _ _ _ [2] H67 E ⟨E,E,E,True.intro⟩ E) fun c_31 H59=>ceF E E E (c_31)<|gv E E<|nx<|c_f E E<|csr<|iteK H59 (fun c_35 H68=>ceT E E E (c_35)<|gv E E<|nx<|c_t E E<|zC<|csr<|mv E E<|s_p E (zv E E)<|gx H68 fun t_30 ht_30 H69=>s_v E (zz E) (zW 1 E ht_30)<|s_p E (qq ⟨_,Tryz.underlying54⟩ E)<|mv E E<|qC E E H69 fun t_31 Sx_16 H70=>by have H71:=wM H70;rcases H71 with ⟨rfl,H72⟩ | ⟨rfl,H72⟩;exact (s_p E (yB (ql E) E)<|nx<|cfs E E<|zt<|zu<|mv E E<|fK E E H72 fun Sx_17 H73=>zr<|zU<|hJx (IntKind.u64.wrap (t_2+4),[.int .u8 0,.int .u64 0]) _ _ _ _ [2] H73 E ⟨E,E,E,True.intro⟩ E);exact (s_p E (yB (ql E) E)<|nx<|c_t E E<|zC<|zM (by kernel_rfl)<|by refine zV 0 E (by decide +kernel) (za (za (zf (za zc)))) E (zT E hc) (zE (k:=4) 0 E (zk hc)) ?_;exact a_takeP 1 E (by decide +kernel) (za (za (zf (za zc)))) E (zm E)<|by exact a_takeP 2 E (by decide +kernel) (za (za (zf (za zc)))) E (zJ E)<|by exact a_takeP 3 E (by decide +kernel) (za (za (zf (za zc)))) E (zv E E)<|by exact gx H72 fun t_32 ht_32 H74=>zV 4 E (by decide +kernel) (za (za (zf (za zc)))) E (zz E) (zH ht_32)<|by exact zB 5 (by decide +kernel) E<|by exact qr E E H74 fun rv Sx_18 H75=>by obtain⟨t_33,rfl,ht_33,H76⟩:=H75;exact zr<|zN zy<|zB 6 (by decide +kernel) E<|by exact an H76 fun c_36 H77=>zp 2 E E E E E ht_33 E c_36<|zr<|zN zy<|zK (by decide +kernel)<|by exact zt<|zi<|zb<|zj<|zb<|zh Tryz.results124 (zA E (zE (k:=2) 2 E (zk ht_33)) ht_33 ze) ⟨_,E,ht_33,H77⟩)) fun c_35 H68=>ceF E E E (c_35)<|gv E E<|nx<|c_f E E<|csr<|iteK H68 (fun c_37 H78=>ceT E E E (c_37)<|gv E E<|nx<|c_t E E<|csr<|mv E E<|mv E E<|s_p E (zJ E)<|s_p E (zv E E)<|an H78 fun c_38 H79=>qo E E E E E c_38 E<|nxr<|mv E E<|s_p E (zF E E)<|by exact qT (sz:=2) (vs:=[.int .u8 2,.int .u64 (IntKind.u64.wrap (IntKind.i64.wrap t_1))]) 2 E E E E E E (Nat.le_of_ble_eq_true E) E<|nx<|zi<|zj<|zb<|zh Tryz.results124 (zA E (zE (k:=2) 2 E E) E ze) ⟨_,E,E,H79⟩) fun c_37 H78=>ceF E E E (c_37)<|gv E E<|nx<|c_f E E<|csr<|iteK H78 (fun c_39 H80=>ceT E E E (c_39)<|gv E E<|nx<|c_t E E<|csr<|mv E E<|mv E E<|s_p E (zJ E)<|s_p E (zv E E)<|an H80 fun c_40 H81=>qo E E E E E c_40 E<|nx<|zC<|zC<|zM (by kernel_rfl)<|a_takeP 0 E (by decide +kernel) (za (za (zf (za zc)))) E (zm E)<|by exact a_takeP 1 E (by decide +kernel) (za (za (zf (za zc)))) E (zJ E)<|by exact a_takeP 2 E (by decide +kernel) (za (za (zf (za zc)))) E (zv E E)<|by exact gx H81 fun t_34 ht_34 H82=>zV 3 E (by decide +kernel) (za (za (zf (za zc)))) E (zz E) (zH ht_34)<|by exact a_takeP 4 E (by decide +kernel) (za (za (zf (za zc)))) E (zm E)<|by exact a_takeP 5 E (by decide +kernel) (za (za (zf (za zc)))) E (zJ E)<|by exact a_takeP 6 E (by decide +kernel) (za (za (zf (za zc)))) E (zv E E)<|by exact gx H82 fun t_35 ht_35 H83=>zV 7 E (by decide +kernel) (za (za (zf (za zc)))) E (zz E) (zH ht_35)<|by exact a_takeP 8 E (by decide +kernel) (za (za (zf (za zc)))) E (kW E E)<|by exact iteK H83 (fun c_41 H84=>a_takeP 9 E (by decide +kernel) (za (za (zf (za zc)))) E (yT (jA E E) c_41)<|by exact zK (by decide +kernel)<|by exact zt<|c_t E E<|csr<|mv E E<|s_p E (zJ E)<|s_p E (zv E E)<|an H84 fun c_42 H85=>qo E E E E E c_42 E<|nxr<|s_p E (zF E E)<|by exact qT (sz:=2) (vs:=[.int .u8 3,.int .u64 0]) 2 E E E E E E (Nat.le_of_ble_eq_true E) E<|nx<|zi<|zb<|zj<|zb<|zh Tryz.results124 (zA E (zE (k:=2) 2 E E) E ze) ⟨_,E,E,H85⟩) fun c_41 H84=>a_takeP 9 E (by decide +kernel) (za (za (zf (za zc)))) E (yF (jA E E) c_41)<|by exact zK (by decide +kernel)<|by exact zt<|cfs E E<|zt<|csr<|s_p E (zF E E)<|by exact qT (sz:=2) (vs:=[.int .u8 0,.int .u64 0]) 2 E E E E E E (Nat.le_of_ble_eq_true E) E<|nx<|zi<|zj<|zb<|zh Tryz.results124 (zA E (zE (k:=2) 2 E E) E ze) ⟨_,E,E,H84⟩) fun c_39 H80=>ceF E E E (c_39)<|gv E E<|nx<|c_f E E<|csr<|iteK H80 (fun c_43 H86=>ceT E E E (c_43)<|gv E E<|nx<|c_t E E<|csr<|mv E E<|fK E E H86 fun Sx_22 H87=>nx<|zC<|by exact zu<|s_p E (zF E E)<|by exact qT (sz:=2) (vs:=[.int .u8 0,.int .u64 0]) 2 E E E E E E (Nat.le_of_ble_eq_true E) E<|nx<|zi<|zj<|zb<|zh Tryz.results124 (zA E (zE (k:=2) 2 E E) E ze) ⟨_,E,E,H87⟩) fun c_43 H86=>ceF E E E (c_43)<|gv E E<|nx<|c_f E E<|csr<|s_p E (zv E E)<|gx H86 fun t_36 ht_36 H88=>s_v E (zz E) (zW 1 E ht_36)<|iteK H88 (fun c_44 H89=>by exact s_p E (yT (qj E E) c_44)<|nx<|c_t E E<|zM (by kernel_rfl)<|a_takeP 0 E (by decide +kernel) (zf (za zc)) E (zm E)<|by exact a_takeP 1 E (by decide +kernel) (zf (za zc)) E (zv E E)<|by exact gx H89 fun t_37 ht_37 H90=>zV 2 E (by decide +kernel) (zf (za zc)) E (zz E) (zW 1 E ht_37)<|by exact a_takeP 3 E (by decide +kernel) (zf (za zc)) E (zv E E)<|by exact gx H90 fun t_38 ht_38 H91=>zV 4 E (by decide +kernel) (zf (za zc)) E (zz E) (zW 1 E ht_38)<|by exact a_takeP 5 E (by decide +kernel) (zf (za zc)) E (zm E)<|by exact a_takeP 6 E (by decide +kernel) (zf (za zc)) E (zm E)<|by exact a_takeP 7 E (by decide +kernel) (zf (za zc)) E (zv E E)<|by exact gx H91 fun t_39 ht_39 H92=>zV 8 E (by decide +kernel) (zf (za zc)) E (zz E) (zW 1 E ht_39)<|by exact a_takeP 9 E (by decide +kernel) (zf (za zc)) E (zJ E)<|by exact a_takeP 10 E (by decide +kernel) (zf (za zc)) E (zv E E)<|by exact an2 H92 fun c_45 c_46 H93=>a_takeP 11 E (by decide +kernel) (zf (za zc)) E (qv E E c_45 c_46 E)<|by exact gx H93 fun t_40 ht_40 H94=>zV 12 E (by decide +kernel) (zf (za zc)) E (zz E) (zH ht_40)<|by exact a_takeP 14 E (by decide +kernel) (zf (za zc)) E (zJ E)<|by exact a_takeP 15 E (by decide +kernel) (zf (za zc)) E (zv E E)<|by exact zB 13 (by decide +kernel) E<|by exact qC E E H94 fun t_41 Sx_23 H95=>zr<|zN (zx (zW 1 E ht_39) (zx (zW 1 E ht_37) zy))<|an2 H95 fun c_47 c_48 H96=>a_takeP 16 E (by decide +kernel) (zf (za zc)) E (qv E E c_47 c_48 E)<|by exact zB 17 (by decide +kernel) E<|by exact an H96 fun c_49 H97=>qo E E E E E c_49 E<|zr<|zN zy<|zK (by decide +kernel)<|by exact zU<|hJx (IntKind.u64.wrap (t_2+4),[.int .u8 0,.int .u64 0]) _ _ _ _ [2] H97 E ⟨E,E,E,True.intro⟩ E) fun c_44 H89=>by exact s_p E (yF (qj E E) c_44)<|nx<|cfs E E<|zU<|hJx (IntKind.u64.wrap (t_2+4),[.int .u8 0,.int .u64 0]) _ _ _ _ [2] H89 E ⟨E,E,E,True.intro⟩ E)) (fun Jx_1 hJx_1 H98=>csr<|by exact iteK H98 (fun c_50 H99=>ceT E E E (c_50)<|gv E E<|nx<|c_t E E<|qg<|hJx_1 true _ _ _ _ [0,0,0] H99 E ⟨E,E,E,E,E,E,E,E,E,E,True.intro⟩ E) fun c_50 H99=>ceF E E E (c_50)<|gv E E<|nx<|c_f E E<|csr<|iteK H99 (fun c_51 H100=>ceT E E E (c_51)<|gv E E<|nx<|c_t E E<|qg<|hJx_1 true _ _ _ _ [0,0,0] H100 E ⟨E,E,E,E,E,E,E,E,E,E,True.intro⟩ E) fun c_51 H100=>ceF E E E (c_51)<|gv E E<|nx<|cfr E E<|iteK H100 (fun c_52 H101=>ceT E E E (c_52)<|gv E E<|zr<|hJx_1 true _ _ _ _ [0,0,0] H101 E ⟨E,E,E,E,E,E,E,E,E,E,True.intro⟩ E) fun c_52 H101=>ceF E E E (c_52)<|gv E E<|zr<|hJx_1 false _ _ _ _ [0,0,0] H101 E ⟨E,E,E,E,E,E,E,E,E,E,True.intro⟩ E))
def kU (S:Mem) (c:List Value) (addr:Int) (write:Bool) (Q:Int→Int→Bool→Mem→Prop):Prop:=
 c.length=4 ∧
 jn (fun (Sx:Mem)=>
 jn (fun (Sx_1:Mem)=>
 gP (nthL c 0) fun t=>
 nn t fun b_1 o=>
 gI (Sx_1.cell b_1 (o+17)) .u64 fun t_1=>
 jn (fun (Sx_2:Mem)=>
 gV (nthL c 1) fun t_2=>
 ci Tryz.prog Sx_2 t_2 "Load" [.int .i64 (IntKind.i64.wrap (IntKind.u64.wrap (Int.tdiv t_1 256))), .int .i64 (IntKind.i64.wrap (IntKind.u64.wrap (8 * (IntKind.u64.wrap (Int.tdiv addr 256))))), .int .i64 8] fun rv Sx_3 => ∃ t_3 : Sl, ∃ t_4 : Int, rv = .tuple #[eL t_3, .int .i64 t_4] ∧ 
 zdm Sx_3 t_3 fun t_5 Sx_4=>
 jn (fun (Sx_5:Mem)=>
 Q (IntKind.i64.wrap (ishr .u64 t_5 8)) (IntKind.i64.wrap (Int.tmod addr 256)) true Sx_5) fun Jx=>
 if t_4≠0 then
 Q 0 0 false Sx_4
 else
 if iand .u64 t_5 1=0 then
 Q 0 0 false Sx_4
 else
 if write=true then
 if iand .u64 t_5 2=0 then
 Q 0 0 false Sx_4
 else
 if 32≤ishr .u64 t_5 8 then
 Q 0 0 false Sx_4
 else
 Jx Sx_4
 else
 if 32≤ishr .u64 t_5 8 then
 Q 0 0 false Sx_4
 else
 Jx Sx_4) fun Jx_1=>
 if 32≤IntKind.u64.wrap (Int.tdiv t_1 256) then
 Q 0 0 false Sx_1
 else
 Jx_1 Sx_1) fun Jx_2=>
 gP (nthL c 0) fun t_6=>
 nn t_6 fun b_2 o_1=>
 gI (Sx.cell b_2 (o_1+17)) .u64 fun t_7=>
 if t_7=0 then
 Q (IntKind.i64.wrap (IntKind.u64.wrap (Int.tdiv addr 256))) (IntKind.i64.wrap (Int.tmod addr 256)) true Sx
 else
 Jx_2 Sx) fun Jx_3=>
 if 32≤IntKind.u64.wrap (Int.tdiv addr 256) then
 Q 0 0 false S
 else
 Jx_3 S
theorem zdC {S:Mem} {c:List Value} {addr:Int} {write:Bool} {Q:Int→Int→Bool→Mem→Prop} (H:kU S c addr write Q):kd S c addr write Q:=by
 unfold kU at H
 exact Tr.intro Tryz.func172 E Tryz.ntmps172 E fun w0=>an H fun hc H1=>csr<|qM E E E fun b=>gv E E<|gv E E<|gv E E<|nxr<|mv E E<|s_p E (ziD E E (by decide))<|mv E E<|s_p E (ziC E E (by decide))<|s_p E (qq ⟨_,Tryz.underlying39⟩ E)<|gv E E<|gv E E<|nx<|zn H1 (fun (J:Mem→Prop) (z:Unit) S=>J S) (fun z=>⟨76,[(2,.bool write),(3,.pointer (some ⟨b,0,none⟩)),(9,.int .u64 (IntKind.u64.wrap (Int.tdiv addr 256))),(10,.int .i64 (IntKind.i64.wrap (Int.tmod addr 256)))]⟩) (fun z=>[⟨b,224,c⟩]) (fun _ Sx H2=>zn H2 (fun (J:Mem→Prop) (z:Unit) S=>J S) (fun z=>⟨76,[(2,.bool write),(3,.pointer (some ⟨b,0,none⟩)),(9,.int .u64 (IntKind.u64.wrap (Int.tdiv addr 256))),(10,.int .i64 (IntKind.i64.wrap (Int.tmod addr 256)))]⟩) (fun z=>[⟨b,224,c⟩]) (fun _ Sx_1 H3=>csr<|s_p E (zv E E)<|gx H3 fun t ht H4=>s_v E (zz E) (zW 0 E ht)<|by obtain⟨b_1,o,rfl,H5⟩:=H4;exact s_p E (zJ E)<|s_p E (zv E E)<|gx H5 fun t_1 ht_1 H6=>s_v E (zz E) (zH ht_1)<|s_p E (ziD E E (by decide))<|gv E E<|nx<|zn H6 (fun (J:Mem→Prop) (z:Unit) S=>J S) (fun z=>⟨76,[(2,.bool write),(3,.pointer (some ⟨b,0,none⟩)),(9,.int .u64 (IntKind.u64.wrap (Int.tdiv addr 256))),(10,.int .i64 (IntKind.i64.wrap (Int.tmod addr 256))),(11,.int .u64 (IntKind.u64.wrap (Int.tdiv t_1 256)))]⟩) (fun z=>[⟨b,224,c⟩]) (fun _ Sx_2 H7=>csr<|s_p E (zv E E)<|gx H7 fun t_2 ht_2 H8=>s_v E (zz E) (zW 0 E ht_2)<|mv E E<|s_p E (qq ⟨_,Tryz.underlying39⟩ E)<|mv E E<|s_p E (ji E E)<|s_p E (qq ⟨_,Tryz.underlying39⟩ E)<|zif E E E H8 fun rv Sx_3 H9=>by obtain⟨t_3,t_4,rfl,H10⟩:=H9;exact mv E E<|s_p E (zg E E)<|s_p E (zg E E)<|gv E E<|gv E E<|nxr<|mv E E<|qC E E H10 fun t_5 Sx_4 H11=>gv E E<|nx<|zn H11 (fun (J:Mem→Prop) (z:Unit) S=>J S) (fun z=>⟨76,[(10,.int .i64 (IntKind.i64.wrap (Int.tmod addr 256))),(14,.int .u64 t_5)]⟩) (fun z=>[]) (fun _ Sx_5 H12=>csr<|mv E E<|s_p E (zap E E (by decide))<|s_p E (qq ⟨_,Tryz.underlying39⟩ E)<|mv E E<|gv E E<|gv E E<|gv E E<|nx<|zi<|zh Tryz.results172 (zd E (zd E (zd E ze))) ⟨_,_,_,E,H12⟩) (fun Jx hJx H13=>csr<|mv E E<|iteK H13 (fun c_1 H14=>s_p E (yT (zQ E E) c_1)<|mv E E<|sk2 E E<|zP E<|pk E E E<|mv E E<|sk4 E E E E<|sk2 E E<|pk E E E<|mv E E<|sk2 E E<|zP E<|pk E E E<|nx<|c_t E E<|csr<|gv E E<|gv E E<|gv E E<|nx<|zi<|zb<|zh Tryz.results172 (zd E (zd E (zd E ze))) ⟨_,_,_,E,H14⟩) fun c_1 H14=>s_p E (yF (zQ E E) c_1)<|mv E E<|mv E E<|s_p E (kW E E)<|iteK H14 (fun c_2 H15=>ceT E E E (c_2)<|pk E E E<|mv E E<|sk4 E E E E<|sk2 E E<|pk E E E<|mv E E<|sk2 E E<|zP E<|pk E E E<|nx<|c_t E E<|csr<|gv E E<|gv E E<|gv E E<|nx<|zi<|zb<|zh Tryz.results172 (zd E (zd E (zd E ze))) ⟨_,_,_,E,H15⟩) fun c_2 H15=>ceF E E E (c_2)<|pk E E E<|mv E E<|iteK H15 (fun c_3 H16=>s_p E (vp E c_3)<|mv E E<|mv E E<|s_p E (kW E E)<|iteK H16 (fun c_4 H17=>ceT E E E (c_4)<|pk E E E<|pk E E E<|mv E E<|sk2 E E<|zP E<|pk E E E<|nx<|c_t E E<|csr<|gv E E<|gv E E<|gv E E<|nx<|zi<|zb<|by exact zh Tryz.results172 (zd E (zd E (zd E ze))) ⟨_,_,_,E,H17⟩) fun c_4 H17=>ceF E E E (c_4)<|pk E E E<|pk E E E<|mv E E<|mv E E<|s_p E (zap E E (by decide))<|iteK H17 (fun c_5 H18=>s_p E (yT (qj E E) c_5)<|pk E E E<|nx<|c_t E E<|csr<|gv E E<|gv E E<|gv E E<|nx<|by exact zi<|zb<|zh Tryz.results172 (zd E (zd E (zd E ze))) ⟨_,_,_,E,H18⟩) fun c_5 H18=>s_p E (yF (qj E E) c_5)<|pk E E E<|nx<|cfs E E<|hJx () _ _ _ _ [] H18 E ⟨E,E,True.intro⟩ E) fun c_3 H16=>s_p E (vp E (kX c_3))<|mv E E<|sk2 E E<|zP E<|pk E E E<|pk E E E<|mv E E<|mv E E<|s_p E (zap E E (by decide))<|iteK H16 (fun c_6 H19=>s_p E (yT (qj E E) c_6)<|pk E E E<|nx<|c_t E E<|csr<|gv E E<|gv E E<|gv E E<|nx<|zi<|zb<|by exact zh Tryz.results172 (zd E (zd E (zd E ze))) ⟨_,_,_,E,H19⟩) fun c_6 H19=>s_p E (yF (qj E E) c_6)<|pk E E E<|nx<|cfs E E<|hJx () _ _ _ _ [] H19 E ⟨E,E,True.intro⟩ E)) (fun Jx_1 hJx_1 H20=>csr<|mv E E<|iteK H20 (fun c_7 H21=>s_p E (yT (qj E E) c_7)<|nx<|c_t E E<|csr<|gv E E<|gv E E<|gv E E<|nx<|zi<|zb<|zh Tryz.results172 (zd E (zd E (zd E ze))) ⟨_,_,_,E,H21⟩) fun c_7 H21=>s_p E (yF (qj E E) c_7)<|nx<|cfs E E<|hJx_1 () _ _ _ _ [0] H21 E ⟨E,E,E,E,E,True.intro⟩ E)) (fun Jx_2 hJx_2 H22=>csr<|s_p E (zv E E)<|gx H22 fun t_6 ht_6 H23=>s_v E (zz E) (zW 0 E ht_6)<|by obtain⟨b_2,o_1,rfl,H24⟩:=H23;exact s_p E (zJ E)<|s_p E (zv E E)<|gx H24 fun t_7 ht_7 H25=>s_v E (zz E) (zH ht_7)<|iteK H25 (fun c_8 H26=>ceT E E E (c_8)<|nx<|c_t E E<|csr<|mv E E<|s_p E (qq ⟨_,Tryz.underlying39⟩ E)<|mv E E<|gv E E<|gv E E<|gv E E<|nx<|zi<|zb<|zh Tryz.results172 (zd E (zd E (zd E ze))) ⟨_,_,_,E,H26⟩) fun c_8 H26=>ceF E E E (c_8)<|nx<|cfs E E<|hJx_2 () _ _ _ _ [0] H26 E ⟨E,E,E,E,True.intro⟩ E)) (fun Jx_3 hJx_3 H27=>csr<|mv E E<|iteK H27 (fun c_9 H28=>s_p E (yT (qj E E) c_9)<|nx<|c_t E E<|csr<|gv E E<|gv E E<|gv E E<|nx<|zi<|zb<|zh Tryz.results172 (zd E (zd E (zd E ze))) ⟨_,_,_,E,H28⟩) fun c_9 H28=>s_p E (yF (qj E E) c_9)<|nx<|cfs E E<|hJx_3 () _ _ _ _ [0] H28 E ⟨E,E,E,E,True.intro⟩ E)
def jy (S:Mem) (c:List Value) (addr:Int) (w:Int) (Q:Bool→Mem→Prop):Prop:=
 c.length=4 ∧
 jn (fun (page:Int) (off:Int) (ok:Bool) (Sx:Mem)=>
 if ok=true then
 if Int.tmod addr 8=0 then
 gV (nthL c 1) fun t=>
 isI t ∧
 fH Sx w fun t_1 Sx_1=>
 ci Tryz.prog Sx_1 t "Save" [.int .i64 page, .int .i64 off, eL t_1] fun rv Sx_2 => ∃ t_2 : Int, rv = .int .i64 t_2 ∧ 
 Q (decide (t_2=0)) Sx_2
 else
 Q false Sx
 else
 Q false Sx) fun Jx=>
 kd S c addr true fun t_3 t_4 t_5 Sx_3=>
 if t_5=true then
 Jx t_3 t_4 true Sx_3
 else
 Jx t_3 t_4 false Sx_3
theorem zev {S:Mem} {c:List Value} {addr:Int} {w:Int} {Q:Bool→Mem→Prop} (H:jy S c addr w Q):ff S c addr w Q:=by
 unfold jy at H
 exact Tr.intro Tryz.func175 E Tryz.ntmps175 E fun w0=>an H fun hc H1=>csr<|qM E E E fun b=>gv E E<|nx<|zn H1 (fun (J:Int→Int→Bool→Mem→Prop) (z:Int×Int×Bool) S=>J z.1 z.2.1 z.2.2 S) (fun z=>⟨35,[(1,.int .u64 addr),(2,.int .u64 w),(3,.pointer (some ⟨b,0,none⟩)),(7,.int .i64 z.1),(8,.int .i64 z.2.1),(9,.bool z.2.2)]⟩) (fun z=>[⟨b,224,c⟩]) (by rintro⟨page,off,ok⟩ Sx H2;exact zC<|zM (by kernel_rfl)<|iteK H2 (fun c_1 H3=>aTP 0 E (by decide +kernel) E (vp E c_1)<|by exact aTP 1 E (by decide +kernel) E (zm E)<|by exact aTP 2 E (by decide +kernel) E (zm E)<|by exact aTP 3 E (by decide +kernel) E (ziC E E (by decide))<|by exact iteK H3 (fun c_2 H4=>aTP 4 E (by decide +kernel) E (yT (jA E E) c_2)<|by exact aTP 5 E (by decide +kernel) E (yQ E E)<|by exact aTP 6 E (by decide +kernel) E (zm E)<|by exact aTP 7 E (by decide +kernel) E (zv E E)<|by exact gx H4 fun t ht H5=>aT 8 E (by decide +kernel) E (zz E) (zW 0 E ht)<|by exact aTP 9 E (by decide +kernel) E (zm E)<|by exact aTP 10 E (by decide +kernel) E (zm E)<|by exact aTP 11 E (by decide +kernel) E (zm E)<|by exact an H5 fun c_3 H6=>aTP 13 E (by decide +kernel) E (zoN c_3 E)<|by exact aTP 14 E (by decide +kernel) E (zm E)<|by exact zB 12 (by decide +kernel) E<|by exact qC E E H6 fun t_1 Sx_1 H7=>zr<|zN (zx (zW 0 E ht) zy)<|zB 15 (by decide +kernel) E<|by exact zif E E E H7 fun rv Sx_2 H8=>by obtain⟨t_2,rfl,H9⟩:=H8;exact zr<|zN (zx (zW 0 E ht) zy)<|aTP 16 E (by decide +kernel) E (jA E E)<|by exact aTP 17 E (by decide +kernel) E (yQ E E)<|by exact aTP 18 E (by decide +kernel) E (zS E)<|by exact zK (by decide +kernel)<|by exact zt<|zi<|zh Tryz.results175 (zd E ze) ⟨_,E,H9⟩) fun c_2 H4=>aTP 4 E (by decide +kernel) E (yF (jA E E) c_2)<|by exact aTP 5 E (by decide +kernel) E (yQ E E)<|by exact aTP 6 E (by decide +kernel) E (zm E)<|by exact zR 7 E (by decide +kernel) (za zc) E<|by exact zR 8 E (by decide +kernel) (za zc) E<|by exact zR 9 E (by decide +kernel) (za zc) E<|by exact zR 10 E (by decide +kernel) (za zc) E<|by exact zR 11 E (by decide +kernel) (za zc) E<|by exact zR 12 E (by decide +kernel) (za zc) E<|by exact zR 13 E (by decide +kernel) (za zc) E<|by exact zR 14 E (by decide +kernel) (za zc) E<|by exact zR 15 E (by decide +kernel) (za zc) E<|by exact zR 16 E (by decide +kernel) (za zc) E<|by exact aTP 17 E (by decide +kernel) E (yQ E E)<|by exact aTP 18 E (by decide +kernel) E (zS E)<|by exact zK (by decide +kernel)<|by exact zt<|zi<|zh Tryz.results175 (zd E ze) ⟨_,E,H4⟩) fun c_1 H3=>aTP 0 E (by decide +kernel) E (vp E (kX c_1))<|by exact aTP 1 E (by decide +kernel) E (zm E)<|by exact zR 2 E (by decide +kernel) (za zc) E<|by exact zR 3 E (by decide +kernel) (za zc) E<|by exact zR 4 E (by decide +kernel) (za zc) E<|by exact aTP 5 E (by decide +kernel) E (yQ E E)<|by exact aTP 6 E (by decide +kernel) E (zm E)<|by exact zR 7 E (by decide +kernel) (za zc) E<|by exact zR 8 E (by decide +kernel) (za zc) E<|by exact zR 9 E (by decide +kernel) (za zc) E<|by exact zR 10 E (by decide +kernel) (za zc) E<|by exact zR 11 E (by decide +kernel) (za zc) E<|by exact zR 12 E (by decide +kernel) (za zc) E<|by exact zR 13 E (by decide +kernel) (za zc) E<|by exact zR 14 E (by decide +kernel) (za zc) E<|by exact zR 15 E (by decide +kernel) (za zc) E<|by exact zR 16 E (by decide +kernel) (za zc) E<|by exact aTP 17 E (by decide +kernel) E (yQ E E)<|by exact aTP 18 E (by decide +kernel) E (zS E)<|by exact zK (by decide +kernel)<|by exact zt<|zi<|zh Tryz.results175 (zd E ze) ⟨_,E,H3⟩) (fun Jx hJx H10=>zu<|by refine s_v E (zT E hc) (zE (k:=4) 0 E (zk hc)) ?_;exact mv E E<|zof E E H10 fun t_3 t_4 t_5 Sx_3 H11=>mv E E<|s_p E (zg E E)<|s_p E (zg E E)<|iteK H11 (fun c_4 H12=>s_p E (yB (zg E E) c_4)<|gv E E<|gv E E<|gv E E<|zr<|hJx (t_3,t_4,true) _ _ _ _ [0] H12 E ⟨E,E,E,E,E,E,True.intro⟩ E) fun c_4 H12=>s_p E (yB (zg E E) (kX c_4))<|gv E E<|gv E E<|gv E E<|zr<|hJx (t_3,t_4,false) _ _ _ _ [0] H12 E ⟨E,E,E,E,E,E,True.intro⟩ E)
def kT (S:Mem) (k:Int) (a:Int) (b:Int) (Q:Bool→Mem→Prop):Prop:=
 jn (fun (Sx:Mem)=>
 Q (decide (IntKind.i64.wrap a<IntKind.i64.wrap b)) Sx) fun Jx=>
 if k=14 then
 Q (decide (a=b)) S
 else
 if k=15 then
 Q (decide (a≠b)) S
 else
 Jx S
theorem zay {S:Mem} {k:Int} {a:Int} {b:Int} {Q:Bool→Mem→Prop} (H:kT S k a b Q):fe S k a b Q:=by
 unfold kT at H
 exact Tr.intro Tryz.func176 E Tryz.ntmps176 E fun w0=>csr<|gv E E<|nx<|zn H (fun (J:Mem→Prop) (z:Unit) S=>J S) (fun z=>⟨23,[(1,.int .u64 a),(2,.int .u64 b)]⟩) (fun z=>[]) (fun _ Sx H1=>csr<|mv E E<|s_p E (qq ⟨_,Tryz.underlying39⟩ E)<|mv E E<|s_p E (qq ⟨_,Tryz.underlying39⟩ E)<|s_p E (zD E E)<|gv E E<|nx<|zi<|zh Tryz.results176 (zd E ze) ⟨_,E,H1⟩) (fun Jx hJx H2=>csr<|mv E E<|nx<|zw<|csr<|iteK H2 (fun c H3=>ceT E E E (c)<|gv E E<|nx<|c_t E E<|csr<|mv E E<|mv E E<|s_p E (jA E E)<|gv E E<|nx<|zi<|zj<|zb<|zh Tryz.results176 (zd E ze) ⟨_,E,H3⟩) fun c H3=>ceF E E E (c)<|gv E E<|nx<|c_f E E<|csr<|iteK H3 (fun c_1 H4=>ceT E E E (c_1)<|gv E E<|nx<|c_t E E<|csr<|mv E E<|mv E E<|s_p E (zQ E E)<|gv E E<|nx<|zi<|zj<|zb<|zh Tryz.results176 (zd E ze) ⟨_,E,H4⟩) fun c_1 H4=>ceF E E E (c_1)<|gv E E<|nx<|cfs E E<|zU<|hJx () _ _ _ _ [] H4 E ⟨E,E,True.intro⟩ E)
def zeq (S:Mem) (k:Int) (b:Int) (c:Int) (Q:Int→Mem→Prop):Prop:=
 jn (fun (Sx:Mem)=>
 0≤iand .u64 c 63 ∧
 Q (ishr .u64 b (iand .u64 c 63)) Sx) fun Jx=>
 if k=3 then
 Q (IntKind.u64.wrap (b+c)) S
 else
 if k=4 then
 Q (IntKind.u64.wrap (b-c)) S
 else
 if k=5 then
 Q (IntKind.u64.wrap (b*c)) S
 else
 if k=6 then
 Q (iand .u64 b c) S
 else
 if k=7 then
 Q (ior .u64 b c) S
 else
 if k=8 then
 Q (ixor .u64 b c) S
 else
 if k=9 then
 0≤iand .u64 c 63 ∧
 Q (ishl .u64 b (iand .u64 c 63)) S
 else
 Jx S
theorem zjV {S:Mem} {k:Int} {b:Int} {c:Int} {Q:Int→Mem→Prop} (H:zeq S k b c Q):zfV S k b c Q:=by
 unfold zeq at H
 exact Tr.intro Tryz.func180 E Tryz.ntmps180 E fun w0=>csr<|gv E E<|nx<|zn H (fun (J:Mem→Prop) (z:Unit) S=>J S) (fun z=>⟨48,[(1,.int .u64 b),(2,.int .u64 c)]⟩) (fun z=>[]) (fun _ Sx H1=>csr<|mv E E<|mv E E<|s_p E (kW E E)<|an H1 fun c_1 H2=>s_p E (zap E E c_1)<|gv E E<|nx<|zi<|zh Tryz.results180 (zd E ze) ⟨_,E,H2⟩) (fun Jx hJx H3=>csr<|mv E E<|nx<|zw<|csr<|iteK H3 (fun c_2 H4=>ceT E E E (c_2)<|gv E E<|nx<|c_t E E<|csr<|mv E E<|mv E E<|s_p E (qh E E)<|gv E E<|nx<|zi<|zj<|zb<|zh Tryz.results180 (zd E ze) ⟨_,E,H4⟩) fun c_2 H4=>ceF E E E (c_2)<|gv E E<|nx<|c_f E E<|csr<|iteK H4 (fun c_3 H5=>ceT E E E (c_3)<|gv E E<|nx<|c_t E E<|csr<|mv E E<|mv E E<|s_p E (gu E E)<|gv E E<|nx<|zi<|zj<|zb<|zh Tryz.results180 (zd E ze) ⟨_,E,H5⟩) fun c_3 H5=>ceF E E E (c_3)<|gv E E<|nx<|c_f E E<|csr<|iteK H5 (fun c_4 H6=>ceT E E E (c_4)<|gv E E<|nx<|c_t E E<|csr<|mv E E<|mv E E<|s_p E (ji E E)<|gv E E<|nx<|zi<|zj<|zb<|zh Tryz.results180 (zd E ze) ⟨_,E,H6⟩) fun c_4 H6=>ceF E E E (c_4)<|gv E E<|nx<|c_f E E<|csr<|iteK H6 (fun c_5 H7=>ceT E E E (c_5)<|gv E E<|nx<|c_t E E<|csr<|mv E E<|mv E E<|s_p E (kW E E)<|gv E E<|nx<|zi<|zj<|zb<|zh Tryz.results180 (zd E ze) ⟨_,E,H7⟩) fun c_5 H7=>ceF E E E (c_5)<|gv E E<|nx<|c_f E E<|csr<|iteK H7 (fun c_6 H8=>ceT E E E (c_6)<|gv E E<|nx<|c_t E E<|csr<|by exact mv E E<|mv E E<|s_p E (zms E E)<|gv E E<|nx<|zi<|zj<|zb<|zh Tryz.results180 (zd E ze) ⟨_,E,H8⟩) fun c_6 H8=>ceF E E E (c_6)<|gv E E<|nx<|c_f E E<|csr<|by exact iteK H8 (fun c_7 H9=>ceT E E E (c_7)<|gv E E<|nx<|c_t E E<|csr<|mv E E<|mv E E<|s_p E (zmI E E)<|gv E E<|nx<|zi<|zj<|zb<|zh Tryz.results180 (zd E ze) ⟨_,E,H9⟩) fun c_7 H9=>ceF E E E (c_7)<|gv E E<|nx<|c_f E E<|csr<|iteK H9 (fun c_8 H10=>ceT E E E (c_8)<|gv E E<|nx<|c_t E E<|csr<|mv E E<|mv E E<|s_p E (kW E E)<|an H10 fun c_9 H11=>s_p E (zdk E E c_9)<|gv E E<|nx<|zi<|zj<|zb<|zh Tryz.results180 (zd E ze) ⟨_,E,H11⟩) fun c_8 H10=>ceF E E E (c_8)<|gv E E<|nx<|cfs E E<|zU<|hJx () _ _ _ _ [] H10 E ⟨E,E,True.intro⟩ E)
end Go.Proofs.YtabdpmnhjlmnlaaGreatDoor
end
section
namespace Go.Proofs.YtabdpmnhjlmnlaaGreatDoor
open Go Go.Pt
attribute [local irreducible] Code.wp Back bodyPost wpList FR WL WC WQ WA AW Tr Yc HC AllC
set_option maxRecDepth 20000
set_option maxHeartbeats 4000000
set_option linter.unusedVariables false
def gn (S:Mem) (w:Int) (Q:List Value→Bool→Mem→Prop):Prop:=
 yK S (IntKind.u64.wrap w) 26 6 fun t Sx=>
 yK Sx (IntKind.u64.wrap w) 22 4 fun t_1 Sx_1=>
 yK Sx_1 (IntKind.u64.wrap w) 18 4 fun t_2 Sx_2=>
 jn (fun (o:List Value) (Sx_3:Mem)=>
 o.length=5 ∧
 zaI Sx_3 o fun t_3 t_4 Sx_4=>
 if t_4=true then
 if t_3≠w then
 Q ([.int .u8 0,.int .u8 0,.int .u8 0,.int .u8 0,.int .i16 0]) false Sx_4
 else
 o.all (·.oneCell')=true ∧
 Q o true Sx_4
 else
 Q ([.int .u8 0,.int .u8 0,.int .u8 0,.int .u8 0,.int .i16 0]) false Sx_4) fun Jx=>
 kH Sx_2 (IntKind.u8.wrap t) fun t_5 Sx_5=>
 gB (nthL t_5 2) fun t_6=>
 if t_6=true then
 yK Sx_5 (IntKind.u64.wrap w) 0 4 fun t_7 Sx_6=>
 Jx ([.int .u8 (IntKind.u8.wrap t),.int .u8 (IntKind.u8.wrap t_1),.int .u8 (IntKind.u8.wrap t_2),.int .u8 (IntKind.u8.wrap t_7),.int .i16 0]) Sx_6
 else
 yK Sx_5 (IntKind.u64.wrap w) 0 16 fun t_8 Sx_7=>
 Jx ([.int .u8 (IntKind.u8.wrap t),.int .u8 (IntKind.u8.wrap t_1),.int .u8 (IntKind.u8.wrap t_2),.int .u8 0,.int .i16 (IntKind.i16.wrap t_8)]) Sx_7
theorem zfq {S:Mem} {w:Int} {Q:List Value→Bool→Mem→Prop} (H:gn S w Q):zaJ S w Q:=by
 unfold gn at H
 exact Tr.intro Tryz.func123 E Tryz.ntmps123 E fun w0=>csr<|by refine zL E fun b=>?_;exact gv E E<|nxr<|mv E E<|s_p E (qq ⟨_,Tryz.underlying41⟩ E)<|gv E E<|nxr<|mv E E<|qC E E H fun t Sx H1=>s_p E (qq ⟨_,Tryz.underlying39⟩ E)<|mv E E<|qC E E H1 fun t_1 Sx_1 H2=>s_p E (qq ⟨_,Tryz.underlying39⟩ E)<|mv E E<|qC E E H2 fun t_2 Sx_2 H3=>s_p E (qq ⟨_,Tryz.underlying39⟩ E)<|s_p E (zF E E)<|by exact by refine zL E fun b_1=>?_;exact qT (sz:=5) (vs:=[.int .u8 (IntKind.u8.wrap t),.int .u8 (IntKind.u8.wrap t_1),.int .u8 (IntKind.u8.wrap t_2),.int .u8 0,.int .i16 0]) 1 E E E E E E (Nat.le_of_ble_eq_true E) E<|nx<|zn H3 (fun (J:List Value→Mem→Prop) (z:List Value) S=>J z S) (fun z=>⟨46,[(0,.int .u32 w),(2,.pointer (some ⟨b,0,none⟩)),(5,.pointer (some ⟨b_1,0,none⟩))]⟩) (fun z=>[⟨b,231,[.int .u8 0,.int .u8 0,.int .u8 0,.int .u8 0,.int .i16 0]⟩,⟨b_1,231,z⟩]) (fun o Sx_3 H4=>an H4 fun ho H5=>csr<|by refine s_v E (zT E ho) (zE (k:=5) 1 E (zk ho)) ?_;exact gO E E H5 fun t_3 t_4 Sx_4 H6=>mv E E<|s_p E (zg E E)<|iteK H6 (fun c H7=>s_p E (yB (zg E E) c)<|gv E E<|gv E E<|nx<|zC<|csr<|mv E E<|s_p E (yB (ql E) E)<|mv E E<|mv E E<|mv E E<|iteK H7 (fun c_1 H8=>s_p E (yT (zQ E E) c_1)<|pk E E E<|nx<|c_t E E<|csr<|s_p E (zF E E)<|by exact qT (sz:=5) (vs:=[.int .u8 0,.int .u8 0,.int .u8 0,.int .u8 0,.int .i16 0]) 0 E E E E E E (Nat.le_of_ble_eq_true E) E<|gv E E<|nx<|zi<|zb<|zh Tryz.results123 (zA E (zE (k:=5) 0 E E) E (zd E ze)) ⟨_,_,E,E,H8⟩) fun c_1 H8=>s_p E (yF (zQ E E) c_1)<|pk E E E<|nx<|cfs E E<|zt<|csr<|by refine s_v E (zT E ho) (zE (k:=5) 1 E (zk ho)) ?_;exact an H8 fun c_2 H9=>zp 0 E E E E E ho E c_2<|gv E E<|nx<|zi<|zh Tryz.results123 (zA E (zE (k:=5) 0 E (zk ho)) ho (zd E ze)) ⟨_,_,E,ho,H9⟩) fun c H7=>s_p E (yB (zg E E) (kX c))<|gv E E<|gv E E<|nx<|zC<|csr<|mv E E<|s_p E (yB (ql E) E)<|mv E E<|sk2 E E<|zP E<|pk E E E<|nx<|c_t E E<|csr<|s_p E (zF E E)<|by exact qT (sz:=5) (vs:=[.int .u8 0,.int .u8 0,.int .u8 0,.int .u8 0,.int .i16 0]) 0 E E E E E E (Nat.le_of_ble_eq_true E) E<|gv E E<|nx<|zi<|zb<|zh Tryz.results123 (zA E (zE (k:=5) 0 E E) E (zd E ze)) ⟨_,_,E,E,H7⟩) (fun Jx hJx H10=>csr<|s_p E (zv E E)<|s_v E (zz E) (zW 1 E E)<|qr E E H10 fun rv Sx_5 H11=>by obtain⟨t_5,rfl,ht_5,H12⟩:=H11;exact gx H12 fun t_6 ht_6 H13=>by have H14:=wM H13;rcases H14 with ⟨rfl,H15⟩ | ⟨rfl,H15⟩;exact (s_p E (zfi E ht_6)<|nx<|ctr E E<|mv E E<|qC E E H15 fun t_7 Sx_6 H16=>s_p E (qq ⟨_,Tryz.underlying39⟩ E)<|s_p E (zv E E)<|qT (sz:=1) (vs:=[.int .u8 (IntKind.u8.wrap t_7)]) 1 E E E E E E (Nat.le_of_ble_eq_true E) E<|zr<|hJx ([.int .u8 (IntKind.u8.wrap t),.int .u8 (IntKind.u8.wrap t_1),.int .u8 (IntKind.u8.wrap t_2),.int .u8 (IntKind.u8.wrap t_7),.int .i16 0]) _ _ _ _ [0,0] H16 E ⟨E,E,E,True.intro⟩ E);exact (s_p E (zfi E ht_6)<|nx<|cfr E E<|mv E E<|qC E E H15 fun t_8 Sx_7 H17=>s_p E (qq ⟨_,Tryz.underlying39⟩ E)<|s_p E (zv E E)<|qT (sz:=1) (vs:=[.int .i16 (IntKind.i16.wrap t_8)]) 1 E E E E E E (Nat.le_of_ble_eq_true E) E<|zr<|hJx ([.int .u8 (IntKind.u8.wrap t),.int .u8 (IntKind.u8.wrap t_1),.int .u8 (IntKind.u8.wrap t_2),.int .u8 0,.int .i16 (IntKind.i16.wrap t_8)]) _ _ _ _ [0,0] H17 E ⟨E,E,E,True.intro⟩ E))
def gj (S:Mem) (code:Int) (Q:List Value→Mem→Prop):Prop:=
 jn (fun (v:List Value) (Sx:Mem)=>
 v.length=4 ∧
 Q ([.bool true,.bool true,.bool true,.bool false]) Sx) fun Jx=>
 jn (fun (t:Bool) (Sx_1:Mem)=>
 if t=true then
 Q ([.bool false,.bool false,.bool false,.bool false]) Sx_1
 else
 jn (fun (t_1:Bool) (Sx_2:Mem)=>
 if t_1=true then
 Q ([.bool true,.bool false,.bool false,.bool true]) Sx_2
 else
 if code=20 then
 Q ([.bool false,.bool false,.bool false,.bool true]) Sx_2
 else
 jn (fun (t_2:Bool) (Sx_3:Mem)=>
 if t_2=true then
 Q ([.bool true,.bool true,.bool false,.bool true]) Sx_3
 else
 Jx ([.bool false,.bool false,.bool false,.bool false]) Sx_3) fun Jx_1=>
 if code=11 then
 Jx_1 true Sx_2
 else
 if code=12 then
 Jx_1 true Sx_2
 else
 if code=13 then
 Jx_1 true Sx_2
 else
 if code=14 then
 Jx_1 true Sx_2
 else
 if code=15 then
 Jx_1 true Sx_2
 else
 if code=16 then
 Jx_1 true Sx_2
 else
 if code=17 then
 Jx_1 true Sx_2
 else
 Jx_1 false Sx_2) fun Jx_2=>
 if code=1 then
 Jx_2 true Sx_1
 else
 if code=2 then
 Jx_2 true Sx_1
 else
 if code=18 then
 Jx_2 true Sx_1
 else
 if code=19 then
 Jx_2 true Sx_1
 else
 Jx_2 false Sx_1) fun Jx_3=>
 if code=0 then
 Jx_3 true S
 else
 if code=21 then
 Jx_3 true S
 else
 if code=22 then
 Jx_3 true S
 else
 Jx_3 false S
theorem zfo {S:Mem} {code:Int} {Q:List Value→Mem→Prop} (H:gj S code Q):kH S code Q:=by
 unfold gj at H
 exact Tr.intro Tryz.func173 E Tryz.ntmps173 E fun w0=>csr<|by refine zL E fun b=>?_;exact nx<|zn H (fun (J:List Value→Mem→Prop) (z:List Value) S=>J z S) (fun z=>⟨28,[(2,.pointer (some ⟨b,0,none⟩))]⟩) (fun z=>[⟨b,292,z⟩]) (fun v Sx H1=>an H1 fun hv H2=>csr<|s_p E (zF E E)<|by exact zp 0 E E E E E E hv E<|nx<|zi<|zh Tryz.results173 (zA E (zE (k:=4) 0 E E) E ze) ⟨_,E,E,H2⟩) (fun Jx hJx H3=>csr<|mv E E<|nx<|zw<|zn H3 (fun (J:Bool→Mem→Prop) (z:Bool) S=>J z S) (fun z=>⟨28,[(2,.pointer (some ⟨b,0,none⟩)),(3,.int .u8 code),(4,.bool z)]⟩) (fun z=>[⟨b,292,[.bool false,.bool false,.bool false,.bool false]⟩]) (fun t Sx_1 H4=>by have H5:=wM H4;rcases H5 with ⟨c,H6⟩ | ⟨c,H6⟩;exact (c_t E c<|csr<|s_p E (zF E E)<|by exact qT (sz:=4) (vs:=[.bool false,.bool false,.bool false,.bool false]) 0 E E E E E E (Nat.le_of_ble_eq_true E) E<|nx<|zi<|zj<|zb<|zh Tryz.results173 (zA E (zE (k:=4) 0 E E) E ze) ⟨_,E,E,H6⟩);exact (c_f E c<|zn H6 (fun (J:Bool→Mem→Prop) (z:Bool) S=>J z S) (fun z=>⟨28,[(2,.pointer (some ⟨b,0,none⟩)),(3,.int .u8 code),(9,.bool z)]⟩) (fun z=>[⟨b,292,[.bool false,.bool false,.bool false,.bool false]⟩]) (fun t_1 Sx_2 H7=>by have H8:=wM H7;rcases H8 with ⟨c_1,H9⟩ | ⟨c_1,H9⟩;exact (c_t E c_1<|csr<|s_p E (zF E E)<|by exact qT (sz:=4) (vs:=[.bool true,.bool false,.bool false,.bool true]) 0 E E E E E E (Nat.le_of_ble_eq_true E) E<|nx<|zi<|zj<|zb<|zh Tryz.results173 (zA E (zE (k:=4) 0 E E) E ze) ⟨_,E,E,H9⟩);exact (c_f E c_1<|csr<|iteK H9 (fun c_2 H10=>ceT E E E (c_2)<|gv E E<|nx<|c_t E E<|csr<|s_p E (zF E E)<|by exact qT (sz:=4) (vs:=[.bool false,.bool false,.bool false,.bool true]) 0 E E E E E E (Nat.le_of_ble_eq_true E) E<|nx<|zi<|zj<|zb<|zh Tryz.results173 (zA E (zE (k:=4) 0 E E) E ze) ⟨_,E,E,H10⟩) fun c_2 H10=>ceF E E E (c_2)<|gv E E<|nx<|c_f E E<|zn H10 (fun (J:Bool→Mem→Prop) (z:Bool) S=>J z S) (fun z=>⟨28,[(2,.pointer (some ⟨b,0,none⟩)),(18,.bool z)]⟩) (fun z=>[⟨b,292,[.bool false,.bool false,.bool false,.bool false]⟩]) (fun t_2 Sx_3 H11=>by have H12:=wM H11;rcases H12 with ⟨c_3,H13⟩ | ⟨c_3,H13⟩;exact (c_t E c_3<|csr<|s_p E (zF E E)<|by exact qT (sz:=4) (vs:=[.bool true,.bool true,.bool false,.bool true]) 0 E E E E E E (Nat.le_of_ble_eq_true E) E<|nx<|zi<|zj<|zb<|zh Tryz.results173 (zA E (zE (k:=4) 0 E E) E ze) ⟨_,E,E,H13⟩);exact (c_f E c_3<|qg<|zU<|hJx ([.bool false,.bool false,.bool false,.bool false]) _ _ _ _ [0] H13 E ⟨E,True.intro⟩ E)) (fun Jx_1 hJx_1 H14=>csr<|iteK H14 (fun c_4 H15=>ceT E E E (c_4)<|gv E E<|nx<|c_t E E<|qg<|hJx_1 true _ _ _ _ [0] H15 E ⟨E,E,True.intro⟩ E) fun c_4 H15=>ceF E E E (c_4)<|gv E E<|nx<|c_f E E<|csr<|iteK H15 (fun c_5 H16=>ceT E E E (c_5)<|gv E E<|nx<|c_t E E<|qg<|hJx_1 true _ _ _ _ [0] H16 E ⟨E,E,True.intro⟩ E) fun c_5 H16=>ceF E E E (c_5)<|gv E E<|nx<|c_f E E<|csr<|iteK H16 (fun c_6 H17=>ceT E E E (c_6)<|gv E E<|nx<|c_t E E<|qg<|hJx_1 true _ _ _ _ [0] H17 E ⟨E,E,True.intro⟩ E) fun c_6 H17=>ceF E E E (c_6)<|gv E E<|nx<|c_f E E<|csr<|iteK H17 (fun c_7 H18=>ceT E E E (c_7)<|gv E E<|nx<|c_t E E<|qg<|hJx_1 true _ _ _ _ [0] H18 E ⟨E,E,True.intro⟩ E) fun c_7 H18=>ceF E E E (c_7)<|gv E E<|nx<|c_f E E<|csr<|iteK H18 (fun c_8 H19=>ceT E E E (c_8)<|gv E E<|nx<|c_t E E<|qg<|hJx_1 true _ _ _ _ [0] H19 E ⟨E,E,True.intro⟩ E) fun c_8 H19=>ceF E E E (c_8)<|gv E E<|nx<|c_f E E<|csr<|iteK H19 (fun c_9 H20=>ceT E E E (c_9)<|by exact gv E E<|nx<|c_t E E<|qg<|hJx_1 true _ _ _ _ [0] H20 E ⟨E,E,True.intro⟩ E) fun c_9 H20=>ceF E E E (c_9)<|by exact gv E E<|nx<|cfr E E<|iteK H20 (fun c_10 H21=>ceT E E E (c_10)<|gv E E<|zr<|hJx_1 true _ _ _ _ [0] H21 E ⟨E,E,True.intro⟩ E) fun c_10 H21=>ceF E E E (c_10)<|gv E E<|zr<|hJx_1 false _ _ _ _ [0] H21 E ⟨E,E,True.intro⟩ E))) (fun Jx_2 hJx_2 H22=>csr<|iteK H22 (fun c_11 H23=>ceT E E E (c_11)<|gv E E<|nx<|c_t E E<|qg<|hJx_2 true _ _ _ _ [0] H23 E ⟨E,E,E,True.intro⟩ E) fun c_11 H23=>ceF E E E (c_11)<|gv E E<|nx<|c_f E E<|csr<|iteK H23 (fun c_12 H24=>ceT E E E (c_12)<|gv E E<|nx<|c_t E E<|qg<|hJx_2 true _ _ _ _ [0] H24 E ⟨E,E,E,True.intro⟩ E) fun c_12 H24=>ceF E E E (c_12)<|gv E E<|nx<|c_f E E<|csr<|iteK H24 (fun c_13 H25=>ceT E E E (c_13)<|gv E E<|nx<|c_t E E<|qg<|hJx_2 true _ _ _ _ [0] H25 E ⟨E,E,E,True.intro⟩ E) fun c_13 H25=>ceF E E E (c_13)<|gv E E<|nx<|cfr E E<|iteK H25 (fun c_14 H26=>ceT E E E (c_14)<|gv E E<|zr<|hJx_2 true _ _ _ _ [0] H26 E ⟨E,E,E,True.intro⟩ E) fun c_14 H26=>ceF E E E (c_14)<|gv E E<|zr<|hJx_2 false _ _ _ _ [0] H26 E ⟨E,E,E,True.intro⟩ E))) (fun Jx_3 hJx_3 H27=>csr<|iteK H27 (fun c_15 H28=>ceT E E E (c_15)<|gv E E<|nx<|c_t E E<|qg<|hJx_3 true _ _ _ _ [0] H28 E ⟨E,E,E,True.intro⟩ E) fun c_15 H28=>ceF E E E (c_15)<|gv E E<|nx<|c_f E E<|csr<|iteK H28 (fun c_16 H29=>ceT E E E (c_16)<|gv E E<|nx<|c_t E E<|qg<|hJx_3 true _ _ _ _ [0] H29 E ⟨E,E,E,True.intro⟩ E) fun c_16 H29=>ceF E E E (c_16)<|gv E E<|nx<|cfr E E<|iteK H29 (fun c_17 H30=>ceT E E E (c_17)<|gv E E<|zr<|hJx_3 true _ _ _ _ [0] H30 E ⟨E,E,E,True.intro⟩ E) fun c_17 H30=>ceF E E E (c_17)<|gv E E<|zr<|hJx_3 false _ _ _ _ [0] H30 E ⟨E,E,E,True.intro⟩ E))
def gk (S:Mem) (o:List Value) (Q:Int→Bool→Mem→Prop):Prop:=
 o.length=5 ∧
 jn (fun (Sx:Mem)=>
 gI (nthL o 0) .u8 fun t=>
 ym Sx 0 26 6 (IntKind.u64.wrap t) fun t_1 Sx_1=>
 gI (nthL o 1) .u8 fun t_2=>
 ym Sx_1 t_1 22 4 (IntKind.u64.wrap t_2) fun t_3 Sx_2=>
 gI (nthL o 2) .u8 fun t_4=>
 ym Sx_2 t_3 18 4 (IntKind.u64.wrap t_4) fun t_5 Sx_3=>
 jn (fun (Sx_4:Mem)=>
 gI (nthL o 4) .i16 fun t_6=>
 ym Sx_4 t_5 0 16 (IntKind.u64.wrap (IntKind.u16.wrap t_6)) fun t_7 Sx_5=>
 Q (IntKind.u32.wrap t_7) true Sx_5) fun Jx=>
 gI (nthL o 0) .u8 fun t_8=>
 kH Sx_3 t_8 fun t_9 Sx_6=>
 gB (nthL t_9 2) fun t_10=>
 if t_10=true then
 gI (nthL o 3) .u8 fun t_11=>
 ym Sx_6 t_5 0 4 (IntKind.u64.wrap t_11) fun t_12 Sx_7=>
 Q (IntKind.u32.wrap t_12) true Sx_7
 else
 Jx Sx_6) fun Jx_1=>
 zcp S o fun t_13 Sx_8=>
 if t_13=true then
 Jx_1 Sx_8
 else
 Q 0 false Sx_8
theorem zfp {S:Mem} {o:List Value} {Q:Int→Bool→Mem→Prop} (H:gk S o Q):zaI S o Q:=by
 unfold gk at H
 exact Tr.intro Tryz.func174 E Tryz.ntmps174 E fun w0=>an H fun ho H1=>csr<|qM E E E fun b=>gv E E<|gv E E<|nx<|zn H1 (fun (J:Mem→Prop) (z:Unit) S=>J S) (fun z=>⟨39,[(1,.pointer (some ⟨b,0,none⟩))]⟩) (fun z=>[⟨b,231,o⟩]) (fun _ Sx H2=>csr<|s_p E (zv E E)<|gx H2 fun t ht H3=>s_v E (zz E) (zW 0 E ht)<|s_p E (qq ⟨_,Tryz.underlying5⟩ E)<|qC E E H3 fun t_1 Sx_1 H4=>gv E E<|nxr<|mv E E<|s_p E (zv E E)<|gx H4 fun t_2 ht_2 H5=>s_v E (zz E) (zW 0 E ht_2)<|s_p E (qq ⟨_,Tryz.underlying5⟩ E)<|qC E E H5 fun t_3 Sx_2 H6=>gv E E<|nxr<|mv E E<|s_p E (zv E E)<|gx H6 fun t_4 ht_4 H7=>s_v E (zz E) (zW 0 E ht_4)<|s_p E (qq ⟨_,Tryz.underlying5⟩ E)<|qC E E H7 fun t_5 Sx_3 H8=>gv E E<|nx<|zn H8 (fun (J:Mem→Prop) (z:Unit) S=>J S) (fun z=>⟨39,[(1,.pointer (some ⟨b,0,none⟩)),(4,.int .u64 t_5)]⟩) (fun z=>[⟨b,231,o⟩]) (fun _ Sx_4 H9=>csr<|mv E E<|s_p E (zv E E)<|gx H9 fun t_6 ht_6 H10=>s_v E (zz E) (zW 0 E ht_6)<|s_p E (qq ⟨_,Tryz.underlying54⟩ E)<|s_p E (qq ⟨_,Tryz.underlying166⟩ E)<|by exact qC E E H10 fun t_7 Sx_5 H11=>s_p E (qq ⟨_,Tryz.underlying39⟩ E)<|gv E E<|gv E E<|nx<|zi<|zh Tryz.results174 (zd E (zd E ze)) ⟨_,_,E,H11⟩) (fun Jx hJx H12=>csr<|s_p E (zv E E)<|gx H12 fun t_8 ht_8 H13=>s_v E (zz E) (zW 0 E ht_8)<|qr E E H13 fun rv Sx_6 H14=>by obtain⟨t_9,rfl,ht_9,H15⟩:=H14;exact gx H15 fun t_10 ht_10 H16=>by have H17:=wM H16;rcases H17 with ⟨rfl,H18⟩ | ⟨rfl,H18⟩;exact (s_p E (zfi E ht_10)<|nx<|c_t E E<|csr<|mv E E<|s_p E (zv E E)<|gx H18 fun t_11 ht_11 H19=>s_v E (zz E) (zW 0 E ht_11)<|s_p E (qq ⟨_,Tryz.underlying5⟩ E)<|qC E E H19 fun t_12 Sx_7 H20=>s_p E (qq ⟨_,Tryz.underlying39⟩ E)<|gv E E<|gv E E<|nx<|zi<|zb<|zh Tryz.results174 (zd E (zd E ze)) ⟨_,_,E,H20⟩);exact (s_p E (zfi E ht_10)<|nx<|cfs E E<|hJx () _ _ _ _ [0] H18 E ⟨E,E,True.intro⟩ E))) (fun Jx_1 hJx_1 H21=>csr<|by refine s_v E (zT E ho) (zE (k:=5) 0 E (zk ho)) ?_;exact qC E E H21 fun t_13 Sx_8 H22=>by have H23:=wM H22;rcases H23 with ⟨rfl,H24⟩ | ⟨rfl,H24⟩;exact (s_p E (yB (ql E) E)<|nx<|cfs E E<|hJx_1 () _ _ _ _ [0] H24 E ⟨E,True.intro⟩ E);exact (s_p E (yB (ql E) E)<|nx<|c_t E E<|csr<|gv E E<|gv E E<|nx<|zi<|zb<|zh Tryz.results174 (zd E (zd E ze)) ⟨_,_,E,H24⟩))
def fu (S:Mem) (o:List Value) (Q:Bool→Mem→Prop):Prop:=
 o.length=5 ∧
 gI (nthL o 0) .u8 fun t=>
 kH S t fun t_1 Sx=>
 t_1.all (·.oneCell')=true ∧
 jn (fun (Sx_1:Mem)=>
 gI (nthL o 0) .u8 fun t_2=>
 if t_2=18 then
 gI (nthL o 4) .i16 fun t_3=>
 if 0≤t_3 then
 gI (nthL o 4) .i16 fun t_4=>
 Q (decide (t_4<9)) Sx_1
 else
 Q false Sx_1
 else
 gI (nthL o 0) .u8 fun t_5=>
 if t_5=19 then
 gI (nthL o 4) .i16 fun t_6=>
 if 0≤t_6 then
 gI (nthL o 4) .i16 fun t_7=>
 Q (decide (t_7<9)) Sx_1
 else
 Q false Sx_1
 else
 Q true Sx_1) fun Jx=>
 gI (nthL o 0) .u8 fun t_8=>
 if 23≤t_8 then
 Q false Sx
 else
 gB (nthL t_1 0) fun t_9=>
 gI (nthL o 1) .u8 fun t_10=>
 cv Tryz.prog Sx (.func (.func 240) #[] #[]) [.bool t_9,.int .u8 t_10] fun rv Sx_2=>∃ t_11:Bool,rv=.bool t_11∧
 if t_11=true then
 gB (nthL t_1 1) fun t_12=>
 gI (nthL o 2) .u8 fun t_13=>
 cv Tryz.prog Sx_2 (.func (.func 240) #[] #[]) [.bool t_12,.int .u8 t_13] fun rv Sx_3=>∃ t_14:Bool,rv=.bool t_14∧
 if t_14=true then
 gB (nthL t_1 2) fun t_15=>
 gI (nthL o 3) .u8 fun t_16=>
 cv Tryz.prog Sx_3 (.func (.func 240) #[] #[]) [.bool t_15,.int .u8 t_16] fun rv Sx_4=>∃ t_17:Bool,rv=.bool t_17∧
 if t_17=true then
 gB (nthL t_1 3) fun t_18=>
 if t_18=true then
 Jx Sx_4
 else
 gI (nthL o 4) .i16 fun t_19=>
 if t_19≠0 then
 Q false Sx_4
 else
 Jx Sx_4
 else
 Q false Sx_4
 else
 Q false Sx_3
 else
 Q false Sx_2
theorem zgo {S:Mem} {o:List Value} {Q:Bool→Mem→Prop} (H:fu S o Q):zcp S o Q:=by
 unfold fu at H
 exact Tr.intro Tryz.func219 E Tryz.ntmps219 E fun w0=>an H fun ho H1=>csr<|qM E E E fun b=>gv E E<|nxr<|s_p E (zv E E)<|gx H1 fun t ht H2=>s_v E (zz E) (zW 0 E ht)<|qr E E H2 fun rv Sx H3=>by obtain⟨t_1,rfl,ht_1,H4⟩:=H3;exact by refine zL E fun b_1=>?_;exact an H4 fun c H5=>zp 1 E E E E E ht_1 E c<|nxr<|gv E E<|nx<|zn H5 (fun (J:Mem→Prop) (z:Unit) S=>J S) (fun z=>⟨64,[(1,.pointer (some ⟨b,0,none⟩))]⟩) (fun z=>[⟨b,231,o⟩]) (fun _ Sx_1 H6=>zC<|csr<|s_p E (zv E E)<|gx H6 fun t_2 ht_2 H7=>s_v E (zz E) (zW 0 E ht_2)<|iteK H7 (fun c_1 H8=>ceT E E E (c_1)<|mv E E<|sk2 E E<|zP E<|pk E E E<|nx<|c_t E E<|csr<|s_p E (zv E E)<|gx H8 fun t_3 ht_3 H9=>s_v E (zz E) (zW 0 E ht_3)<|iteK H9 (fun c_2 H10=>s_p E (yT (qj E E) c_2)<|mv E E<|s_p E (zv E E)<|gx H10 fun t_4 ht_4 H11=>s_v E (zz E) (zW 0 E ht_4)<|s_p E (zD E E)<|pk E E E<|gv E E<|nx<|zi<|zb<|zh Tryz.results219 (zd E ze) ⟨_,E,H11⟩) fun c_2 H10=>s_p E (yF (qj E E) c_2)<|mv E E<|sk2 E E<|zP E<|pk E E E<|gv E E<|nx<|zi<|zb<|zh Tryz.results219 (zd E ze) ⟨_,E,H10⟩) fun c_1 H8=>ceF E E E (c_1)<|mv E E<|s_p E (zv E E)<|gx H8 fun t_5 ht_5 H12=>s_v E (zz E) (zW 0 E ht_5)<|iteK H12 (fun c_3 H13=>ceT E E E (c_3)<|pk E E E<|nx<|c_t E E<|csr<|s_p E (zv E E)<|gx H13 fun t_6 ht_6 H14=>s_v E (zz E) (zW 0 E ht_6)<|iteK H14 (fun c_4 H15=>s_p E (yT (qj E E) c_4)<|mv E E<|s_p E (zv E E)<|gx H15 fun t_7 ht_7 H16=>s_v E (zz E) (zW 0 E ht_7)<|s_p E (zD E E)<|pk E E E<|gv E E<|nx<|zi<|zb<|zh Tryz.results219 (zd E ze) ⟨_,E,H16⟩) fun c_4 H15=>s_p E (yF (qj E E) c_4)<|mv E E<|sk2 E E<|zP E<|pk E E E<|gv E E<|nx<|zi<|zb<|zh Tryz.results219 (zd E ze) ⟨_,E,H15⟩) fun c_3 H13=>ceF E E E (c_3)<|pk E E E<|nx<|cfs E E<|zt<|csr<|gv E E<|nx<|zi<|zh Tryz.results219 (zd E ze) ⟨_,E,H13⟩) (fun Jx hJx H17=>csr<|s_p E (zv E E)<|gx H17 fun t_8 ht_8 H18=>s_v E (zz E) (zW 0 E ht_8)<|iteK H18 (fun c_5 H19=>s_p E (yT (qj E E) c_5)<|mv E E<|sk4 E E E E<|sk2 E E<|zP E<|pk E E E<|mv E E<|sk4 E E E E<|sk2 E E<|zP E<|pk E E E<|mv E E<|sk4 E E E E<|sk2 E E<|zP E<|pk E E E<|mv E E<|sk4 E E E E<|zP E<|by exact sk2 E E<|zP E<|pk E E E<|nx<|c_t E E<|csr<|gv E E<|nx<|zi<|zb<|zh Tryz.results219 (zd E ze) ⟨_,E,H19⟩) fun c_5 H19=>s_p E (yF (qj E E) c_5)<|mv E E<|mv E E<|s_p E (zv E E)<|gx H19 fun t_9 ht_9 H20=>s_v E (zz E) (zW 1 E ht_9)<|s_p E (zv E E)<|gx H20 fun t_10 ht_10 H21=>s_v E (zz E) (zW 0 E ht_10)<|znK E E E H21 fun rv Sx_2 H22=>by obtain⟨t_11,rfl,H23⟩:=H22;exact by have H24:=wM H23;rcases H24 with ⟨rfl,H25⟩ | ⟨rfl,H25⟩;exact (s_p E (yB (ql E) E)<|pk E E E<|mv E E<|mv E E<|s_p E (zv E E)<|gx H25 fun t_12 ht_12 H26=>s_v E (zz E) (zW 1 E ht_12)<|s_p E (zv E E)<|gx H26 fun t_13 ht_13 H27=>s_v E (zz E) (zW 0 E ht_13)<|znK E E E H27 fun rv Sx_3 H28=>by obtain⟨t_14,rfl,H29⟩:=H28;exact by have H30:=wM H29;rcases H30 with ⟨rfl,H31⟩ | ⟨rfl,H31⟩;exact (s_p E (yB (ql E) E)<|pk E E E<|mv E E<|mv E E<|s_p E (zv E E)<|gx H31 fun t_15 ht_15 H32=>s_v E (zz E) (zW 1 E ht_15)<|s_p E (zv E E)<|gx H32 fun t_16 ht_16 H33=>s_v E (zz E) (zW 0 E ht_16)<|znK E E E H33 fun rv Sx_4 H34=>by obtain⟨t_17,rfl,H35⟩:=H34;exact by have H36:=wM H35;rcases H36 with ⟨rfl,H37⟩ | ⟨rfl,H37⟩;exact (s_p E (yB (ql E) E)<|pk E E E<|mv E E<|s_p E (zv E E)<|gx H37 fun t_18 ht_18 H38=>by have H39:=wM H38;rcases H39 with ⟨rfl,H40⟩ | ⟨rfl,H40⟩;exact (s_v E (zz E) (zW 1 E ht_18)<|s_p E (yB (ql E) E)<|mv E E<|sk2 E E<|zP E<|pk E E E<|pk E E E<|nx<|cfs E E<|hJx () _ _ _ _ [0] H40 E ⟨E,True.intro⟩ E);exact (s_v E (zz E) (zW 1 E ht_18)<|s_p E (yB (ql E) E)<|mv E E<|s_p E (zv E E)<|gx H40 fun t_19 ht_19 H41=>s_v E (zz E) (zW 0 E ht_19)<|iteK H41 (fun c_6 H42=>s_p E (yT (zQ E E) c_6)<|pk E E E<|pk E E E<|nx<|c_t E E<|csr<|gv E E<|nx<|zi<|zb<|zh Tryz.results219 (zd E ze) ⟨_,E,H42⟩) fun c_6 H42=>s_p E (yF (zQ E E) c_6)<|pk E E E<|pk E E E<|nx<|cfs E E<|hJx () _ _ _ _ [0] H42 E ⟨E,True.intro⟩ E));exact (s_p E (yB (ql E) E)<|pk E E E<|mv E E<|sk8 E E E E E E E E<|pk E E E<|nx<|c_t E E<|csr<|gv E E<|nx<|zi<|zb<|zh Tryz.results219 (zd E ze) ⟨_,E,H37⟩));exact (s_p E (yB (ql E) E)<|pk E E E<|mv E E<|sk4 E E E E<|sk2 E E<|zP E<|pk E E E<|mv E E<|sk8 E E E E E E E E<|pk E E E<|nx<|c_t E E<|csr<|gv E E<|nx<|zi<|zb<|zh Tryz.results219 (zd E ze) ⟨_,E,H31⟩));exact (s_p E (yB (ql E) E)<|pk E E E<|mv E E<|sk4 E E E E<|sk2 E E<|zP E<|pk E E E<|mv E E<|sk4 E E E E<|sk2 E E<|zP E<|pk E E E<|mv E E<|sk8 E E E E E E E E<|pk E E E<|nx<|c_t E E<|csr<|gv E E<|nx<|zi<|zb<|zh Tryz.results219 (zd E ze) ⟨_,E,H25⟩))
def kV (S:Mem) (isx:Bool) (r:Int) (Q:Bool→Mem→Prop):Prop:=
 if r=0 then
 Q true S
 else
 if isx=true then
 Q (decide (r<16)) S
 else
 Q false S
theorem zdD {S:Mem} {isx:Bool} {r:Int} {Q:Bool→Mem→Prop} (H:kV S isx r Q):ge S isx r Q:=by
 unfold kV at H
 exact Tr.intro Tryz.func240 E Tryz.ntmps240 E fun w0=>csr<|gv E E<|nxr<|mv E E<|iteK H (fun c H1=>ceT E E E (c)<|mv E E<|sk4 E E E E<|zP E<|pk E E E<|gv E E<|nx<|zi<|zh Tryz.results240 (zd E ze) ⟨_,E,H1⟩) fun c H1=>ceF E E E (c)<|mv E E<|iteK H1 (fun c_1 H2=>s_p E (vp E c_1)<|mv E E<|mv E E<|s_p E (zD E E)<|pk E E E<|pk E E E<|gv E E<|nx<|zi<|zh Tryz.results240 (zd E ze) ⟨_,E,H2⟩) fun c_1 H2=>s_p E (vp E (kX c_1))<|mv E E<|sk2 E E<|pk E E E<|pk E E E<|gv E E<|nx<|zi<|zh Tryz.results240 (zd E ze) ⟨_,E,H2⟩
def jf (S:Mem) (w:Int) (atx:Int) (n:Int) (Q:Int→Mem→Prop):Prop:=
 jn (fun (Sx:Mem)=>
 0≤atx ∧
 if n<64 then
 0≤n ∧
 Q (iand .u64 (ishr .u64 w atx) (IntKind.u64.wrap ((ishl .u64 1 n)-1))) Sx
 else
 Q (ishr .u64 w atx) Sx) fun Jx=>
 if atx<0 then
 Q 0 S
 else
 if 63<atx then
 Q 0 S
 else
 if n≤0 then
 Q 0 S
 else
 Jx S
theorem zcD {S:Mem} {w:Int} {atx:Int} {n:Int} {Q:Int→Mem→Prop} (H:jf S w atx n Q):yK S w atx n Q:=by
 unfold jf at H
 exact Tr.intro Tryz.func165 E Tryz.ntmps165 E fun w0=>csr<|gv E E<|nx<|zn H (fun (J:Mem→Prop) (z:Unit) S=>J S) (fun z=>⟨28,[(0,.int .u64 w),(1,.int .i64 atx),(2,.int .i64 n)]⟩) (fun z=>[]) (fun _ Sx H1=>csr<|mv E E<|mv E E<|an H1 fun c H2=>s_p E (zap E E c)<|gv E E<|nx<|zC<|csr<|mv E E<|iteK H2 (fun c_1 H3=>s_p E (yT (zD E E) c_1)<|nx<|ctr E E<|mv E E<|mv E E<|an H3 fun c_2 H4=>s_p E (zdk E E c_2)<|s_p E (gu E E)<|s_p E (kW E E)<|gv E E<|nxr<|mv E E<|gv E E<|nx<|zi<|zh Tryz.results165 (zd E ze) ⟨_,E,H4⟩) fun c_1 H3=>s_p E (yF (zD E E) c_1)<|nx<|cfs E E<|zt<|csr<|mv E E<|gv E E<|nx<|zi<|zh Tryz.results165 (zd E ze) ⟨_,E,H3⟩) (fun Jx hJx H5=>csr<|mv E E<|iteK H5 (fun c_3 H6=>s_p E (yT (zD E E) c_3)<|mv E E<|sk2 E E<|pk E E E<|mv E E<|sk2 E E<|pk E E E<|nx<|c_t E E<|csr<|gv E E<|nx<|zi<|zb<|zh Tryz.results165 (zd E ze) ⟨_,E,H6⟩) fun c_3 H6=>s_p E (yF (zD E E) c_3)<|mv E E<|mv E E<|iteK H6 (fun c_4 H7=>s_p E (yT (xu E E) c_4)<|pk E E E<|mv E E<|sk2 E E<|pk E E E<|nx<|c_t E E<|csr<|gv E E<|nx<|zi<|zb<|zh Tryz.results165 (zd E ze) ⟨_,E,H7⟩) fun c_4 H7=>s_p E (yF (xu E E) c_4)<|pk E E E<|mv E E<|mv E E<|iteK H7 (fun c_5 H8=>s_p E (yT (zlr E E) c_5)<|pk E E E<|nx<|c_t E E<|csr<|gv E E<|nx<|zi<|zb<|zh Tryz.results165 (zd E ze) ⟨_,E,H8⟩) fun c_5 H8=>s_p E (yF (zlr E E) c_5)<|pk E E E<|nx<|cfs E E<|hJx () _ _ _ _ [] H8 E ⟨E,E,E,True.intro⟩ E)
def wW (S:Mem) (w:Int) (atx:Int) (n:Int) (v:Int) (Q:Int→Mem→Prop):Prop:=
 jn (fun (Sx:Mem)=>
 jn (fun (mask:Int) (Sx_1:Mem)=>
 0≤atx ∧
 0≤atx ∧
 Q (ior .u64 (iandn .u64 w (ishl .u64 mask atx)) (ishl .u64 (iand .u64 v mask) atx)) Sx_1) fun Jx=>
 if n<64 then
 0≤n ∧
 Jx (IntKind.u64.wrap ((ishl .u64 1 n)-1)) Sx
 else
 Jx 18446744073709551615 Sx) fun Jx_1=>
 if atx<0 then
 Q w S
 else
 if 63<atx then
 Q w S
 else
 if n≤0 then
 Q w S
 else
 Jx_1 S
theorem jM {S:Mem} {w:Int} {atx:Int} {n:Int} {v:Int} {Q:Int→Mem→Prop} (H:wW S w atx n v Q):ym S w atx n v Q:=by
 unfold wW at H
 exact Tr.intro Tryz.func167 E Tryz.ntmps167 E fun w0=>csr<|gv E E<|nx<|zn H (fun (J:Mem→Prop) (z:Unit) S=>J S) (fun z=>⟨37,[(0,.int .u64 w),(1,.int .i64 atx),(2,.int .i64 n),(3,.int .u64 v)]⟩) (fun z=>[]) (fun _ Sx H1=>csr<|gv E E<|nx<|zn H1 (fun (J:Int→Mem→Prop) (z:Int) S=>J z S) (fun z=>⟨37,[(0,.int .u64 w),(1,.int .i64 atx),(3,.int .u64 v),(9,.int .u64 z)]⟩) (fun z=>[]) (fun mask Sx_1 H2=>zC<|zM (by kernel_rfl)<|aTP 0 E (by decide +kernel) E (zm E)<|by exact aTP 1 E (by decide +kernel) E (zm E)<|by exact aTP 2 E (by decide +kernel) E (zm E)<|by exact an H2 fun c H3=>aTP 3 E (by decide +kernel) E (zdk E E c)<|by exact aTP 4 E (by decide +kernel) E (zjJ E E)<|by exact aTP 5 E (by decide +kernel) E (zm E)<|by exact aTP 6 E (by decide +kernel) E (zm E)<|by exact aTP 7 E (by decide +kernel) E (kW E E)<|by exact aTP 8 E (by decide +kernel) E (zm E)<|by exact an H3 fun c_1 H4=>aTP 9 E (by decide +kernel) E (zdk E E c_1)<|by exact aTP 10 E (by decide +kernel) E (zms E E)<|by exact aTP 11 E (by decide +kernel) E (zS E)<|by exact zK (by decide +kernel)<|by exact zt<|zi<|zh Tryz.results167 (zd E ze) ⟨_,E,H4⟩) (fun Jx hJx H5=>csr<|mv E E<|iteK H5 (fun c_2 H6=>s_p E (yT (zD E E) c_2)<|nx<|ctr E E<|mv E E<|an H6 fun c_3 H7=>s_p E (zdk E E c_3)<|s_p E (gu E E)<|gv E E<|zr<|hJx (IntKind.u64.wrap ((ishl .u64 1 n)-1)) _ _ _ _ [] H7 E ⟨E,E,E,E,True.intro⟩ E) fun c_2 H6=>s_p E (yF (zD E E) c_2)<|nx<|cfs E E<|hJx 18446744073709551615 _ _ _ _ [] H6 E ⟨E,E,E,E,True.intro⟩ E)) (fun Jx_1 hJx_1 H8=>csr<|mv E E<|iteK H8 (fun c_4 H9=>s_p E (yT (zD E E) c_4)<|mv E E<|sk2 E E<|pk E E E<|mv E E<|sk2 E E<|pk E E E<|nx<|c_t E E<|csr<|mv E E<|gv E E<|nx<|zi<|zb<|zh Tryz.results167 (zd E ze) ⟨_,E,H9⟩) fun c_4 H9=>s_p E (yF (zD E E) c_4)<|mv E E<|mv E E<|iteK H9 (fun c_5 H10=>s_p E (yT (xu E E) c_5)<|pk E E E<|mv E E<|sk2 E E<|pk E E E<|nx<|c_t E E<|csr<|mv E E<|gv E E<|nx<|zi<|zb<|zh Tryz.results167 (zd E ze) ⟨_,E,H10⟩) fun c_5 H10=>s_p E (yF (xu E E) c_5)<|pk E E E<|mv E E<|mv E E<|iteK H10 (fun c_6 H11=>s_p E (yT (zlr E E) c_6)<|pk E E E<|nx<|c_t E E<|csr<|mv E E<|gv E E<|nx<|zi<|zb<|zh Tryz.results167 (zd E ze) ⟨_,E,H11⟩) fun c_6 H11=>s_p E (yF (zlr E E) c_6)<|pk E E E<|nx<|cfs E E<|hJx_1 () _ _ _ _ [] H11 E ⟨E,E,E,E,True.intro⟩ E)
end Go.Proofs.YtabdpmnhjlmnlaaGreatDoor
end
