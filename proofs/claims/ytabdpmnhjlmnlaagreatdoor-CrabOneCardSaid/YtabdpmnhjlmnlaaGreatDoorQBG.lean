/- Texts of this work,joined by program (pack.py). -/
import Derived.Test.YtabdpmnhjlmnlaaGreatDoorQBC
import Derived.Test.YtabdpmnhjlmnlaaGreatDoorQBD
import Derived.Test.YtabdpmnhjlmnlaaGreatDoorQBE
set_option linter.unusedVariables false
namespace Go.Proofs.YtabdpmnhjlmnlaaGreatDoor
section
open Go Go.Pt Go.Proofs.Tryz
attribute [local irreducible] lt WD WN Code.wp Back bodyPost wpList FR WL WC WQ WA AW Tr Yc HC AllC
set_option maxRecDepth 20000
set_option maxHeartbeats 4000000
def zdE (S:Mem) (s:Pt) (bus:Value) (time:Int) (me:Int) (Q:List Value→Mem→Prop):Prop:=
 bus.oneCell'=true ∧
 ([eP s,bus,.int .u64 time,.int .i64 me]).all (·.oneCell')=true ∧
 jn (fun (v:List Value) (Sx:Mem)=>
 v.length=2 ∧
 jn (fun (v_1:List Value) (Sx_1:Mem)=>
 v_1.length=2 ∧
 jn (fun (w:Int) (ok:Bool) (Sx_2:Mem)=>
 if ok=true then
 zbL Sx_2 (IntKind.u32.wrap w) fun t t_1 Sx_3=>
 if t_1=true then
 t.all (·.oneCell')=true ∧
 zdp Sx_3 ([eP s,bus,.int .u64 time,.int .i64 me]) t fun t_2 Sx_4=>
 t_2.all (·.oneCell')=true ∧
 Q t_2 Sx_4
 else
 t.all (·.oneCell')=true ∧
 yy Sx_3 ([eP s,bus,.int .u64 time,.int .i64 me]) 1 w fun t_3 Sx_5=>
 t_3.all (·.oneCell')=true ∧
 Q t_3 Sx_5
 else
 nn s fun b_4 o=>
 gI (Sx_2.cell b_4 (o+16)) .u64 fun t_4=>
 yy Sx_2 ([.pointer (some ⟨b_4,o,none⟩),bus,.int .u64 time,.int .i64 me]) 2 t_4 fun t_5 Sx_6=>
 t_5.all (·.oneCell')=true ∧
 Q t_5 Sx_6) fun Jx=>
 nn s fun b_5 o_1=>
 gI (Sx_1.cell b_5 (o_1+16)) .u64 fun t_6=>
 jN Sx_1 ([.pointer (some ⟨b_5,o_1,none⟩),bus,.int .u64 time,.int .i64 me]) t_6 4 fun t_7 t_8 Sx_7=>
 if t_8=true then
 Jx t_7 true Sx_7
 else
 Jx t_7 false Sx_7) fun Jx_1=>
 zfj Sx s fun t_9 t_10 Sx_8=>
 if t_10=true then
 yy Sx_8 ([eP s,bus,.int .u64 time,.int .i64 me]) (IntKind.u64.wrap (16+(IntKind.u64.wrap t_9))) 0 fun t_11 Sx_9=>
 t_11.all (·.oneCell')=true ∧
 Q t_11 Sx_9
 else
 Jx_1 v Sx_8) fun Jx_2=>
 if s=none then
 Q ([.int .u8 5,.int .u64 0]) S
 else
 ni bus fun i=>
 if i=true then
 Q ([.int .u8 5,.int .u64 0]) S
 else
 nn s fun b_6 o_2=>
 gI (S.cell b_6 (o_2+23)) .u8 fun t_12=>
 if t_12≠0 then
 Q ([.int .u8 5,.int .u64 0]) S
 else
 Jx_2 ([.int .u8 0,.int .u64 0]) S
theorem zjX {S:Mem} {s:Pt} {bus:Value} {time:Int} {me:Int} {Q:List Value→Mem→Prop} (H:zdE S s bus time me Q):zhd S s bus time me Q:=by
 unfold zdE at H
 exact Tr.intro func61 E ntmps61 E fun w0=>csr<|by refine qk E fun b=>?_;exact nxr<|mv E E<|mv E E<|mv E E<|mv E E<|an H fun c H1=>s_p E (qj (cs:=[eP s,bus,.int .u64 time,.int .i64 me]) E (yY (off:=0) (size:=1) E E (Nat.le_of_ble_eq_true E) (zgo (off:=1) E c (Nat.le_of_ble_eq_true E) (yY (off:=2) (size:=1) E E (Nat.le_of_ble_eq_true E) (yY (off:=3) (size:=1) E E (Nat.le_of_ble_eq_true E) (zcG))))))<|by exact by refine qk E fun b_1=>?_;exact an H1 fun c_1 H2=>qu (sz:=4) (vs:=[eP s,bus,.int .u64 time,.int .i64 me]) 1 E E E E E E (Nat.le_of_ble_eq_true E) c_1<|nx<|zp H2 (fun (J:List Value→Mem→Prop) (z:List Value) S=>J z S) (fun z=>⟨76,[(0,eP s),(8,.pointer (some ⟨b,0,none⟩)),(9,.pointer (some ⟨b_1,0,none⟩))]⟩) (fun z=>[⟨b,48,z⟩,⟨b_1,224,[eP s,bus,.int .u64 time,.int .i64 me]⟩]) (fun v Sx H3=>an H3 fun hv H4=>zp H4 (fun (J:List Value→Mem→Prop) (z:List Value) S=>J z S) (fun z=>⟨76,[(0,eP s),(8,.pointer (some ⟨b,0,none⟩)),(9,.pointer (some ⟨b_1,0,none⟩))]⟩) (fun z=>[⟨b,48,z⟩,⟨b_1,224,[eP s,bus,.int .u64 time,.int .i64 me]⟩]) (fun v_1 Sx_1 H5=>an H5 fun hv_1 H6=>zp H6 (fun (J:Int→Bool→Mem→Prop) (z:Int×Bool) S=>J z.1 z.2 S) (fun z=>⟨76,[(0,eP s),(8,.pointer (some ⟨b,0,none⟩)),(9,.pointer (some ⟨b_1,0,none⟩)),(12,.int .u64 z.1),(13,.bool z.2)]⟩) (fun z=>[⟨b,48,v_1⟩,⟨b_1,224,[eP s,bus,.int .u64 time,.int .i64 me]⟩]) (by rintro⟨w,ok⟩ Sx_2 H7;exact zO<|csr<|iteK H7 (fun c_2 H8=>s_p E (jb E c_2)<|s_p E (yB (qC E) E)<|nx<|cfs E E<|zC<|csr<|mv E E<|s_p E (qJ ⟨_,underlying39⟩ E)<|qP E E H8 fun rv Sx_3 H9=>by obtain⟨t,t_1,rfl,ht,H10⟩:=H9;exact mv E E<|s_p E (zj E E)<|iteK H10 (fun c_3 H11=>s_p E (yB (zj E E) c_3)<|by refine qk E fun b_2=>?_;exact an H11 fun c_4 H12=>zl 2 E E E E E ht E c_4<|gv E E<|nx<|zO<|csr<|mv E E<|s_p E (yB (qC E) E)<|nx<|cfs E E<|zC<|csr<|by refine s_v E (qa (vs:=[eP s,bus,.int .u64 time,.int .i64 me]) E E) (zx (k:=4) 1 E E) ?_;exact by refine s_v E (qa E ht) (zx (k:=5) 2 E (ze ht)) ?_;exact qP E E H12 fun rv Sx_4 H13=>by obtain⟨t_2,rfl,ht_2,H14⟩:=H13;exact an H14 fun c_5 H15=>zl 0 E E E E E ht_2 hv_1 c_5<|nx<|zo<|zn results61 (zr E (zx (k:=2) 0 E (ze ht_2)) ht_2 zg) ⟨_,E,ht_2,H15⟩) fun c_3 H11=>s_p E (yB (zj E E) (zac c_3))<|by refine qk E fun b_3=>?_;exact an H11 fun c_6 H16=>zl 2 E E E E E ht E c_6<|gv E E<|nx<|zO<|csr<|mv E E<|s_p E (yB (qC E) E)<|nx<|c_t E E<|csr<|by refine s_v E (qa (vs:=[eP s,bus,.int .u64 time,.int .i64 me]) E E) (zx (k:=4) 1 E E) ?_;exact mv E E<|qP E E H16 fun rv Sx_5 H17=>by obtain⟨t_3,rfl,ht_3,H18⟩:=H17;exact an H18 fun c_7 H19=>zl 0 E E E E E ht_3 hv_1 c_7<|nx<|zo<|zb<|zn results61 (zr E (zx (k:=2) 0 E (ze ht_3)) ht_3 zg) ⟨_,E,ht_3,H19⟩) fun c_2 H8=>s_p E (jb E (zac c_2))<|s_p E (yB (qC E) E)<|nx<|c_t E E<|zO<|qc (by kernel_rfl)<|by refine qp 0 E (by decide +kernel) (za (za zc)) E (qa (vs:=[eP s,bus,.int .u64 time,.int .i64 me]) E E) (zx (k:=4) 1 E E) ?_;exact a_takeP 1 E (by decide +kernel) (za (za zc)) E (zt E)<|by exact by obtain⟨b_4,o,rfl,H20⟩:=H8;exact a_takeP 2 E (by decide +kernel) (za (za zc)) E (qt E)<|by exact a_takeP 3 E (by decide +kernel) (za (za zc)) E (zv E E)<|by exact gx H20 fun t_4 ht_4 H21=>qp 4 E (by decide +kernel) (za (za zc)) E (zF E) (qh ht_4)<|by exact zH 5 (by decide +kernel) E<|by exact qP E E H21 fun rv Sx_6 H22=>by obtain⟨t_5,rfl,ht_5,H23⟩:=H22;exact zu<|qf zD<|zH 6 (by decide +kernel) E<|by exact an H23 fun c_8 H24=>zl 0 E E E E E ht_5 hv_1 c_8<|zu<|qf zD<|qi (by decide +kernel)<|by exact zC<|zo<|zb<|zn results61 (zr E (zx (k:=2) 0 E (ze ht_5)) ht_5 zg) ⟨_,E,ht_5,H24⟩) (fun Jx hJx H25=>qc (by kernel_rfl)<|by refine aT 0 E (by decide +kernel) E (qa (vs:=[eP s,bus,.int .u64 time,.int .i64 me]) E E) (zx (k:=4) 1 E E) ?_;exact aTP 1 E (by decide +kernel) E (zt E)<|by exact by obtain⟨b_5,o_1,rfl,H26⟩:=H25;exact aTP 2 E (by decide +kernel) E (qt E)<|by exact aTP 3 E (by decide +kernel) E (zv E E)<|by exact gx H26 fun t_6 ht_6 H27=>aT 4 E (by decide +kernel) E (zF E) (qh ht_6)<|by exact zH 5 (by decide +kernel) E<|by exact zhi E E H27 fun t_7 t_8 Sx_7 H28=>zu<|qf zD<|aTP 6 E (by decide +kernel) E (zt E)<|by exact aTP 7 E (by decide +kernel) E (zj E E)<|by exact iteK H28 (fun c_9 H29=>aTP 8 E (by decide +kernel) E (yB (zj E E) c_9)<|by exact aTP 9 E (by decide +kernel) E (qH E)<|by exact aTP 10 E (by decide +kernel) E (qH E)<|by exact qi (by decide +kernel)<|by exact hJx (t_7,true) _ _ _ _ [0,0] H29 E ⟨E,E,E,E,E,True.intro⟩ E) fun c_9 H29=>aTP 8 E (by decide +kernel) E (yB (zj E E) (zac c_9))<|by exact aTP 9 E (by decide +kernel) E (qH E)<|by exact aTP 10 E (by decide +kernel) E (qH E)<|by exact qi (by decide +kernel)<|by exact hJx (t_7,false) _ _ _ _ [0,0] H29 E ⟨E,E,E,E,E,True.intro⟩ E)) (fun Jx_1 hJx_1 H30=>csr<|mv E E<|zhi E E H30 fun t_9 t_10 Sx_8 H31=>mv E E<|s_p E (zj E E)<|iteK H31 (fun c_10 H32=>s_p E (yB (zj E E) c_10)<|gv E E<|gv E E<|nxr<|mv E E<|nx<|c_t E E<|csr<|by refine s_v E (qa (vs:=[eP s,bus,.int .u64 time,.int .i64 me]) E E) (zx (k:=4) 1 E E) ?_;exact mv E E<|s_p E (qJ ⟨_,underlying3⟩ E)<|s_p E (qy E E)<|qP E E H32 fun rv Sx_9 H33=>by obtain⟨t_11,rfl,ht_11,H34⟩:=H33;exact an H34 fun c_11 H35=>zl 0 E E E E E ht_11 hv c_11<|nx<|zo<|zb<|zn results61 (zr E (zx (k:=2) 0 E (ze ht_11)) ht_11 zg) ⟨_,E,ht_11,H35⟩) fun c_10 H32=>s_p E (yB (zj E E) (zac c_10))<|gv E E<|gv E E<|nxr<|mv E E<|nx<|cfs E E<|hJx_1 v _ _ _ _ [0,0] H32 E ⟨E,E,E,True.intro⟩ E)) (fun Jx_2 hJx_2 H36=>csr<|mv E E<|iteK H36 (fun c_12 H37=>s_p E (yT (wb (p:=s) E E) c_12)<|mv E E<|sk2 E E<|pk E E E<|mv E E<|sk4 E E E E<|zG E<|pk E E E<|nx<|c_t E E<|csr<|s_p E (qj E E)<|by exact qu (sz:=2) (vs:=[.int .u8 5,.int .u64 0]) 0 E E E E E E (Nat.le_of_ble_eq_true E) E<|nx<|zo<|zb<|zn results61 (zr E (zx (k:=2) 0 E E) E zg) ⟨_,E,E,H37⟩) fun c_12 H37=>s_p E (yF (wb (p:=s) E E) c_12)<|mv E E<|mv E E<|gx H37 fun i hi H38=>iteK H38 (fun c_13 H39=>s_p E (yB (zie E hi) c_13)<|pk E E E<|mv E E<|sk4 E E E E<|zG E<|pk E E E<|nx<|c_t E E<|csr<|s_p E (qj E E)<|by exact qu (sz:=2) (vs:=[.int .u8 5,.int .u64 0]) 0 E E E E E E (Nat.le_of_ble_eq_true E) E<|nx<|zo<|zb<|zn results61 (zr E (zx (k:=2) 0 E E) E zg) ⟨_,E,E,H39⟩) fun c_13 H39=>s_p E (yB (zie E hi) (zac c_13))<|pk E E E<|mv E E<|mv E E<|by obtain⟨b_6,o_2,rfl,H40⟩:=H39;exact s_p E (qt E)<|s_p E (zv E E)<|gx H40 fun t_12 ht_12 H41=>s_v E (zF E) (qh ht_12)<|iteK H41 (fun c_14 H42=>s_p E (yT (qw E E) c_14)<|pk E E E<|nx<|c_t E E<|csr<|s_p E (qj E E)<|by exact qu (sz:=2) (vs:=[.int .u8 5,.int .u64 0]) 0 E E E E E E (Nat.le_of_ble_eq_true E) E<|nx<|zo<|zb<|zn results61 (zr E (zx (k:=2) 0 E E) E zg) ⟨_,E,E,H42⟩) fun c_14 H42=>s_p E (yF (qw E E) c_14)<|pk E E E<|nx<|cfs E E<|hJx_2 ([.int .u8 0,.int .u64 0]) _ _ _ _ [0,0] H42 E ⟨E,E,E,True.intro⟩ E)
def gf (S:Mem) (c:List Value) (cause:Int) (addr:Int) (Q:List Value→Mem→Prop):Prop:=
 c.length=4 ∧
 gP (nthL c 0) fun t=>
 zeT S t cause addr fun Sx=>
 gP (nthL c 0) fun t_1=>
 nn t_1 fun b_2 o=>
 gI (Sx.cell b_2 (o+23)) .u8 fun t_2=>
 if t_2=2 then
 Q ([.int .u8 4,.int .u64 cause]) Sx
 else
 Q ([.int .u8 1,.int .u64 cause]) Sx
theorem zfI {S:Mem} {c:List Value} {cause:Int} {addr:Int} {Q:List Value→Mem→Prop} (H:gf S c cause addr Q):yy S c cause addr Q:=by
 unfold gf at H
 exact Tr.intro func121 E ntmps121 E fun w0=>go results121 H
def gh (S:Mem) (c:List Value) (addr:Int) (n:Int) (Q:Int→Bool→Mem→Prop):Prop:=
 c.length=4 ∧
 jn (fun (page:Int) (off:Int) (ok:Bool) (Sx:Mem)=>
 jn (fun (Sx_1:Mem)=>
 gV (nthL c 1) fun t=>
 ci prog Sx_1 t "Load" [.int .i64 page, .int .i64 off, .int .i64 n] fun rv Sx_2 => ∃ t_1 : Sl, ∃ t_2 : Int, rv = .tuple #[eL t_1, .int .i64 t_2] ∧ 
 zew Sx_2 t_1 fun t_3 Sx_3=>
 Q t_3 (decide (t_2=0)) Sx_3) fun Jx=>
 if ok=true then
 IntKind.u64.wrap n≠0 ∧
 if Int.tmod addr (IntKind.u64.wrap n)≠0 then
 Q 0 false Sx
 else
 Jx Sx
 else
 Q 0 false Sx) fun Jx_1=>
 kV S c addr false fun t_4 t_5 t_6 Sx_4=>
 if t_6=true then
 Jx_1 t_4 t_5 true Sx_4
 else
 Jx_1 t_4 t_5 false Sx_4
theorem zfK {S:Mem} {c:List Value} {addr:Int} {n:Int} {Q:Int→Bool→Mem→Prop} (H:gh S c addr n Q):jN S c addr n Q:=by
 unfold gh at H
 have:=dj (α:=Unit) 5 [2,3,8,9] (fun _=>[]) (fun _=>[(0,none)])
 have:=dj (α:=Int×Int×Bool×Unit) 3 [1,2,3] (fun z=>[(8,.int .i64 z.1),(9,.int .i64 z.2.1),(10,.bool z.2.2.1)]) (fun _=>[(0,none)])
 exact Tr.intro func122 E ntmps122 E fun w0=>go results122 H
def zaM (S:Mem) (c:List Value) (o:List Value) (Q:List Value→Mem→Prop):Prop:=
 c.length=4 ∧
 o.length=5 ∧
 gP (nthL c 0) fun t=>
 gI (nthL o 4) .i16 fun t_1=>
 nn t fun b_3 o_1=>
 gI (S.cell b_3 (o_1+16)) .u64 fun t_2=>
 gI (nthL o 1) .u8 fun t_3=>
 0≤t_3∧t_3<16 ∧
 gI (S.cell b_3 (o_1+t_3.toNat*1)) .u64 fun t_4=>
 gI (nthL o 2) .u8 fun t_5=>
 0≤t_5∧t_5<16 ∧
 gI (S.cell b_3 (o_1+t_5.toNat*1)) .u64 fun t_6=>
 jn (fun (next:Int) (v:List Value) (Sx:Mem)=>
 v.length=2 ∧
 pt Sx b_3 (o_1+16) 1 ([.int .u64 next]) fun Sx_1=>
 Q ([.int .u8 0,.int .u64 0]) Sx_1) fun Jx=>
 gI (nthL o 0) .u8 fun t_7=>
 if t_7=1 then
 gI (nthL o 1) .u8 fun t_8=>
 0≤t_8∧t_8<16 ∧
 pt S b_3 (o_1+t_8.toNat*1) 1 ([.int .u64 (IntKind.u64.wrap (IntKind.i64.wrap t_1))]) fun Sx_2=>
 Jx (IntKind.u64.wrap (t_2+4)) ([.int .u8 0,.int .u64 0]) Sx_2
 else
 if t_7=2 then
 gI (nthL o 1) .u8 fun t_9=>
 yo S t_4 16 48 (IntKind.u64.wrap (IntKind.i64.wrap t_1)) fun t_10 Sx_3=>
 0≤t_9∧t_9<16 ∧
 pt Sx_3 b_3 (o_1+t_9.toNat*1) 1 ([.int .u64 t_10]) fun Sx_4=>
 Jx (IntKind.u64.wrap (t_2+4)) ([.int .u8 0,.int .u64 0]) Sx_4
 else
 if t_7=11 then
 gI (nthL o 1) .u8 fun t_11=>
 0≤t_11∧t_11<16 ∧
 pt S b_3 (o_1+t_11.toNat*1) 1 ([.int .u64 (IntKind.u64.wrap (t_6+(IntKind.u64.wrap (IntKind.i64.wrap t_1))))]) fun Sx_5=>
 Jx (IntKind.u64.wrap (t_2+4)) ([.int .u8 0,.int .u64 0]) Sx_5
 else
 if t_7=12 then
 jN S c (IntKind.u64.wrap (t_6+(IntKind.u64.wrap (IntKind.i64.wrap t_1)))) 8 fun t_12 t_13 Sx_6=>
 if t_13=true then
 gI (nthL o 1) .u8 fun t_14=>
 0≤t_14∧t_14<16 ∧
 pt Sx_6 b_3 (o_1+t_14.toNat*1) 1 ([.int .u64 t_12]) fun Sx_7=>
 Jx (IntKind.u64.wrap (t_2+4)) ([.int .u8 0,.int .u64 0]) Sx_7
 else
 yy Sx_6 c 3 (IntKind.u64.wrap (t_6+(IntKind.u64.wrap (IntKind.i64.wrap t_1)))) fun t_15 Sx_8=>
 t_15.all (·.oneCell')=true ∧
 Q t_15 Sx_8
 else
 if t_7=13 then
 zaE S c (IntKind.u64.wrap (t_6+(IntKind.u64.wrap (IntKind.i64.wrap t_1)))) t_4 fun t_16 Sx_9=>
 if t_16=true then
 Jx (IntKind.u64.wrap (t_2+4)) ([.int .u8 0,.int .u64 0]) Sx_9
 else
 yy Sx_9 c 4 (IntKind.u64.wrap (t_6+(IntKind.u64.wrap (IntKind.i64.wrap t_1)))) fun t_17 Sx_10=>
 t_17.all (·.oneCell')=true ∧
 Q t_17 Sx_10
 else
 jn (fun (t_18:Bool) (Sx_11:Mem)=>
 if t_18=true then
 gI (nthL o 0) .u8 fun t_19=>
 zaD Sx_11 t_19 t_4 t_6 fun t_20 Sx_12=>
 if t_20=true then
 gI (Sx_12.cell b_3 (o_1+16)) .u64 fun t_21=>
 Jx (IntKind.u64.wrap (t_21+(IntKind.u64.wrap (4*(IntKind.u64.wrap (IntKind.i64.wrap t_1)))))) ([.int .u8 0,.int .u64 0]) Sx_12
 else
 Jx (IntKind.u64.wrap (t_2+4)) ([.int .u8 0,.int .u64 0]) Sx_12
 else
 if t_7=17 then
 gI (nthL o 1) .u8 fun t_22=>
 0≤t_22∧t_22<16 ∧
 pt Sx_11 b_3 (o_1+t_22.toNat*1) 1 ([.int .u64 (IntKind.u64.wrap (t_2+4))]) fun Sx_13=>
 Jx (IntKind.u64.wrap (t_6+(IntKind.u64.wrap (IntKind.i64.wrap t_1)))) ([.int .u8 0,.int .u64 0]) Sx_13
 else
 if t_7=18 then
 gI (nthL o 1) .u8 fun t_23=>
 gA (Sx_11.part b_3 o_1 26) fun t_24=>
 gI (nthL o 4) .i16 fun t_25=>
 gI (nthL c 2) .u64 fun t_26=>
 gI (nthL c 3) .i64 fun t_27=>
 zgI Sx_11 t_24 (IntKind.i64.wrap t_25) t_26 t_27 fun t_28 t_29 Sx_14=>
 0≤t_23∧t_23<16 ∧
 pt Sx_14 b_3 (o_1+t_23.toNat*1) 1 ([.int .u64 t_28]) fun Sx_15=>
 Jx (IntKind.u64.wrap (t_2+4)) ([.int .u8 0,.int .u64 0]) Sx_15
 else
 if t_7=19 then
 gI (nthL o 4) .i16 fun t_30=>
 zgH Sx_11 (some (b_3,o_1)) (IntKind.i64.wrap t_30) t_4 fun t_31 Sx_16=>
 if t_31=true then
 zcD Sx_16 (some (b_3,o_1)) fun Sx_17=>
 Jx (IntKind.u64.wrap (t_2+4)) ([.int .u8 0,.int .u64 0]) Sx_17
 else
 gI (Sx_16.cell b_3 (o_1+16)) .u64 fun t_32=>
 yy Sx_16 c 1 t_32 fun t_33 Sx_18=>
 t_33.all (·.oneCell')=true ∧
 Q t_33 Sx_18
 else
 if t_7=20 then
 pt Sx_11 b_3 (o_1+16) 1 ([.int .u64 (IntKind.u64.wrap (t_2+4))]) fun Sx_19=>
 Q ([.int .u8 2,.int .u64 (IntKind.u64.wrap (IntKind.i64.wrap t_1))]) Sx_19
 else
 if t_7=21 then
 pt Sx_11 b_3 (o_1+16) 1 ([.int .u64 (IntKind.u64.wrap (t_2+4))]) fun Sx_20=>
 gI (Sx_20.cell b_3 (o_1+24)) .u32 fun t_34=>
 gI (Sx_20.cell b_3 (o_1+25)) .u32 fun t_35=>
 if iand .u32 t_34 t_35=0 then
 pt Sx_20 b_3 (o_1+23) 1 ([.int .u8 1]) fun Sx_21=>
 Q ([.int .u8 3,.int .u64 0]) Sx_21
 else
 Q ([.int .u8 0,.int .u64 0]) Sx_20
 else
 if t_7=22 then
 zeV Sx_11 (some (b_3,o_1)) fun Sx_22=>
 Q ([.int .u8 0,.int .u64 0]) Sx_22
 else
 gI (nthL o 0) .u8 fun t_36=>
 if 3≤t_36 then
 gI (nthL o 1) .u8 fun t_37=>
 gI (nthL o 0) .u8 fun t_38=>
 gI (nthL o 3) .u8 fun t_39=>
 0≤t_39∧t_39<16 ∧
 gI (Sx_11.cell b_3 (o_1+t_39.toNat*1)) .u64 fun t_40=>
 zhc Sx_11 t_38 t_6 t_40 fun t_41 Sx_23=>
 0≤t_37∧t_37<16 ∧
 pt Sx_23 b_3 (o_1+t_37.toNat*1) 1 ([.int .u64 t_41]) fun Sx_24=>
 Jx (IntKind.u64.wrap (t_2+4)) ([.int .u8 0,.int .u64 0]) Sx_24
 else
 Jx (IntKind.u64.wrap (t_2+4)) ([.int .u8 0,.int .u64 0]) Sx_11) fun Jx_1=>
 if t_7=14 then
 Jx_1 true S
 else
 if t_7=15 then
 Jx_1 true S
 else
 if t_7=16 then
 Jx_1 true S
 else
 Jx_1 false S
theorem zhs {S:Mem} {c:List Value} {o:List Value} {Q:List Value→Mem→Prop} (H:zaM S c o Q):zdp S c o Q:=by
 unfold zaM at H
 exact Tr.intro func124 E ntmps124 E fun w0=>an H fun hc H1=>an H1 fun ho H2=>csr<|gu E E E fun b=>gu E E E fun b_1=>by refine qk E fun b_2=>?_;exact nxr<|s_p E (zv E E)<|gx H2 fun t ht H3=>s_v E (zF E) (qm 0 E ht)<|gv E E<|nxr<|s_p E (zv E E)<|gx H3 fun t_1 ht_1 H4=>s_v E (zF E) (qm 1 E ht_1)<|s_p E (qJ ⟨_,underlying54⟩ E)<|s_p E (qJ ⟨_,underlying2⟩ E)<|gv E E<|nxr<|mv E E<|by obtain⟨b_3,o_1,rfl,H5⟩:=H4;exact s_p E (qt E)<|s_p E (zv E E)<|gx H5 fun t_2 ht_2 H6=>s_v E (zF E) (qh ht_2)<|s_p E (qy E E)<|gv E E<|nx<|zO<|qc (by kernel_rfl)<|aTP 0 E (by decide +kernel) E (zt E)<|by exact aTP 1 E (by decide +kernel) E (zv E E)<|by exact gx H6 fun t_3 ht_3 H7=>aT 2 E (by decide +kernel) E (zF E) (qm 1 E ht_3)<|by exact aTP 3 E (by decide +kernel) E (qt E)<|by exact aTP 4 E (by decide +kernel) E (zv E E)<|by exact an2 H7 fun c_1 c_2 H8=>aTP 5 E (by decide +kernel) E (qb E E c_1 c_2 E)<|by exact gx H8 fun t_4 ht_4 H9=>aT 6 E (by decide +kernel) E (zF E) (qh ht_4)<|by exact aTP 7 E (by decide +kernel) E (zt E)<|by exact aTP 8 E (by decide +kernel) E (zv E E)<|by exact gx H9 fun t_5 ht_5 H10=>aT 9 E (by decide +kernel) E (zF E) (qm 1 E ht_5)<|by exact aTP 10 E (by decide +kernel) E (qt E)<|by exact aTP 11 E (by decide +kernel) E (zv E E)<|by exact an2 H10 fun c_3 c_4 H11=>aTP 12 E (by decide +kernel) E (qb E E c_3 c_4 E)<|by exact gx H11 fun t_6 ht_6 H12=>aT 13 E (by decide +kernel) E (zF E) (qh ht_6)<|by exact aTP 14 E (by decide +kernel) E (qH E)<|by exact aTP 15 E (by decide +kernel) E (qH E)<|by exact qi (by decide +kernel)<|by exact zC<|zp H12 (fun (J:Int→List Value→Mem→Prop) (z:Int×List Value) S=>J z.1 z.2 S) (fun z=>⟨234,[(4,.pointer (some ⟨b_2,0,none⟩)),(5,.pointer (some ⟨b_3,o_1,none⟩)),(7,.int .u64 z.1)]⟩) (fun z=>[⟨b_2,48,z.2⟩]) (by rintro⟨next,v⟩ Sx H13;exact an H13 fun hv H14=>csr<|mv E E<|mv E E<|s_p E (qt E)<|s_p E (zv E E)<|an H14 fun c_5 H15=>qY E E E E E c_5 E<|nxr<|s_p E (qj E E)<|by exact zl 0 E E E E E E hv E<|nx<|zo<|zn results124 (zr E (zx (k:=2) 0 E E) E zg) ⟨_,E,E,H15⟩) (fun Jx hJx H16=>csr<|s_p E (zv E E)<|gx H16 fun t_7 ht_7 H17=>s_v E (zF E) (qm 1 E ht_7)<|nx<|zE<|csr<|iteK H17 (fun c_6 H18=>ceT E E E (c_6)<|gv E E<|nx<|c_t E E<|qc (by kernel_rfl)<|a_takeP 0 E (by decide +kernel) (zf (za zc)) E (zt E)<|by exact a_takeP 1 E (by decide +kernel) (zf (za zc)) E (zv E E)<|by exact gx H18 fun t_8 ht_8 H19=>qp 2 E (by decide +kernel) (zf (za zc)) E (zF E) (qm 1 E ht_8)<|by exact a_takeP 3 E (by decide +kernel) (zf (za zc)) E (zt E)<|by exact a_takeP 4 E (by decide +kernel) (zf (za zc)) E (qt E)<|by exact a_takeP 5 E (by decide +kernel) (zf (za zc)) E (zv E E)<|by exact an2 H19 fun c_7 c_8 H20=>a_takeP 6 E (by decide +kernel) (zf (za zc)) E (qb E E c_7 c_8 E)<|by exact zH 7 (by decide +kernel) E<|by exact an H20 fun c_9 H21=>qY E E E E E c_9 E<|zu<|qf zD<|qi (by decide +kernel)<|by exact zX<|hJx (IntKind.u64.wrap (t_2+4),[.int .u8 0,.int .u64 0]) _ _ _ _ [2] H21 E ⟨E,E,E,True.intro⟩ E) fun c_6 H18=>ceF E E E (c_6)<|gv E E<|nx<|c_f E E<|csr<|iteK H18 (fun c_10 H22=>ceT E E E (c_10)<|gv E E<|nx<|c_t E E<|qc (by kernel_rfl)<|a_takeP 0 E (by decide +kernel) (zf (za zc)) E (zt E)<|by exact a_takeP 1 E (by decide +kernel) (zf (za zc)) E (zv E E)<|by exact gx H22 fun t_9 ht_9 H23=>qp 2 E (by decide +kernel) (zf (za zc)) E (zF E) (qm 1 E ht_9)<|by exact a_takeP 3 E (by decide +kernel) (zf (za zc)) E (zt E)<|by exact a_takeP 4 E (by decide +kernel) (zf (za zc)) E (zt E)<|by exact a_takeP 6 E (by decide +kernel) (zf (za zc)) E (qt E)<|by exact a_takeP 7 E (by decide +kernel) (zf (za zc)) E (zv E E)<|by exact zH 5 (by decide +kernel) E<|by exact vv E E H23 fun t_10 Sx_3 H24=>zu<|qf (zA (qm 1 E ht_9) zD)<|an2 H24 fun c_11 c_12 H25=>a_takeP 8 E (by decide +kernel) (zf (za zc)) E (qb E E c_11 c_12 E)<|by exact zH 9 (by decide +kernel) E<|by exact an H25 fun c_13 H26=>qY E E E E E c_13 E<|zu<|qf zD<|qi (by decide +kernel)<|by exact zX<|hJx (IntKind.u64.wrap (t_2+4),[.int .u8 0,.int .u64 0]) _ _ _ _ [2] H26 E ⟨E,E,E,True.intro⟩ E) fun c_10 H22=>ceF E E E (c_10)<|gv E E<|nx<|c_f E E<|csr<|iteK H22 (fun c_14 H27=>ceT E E E (c_14)<|gv E E<|nx<|c_t E E<|qc (by kernel_rfl)<|a_takeP 0 E (by decide +kernel) (zf (za zc)) E (zt E)<|by exact a_takeP 1 E (by decide +kernel) (zf (za zc)) E (zv E E)<|by exact gx H27 fun t_11 ht_11 H28=>qp 2 E (by decide +kernel) (zf (za zc)) E (zF E) (qm 1 E ht_11)<|by exact a_takeP 3 E (by decide +kernel) (zf (za zc)) E (zt E)<|by exact a_takeP 4 E (by decide +kernel) (zf (za zc)) E (zt E)<|by exact a_takeP 5 E (by decide +kernel) (zf (za zc)) E (qy E E)<|by exact a_takeP 6 E (by decide +kernel) (zf (za zc)) E (qt E)<|by exact a_takeP 7 E (by decide +kernel) (zf (za zc)) E (zv E E)<|by exact an2 H28 fun c_15 c_16 H29=>a_takeP 8 E (by decide +kernel) (zf (za zc)) E (qb E E c_15 c_16 E)<|by exact zH 9 (by decide +kernel) E<|by exact an H29 fun c_17 H30=>qY E E E E E c_17 E<|zu<|qf zD<|qi (by decide +kernel)<|by exact zX<|hJx (IntKind.u64.wrap (t_2+4),[.int .u8 0,.int .u64 0]) _ _ _ _ [2] H30 E ⟨E,E,E,True.intro⟩ E) fun c_14 H27=>ceF E E E (c_14)<|gv E E<|nx<|c_f E E<|csr<|iteK H27 (fun c_18 H31=>ceT E E E (c_18)<|gv E E<|nx<|c_t E E<|csr<|by refine s_v E (qa E hc) (zx (k:=4) 0 E (ze hc)) ?_;exact mv E E<|mv E E<|s_p E (qy E E)<|zhi E E H31 fun t_12 t_13 Sx_6 H32=>mv E E<|s_p E (zj E E)<|iteK H32 (fun c_19 H33=>s_p E (yB (zj E E) c_19)<|gv E E<|gv E E<|nx<|zO<|csr<|mv E E<|s_p E (yB (qC E) E)<|nx<|cfs E E<|zC<|qc (by kernel_rfl)<|a_takeP 0 E (by decide +kernel) (zf (za zc)) E (zt E)<|by exact a_takeP 1 E (by decide +kernel) (zf (za zc)) E (zv E E)<|by exact gx H33 fun t_14 ht_14 H34=>qp 2 E (by decide +kernel) (zf (za zc)) E (zF E) (qm 1 E ht_14)<|by exact a_takeP 3 E (by decide +kernel) (zf (za zc)) E (zt E)<|by exact a_takeP 4 E (by decide +kernel) (zf (za zc)) E (qt E)<|by exact a_takeP 5 E (by decide +kernel) (zf (za zc)) E (zv E E)<|by exact an2 H34 fun c_20 c_21 H35=>a_takeP 6 E (by decide +kernel) (zf (za zc)) E (qb E E c_20 c_21 E)<|by exact zH 7 (by decide +kernel) E<|by exact an H35 fun c_22 H36=>qY E E E E E c_22 E<|zu<|qf zD<|qi (by decide +kernel)<|by exact zX<|hJx (IntKind.u64.wrap (t_2+4),[.int .u8 0,.int .u64 0]) _ _ _ _ [2] H36 E ⟨E,E,E,True.intro⟩ E) fun c_19 H33=>s_p E (yB (zj E E) (zac c_19))<|gv E E<|gv E E<|nx<|zO<|csr<|mv E E<|s_p E (yB (qC E) E)<|nx<|c_t E E<|csr<|by refine s_v E (qa E hc) (zx (k:=4) 0 E (ze hc)) ?_;exact mv E E<|mv E E<|s_p E (qy E E)<|qP E E H33 fun rv Sx_8 H37=>by obtain⟨t_15,rfl,ht_15,H38⟩:=H37;exact an H38 fun c_23 H39=>zl 2 E E E E E ht_15 E c_23<|nx<|zo<|zb<|zh<|zb<|zn results124 (zr E (zx (k:=2) 2 E (ze ht_15)) ht_15 zg) ⟨_,E,ht_15,H39⟩) fun c_18 H31=>ceF E E E (c_18)<|gv E E<|nx<|c_f E E<|csr<|iteK H31 (fun c_24 H40=>ceT E E E (c_24)<|gv E E<|nx<|c_t E E<|csr<|by refine s_v E (qa E hc) (zx (k:=4) 0 E (ze hc)) ?_;exact mv E E<|mv E E<|s_p E (qy E E)<|mv E E<|vv E E H40 fun t_16 Sx_9 H41=>by have H42:=zbG H41;rcases H42 with ⟨rfl,H43⟩ | ⟨rfl,H43⟩;exact (s_p E (yB (qC E) E)<|nx<|cfs E E<|zX<|hJx (IntKind.u64.wrap (t_2+4),[.int .u8 0,.int .u64 0]) _ _ _ _ [2] H43 E ⟨E,E,E,True.intro⟩ E);exact (s_p E (yB (qC E) E)<|nx<|c_t E E<|csr<|by refine s_v E (qa E hc) (zx (k:=4) 0 E (ze hc)) ?_;exact mv E E<|mv E E<|s_p E (qy E E)<|qP E E H43 fun rv Sx_10 H44=>by obtain⟨t_17,rfl,ht_17,H45⟩:=H44;exact an H45 fun c_25 H46=>zl 2 E E E E E ht_17 E c_25<|nx<|zo<|zh<|zb<|zn results124 (zr E (zx (k:=2) 2 E (ze ht_17)) ht_17 zg) ⟨_,E,ht_17,H46⟩)) fun c_24 H40=>ceF E E E (c_24)<|gv E E<|nx<|c_f E E<|zp H40 (fun (J:Bool→Mem→Prop) (z:Bool) S=>J z S) (fun z=>⟨234,[(2,.pointer (some ⟨b,0,none⟩)),(3,.pointer (some ⟨b_1,0,none⟩)),(4,.pointer (some ⟨b_2,0,none⟩)),(5,.pointer (some ⟨b_3,o_1,none⟩)),(6,.int .u64 (IntKind.u64.wrap (IntKind.i64.wrap t_1))),(7,.int .u64 (IntKind.u64.wrap (t_2+4))),(8,.int .u64 t_4),(9,.int .u64 t_6),(38,.int .u8 t_7),(128,.bool z)]⟩) (fun z=>[⟨b,224,c⟩,⟨b_1,231,o⟩,⟨b_2,48,[.int .u8 0,.int .u64 0]⟩]) (fun t_18 Sx_11 H47=>by have H48:=zbG H47;rcases H48 with ⟨c_26,H49⟩ | ⟨c_26,H49⟩;exact (c_t E c_26<|csr<|s_p E (zv E E)<|gx H49 fun t_19 ht_19 H50=>s_v E (zF E) (qm 1 E ht_19)<|mv E E<|mv E E<|vv E E H50 fun t_20 Sx_12 H51=>by have H52:=zbG H51;rcases H52 with ⟨rfl,H53⟩ | ⟨rfl,H53⟩;exact (nx<|ctr E E<|mv E E<|s_p E (qt E)<|s_p E (zv E E)<|gx H53 fun t_21 ht_21 H54=>s_v E (zF E) (qh ht_21)<|mv E E<|s_p E (zca E E)<|s_p E (qy E E)<|gv E E<|zu<|zX<|hJx (IntKind.u64.wrap (t_21+(IntKind.u64.wrap (4*(IntKind.u64.wrap (IntKind.i64.wrap t_1))))),[.int .u8 0,.int .u64 0]) _ _ _ _ [2] H54 E ⟨E,E,E,True.intro⟩ E);exact (nx<|cfs E E<|zX<|hJx (IntKind.u64.wrap (t_2+4),[.int .u8 0,.int .u64 0]) _ _ _ _ [2] H53 E ⟨E,E,E,True.intro⟩ E));exact (c_f E c_26<|csr<|iteK H49 (fun c_27 H55=>ceT E E E (c_27)<|gv E E<|nx<|c_t E E<|qc (by kernel_rfl)<|a_takeP 0 E (by decide +kernel) (zf (za zc)) E (zt E)<|by exact a_takeP 1 E (by decide +kernel) (zf (za zc)) E (zv E E)<|by exact gx H55 fun t_22 ht_22 H56=>qp 2 E (by decide +kernel) (zf (za zc)) E (zF E) (qm 1 E ht_22)<|by exact a_takeP 3 E (by decide +kernel) (zf (za zc)) E (zt E)<|by exact a_takeP 4 E (by decide +kernel) (zf (za zc)) E (zt E)<|by exact a_takeP 5 E (by decide +kernel) (zf (za zc)) E (zt E)<|by exact a_takeP 6 E (by decide +kernel) (zf (za zc)) E (qy E E)<|by exact a_takeP 7 E (by decide +kernel) (zf (za zc)) E (qt E)<|by exact a_takeP 8 E (by decide +kernel) (zf (za zc)) E (zv E E)<|by exact an2 H56 fun c_28 c_29 H57=>a_takeP 9 E (by decide +kernel) (zf (za zc)) E (qb E E c_28 c_29 E)<|by exact zH 10 (by decide +kernel) E<|by exact an H57 fun c_30 H58=>qY E E E E E c_30 E<|zu<|qf zD<|a_takeP 11 E (by decide +kernel) (zf (za zc)) E (qH E)<|by exact qi (by decide +kernel)<|by exact zX<|hJx (IntKind.u64.wrap (t_6+(IntKind.u64.wrap (IntKind.i64.wrap t_1))),[.int .u8 0,.int .u64 0]) _ _ _ _ [2] H58 E ⟨E,E,E,True.intro⟩ E) fun c_27 H55=>ceF E E E (c_27)<|gv E E<|nx<|c_f E E<|csr<|iteK H55 (fun c_31 H59=>ceT E E E (c_31)<|gv E E<|nx<|c_t E E<|qc (by kernel_rfl)<|a_takeP 0 E (by decide +kernel) (zf (za zc)) E (zt E)<|by exact a_takeP 1 E (by decide +kernel) (zf (za zc)) E (zv E E)<|by exact gx H59 fun t_23 ht_23 H60=>qp 2 E (by decide +kernel) (zf (za zc)) E (zF E) (qm 1 E ht_23)<|by exact a_takeP 3 E (by decide +kernel) (zf (za zc)) E (zt E)<|by exact a_takeP 4 E (by decide +kernel) (zf (za zc)) E (qt E)<|by exact gx H60 fun t_24 ht_24 H61=>by refine qp 5 E (by decide +kernel) (zf (za zc)) E (qa E (qZ ht_24)) (zfN ht_24) ?_;exact a_takeP 6 E (by decide +kernel) (zf (za zc)) E (zv E E)<|by exact gx H61 fun t_25 ht_25 H62=>qp 7 E (by decide +kernel) (zf (za zc)) E (zF E) (qm 1 E ht_25)<|by exact a_takeP 8 E (by decide +kernel) (zf (za zc)) E (qJ ⟨_,underlying54⟩ E)<|by exact a_takeP 9 E (by decide +kernel) (zf (za zc)) E (zv E E)<|by exact gx H62 fun t_26 ht_26 H63=>qp 10 E (by decide +kernel) (zf (za zc)) E (zF E) (qm 0 E ht_26)<|by exact a_takeP 11 E (by decide +kernel) (zf (za zc)) E (zv E E)<|by exact gx H63 fun t_27 ht_27 H64=>qp 12 E (by decide +kernel) (zf (za zc)) E (zF E) (qm 0 E ht_27)<|by exact a_takeP 17 E (by decide +kernel) (zf (za zc)) E (qt E)<|by exact a_takeP 18 E (by decide +kernel) (zf (za zc)) E (zv E E)<|by exact zH 13 (by decide +kernel) E<|by exact zhi E E H64 fun t_28 t_29 Sx_14 H65=>zu<|qf (zA (qm 1 E ht_25) (zA (qm 1 E ht_23) zD))<|a_takeP 14 E (by decide +kernel) (zf (za zc)) E (zt E)<|by exact a_takeP 15 E (by decide +kernel) (zf (za zc)) E (zj E E)<|by exact a_takeP 16 E (by decide +kernel) (zf (za zc)) E (zj E E)<|by exact an2 H65 fun c_32 c_33 H66=>a_takeP 19 E (by decide +kernel) (zf (za zc)) E (qb E E c_32 c_33 E)<|by exact zH 20 (by decide +kernel) E<|by exact an H66 fun c_34 H67=>qY E E E E E c_34 E<|zu<|qf zD<|qi (by decide +kernel)<|by exact zX<|hJx (IntKind.u64.wrap (t_2+4),[.int .u8 0,.int .u64 0]) _ _ _ _ [2] H67 E ⟨E,E,E,True.intro⟩ E) fun c_31 H59=>ceF E E E (c_31)<|gv E E<|nx<|c_f E E<|csr<|iteK H59 (fun c_35 H68=>ceT E E E (c_35)<|gv E E<|nx<|c_t E E<|zO<|csr<|mv E E<|s_p E (zv E E)<|gx H68 fun t_30 ht_30 H69=>s_v E (zF E) (qm 1 E ht_30)<|s_p E (qJ ⟨_,underlying54⟩ E)<|mv E E<|vv E E H69 fun t_31 Sx_16 H70=>by have H71:=zbG H70;rcases H71 with ⟨rfl,H72⟩ | ⟨rfl,H72⟩;exact (s_p E (yB (qC E) E)<|nx<|cfs E E<|zC<|zw<|mv E E<|zls E E H72 fun Sx_17 H73=>zu<|zX<|hJx (IntKind.u64.wrap (t_2+4),[.int .u8 0,.int .u64 0]) _ _ _ _ [2] H73 E ⟨E,E,E,True.intro⟩ E);exact (s_p E (yB (qC E) E)<|nx<|c_t E E<|zO<|qc (by kernel_rfl)<|by refine qp 0 E (by decide +kernel) (za (za (zf (za zc)))) E (qa E hc) (zx (k:=4) 0 E (ze hc)) ?_;exact a_takeP 1 E (by decide +kernel) (za (za (zf (za zc)))) E (zt E)<|by exact a_takeP 2 E (by decide +kernel) (za (za (zf (za zc)))) E (qt E)<|by exact a_takeP 3 E (by decide +kernel) (za (za (zf (za zc)))) E (zv E E)<|by exact gx H72 fun t_32 ht_32 H74=>qp 4 E (by decide +kernel) (za (za (zf (za zc)))) E (zF E) (qh ht_32)<|by exact zH 5 (by decide +kernel) E<|by exact qP E E H74 fun rv Sx_18 H75=>by obtain⟨t_33,rfl,ht_33,H76⟩:=H75;exact zu<|qf zD<|zH 6 (by decide +kernel) E<|by exact an H76 fun c_36 H77=>zl 2 E E E E E ht_33 E c_36<|zu<|qf zD<|qi (by decide +kernel)<|by exact zC<|zo<|zb<|zh<|zb<|zn results124 (zr E (zx (k:=2) 2 E (ze ht_33)) ht_33 zg) ⟨_,E,ht_33,H77⟩)) fun c_35 H68=>ceF E E E (c_35)<|gv E E<|nx<|c_f E E<|csr<|iteK H68 (fun c_37 H78=>ceT E E E (c_37)<|gv E E<|nx<|c_t E E<|csr<|mv E E<|mv E E<|s_p E (qt E)<|s_p E (zv E E)<|an H78 fun c_38 H79=>qY E E E E E c_38 E<|nxr<|mv E E<|s_p E (qj E E)<|by exact qu (sz:=2) (vs:=[.int .u8 2,.int .u64 (IntKind.u64.wrap (IntKind.i64.wrap t_1))]) 2 E E E E E E (Nat.le_of_ble_eq_true E) E<|nx<|zo<|zh<|zb<|zn results124 (zr E (zx (k:=2) 2 E E) E zg) ⟨_,E,E,H79⟩) fun c_37 H78=>ceF E E E (c_37)<|gv E E<|nx<|c_f E E<|csr<|iteK H78 (fun c_39 H80=>ceT E E E (c_39)<|gv E E<|nx<|c_t E E<|csr<|mv E E<|mv E E<|s_p E (qt E)<|s_p E (zv E E)<|an H80 fun c_40 H81=>qY E E E E E c_40 E<|nx<|zO<|zO<|qc (by kernel_rfl)<|a_takeP 0 E (by decide +kernel) (za (za (zf (za zc)))) E (zt E)<|by exact a_takeP 1 E (by decide +kernel) (za (za (zf (za zc)))) E (qt E)<|by exact a_takeP 2 E (by decide +kernel) (za (za (zf (za zc)))) E (zv E E)<|by exact gx H81 fun t_34 ht_34 H82=>qp 3 E (by decide +kernel) (za (za (zf (za zc)))) E (zF E) (qh ht_34)<|by exact a_takeP 4 E (by decide +kernel) (za (za (zf (za zc)))) E (zt E)<|by exact a_takeP 5 E (by decide +kernel) (za (za (zf (za zc)))) E (qt E)<|by exact a_takeP 6 E (by decide +kernel) (za (za (zf (za zc)))) E (zv E E)<|by exact gx H82 fun t_35 ht_35 H83=>qp 7 E (by decide +kernel) (za (za (zf (za zc)))) E (zF E) (qh ht_35)<|by exact a_takeP 8 E (by decide +kernel) (za (za (zf (za zc)))) E (zjL E E)<|by exact iteK H83 (fun c_41 H84=>a_takeP 9 E (by decide +kernel) (za (za (zf (za zc)))) E (yT (zeu E E) c_41)<|by exact qi (by decide +kernel)<|by exact zC<|c_t E E<|csr<|mv E E<|s_p E (qt E)<|s_p E (zv E E)<|an H84 fun c_42 H85=>qY E E E E E c_42 E<|nxr<|s_p E (qj E E)<|by exact qu (sz:=2) (vs:=[.int .u8 3,.int .u64 0]) 2 E E E E E E (Nat.le_of_ble_eq_true E) E<|nx<|zo<|zb<|zh<|zb<|zn results124 (zr E (zx (k:=2) 2 E E) E zg) ⟨_,E,E,H85⟩) fun c_41 H84=>a_takeP 9 E (by decide +kernel) (za (za (zf (za zc)))) E (yF (zeu E E) c_41)<|by exact qi (by decide +kernel)<|by exact zC<|cfs E E<|zC<|csr<|s_p E (qj E E)<|by exact qu (sz:=2) (vs:=[.int .u8 0,.int .u64 0]) 2 E E E E E E (Nat.le_of_ble_eq_true E) E<|nx<|zo<|zh<|zb<|zn results124 (zr E (zx (k:=2) 2 E E) E zg) ⟨_,E,E,H84⟩) fun c_39 H80=>ceF E E E (c_39)<|gv E E<|nx<|c_f E E<|csr<|iteK H80 (fun c_43 H86=>ceT E E E (c_43)<|gv E E<|nx<|c_t E E<|csr<|mv E E<|zls E E H86 fun Sx_22 H87=>nx<|zO<|by exact zw<|s_p E (qj E E)<|by exact qu (sz:=2) (vs:=[.int .u8 0,.int .u64 0]) 2 E E E E E E (Nat.le_of_ble_eq_true E) E<|nx<|zo<|zh<|zb<|zn results124 (zr E (zx (k:=2) 2 E E) E zg) ⟨_,E,E,H87⟩) fun c_43 H86=>ceF E E E (c_43)<|gv E E<|nx<|c_f E E<|csr<|s_p E (zv E E)<|gx H86 fun t_36 ht_36 H88=>s_v E (zF E) (qm 1 E ht_36)<|iteK H88 (fun c_44 H89=>by exact s_p E (yT (wP E E) c_44)<|nx<|c_t E E<|qc (by kernel_rfl)<|a_takeP 0 E (by decide +kernel) (zf (za zc)) E (zt E)<|by exact a_takeP 1 E (by decide +kernel) (zf (za zc)) E (zv E E)<|by exact gx H89 fun t_37 ht_37 H90=>qp 2 E (by decide +kernel) (zf (za zc)) E (zF E) (qm 1 E ht_37)<|by exact a_takeP 3 E (by decide +kernel) (zf (za zc)) E (zv E E)<|by exact gx H90 fun t_38 ht_38 H91=>qp 4 E (by decide +kernel) (zf (za zc)) E (zF E) (qm 1 E ht_38)<|by exact a_takeP 5 E (by decide +kernel) (zf (za zc)) E (zt E)<|by exact a_takeP 6 E (by decide +kernel) (zf (za zc)) E (zt E)<|by exact a_takeP 7 E (by decide +kernel) (zf (za zc)) E (zv E E)<|by exact gx H91 fun t_39 ht_39 H92=>qp 8 E (by decide +kernel) (zf (za zc)) E (zF E) (qm 1 E ht_39)<|by exact a_takeP 9 E (by decide +kernel) (zf (za zc)) E (qt E)<|by exact a_takeP 10 E (by decide +kernel) (zf (za zc)) E (zv E E)<|by exact an2 H92 fun c_45 c_46 H93=>a_takeP 11 E (by decide +kernel) (zf (za zc)) E (qb E E c_45 c_46 E)<|by exact gx H93 fun t_40 ht_40 H94=>qp 12 E (by decide +kernel) (zf (za zc)) E (zF E) (qh ht_40)<|by exact a_takeP 14 E (by decide +kernel) (zf (za zc)) E (qt E)<|by exact a_takeP 15 E (by decide +kernel) (zf (za zc)) E (zv E E)<|by exact zH 13 (by decide +kernel) E<|by exact vv E E H94 fun t_41 Sx_23 H95=>zu<|qf (zA (qm 1 E ht_39) (zA (qm 1 E ht_37) zD))<|an2 H95 fun c_47 c_48 H96=>a_takeP 16 E (by decide +kernel) (zf (za zc)) E (qb E E c_47 c_48 E)<|by exact zH 17 (by decide +kernel) E<|by exact an H96 fun c_49 H97=>qY E E E E E c_49 E<|zu<|qf zD<|qi (by decide +kernel)<|by exact zX<|hJx (IntKind.u64.wrap (t_2+4),[.int .u8 0,.int .u64 0]) _ _ _ _ [2] H97 E ⟨E,E,E,True.intro⟩ E) fun c_44 H89=>by exact s_p E (yF (wP E E) c_44)<|nx<|cfs E E<|zX<|hJx (IntKind.u64.wrap (t_2+4),[.int .u8 0,.int .u64 0]) _ _ _ _ [2] H89 E ⟨E,E,E,True.intro⟩ E)) (fun Jx_1 hJx_1 H98=>csr<|by exact iteK H98 (fun c_50 H99=>ceT E E E (c_50)<|gv E E<|nx<|c_t E E<|yu<|hJx_1 true _ _ _ _ [0,0,0] H99 E ⟨E,E,E,E,E,E,E,E,E,E,True.intro⟩ E) fun c_50 H99=>ceF E E E (c_50)<|gv E E<|nx<|c_f E E<|csr<|iteK H99 (fun c_51 H100=>ceT E E E (c_51)<|gv E E<|nx<|c_t E E<|yu<|hJx_1 true _ _ _ _ [0,0,0] H100 E ⟨E,E,E,E,E,E,E,E,E,E,True.intro⟩ E) fun c_51 H100=>ceF E E E (c_51)<|gv E E<|nx<|cfr E E<|iteK H100 (fun c_52 H101=>ceT E E E (c_52)<|gv E E<|zu<|hJx_1 true _ _ _ _ [0,0,0] H101 E ⟨E,E,E,E,E,E,E,E,E,E,True.intro⟩ E) fun c_52 H101=>ceF E E E (c_52)<|gv E E<|zu<|hJx_1 false _ _ _ _ [0,0,0] H101 E ⟨E,E,E,E,E,E,E,E,E,E,True.intro⟩ E))
def jF (S:Mem) (c:List Value) (addr:Int) (write:Bool) (Q:Int→Int→Bool→Mem→Prop):Prop:=
 c.length=4 ∧
 jn (fun (Sx:Mem)=>
 jn (fun (Sx_1:Mem)=>
 gP (nthL c 0) fun t=>
 nn t fun b_1 o=>
 gI (Sx_1.cell b_1 (o+17)) .u64 fun t_1=>
 jn (fun (Sx_2:Mem)=>
 gV (nthL c 1) fun t_2=>
 ci prog Sx_2 t_2 "Load" [.int .i64 (IntKind.i64.wrap (IntKind.u64.wrap (Int.tdiv t_1 256))), .int .i64 (IntKind.i64.wrap (IntKind.u64.wrap (8 * (IntKind.u64.wrap (Int.tdiv addr 256))))), .int .i64 8] fun rv Sx_3 => ∃ t_3 : Sl, ∃ t_4 : Int, rv = .tuple #[eL t_3, .int .i64 t_4] ∧ 
 zew Sx_3 t_3 fun t_5 Sx_4=>
 jn (fun (Sx_5:Mem)=>
 Q (IntKind.i64.wrap (ishr .u64 t_5 8)) (IntKind.i64.wrap (Int.tmod addr 256)) true Sx_5) fun Jx=>
 if t_4≠0 then
 Q 0 0 false Sx_4
 else
 if iand .u64 t_5 1=0 then
 Q 0 0 false Sx_4
 else
 if write=true then
 if iand .u64 t_5 2=0 then
 Q 0 0 false Sx_4
 else
 if 32≤ishr .u64 t_5 8 then
 Q 0 0 false Sx_4
 else
 Jx Sx_4
 else
 if 32≤ishr .u64 t_5 8 then
 Q 0 0 false Sx_4
 else
 Jx Sx_4) fun Jx_1=>
 if 32≤IntKind.u64.wrap (Int.tdiv t_1 256) then
 Q 0 0 false Sx_1
 else
 Jx_1 Sx_1) fun Jx_2=>
 gP (nthL c 0) fun t_6=>
 nn t_6 fun b_2 o_1=>
 gI (Sx.cell b_2 (o_1+17)) .u64 fun t_7=>
 if t_7=0 then
 Q (IntKind.i64.wrap (IntKind.u64.wrap (Int.tdiv addr 256))) (IntKind.i64.wrap (Int.tmod addr 256)) true Sx
 else
 Jx_2 Sx) fun Jx_3=>
 if 32≤IntKind.u64.wrap (Int.tdiv addr 256) then
 Q 0 0 false S
 else
 Jx_3 S
theorem zeM {S:Mem} {c:List Value} {addr:Int} {write:Bool} {Q:Int→Int→Bool→Mem→Prop} (H:jF S c addr write Q):kV S c addr write Q:=by
 unfold jF at H
 have:=dj1 14 [10,14]
 have:=dj (α:=Unit) 10 [2,3,9,10,11] (fun _=>[]) (fun _=>[(0,none)])
 have:=dj (α:=Unit) 7 [2,3,9,10] (fun _=>[]) (fun _=>[(0,none)])
 have:=dj (α:=Unit) 5 [2,3,9,10] (fun _=>[]) (fun _=>[(0,none)])
 exact Tr.intro func172 E ntmps172 E fun w0=>go results172 H
def gg (S:Mem) (c:List Value) (addr:Int) (w:Int) (Q:Bool→Mem→Prop):Prop:=
 c.length=4 ∧
 jn (fun (page:Int) (off:Int) (ok:Bool) (Sx:Mem)=>
 if ok=true then
 if Int.tmod addr 8=0 then
 gV (nthL c 1) fun t=>
 isI t ∧
 zaR Sx w fun t_1 Sx_1=>
 ci prog Sx_1 t "Save" [.int .i64 page, .int .i64 off, eL t_1] fun rv Sx_2 => ∃ t_2 : Int, rv = .int .i64 t_2 ∧ 
 Q (decide (t_2=0)) Sx_2
 else
 Q false Sx
 else
 Q false Sx) fun Jx=>
 kV S c addr true fun t_3 t_4 t_5 Sx_3=>
 if t_5=true then
 Jx t_3 t_4 true Sx_3
 else
 Jx t_3 t_4 false Sx_3
theorem zfJ {S:Mem} {c:List Value} {addr:Int} {w:Int} {Q:Bool→Mem→Prop} (H:gg S c addr w Q):zaE S c addr w Q:=by
 unfold gg at H
 exact Tr.intro func175 E ntmps175 E fun w0=>an H fun hc H1=>csr<|gu E E E fun b=>gv E E<|nx<|zp H1 (fun (J:Int→Int→Bool→Mem→Prop) (z:Int×Int×Bool) S=>J z.1 z.2.1 z.2.2 S) (fun z=>⟨35,[(1,.int .u64 addr),(2,.int .u64 w),(3,.pointer (some ⟨b,0,none⟩)),(7,.int .i64 z.1),(8,.int .i64 z.2.1),(9,.bool z.2.2)]⟩) (fun z=>[⟨b,224,c⟩]) (by rintro⟨page,off,ok⟩ Sx H2;exact zO<|qc (by kernel_rfl)<|iteK H2 (fun c_1 H3=>aTP 0 E (by decide +kernel) E (jb E c_1)<|by exact aTP 1 E (by decide +kernel) E (zt E)<|by exact aTP 2 E (by decide +kernel) E (zt E)<|by exact aTP 3 E (by decide +kernel) E (zbc E E (by decide))<|by exact iteK H3 (fun c_2 H4=>aTP 4 E (by decide +kernel) E (yT (zeu E E) c_2)<|by exact aTP 5 E (by decide +kernel) E (zdF E E)<|by exact aTP 6 E (by decide +kernel) E (zt E)<|by exact aTP 7 E (by decide +kernel) E (zv E E)<|by exact gx H4 fun t ht H5=>aT 8 E (by decide +kernel) E (zF E) (qm 0 E ht)<|by exact aTP 9 E (by decide +kernel) E (zt E)<|by exact aTP 10 E (by decide +kernel) E (zt E)<|by exact aTP 11 E (by decide +kernel) E (zt E)<|by exact an H5 fun c_3 H6=>aTP 13 E (by decide +kernel) E (zpB c_3 E)<|by exact aTP 14 E (by decide +kernel) E (zt E)<|by exact zH 12 (by decide +kernel) E<|by exact vv E E H6 fun t_1 Sx_1 H7=>zu<|qf (zA (qm 0 E ht) zD)<|zH 15 (by decide +kernel) E<|by exact zkQ E E E H7 fun rv Sx_2 H8=>by obtain⟨t_2,rfl,H9⟩:=H8;exact zu<|qf (zA (qm 0 E ht) zD)<|aTP 16 E (by decide +kernel) E (zeu E E)<|by exact aTP 17 E (by decide +kernel) E (zdF E E)<|by exact aTP 18 E (by decide +kernel) E (qH E)<|by exact qi (by decide +kernel)<|by exact zC<|zo<|zn results175 (zd E zg) ⟨_,E,H9⟩) fun c_2 H4=>aTP 4 E (by decide +kernel) E (yF (zeu E E) c_2)<|by exact aTP 5 E (by decide +kernel) E (zdF E E)<|by exact aTP 6 E (by decide +kernel) E (zt E)<|by exact xA 7 E (by decide +kernel) (za zc) E<|by exact xA 8 E (by decide +kernel) (za zc) E<|by exact xA 9 E (by decide +kernel) (za zc) E<|by exact xA 10 E (by decide +kernel) (za zc) E<|by exact xA 11 E (by decide +kernel) (za zc) E<|by exact xA 12 E (by decide +kernel) (za zc) E<|by exact xA 13 E (by decide +kernel) (za zc) E<|by exact xA 14 E (by decide +kernel) (za zc) E<|by exact xA 15 E (by decide +kernel) (za zc) E<|by exact xA 16 E (by decide +kernel) (za zc) E<|by exact aTP 17 E (by decide +kernel) E (zdF E E)<|by exact aTP 18 E (by decide +kernel) E (qH E)<|by exact qi (by decide +kernel)<|by exact zC<|zo<|zn results175 (zd E zg) ⟨_,E,H4⟩) fun c_1 H3=>aTP 0 E (by decide +kernel) E (jb E (zac c_1))<|by exact aTP 1 E (by decide +kernel) E (zt E)<|by exact xA 2 E (by decide +kernel) (za zc) E<|by exact xA 3 E (by decide +kernel) (za zc) E<|by exact xA 4 E (by decide +kernel) (za zc) E<|by exact aTP 5 E (by decide +kernel) E (zdF E E)<|by exact aTP 6 E (by decide +kernel) E (zt E)<|by exact xA 7 E (by decide +kernel) (za zc) E<|by exact xA 8 E (by decide +kernel) (za zc) E<|by exact xA 9 E (by decide +kernel) (za zc) E<|by exact xA 10 E (by decide +kernel) (za zc) E<|by exact xA 11 E (by decide +kernel) (za zc) E<|by exact xA 12 E (by decide +kernel) (za zc) E<|by exact xA 13 E (by decide +kernel) (za zc) E<|by exact xA 14 E (by decide +kernel) (za zc) E<|by exact xA 15 E (by decide +kernel) (za zc) E<|by exact xA 16 E (by decide +kernel) (za zc) E<|by exact aTP 17 E (by decide +kernel) E (zdF E E)<|by exact aTP 18 E (by decide +kernel) E (qH E)<|by exact qi (by decide +kernel)<|by exact zC<|zo<|zn results175 (zd E zg) ⟨_,E,H3⟩) (fun Jx hJx H10=>zw<|by refine s_v E (qa E hc) (zx (k:=4) 0 E (ze hc)) ?_;exact mv E E<|zrC E E H10 fun t_3 t_4 t_5 Sx_3 H11=>mv E E<|s_p E (zj E E)<|s_p E (zj E E)<|iteK H11 (fun c_4 H12=>s_p E (yB (zj E E) c_4)<|gv E E<|gv E E<|gv E E<|zu<|hJx (t_3,t_4,true) _ _ _ _ [0] H12 E ⟨E,E,E,E,E,E,True.intro⟩ E) fun c_4 H12=>s_p E (yB (zj E E) (zac c_4))<|gv E E<|gv E E<|gv E E<|zu<|hJx (t_3,t_4,false) _ _ _ _ [0] H12 E ⟨E,E,E,E,E,E,True.intro⟩ E)
def jE (S:Mem) (k:Int) (a:Int) (b:Int) (Q:Bool→Mem→Prop):Prop:=
 jn (fun (Sx:Mem)=>
 Q (decide (IntKind.i64.wrap a<IntKind.i64.wrap b)) Sx) fun Jx=>
 if k=14 then
 Q (decide (a=b)) S
 else
 if k=15 then
 Q (decide (a≠b)) S
 else
 Jx S
theorem zbB {S:Mem} {k:Int} {a:Int} {b:Int} {Q:Bool→Mem→Prop} (H:jE S k a b Q):zaD S k a b Q:=by
 unfold jE at H
 have:=dj1 7 [1,2]
 exact Tr.intro func176 E ntmps176 E fun w0=>go results176 H
def zfE (S:Mem) (k:Int) (b:Int) (c:Int) (Q:Int→Mem→Prop):Prop:=
 jn (fun (Sx:Mem)=>
 0≤iand .u64 c 63 ∧
 Q (ishr .u64 b (iand .u64 c 63)) Sx) fun Jx=>
 if k=3 then
 Q (IntKind.u64.wrap (b+c)) S
 else
 if k=4 then
 Q (IntKind.u64.wrap (b-c)) S
 else
 if k=5 then
 Q (IntKind.u64.wrap (b*c)) S
 else
 if k=6 then
 Q (iand .u64 b c) S
 else
 if k=7 then
 Q (ior .u64 b c) S
 else
 if k=8 then
 Q (ixor .u64 b c) S
 else
 if k=9 then
 0≤iand .u64 c 63 ∧
 Q (ishl .u64 b (iand .u64 c 63)) S
 else
 Jx S
theorem zlg {S:Mem} {k:Int} {b:Int} {c:Int} {Q:Int→Mem→Prop} (H:zfE S k b c Q):zhc S k b c Q:=by
 unfold zfE at H
 have:=dj1 17 [1,2]
 exact Tr.intro func180 E ntmps180 E fun w0=>go results180 H
end
section
open Go Go.Pt Go.Proofs.Tryz
attribute [local irreducible] lt WD WN Code.wp Back bodyPost wpList FR WL WC WQ WA AW Tr Yc HC AllC
set_option maxRecDepth 20000
set_option maxHeartbeats 4000000
def fK (S:Mem) (w:Int) (Q:List Value→Bool→Mem→Prop):Prop:=
 xc S (IntKind.u64.wrap w) 26 6 fun t Sx=>
 xc Sx (IntKind.u64.wrap w) 22 4 fun t_1 Sx_1=>
 xc Sx_1 (IntKind.u64.wrap w) 18 4 fun t_2 Sx_2=>
 jn (fun (o:List Value) (Sx_3:Mem)=>
 o.length=5 ∧
 zbK Sx_3 o fun t_3 t_4 Sx_4=>
 if t_4=true then
 if t_3≠w then
 Q ([.int .u8 0,.int .u8 0,.int .u8 0,.int .u8 0,.int .i16 0]) false Sx_4
 else
 o.all (·.oneCell')=true ∧
 Q o true Sx_4
 else
 Q ([.int .u8 0,.int .u8 0,.int .u8 0,.int .u8 0,.int .i16 0]) false Sx_4) fun Jx=>
 jr Sx_2 (IntKind.u8.wrap t) fun t_5 Sx_5=>
 gB (nthL t_5 2) fun t_6=>
 if t_6=true then
 xc Sx_5 (IntKind.u64.wrap w) 0 4 fun t_7 Sx_6=>
 Jx ([.int .u8 (IntKind.u8.wrap t),.int .u8 (IntKind.u8.wrap t_1),.int .u8 (IntKind.u8.wrap t_2),.int .u8 (IntKind.u8.wrap t_7),.int .i16 0]) Sx_6
 else
 xc Sx_5 (IntKind.u64.wrap w) 0 16 fun t_8 Sx_7=>
 Jx ([.int .u8 (IntKind.u8.wrap t),.int .u8 (IntKind.u8.wrap t_1),.int .u8 (IntKind.u8.wrap t_2),.int .u8 0,.int .i16 (IntKind.i16.wrap t_8)]) Sx_7
theorem zgC {S:Mem} {w:Int} {Q:List Value→Bool→Mem→Prop} (H:fK S w Q):zbL S w Q:=by
 unfold fK at H
 have:=dj (α:=List Value×Unit) 7 [0,2,5] (fun _=>[]) (fun z=>[(0,none),(1,some z.1)])
 exact Tr.intro func123 E ntmps123 E fun w0=>go results123 H
def fI (S:Mem) (code:Int) (Q:List Value→Mem→Prop):Prop:=
 jn (fun (v:List Value) (Sx:Mem)=>
 v.length=4 ∧
 Q ([.bool true,.bool true,.bool true,.bool false]) Sx) fun Jx=>
 jn (fun (t:Bool) (Sx_1:Mem)=>
 if t=true then
 Q ([.bool false,.bool false,.bool false,.bool false]) Sx_1
 else
 jn (fun (t_1:Bool) (Sx_2:Mem)=>
 if t_1=true then
 Q ([.bool true,.bool false,.bool false,.bool true]) Sx_2
 else
 if code=20 then
 Q ([.bool false,.bool false,.bool false,.bool true]) Sx_2
 else
 jn (fun (t_2:Bool) (Sx_3:Mem)=>
 if t_2=true then
 Q ([.bool true,.bool true,.bool false,.bool true]) Sx_3
 else
 Jx ([.bool false,.bool false,.bool false,.bool false]) Sx_3) fun Jx_1=>
 if code=11 then
 Jx_1 true Sx_2
 else
 if code=12 then
 Jx_1 true Sx_2
 else
 if code=13 then
 Jx_1 true Sx_2
 else
 if code=14 then
 Jx_1 true Sx_2
 else
 if code=15 then
 Jx_1 true Sx_2
 else
 if code=16 then
 Jx_1 true Sx_2
 else
 if code=17 then
 Jx_1 true Sx_2
 else
 Jx_1 false Sx_2) fun Jx_2=>
 if code=1 then
 Jx_2 true Sx_1
 else
 if code=2 then
 Jx_2 true Sx_1
 else
 if code=18 then
 Jx_2 true Sx_1
 else
 if code=19 then
 Jx_2 true Sx_1
 else
 Jx_2 false Sx_1) fun Jx_3=>
 if code=0 then
 Jx_3 true S
 else
 if code=21 then
 Jx_3 true S
 else
 if code=22 then
 Jx_3 true S
 else
 Jx_3 false S
theorem zgA {S:Mem} {code:Int} {Q:List Value→Mem→Prop} (H:fI S code Q):jr S code Q:=by
 unfold fI at H
 have:=dj (α:=List Value×Unit) 22 [2] (fun _=>[]) (fun z=>[(0,some z.1)])
 have:=dj (α:=Bool×Unit) 21 [2] (fun z=>[(18,.bool z.1)]) (fun _=>[(0,none)])
 have:=dj (α:=Bool×Unit) 11 [2,3] (fun z=>[(9,.bool z.1)]) (fun _=>[(0,none)])
 have:=dj (α:=Bool×Unit) 6 [2,3] (fun z=>[(4,.bool z.1)]) (fun _=>[(0,none)])
 exact Tr.intro func173 E ntmps173 E fun w0=>go results173 H
def fJ (S:Mem) (o:List Value) (Q:Int→Bool→Mem→Prop):Prop:=
 o.length=5 ∧
 jn (fun (Sx:Mem)=>
 gI (nthL o 0) .u8 fun t=>
 yo Sx 0 26 6 (IntKind.u64.wrap t) fun t_1 Sx_1=>
 gI (nthL o 1) .u8 fun t_2=>
 yo Sx_1 t_1 22 4 (IntKind.u64.wrap t_2) fun t_3 Sx_2=>
 gI (nthL o 2) .u8 fun t_4=>
 yo Sx_2 t_3 18 4 (IntKind.u64.wrap t_4) fun t_5 Sx_3=>
 jn (fun (Sx_4:Mem)=>
 gI (nthL o 4) .i16 fun t_6=>
 yo Sx_4 t_5 0 16 (IntKind.u64.wrap (IntKind.u16.wrap t_6)) fun t_7 Sx_5=>
 Q (IntKind.u32.wrap t_7) true Sx_5) fun Jx=>
 gI (nthL o 0) .u8 fun t_8=>
 jr Sx_3 t_8 fun t_9 Sx_6=>
 gB (nthL t_9 2) fun t_10=>
 if t_10=true then
 gI (nthL o 3) .u8 fun t_11=>
 yo Sx_6 t_5 0 4 (IntKind.u64.wrap t_11) fun t_12 Sx_7=>
 Q (IntKind.u32.wrap t_12) true Sx_7
 else
 Jx Sx_6) fun Jx_1=>
 zdq S o fun t_13 Sx_8=>
 if t_13=true then
 Jx_1 Sx_8
 else
 Q 0 false Sx_8
theorem zgB {S:Mem} {o:List Value} {Q:Int→Bool→Mem→Prop} (H:fJ S o Q):zbK S o Q:=by
 unfold fJ at H
 have:=dj (α:=Unit) 9 [1,4] (fun _=>[]) (fun _=>[(0,none)])
 have:=dj (α:=Unit) 4 [1] (fun _=>[]) (fun _=>[(0,none)])
 exact Tr.intro func174 E ntmps174 E fun w0=>go results174 H
def zaN (S:Mem) (o:List Value) (Q:Bool→Mem→Prop):Prop:=
 o.length=5 ∧
 gI (nthL o 0) .u8 fun t=>
 jr S t fun t_1 Sx=>
 t_1.all (·.oneCell')=true ∧
 jn (fun (Sx_1:Mem)=>
 gI (nthL o 0) .u8 fun t_2=>
 if t_2=18 then
 gI (nthL o 4) .i16 fun t_3=>
 if 0≤t_3 then
 gI (nthL o 4) .i16 fun t_4=>
 Q (decide (t_4<9)) Sx_1
 else
 Q false Sx_1
 else
 gI (nthL o 0) .u8 fun t_5=>
 if t_5=19 then
 gI (nthL o 4) .i16 fun t_6=>
 if 0≤t_6 then
 gI (nthL o 4) .i16 fun t_7=>
 Q (decide (t_7<9)) Sx_1
 else
 Q false Sx_1
 else
 Q true Sx_1) fun Jx=>
 gI (nthL o 0) .u8 fun t_8=>
 if 23≤t_8 then
 Q false Sx
 else
 gB (nthL t_1 0) fun t_9=>
 gI (nthL o 1) .u8 fun t_10=>
 cv prog Sx (.func (.func 240) #[] #[]) [.bool t_9,.int .u8 t_10] fun rv Sx_2=>∃ t_11:Bool,rv=.bool t_11∧
 if t_11=true then
 gB (nthL t_1 1) fun t_12=>
 gI (nthL o 2) .u8 fun t_13=>
 cv prog Sx_2 (.func (.func 240) #[] #[]) [.bool t_12,.int .u8 t_13] fun rv Sx_3=>∃ t_14:Bool,rv=.bool t_14∧
 if t_14=true then
 gB (nthL t_1 2) fun t_15=>
 gI (nthL o 3) .u8 fun t_16=>
 cv prog Sx_3 (.func (.func 240) #[] #[]) [.bool t_15,.int .u8 t_16] fun rv Sx_4=>∃ t_17:Bool,rv=.bool t_17∧
 if t_17=true then
 gB (nthL t_1 3) fun t_18=>
 if t_18=true then
 Jx Sx_4
 else
 gI (nthL o 4) .i16 fun t_19=>
 if t_19≠0 then
 Q false Sx_4
 else
 Jx Sx_4
 else
 Q false Sx_4
 else
 Q false Sx_3
 else
 Q false Sx_2
theorem zht {S:Mem} {o:List Value} {Q:Bool→Mem→Prop} (H:zaN S o Q):zdq S o Q:=by
 unfold zaN at H
 exact Tr.intro func219 E ntmps219 E fun w0=>an H fun ho H1=>csr<|gu E E E fun b=>gv E E<|nxr<|s_p E (zv E E)<|gx H1 fun t ht H2=>s_v E (zF E) (qm 0 E ht)<|qP E E H2 fun rv Sx H3=>by obtain⟨t_1,rfl,ht_1,H4⟩:=H3;exact by refine qk E fun b_1=>?_;exact an H4 fun c H5=>zl 1 E E E E E ht_1 E c<|nxr<|gv E E<|nx<|zp H5 (fun (J:Mem→Prop) (z:Unit) S=>J S) (fun z=>⟨64,[(1,.pointer (some ⟨b,0,none⟩))]⟩) (fun z=>[⟨b,231,o⟩]) (fun _ Sx_1 H6=>zO<|csr<|s_p E (zv E E)<|gx H6 fun t_2 ht_2 H7=>s_v E (zF E) (qm 0 E ht_2)<|iteK H7 (fun c_1 H8=>ceT E E E (c_1)<|mv E E<|sk2 E E<|zG E<|pk E E E<|nx<|c_t E E<|csr<|s_p E (zv E E)<|gx H8 fun t_3 ht_3 H9=>s_v E (zF E) (qm 0 E ht_3)<|iteK H9 (fun c_2 H10=>s_p E (yT (wP E E) c_2)<|mv E E<|s_p E (zv E E)<|gx H10 fun t_4 ht_4 H11=>s_v E (zF E) (qm 0 E ht_4)<|s_p E (zQ E E)<|pk E E E<|gv E E<|nx<|zo<|zb<|zn results219 (zd E zg) ⟨_,E,H11⟩) fun c_2 H10=>s_p E (yF (wP E E) c_2)<|mv E E<|sk2 E E<|zG E<|pk E E E<|gv E E<|nx<|zo<|zb<|zn results219 (zd E zg) ⟨_,E,H10⟩) fun c_1 H8=>ceF E E E (c_1)<|mv E E<|s_p E (zv E E)<|gx H8 fun t_5 ht_5 H12=>s_v E (zF E) (qm 0 E ht_5)<|iteK H12 (fun c_3 H13=>ceT E E E (c_3)<|pk E E E<|nx<|c_t E E<|csr<|s_p E (zv E E)<|gx H13 fun t_6 ht_6 H14=>s_v E (zF E) (qm 0 E ht_6)<|iteK H14 (fun c_4 H15=>s_p E (yT (wP E E) c_4)<|mv E E<|s_p E (zv E E)<|gx H15 fun t_7 ht_7 H16=>s_v E (zF E) (qm 0 E ht_7)<|s_p E (zQ E E)<|pk E E E<|gv E E<|nx<|zo<|zb<|zn results219 (zd E zg) ⟨_,E,H16⟩) fun c_4 H15=>s_p E (yF (wP E E) c_4)<|mv E E<|sk2 E E<|zG E<|pk E E E<|gv E E<|nx<|zo<|zb<|zn results219 (zd E zg) ⟨_,E,H15⟩) fun c_3 H13=>ceF E E E (c_3)<|pk E E E<|nx<|cfs E E<|zC<|csr<|gv E E<|nx<|zo<|zn results219 (zd E zg) ⟨_,E,H13⟩) (fun Jx hJx H17=>csr<|s_p E (zv E E)<|gx H17 fun t_8 ht_8 H18=>s_v E (zF E) (qm 0 E ht_8)<|iteK H18 (fun c_5 H19=>s_p E (yT (wP E E) c_5)<|mv E E<|sk4 E E E E<|sk2 E E<|zG E<|pk E E E<|mv E E<|sk4 E E E E<|sk2 E E<|zG E<|pk E E E<|mv E E<|sk4 E E E E<|sk2 E E<|zG E<|pk E E E<|mv E E<|sk4 E E E E<|zG E<|by exact sk2 E E<|zG E<|pk E E E<|nx<|c_t E E<|csr<|gv E E<|nx<|zo<|zb<|zn results219 (zd E zg) ⟨_,E,H19⟩) fun c_5 H19=>s_p E (yF (wP E E) c_5)<|mv E E<|mv E E<|s_p E (zv E E)<|gx H19 fun t_9 ht_9 H20=>s_v E (zF E) (qm 1 E ht_9)<|s_p E (zv E E)<|gx H20 fun t_10 ht_10 H21=>s_v E (zF E) (qm 0 E ht_10)<|zqZ E E E H21 fun rv Sx_2 H22=>by obtain⟨t_11,rfl,H23⟩:=H22;exact by have H24:=zbG H23;rcases H24 with ⟨rfl,H25⟩ | ⟨rfl,H25⟩;exact (s_p E (yB (qC E) E)<|pk E E E<|mv E E<|mv E E<|s_p E (zv E E)<|gx H25 fun t_12 ht_12 H26=>s_v E (zF E) (qm 1 E ht_12)<|s_p E (zv E E)<|gx H26 fun t_13 ht_13 H27=>s_v E (zF E) (qm 0 E ht_13)<|zqZ E E E H27 fun rv Sx_3 H28=>by obtain⟨t_14,rfl,H29⟩:=H28;exact by have H30:=zbG H29;rcases H30 with ⟨rfl,H31⟩ | ⟨rfl,H31⟩;exact (s_p E (yB (qC E) E)<|pk E E E<|mv E E<|mv E E<|s_p E (zv E E)<|gx H31 fun t_15 ht_15 H32=>s_v E (zF E) (qm 1 E ht_15)<|s_p E (zv E E)<|gx H32 fun t_16 ht_16 H33=>s_v E (zF E) (qm 0 E ht_16)<|zqZ E E E H33 fun rv Sx_4 H34=>by obtain⟨t_17,rfl,H35⟩:=H34;exact by have H36:=zbG H35;rcases H36 with ⟨rfl,H37⟩ | ⟨rfl,H37⟩;exact (s_p E (yB (qC E) E)<|pk E E E<|mv E E<|s_p E (zv E E)<|gx H37 fun t_18 ht_18 H38=>by have H39:=zbG H38;rcases H39 with ⟨rfl,H40⟩ | ⟨rfl,H40⟩;exact (s_v E (zF E) (qm 1 E ht_18)<|s_p E (yB (qC E) E)<|mv E E<|sk2 E E<|zG E<|pk E E E<|pk E E E<|nx<|cfs E E<|hJx () _ _ _ _ [0] H40 E ⟨E,True.intro⟩ E);exact (s_v E (zF E) (qm 1 E ht_18)<|s_p E (yB (qC E) E)<|mv E E<|s_p E (zv E E)<|gx H40 fun t_19 ht_19 H41=>s_v E (zF E) (qm 0 E ht_19)<|iteK H41 (fun c_6 H42=>s_p E (yT (qw E E) c_6)<|pk E E E<|pk E E E<|nx<|c_t E E<|csr<|gv E E<|nx<|zo<|zb<|zn results219 (zd E zg) ⟨_,E,H42⟩) fun c_6 H42=>s_p E (yF (qw E E) c_6)<|pk E E E<|pk E E E<|nx<|cfs E E<|hJx () _ _ _ _ [0] H42 E ⟨E,True.intro⟩ E));exact (s_p E (yB (qC E) E)<|pk E E E<|mv E E<|sk8 E E E E E E E E<|pk E E E<|nx<|c_t E E<|csr<|gv E E<|nx<|zo<|zb<|zn results219 (zd E zg) ⟨_,E,H37⟩));exact (s_p E (yB (qC E) E)<|pk E E E<|mv E E<|sk4 E E E E<|sk2 E E<|zG E<|pk E E E<|mv E E<|sk8 E E E E E E E E<|pk E E E<|nx<|c_t E E<|csr<|gv E E<|nx<|zo<|zb<|zn results219 (zd E zg) ⟨_,E,H31⟩));exact (s_p E (yB (qC E) E)<|pk E E E<|mv E E<|sk4 E E E E<|sk2 E E<|zG E<|pk E E E<|mv E E<|sk4 E E E E<|sk2 E E<|zG E<|pk E E E<|mv E E<|sk8 E E E E E E E E<|pk E E E<|nx<|c_t E E<|csr<|gv E E<|nx<|zo<|zb<|zn results219 (zd E zg) ⟨_,E,H25⟩))
def jG (S:Mem) (isx:Bool) (r:Int) (Q:Bool→Mem→Prop):Prop:=
 if r=0 then
 Q true S
 else
 if isx=true then
 Q (decide (r<16)) S
 else
 Q false S
theorem zeN {S:Mem} {isx:Bool} {r:Int} {Q:Bool→Mem→Prop} (H:jG S isx r Q):fu S isx r Q:=by
 unfold jG at H
 exact Tr.intro func240 E ntmps240 E fun w0=>go results240 H
def jO (S:Mem) (w:Int) (atx:Int) (n:Int) (Q:Int→Mem→Prop):Prop:=
 jn (fun (Sx:Mem)=>
 0≤atx ∧
 if n<64 then
 0≤n ∧
 Q (iand .u64 (ishr .u64 w atx) (IntKind.u64.wrap ((ishl .u64 1 n)-1))) Sx
 else
 Q (ishr .u64 w atx) Sx) fun Jx=>
 if atx<0 then
 Q 0 S
 else
 if 63<atx then
 Q 0 S
 else
 if n≤0 then
 Q 0 S
 else
 Jx S
theorem zdG {S:Mem} {w:Int} {atx:Int} {n:Int} {Q:Int→Mem→Prop} (H:jO S w atx n Q):xc S w atx n Q:=by
 unfold jO at H
 have:=dj1 4 [0,1,2]
 exact Tr.intro func165 E ntmps165 E fun w0=>go results165 H
def vH (S:Mem) (w:Int) (atx:Int) (n:Int) (v:Int) (Q:Int→Mem→Prop):Prop:=
 jn (fun (Sx:Mem)=>
 jn (fun (mask:Int) (Sx_1:Mem)=>
 0≤atx ∧
 0≤atx ∧
 Q (ior .u64 (iandn .u64 w (ishl .u64 mask atx)) (ishl .u64 (iand .u64 v mask) atx)) Sx_1) fun Jx=>
 if n<64 then
 0≤n ∧
 Jx (IntKind.u64.wrap ((ishl .u64 1 n)-1)) Sx
 else
 Jx 18446744073709551615 Sx) fun Jx_1=>
 if atx<0 then
 Q w S
 else
 if 63<atx then
 Q w S
 else
 if n≤0 then
 Q w S
 else
 Jx_1 S
theorem gJ {S:Mem} {w:Int} {atx:Int} {n:Int} {v:Int} {Q:Int→Mem→Prop} (H:vH S w atx n v Q):yo S w atx n v Q:=by
 unfold vH at H
 have:=dj0 (α:=Int×Unit) 7 [0,1,3] (fun z=>[(9,.int .u64 z.1)])
 have:=dj1 4 [0,1,2,3]
 exact Tr.intro func167 E ntmps167 E fun w0=>go results167 H
def yx (S:Mem) (code:Int) (Q:Int→Mem→Prop):Prop:=
 al S 3 ([.int .i64 0,.int .i64 9,.int .i64 9,.int .i64 7,.int .i64 7,.int .i64 7,.int .i64 7,.int .i64 7,.int .i64 7,.int .i64 7,.int .i64 7,.int .i64 11,.int .i64 11,.int .i64 11,.int .i64 11,.int .i64 11,.int .i64 11,.int .i64 11,.int .i64 9,.int .i64 9,.int .i64 8,.int .i64 0,.int .i64 0]) fun b Sx=>
 0≤code∧code<23 ∧
 gI (Sx.cell b (0+code.toNat*1)) .i64 fun t=>
 Q t Sx
theorem gp {S:Mem} {code:Int} {Q:Int→Mem→Prop} (H:yx S code Q):qF S code Q:=by
 unfold yx at H
 exact Tr.intro func73 E ntmps73 E fun w0=>go results73 H
def xu (S:Mem) (code:Int) (a:Int) (b:Int) (c:Int) (n:Int) (Q:Int→Mem→Prop):Prop:=
 qF S code fun t Sx=>
 if Int.tmod (IntKind.i64.wrap (Int.tdiv t 4)) 2=1 then
 Q (IntKind.u32.wrap ((IntKind.u32.wrap ((IntKind.u32.wrap ((IntKind.u32.wrap ((IntKind.u32.wrap code)*67108864))+(IntKind.u32.wrap ((IntKind.u32.wrap a)*4194304))))+(IntKind.u32.wrap ((IntKind.u32.wrap b)*262144))))+(IntKind.u32.wrap c))) Sx
 else
 Q (IntKind.u32.wrap ((IntKind.u32.wrap ((IntKind.u32.wrap ((IntKind.u32.wrap ((IntKind.u32.wrap code)*67108864))+(IntKind.u32.wrap ((IntKind.u32.wrap a)*4194304))))+(IntKind.u32.wrap ((IntKind.u32.wrap b)*262144))))+(IntKind.u32.wrap (IntKind.u16.wrap n)))) Sx
theorem fZ {S:Mem} {code:Int} {a:Int} {b:Int} {c:Int} {n:Int} {Q:Int→Mem→Prop} (H:xu S code a b c n Q):wo S code a b c n Q:=by
 unfold xu at H
 exact Tr.intro func29 E ntmps29 E fun w0=>go results29 H
def yS (S:Mem) (code:Int) (a:Int) (b:Int) (c:Int) (n:Int) (Q:Bool→Mem→Prop):Prop:=
 jn (fun (Sx:Mem)=>
 qF Sx code fun t Sx_1=>
 jn (fun (Sx_2:Mem)=>
 if code≠18 then
 if code≠19 then
 Q true Sx_2
 else
 if 0≤n then
 Q (decide (n<9)) Sx_2
 else
 Q false Sx_2
 else
 if 0≤n then
 Q (decide (n<9)) Sx_2
 else
 Q false Sx_2) fun Jx=>
 if 15<a then
 Q false Sx_1
 else
 if 15<b then
 Q false Sx_1
 else
 if 15<c then
 Q false Sx_1
 else
 if Int.tmod t 2=0 then
 if 0<a then
 Q false Sx_1
 else
 if Int.tmod (IntKind.i64.wrap (Int.tdiv t 2)) 2=0 then
 if 0<b then
 Q false Sx_1
 else
 if Int.tmod (IntKind.i64.wrap (Int.tdiv t 4)) 2=0 then
 if 0<c then
 Q false Sx_1
 else
 if IntKind.i64.wrap (Int.tdiv t 8)=0 then
 if n≠0 then
 Q false Sx_1
 else
 Jx Sx_1
 else
 Jx Sx_1
 else
 if IntKind.i64.wrap (Int.tdiv t 8)=0 then
 if n≠0 then
 Q false Sx_1
 else
 Jx Sx_1
 else
 Jx Sx_1
 else
 if Int.tmod (IntKind.i64.wrap (Int.tdiv t 4)) 2=0 then
 if 0<c then
 Q false Sx_1
 else
 if IntKind.i64.wrap (Int.tdiv t 8)=0 then
 if n≠0 then
 Q false Sx_1
 else
 Jx Sx_1
 else
 Jx Sx_1
 else
 if IntKind.i64.wrap (Int.tdiv t 8)=0 then
 if n≠0 then
 Q false Sx_1
 else
 Jx Sx_1
 else
 Jx Sx_1
 else
 if Int.tmod (IntKind.i64.wrap (Int.tdiv t 2)) 2=0 then
 if 0<b then
 Q false Sx_1
 else
 if Int.tmod (IntKind.i64.wrap (Int.tdiv t 4)) 2=0 then
 if 0<c then
 Q false Sx_1
 else
 if IntKind.i64.wrap (Int.tdiv t 8)=0 then
 if n≠0 then
 Q false Sx_1
 else
 Jx Sx_1
 else
 Jx Sx_1
 else
 if IntKind.i64.wrap (Int.tdiv t 8)=0 then
 if n≠0 then
 Q false Sx_1
 else
 Jx Sx_1
 else
 Jx Sx_1
 else
 if Int.tmod (IntKind.i64.wrap (Int.tdiv t 4)) 2=0 then
 if 0<c then
 Q false Sx_1
 else
 if IntKind.i64.wrap (Int.tdiv t 8)=0 then
 if n≠0 then
 Q false Sx_1
 else
 Jx Sx_1
 else
 Jx Sx_1
 else
 if IntKind.i64.wrap (Int.tdiv t 8)=0 then
 if n≠0 then
 Q false Sx_1
 else
 Jx Sx_1
 else
 Jx Sx_1) fun Jx_1=>
 if 23≤code then
 Q false S
 else
 Jx_1 S
theorem gX {S:Mem} {code:Int} {a:Int} {b:Int} {c:Int} {n:Int} {Q:Bool→Mem→Prop} (H:yS S code a b c n Q):xI S code a b c n Q:=by
 unfold yS at H
 have:=dj1 7 [0,4]
 have:=dj1 4 [0,1,2,3,4]
 exact Tr.intro func129 E ntmps129 E fun w0=>go results129 H
end
section
open Go Go.Pt Go.Proofs.Tryz
attribute [local irreducible] lt WD WN Code.wp Back bodyPost wpList FR WL WC WQ WA AW Tr Yc HC AllC
set_option maxRecDepth 20000
set_option maxHeartbeats 4000000
def zaK (S:Mem) (s:Pt) (n:Int) (Q:Int→Mem→Prop):Prop:=
 jn (fun (Sx:Mem)=>
 nn s fun b o=>
 gI (Sx.cell b (o+24)) .u32 fun t=>
 0≤n ∧
 pt Sx b (o+24) 1 ([.int .u32 (ior .u32 t (ishl .u32 1 n))]) fun Sx_1=>
 zcD Sx_1 (some (b,o)) fun Sx_2=>
 Q 0 Sx_2) fun Jx=>
 if s=none then
 Q 1 S
 else
 zdi S n fun t_1 Sx_3=>
 if t_1=true then
 nn s fun b_1 o_1=>
 gI (Sx_3.cell b_1 (o_1+23)) .u8 fun t_2=>
 if t_2=2 then
 Q 10 Sx_3
 else
 Jx Sx_3
 else
 Q 1 Sx_3
theorem zhp {S:Mem} {s:Pt} {n:Int} {Q:Int→Mem→Prop} (H:zaK S s n Q):gz S s n Q:=by
 unfold zaK at H
 have:=dj1 6 [0,1]
 exact Tr.intro func58 E ntmps58 E fun w0=>go results58 H
def jP (S:Mem) (n:Int) (Q:Bool→Mem→Prop):Prop:=
 if 0≤n then
 Q (decide (n<8)) S
 else
 Q false S
theorem zdH {S:Mem} {n:Int} {Q:Bool→Mem→Prop} (H:jP S n Q):zdi S n Q:=by
 unfold jP at H
 exact Tr.intro func117 E ntmps117 E fun w0=>go results117 H
def zbU (S:Mem) (s:Pt) (Q:Mem→Prop):Prop:=
 if s≠none then
 nn s fun b o=>
 gI (S.cell b (o+23)) .u8 fun t=>
 if t=1 then
 gI (S.cell b (o+24)) .u32 fun t_1=>
 gI (S.cell b (o+25)) .u32 fun t_2=>
 if iand .u32 t_1 t_2≠0 then
 pt S b (o+23) 1 ([.int .u8 0]) fun Sx=>
 Q Sx
 else
 Q S
 else
 Q S
 else
 Q S
theorem zip {S:Mem} {s:Pt} {Q:Mem→Prop} (H:zbU S s Q):zcD S s Q:=by
 unfold zbU at H
 exact Tr.intro func118 E ntmps118 E fun w0=>go results118 H
def zbV (S:Mem) (s:Pt) (Q:Int→Bool→Mem→Prop):Prop:=
 zfk S s fun t t_1 Sx=>
 if t_1=true then
 nn s fun b o=>
 gI (Sx.cell b (o+24)) .u32 fun t_2=>
 0≤t ∧
 pt Sx b (o+24) 1 ([.int .u32 (iandn .u32 t_2 (ishl .u32 1 t))]) fun Sx_1=>
 Q t true Sx_1
 else
 Q t false Sx
theorem ziq {S:Mem} {s:Pt} {Q:Int→Bool→Mem→Prop} (H:zbV S s Q):zfj S s Q:=by
 unfold zbV at H
 exact Tr.intro func120 E ntmps120 E fun w0=>go results120 H
def zbW (S:Mem) (s:Pt) (Q:Int→Bool→Mem→Prop):Prop:=
 jn (fun (Sx:Mem)=>
 nn s fun b o=>
 gI (Sx.cell b (o+24)) .u32 fun t=>
 gI (Sx.cell b (o+25)) .u32 fun t_1=>
 zcO Sx (IntKind.u64.wrap (iand .u32 t t_1)) fun t_2 Sx_1=>
 Sx_1.cell b (o+25)=some (.int .u32 t_1) ∧
 Sx_1.cell b (o+24)=some (.int .u32 t) ∧
 Q t_2 true Sx_1) fun Jx=>
 if s=none then
 Q 0 false S
 else
 nn s fun b_1 o_1=>
 gB (S.cell b_1 (o_1+22)) fun t_3=>
 if t_3=true then
 gI (S.cell b_1 (o_1+24)) .u32 fun t_4=>
 gI (S.cell b_1 (o_1+25)) .u32 fun t_5=>
 if iand .u32 t_4 t_5=0 then
 Q 0 false S
 else
 Jx S
 else
 Q 0 false S
theorem zir {S:Mem} {s:Pt} {Q:Int→Bool→Mem→Prop} (H:zbW S s Q):zfk S s Q:=by
 unfold zbW at H
 have:=dj1 4 [0]
 exact Tr.intro func170 E ntmps170 E fun w0=>go results170 H
def zbQ (S:Mem) (s:Pt) (cause:Int) (addr:Int) (Q:Mem→Prop):Prop:=
 jn (fun (Sx:Mem)=>
 jn (fun (Sx_1:Mem)=>
 nn s fun b o=>
 gI (Sx_1.cell b (o+16)) .u64 fun t=>
 gI (Sx_1.cell b (o+18)) .u64 fun t_1=>
 pt Sx_1 b (o+19) 1 ([.int .u64 t]) fun Sx_2=>
 pt Sx_2 b (o+20) 1 ([.int .u64 cause]) fun Sx_3=>
 pt Sx_3 b (o+21) 1 ([.int .u64 addr]) fun Sx_4=>
 pt Sx_4 b (o+16) 1 ([.int .u64 t_1]) fun Sx_5=>
 pt Sx_5 b (o+22) 1 ([.bool false]) fun Sx_6=>
 Q Sx_6) fun Jx=>
 nn s fun b_1 o_1=>
 gI (Sx.cell b_1 (o_1+18)) .u64 fun t_2=>
 if t_2=0 then
 pt Sx b_1 (o_1+23) 1 ([.int .u8 2]) fun Sx_7=>
 Q Sx_7
 else
 Jx Sx) fun Jx_1=>
 if s=none then
 Q S
 else
 Jx_1 S
theorem zil {S:Mem} {s:Pt} {cause:Int} {addr:Int} {Q:Mem→Prop} (H:zbQ S s cause addr Q):zeT S s cause addr Q:=by
 unfold zbQ at H
 have:=dj1 4 [0,1,2]
 have:=dj1 2 [0,1,2]
 exact Tr.intro func171 E ntmps171 E fun w0=>go results171 H
def zdz (S:Mem) (s:List Value) (n:Int) (time:Int) (me:Int) (Q:Int→Bool→Mem→Prop):Prop:=
 s.length=26 ∧
 jn (fun (Sx:Mem)=>
 Q 0 false Sx) fun Jx=>
 if n=0 then
 gI (nthL s 17) .u64 fun t=>
 Q t true S
 else
 if n=1 then
 gI (nthL s 18) .u64 fun t_1=>
 Q t_1 true S
 else
 if n=2 then
 gI (nthL s 19) .u64 fun t_2=>
 Q t_2 true S
 else
 if n=3 then
 gI (nthL s 20) .u64 fun t_3=>
 Q t_3 true S
 else
 if n=4 then
 gI (nthL s 21) .u64 fun t_4=>
 Q t_4 true S
 else
 if n=5 then
 gI (nthL s 25) .u32 fun t_5=>
 Q (IntKind.u64.wrap t_5) true S
 else
 if n=6 then
 gB (nthL s 22) fun t_6=>
 zcw S t_6 fun t_7 Sx_1=>
 Q t_7 true Sx_1
 else
 if n=7 then
 Q time true S
 else
 if n=8 then
 Q (IntKind.u64.wrap me) true S
 else
 Jx S
theorem zjS {S:Mem} {s:List Value} {n:Int} {time:Int} {me:Int} {Q:Int→Bool→Mem→Prop} (H:zdz S s n time me Q):zgI S s n time me Q:=by
 unfold zdz at H
 have:=dj1 21 []
 exact Tr.intro func177 E ntmps177 E fun w0=>go results177 H
def zdx (S:Mem) (s:Pt) (n:Int) (v:Int) (Q:Bool→Mem→Prop):Prop:=
 jn (fun (Sx:Mem)=>
 jn (fun (Sx_1:Mem)=>
 Q true Sx_1) fun Jx=>
 if n=0 then
 nn s fun b o=>
 pt Sx b (o+17) 1 ([.int .u64 v]) fun Sx_2=>
 Jx Sx_2
 else
 if n=1 then
 nn s fun b_1 o_1=>
 pt Sx b_1 (o_1+18) 1 ([.int .u64 v]) fun Sx_3=>
 Jx Sx_3
 else
 if n=2 then
 nn s fun b_2 o_2=>
 pt Sx b_2 (o_2+19) 1 ([.int .u64 v]) fun Sx_4=>
 Jx Sx_4
 else
 if n=3 then
 nn s fun b_3 o_3=>
 pt Sx b_3 (o_3+20) 1 ([.int .u64 v]) fun Sx_5=>
 Jx Sx_5
 else
 if n=4 then
 nn s fun b_4 o_4=>
 pt Sx b_4 (o_4+21) 1 ([.int .u64 v]) fun Sx_6=>
 Jx Sx_6
 else
 if n=5 then
 nn s fun b_5 o_5=>
 pt Sx b_5 (o_5+25) 1 ([.int .u32 (IntKind.u32.wrap (iand .u64 v 255))]) fun Sx_7=>
 Jx Sx_7
 else
 if n=6 then
 nn s fun b_6 o_6=>
 pt Sx b_6 (o_6+22) 1 ([.bool (decide (iand .u64 v 1=1))]) fun Sx_8=>
 Jx Sx_8
 else
 Q false Sx) fun Jx_1=>
 if s=none then
 Q false S
 else
 Jx_1 S
theorem zjQ {S:Mem} {s:Pt} {n:Int} {v:Int} {Q:Bool→Mem→Prop} (H:zdx S s n v Q):zgH S s n v Q:=by
 unfold zdx at H
 have:=dj1 20 []
 have:=dj1 4 [0,1,2]
 exact Tr.intro func178 E ntmps178 E fun w0=>go results178 H
def zbS (S:Mem) (s:Pt) (Q:Mem→Prop):Prop:=
 if s≠none then
 nn s fun b o=>
 gI (S.cell b (o+19)) .u64 fun t=>
 pt S b (o+16) 1 ([.int .u64 t]) fun Sx=>
 pt Sx b (o+22) 1 ([.bool true]) fun Sx_1=>
 Q Sx_1
 else
 Q S
theorem zin {S:Mem} {s:Pt} {Q:Mem→Prop} (H:zbS S s Q):zeV S s Q:=by
 unfold zbS at H
 exact Tr.intro func179 E ntmps179 E fun w0=>go results179 H
def zbP (S:Mem) (onx:Bool) (Q:Int→Mem→Prop):Prop:=
 if onx=true then
 Q 1 S
 else
 Q 0 S
theorem zik {S:Mem} {onx:Bool} {Q:Int→Mem→Prop} (H:zbP S onx Q):zcw S onx Q:=by
 unfold zbP at H
 exact Tr.intro func199 E ntmps199 E fun w0=>go results199 H
def zaF (S:Mem) (w:Int) (Q:Int→Mem→Prop):Prop:=
 kS S w fun t Sx=>
 Q t Sx
theorem zhl {S:Mem} {w:Int} {Q:Int→Mem→Prop} (H:zaF S w Q):zcO S w Q:=by
 unfold zaF at H
 exact Tr.intro func218 E ntmps218 E fun w0=>go results218 H
def xw (S:Mem) (x:Int) (Q:Int→Mem→Prop):Prop:=
 if x=0 then
 Q 64 S
 else
 0≤ishr .u64 (IntKind.u64.wrap ((iand .u64 x (IntKind.u64.wrap (0-x)))*285870213051353865)) 58∧ishr .u64 (IntKind.u64.wrap ((iand .u64 x (IntKind.u64.wrap (0-x)))*285870213051353865)) 58<64 ∧
 gI (S.cell 0 (0+(ishr .u64 (IntKind.u64.wrap ((iand .u64 x (IntKind.u64.wrap (0-x)))*285870213051353865)) 58).toNat*1)) .u8 fun t=>
 Q (IntKind.i64.wrap t) S
theorem zab {S:Mem} {x:Int} {Q:Int→Mem→Prop} (H:xw S x Q):kS S x Q:=by
 unfold xw at H
 exact Tr.intro func239 E ntmps239 E fun w0=>go results239 H
def zaO (S:Mem) (x:Int) (y:Int) (Q:Int→Int→Mem→Prop):Prop:=
 Q (IntKind.u64.wrap ((IntKind.u64.wrap ((IntKind.u64.wrap ((ishr .u64 x 32)*(ishr .u64 y 32)))+(ishr .u64 (IntKind.u64.wrap ((IntKind.u64.wrap ((ishr .u64 x 32)*(iand .u64 y 4294967295)))+(ishr .u64 (IntKind.u64.wrap ((iand .u64 x 4294967295)*(iand .u64 y 4294967295))) 32))) 32)))+(ishr .u64 (IntKind.u64.wrap ((iand .u64 (IntKind.u64.wrap ((IntKind.u64.wrap ((ishr .u64 x 32)*(iand .u64 y 4294967295)))+(ishr .u64 (IntKind.u64.wrap ((iand .u64 x 4294967295)*(iand .u64 y 4294967295))) 32))) 4294967295)+(IntKind.u64.wrap ((iand .u64 x 4294967295)*(ishr .u64 y 32))))) 32))) (IntKind.u64.wrap (x*y)) S
theorem zhu {S:Mem} {x:Int} {y:Int} {Q:Int→Int→Mem→Prop} (H:zaO S x y Q):zdu S x y Q:=by
 unfold zaO at H
 exact Tr.intro func200 E ntmps200 E fun w0=>go results200 H
def wL (S:Mem) (x:Int) (k:Int) (Q:Int→Mem→Prop):Prop:=
 0≤iand .u64 (IntKind.u64.wrap k) 63 ∧
 0≤IntKind.u64.wrap (64-(iand .u64 (IntKind.u64.wrap k) 63)) ∧
 Q (ior .u64 (ishl .u64 x (iand .u64 (IntKind.u64.wrap k) 63)) (ishr .u64 x (IntKind.u64.wrap (64-(iand .u64 (IntKind.u64.wrap k) 63))))) S
theorem zbC {S:Mem} {x:Int} {k:Int} {Q:Int→Mem→Prop} (H:wL S x k Q):vG S x k Q:=by
 unfold wL at H
 exact Tr.intro func201 E ntmps201 E fun w0=>go results201 H
def zdv (S:Mem) (sum:Int) (w:Int) (Q:Int→Mem→Prop):Prop:=
 zdu S (ixor .u64 sum w) 11400714819323198485 fun t t_1 Sx=>
 vG Sx t 17 fun t_2 Sx_1=>
 Q (ixor .u64 t_2 t_1) Sx_1
theorem zjO {S:Mem} {sum:Int} {w:Int} {Q:Int→Mem→Prop} (H:zdv S sum w Q):zek S sum w Q:=by
 unfold zdv at H
 exact Tr.intro func135 E ntmps135 E fun w0=>go results135 H
def zbR (S:Mem) (s:List Value) (Q:Sl→Mem→Prop):Prop:=
 s.length=26 ∧
 al S 43 s fun b Sx=>
 sp Sx ⟨some (b,0),16,16⟩ 1 fun vs=>
 ap Sx 39 1 8 [.int .u64 0] (⟨none,0,0⟩) 16 vs fun t Sx_1=>
 gI (Sx_1.cell b 16) .u64 fun t_1=>
 gI (Sx_1.cell b 17) .u64 fun t_2=>
 gI (Sx_1.cell b 18) .u64 fun t_3=>
 gI (Sx_1.cell b 19) .u64 fun t_4=>
 gI (Sx_1.cell b 20) .u64 fun t_5=>
 gI (Sx_1.cell b 21) .u64 fun t_6=>
 gB (Sx_1.cell b 22) fun t_7=>
 gI (Sx_1.cell b 23) .u8 fun t_8=>
 gI (Sx_1.cell b 24) .u32 fun t_9=>
 gI (Sx_1.cell b 25) .u32 fun t_10=>
 zcw Sx_1 t_7 fun t_11 Sx_2=>
 Sx_2.cell b 25=some (.int .u32 t_10) ∧
 Sx_2.cell b 24=some (.int .u32 t_9) ∧
 Sx_2.cell b 23=some (.int .u8 t_8) ∧
 Sx_2.cell b 21=some (.int .u64 t_6) ∧
 Sx_2.cell b 20=some (.int .u64 t_5) ∧
 Sx_2.cell b 19=some (.int .u64 t_4) ∧
 Sx_2.cell b 18=some (.int .u64 t_3) ∧
 Sx_2.cell b 17=some (.int .u64 t_2) ∧
 Sx_2.cell b 16=some (.int .u64 t_1) ∧
 ap Sx_2 39 1 8 [.int .u64 0] t 10 ([.int .u64 t_1,.int .u64 t_2,.int .u64 t_3,.int .u64 t_4,.int .u64 t_5,.int .u64 t_6,.int .u64 t_11,.int .u64 (IntKind.u64.wrap t_8),.int .u64 (IntKind.u64.wrap t_9),.int .u64 (IntKind.u64.wrap t_10)]) fun t_12 Sx_3=>
 Sx_3.cell b 25=some (.int .u32 t_10) ∧
 Sx_3.cell b 24=some (.int .u32 t_9) ∧
 Sx_3.cell b 23=some (.int .u8 t_8) ∧
 Q t_12 Sx_3
theorem zim {S:Mem} {s:List Value} {Q:Sl→Mem→Prop} (H:zbR S s Q):zeU S s Q:=by
 unfold zbR at H
 exact Tr.intro func134 E ntmps134 E fun w0=>an H fun hs H1=>csr<|gu E E E fun b=>zgJ 0 E fun hb=>have H2:=H1 b hb;gv E E<|nxr<|s_p E (zv E E)<|s_p E (znF E)<|by obtain⟨vs,h,c,H3⟩:=H2;exact zau (sx:=⟨none,0,0⟩) (vs:=vs) E E E ((fj h).1) ((fj (P:=prog) (w0:=w0) (S0:=S) (V:=[]) h).2) c (by decide) H3 fun t Sx_1 H4=>gv E E<|nx<|zO<|qc (by kernel_rfl)<|aTP 0 E (by decide +kernel) E (zt E)<|by exact aTP 1 E (by decide +kernel) E (zv E E)<|by exact gx H4 fun t_1 ht_1 H5=>aT 2 E (by decide +kernel) E (zF E) (qh ht_1)<|by exact aTP 3 E (by decide +kernel) E (zv E E)<|by exact gx H5 fun t_2 ht_2 H6=>aT 4 E (by decide +kernel) E (zF E) (qh ht_2)<|by exact aTP 5 E (by decide +kernel) E (zv E E)<|by exact gx H6 fun t_3 ht_3 H7=>aT 6 E (by decide +kernel) E (zF E) (qh ht_3)<|by exact aTP 7 E (by decide +kernel) E (zv E E)<|by exact gx H7 fun t_4 ht_4 H8=>aT 8 E (by decide +kernel) E (zF E) (qh ht_4)<|by exact aTP 9 E (by decide +kernel) E (zv E E)<|by exact gx H8 fun t_5 ht_5 H9=>aT 10 E (by decide +kernel) E (zF E) (qh ht_5)<|by exact aTP 11 E (by decide +kernel) E (zv E E)<|by exact gx H9 fun t_6 ht_6 H10=>aT 12 E (by decide +kernel) E (zF E) (qh ht_6)<|by exact aTP 13 E (by decide +kernel) E (zv E E)<|by exact gx H10 fun t_7 ht_7 H11=>aT 14 E (by decide +kernel) E (zF E) (qh ht_7)<|by exact aTP 16 E (by decide +kernel) E (zv E E)<|by exact gx H11 fun t_8 ht_8 H12=>aT 17 E (by decide +kernel) E (zF E) (qh ht_8)<|by exact aTP 18 E (by decide +kernel) E (qJ ⟨_,underlying5⟩ E)<|by exact aTP 19 E (by decide +kernel) E (zv E E)<|by exact gx H12 fun t_9 ht_9 H13=>aT 20 E (by decide +kernel) E (zF E) (qh ht_9)<|by exact aTP 21 E (by decide +kernel) E (qJ ⟨_,underlying41⟩ E)<|by exact aTP 22 E (by decide +kernel) E (zv E E)<|by exact gx H13 fun t_10 ht_10 H14=>aT 23 E (by decide +kernel) E (zF E) (qh ht_10)<|by exact aTP 24 E (by decide +kernel) E (qJ ⟨_,underlying41⟩ E)<|by exact zH 15 (by decide +kernel) E<|by exact vv E E H14 fun t_11 Sx_2 H15=>by obtain⟨k,H16⟩:=H15;exact by obtain⟨k_1,H17⟩:=H16;exact by obtain⟨k_2,H18⟩:=H17;exact by obtain⟨k_3,H19⟩:=H18;exact by obtain⟨k_4,H20⟩:=H19;exact by obtain⟨k_5,H21⟩:=H20;exact by obtain⟨k_6,H22⟩:=H21;exact by obtain⟨k_7,H23⟩:=H22;exact by obtain⟨k_8,H24⟩:=H23;exact zu<|qf (zA (qh k) (zA (qh k_1) (zA (qh k_2) (zA (qh k_3) (zA (qh k_4) (zA (qh k_5) (zA (qh k_6) (zA (qh k_7) (zA (qh k_8) zD)))))))))<|zH 25 (by decide +kernel) E<|by exact zkR E E (by decide) E fun b_1=>zu<|qf (zA (qh k) (zA (qh k_1) (zA (qh k_2) zD)))<|zH 26 (by decide +kernel) E<|by exact zau (sx:=t) (vs:=[.int .u64 t_1,.int .u64 t_2,.int .u64 t_3,.int .u64 t_4,.int .u64 t_5,.int .u64 t_6,.int .u64 t_11,.int .u64 (IntKind.u64.wrap t_8),.int .u64 (IntKind.u64.wrap t_9),.int .u64 (IntKind.u64.wrap t_10)]) E E E (zjE 0 E E) E E (by decide) H24 fun t_12 Sx_3 H25=>by obtain⟨k_9,H26⟩:=H25;exact by obtain⟨k_10,H27⟩:=H26;exact by obtain⟨k_11,H28⟩:=H27;exact zu<|qf (zA (qh k_9) (zA (qh k_10) (zA (qh k_11) zD)))<|aTP 27 E (by decide +kernel) E (qH E)<|by exact qi (by decide +kernel)<|by exact zC<|zo<|zn results134 (zd E zg) ⟨_,E,H28⟩
def zdw (S:Mem) (s:List Value) (Q:Int→Mem→Prop):Prop:=
 s.length=26 ∧
 jn (fun (n:Int) (Sx:Mem)=>
 Q n Sx) fun Jx=>
 zeU S s fun t Sx_1=>
 lp (fun Xx (z:Int×Int) (Sx_2:Mem)=>
 match z with
 | (n_1,t_1)=>
 if t_1<(t.n:Int) then
 sl t fun b_1 o n_2 n_3=>
 0≤t_1∧t_1<((n_2:Nat):Int) ∧
 gI (Sx_2.cell b_1 (o+t_1.toNat*1)) .u64 fun t_2=>
 zek Sx_2 n_1 t_2 fun t_3 Sx_3=>
 Xx (t_3,IntKind.i64.wrap (t_1+1)) Sx_3
 else
 Jx n_1 Sx_2) (0,0) Sx_1
theorem zjP {S:Mem} {s:List Value} {Q:Int→Mem→Prop} (H:zdw S s Q):zgG S s Q:=by
 unfold zdw at H
 have:=dj0 (α:=Int×Unit) 8 [] (fun z=>[(3,.int .u64 z.1)])
 have:=dj0 (α:=Int×Int) 4 [7,8] (fun z=>[(3,.int .u64 z.1),(9,.int .i64 z.2)])
 exact Tr.intro func68 E ntmps68 E fun w0=>go results68 H
def xr (S:Mem) (s:List Value) (cause:Int) (addr:Int) (Q:List Value→Mem→Prop):Prop:=
 s.length=26 ∧
 jn (fun (s_1:List Value) (v:List Value) (Sx:Mem)=>
 s_1.length=26 ∧
 v.length=26 ∧
 gI (nthL s_1 16) .u64 fun t=>
 gI (nthL (spl (spl (spl s_1 19 ([.int .u64 t])) 20 ([.int .u64 cause])) 21 ([.int .u64 addr])) 18) .u64 fun t_1=>
 (spl (spl (spl (spl (spl s_1 19 ([.int .u64 t])) 20 ([.int .u64 cause])) 21 ([.int .u64 addr])) 16 ([.int .u64 t_1])) 22 ([.bool false])).all (·.oneCell')=true ∧
 Q (spl (spl (spl (spl (spl s_1 19 ([.int .u64 t])) 20 ([.int .u64 cause])) 21 ([.int .u64 addr])) 16 ([.int .u64 t_1])) 22 ([.bool false])) Sx) fun Jx=>
 gI (nthL s 18) .u64 fun t_2=>
 if t_2=0 then
 (spl s 23 ([.int .u8 2])).all (·.oneCell')=true ∧
 Q (spl s 23 ([.int .u8 2])) S
 else
 Jx s z43 S
theorem fY {S:Mem} {s:List Value} {cause:Int} {addr:Int} {Q:List Value→Mem→Prop} (H:xr S s cause addr Q):wl S s cause addr Q:=by
 unfold xr at H
 exact Tr.intro func195 E ntmps195 E fun w0=>an H fun hs H1=>csr<|gu E E E fun b=>by refine qk E fun b_1=>?_;exact nx<|zp H1 (fun (J:List Value→List Value→Mem→Prop) (z:List Value×List Value) S=>J z.1 z.2 S) (fun z=>⟨24,[(1,.int .u64 cause),(2,.int .u64 addr),(3,.pointer (some ⟨b,0,none⟩)),(6,.pointer (some ⟨b_1,0,none⟩))]⟩) (fun z=>[⟨b,43,z.1⟩,⟨b_1,43,z.2⟩]) (by rintro⟨s_1,v⟩ Sx H2;exact an H2 fun hs_1 H3=>an H3 fun hv H4=>csr<|s_p E (zv E E)<|gx H4 fun t ht H5=>s_v E (zF E) (qm 0 E ht)<|s_p E (zv E E)<|qu (sz:=1) (vs:=[.int .u64 t]) 0 E E E E E E (zY hs_1 (by omega)) E<|nxr<|mv E E<|s_p E (zv E E)<|qu (sz:=1) (vs:=[.int .u64 cause]) 0 E E E E E E (zY (zq hs_1 (by have:=True.intro;(try simp only[List.length_cons,List.length_nil]);omega)) (by omega)) E<|nxr<|mv E E<|s_p E (zv E E)<|qu (sz:=1) (vs:=[.int .u64 addr]) 0 E E E E E E (zY (zq (zq hs_1 (by have:=True.intro;(try simp only[List.length_cons,List.length_nil]);omega)) (by have:=True.intro;(try simp only[List.length_cons,List.length_nil]);omega)) (by omega)) E<|nxr<|s_p E (zv E E)<|gx H5 fun t_1 ht_1 H6=>s_v E (zF E) (qm 0 E ht_1)<|s_p E (zv E E)<|qu (sz:=1) (vs:=[.int .u64 t_1]) 0 E E E E E E (zY (zq (zq (zq hs_1 (by have:=True.intro;(try simp only[List.length_cons,List.length_nil]);omega)) (by have:=True.intro;(try simp only[List.length_cons,List.length_nil]);omega)) (by have:=True.intro;(try simp only[List.length_cons,List.length_nil]);omega)) (by omega)) E<|nxr<|s_p E (zv E E)<|qu (sz:=1) (vs:=[.bool false]) 0 E E E E E E (zY (zq (zq (zq (zq hs_1 (by have:=True.intro;(try simp only[List.length_cons,List.length_nil]);omega)) (by have:=True.intro;(try simp only[List.length_cons,List.length_nil]);omega)) (by have:=True.intro;(try simp only[List.length_cons,List.length_nil]);omega)) (by have:=True.intro;(try simp only[List.length_cons,List.length_nil]);omega)) (by omega)) E<|nxr<|by refine s_v E (qa E (zq (zq (zq (zq (zq hs_1 (by have:=True.intro;(try simp only[List.length_cons,List.length_nil]);omega)) (by have:=True.intro;(try simp only[List.length_cons,List.length_nil]);omega)) (by have:=True.intro;(try simp only[List.length_cons,List.length_nil]);omega)) (by have:=True.intro;(try simp only[List.length_cons,List.length_nil]);omega)) (by have:=True.intro;(try simp only[List.length_cons,List.length_nil]);omega))) (zx (k:=26) 0 E (ze (zq (zq (zq (zq (zq hs_1 (by have:=True.intro;(try simp only[List.length_cons,List.length_nil]);omega)) (by have:=True.intro;(try simp only[List.length_cons,List.length_nil]);omega)) (by have:=True.intro;(try simp only[List.length_cons,List.length_nil]);omega)) (by have:=True.intro;(try simp only[List.length_cons,List.length_nil]);omega)) (by have:=True.intro;(try simp only[List.length_cons,List.length_nil]);omega)))) ?_;exact an H6 fun c H7=>zl 1 E E E E E (zq (zq (zq (zq (zq hs_1 (by have:=True.intro;(try simp only[List.length_cons,List.length_nil]);omega)) (by have:=True.intro;(try simp only[List.length_cons,List.length_nil]);omega)) (by have:=True.intro;(try simp only[List.length_cons,List.length_nil]);omega)) (by have:=True.intro;(try simp only[List.length_cons,List.length_nil]);omega)) (by have:=True.intro;(try simp only[List.length_cons,List.length_nil]);omega)) hv c<|nx<|zo<|zn results195 (zr E (zx (k:=26) 1 E (ze (zq (zq (zq (zq (zq hs_1 (by have:=True.intro;(try simp only[List.length_cons,List.length_nil]);omega)) (by have:=True.intro;(try simp only[List.length_cons,List.length_nil]);omega)) (by have:=True.intro;(try simp only[List.length_cons,List.length_nil]);omega)) (by have:=True.intro;(try simp only[List.length_cons,List.length_nil]);omega)) (by have:=True.intro;(try simp only[List.length_cons,List.length_nil]);omega)))) (zq (zq (zq (zq (zq hs_1 (by have:=True.intro;(try simp only[List.length_cons,List.length_nil]);omega)) (by have:=True.intro;(try simp only[List.length_cons,List.length_nil]);omega)) (by have:=True.intro;(try simp only[List.length_cons,List.length_nil]);omega)) (by have:=True.intro;(try simp only[List.length_cons,List.length_nil]);omega)) (by have:=True.intro;(try simp only[List.length_cons,List.length_nil]);omega)) zg) ⟨_,E,zq (zq (zq (zq (zq hs_1 (by have:=True.intro;(try simp only[List.length_cons,List.length_nil]);omega)) (by have:=True.intro;(try simp only[List.length_cons,List.length_nil]);omega)) (by have:=True.intro;(try simp only[List.length_cons,List.length_nil]);omega)) (by have:=True.intro;(try simp only[List.length_cons,List.length_nil]);omega)) (by have:=True.intro;(try simp only[List.length_cons,List.length_nil]);omega),H7⟩) (fun Jx hJx H8=>csr<|s_p E (zv E E)<|gx H8 fun t_2 ht_2 H9=>s_v E (zF E) (qm 0 E ht_2)<|iteK H9 (fun c_1 H10=>ceT E E E (c_1)<|nx<|c_t E E<|csr<|s_p E (zv E E)<|qu (sz:=1) (vs:=[.int .u8 2]) 0 E E E E E E (zY hs (by omega)) E<|nxr<|by refine s_v E (qa E (zq hs (by have:=True.intro;(try simp only[List.length_cons,List.length_nil]);omega))) (zx (k:=26) 0 E (ze (zq hs (by have:=True.intro;(try simp only[List.length_cons,List.length_nil]);omega)))) ?_;exact an H10 fun c_2 H11=>zl 1 E E E E E (zq hs (by have:=True.intro;(try simp only[List.length_cons,List.length_nil]);omega)) zcM c_2<|nx<|zo<|zb<|zn results195 (zr E (zx (k:=26) 1 E (ze (zq hs (by have:=True.intro;(try simp only[List.length_cons,List.length_nil]);omega)))) (zq hs (by have:=True.intro;(try simp only[List.length_cons,List.length_nil]);omega)) zg) ⟨_,E,zq hs (by have:=True.intro;(try simp only[List.length_cons,List.length_nil]);omega),H11⟩) fun c_1 H10=>ceF E E E (c_1)<|nx<|cfs E E<|hJx (s,z43) _ _ _ _ [0,0] H10 E ⟨E,E,E,E,True.intro⟩ E)
def yR (S:Mem) (s:List Value) (Q:Sl→Mem→Prop):Prop:=
 s.length=26 ∧
 jn (fun (l:Sl) (Sx:Mem)=>
 jn (fun (openx:Int) (Sx_1:Mem)=>
 gI (nthL s 16) .u64 fun t=>
 gI (nthL s 17) .u64 fun t_1=>
 gI (nthL s 18) .u64 fun t_2=>
 gI (nthL s 19) .u64 fun t_3=>
 gI (nthL s 20) .u64 fun t_4=>
 gI (nthL s 21) .u64 fun t_5=>
 gI (nthL s 23) .u8 fun t_6=>
 gI (nthL s 24) .u32 fun t_7=>
 gI (nthL s 25) .u32 fun t_8=>
 ap Sx_1 39 1 8 [.int .u64 0] l 10 ([.int .u64 t,.int .u64 t_1,.int .u64 t_2,.int .u64 t_3,.int .u64 t_4,.int .u64 t_5,.int .u64 openx,.int .u64 (IntKind.u64.wrap t_6),.int .u64 (IntKind.u64.wrap t_7),.int .u64 (IntKind.u64.wrap t_8)]) fun t_9 Sx_2=>
 Q t_9 Sx_2) fun Jx=>
 gB (nthL s 22) fun t_10=>
 if t_10=true then
 Jx 1 Sx
 else
 Jx 0 Sx) fun Jx_1=>
 lp (fun Xx (z:Sl×Int) (Sx_3:Mem)=>
 match z with
 | (l_1,i)=>
 jn (fun (Sx_4:Mem)=>
 0≤i∧i<16 ∧
 gI (nthL s (0+i.toNat*1)) .u64 fun t_11=>
 ap Sx_4 39 1 8 [.int .u64 0] l_1 1 ([.int .u64 t_11]) fun t_12 Sx_5=>
 Xx (t_12,IntKind.i64.wrap (i+1)) Sx_5) fun Jx_2=>
 if i<16 then
 Jx_2 Sx_3
 else
 Jx_1 l_1 Sx_3) (⟨none,0,0⟩,0) S
theorem gW {S:Mem} {s:List Value} {Q:Sl→Mem→Prop} (H:yR S s Q):xH S s Q:=by
 unfold yR at H
 have:=dj (α:=Int×Unit) 10 [1,3] (fun z=>[(5,.int .u64 z.1)]) (fun _=>[(0,none)])
 have:=dj (α:=Sl×Unit) 7 [1] (fun z=>[(3,eL z.1)]) (fun _=>[(0,none)])
 have:=dj (α:=Sl×Int) 4 [1] (fun z=>[(3,eL z.1),(4,.int .i64 z.2)]) (fun _=>[(0,none)])
 have:=dj (α:=Unit) 6 [1,3,4] (fun _=>[]) (fun _=>[(0,none)])
 exact Tr.intro func136 E ntmps136 E fun w0=>go results136 H
def xV (S:Mem) (sum:Int) (w:Int) (Q:Int→Mem→Prop):Prop:=
 Q (ixor .u64 (IntKind.u64.wrap ((IntKind.u64.wrap ((IntKind.u64.wrap ((IntKind.u64.wrap ((IntKind.u64.wrap ((IntKind.u64.wrap (Int.tdiv (ixor .u64 sum w) 4294967296))*(IntKind.u64.wrap (Int.tdiv 11400714819323198485 4294967296))))+(IntKind.u64.wrap (Int.tdiv (IntKind.u64.wrap ((IntKind.u64.wrap ((IntKind.u64.wrap (Int.tdiv (ixor .u64 sum w) 4294967296))*(Int.tmod 11400714819323198485 4294967296)))+(IntKind.u64.wrap (Int.tdiv (IntKind.u64.wrap ((Int.tmod (ixor .u64 sum w) 4294967296)*(Int.tmod 11400714819323198485 4294967296))) 4294967296)))) 4294967296))))+(IntKind.u64.wrap (Int.tdiv (IntKind.u64.wrap ((IntKind.u64.wrap ((Int.tmod (ixor .u64 sum w) 4294967296)*(IntKind.u64.wrap (Int.tdiv 11400714819323198485 4294967296))))+(Int.tmod (IntKind.u64.wrap ((IntKind.u64.wrap ((IntKind.u64.wrap (Int.tdiv (ixor .u64 sum w) 4294967296))*(Int.tmod 11400714819323198485 4294967296)))+(IntKind.u64.wrap (Int.tdiv (IntKind.u64.wrap ((Int.tmod (ixor .u64 sum w) 4294967296)*(Int.tmod 11400714819323198485 4294967296))) 4294967296)))) 4294967296))) 4294967296))))*131072))+(IntKind.u64.wrap (Int.tdiv (IntKind.u64.wrap ((IntKind.u64.wrap ((IntKind.u64.wrap ((IntKind.u64.wrap (Int.tdiv (ixor .u64 sum w) 4294967296))*(IntKind.u64.wrap (Int.tdiv 11400714819323198485 4294967296))))+(IntKind.u64.wrap (Int.tdiv (IntKind.u64.wrap ((IntKind.u64.wrap ((IntKind.u64.wrap (Int.tdiv (ixor .u64 sum w) 4294967296))*(Int.tmod 11400714819323198485 4294967296)))+(IntKind.u64.wrap (Int.tdiv (IntKind.u64.wrap ((Int.tmod (ixor .u64 sum w) 4294967296)*(Int.tmod 11400714819323198485 4294967296))) 4294967296)))) 4294967296))))+(IntKind.u64.wrap (Int.tdiv (IntKind.u64.wrap ((IntKind.u64.wrap ((Int.tmod (ixor .u64 sum w) 4294967296)*(IntKind.u64.wrap (Int.tdiv 11400714819323198485 4294967296))))+(Int.tmod (IntKind.u64.wrap ((IntKind.u64.wrap ((IntKind.u64.wrap (Int.tdiv (ixor .u64 sum w) 4294967296))*(Int.tmod 11400714819323198485 4294967296)))+(IntKind.u64.wrap (Int.tdiv (IntKind.u64.wrap ((Int.tmod (ixor .u64 sum w) 4294967296)*(Int.tmod 11400714819323198485 4294967296))) 4294967296)))) 4294967296))) 4294967296)))) 140737488355328)))) (IntKind.u64.wrap ((IntKind.u64.wrap ((Int.tmod (IntKind.u64.wrap ((IntKind.u64.wrap ((Int.tmod (ixor .u64 sum w) 4294967296)*(IntKind.u64.wrap (Int.tdiv 11400714819323198485 4294967296))))+(Int.tmod (IntKind.u64.wrap ((IntKind.u64.wrap ((IntKind.u64.wrap (Int.tdiv (ixor .u64 sum w) 4294967296))*(Int.tmod 11400714819323198485 4294967296)))+(IntKind.u64.wrap (Int.tdiv (IntKind.u64.wrap ((Int.tmod (ixor .u64 sum w) 4294967296)*(Int.tmod 11400714819323198485 4294967296))) 4294967296)))) 4294967296))) 4294967296)*4294967296))+(Int.tmod (IntKind.u64.wrap ((Int.tmod (ixor .u64 sum w) 4294967296)*(Int.tmod 11400714819323198485 4294967296))) 4294967296)))) S
theorem zaq {S:Mem} {sum:Int} {w:Int} {Q:Int→Mem→Prop} (H:xV S sum w Q):yJ S sum w Q:=by
 unfold xV at H
 exact Tr.intro func137 E ntmps137 E fun w0=>go results137 H
def xU (S:Mem) (s:List Value) (Q:Int→Mem→Prop):Prop:=
 s.length=26 ∧
 xH S s fun t Sx=>
 jn (fun (n:Int) (Sx_1:Mem)=>
 Q n Sx_1) fun Jx=>
 lp (fun Xx (z:Int×Int) (Sx_2:Mem)=>
 match z with
 | (n_1,i)=>
 jn (fun (Sx_3:Mem)=>
 sl t fun b_1 o n_2 n_3=>
 0≤i∧i<((n_2:Nat):Int) ∧
 gI (Sx_3.cell b_1 (o+i.toNat*1)) .u64 fun t_1=>
 yJ Sx_3 n_1 t_1 fun t_2 Sx_4=>
 Xx (t_2,IntKind.i64.wrap (i+1)) Sx_4) fun Jx_1=>
 if i<(t.n:Int) then
 Jx_1 Sx_2
 else
 Jx n_1 Sx_2) (0,0) Sx
theorem zap {S:Mem} {s:List Value} {Q:Int→Mem→Prop} (H:xU S s Q):jh S s Q:=by
 unfold xU at H
 have:=dj0 (α:=Int×Unit) 8 [] (fun z=>[(4,.int .u64 z.1)])
 have:=dj0 (α:=Int×Int) 5 [3] (fun z=>[(4,.int .u64 z.1),(5,.int .i64 z.2)])
 have:=dj1 7 [3,4,5]
 exact Tr.intro func69 E ntmps69 E fun w0=>go results69 H
def xT (S:Mem) (s:List Value) (Q:Int→Mem→Prop):Prop:=
 s.length=26 ∧
 jh S s fun t Sx=>
 Q t Sx
theorem zao {S:Mem} {s:List Value} {Q:Int→Mem→Prop} (H:xT S s Q):wE S s Q:=by
 unfold xT at H
 exact Tr.intro func26 E ntmps26 E fun w0=>go results26 H
def zfD (S:Mem) (p:Sl) (Q:Int→Mem→Prop):Prop:=
 jn (fun (w:Int) (Sx:Mem)=>
 Q w Sx) fun Jx=>
 lp (fun Xx (z:Int×Int) (Sx_1:Mem)=>
 match z with
 | (w_1,t)=>
 if t<(p.n:Int) then
 sl p fun b o n n_1=>
 0≤t∧t<((n:Nat):Int) ∧
 gI (Sx_1.cell b (o+t.toNat*1)) .u8 fun t_1=>
 if t<8 then
 0≤IntKind.i64.wrap (8*t) ∧
 Xx (ior .u64 w_1 (ishl .u64 (IntKind.u64.wrap t_1) (IntKind.i64.wrap (8*t))),IntKind.i64.wrap (t+1)) Sx_1
 else
 Xx (w_1,IntKind.i64.wrap (t+1)) Sx_1
 else
 Jx w_1 Sx_1) (0,0) S
theorem zlf {S:Mem} {p:Sl} {Q:Int→Mem→Prop} (H:zfD S p Q):zew S p Q:=by
 unfold zfD at H
 have:=dj0 (α:=Int×Unit) 9 [] (fun z=>[(3,.int .u64 z.1)])
 have:=dj0 (α:=Int×Int) 4 [6,7] (fun z=>[(3,.int .u64 z.1),(8,.int .i64 z.2)])
 exact Tr.intro func164 E ntmps164 E fun w0=>go results164 H
def zaG (S:Mem) (w:Int) (Q:Sl→Mem→Prop):Prop:=
 al S 5 ([.int .u8 0,.int .u8 0,.int .u8 0,.int .u8 0,.int .u8 0,.int .u8 0,.int .u8 0,.int .u8 0]) fun b Sx=>
 jn (fun (Sx_1:Mem)=>
 Q (⟨some (b,0),8,8⟩) Sx_1) fun Jx=>
 lp (fun Xx (t:Int) (Sx_2:Mem)=>
 if t<8 then
 0≤IntKind.i64.wrap (8*t) ∧
 0≤t∧t<8 ∧
 pt Sx_2 b (0+t.toNat*1) 1 ([.int .u8 (IntKind.u8.wrap (ishr .u64 w (IntKind.i64.wrap (8*t))))]) fun Sx_3=>
 Xx (IntKind.i64.wrap (t+1)) Sx_3
 else
 Jx Sx_2) 0 Sx
theorem zhm {S:Mem} {w:Int} {Q:Sl→Mem→Prop} (H:zaG S w Q):zaR S w Q:=by
 unfold zaG at H
 have:=dj1 8 [3]
 have:=dj0 (α:=Int) 4 [0,3,7] (fun z=>[(8,.int .i64 z)])
 exact Tr.intro func166 E ntmps166 E fun w0=>go results166 H
end
end Go.Proofs.YtabdpmnhjlmnlaaGreatDoor
namespace Go.Pt
section
open Go Go.RowKit
abbrev Rho:=Nat→Option Nat
def Rho.upd (ρ:Rho) (b r:Nat):Rho:=fun x=>if x=b then some r else ρ x
theorem qO {ρ:Rho} {b r:Nat}:(ρ.upd b r) b=some r:=by simp[Rho.upd]
theorem yp {ρ:Rho} {b r c:Nat} (h:c≠b):(ρ.upd b r) c=ρ c:=by simp[Rho.upd,h]
structure Mv (S:Mem) (ρ:Rho) (S':Mem) (ρ':Rho) (R:Nat→Prop):Prop where
 ext:∀ b r,ρ b=some r→ρ' b=some r
 old:∀ b r,ρ' b=some r→S b≠none→ρ b=some r
 kp:∀ b,S b≠none→(∀ r,ρ b=some r→¬R r)→S' b=S b
 al:∀ b,S b≠none→S' b≠none
 rg:∀ b r,ρ' b=some r→S' b≠none
variable {S S' S'':Mem} {ρ ρ' ρ'':Rho} {R R':Nat→Prop}
theorem Mv.refl (h:∀ b r,ρ b=some r→S b≠none):Mv S ρ S ρ R:=⟨fun _ _ h=>h,fun _ _ h _=>h,fun _ _ _=>rfl,fun _ h=>h,h⟩
theorem Mv.trans (h:Mv S ρ S' ρ' R) (k:Mv S' ρ' S'' ρ'' R):Mv S ρ S'' ρ'' R:=
 ⟨fun b r e=>k.ext b r (h.ext b r e),fun b r e hb=>h.old b r (k.old b r e (h.al b hb)) hb,fun b hb hr=>by
  have e:=h.kp b hb hr
  rw[k.kp b (by rw[e];exact hb) fun r e'=>hr r (h.old b r e' hb),e],fun b hb=>k.al b (h.al b hb),k.rg⟩
theorem Mv.mono (h:Mv S ρ S' ρ' R) (hR:∀ r,R r→R' r):Mv S ρ S' ρ' R':=⟨h.ext,h.old,fun b hb hr=>h.kp b hb fun r e hr'=>hr r e (hR r hr'),h.al,h.rg⟩
theorem Mv.keeps (h:∀ b r,ρ b=some r→S b≠none) (hk:Keeps S S' []):Mv S ρ S' ρ R:=
 ⟨fun _ _ h=>h,fun _ _ h _=>h,fun b hb _=>hk b hb (by simp),fun b hb=>by rw[hk b hb (by simp)];exact hb,fun b r e=>by rw[hk b (h b r e) (by simp)];exact h b r e⟩
theorem Mv.claim (h:∀ b r,ρ b=some r→S b≠none) (hk:Keeps S S' []) {c r:Nat} (hc:S c=none) (hc':S' c≠none):Mv S ρ S' (ρ.upd c r) R:=by
 have k:=Mv.keeps (R:=R) h hk
 have hn:∀ b r',ρ b=some r'→b≠c:=fun b r' e e2=>by rw[e2] at e;exact h c r' e hc
 refine⟨fun b r' e=>by rw[yp (hn b r' e)];exact e,fun b r' e hb=>?_,k.kp,k.al,fun b r' e=>?_⟩
 ·rw[yp (fun e2=>by rw[e2] at hb;exact hb hc)] at e;exact e
 ·by_cases hbc:b=c
  ·rw[hbc];exact hc'
  ·rw[yp hbc] at e;exact k.rg b r' e
theorem Mv.put (h:Mv S ρ S' ρ' R) {b r:Nat} (hb:ρ' b=some r) (hr:R r) (k:Blk):Mv S ρ (S'.set b k) ρ' R:=
 ⟨h.ext,h.old,fun x hx hxr=>by
  by_cases e:x=b
  ·subst e;exact absurd hr (hxr r (h.old x r hb hx))
  ·rw[qe e];exact h.kp x hx hxr,fun x hx=>by
  by_cases e:x=b
  ·rw[e,zy];simp
  ·rw[qe e];exact h.al x hx,fun x r' e'=>by
  by_cases e:x=b
  ·rw[e,zy];simp
  ·rw[qe e];exact h.rg x r' e'⟩
theorem Mv.new (h:Mv S ρ S' ρ' R) {b:Nat} (hb:S' b=none) (k:Blk) (r:Nat):Mv S ρ (S'.set b k) (ρ'.upd b r) R:=by
 have h2:Mv S' ρ' (S'.set b k) (ρ'.upd b r) R:=Mv.claim h.rg (Keeps.refl.fresh hb) hb (by simp)
 exact h.trans h2
theorem Mv.then (h:Mv S ρ S' ρ' R) (hk:Keeps S' S'' []):Mv S ρ S'' ρ' R:=h.trans (Mv.keeps h.rg hk)
theorem Mv.keepsW {W:List Nat} (h:∀ b r,ρ b=some r→S b≠none) (hk:Keeps S S' W) (hW:∀ w∈W,S' w≠none∧∃ r,ρ w=some r∧R r):Mv S ρ S' ρ R:=
 ⟨fun _ _ h=>h,fun _ _ h _=>h,fun b hb hr=>by
  by_cases hw:b∈W
  ·obtain⟨_,r,e,h2⟩:=hW b hw;exact absurd h2 (hr r e)
  ·exact hk b hb hw,fun b hb=>by
  by_cases hw:b∈W
  ·exact (hW b hw).1
  ·rw[hk b hb hw];exact hb,fun b r e=>by
  by_cases hw:b∈W
  ·exact (hW b hw).1
  ·rw[hk b (h b r e) hw];exact h b r e⟩
structure Bl (S:Mem) (ρ:Rho) (r b:Nat) (k:Blk):Prop where
 at_:S b=some k
 rol:ρ b=some r
theorem Bl.keep {r b:Nat} {k:Blk} (h:Bl S ρ r b k) (m:Mv S ρ S' ρ' R) (hr:¬R r):Bl S' ρ' r b k:=
 ⟨by rw[m.kp b (by rw[h.at_];simp) fun r' e=>by rw[h.rol] at e;cases e;exact hr];exact h.at_,m.ext b r h.rol⟩
theorem Bl.ne {r r' b b':Nat} {k k':Blk} (h:Bl S ρ r b k) (h':Bl S ρ r' b' k') (hr:r≠r'):b≠b':=fun e=>by
 have:=h.rol;rw[e,h'.rol] at this;cases this;exact hr rfl
structure Rw (S:Mem) (ρ:Rho) (r size:Nat) (s:Sl) (l:List Value):Prop where
 row:Row S size s l
 rol:∀ b o,s.p=some (b,o)→ρ b=some r
theorem Rw.nil {r size:Nat}:Rw S ρ r size ⟨none,0,0⟩ []:=⟨Row.nil,fun b o h=>by cases h⟩
theorem Rw.keep {r size:Nat} {s:Sl} {l:List Value} (h:Rw S ρ r size s l) (m:Mv S ρ S' ρ' R) (hr:¬R r):Rw S' ρ' r size s l:=
 ⟨h.row.keep fun b hb=>m.kp b (by
  rcases h.row.lie with ⟨h1,_⟩ | ⟨b',k,h1,h2,_⟩
  ·rw[h1] at hb;cases hb
  ·rw[h1] at hb;cases hb;rw[h2];simp) fun r' e=>by rw[h.rol b 0 hb] at e;cases e;exact hr,fun b o hb=>m.ext b r (h.rol b o hb)⟩
theorem Rw.ne {r r' size b:Nat} {s:Sl} {l:List Value} {k:Blk} (h:Rw S ρ r size s l) (h':Bl S ρ r' b k) (hr:r≠r'):∀ o,s.p≠some (b,o):=fun o e=>by
 have:=h.rol b o e;rw[h'.rol] at this;cases this;exact hr rfl
theorem zid {S0:Mem} {ρ0:Rho} {r e size bytes m:Nat} {z l vs:List Value} {s:Sl} {K:Sl→Mem→Prop} (hm0:Mv S0 ρ0 S ρ R) (hr:R r) (h:Rw S ρ r size s l) (hv:vs.length=m*size) (hm:0<m) (hz:z.length=size) (lim:(2*(s.n+m)+1024)*bytes≤281474976710656)
  (hK:∀ (s':Sl) (S':Mem) (ρ':Rho),Mv S0 ρ0 S' ρ' R→Mv S ρ S' ρ' (· = r)→Rw S' ρ' r size s' (l++vs)→s'.n=s.n+m→K s' S'):ap S e size bytes z s m vs K:=
 jR h.row hv hm hz lim fun s' S' b k hn hp hor hS' hrow=>by
  subst hS'
  have key:∃ ρ',Mv S ρ (S.set b k) ρ' (· = r)∧ρ' b=some r:=by
   rcases hor with h1 | h1
   ·exact⟨ρ,(Mv.refl (R:=(· = r)) hm0.rg).put (h.rol b 0 h1) rfl k,h.rol b 0 h1⟩
   ·exact⟨_,(Mv.refl hm0.rg).new h1 k r,qO⟩
  obtain⟨ρ',m1,hb⟩:=key
  exact hK s' _ ρ' (hm0.trans (m1.mono fun x hx=>by rw[hx];exact hr)) m1 ⟨hrow,fun b' o hb'=>by rw[hp] at hb';cases hb';exact hb⟩ hn
end
end Go.Pt
