/- Texts of this work,joined by program (pack.py). -/
import Derived.Test.YthaiblbnpcgjpaaGreatDoorQAC
import Derived.Test.YthaiblbnpcgjpaaGreatDoorQAD
import Derived.Test.YthaiblbnpcgjpaaGreatDoorQAE
import Derived.Test.YthaiblbnpcgjpaaGreatDoorQAB
set_option linter.unusedVariables false
namespace Go.Proofs.YthaiblbnpcgjpaaGreatDoor
section
open Go Go.Pt Go.Proofs.Tryz
attribute [local irreducible] lt WD WN Code.wp Back bodyPost wpList FR WL WC WQ WA AW Tr Yc HC AllC
set_option maxRecDepth 20000
set_option maxHeartbeats 4000000
def jg (S:Mem) (h:Value) (Q:Mem→Prop):Prop:=
 ci prog S h "Len" [] fun rv Sx => ∃ t : Int, rv = .int .i64 t ∧ 
 lp (fun Xx (i:Int) (Sx_1:Mem)=>
 if 0≤i then
 fP Sx_1 h i t fun t_1 Sx_2=>
 Xx (IntKind.i64.wrap (i-1)) Sx_2
 else
 Q Sx_1) (IntKind.i64.wrap ((IntKind.i64.wrap (Int.tdiv t 2))-1)) Sx
theorem zbf {S:Mem} {h:Value} {Q:Mem→Prop} (H:jg S h Q):gh S h Q:=by
 unfold jg at H
 have:=dj0 (α:=Int) 3 [0,2] (fun z=>[(3,.int .i64 z)])
 exact Tr.intro func63 E ntmps63 E fun w0=>go results63 H
def zaz (S:Mem) (h:Value) (Q:Value→Mem→Prop):Prop:=
 ci prog S h "Len" [] fun rv Sx => ∃ t : Int, rv = .int .i64 t ∧ 
 ci prog Sx h "Swap" [.int .i64 0, .int .i64 (IntKind.i64.wrap (t - 1))] fun rv Sx_1 => rv = .tuple #[] ∧ 
 fP Sx_1 h 0 (IntKind.i64.wrap (t-1)) fun t_1 Sx_2=>
 ci prog Sx_2 h "Pop" [] fun rv Sx_3 => ∃ t_2 : Value, rv = t_2 ∧ 
 Q t_2 Sx_3
theorem zfL {S:Mem} {h:Value} {Q:Value→Mem→Prop} (H:zaz S h Q):zcp S h Q:=by
 unfold zaz at H
 exact Tr.intro func149 E ntmps149 E fun w0=>csr<|gv E E<|nxr<|mv E E<|zkS E E E H fun rv Sx H1=>by obtain⟨t,rfl,H2⟩:=H1;exact s_p E (zkU E E)<|gv E E<|nxr<|mv E E<|mv E E<|zkS E E E H2 fun rv Sx_1 H3=>by obtain⟨rfl,H4⟩:=H3;exact nxr<|mv E E<|mv E E<|kq E E H4 fun t_1 Sx_2 H5=>nxr<|mv E E<|zkS E E E H5 fun rv Sx_3 H6=>by obtain⟨t_2,rfl,H7⟩:=H6;exact gv E E<|nx<|zu<|zt results149 (zf E zi) ⟨_,E,H7⟩
def fa (S:Mem) (h:Value) (x:Value) (Q:Mem→Prop):Prop:=
 ci prog S h "Push" [x] fun rv Sx => rv = .tuple #[] ∧ 
 ci prog Sx h "Len" [] fun rv Sx_1 => ∃ t : Int, rv = .int .i64 t ∧ 
 zgO Sx_1 h (IntKind.i64.wrap (t-1)) fun Sx_2=>
 Q Sx_2
theorem zev {S:Mem} {h:Value} {x:Value} {Q:Mem→Prop} (H:fa S h x Q):fQ S h x Q:=by
 unfold fa at H
 exact Tr.intro func155 E ntmps155 E fun w0=>csr<|mv E E<|mv E E<|zkS E E E H fun rv Sx H1=>by obtain⟨rfl,H2⟩:=H1;exact nx<|zE<|mv E E<|mv E E<|zkS E E E H2 fun rv Sx_1 H3=>by obtain⟨t,rfl,H4⟩:=H3;exact s_p E (zkU E E)<|zlu E E H4 fun Sx_2 H5=>zr<|zgz results155 (zi) ⟨E,H5⟩
def gZ (S:Mem) (h:Value) (i0_0:Int) (n:Int) (Q:Bool→Mem→Prop):Prop:=
 jn (fun (i:Int) (Sx:Mem)=>
 Q (decide (i0_0<i)) Sx) fun Jx=>
 lp (fun Xx (i_1:Int) (Sx_1:Mem)=>
 jn (fun (Sx_2:Mem)=>
 jn (fun (j:Int) (Sx_3:Mem)=>
 ci prog Sx_3 h "Less" [.int .i64 j, .int .i64 i_1] fun rv Sx_4 => ∃ t : Bool, rv = .bool t ∧ 
 if t=true then
 ci prog Sx_4 h "Swap" [.int .i64 i_1, .int .i64 j] fun rv Sx_5 => rv = .tuple #[] ∧ 
 Xx j Sx_5
 else
 Jx i_1 Sx_4) fun Jx_1=>
 if IntKind.i64.wrap ((IntKind.i64.wrap ((IntKind.i64.wrap (2*i_1))+1))+1)<n then
 ci prog Sx_2 h "Less" [.int .i64 (IntKind.i64.wrap ((IntKind.i64.wrap ((IntKind.i64.wrap (2 * i_1)) + 1)) + 1)), .int .i64 (IntKind.i64.wrap ((IntKind.i64.wrap (2 * i_1)) + 1))] fun rv Sx_6 => ∃ t_1 : Bool, rv = .bool t_1 ∧ 
 if t_1=true then
 Jx_1 (IntKind.i64.wrap ((IntKind.i64.wrap ((IntKind.i64.wrap (2*i_1))+1))+1)) Sx_6
 else
 Jx_1 (IntKind.i64.wrap ((IntKind.i64.wrap (2*i_1))+1)) Sx_6
 else
 Jx_1 (IntKind.i64.wrap ((IntKind.i64.wrap (2*i_1))+1)) Sx_2) fun Jx_2=>
 if n≤IntKind.i64.wrap ((IntKind.i64.wrap (2*i_1))+1) then
 Jx i_1 Sx_1
 else
 if IntKind.i64.wrap ((IntKind.i64.wrap (2*i_1))+1)<0 then
 Jx i_1 Sx_1
 else
 Jx_2 Sx_1) i0_0 S
theorem zeu {S:Mem} {h:Value} {i0_0:Int} {n:Int} {Q:Bool→Mem→Prop} (H:gZ S h i0_0 n Q):fP S h i0_0 n Q:=by
 unfold gZ at H
 exact Tr.intro func117 E ntmps117 E fun w0=>csr<|gv E E<|nxr<|mv E E<|gv E E<|nx<|zy H (fun (J:Int→Mem→Prop) (z:Int) S=>J z S) (fun z=>⟨48,[(1,.int .i64 i0_0),(7,.int .i64 z)]⟩) (fun z=>[]) (fun i Sx H1=>csr<|mv E E<|mv E E<|s_p E (jZ E E)<|gv E E<|nx<|zu<|zt results117 (zf E zi) ⟨_,E,H1⟩) (fun Jx hJx H2=>zK<|xC (fun z=>⟨48,[(0,h),(1,.int .i64 i0_0),(2,.int .i64 n),(7,.int .i64 z)]⟩) (fun z=>[]) i0_0 (idx:=[]) H2 E ⟨E,E,E,E,True.intro⟩ E<|fun Xx hXx i_1 Sx_1 H3=>zK<|csr<|mv E E<|s_p E (zkV E E)<|s_p E (qZ E E)<|gv E E<|nx<|zy H3 (fun (J:Mem→Prop) (z:Unit) S=>J S) (fun z=>⟨48,[(0,h),(1,.int .i64 i0_0),(2,.int .i64 n),(7,.int .i64 i_1),(8,.int .i64 (IntKind.i64.wrap ((IntKind.i64.wrap (2*i_1))+1)))]⟩) (fun z=>[]) (fun _ Sx_2 H4=>csr<|mv E E<|gv E E<|nx<|zy H4 (fun (J:Int→Mem→Prop) (z:Int) S=>J z S) (fun z=>⟨48,[(0,h),(1,.int .i64 i0_0),(2,.int .i64 n),(7,.int .i64 i_1),(9,.int .i64 z)]⟩) (fun z=>[]) (fun j Sx_3 H5=>qb<|csr<|mv E E<|mv E E<|mv E E<|zkS E E E H5 fun rv Sx_4 H6=>by obtain⟨t,rfl,H7⟩:=H6;exact by have H8:=zfs H7;rcases H8 with ⟨rfl,H9⟩ | ⟨rfl,H9⟩;exact (s_p E (yB (ym E) E)<|nx<|cfs E E<|zB<|csr<|mv E E<|mv E E<|mv E E<|zkS E E E H9 fun rv Sx_5 H10=>by obtain⟨rfl,H11⟩:=H10;exact nx<|zE<|mv E E<|gv E E<|zr<|qr<|hXx j _ _ _ _ [] H11 E ⟨E,E,E,E,True.intro⟩ E);exact (s_p E (yB (ym E) E)<|nx<|c_t E E<|qY<|zm<|zao E<|zm<|zV<|hJx i_1 _ _ _ _ [] H9 E ⟨E,E,True.intro⟩ E)) (fun Jx_1 hJx_1 H12=>csr<|mv E E<|s_p E (qZ E E)<|gv E E<|nxr<|mv E E<|mv E E<|iteK H12 (fun c H13=>s_p E (yT (qq E E) c)<|mv E E<|mv E E<|mv E E<|mv E E<|zkS E E E H13 fun rv Sx_6 H14=>by obtain⟨t_1,rfl,H15⟩:=H14;exact by have H16:=zfs H15;rcases H16 with ⟨rfl,H17⟩ | ⟨rfl,H17⟩;exact (pk E E E<|nx<|ctr E E<|mv E E<|gv E E<|zr<|hJx_1 (IntKind.i64.wrap ((IntKind.i64.wrap ((IntKind.i64.wrap (2*i_1))+1))+1)) _ _ _ _ [] H17 E ⟨E,E,E,E,E,True.intro⟩ E);exact (pk E E E<|nx<|cfs E E<|hJx_1 (IntKind.i64.wrap ((IntKind.i64.wrap (2*i_1))+1)) _ _ _ _ [] H17 E ⟨E,E,E,E,E,True.intro⟩ E)) fun c H13=>s_p E (yF (qq E E) c)<|mv E E<|sk4 E E E E<|by exact pk E E E<|nx<|cfs E E<|hJx_1 (IntKind.i64.wrap ((IntKind.i64.wrap (2*i_1))+1)) _ _ _ _ [] H13 E ⟨E,E,E,E,E,True.intro⟩ E)) (fun Jx_2 hJx_2 H18=>csr<|mv E E<|mv E E<|iteK H18 (fun c_1 H19=>s_p E (yT (wT E E) c_1)<|mv E E<|sk2 E E<|pk E E E<|nx<|c_t E E<|qY<|zm<|zao E<|zm<|zV<|hJx i_1 _ _ _ _ [] H19 E ⟨E,E,True.intro⟩ E) fun c_1 H19=>s_p E (yF (wT E E) c_1)<|mv E E<|mv E E<|iteK H19 (fun c_2 H20=>s_p E (yT (qq E E) c_2)<|pk E E E<|nx<|c_t E E<|qY<|zm<|zao E<|zm<|zV<|hJx i_1 _ _ _ _ [] H20 E ⟨E,E,True.intro⟩ E) fun c_2 H20=>s_p E (yF (qq E E) c_2)<|pk E E E<|nx<|cfs E E<|hJx_2 () _ _ _ _ [] H20 E ⟨E,E,E,E,E,True.intro⟩ E))
def zcv (S:Mem) (h:Value) (j:Int) (Q:Mem→Prop):Prop:=
 lp (fun Xx (j_1:Int) (Sx:Mem)=>
 jn (fun (Sx_1:Mem)=>
 ci prog Sx_1 h "Swap" [.int .i64 (IntKind.i64.wrap (Int.tdiv (IntKind.i64.wrap (j_1 - 1)) 2)), .int .i64 j_1] fun rv Sx_2 => rv = .tuple #[] ∧ 
 Xx (IntKind.i64.wrap (Int.tdiv (IntKind.i64.wrap (j_1-1)) 2)) Sx_2) fun Jx=>
 if IntKind.i64.wrap (Int.tdiv (IntKind.i64.wrap (j_1-1)) 2)=j_1 then
 Q Sx
 else
 ci prog Sx h "Less" [.int .i64 j_1, .int .i64 (IntKind.i64.wrap (Int.tdiv (IntKind.i64.wrap (j_1 - 1)) 2))] fun rv Sx_3 => ∃ t : Bool, rv = .bool t ∧ 
 if t=true then
 Jx Sx_3
 else
 Q Sx_3) j S
theorem zhi {S:Mem} {h:Value} {j:Int} {Q:Mem→Prop} (H:zcv S h j Q):zgO S h j Q:=by
 unfold zcv at H
 exact Tr.intro func194 E ntmps194 E fun w0=>zK<|xC (fun z=>⟨23,[(0,h),(1,.int .i64 z)]⟩) (fun z=>[]) j (idx:=[]) H E ⟨E,E,True.intro⟩ E<|fun Xx hXx j_1 Sx H1=>zK<|csr<|mv E E<|s_p E (zkU E E)<|s_p E (zoa E E (by decide))<|gv E E<|nx<|zy H1 (fun (J:Mem→Prop) (z:Unit) S=>J S) (fun z=>⟨23,[(0,h),(1,.int .i64 j_1),(4,.int .i64 (IntKind.i64.wrap (Int.tdiv (IntKind.i64.wrap (j_1-1)) 2)))]⟩) (fun z=>[]) (fun _ Sx_1 H2=>csr<|mv E E<|mv E E<|mv E E<|zkS E E E H2 fun rv Sx_2 H3=>by obtain⟨rfl,H4⟩:=H3;exact nx<|zE<|mv E E<|gv E E<|zr<|qr<|hXx (IntKind.i64.wrap (Int.tdiv (IntKind.i64.wrap (j_1-1)) 2)) _ _ _ _ [] H4 E ⟨E,E,True.intro⟩ E) (fun Jx hJx H5=>csr<|mv E E<|mv E E<|iteK H5 (fun c H6=>ceT E E E (c)<|mv E E<|sk4 E E E E<|zF E<|pk E E E<|nx<|c_t E E<|qY<|zm<|zao E<|zm<|zV<|zgz results194 (zi) ⟨E,H6⟩) fun c H6=>ceF E E E (c)<|mv E E<|mv E E<|mv E E<|mv E E<|zkS E E E H6 fun rv Sx_3 H7=>by obtain⟨t,rfl,H8⟩:=H7;exact by have H9:=zfs H8;rcases H9 with ⟨rfl,H10⟩ | ⟨rfl,H10⟩;exact (s_p E (yB (ym E) E)<|pk E E E<|nx<|cfs E E<|hJx () _ _ _ _ [] H10 E ⟨E,E,E,True.intro⟩ E);exact (s_p E (yB (ym E) E)<|pk E E E<|nx<|c_t E E<|qY<|zm<|zao E<|zm<|zV<|zgz results194 (zi) ⟨E,H10⟩))
def zdo (S:Mem) (frames:Int) (Q:Pt→Mem→Prop):Prop:=
 al S 227 ([.slice (none) 0 0,.slice (none) 0 0,.int .i64 (-1)]) fun b Sx=>
 jn (fun (Sx_1:Mem)=>
 gh Sx_1 (.iface 228 (.pointer (some ⟨b,0,none⟩))) fun Sx_2=>
 Q (some (b,0)) Sx_2) fun Jx=>
 lp (fun Xx (t:Int) (Sx_3:Mem)=>
 if t<(if 512<(if frames<0 then 0 else frames) then 512 else (if frames<0 then 0 else frames)) then
 gL (Sx_3.cell b 0) fun t_1=>
 ap Sx_3 3 1 8 [.int .i64 0] t_1 1 ([.int .i64 t]) fun t_2 Sx_4=>
 pt Sx_4 b 0 1 ([eL t_2]) fun Sx_5=>
 gL (Sx_5.cell b 1) fun t_3=>
 ap Sx_5 4 1 1 [.bool false] t_3 1 ([.bool false]) fun t_4 Sx_6=>
 pt Sx_6 b 1 1 ([eL t_4]) fun Sx_7=>
 Xx (IntKind.i64.wrap (t+1)) Sx_7
 else
 Jx Sx_3) 0 Sx
theorem zjZ {S:Mem} {frames:Int} {Q:Pt→Mem→Prop} (H:zdo S frames Q):zcl S frames Q:=by
 unfold zdo at H
 have:=dj1 9 [3]
 have:=dj0 (α:=Int) 4 [3,9] (fun z=>[(10,.int .i64 z)])
 exact Tr.intro func94 E ntmps94 E fun w0=>go results94 H
def vS (S:Mem) (p:Pt) (n:Int) (Q:Int→Mem→Prop):Prop:=
 jn (fun (Sx:Mem)=>
 nn p fun b o=>
 gL (Sx.cell b (o+1)) fun t=>
 sl t fun b_1 o_1 n_1 n_2=>
 0≤n∧n<((n_1:Nat):Int) ∧
 pt Sx b_1 (o_1+n.toNat*1) 1 ([.bool false]) fun Sx_1=>
 fQ Sx_1 (.iface 228 (.pointer (some ⟨b,o,none⟩))) (.iface 3 (.int .i64 n)) fun Sx_2=>
 Q 0 Sx_2) fun Jx=>
 if p=none then
 Q 2 S
 else
 if n<0 then
 Q 1 S
 else
 nn p fun b_2 o_2=>
 gL (S.cell b_2 (o_2+1)) fun t_1=>
 if (t_1.n:Int)≤n then
 Q 1 S
 else
 gL (S.cell b_2 (o_2+1)) fun t_2=>
 sl t_2 fun b_3 o_3 n_3 n_4=>
 0≤n∧n<((n_3:Nat):Int) ∧
 gB (S.cell b_3 (o_3+n.toNat*1)) fun t_3=>
 if t_3=true then
 Jx S
 else
 Q 8 S
theorem zdM {S:Mem} {p:Pt} {n:Int} {Q:Int→Mem→Prop} (H:vS S p n Q):qU S p n Q:=by
 unfold vS at H
 have:=dj1 8 [0,1]
 exact Tr.intro func103 E ntmps103 E fun w0=>go results103 H
def vR (S:Mem) (p:Pt) (n:Int) (Q:Sl→Int→Mem→Prop):Prop:=
 jn (fun (Sx:Mem)=>
 jn (fun (l:Sl) (Sx_1:Mem)=>
 Q l 0 Sx_1) fun Jx=>
 lp (fun Xx (z:Sl×Int) (Sx_2:Mem)=>
 match z with
 | (l_1,t)=>
 if t<(if n<0 then 0 else n) then
 jn (fun (l_2:Sl) (Sx_3:Mem)=>
 Xx (l_2,IntKind.i64.wrap (t+1)) Sx_3) fun Jx_1=>
 vy Sx_2 p fun t_1 t_2 Sx_4=>
 jn (fun (Sx_5:Mem)=>
 ap Sx_5 3 1 8 [.int .i64 0] l_1 1 ([.int .i64 t_1]) fun t_3 Sx_6=>
 Jx_1 t_3 Sx_6) fun Jx_2=>
 if t_2≠0 then
 jn (fun (Sx_7:Mem)=>
 Q (⟨none,0,0⟩) t_2 Sx_7) fun Jx_3=>
 lp (fun Xx_1 (t_4:Int) (Sx_8:Mem)=>
 if t_4<(l_1.n:Int) then
 sl l_1 fun b_1 o n_1 n_2=>
 0≤t_4∧t_4<((n_1:Nat):Int) ∧
 gI (Sx_8.cell b_1 (o+t_4.toNat*1)) .i64 fun t_5=>
 qU Sx_8 p t_5 fun t_6 Sx_9=>
 Xx_1 (IntKind.i64.wrap (t_4+1)) Sx_9
 else
 Jx_3 Sx_8) 0 Sx_4
 else
 Jx_2 Sx_4
 else
 Jx l_1 Sx_2) (⟨none,0,0⟩,0) Sx) fun Jx_4=>
 if p=none then
 Q (⟨none,0,0⟩) 2 S
 else
 Jx_4 S
theorem zdL {S:Mem} {p:Pt} {n:Int} {Q:Sl→Int→Mem→Prop} (H:vR S p n Q):xA S p n Q:=by
 unfold vR at H
 exact Tr.intro func66 E ntmps66 E fun w0=>csr<|gv E E<|gv E E<|nx<|zy H (fun (J:Mem→Prop) (z:Unit) S=>J S) (fun z=>⟨41,[(0,eP p),(1,.int .i64 n)]⟩) (fun z=>[]) (fun _ Sx H1=>csr<|gv E E<|nx<|zy H1 (fun (J:Sl→Mem→Prop) (z:Sl) S=>J z S) (fun z=>⟨41,[(6,eL z)]⟩) (fun z=>[]) (fun l Sx_1 H2=>csr<|mv E E<|gv E E<|gv E E<|nx<|zu<|zt results66 (zf E (zf E zi)) ⟨_,_,E,H2⟩) (fun Jx hJx H3=>csr<|mv E E<|s_p E (zoh E E)<|mv E E<|nx<|zK<|xC (fun z=>⟨41,[(0,eP p),(6,eL z.1),(14,.int .i64 (if n<0 then 0 else n)),(15,.int .i64 z.2)]⟩) (fun z=>[]) (⟨none,0,0⟩,0) (idx:=[]) H3 E ⟨E,E,E,E,True.intro⟩ E<|by rintro Xx hXx ⟨l_1,t⟩ Sx_2 H4;exact csr<|iteK H4 (fun c H5=>s_p E (yT (qq E E) c)<|nx<|qb<|c_t E E<|yV<|zB<|zy H5 (fun (J:Sl→Mem→Prop) (z:Sl) S=>J z S) (fun z=>⟨41,[(0,eP p),(6,eL z),(14,.int .i64 (if n<0 then 0 else n)),(15,.int .i64 t)]⟩) (fun z=>[]) (fun l_2 Sx_3 H6=>zE<|s_p E (qZ E E)<|mv E E<|zr<|hXx (l_2,IntKind.i64.wrap (t+1)) _ _ _ _ [] H6 E ⟨E,E,E,E,True.intro⟩ E) (fun Jx_1 hJx_1 H7=>zK<|csr<|mv E E<|ziz E E H7 fun t_1 t_2 Sx_4 H8=>mv E E<|s_p E (zk E E)<|s_p E (zk E E)<|gv E E<|gv E E<|nx<|zy H8 (fun (J:Mem→Prop) (z:Unit) S=>J S) (fun z=>⟨41,[(0,eP p),(6,eL l_1),(7,.int .i64 t_1),(14,.int .i64 (if n<0 then 0 else n)),(15,.int .i64 t)]⟩) (fun z=>[]) (fun _ Sx_5 H9=>zE<|mv E E<|mv E E<|zjr E E (by decide) E fun b=>gf (sx:=l_1) (vs:=[.int .i64 t_1]) E E E (zgS 0 E E) E E (by decide) H9 fun t_3 Sx_6 H10=>gv E E<|zr<|qr<|hJx_1 t_3 _ _ _ _ [] H10 E ⟨E,E,E,E,True.intro⟩ E) (fun Jx_2 hJx_2 H11=>csr<|mv E E<|iteK H11 (fun c_1 H12=>s_p E (yT (qt E E) c_1)<|nx<|c_t E E<|zy H12 (fun (J:Mem→Prop) (z:Unit) S=>J S) (fun z=>⟨41,[(8,.int .i64 t_2)]⟩) (fun z=>[]) (fun _ Sx_7 H13=>csr<|mv E E<|gv E E<|gv E E<|nx<|zu<|zd<|zo<|zd<|zd<|zo<|zd<|zt results66 (zf E (zf E zi)) ⟨_,_,E,H13⟩) (fun Jx_3 hJx_3 H14=>csr<|mv E E<|s_p E (jJ E)<|mv E E<|nx<|zK<|xC (fun z=>⟨41,[(0,eP p),(8,.int .i64 t_2),(24,eL l_1),(25,.int .i64 (l_1.n:Int)),(26,.int .i64 z)]⟩) (fun z=>[]) 0 (idx:=[]) H14 E ⟨E,E,E,E,E,True.intro⟩ E<|fun Xx_1 hXx_1 t_4 Sx_8 H15=>csr<|iteK H15 (fun c_2 H16=>s_p E (yT (qq E E) c_2)<|nx<|qb<|c_t E E<|yV<|zB<|by exact qb<|zK<|csr<|by obtain⟨b_1,o,n_1,n_2,rfl,H17⟩:=H16;exact an2 H17 fun c_3 c_4 H18=>s_p E (gn E E c_3 c_4 E)<|gx H18 fun t_5 ht_5 H19=>s_v E (zG E) (qh ht_5)<|gv E E<|nx<|zE<|mv E E<|mv E E<|kq E E H19 fun t_6 Sx_9 H20=>zr<|qr<|zB<|zE<|s_p E (qZ E E)<|mv E E<|zr<|hXx_1 (IntKind.i64.wrap (t_4+1)) _ _ _ _ [] H20 E ⟨E,E,E,E,E,True.intro⟩ E) fun c_2 H16=>s_p E (yF (qq E E) c_2)<|nx<|qb<|c_f E E<|qY<|zm<|zm<|zV<|by exact hJx_3 () _ _ _ _ [] H16 E ⟨E,True.intro⟩ E)) fun c_1 H12=>s_p E (yF (qt E E) c_1)<|nx<|cfs E E<|hJx_2 () _ _ _ _ [] H12 E ⟨E,E,E,E,E,True.intro⟩ E))) fun c H5=>s_p E (yF (qq E E) c)<|nx<|qb<|c_f E E<|qY<|zm<|zm<|zV<|hJx l_1 _ _ _ _ [] H5 E ⟨E,True.intro⟩ E)) (fun Jx_4 hJx_4 H21=>csr<|mv E E<|iteK H21 (fun c_5 H22=>s_p E (yT (wP (p:=p) E E) c_5)<|nx<|c_t E E<|csr<|gv E E<|gv E E<|nx<|zu<|zd<|zt results66 (zf E (zf E zi)) ⟨_,_,E,H22⟩) fun c_5 H22=>s_p E (yF (wP (p:=p) E E) c_5)<|nx<|cfs E E<|hJx_4 () _ _ _ _ [] H22 E ⟨E,E,True.intro⟩ E)
def vQ (S:Mem) (p:Pt) (Q:Int→Int→Mem→Prop):Prop:=
 jn (fun (Sx:Mem)=>
 nn p fun b o=>
 gI (Sx.cell b (o+2)) .i64 fun t=>
 pt Sx b (o+2) 1 ([.int .i64 (if IntKind.i64.wrap (t-1)<(-1) then (-1) else IntKind.i64.wrap (t-1))]) fun Sx_1=>
 zcp Sx_1 (.iface 228 (.pointer (some ⟨b,o,none⟩))) fun t_1 Sx_2=>
 asI t_1 3 .i64 fun t_2=>
 gL (Sx_2.cell b (o+1)) fun t_3=>
 sl t_3 fun b_1 o_1 n n_1=>
 0≤t_2∧t_2<((n:Nat):Int) ∧
 pt Sx_2 b_1 (o_1+t_2.toNat*1) 1 ([.bool true]) fun Sx_3=>
 Q t_2 0 Sx_3) fun Jx=>
 if p=none then
 Q 0 2 S
 else
 nn p fun b_2 o_2=>
 gI (S.cell b_2 (o_2+2)) .i64 fun t_4=>
 if t_4=0 then
 Q 0 3 S
 else
 gL (S.cell b_2 o_2) fun t_5=>
 if (t_5.n:Int)=0 then
 Q 0 3 S
 else
 Jx S
theorem zdK {S:Mem} {p:Pt} {Q:Int→Int→Mem→Prop} (H:vQ S p Q):vy S p Q:=by
 unfold vQ at H
 exact Tr.intro func128 E ntmps128 E fun w0=>csr<|gv E E<|gv E E<|nx<|zy H (fun (J:Mem→Prop) (z:Unit) S=>J S) (fun z=>⟨44,[(0,eP p)]⟩) (fun z=>[]) (fun _ Sx H1=>csr<|mv E E<|mv E E<|by obtain⟨b,o,rfl,H2⟩:=H1;exact s_p E (qx E)<|s_p E (zA E E)<|gx H2 fun t ht H3=>s_v E (zG E) (qh ht)<|s_p E (zkU E E)<|s_p E (zoh E E)<|s_p E (qx E)<|s_p E (zA E E)<|an H3 fun c H4=>vD E E E E E c E<|nxr<|mv E E<|s_p E (qx E)<|s_p E (zA E E)<|s_p E (zif E)<|kq E E H4 fun t_1 Sx_2 H5=>by obtain⟨t_2,rfl,H6⟩:=H5;exact s_p E (zeb E)<|gv E E<|nxr<|mv E E<|s_p E (qx E)<|s_p E (zA E E)<|gx H6 fun t_3 ht_3 H7=>s_v E (zG E) (qh ht_3)<|mv E E<|by obtain⟨b_1,o_1,n,n_1,rfl,H8⟩:=H7;exact an2 H8 fun c_1 c_2 H9=>s_p E (gn E E c_1 c_2 E)<|an H9 fun c_3 H10=>vD E E E E E c_3 E<|nxr<|mv E E<|gv E E<|gv E E<|nx<|zu<|zt results128 (zf E (zf E zi)) ⟨_,_,E,H10⟩) (fun Jx hJx H11=>zK<|csr<|mv E E<|iteK H11 (fun c_4 H12=>s_p E (yT (wP (p:=p) E E) c_4)<|gv E E<|nx<|c_t E E<|csr<|gv E E<|gv E E<|nx<|zu<|zo<|zd<|zt results128 (zf E (zf E zi)) ⟨_,_,E,H12⟩) fun c_4 H12=>s_p E (yF (wP (p:=p) E E) c_4)<|gv E E<|nx<|c_f E E<|csr<|mv E E<|by obtain⟨b_2,o_2,rfl,H13⟩:=H12;exact s_p E (qx E)<|s_p E (zA E E)<|gx H13 fun t_4 ht_4 H14=>s_v E (zG E) (qh ht_4)<|iteK H14 (fun c_5 H15=>ceT E E E (c_5)<|mv E E<|sk4 E E E E<|sk2 E E<|pk E E E<|gv E E<|nx<|c_t E E<|csr<|gv E E<|gv E E<|nx<|zu<|zo<|zd<|zt results128 (zf E (zf E zi)) ⟨_,_,E,H15⟩) fun c_5 H15=>ceF E E E (c_5)<|mv E E<|mv E E<|s_p E (qx E)<|s_p E (zA E E)<|gx H15 fun t_5 ht_5 H16=>s_v E (zG E) (qh ht_5)<|s_p E (jJ E)<|iteK H16 (fun c_6 H17=>ceT E E E (c_6)<|pk E E E<|gv E E<|nx<|c_t E E<|csr<|gv E E<|gv E E<|nx<|zu<|zo<|zd<|zt results128 (zf E (zf E zi)) ⟨_,_,E,H17⟩) fun c_6 H17=>ceF E E E (c_6)<|pk E E E<|gv E E<|nx<|cfs E E<|qr<|hJx () _ _ _ _ [] H17 E ⟨E,True.intro⟩ E)
def zac (S:Mem) (f:Sl) (Q:Int→Mem→Prop):Prop:=
 Q (f.n:Int) S
theorem zer {S:Mem} {f:Sl} {Q:Int→Mem→Prop} (H:zac S f Q):zgB S f Q:=by
 unfold zac at H
 exact Tr.intro func273 E ntmps273 E fun w0=>go results273 H
def vO (S:Mem) (f:Sl) (i:Int) (j:Int) (Q:Bool→Mem→Prop):Prop:=
 sl f fun b o n n_1=>
 0≤i∧i<((n:Nat):Int) ∧
 gI (S.cell b (o+i.toNat*1)) .i64 fun t=>
 0≤j∧j<((n:Nat):Int) ∧
 gI (S.cell b (o+j.toNat*1)) .i64 fun t_1=>
 Q (decide (t<t_1)) S
theorem zdI {S:Mem} {f:Sl} {i:Int} {j:Int} {Q:Bool→Mem→Prop} (H:vO S f i j Q):zaS S f i j Q:=by
 unfold vO at H
 exact Tr.intro func274 E ntmps274 E fun w0=>go results274 H
def jd (S:Mem) (f:Pt) (Q:Value→Mem→Prop):Prop:=
 nn f fun b o=>
 gL (S.cell b o) fun t=>
 sl t fun b_1 o_1 n n_1=>
 0≤IntKind.i64.wrap ((t.n:Int)-1)∧IntKind.i64.wrap ((t.n:Int)-1)<((n:Nat):Int) ∧
 gI (S.cell b_1 (o_1+(IntKind.i64.wrap ((t.n:Int)-1)).toNat*1)) .i64 fun t_1=>
 (0:Int)≤IntKind.i64.wrap ((n:Int)-1)∧IntKind.i64.wrap ((n:Int)-1)≤((⟨some (b_1,o_1),n,n_1⟩:Sl).c:Int) ∧
 lt (slc 1 (⟨some (b_1,o_1),n,n_1⟩:Sl) 0 (IntKind.i64.wrap ((n:Int)-1))) fun t_2=>
 pt S b o 1 ([eL t_2]) fun Sx=>
 Q (.iface 3 (.int .i64 t_1)) Sx
theorem zeq {S:Mem} {f:Pt} {Q:Value→Mem→Prop} (H:jd S f Q):zgA S f Q:=by
 unfold jd at H
 exact Tr.intro func276 E ntmps276 E fun w0=>go results276 H
def vN (S:Mem) (f:Pt) (x:Value) (Q:Mem→Prop):Prop:=
 nn f fun b o=>
 gL (S.cell b o) fun t=>
 asI x 3 .i64 fun t_1=>
 ap S 3 1 8 [.int .i64 0] t 1 ([.int .i64 t_1]) fun t_2 Sx=>
 pt Sx b o 1 ([eL t_2]) fun Sx_1=>
 Q Sx_1
theorem zdH {S:Mem} {f:Pt} {x:Value} {Q:Mem→Prop} (H:vN S f x Q):zfC S f x Q:=by
 unfold vN at H
 exact Tr.intro func277 E ntmps277 E fun w0=>qa (by kernel_rfl)<|a_takeP 0 E (by decide +kernel) zb E (zp E)<|by exact a_takeP 1 E (by decide +kernel) zb E (zp E)<|by exact by obtain⟨b,o,rfl,H1⟩:=H;exact a_takeP 2 E (by decide +kernel) zb E (qx E)<|by exact gx H1 fun t ht H2=>zY 3 E (by decide +kernel) zb E (zG E) (qh ht)<|by exact a_takeP 4 E (by decide +kernel) zb E (zp E)<|by exact by obtain⟨t_1,rfl,H3⟩:=H2;exact a_takeP 5 E (by decide +kernel) zb E (zeb E)<|by exact zw 6 (by decide +kernel) E<|by exact zjr E E (by decide) E fun b_1=>zr<|zH (zj (qh ht) zq)<|zw 7 (by decide +kernel) E<|by exact gf (sx:=t) (vs:=[.int .i64 t_1]) E E E (zgS 0 E E) E E (by decide) H3 fun t_2 Sx H4=>zr<|zH zq<|a_takeP 8 E (by decide +kernel) zb E (qx E)<|by exact zw 9 (by decide +kernel) E<|by exact an H4 fun c H5=>vD E E E E E c E<|zr<|zH zq<|zW (by decide +kernel)<|by exact zgz results277 (zi) ⟨E,H5⟩
def vM (S:Mem) (f:Sl) (i:Int) (j:Int) (Q:Mem→Prop):Prop:=
 sl f fun b o n n_1=>
 0≤j∧j<((n:Nat):Int) ∧
 gI (S.cell b (o+j.toNat*1)) .i64 fun t=>
 0≤i∧i<((n:Nat):Int) ∧
 gI (S.cell b (o+i.toNat*1)) .i64 fun t_1=>
 0≤i∧i<((n:Nat):Int) ∧
 pt S b (o+i.toNat*1) 1 ([.int .i64 t]) fun Sx=>
 0≤j∧j<((n:Nat):Int) ∧
 pt Sx b (o+j.toNat*1) 1 ([.int .i64 t_1]) fun Sx_1=>
 Q Sx_1
theorem zdG {S:Mem} {f:Sl} {i:Int} {j:Int} {Q:Mem→Prop} (H:vM S f i j Q):zaR S f i j Q:=by
 unfold vM at H
 exact Tr.intro func275 E ntmps275 E fun w0=>go results275 H
def vP (S:Mem) (p:Pt) (n:Int) (Q:Bool→Mem→Prop):Prop:=
 if p≠none then
 if 0≤n then
 nn p fun b o=>
 gL (S.cell b (o+1)) fun t=>
 if n<(t.n:Int) then
 gL (S.cell b (o+1)) fun t_1=>
 sl t_1 fun b_1 o_1 n_1 n_2=>
 0≤n∧n<((n_1:Nat):Int) ∧
 gB (S.cell b_1 (o_1+n.toNat*1)) fun t_2=>
 Q t_2 S
 else
 Q false S
 else
 Q false S
 else
 Q false S
theorem zdJ {S:Mem} {p:Pt} {n:Int} {Q:Bool→Mem→Prop} (H:vP S p n Q):jN S p n Q:=by
 unfold vP at H
 exact Tr.intro func181 E ntmps181 E fun w0=>go results181 H
end
section
open Go Go.Pt Go.Proofs.Tryz
attribute [local irreducible] lt WD WN Code.wp Back bodyPost wpList FR WL WC WQ WA AW Tr Yc HC AllC
set_option maxRecDepth 20000
set_option maxHeartbeats 4000000
def xz (S:Mem) (a:List Value) (b:List Value) (Q:Bool→Mem→Prop):Prop:=
 a.length=3 ∧
 b.length=3 ∧
 jn (fun (Sx:Mem)=>
 gI (nthL a 2) .i64 fun t=>
 gI (nthL b 2) .i64 fun t_1=>
 Q (decide (t<t_1)) Sx) fun Jx=>
 gI (nthL a 0) .u64 fun t_2=>
 gI (nthL b 0) .u64 fun t_3=>
 if t_2≠t_3 then
 gI (nthL a 0) .u64 fun t_4=>
 gI (nthL b 0) .u64 fun t_5=>
 Q (decide (t_4<t_5)) S
 else
 gI (nthL a 1) .i64 fun t_6=>
 gI (nthL b 1) .i64 fun t_7=>
 if t_6≠t_7 then
 gI (nthL a 1) .i64 fun t_8=>
 gI (nthL b 1) .i64 fun t_9=>
 Q (decide (t_8<t_9)) S
 else
 Jx S
theorem zaM {S:Mem} {a:List Value} {b:List Value} {Q:Bool→Mem→Prop} (H:xz S a b Q):wN S a b Q:=by
 unfold xz at H
 have:=dj (α:=Unit) 6 [2,3] (fun _=>[]) (fun _=>[(0,none),(1,none)])
 exact Tr.intro func62 E ntmps62 E fun w0=>go results62 H
def wK (S:Mem) (c:Pt) (vm:Int) (seat:Int) (Q:Mem→Prop):Prop:=
 al S 3 ([.int .i64 vm]) fun b Sx=>
 al Sx 3 ([.int .i64 seat]) fun b_1 Sx_1=>
 xI Sx_1 c (.func (.func 227) #[] #[.pointer (some ⟨b,0,none⟩),.pointer (some ⟨b_1,0,none⟩)]) fun Sx_2=>
 Q Sx_2
theorem zce {S:Mem} {c:Pt} {vm:Int} {seat:Int} {Q:Mem→Prop} (H:wK S c vm seat Q):ko S c vm seat Q:=by
 unfold wK at H
 exact Tr.intro func191 E ntmps191 E fun w0=>go results191 H
def yZ (S:Mem) (a:List Value) (t:Pt) (t_1:Pt) (Q:Bool→Mem→Prop):Prop:=
 a.length=3 ∧
 gI (nthL a 1) .i64 fun t_2=>
 nn t fun b_1 o=>
 gI (S.cell b_1 o) .i64 fun t_3=>
 if t_2=t_3 then
 gI (nthL a 2) .i64 fun t_4=>
 nn t_1 fun b_2 o_1=>
 gI (S.cell b_2 o_1) .i64 fun t_5=>
 Q (decide (t_4=t_5)) S
 else
 Q false S
theorem fH {S:Mem} {a:List Value} {t:Pt} {t_1:Pt} {Q:Bool→Mem→Prop} (H:yZ S a t t_1 Q):zbJ S a t t_1 Q:=by
 unfold yZ at H
 exact Tr.intro func227 E ntmps227 E fun w0=>go results227 H
def vv (S:Mem) (c:Pt) (vm:Int) (seat:Int) (atx:Int) (Q:Int→Mem→Prop):Prop:=
 jn (fun (Sx:Mem)=>
 ko Sx c vm seat fun Sx_1=>
 nn c fun b o=>
 fQ Sx_1 (.iface 127 (.pointer (some ⟨b,o,none⟩))) (.iface 119 (valL ([.int .u64 atx,.int .i64 vm,.int .i64 seat]))) fun Sx_2=>
 Q 0 Sx_2) fun Jx=>
 if c=none then
 Q 2 S
 else
 if vm<0 then
 Q 1 S
 else
 if 6≤vm then
 Q 1 S
 else
 if seat<0 then
 Q 1 S
 else
 if 3≤seat then
 Q 1 S
 else
 Jx S
theorem zcK {S:Mem} {c:Pt} {vm:Int} {seat:Int} {atx:Int} {Q:Int→Mem→Prop} (H:vv S c vm seat atx Q):wL S c vm seat atx Q:=by
 unfold vv at H
 have:=dj1 6 [0,1,2,3]
 exact Tr.intro func141 E ntmps141 E fun w0=>go results141 H
def wJ (S:Mem) (c:Pt) (ofx:Value) (Q:Mem→Prop):Prop:=
 if c≠none then
 nn c fun b o=>
 gL (S.cell b o) fun t=>
 zQ S t ofx fun t_1 Sx=>
 pt Sx b o 1 ([eL t_1]) fun Sx_1=>
 gh Sx_1 (.iface 127 (.pointer (some ⟨b,o,none⟩))) fun Sx_2=>
 Q Sx_2
 else
 Q S
theorem zcd {S:Mem} {c:Pt} {ofx:Value} {Q:Mem→Prop} (H:wJ S c ofx Q):xI S c ofx Q:=by
 unfold wJ at H
 exact Tr.intro func158 E ntmps158 E fun w0=>go results158 H
def zai (S:Mem) (r:Sl) (Q:Int→Mem→Prop):Prop:=
 Q (r.n:Int) S
theorem zeH {S:Mem} {r:Sl} {Q:Int→Mem→Prop} (H:zai S r Q):zgZ S r Q:=by
 unfold zai at H
 exact Tr.intro func268 E ntmps268 E fun w0=>go results268 H
def kn (S:Mem) (r:Sl) (i:Int) (j:Int) (Q:Bool→Mem→Prop):Prop:=
 sl r fun b o n n_1=>
 0≤i∧i<((n:Nat):Int) ∧
 gA (S.part b (o+i.toNat*3) 3) fun t=>
 0≤j∧j<((n:Nat):Int) ∧
 gA (S.part b (o+j.toNat*3) 3) fun t_1=>
 wN S t t_1 fun t_2 Sx=>
 Q t_2 Sx
theorem zdZ {S:Mem} {r:Sl} {i:Int} {j:Int} {Q:Bool→Mem→Prop} (H:kn S r i j Q):zaY S r i j Q:=by
 unfold kn at H
 exact Tr.intro func269 E ntmps269 E fun w0=>go results269 H
def km (S:Mem) (r:Pt) (x:Value) (Q:Mem→Prop):Prop:=
 nn r fun b o=>
 gL (S.cell b o) fun t=>
 asA x 119 3 fun t_1=>
 t_1.all (·.oneCell')=true ∧
 ap S 119 3 24 [.int .u64 0,.int .i64 0,.int .i64 0] t 1 t_1 fun t_2 Sx=>
 pt Sx b o 1 ([eL t_2]) fun Sx_1=>
 Q Sx_1
theorem zdY {S:Mem} {r:Pt} {x:Value} {Q:Mem→Prop} (H:km S r x Q):zfG S r x Q:=by
 unfold km at H
 exact Tr.intro func272 E ntmps272 E fun w0=>qa (by kernel_rfl)<|a_takeP 0 E (by decide +kernel) zb E (zp E)<|by exact a_takeP 1 E (by decide +kernel) zb E (zp E)<|by exact by obtain⟨b,o,rfl,H1⟩:=H;exact a_takeP 2 E (by decide +kernel) zb E (qx E)<|by exact gx H1 fun t ht H2=>zY 3 E (by decide +kernel) zb E (zG E) (qh ht)<|by exact a_takeP 4 E (by decide +kernel) zb E (zp E)<|by exact by obtain⟨t_1,rfl,ht_1,H3⟩:=H2;exact a_takeP 5 E (by decide +kernel) zb E (zeb E)<|by exact zw 6 (by decide +kernel) E<|by exact zjr E E (by decide) (jD (size:=3) E ht_1) fun b_1=>zr<|zH (zj (qh ht) zq)<|zw 7 (by decide +kernel) E<|by exact an H3 fun c H4=>gf (sx:=t) (vs:=t_1) E E E (zgS 0 E (ze ht_1)) ht_1 c (by decide) H4 fun t_2 Sx H5=>zr<|zH zq<|a_takeP 8 E (by decide +kernel) zb E (qx E)<|by exact zw 9 (by decide +kernel) E<|by exact an H5 fun c_1 H6=>vD E E E E E c_1 E<|zr<|zH zq<|zW (by decide +kernel)<|by exact zgz results272 (zi) ⟨E,H6⟩
def kj (S:Mem) (r:Sl) (i:Int) (j:Int) (Q:Mem→Prop):Prop:=
 sl r fun b o n n_1=>
 0≤j∧j<((n:Nat):Int) ∧
 gA (S.part b (o+j.toNat*3) 3) fun t=>
 0≤i∧i<((n:Nat):Int) ∧
 gA (S.part b (o+i.toNat*3) 3) fun t_1=>
 0≤i∧i<((n:Nat):Int) ∧
 t.all (·.oneCell')=true ∧
 pt S b (o+i.toNat*3) 3 t fun Sx=>
 0≤j∧j<((n:Nat):Int) ∧
 t_1.all (·.oneCell')=true ∧
 pt Sx b (o+j.toNat*3) 3 t_1 fun Sx_1=>
 Q Sx_1
theorem zdX {S:Mem} {r:Sl} {i:Int} {j:Int} {Q:Mem→Prop} (H:kj S r i j Q):zaX S r i j Q:=by
 unfold kj at H
 exact Tr.intro func270 E ntmps270 E fun w0=>go results270 H
def zM (S:Mem) (s:Sl) (del:Value) (Q:Sl→Mem→Prop):Prop:=
 zU S s del fun t Sx=>
 jn (fun (Sx_1:Mem)=>
 jn (fun (i:Int) (Sx_2:Mem)=>
 (0:Int)≤i∧(i:Int)≤(s.n:Int)∧(s.n:Int)≤(s.c:Int) ∧
 lt (slc 3 s i (s.n:Int)) fun t_1=>
 clr Sx_2 3 [.int .u64 0,.int .i64 0,.int .i64 0] t_1 fun Sx_3=>
 (0:Int)≤i∧i≤(s.c:Int) ∧
 lt (slc 3 s 0 i) fun t_2=>
 Q t_2 Sx_3) fun Jx=>
 lp (fun Xx (z:Int×Int) (Sx_4:Mem)=>
 match z with
 | (i_1,j)=>
 jn (fun (Sx_5:Mem)=>
 sl s fun b o n n_1=>
 0≤j∧j<((n:Nat):Int) ∧
 gA (Sx_5.part b (o+j.toNat*3) 3) fun t_3=>
 t_3.all (·.oneCell')=true ∧
 cv prog Sx_5 del [valL t_3] fun rv Sx_6=>∃ t_4:Bool,rv=.bool t_4∧
 if t_4=true then
 Xx (i_1,IntKind.i64.wrap (j+1)) Sx_6
 else
 0≤i_1∧i_1<((n:Nat):Int) ∧
 t_3.all (·.oneCell')=true ∧
 pt Sx_6 b (o+i_1.toNat*3) 3 t_3 fun Sx_7=>
 Xx (IntKind.i64.wrap (i_1+1),IntKind.i64.wrap (j+1)) Sx_7) fun Jx_1=>
 if j<(s.n:Int) then
 Jx_1 Sx_4
 else
 Jx i_1 Sx_4) (t,IntKind.i64.wrap (t+1)) Sx_1) fun Jx_2=>
 if t=(-1) then
 Q s Sx
 else
 Jx_2 Sx
theorem qy {S:Mem} {s:Sl} {del:Value} {Q:Sl→Mem→Prop} (H:zM S s del Q):zQ S s del Q:=by
 unfold zM at H
 have:=dj0 (α:=Int×Unit) 12 [0] (fun z=>[(5,.int .i64 z.1)])
 have:=dj0 (α:=Int×Int) 6 [0,1] (fun z=>[(5,.int .i64 z.1),(6,.int .i64 z.2)])
 have:=dj1 8 [0,1,5,6]
 have:=dj1 5 [0,1,5]
 exact Tr.intro func195 E ntmps195 E fun w0=>go results195 H
def zN (S:Mem) (s:Sl) (f:Value) (Q:Int→Mem→Prop):Prop:=
 jn (fun (Sx:Mem)=>
 Q (-1) Sx) fun Jx=>
 lp (fun Xx (t:Int) (Sx_1:Mem)=>
 if t<(s.n:Int) then
 sl s fun b o n n_1=>
 0≤t∧t<((n:Nat):Int) ∧
 gA (Sx_1.part b (o+t.toNat*3) 3) fun t_1=>
 cv prog Sx_1 f [valL t_1] fun rv Sx_2=>∃ t_2:Bool,rv=.bool t_2∧
 if t_2=true then
 Q t Sx_2
 else
 Xx (IntKind.i64.wrap (t+1)) Sx_2
 else
 Jx Sx_1) 0 S
theorem qB {S:Mem} {s:Sl} {f:Value} {Q:Int→Mem→Prop} (H:zN S s f Q):zU S s f Q:=by
 unfold zN at H
 have:=dj1 8 []
 have:=dj0 (α:=Int) 3 [0,1,7] (fun z=>[(8,.int .i64 z)])
 exact Tr.intro func228 E ntmps228 E fun w0=>go results228 H
def xy (S:Mem) (c:Pt) (vm:Int) (Q:Mem→Prop):Prop:=
 al S 3 ([.int .i64 vm]) fun b Sx=>
 xI Sx c (.func (.func 159) #[] #[.pointer (some ⟨b,0,none⟩)]) fun Sx_1=>
 Q Sx_1
theorem zaL {S:Mem} {c:Pt} {vm:Int} {Q:Mem→Prop} (H:xy S c vm Q):yQ S c vm Q:=by
 unfold xy at H
 exact Tr.intro func106 E ntmps106 E fun w0=>go results106 H
def yx (S:Mem) (a:List Value) (t:Pt) (Q:Bool→Mem→Prop):Prop:=
 a.length=3 ∧
 gI (nthL a 1) .i64 fun t_1=>
 nn t fun b_1 o=>
 gI (S.cell b_1 o) .i64 fun t_2=>
 Q (decide (t_1=t_2)) S
theorem gC {S:Mem} {a:List Value} {t:Pt} {Q:Bool→Mem→Prop} (H:yx S a t Q):zaj S a t Q:=by
 unfold yx at H
 exact Tr.intro func159 E ntmps159 E fun w0=>go results159 H
def ju (S:Mem) (r:Pt) (Q:Value→Mem→Prop):Prop:=
 nn r fun b o=>
 gL (S.cell b o) fun t=>
 sl t fun b_1 o_1 n n_1=>
 0≤IntKind.i64.wrap ((t.n:Int)-1)∧IntKind.i64.wrap ((t.n:Int)-1)<((n:Nat):Int) ∧
 gA (S.part b_1 (o_1+(IntKind.i64.wrap ((t.n:Int)-1)).toNat*3) 3) fun t_1=>
 t_1.all (·.oneCell')=true ∧
 (0:Int)≤IntKind.i64.wrap ((n:Int)-1)∧IntKind.i64.wrap ((n:Int)-1)≤((⟨some (b_1,o_1),n,n_1⟩:Sl).c:Int) ∧
 lt (slc 3 (⟨some (b_1,o_1),n,n_1⟩:Sl) 0 (IntKind.i64.wrap ((n:Int)-1))) fun t_2=>
 pt S b o 1 ([eL t_2]) fun Sx=>
 Q (.iface 119 (valL t_1)) Sx
theorem zeG {S:Mem} {r:Pt} {Q:Value→Mem→Prop} (H:ju S r Q):zgY S r Q:=by
 unfold ju at H
 exact Tr.intro func271 E ntmps271 E fun w0=>go results271 H
def vw (S:Mem) (c:Pt) (now:Int) (Q:Sl→Mem→Prop):Prop:=
 jn (fun (l:Sl) (Sx:Mem)=>
 Q l Sx) fun Jx=>
 lp (fun Xx (l_1:Sl) (Sx_1:Mem)=>
 jn (fun (Sx_2:Mem)=>
 nn c fun b o=>
 zcp Sx_2 (.iface 127 (.pointer (some ⟨b,o,none⟩))) fun t Sx_3=>
 asA t 119 3 fun t_1=>
 t_1.all (·.oneCell')=true ∧
 ap Sx_3 119 3 24 [.int .u64 0,.int .i64 0,.int .i64 0] l_1 1 t_1 fun t_2 Sx_4=>
 Xx t_2 Sx_4) fun Jx_1=>
 if c≠none then
 nn c fun b_2 o_1=>
 gL (Sx_1.cell b_2 o_1) fun t_3=>
 if 0<(t_3.n:Int) then
 gL (Sx_1.cell b_2 o_1) fun t_4=>
 sl t_4 fun b_3 o_2 n n_1=>
 (0:Int)<(n:Nat) ∧
 gI (Sx_1.cell b_3 o_2) .u64 fun t_5=>
 if t_5≤now then
 Jx_1 Sx_1
 else
 Jx l_1 Sx_1
 else
 Jx l_1 Sx_1
 else
 Jx l_1 Sx_1) (⟨none,0,0⟩) S
theorem zcL {S:Mem} {c:Pt} {now:Int} {Q:Sl→Mem→Prop} (H:vw S c now Q):wM S c now Q:=by
 unfold vw at H
 exact Tr.intro func98 E ntmps98 E fun w0=>csr<|gv E E<|nxr<|gv E E<|nx<|zy H (fun (J:Sl→Mem→Prop) (z:Sl) S=>J z S) (fun z=>⟨37,[(5,eL z)]⟩) (fun z=>[]) (fun l Sx H1=>csr<|mv E E<|gv E E<|nx<|zu<|zt results98 (zf E zi) ⟨_,E,H1⟩) (fun Jx hJx H2=>zK<|xC (fun z=>⟨37,[(0,eP c),(1,.int .u64 now),(5,eL z)]⟩) (fun z=>[]) (⟨none,0,0⟩) (idx:=[]) H2 E ⟨E,E,E,True.intro⟩ E<|fun Xx hXx l_1 Sx_1 H3=>zy H3 (fun (J:Mem→Prop) (z:Unit) S=>J S) (fun z=>⟨37,[(0,eP c),(1,.int .u64 now),(5,eL l_1)]⟩) (fun z=>[]) (fun _ Sx_2 H4=>zK<|zE<|mv E E<|mv E E<|by obtain⟨b,o,rfl,H5⟩:=H4;exact s_p E (qx E)<|s_p E (zA E E)<|s_p E (zif E)<|kq E E H5 fun t Sx_3 H6=>by obtain⟨t_1,rfl,ht_1,H7⟩:=H6;exact s_p E (zeb E)<|zjr E E (by decide) (jD (size:=3) E ht_1) fun b_1=>an H7 fun c_1 H8=>gf (sx:=l_1) (vs:=t_1) E E E (zgS 0 E (ze ht_1)) ht_1 c_1 (by decide) H8 fun t_2 Sx_4 H9=>gv E E<|zr<|qr<|hXx t_2 _ _ _ _ [] H9 E ⟨E,E,E,True.intro⟩ E) (fun Jx_1 hJx_1 H10=>csr<|mv E E<|iteK H10 (fun c_2 H11=>s_p E (yT (zha (p:=c) E E) c_2)<|mv E E<|mv E E<|by obtain⟨b_2,o_1,rfl,H12⟩:=H11;exact s_p E (qx E)<|s_p E (zA E E)<|gx H12 fun t_3 ht_3 H13=>s_v E (zG E) (qh ht_3)<|s_p E (jJ E)<|iteK H13 (fun c_3 H14=>s_p E (yT (jZ E E) c_3)<|pk E E E<|mv E E<|mv E E<|s_p E (qx E)<|s_p E (zA E E)<|gx H14 fun t_4 ht_4 H15=>s_v E (zG E) (qh ht_4)<|by obtain⟨b_3,o_2,n,n_1,rfl,H16⟩:=H15;exact an H16 fun c_5 H17=>s_p E (gn E E (by decide) c_5 E)<|s_p E (zA E E)<|gx H17 fun t_5 ht_5 H18=>s_v E (zG E) (qh ht_5)<|mv E E<|iteK H18 (fun c_6 H19=>s_p E (yT (zkX E E) c_6)<|pk E E E<|nx<|c_t E E<|yV<|hJx_1 () _ _ _ _ [] H19 E ⟨E,E,E,True.intro⟩ E) fun c_6 H19=>s_p E (yF (zkX E E) c_6)<|pk E E E<|nx<|c_f E E<|qY<|zm<|zm<|zV<|hJx l_1 _ _ _ _ [] H19 E ⟨E,True.intro⟩ E) fun c_3 H14=>s_p E (yF (jZ E E) c_3)<|pk E E E<|mv E E<|sk8 E E E E E E E E<|zF E<|pk E E E<|nx<|c_f E E<|qY<|zm<|zm<|zV<|hJx l_1 _ _ _ _ [] H14 E ⟨E,True.intro⟩ E) fun c_2 H11=>s_p E (yF (zha (p:=c) E E) c_2)<|mv E E<|sk4 E E E E<|sk2 E E<|pk E E E<|mv E E<|sk8 E E E E E E E E<|zF E<|pk E E E<|nx<|c_f E E<|qY<|zm<|zm<|zV<|hJx l_1 _ _ _ _ [] H11 E ⟨E,True.intro⟩ E))
end
end Go.Proofs.YthaiblbnpcgjpaaGreatDoor
namespace Go.Hp
section
section
variable {α:Type} [Inhabited α]
def gt (l:List α) (i:Nat):α:=l.getD i default
def sw (l:List α) (i j:Nat):List α:=(l.set i (gt l j)).set j (gt l i)
theorem zea {l:List α} {i:Nat} (h:i<l.length):gt l i=l[i]:=by simp[gt,h]
theorem zcf (l:List α) (i j:Nat):(sw l i j).length=l.length:=by simp[sw]
theorem znR {l:List α} {i k:Nat} {a:α} (h:i<l.length):gt (l.set i a) k=if k=i then a else gt l k:=by
 simp only[gt,List.getD_eq_getElem?_getD,List.getElem?_set]
 by_cases e:i=k
 ·subst e;simp[h]
 ·rw[if_neg e,if_neg (fun h=>e h.symm)]
theorem zcr {l:List α} {i j k:Nat} (hi:i<l.length) (hj:j<l.length):gt (sw l i j) k=if k=j then gt l i else if k=i then gt l j else gt l k:=by
 rw[sw,znR (by simpa using hj),znR hi]
theorem zcM {l:List α} {i j:Nat} (hi:i<l.length) (hj:j<l.length):(sw l i j).Perm l:=by
 rw[sw,zea hi,zea hj];exact List.set_set_perm hi hj
structure Ord (lt:α→α→Bool):Prop where
 asym:∀ a b,lt a b=true→lt b a=false
 trans:∀ a b c,lt b a=false→lt c b=false→lt c a=false
variable {lt:α→α→Bool}
def HpF (lt:α→α→Bool) (l:List α) (n lo:Nat):Prop:=∀ k,0<k→k<n→lo≤(k-1)/2→lt (gt l k) (gt l ((k-1)/2))=false
def Heap (lt:α→α→Bool) (l:List α):Prop:=HpF lt l l.length 0
structure Dn (lt:α→α→Bool) (l:List α) (n lo i:Nat):Prop where
 from_:lo≤i
 all:∀ k,0<k→k<n→lo≤(k-1)/2→(k-1)/2≠i→lt (gt l k) (gt l ((k-1)/2))=false
 over:lo<i→∀ k,0<k→k<n→(k-1)/2=i→lo≤(i-1)/2→lt (gt l k) (gt l ((i-1)/2))=false
theorem Dn.start {l:List α} {n lo:Nat} (h:HpF lt l n (lo+1)):Dn lt l n lo lo:=
 ⟨Nat.le_refl _,fun k h1 h2 h3 h4=>h k h1 h2 (by omega),fun h=>absurd h (Nat.lt_irrefl _)⟩
theorem Dn.leaf {l:List α} {n lo i:Nat} (h:Dn lt l n lo i) (hl:n≤2*i+1):HpF lt l n lo:=fun k h1 h2 h3=>h.all k h1 h2 h3 (by omega)
theorem Dn.stop (hO:Ord lt) {l:List α} {n lo i j:Nat} (h:Dn lt l n lo i) (hm:∀ k,k=2*i+1∨k=2*i+2→k<n→lt (gt l k) (gt l j)=false) (hs:lt (gt l j) (gt l i)=false):HpF lt l n lo:=fun k h1 h2 h3=>by
 by_cases e:(k-1)/2=i
 ·rw[e]
  exact hO.trans _ _ _ hs (hm k (by omega) h2)
 ·exact h.all k h1 h2 h3 e
theorem Dn.next (hO:Ord lt) {l:List α} {n lo i j:Nat} (h:Dn lt l n lo i) (hn:n≤l.length) (hjn:j<n) (hj:j=2*i+1∨j=2*i+2) (hm:∀ k,k=2*i+1∨k=2*i+2→k<n→lt (gt l k) (gt l j)=false) (hs:lt (gt l j) (gt l i)=true):Dn lt (sw l i j) n lo j:=by
 have hf:=h.from_
 have hi:i<l.length:=by omega
 have hj':j<l.length:=by omega
 have hji:(j-1)/2=i:=by omega
 refine⟨by omega,fun k h1 h2 h3 h4=>?_,fun _ k h1 h2 h3 _=>?_⟩
 ·rw[zcr hi hj',zcr hi hj']
  by_cases e1:k=j
  ·subst e1
   rw[if_pos rfl,if_neg (by omega),if_pos hji]
   exact hO.asym _ _ hs
  ·rw[if_neg e1]
   by_cases e2:k=i
   ·subst e2
    rw[if_pos rfl,if_neg (by omega),if_neg (by omega)]
    exact h.over (by omega) j (by omega) hjn hji h3
   ·rw[if_neg e2,if_neg h4]
    by_cases e3:(k-1)/2=i
    ·rw[if_pos e3];exact hm k (by omega) h2
    ·rw[if_neg e3];exact h.all k h1 h2 h3 e3
 ·rw[zcr hi hj',zcr hi hj',if_neg (by omega),if_neg (by omega),if_neg (by omega),if_pos hji]
  have:=h.all k h1 h2 (by omega) (by omega)
  rw[h3] at this
  exact this
structure Up (lt:α→α→Bool) (l:List α) (j:Nat):Prop where
 all:∀ k,0<k→k<l.length→k≠j→lt (gt l k) (gt l ((k-1)/2))=false
 over:0<j→∀ k,0<k→k<l.length→(k-1)/2=j→lt (gt l k) (gt l ((j-1)/2))=false
theorem zaV {l r:List α} {k:Nat} (h:k<l.length):gt (l++r) k=gt l k:=by simp[gt,List.getD_eq_getElem?_getD,List.getElem?_append_left h]
theorem Up.start {l:List α} {a:α} (h:Heap lt l):Up lt (l++[a]) l.length:=by
 refine⟨fun k h1 h2 h3=>?_,fun _ k h1 h2 h3=>?_⟩
 ·simp only[List.length_append,List.length_singleton] at h2
  rw[zaV (by omega),zaV (by omega)]
  exact h k h1 (by omega) (by omega)
 ·simp only[List.length_append,List.length_singleton] at h2;omega
theorem Up.top {l:List α} (h:Up lt l 0):Heap lt l:=fun k h1 h2 _=>h.all k h1 h2 (by omega)
theorem Up.stop {l:List α} {j:Nat} (h:Up lt l j) (hs:lt (gt l j) (gt l ((j-1)/2))=false):Heap lt l:=fun k h1 h2 _=>by
 by_cases e:k=j
 ·subst e;exact hs
 ·exact h.all k h1 h2 e
theorem Up.next (hO:Ord lt) {l:List α} {j:Nat} (h:Up lt l j) (h0:0<j) (hj:j<l.length) (hs:lt (gt l j) (gt l ((j-1)/2))=true):Up lt (sw l ((j-1)/2) j) ((j-1)/2):=by
 have hi:(j-1)/2<l.length:=by omega
 refine⟨fun k h1 h2 h3=>?_,fun hp k h1 h2 h3=>?_⟩
 ·rw[zcf] at h2
  rw[zcr hi hj,zcr hi hj]
  by_cases e1:k=j
  ·subst e1
   rw[if_pos rfl,if_neg (by omega),if_pos rfl]
   exact hO.asym _ _ hs
  ·rw[if_neg e1,if_neg h3]
   by_cases e2:(k-1)/2=j
   ·rw[if_pos e2];exact h.over h0 k h1 h2 e2
   ·rw[if_neg e2]
    by_cases e3:(k-1)/2=(j-1)/2
    ·rw[if_pos e3]
     have:=h.all k h1 h2 e1
     rw[e3] at this
     exact hO.trans _ _ _ (hO.asym _ _ hs) this
    ·rw[if_neg e3];exact h.all k h1 h2 e1
 ·rw[zcf] at h2
  rw[zcr hi hj,zcr hi hj]
  have hup:=h.all ((j-1)/2) hp hi (by omega)
  rw[if_neg (by omega:¬((j-1)/2-1)/2=j),if_neg (by omega:¬((j-1)/2-1)/2=(j-1)/2)]
  by_cases e1:k=j
  ·subst e1;rw[if_pos rfl];exact hup
  ·rw[if_neg e1,if_neg (by omega)]
   have:=h.all k h1 h2 e1
   rw[h3] at this
   exact hO.trans _ _ _ hup this
theorem Heap.least (hO:Ord lt) (hr:∀ a,lt a a=false) {l:List α} (h:Heap lt l):∀ k,k<l.length→lt (gt l k) (gt l 0)=false:=by
 intro k
 induction k using Nat.strongRecOn with
 | _ k ih=>
  intro hk
  by_cases h0:k=0
  ·subst h0;exact hr _
  ·exact hO.trans _ _ _ (ih ((k-1)/2) (by omega) (by omega)) (h k (by omega) hk (by omega))
theorem Heap.pop {l:List α} (h:Heap lt l) (h0:0<l.length):HpF lt (sw l 0 (l.length-1)) (l.length-1) 1:=fun k h1 h2 h3=>by
 rw[zcr h0 (by omega),zcr h0 (by omega),if_neg (by omega),if_neg (by omega),if_neg (by omega),if_neg (by omega)]
 exact h k h1 (by omega) (by omega)
theorem HpF.take {l:List α} {n:Nat} (h:HpF lt l n 0) (hn:n≤l.length):Heap lt (l.take n):=fun k h1 h2 _=>by
 rw[List.length_take,Nat.min_eq_left hn] at h2
 have e:∀ m,m<n→gt (l.take n) m=gt l m:=fun m hm=>by simp[gt,List.getD_eq_getElem?_getD,hm]
 rw[e k h2,e _ (by omega)]
 exact h k h1 h2 (by omega)
theorem HpF.leafs {l:List α} {n:Nat}:HpF lt l n (n/2):=fun k h1 h2 h3=>by omega
end
end
end Go.Hp
namespace Go.Pt
section
def Grows (S S':Mem):Prop:=∀ x,S x≠none→S' x≠none
theorem Grows.refl {S:Mem}:Grows S S:=fun _ h=>h
theorem Grows.trans {S S' S'':Mem} (h:Grows S S') (k:Grows S' S''):Grows S S'':=fun x hx=>k x (h x hx)
theorem Grows.set {S S':Mem} (h:Grows S S') {b:Nat} {k:Blk}:Grows S (S'.set b k):=fun x hx=>by
 by_cases e:x=b
 ·rw[e,zz];simp
 ·rw[zO e];exact h x hx
theorem Grows.keeps {S S':Mem} (h:Keeps S S' []):Grows S S':=fun x hx=>by rw[h x hx (by simp)];exact hx
end
end Go.Pt
section
namespace Go.Proofs.YthaiblbnpcgjpaaGreatDoor.Hk
open Go Go.Pt Go.Hp
open Go.Proofs.YthaiblbnpcgjpaaGreatDoor
structure Al where
 tm:Int
 vm:Int
 seat:Int
deriving DecidableEq,Inhabited
def ce (a:Al):List Value:=[.int .u64 a.tm,.int .i64 a.vm,.int .i64 a.seat]
def fl (l:List Al):List Value:=l.flatMap ce
def bf (a b:Al):Bool:=if a.tm≠b.tm then decide (a.tm<b.tm) else if a.vm≠b.vm then decide (a.vm<b.vm) else decide (a.seat<b.seat)
theorem znW {a b:Al}:bf a b=true↔a.tm<b.tm∨(a.tm=b.tm∧(a.vm<b.vm∨(a.vm=b.vm∧a.seat<b.seat))):=by
 unfold bf
 split
 ·simp;omega
 ·split
  ·simp;omega
  ·simp;omega
theorem znH {a b:Al}:bf a b=false↔¬(a.tm<b.tm∨(a.tm=b.tm∧(a.vm<b.vm∨(a.vm=b.vm∧a.seat<b.seat)))):=by
 rw[←znW];simp
theorem zaW (a:Al):bf a a=false:=by rw[znH];omega
theorem bf_ord:Ord bf:=⟨fun a b h=>by rw[znW] at h;rw[znH];omega,fun a b c h1 h2=>by rw[znH] at *;omega⟩
theorem yk (a:Al):(ce a).length=3:=rfl
theorem zfo (a:Al):(ce a).all (·.oneCell')=true:=rfl
theorem fl_length (l:List Al):(fl l).length=l.length*3:=by
 induction l with
 | nil=>rfl
 | cons a l ih=>simp only[fl,List.flatMap_cons,List.length_append,List.length_cons] at *;rw[ih,yk];omega
theorem yU (l r:List Al):fl (l++r)=fl l++fl r:=by simp[fl]
theorem gJ {l:List Al} {i:Nat} (h:i<l.length):fl l=fl (l.take i)++(ce (gt l i)++fl (l.drop (i+1))):=by
 have e:l=l.take i++(gt l i :: l.drop (i+1)):=by
  rw[zea h,List.getElem_cons_drop,List.take_append_drop]
 have e2:fl l=fl (l.take i++(gt l i :: l.drop (i+1))):=congrArg fl e
 rw[e2,yU]
 rfl
theorem zgR {l:List Al} {j:List Value} {i:Nat} (h:i<l.length):lpart (fl l++j) (i*3) 3=some (ce (gt l i)):=by
 have hln:=fl_length l
 rw[qA (by simp only[List.length_append];omega),gJ h]
 have ht:(fl (l.take i)).length=i*3:=by rw[fl_length,List.length_take];omega
 congr 1
 rw[List.append_assoc,List.drop_left' ht,List.append_assoc,List.take_left' (yk _)]
theorem ziS {l:List Al} {j:List Value} {i k:Nat} (h:i<l.length) (hk:k<3):nthL (fl l++j) (i*3+k)=nthL (ce (gt l i)) k:=by
 have hp:=zgR (j:=j) h
 rw[zI,zI,wg hp k hk]
theorem zmi {l:List Al} {j:List Value} {i:Nat} {a:Al} (h:i<l.length):spl (fl l++j) (i*3) (ce a)=fl (l.set i a)++j:=by
 have hln:=fl_length l
 rw[xi _ _ _ (by simp only[List.length_append];omega)]
 have ht:(fl (l.take i)).length=i*3:=by rw[fl_length,List.length_take];omega
 have e1:fl (l.set i a)=fl (l.take i)++(ce a++fl (l.drop (i+1))):=by
  rw[List.set_eq_take_append_cons_drop,if_pos h,yU]
  rfl
 have h1:(fl l++j).take (i*3)=fl (l.take i):=by
  rw[gJ h,List.append_assoc,List.take_left' ht]
 have h2:(fl l++j).drop (i*3+(ce a).length)=fl (l.drop (i+1))++j:=by
  rw[gJ h,yk,←List.drop_drop,List.append_assoc,List.drop_left' ht,List.append_assoc,List.drop_left' (yk _)]
 rw[h1,h2,e1]
 simp
structure Ro (S:Mem) (b o c:Nat) (t:TypeId) (s:Sl) (n:Nat):Prop where
 cell:S.cell b o=some (eL s)
 p:s.p=some (c,0)
 n:s.n=n
 ne:b≠c
def wi (S:Mem) (c:Nat) (t:TypeId) (j:List Value) (l:List Al):Mem:=S.set c (bw t (fl l++j))
theorem wi_c {S:Mem} {c:Nat} {t:TypeId} {j:List Value} {l:List Al}:wi S c t j l c=some (bw t (fl l++j)):=zz
section
variable {S:Mem} {b o c:Nat} {t:TypeId} {s:Sl} {j:List Value} {l:List Al} {n:Nat}
theorem gp (h:b≠c):(wi S c t j l).cell b o=S.cell b o:=by
 unfold Mem.cell wi;rw[zO h]
theorem zje {S:Mem} {x y:Al} {Q:Bool→Mem→Prop} (hQ:Q (bf x y) S):wN S (ce x) (ce y) Q:=by
 apply zaM
 unfold xz
 refine⟨rfl,rfl,?_⟩
 simp only[jn]
 rw[zx (show nthL (ce x) 0=some (.int .u64 x.tm) from rfl),zx (show nthL (ce y) 0=some (.int .u64 y.tm) from rfl)]
 unfold bf at hQ
 by_cases h1:x.tm≠y.tm
 ·rw[if_pos h1] at hQ ⊢
  rw[zx (show nthL (ce x) 0=some (.int .u64 x.tm) from rfl),zx (show nthL (ce y) 0=some (.int .u64 y.tm) from rfl)]
  exact hQ
 ·rw[if_neg h1] at hQ ⊢
  rw[zx (show nthL (ce x) 1=some (.int .i64 x.vm) from rfl),zx (show nthL (ce y) 1=some (.int .i64 y.vm) from rfl)]
  by_cases h2:x.vm≠y.vm
  ·rw[if_pos h2] at hQ ⊢
   rw[zx (show nthL (ce x) 1=some (.int .i64 x.vm) from rfl),zx (show nthL (ce y) 1=some (.int .i64 y.vm) from rfl)]
   exact hQ
  ·rw[if_neg h2] at hQ ⊢
   rw[zx (show nthL (ce x) 2=some (.int .i64 x.seat) from rfl),zx (show nthL (ce y) 2=some (.int .i64 y.seat) from rfl)]
   exact hQ
theorem zaZ {i:Nat} (h:i<l.length):(wi S c t j l).part c (0+i*3) 3=some (ce (gt l i)):=by
 rw[yp wi_c,Nat.zero_add];exact zgR h
theorem zfI {i:Nat} {a:Al} {K:Mem→Prop} (h:i<l.length) (hK:K (wi S c t j (l.set i a))):pt (wi S c t j l) c (0+i*3) 3 (ce a) K:=by
 have hln:=fl_length l
 refine zkT (t:=t) (cs:=fl l++j) wi_c (by simp only[List.length_append];omega) ?_
 rw[Nat.zero_add,zmi h]
 simpa [wi] using hK
theorem ziN {cap:Nat} {x y:Nat} (hx:x<l.length) (hy:y<l.length) (hn:n=l.length) {Q:Bool→Mem→Prop} (hQ:Q (bf (gt l x) (gt l y)) (wi S c t j l)):zaY (wi S c t j l) ⟨some (c,0),n,cap⟩ x y Q:=by
 apply zdZ
 unfold kn
 rw[fi]
 refine⟨by omega,by omega,?_⟩
 rw[Int.toNat_natCast,xa (zaZ hx)]
 refine⟨by omega,by omega,?_⟩
 rw[Int.toNat_natCast,xa (zaZ hy)]
 exact zje hQ
theorem ziw {cap:Nat} {x y:Nat} (hx:x<l.length) (hy:y<l.length) (hn:n=l.length) {Q:Mem→Prop} (hQ:Q (wi S c t j (sw l x y))):zaX (wi S c t j l) ⟨some (c,0),n,cap⟩ x y Q:=by
 apply zdX
 unfold kj
 rw[fi]
 refine⟨by omega,by omega,?_⟩
 rw[Int.toNat_natCast,Int.toNat_natCast,xa (zaZ hy)]
 refine⟨by omega,by omega,?_⟩
 rw[xa (zaZ hx)]
 refine⟨by omega,by omega,zfo _,zfI hx ?_⟩
 refine⟨by omega,by omega,zfo _,zfI (by simpa using hy) ?_⟩
 exact hQ
abbrev rw_ (b o:Nat):Value:=.iface 127 (.pointer (some ⟨b,o,none⟩))
theorem zbw (hr : Ro S b o c t s l.length) {x y : Nat} (hx : x < l.length) (hy : y < l.length) {R : Value → Mem → Prop} (hR : R (.bool (bf (gt l x) (gt l y))) (wi S c t j l)) : ci Tryz.prog (wi S c t j l) (rw_ b o) "Less" [.int .i64 x, .int .i64 y] R := by
 obtain⟨p,n,cap⟩:=s
 obtain⟨h1,h2,h3,h4⟩:=hr
 simp only at h2 h3
 subst h2;subst h3
 exact zpj (v:=eL ⟨some (c,0),l.length,cap⟩) (by rw[gp h4];exact h1) (Tr.mono (ziN hx hy rfl (Q:=fun r S'=>R (.bool r) S') hR) (by rintro v S' ⟨r,rfl,h⟩;exact h))
theorem zbv (hr : Ro S b o c t s l.length) {x y : Nat} (hx : x < l.length) (hy : y < l.length) {R : Value → Mem → Prop} (hR : R (.tuple #[]) (wi S c t j (sw l x y))) : ci Tryz.prog (wi S c t j l) (rw_ b o) "Swap" [.int .i64 x, .int .i64 y] R := by
 obtain⟨p,n,cap⟩:=s
 obtain⟨h1,h2,h3,h4⟩:=hr
 simp only at h2 h3
 subst h2;subst h3
 exact zpj (v:=eL ⟨some (c,0),l.length,cap⟩) (by rw[gp h4];exact h1) (Tr.mono (ziw hx hy rfl (Q:=fun S'=>R (.tuple #[]) S') hR) (by rintro v S' ⟨rfl,h⟩;exact h))
theorem zdB (hr : S.cell b o = some (eL s)) {R : Value → Mem → Prop} (hR : R (.int .i64 s.n) S) : ci Tryz.prog S (rw_ b o) "Len" [] R :=
 zpj hr (Tr.mono (zeH (S:=S) (r:=s) (Q:=fun r S'=>R (.int .i64 r) S') hR) (by rintro v S' ⟨r,rfl,h⟩;exact h))
theorem Ro.len (hr:Ro S b o c t s n) {m:Nat} (h:m=n):Ro S b o c t s m:=h ▸ hr
theorem fS (hr:Ro S b o c t s l.length) {lo n:Nat} (hn:n≤l.length) (hlo:lo<l.length) (hl:l.length<1000000) (h:HpF bf l n (lo+1)) {Q:Bool→Mem→Prop}
  (hQ:∀ r l',l'.Perm l→HpF bf l' n lo→(∀ k,n≤k→gt l' k=gt l k)→Q r (wi S c t j l')):fP (wi S c t j l) (rw_ b o) lo n Q:=by
 apply zeu
 unfold gZ
 simp only[jn]
 refine zC (fun (z:Int) S'=>∃ (i:Nat) (l':List Al),z=(i:Int)∧S'=wi S c t j l'∧l'.Perm l∧Dn bf l' n lo i∧i<l.length∧(∀ k,n≤k→gt l' k=gt l k)) (fun z=>(l.length-z).toNat) ?_
  ⟨lo,l,rfl,rfl,List.Perm.refl _,Dn.start h,hlo,fun _ _=>rfl⟩
 rintro X z S' ⟨i,l',rfl,rfl,hp,hd,hi,hk⟩ ih
 have hlen:=hp.length_eq
 have hr':Ro S b o c t s l'.length:=hr.len hlen
 rw[w64 (x:=2*(i:Int)) (by omega) (by omega),w64 (x:=2*(i:Int)+1) (by omega) (by omega),w64 (x:=2*(i:Int)+1+1) (by omega) (by omega)]
 by_cases h1:(n:Int)≤2*(i:Int)+1
 ·rw[if_pos h1]
  exact hQ _ l' hp (hd.leaf (by omega)) hk
 rw[if_neg h1,if_neg (by omega:¬2*(i:Int)+1<0)]
 have e1:2*(i:Int)+1=((2*i+1:Nat):Int):=by omega
 have e2:2*(i:Int)+1+1=((2*i+2:Nat):Int):=by omega
 rw[e2,e1]
 have rest:∀ jx:Nat,(jx=2*i+1∨jx=2*i+2)→jx<n→(∀ k,k=2*i+1∨k=2*i+2→k<n→bf (gt l' k) (gt l' jx)=false) →
   ci Tryz.prog (wi S c t j l') (rw_ b o) "Less" [.int .i64 (jx : Int), .int .i64 (i : Int)] (fun rv Sx_4 => ∃ t_1 : Bool, rv = .bool t_1 ∧ 
       if t_1=true then
        ci Tryz.prog Sx_4 (rw_ b o) "Swap" [.int .i64 (i : Int), .int .i64 (jx : Int)] fun rv Sx_5 => rv = .tuple #[] ∧ 
        X jx Sx_5
       else
       Q (decide ((lo:Int)<i)) Sx_4):=by
  intro jx hj hjn hm
  refine zbw hr' (by omega) (by omega) ⟨_,rfl,?_⟩
  by_cases hs:bf (gt l' jx) (gt l' i)=true
  ·rw[if_pos hs]
   refine zbv hr' (by omega) (by omega) ⟨rfl,?_⟩
   refine ih _ _ ⟨jx,_,rfl,rfl,(zcM (by omega) (by omega)).trans hp,hd.next bf_ord (by omega) hjn hj hm hs,by omega,fun k hkn=>?_⟩ (by omega)
   rw[zcr (by omega) (by omega),if_neg (by omega),if_neg (by omega)]
   exact hk k hkn
  ·rw[if_neg hs]
   exact hQ _ l' hp (hd.stop bf_ord hm (by simpa using hs)) hk
 by_cases h2:((2*i+2:Nat):Int)<n
 ·rw[if_pos h2]
  refine zbw hr' (by omega) (by omega) ⟨_,rfl,?_⟩
  by_cases hs:bf (gt l' (2*i+2)) (gt l' (2*i+1))=true
  ·rw[if_pos hs]
   refine rest _ (.inr rfl) (by omega) ?_
   rintro k (rfl | rfl) hkn
   ·exact bf_ord.asym _ _ hs
   ·exact zaW _
  ·rw[if_neg hs]
   refine rest _ (.inl rfl) (by omega) ?_
   rintro k (rfl | rfl) hkn
   ·exact zaW _
   ·simpa using hs
 ·rw[if_neg h2]
  refine rest _ (.inl rfl) (by omega) ?_
  rintro k (rfl | rfl) hkn
  ·exact zaW _
  ·omega
theorem zij (hr:Ro S b o c t s l.length) {x:Nat} (hx:x<l.length) (hl:l.length<1000000) (h:Up bf l x) {Q:Mem→Prop}
  (hQ:∀ l',l'.Perm l→Heap bf l'→Q (wi S c t j l')):zgO (wi S c t j l) (rw_ b o) x Q:=by
 apply zhi
 unfold zcv
 simp only[jn]
 refine zC (fun (z:Int) S'=>∃ (i:Nat) (l':List Al),z=(i:Int)∧S'=wi S c t j l'∧l'.Perm l∧Up bf l' i∧i<l.length) (fun z=>z.toNat) ?_ ⟨x,l,rfl,rfl,List.Perm.refl _,h,hx⟩
 rintro X z S' ⟨i,l',rfl,rfl,hp,hu,hi⟩ ih
 have hlen:=hp.length_eq
 have hr':Ro S b o c t s l'.length:=hr.len hlen
 rw[w64 (x:=(i:Int)-1) (by omega) (by omega)]
 by_cases h0:i=0
 ·subst h0
  rw[if_pos (by decide)]
  exact hQ l' hp hu.top
 have e:IntKind.i64.wrap (Int.tdiv ((i:Int)-1) 2)=(((i-1)/2:Nat):Int):=by
  rw[td (by omega),w64 (by omega) (by omega)];omega
 rw[e,if_neg (by omega)]
 refine zbw hr' (by omega) (by omega) ⟨_,rfl,?_⟩
 by_cases hs:bf (gt l' i) (gt l' ((i-1)/2))=true
 ·rw[if_pos hs]
  refine zbv hr' (by omega) (by omega) ⟨rfl,?_⟩
  exact ih _ _ ⟨_,_,rfl,rfl,(zcM (by omega) (by omega)).trans hp,hu.next bf_ord (by omega) (by omega) hs,by omega⟩ (by omega)
 ·rw[if_neg hs]
  exact hQ l' hp (hu.stop (by simpa using hs))
theorem init_spec (hr:Ro S b o c t s l.length) (hl:l.length<1000000) {Q:Mem→Prop} (hQ:∀ l',l'.Perm l→Heap bf l'→Q (wi S c t j l')):gh (wi S c t j l) (rw_ b o) Q:=by
 apply zbf
 unfold jg
 refine zdB (s:=s) (by rw[gp hr.ne];exact hr.cell) ⟨_,rfl,?_⟩
 rw[hr.n,td (by omega),w64 (x:=(l.length:Int)/2) (by omega) (by omega),w64 (by omega) (by omega)]
 refine zC (fun (z:Int) S'=>∃ (i:Nat) (l':List Al),z=(i:Int)-1∧S'=wi S c t j l'∧l'.Perm l∧HpF bf l' l.length i∧i≤l.length/2) (fun z=>(z+1).toNat) ?_ ⟨l.length/2,l,by omega,rfl,List.Perm.refl _,HpF.leafs,by omega⟩
 rintro X z S' ⟨i,l',rfl,rfl,hp,hh,hi⟩ ih
 have hlen:=hp.length_eq
 by_cases h0:0≤(i:Int)-1
 ·rw[if_pos h0]
  have e:(i:Int)-1=((i-1:Nat):Int):=by omega
  rw[e]
  refine fS (hr.len hlen) (by omega) (by omega) (by omega) (by rw[show i-1+1=i by omega];exact hh) fun r l2 hp2 hh2 _=>?_
  rw[w64 (by omega) (by omega)]
  exact ih _ _ ⟨i-1,l2,by omega,rfl,hp2.trans hp,hh2,by omega⟩ (by omega)
 ·rw[if_neg h0]
  have:i=0:=by omega
  subst this
  exact hQ l' hp (by unfold Heap;rw[hlen];exact hh)
end
open Go Go.Pt Go.Hp
open Go.Proofs.YthaiblbnpcgjpaaGreatDoor
theorem zgv {S:Mem} {b c:Nat} {k m:Blk} (h:b≠c):(S.set c m).set b k=(S.set b k).set c m:=by
 funext x;simp only[Mem.set]
 by_cases h1:x=b
 ·by_cases h2:x=c
  ·exact absurd (h1.symm.trans h2) h
  ·simp[h1,h]
 ·simp[h1]
def own (s:Sl):List Nat:=match s.p with
 | none=>[]
 | some (c,_)=>[c]
structure Ck (S:Mem) (b o:Nat) (tb:TypeId) (cs:List Value) (s:Sl) (l:List Al):Prop where
 blk:S b=some (bw tb cs)
 cell:nthL cs o=some (eL s)
 row:Row S 3 s (fl l)
 ne:∀ c∈own s,b≠c
 heap:Heap bf l
 len:l.length<100000
section
variable {S:Mem} {b o c:Nat} {tb t:TypeId} {cs j:List Value} {s:Sl} {l:List Al} {cap:Nat}
theorem zlw (h:S c=some (bw t (fl l++j))) (hc:l.length≤cap) (hj:j.length=(cap-l.length)*3):Row S 3 ⟨some (c,0),l.length,cap⟩ (fl l):=by
 have hl:=fl_length l
 refine⟨hl,hc,.inr ⟨c,_,rfl,h,rfl,?_,?_⟩⟩
 ·simp only[List.length_append,hl,hj];rw[←Nat.add_mul];congr 1;omega
 ·simp only;rw[List.take_left' hl]
theorem row_open (h:Row S 3 s (fl l)):(s=⟨none,0,0⟩∧l=[])∨∃ c cap t j,s=⟨some (c,0),l.length,cap⟩∧l.length≤cap∧S c=some (bw t (fl l++j))∧j.length=(cap-l.length)*3:=by
 obtain⟨p,n,cp⟩:=s
 have hl:=fl_length l
 have h1:=h.len
 have h2:=h.cap
 simp only at h1 h2
 have hn:n=l.length:=by omega
 subst hn
 rcases h.lie with ⟨h3,h4⟩ | ⟨c,k,h3,h4,h5,h6,h7⟩
 ·simp only at h3 h4
  subst h3;subst h4
  have:l=[]:=List.length_eq_zero_iff.1 (by omega)
  subst this
  exact .inl ⟨rfl,rfl⟩
 ·simp only at h3 h6 h7
  subst h3
  obtain⟨kt,kc,kf⟩:=k
  simp only at h5 h6 h7
  subst h5
  refine .inr ⟨c,cp,kt,kc.drop (l.length*3),rfl,h2,?_,by rw[List.length_drop,h6,Nat.sub_mul]⟩
  rw[←h7,List.take_append_drop];exact h4
theorem Ck.rd (h:Ck S b o tb cs s l):S.cell b o=some (eL s):=by rw[qj h.blk];exact h.cell
theorem own_row {x:Nat} (h:Row S 3 s (fl l)) (hx:x∈own s):∃ k,S x=some k:=by
 rcases row_open h with ⟨rfl,rfl⟩ | ⟨c,cap,t,j,rfl,_,h2,_⟩
 ·simp[own] at hx
 ·simp only[own,List.mem_singleton] at hx;subst hx;exact⟨_,h2⟩
theorem zjv {S':Mem} {W:List Nat} (h:Row S 3 s (fl l)) (hk:Keeps S S' W) (hw:∀ x∈own s,x∉W):Row S' 3 s (fl l):=by
 refine h.keep fun c hc=>hk c ?_ (hw c (by simp[own,hc]))
 obtain⟨k,hk⟩:=own_row h (show c∈own s by simp[own,hc])
 simp[hk]
theorem Ck.keep {S':Mem} {W:List Nat} (h:Ck S b o tb cs s l) (hk:Keeps S S' W) (hb:b∉W) (hw:∀ x∈own s,x∉W):Ck S' b o tb cs s l:=
 ⟨hk.get h.blk hb,h.cell,zjv h.row hk hw,h.ne,h.heap,h.len⟩
def Tells (S:Mem) (W:List Nat) (fv:Value) (p:Al→Bool):Prop:=∀ S' a (R:Value→Mem→Prop),Keeps S S' W→R (.bool (p a)) S'→cv Tryz.prog S' fv [valL (ce a)] R
variable {fv:Value} {p:Al→Bool}
theorem zjk {l':List Al} {j':List Value}:Keeps S (wi S c t j' l') [c]:=fun x _ hw=>zO (by simpa using hw)
theorem zkz (hf:Tells S [c] fv p) (hl:l.length<100000) {Q:Int→Mem→Prop} (h1:∀ i,i<l.length→(∀ k,k<i→p (gt l k)=false)→p (gt l i)=true→Q i (wi S c t j l)) (h2:(∀ k,k<l.length→p (gt l k)=false)→Q (-1) (wi S c t j l)) :
  zU (wi S c t j l) ⟨some (c,0),l.length,cap⟩ fv Q:=by
 apply qB
 unfold zN
 simp only[jn]
 refine zC (fun (z:Int) S'=>∃ (i:Nat),z=(i:Int)∧S'=wi S c t j l∧i≤l.length∧∀ k,k<i→p (gt l k)=false) (fun z=>(l.length-z).toNat) ?_ ⟨0,rfl,rfl,by omega,fun k hk=>by omega⟩
 rintro X z S' ⟨i,rfl,rfl,hi,hk⟩ ih
 by_cases h:(i:Int)<(l.length:Int)
 ·rw[if_pos h,fi]
  refine⟨by omega,h,?_⟩
  rw[Int.toNat_natCast,xa (zaZ (by omega))]
  refine hf _ _ _ zjk ⟨_,rfl,?_⟩
  by_cases hp:p (gt l i)=true
  ·rw[if_pos hp];exact h1 i (by omega) hk hp
  ·rw[if_neg hp,w64 (by omega) (by omega)]
   refine ih _ _ ⟨i+1,by omega,rfl,by omega,fun k hk2=>?_⟩ (by omega)
   by_cases e:k=i
   ·subst e;simpa using hp
   ·exact hk k (by omega)
 ·rw[if_neg h]
  exact h2 fun k hk2=>hk k (by omega)
theorem zge {l:List Al} {q:Al→Bool} (h:∀ k,k<l.length→q (gt l k)=true):l.filter q=l:=by
 rw[List.filter_eq_self]
 intro a ha
 obtain⟨k,hk,rfl⟩:=List.getElem_of_mem ha
 have:=h k hk
 rwa [zea hk] at this
theorem fj {l:List Al} {q:Al→Bool} {k:Nat} (h:k<l.length):(l.take (k+1)).filter q=(l.take k).filter q++(if q (gt l k)=true then [gt l k] else []):=by
 rw[List.take_succ_eq_append_getElem h,List.filter_append,zea h]
 congr 1
 by_cases hq:q l[k]=true <;> simp[hq]
theorem zaO (m:Nat):(zrep m [.int .u64 0,.int .i64 0,.int .i64 0]).length=m*3:=by rw[kK];rfl
theorem ziX (hf:Tells S [c] fv p) (hl:l.length<100000) (hc:l.length≤cap) (hj:j.length=(cap-l.length)*3) {Q:Sl→Mem→Prop}
  (hQ:∀ l' j',l'=l.filter (fun a=>! p a)→l'.length≤cap→j'.length=(cap-l'.length)*3→Q ⟨some (c,0),l'.length,cap⟩ (wi S c t j' l')) :
  zQ (wi S c t j l) ⟨some (c,0),l.length,cap⟩ fv Q:=by
 apply qy
 unfold zM
 refine zkz hf hl (fun i0 hi0 hlow hpi=>?_) fun hno=>?_
 ·simp only[jn]
  rw[if_neg (by omega),w64 (by omega) (by omega)]
  refine zC (fun (z:Int×Int) S'=>∃ (i k:Nat) (l':List Al),z.1=(i:Int)∧z.2=(k:Int)∧S'=wi S c t j l'∧i<k∧k≤l.length∧l'.length=l.length∧l'.take i=(l.take k).filter (fun a=>! p a)∧l'.drop k=l.drop k) (fun z=>(l.length-z.2).toNat) ?_
   ⟨i0,i0+1,l,rfl,by simp,rfl,by omega,by omega,rfl,?_,rfl⟩
  ·rintro X ⟨z1,z2⟩ S' ⟨i,k,l',e1,e2,rfl,hik,hk,hlen,ht,hd⟩ ih
   dsimp only at e1 e2 ih ⊢
   subst e1;subst e2
   by_cases hkn:(k:Int)<(l.length:Int)
   ·rw[if_pos hkn,fi]
    refine⟨by omega,hkn,?_⟩
    rw[Int.toNat_natCast,xa (zaZ (by omega))]
    have hgk:gt l' k=gt l k:=by
     have h1:l'[k]? = l[k]?:=by
      have:=congrArg (fun x=>x[0]?) hd
      simpa using this
     simp[gt,List.getD_eq_getElem?_getD,h1]
    refine⟨zfo _,hf _ _ _ zjk ⟨_,rfl,?_⟩⟩
    have hdr:l'.drop (k+1)=l.drop (k+1):=by rw[←List.drop_drop,←List.drop_drop,hd]
    by_cases hp:p (gt l' k)=true
    ·rw[if_pos hp,w64 (by omega) (by omega)]
     refine ih _ _ ⟨i,k+1,l',rfl,by simp,rfl,by omega,by omega,hlen,?_,hdr⟩ (by simp only;omega)
     rw[fj (by omega),←hgk,hp,ht];simp
    ·rw[if_neg hp]
     refine⟨by omega,by omega,zfo _,?_⟩
     rw[Int.toNat_natCast]
     refine zfI (by omega) ?_
     rw[w64 (by omega) (by omega),w64 (by omega) (by omega)]
     refine ih _ _ ⟨i+1,k+1,l'.set i (gt l' k),by simp,by simp,rfl,by omega,by omega,by simpa using hlen,?_,?_⟩ (by simp only;omega)
     ·rw[fj (by omega),←hgk,←ht]
      simp only[Bool.not_eq_true] at hp
      rw[hp,List.take_succ_eq_append_getElem (by simp;omega),List.take_set_of_le (by omega)]
      simp
     ·rw[List.drop_set_of_lt (by omega)];exact hdr
   ·rw[if_neg hkn]
    have hkl:k=l.length:=by omega
    subst hkl
    have htl:(l.take l.length).filter (fun a=>! p a)=l.filter (fun a=>! p a):=by rw[List.take_length]
    rw[htl] at ht
    have hil:(l'.take i).length=i:=by rw[List.length_take];omega
    refine⟨by omega,by omega,by omega,?_⟩
    unfold lt clr
    refine .inr ⟨c,0+i*3,?_,?_,?_⟩
    ·simp only[slc,Int.toNat_natCast]
     rw[if_neg (by omega)]
     rfl
    ·refine⟨_,wi_c,rfl,?_⟩
     have:=fl_length l'
     simp only[slc,List.length_append];omega
    ·refine⟨by omega,by omega,?_⟩
     have e0:slc 3 ⟨some (c,0),l.length,cap⟩ 0 (i:Int)=⟨some (c,0),i,cap⟩:=by
      simp only[slc]
      by_cases hcap:cap=0
      ·omega
      ·rw[if_neg (by simpa using hcap)];simp
     have e1:(wi S c t j l').put c (0+i*3) (zrep (slc 3 ⟨some (c,0),l.length,cap⟩ (i:Int) (l.length:Int)).n [.int .u64 0,.int .i64 0,.int .i64 0])=wi S c t (zrep (l.length-i) [.int .u64 0,.int .i64 0,.int .i64 0]++j) (l'.take i):=by
      have hz:(slc 3 ⟨some (c,0),l.length,cap⟩ (i:Int) (l.length:Int)).n=l.length-i:=by simp only[slc];omega
      have hfl:=fl_length l'
      rw[hz,kN wi_c,Nat.zero_add,xi _ _ _ (by simp only[List.length_append];omega),zaO]
      unfold wi
      rw[zix]
      congr 2
      have hs:fl l'=fl (l'.take i)++fl (l'.drop i):=by rw[←yU,List.take_append_drop]
      have h3:(fl (l'.take i)).length=i*3:=by rw[fl_length,hil]
      have h4:(fl (l'.drop i)).length=(l.length-i)*3:=by rw[fl_length,List.length_drop,hlen]
      have h5:(fl l'++j).take (i*3)=fl (l'.take i):=by rw[hs,List.append_assoc,List.take_left' h3]
      have h6:(fl l'++j).drop (i*3+(l.length-i)*3)=j:=by
       rw[hs,←List.drop_drop,List.append_assoc,List.drop_left' h3,List.drop_left' h4]
      simp only
      rw[h5,h6,List.append_assoc]
     rw[e0,e1]
     have:=hQ (l'.take i) (zrep (l.length-i) [.int .u64 0,.int .i64 0,.int .i64 0]++j) ht (by omega) (by rw[List.length_append,zaO,hj,hil,←Nat.add_mul];congr 1;omega)
     rwa [hil] at this
  ·rw[List.take_succ_eq_append_getElem hi0,List.filter_append]
   rw[zea hi0] at hpi
   simp only[List.filter_cons,hpi,List.filter_nil]
   have:(l.take i0).filter (fun a=>! p a)=l.take i0:=by
    refine zge fun k hk=>?_
    rw[List.length_take] at hk
    have e:gt (l.take i0) k=gt l k:=by simp[gt,List.getD_eq_getElem?_getD,(by omega:k<i0)]
    rw[e,hlow k (by omega)];rfl
   rw[this];simp
 ·simp only[jn]
  rw[if_pos trivial]
  have e:l.filter (fun a=>! p a)=l:=zge fun k hk=>by rw[hno k hk];rfl
  exact hQ l j e.symm hc hj
end
open Go Go.Pt Go.Hp
open Go.Proofs.YthaiblbnpcgjpaaGreatDoor
theorem zeI:∀ {cs:List Value} {o:Nat} {v:Value},nthL cs o=some v→spl cs o [v]=cs
 | [],_,_,h=>by simp[nthL] at h
 | x :: cs,0,v,h=>by simp only[nthL,Option.some.injEq] at h;subst h;simp[spl]
 | x :: cs,n+1,v,h=>by simp only[nthL] at h;simp only[spl,zeI h]
theorem zgt:∀ {cs:List Value} {o:Nat} {v w:Value},o<cs.length→spl (spl cs o [v]) o [w]=spl cs o [w]
 | [],_,_,_,h=>by simp at h
 | x :: cs,0,v,w,h=>by simp[spl]
 | x :: cs,n+1,v,w,h=>by simp only[spl];rw[zgt (by simpa using h)]
theorem zmd {S:Mem} (fv:Value) {Q:Int→Mem→Prop} (hQ:Q (-1) S):zU S ⟨none,0,0⟩ fv Q:=by
 apply qB
 unfold zN
 simp only[jn]
 refine zC (fun (z:Int) S'=>z=0∧S'=S) (fun _=>0) ?_ ⟨rfl,rfl⟩
 rintro X z S' ⟨rfl,rfl⟩ ih
 rw[if_neg (by simp)]
 exact hQ
theorem zkH {S:Mem} (fv:Value) {Q:Sl→Mem→Prop} (hQ:Q ⟨none,0,0⟩ S):zQ S ⟨none,0,0⟩ fv Q:=by
 apply qy
 unfold zM
 refine zmd fv ?_
 simp only[jn]
 rw[if_pos trivial]
 exact hQ
theorem znt {S:Mem} {b o:Nat} (hc:S.cell b o=some (.slice none 0 0)) {Q:Mem→Prop} (hQ:Q S):gh S (rw_ b o) Q:=by
 apply zbf
 unfold jg
 refine zdB (s:=⟨none,0,0⟩) hc ⟨0,rfl,?_⟩
 refine zC (fun (z:Int) S'=>z = -1∧S'=S) (fun _=>0) ?_ ⟨rfl,rfl⟩
 rintro X z S' ⟨rfl,rfl⟩ ih
 rw[if_neg (by decide)]
 exact hQ
section
variable {S:Mem} {b o c:Nat} {tb t:TypeId} {cs j:List Value} {s:Sl} {l:List Al} {cap:Nat} {fv:Value} {p:Al→Bool}
theorem yo {v w:Value} (h:nthL cs o=some w):nthL (spl cs o [v]) o=some v:=by
 have:=xJ h
 rw[zI,jL (by simp;omega),if_pos (by simp)];simp
theorem wi_of (h:S c=some (bw t (fl l++j))):wi S c t j l=S:=zef h
theorem zjj {k:Blk} (h:b≠c):(wi S c t j l).set b k=wi (S.set b k) c t j l:=zgv h
structure Left' (S S':Mem) (b o:Nat) (tb:TypeId) (cs:List Value) (s s':Sl) (l':List Al):Prop where
 ck:Ck S' b o tb (spl cs o [eL s']) s' l'
 keep:Keeps S S' (b :: own s)
 fresh:∀ x∈own s',x∈own s∨S x=none
 al:Grows S S'
theorem ck_mk {S':Mem} {l':List Al} (hb:S' b=some (bw tb cs)) (hcell:nthL cs o=some (eL ⟨some (c,0),l'.length,cap⟩)) (hc:S' c=some (bw t (fl l'++j))) (hle:l'.length≤cap) (hj:j.length=(cap-l'.length)*3) (hne:b≠c) (hh:Heap bf l') (hl:l'.length<100000) :
  Ck S' b o tb cs ⟨some (c,0),l'.length,cap⟩ l':=⟨hb,hcell,zlw hc hle hj,fun x hx=>by simp only[own,List.mem_singleton] at hx;subst hx;exact hne,hh,hl⟩
theorem zhS (h:Ck S b o tb cs s l) (hf:Tells S (b :: own s) fv p) {Q:Mem→Prop} (hQ:∀ S' s' l',l'.Perm (l.filter fun a=>! p a)→Left' S S' b o tb cs s s' l'→Q S'):xI S (some (b,o)) fv Q:=by
 apply zcd
 unfold wJ
 rw[if_pos (by simp),zL,wj h.rd]
 rcases row_open h.row with ⟨rfl,rfl⟩ | ⟨c,cap,t,j,rfl,hle,hc,hj⟩
 ·refine zkH fv ?_
  have hlt:=xJ h.cell
  refine zkT h.blk (by omega) ?_
  have e:spl cs o [eL ⟨none,0,0⟩]=cs:=zeI h.cell
  rw[e,zef h.blk]
  refine znt h.rd (hQ S ⟨none,0,0⟩ [] (List.Perm.refl _) ⟨by rw[e];exact h,Keeps.refl,fun x hx=>.inl hx,Grows.refl⟩)
 ·have hne:b≠c:=h.ne c (by simp[own])
  have hlen:=h.len
  have hlt:=xJ h.cell
  rw[←wi_of hc]
  refine ziX (fun S' a R hk hR=>hf S' a R (hk.wider (by simp[own])) hR) hlen hle hj fun l' j' hl' hle' hj'=>?_
  have hfl:l'.length≤l.length:=by rw[hl'];exact List.length_filter_le _ _
  refine zkT (t:=tb) (cs:=cs) (by unfold wi;rw[zO hne];exact h.blk) (by omega) ?_
  rw[zjj hne]
  have hb':(S.set b (bw tb (spl cs o [eL ⟨some (c,0),l'.length,cap⟩]))) b=some (bw tb (spl cs o [eL ⟨some (c,0),l'.length,cap⟩])):=zz
  refine init_spec (s:=⟨some (c,0),l'.length,cap⟩) ⟨by rw[qj hb'];exact yo h.cell,rfl,rfl,hne⟩ (by omega) fun l2 hp hh=>?_
  have hlen2:=hp.length_eq
  have hx:(⟨some (c,0),l'.length,cap⟩:Sl)=⟨some (c,0),l2.length,cap⟩:=by rw[hlen2]
  rw[hx]
  refine hQ _ ⟨some (c,0),l2.length,cap⟩ l2 (hl' ▸ hp) ⟨ck_mk (by unfold wi;rw[zO hne];exact zz) (yo h.cell) wi_c (by omega) (by rw[hlen2];exact hj') hne hh (by omega),?_,fun x hx=>.inl hx,Grows.refl.set.set⟩
  intro x hx hw
  simp only[own,List.mem_cons,List.not_mem_nil,or_false,not_or] at hw
  unfold wi
  rw[zO hw.2,zO hw.1]
theorem Left'.of {S1 S':Mem} {s':Sl} {l':List Al} (h:Left' S1 S' b o tb cs s s' l') (hk:Keeps S S1 []):Left' S S' b o tb cs s s' l':=
 ⟨h.ck,(hk.wider (by simp)).trans h.keep,fun x hx=>(h.fresh x hx).imp id fun e=>(by
  cases hs:S x with
  | none=>rfl
  | some k=>have:=hk.get hs (by simp);rw[e] at this;cases this),(Grows.keeps hk).trans h.al⟩
theorem not_own {x:Nat} (h:Ck S b o tb cs s l) (hx:S x=none):x∉b :: own s:=by
 intro hm
 rcases List.mem_cons.1 hm with rfl | hm
 ·rw[h.blk] at hx;cases hx
 ·obtain⟨k,hk⟩:=own_row h.row hm;rw[hk] at hx;cases hx
theorem dropVM_spec (h:Ck S b o tb cs s l) {vm:Int} {Q:Mem→Prop} (hQ:∀ S' s' l',l'.Perm (l.filter fun a=>! decide (a.vm=vm))→Left' S S' b o tb cs s s' l'→Q S'):yQ S (some (b,o)) vm Q:=by
 apply zaL
 unfold xy
 intro b1 hb1
 have hk1:Keeps S (S.set b1 (bw 3 [.int .i64 vm])) []:=Keeps.refl.new hb1
 have h1:=h.keep hk1 (by simp) (by simp)
 refine zhS h1 (p:=fun a=>decide (a.vm=vm)) ?_ fun S' s' l' hp hL=>hQ S' s' l' hp (hL.of hk1)
 intro S' a R hk hR
 have g1:S' b1=some (bw 3 [.int .i64 vm]):=hk.get zz (not_own h hb1)
 refine⟨_,[],[_],rfl,inferInstance,Tr.mono (gC (S:=S') (a:=ce a) (t:=some (b1,0)) (Q:=fun r S2=>R (.bool r) S2) ?_) (by rintro v S2 ⟨r,rfl,h⟩;exact h)⟩
 unfold yx
 refine⟨rfl,?_⟩
 rw[zx (show nthL (ce a) 1=some (.int .i64 a.vm) from rfl),zL,zx (by rw[qj g1];rfl)]
 exact hR
theorem zkG (h:Ck S b o tb cs s l) {vm seat:Int} {Q:Mem→Prop} (hQ:∀ S' s' l',l'.Perm (l.filter fun a=>! (decide (a.vm=vm) && decide (a.seat=seat)))→Left' S S' b o tb cs s s' l'→Q S'):ko S (some (b,o)) vm seat Q:=by
 apply zce
 unfold wK
 intro b1 hb1 b2 hb2
 have hk1:Keeps S (S.set b1 (bw 3 [.int .i64 vm])) []:=Keeps.refl.new hb1
 have hk2:Keeps (S.set b1 (bw 3 [.int .i64 vm])) ((S.set b1 (bw 3 [.int .i64 vm])).set b2 (bw 3 [.int .i64 seat])) []:=Keeps.refl.new hb2
 have h1:=h.keep hk1 (by simp) (by simp)
 have h2:=h1.keep hk2 (by simp) (by simp)
 have n12:b1≠b2:=fun e=>by subst e;simp at hb2
 refine zhS h2 (p:=fun a=>decide (a.vm=vm) && decide (a.seat=seat)) ?_ fun S' s' l' hp hL=>hQ S' s' l' hp (hL.of (hk1.trans hk2))
 intro S' a R hk hR
 have g1:S' b1=some (bw 3 [.int .i64 vm]):=hk.get (by rw[zO n12];exact zz) (not_own h hb1)
 have g2:S' b2=some (bw 3 [.int .i64 seat]):=hk.get zz (not_own h1 hb2)
 refine⟨_,[],[_,_],rfl,inferInstance,Tr.mono (fH (S:=S') (a:=ce a) (t:=some (b1,0)) (t_1:=some (b2,0)) (Q:=fun r S2=>R (.bool r) S2) ?_) (by rintro v S2 ⟨r,rfl,h⟩;exact h)⟩
 unfold yZ
 refine⟨rfl,?_⟩
 rw[zx (show nthL (ce a) 1=some (.int .i64 a.vm) from rfl),zL,zx (by rw[qj g1];rfl)]
 by_cases e:a.vm=vm
 ·rw[if_pos e,zx (show nthL (ce a) 2=some (.int .i64 a.seat) from rfl),zL,zx (by rw[qj g2];rfl)]
  simpa [e] using hR
 ·rw[if_neg e]
  simpa [e] using hR
theorem push_spec (h:Ck S b o tb cs s l) (hl:l.length+1<100000) {a:Al} {Q:Mem→Prop} (hQ:∀ S' s' l',l'.Perm (a :: l)→Left' S S' b o tb cs s s' l'→Q S') :
  fQ S (rw_ b o) (.iface 119 (valL (ce a))) Q:=by
 apply zev
 unfold fa
 have hlt:=xJ h.cell
 have hlim:(2*(s.n+1)+1024)*24≤281474976710656:=by
  have h1:=h.row.len
  rw[fl_length] at h1
  omega
 refine zqT (t:=127) (Tr.mono (zdY (S:=S) (r:=some (b,o)) (x:=.iface 119 (valL (ce a))) (Q:=fun S1=>∃ s1,Row S1 3 s1 (fl (l++[a]))∧Keeps S S1 (b :: own s)∧S1 b=some (bw tb (spl cs o [eL s1]))∧(∀ x∈own s1,b≠x)∧(∀ x∈own s1,x∈own s∨S x=none)∧Grows S S1) ?_) ?_)
 ·unfold km
  rw[zL,wj h.rd]
  refine⟨ce a,rfl,rfl,zfo _,?_⟩
  refine wS h.row (by simp[yk]) (by decide) rfl hlim fun s1 S1 c1 k hn hp1 hor hS1 hrow=>?_
  have hbc:b≠c1:=by
   rcases hor with e | e
   ·exact h.ne c1 (by simp[own,e])
   ·intro e2;subst e2;rw[h.blk] at e;cases e
  have hb1:S1 b=some (bw tb cs):=by rw[hS1,zO hbc];exact h.blk
  refine zkT hb1 (by omega) ?_
  have hown:own s1=[c1]:=by simp[own,hp1]
  refine⟨s1,?_,?_,zz,?_,?_,by rw[hS1];exact Grows.refl.set.set⟩
  ·rw[yU]
   refine hrow.keep fun x hx=>?_
   have:x=c1:=by rw[hp1] at hx;cases hx;rfl
   subst this
   rw[zO (fun e=>hbc e.symm)]
  ·intro x hx hw
   rw[zO (fun e=>hw (by simp[e])),hS1]
   rcases hor with e | e
   ·exact zO (fun e2=>hw (by simp[own,e,e2]))
   ·exact zO (fun e2=>hx (by rw[e2];exact e))
  ·rw[hown];intro x hx;rw[List.mem_singleton] at hx;subst hx;exact hbc
  ·rw[hown];intro x hx;rw[List.mem_singleton] at hx;subst hx
   exact hor.imp (fun e=>by simp[own,e]) id
 ·rintro v S1 ⟨rfl,s1,hrow,hk,hb1,hne,hfr,hgr⟩
  refine⟨rfl,?_⟩
  rcases row_open hrow with ⟨rfl,h0⟩ | ⟨c,cap,t,j,rfl,hle,hc,hj⟩
  ·simp at h0
  ·have hcell1:S1.cell b o=some (eL ⟨some (c,0),(l++[a]).length,cap⟩):=by rw[qj hb1];exact yo h.cell
   have hbc:=hne c (by simp[own])
   refine zdB hcell1 ⟨_,rfl,?_⟩
   simp only[List.length_append,List.length_singleton]
   rw[w64 (by omega) (by omega),show ((l.length+1:Nat):Int)-1=(l.length:Int) by omega]
   rw[←wi_of hc]
   refine zij (s:=⟨some (c,0),(l++[a]).length,cap⟩) ⟨hcell1,rfl,rfl,hbc⟩ (by simp) (by simp;omega) (Up.start h.heap) fun l' hp hh=>?_
   have hlen:=hp.length_eq
   have hx:(⟨some (c,0),(l++[a]).length,cap⟩:Sl)=⟨some (c,0),l'.length,cap⟩:=by rw[hlen]
   rw[hx] at hb1
   refine hQ _ ⟨some (c,0),l'.length,cap⟩ l' (hp.trans (List.perm_append_comm (l₁:=l) (l₂:=[a]))) ⟨ck_mk (by unfold wi;rw[zO hbc];exact hb1) (yo h.cell) wi_c (by omega) (by rw[hlen];exact hj) hbc hh (by rw[hlen];simp;omega),?_,?_,hgr.set⟩
   ·intro x hx2 hw
    by_cases e:x=c
    ·subst e
     rcases hfr x (by simp[own]) with h3 | h3
     ·exact absurd (List.mem_cons_of_mem _ h3) hw
     ·exact absurd h3 hx2
    ·unfold wi;rw[zO e];exact hk x hx2 hw
   ·intro x hx2;exact hfr x hx2
theorem set_spec (h:Ck S b o tb cs s l) (hl:l.length+1<100000) {vm seat tm:Int} (h1:0≤vm) (h2:vm<6) (h3:0≤seat) (h4:seat<3) {Q:Int→Mem→Prop}
  (hQ:∀ S' s' l',l'.Perm (⟨tm,vm,seat⟩ :: l.filter fun a=>! (decide (a.vm=vm) && decide (a.seat=seat)))→Left' S S' b o tb cs s s' l'→Q 0 S'):wL S (some (b,o)) vm seat tm Q:=by
 apply zcK
 unfold vv
 simp only[jn]
 rw[if_neg (by simp),if_neg (by omega),if_neg (by omega),if_neg (by omega),if_neg (by omega)]
 refine zkG h fun S1 s1 l1 hp1 hL1=>?_
 rw[zL]
 have hlen1:l1.length≤l.length:=by rw[hp1.length_eq];exact List.length_filter_le _ _
 refine push_spec (a:=⟨tm,vm,seat⟩) hL1.ck (by omega) fun S2 s2 l2 hp2 hL2=>hQ S2 s2 l2 (hp2.trans (hp1.cons _)) ?_
 have hlt:=xJ h.cell
 have e:spl (spl cs o [eL s1]) o [eL s2]=spl cs o [eL s2]:=zgt hlt
 refine⟨e ▸ hL2.ck,?_,?_,hL1.al.trans hL2.al⟩
 ·intro x hx hw
  have k1:=hL1.keep x hx hw
  have:x∉b :: own s1:=by
   intro hm
   rcases List.mem_cons.1 hm with rfl | hm
   ·exact hw (by simp)
   ·rcases hL1.fresh x hm with h5 | h5
    ·exact hw (by simp[h5])
    ·exact hx h5
  rw[hL2.keep x (by rw[k1];exact hx) this,k1]
 ·intro x hx
  rcases hL2.fresh x hx with h5 | h5
  ·exact hL1.fresh x h5
  ·by_cases hm:x∈b :: own s
   ·rcases List.mem_cons.1 hm with rfl | hm
    ·rw[hL1.ck.blk] at h5;cases h5
    ·exact .inl hm
   ·right
    cases hs:S x with
    | none=>rfl
    | some k=>have:=hL1.keep.get hs hm;rw[h5] at this;cases this
end
open Go Go.Pt Go.Hp
open Go.Proofs.YthaiblbnpcgjpaaGreatDoor
section
variable {S:Mem} {b o c:Nat} {tb t:TypeId} {cs j:List Value} {s:Sl} {l:List Al} {cap:Nat}
theorem ziP {l:List Al} {n:Nat} (h:l.length=n+1):l=l.take n++[gt l n]:=by
 rw[zea (by omega),←List.take_succ_eq_append_getElem (by omega),←h,List.take_length]
theorem pop_spec (h:Ck S b o tb cs s l) (h0:l≠[]) {Q:Value→Mem→Prop}
  (hQ:∀ S' s' m l',l.Perm (m :: l')→(∀ x∈l',bf x m=false)→m=gt l 0→own s'=own s→Left' S S' b o tb cs s s' l'→Q (.iface 119 (valL (ce m))) S'):zcp S (rw_ b o) Q:=by
 apply zfL
 unfold zaz
 have hlt:=xJ h.cell
 have hlen:=h.len
 have hpos:=List.length_pos_iff.2 h0
 rcases row_open h.row with ⟨rfl,rfl⟩ | ⟨c,cap,t,j,rfl,hle,hc,hj⟩
 ·exact absurd rfl h0
 ·have hne:b≠c:=h.ne c (by simp[own])
  refine zdB h.rd ⟨_,rfl,?_⟩
  simp only
  rw[w64 (by omega) (by omega),show (l.length:Int)-1=((l.length-1:Nat):Int) by omega]
  have hr:Ro S b o c t ⟨some (c,0),l.length,cap⟩ l.length:=⟨h.rd,rfl,rfl,hne⟩
  rw[←wi_of hc]
  have e0:(0:Int)=((0:Nat):Int):=rfl
  rw[e0]
  refine zbv hr (by omega) (by omega) ⟨rfl,?_⟩
  have hsl:(sw l 0 (l.length-1)).length=l.length:=zcf _ _ _
  refine fS (hr.len hsl) (by omega) (by omega) (by omega) (h.heap.pop (by omega)) fun r l2 hp2 hh2 hk2=>?_
  have hl2:l2.length=l.length:=by rw[hp2.length_eq,hsl]
  have hlast:gt l2 (l.length-1)=gt l 0:=by
   rw[hk2 _ (Nat.le_refl _),zcr (by omega) (by omega),if_pos rfl]
  have hsplit:l2=l2.take (l.length-1)++[gt l2 (l.length-1)]:=ziP (by omega)
  have hpl:l.Perm (gt l 0 :: l2.take (l.length-1)):=by
   have h1:l2.Perm l:=hp2.trans (zcM (by omega) (by omega))
   rw[hlast] at hsplit
   have h2:l2.Perm (gt l 0 :: l2.take (l.length-1)):=by
    conv=>lhs;rw[hsplit]
    exact List.perm_append_comm (l₂:=[gt l 0])
   exact h1.symm.trans h2
  have hcell2:(wi S c t j l2).cell b o=some (eL ⟨some (c,0),l.length,cap⟩):=by rw[gp hne];exact h.rd
  refine zqT (t:=127) (Tr.mono (zeG (S:=wi S c t j l2) (r:=some (b,o)) (Q:=fun v S1=>Q v S1) ?_) (by rintro v S1 ⟨r,rfl,h⟩;exact⟨_,rfl,h⟩))
  unfold ju
  rw[zL,wj hcell2,fi]
  simp only
  rw[w64 (by omega) (by omega),show (l.length:Int)-1=((l.length-1:Nat):Int) by omega]
  refine⟨by omega,by omega,?_⟩
  rw[Int.toNat_natCast,xa (zaZ (by omega)),hlast]
  refine⟨zfo _,by omega,by omega,?_⟩
  unfold lt
  have e1:slc 3 ⟨some (c,0),l.length,cap⟩ 0 ((l.length-1:Nat):Int)=⟨some (c,0),l.length-1,cap⟩:=by
   simp only[slc]
   rw[if_neg (by simp;omega)];simp
  rw[e1]
  refine zkT (t:=tb) (cs:=cs) (by unfold wi;rw[zO hne];exact h.blk) (by omega) ?_
  have htl:(l2.take (l.length-1)).length=l.length-1:=by rw[List.length_take];omega
  have e2:wi S c t j l2=wi S c t (ce (gt l 0)++j) (l2.take (l.length-1)):=by
   unfold wi
   congr 2
   rw[hlast] at hsplit
   conv=>lhs;rw[hsplit,yU]
   simp[fl]
  rw[e2,zjj hne]
  have e3:(⟨some (c,0),l.length-1,cap⟩:Sl)=⟨some (c,0),(l2.take (l.length-1)).length,cap⟩:=by rw[htl]
  rw[e3]
  refine hQ _ ⟨some (c,0),(l2.take (l.length-1)).length,cap⟩ (gt l 0) (l2.take (l.length-1)) hpl ?_ rfl rfl ⟨ck_mk (by unfold wi;rw[zO hne];exact zz) (yo h.cell) wi_c (by omega) ?_ hne (hh2.take (by omega)) (by omega),?_,fun x hx=>.inl hx,Grows.refl.set.set⟩
  ·intro x hx
   have:x∈l:=hpl.symm.subset (List.mem_cons_of_mem _ hx)
   obtain⟨k,hk,rfl⟩:=List.getElem_of_mem this
   rw[←zea hk]
   exact h.heap.least bf_ord zaW k hk
  ·rw[List.length_append,yk,hj,htl,show cap-(l.length-1)=(cap-l.length)+1 by omega,Nat.add_mul];omega
  ·intro x hx hw
   simp only[own,List.mem_cons,List.not_mem_nil,or_false,not_or] at hw
   unfold wi
   rw[zO hw.2,zO hw.1]
theorem Left'.trans {S1 S2:Mem} {s1 s2:Sl} {l1 l2:List Al} (hlt:o<cs.length) (h1:Left' S S1 b o tb cs s s1 l1) (h2:Left' S1 S2 b o tb (spl cs o [eL s1]) s1 s2 l2):Left' S S2 b o tb cs s s2 l2:=by
 have e:spl (spl cs o [eL s1]) o [eL s2]=spl cs o [eL s2]:=zgt hlt
 refine⟨e ▸ h2.ck,?_,?_,h1.al.trans h2.al⟩
 ·intro x hx hw
  have k1:=h1.keep x hx hw
  have:x∉b :: own s1:=by
   intro hm
   rcases List.mem_cons.1 hm with rfl | hm
   ·exact hw (by simp)
   ·rcases h1.fresh x hm with h5 | h5
    ·exact hw (by simp[h5])
    ·exact hx h5
  rw[h2.keep x (by rw[k1];exact hx) this,k1]
 ·intro x hx
  rcases h2.fresh x hx with h5 | h5
  ·exact h1.fresh x h5
  ·by_cases hm:x∈b :: own s
   ·rcases List.mem_cons.1 hm with rfl | hm
    ·rw[h1.ck.blk] at h5;cases h5
    ·exact .inl hm
   ·right
    cases hs:S x with
    | none=>rfl
    | some k=>have:=h1.keep.get hs hm;rw[h5] at this;cases this
theorem Left'.refl (h:Ck S b o tb cs s l):Left' S S b o tb cs s s l:=⟨by rw[zeI h.cell];exact h,Keeps.refl,fun x hx=>.inl hx,Grows.refl⟩
structure Told (S S':Mem) (b:Nat) (s' lo:Sl) (out:List Al):Prop where
 row:Row S' 3 lo (fl out)
 fresh:∀ x∈own lo,S x=none
 apart:∀ x∈own lo,x∉b :: own s'
def Rises (l:List Al):Prop:=l.Pairwise fun x y=>bf y x=false
theorem Rises.snoc {l:List Al} {m:Al} (h:Rises l) (hm:∀ x∈l,bf m x=false):Rises (l++[m]):=
 List.pairwise_append.2 ⟨h,List.pairwise_singleton _ _,fun x hx y hy=>by rw[List.mem_singleton] at hy;subst hy;exact hm x hx⟩
theorem due_spec (h:Ck S b o tb cs s l) {now:Int} {Q:Sl→Mem→Prop}
  (hQ:∀ S' s' l' lo out,l.Perm (out++l')→Rises out→(∀ x∈out,x.tm≤now)→(∀ x∈l',now<x.tm)→Left' S S' b o tb cs s s' l'→Told S S' b s' lo out→Q lo S'):wM S (some (b,o)) now Q:=by
 apply zcL
 unfold vw
 simp only[jn]
 have hlt:=xJ h.cell
 have hlen:=h.len
 refine zqs (fun n (lo:Sl) S'=>∃ s' l' out,n=l'.length∧l.Perm (out++l')∧Rises out∧(∀ x∈out,x.tm≤now)∧(∀ x∈out,∀ y∈l',bf y x=false)∧own s'=own s∧Left' S S' b o tb cs s s' l'∧Told S S' b s' lo out) ?_ (n:=l.length)
  ⟨s,l,[],rfl,List.Perm.refl _,List.Pairwise.nil,by simp,by simp,rfl,Left'.refl h,Row.nil,by simp[own],by simp[own]⟩
 rintro X n lo S1 ⟨s1,l1,out,rfl,hp,hri,hdue,hle,hown1,hL,hT⟩ ih
 have hck:=hL.ck
 have hlen1:out.length+l1.length=l.length:=by rw[hp.length_eq,List.length_append]
 rw[if_pos (by simp),zL,wj hck.rd]
 have hn1:s1.n=l1.length:=by
  have:=hck.row.len
  rw[fl_length] at this;omega
 by_cases h0:l1=[]
 ·subst h0
  rw[if_neg (by rw[hn1];simp)]
  exact hQ S1 s1 [] lo out hp hri hdue (by simp) hL hT
 have hpos:=List.length_pos_iff.2 h0
 rw[if_pos (by omega),wj hck.rd]
 rcases row_open hck.row with ⟨e1,e2⟩ | ⟨c,cap,t,j,e1,hle1,hc,hj⟩
 ·exact absurd e2 h0
 have hhead:S1.cell c 0=some (.int .u64 (gt l1 0).tm):=by
  have:=ziS (j:=j) (k:=0) hpos (by decide)
  rw[qj hc]
  exact this
 rw[show sl s1=sl ⟨some (c,0),l1.length,cap⟩ by rw[←e1],fi]
 refine⟨by omega,?_⟩
 rw[zx hhead]
 by_cases hnow:(gt l1 0).tm≤now
 ·rw[if_pos hnow,zL]
  refine pop_spec hck h0 fun S2 s2 m l2 hp2 hm2 hmg hown2 hL2=>?_
  refine⟨ce m,rfl,rfl,zfo _,?_⟩
  have hL3:=hL.trans hlt hL2
  have hb_lo:∀ x∈own lo,x∉b :: own s1:=hT.apart
  have hrow2:Row S2 3 lo (fl out):=zjv hT.row hL2.keep hb_lo
  have hln2:lo.n=out.length:=by
   have:=hT.row.len
   rw[fl_length] at this;omega
  refine wS hrow2 (by simp[yk]) (by decide) rfl (by omega) fun lo3 S3 c3 k hn3 hp3 hor hS3 hrow3=>?_
  have hown3:own lo3=[c3]:=by simp[own,hp3]
  have hc3b:c3∉b :: own s2:=by
   rcases hor with e | e
   ·rw[hown2];exact hb_lo c3 (by simp[own,e])
   ·exact not_own hL2.ck e
  have hc3S:S c3=none:=by
   rcases hor with e | e
   ·exact hT.fresh c3 (by simp[own,e])
   ·cases hs:S c3 with
    | none=>rfl
    | some q=>
     have hm:c3∉b :: own s:=by
      have:=not_own hL2.ck e
      rwa [hown2,hown1] at this
     have:=hL3.keep.get hs hm
     rw[e] at this;cases this
  have hk3:Keeps S2 S3 [c3]:=by
   intro x hx hw
   rw[hS3,zO (by simpa using hw)]
  have hck3:Ck S3 b o tb (spl cs o [eL s2]) s2 l2:=by
   have:=hL3.ck.keep hk3 (fun hm=>hc3b (by simp at hm;simp[hm])) (fun x hx hm=>hc3b (by simp at hm;subst hm;simp[hx]))
   exact this
  refine ih l2.length _ _ (by have:=hp2.length_eq;simp at this;omega) ⟨s2,l2,out++[m],rfl,?_,?_,?_,?_,hown2.trans hown1,⟨hck3,?_,hL3.fresh,by rw[hS3];exact hL3.al.set⟩,⟨by rw[yU];simpa [fl] using hrow3,?_,?_⟩⟩
  ·refine hp.trans ?_
   rw[List.append_assoc]
   exact List.Perm.append_left _ hp2
  ·exact hri.snoc fun x hx=>hle x hx m (hp2.symm.subset (by simp))
  ·intro x hx
   rcases List.mem_append.1 hx with hx | hx
   ·exact hdue x hx
   ·rw[List.mem_singleton] at hx;subst hx;rw[hmg];exact hnow
  ·intro x hx y hy
   rcases List.mem_append.1 hx with hx | hx
   ·exact hle x hx y (hp2.symm.subset (by simp[hy]))
   ·rw[List.mem_singleton] at hx;subst hx;exact hm2 y hy
  ·intro x hx hw
   have:=hL3.keep x hx hw
   rw[hS3,zO (fun e=>by subst e;exact hx hc3S),this]
  ·rw[hown3];intro x hx;rw[List.mem_singleton] at hx;subst hx;exact hc3S
  ·rw[hown3];intro x hx;rw[List.mem_singleton] at hx;subst hx;exact hc3b
 ·rw[if_neg hnow]
  refine hQ S1 s1 l1 lo out hp hri hdue (fun x hx=>?_) hL hT
  obtain⟨k,hk,rfl⟩:=List.getElem_of_mem hx
  have:=hck.heap.least bf_ord zaW k hk
  rw[znH,zea hk] at this
  omega
end
end Go.Proofs.YthaiblbnpcgjpaaGreatDoor.Hk
end
