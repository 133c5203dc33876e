/- Texts of this work,joined by program (pack.py): PsK,PsI,PsJ,HpA,Gw,Hk,Hq,Rx,Cn,PsH,PsF,Ta,Ci,Su,Cb. -/
import Derived.Test.YtabdpmnhjlmnlaaGreatDoorQLC
import Derived.Test.YtabdpmnhjlmnlaaGreatDoorQLE
import Derived.Test.YtabdpmnhjlmnlaaGreatDoorQLB
import Derived.Test.YtabdpmnhjlmnlaaGreatDoorQLG
import Derived.Test.YtabdpmnhjlmnlaaGreatDoorQLF
set_option linter.unusedVariables false
section
namespace Go.Proofs.YtabdpmnhjlmnlaaGreatDoor
open Go Go.Pt
attribute [local irreducible] Code.wp Back bodyPost wpList FR WL WC WQ WA AW Tr Yc HC AllC
set_option maxRecDepth 20000
set_option maxHeartbeats 4000000
set_option linter.unusedVariables false
def gy (S:Mem) (w:Int) (Q:Int→Mem→Prop):Prop:=
 if 65536≤w then
 Q (-1) S
 else
 Q (IntKind.i64.wrap w) S
theorem zdE {S:Mem} {w:Int} {Q:Int→Mem→Prop} (H:gy S w Q):qz S w Q:=by
 unfold gy at H
 exact Tr.intro Tryz.func43 E Tryz.ntmps43 E fun w0=>csr<|gv E E<|nx<|zG<|csr<|mv E E<|iteK H (fun c H1=>s_p E (yT (qq E E) c)<|nx<|c_t E E<|csr<|gv E E<|nx<|zi<|zb<|zh Tryz.results43 (zc E ze) ⟨_,E,H1⟩) fun c H1=>s_p E (yF (qq E E) c)<|nx<|cfs E E<|zr<|csr<|mv E E<|s_p E (zN ⟨_,Tryz.underlying39⟩ E)<|gv E E<|nx<|zi<|zh Tryz.results43 (zc E ze) ⟨_,E,H1⟩
def fS (S:Mem) (x:List Value) (n:Int) (pc:Int) (s:List Value) (Q:List Value→Mem→Prop):Prop:=
 x.length=2 ∧
 s.length=26 ∧
 jn (fun (v:List Value) (Sx:Mem)=>
 v.length=4 ∧
 zdc Sx s fun t Sx_1=>
 Q ([.int .u8 1,.int .i64 n,.int .u64 pc,.int .u64 t]) Sx_1) fun Jx=>
 gI (nthL x 0) .u8 fun t_1=>
 if t_1=1 then
 gI (nthL x 1) .u64 fun t_2=>
 Q ([.int .u8 4,.int .i64 n,.int .u64 t_2,.int .u64 pc]) S
 else
 if t_1=4 then
 gI (nthL x 1) .u64 fun t_3=>
 Q ([.int .u8 5,.int .i64 n,.int .u64 t_3,.int .u64 pc]) S
 else
 Jx ([.int .u8 0,.int .i64 0,.int .u64 0,.int .u64 0]) S
theorem zeC {S:Mem} {x:List Value} {n:Int} {pc:Int} {s:List Value} {Q:List Value→Mem→Prop} (H:fS S x n pc s Q):zbY S x n pc s Q:=by
 unfold fS at H
 exact Tr.intro Tryz.func25 E Tryz.ntmps25 E fun w0=>an H fun hx H1=>an H1 fun hs H2=>csr<|qI E E E fun b=>qI E E E fun b_1=>by refine zP E fun b_2=>?_;exact nx<|zm H2 (fun (J:List Value→Mem→Prop) (z:List Value) S=>J z S) (fun z=>⟨30,[(1,.int .i64 n),(2,.int .u64 pc),(7,.pointer (some ⟨b_1,0,none⟩)),(8,.pointer (some ⟨b_2,0,none⟩))]⟩) (fun z=>[⟨b_1,43,s⟩,⟨b_2,45,z⟩]) (fun v Sx H3=>an H3 fun hv H4=>csr<|mv E E<|mv E E<|by refine s_v E (zO E hs) (zD (k:=26) 0 E (zg hs)) ?_;exact qM E E H4 fun t Sx_1 H5=>s_p E (zR E E)<|by exact zq 1 E E E E E E hv E<|nx<|zi<|zh Tryz.results25 (zy E (zD (k:=4) 1 E E) E ze) ⟨_,E,E,H5⟩) (fun Jx hJx H6=>csr<|s_p E (zp E E)<|gx H6 fun t_1 ht_1 H7=>s_v E (zA E) (zQ 0 E ht_1)<|nx<|zE<|csr<|iteK H7 (fun c H8=>ceT E E E (c)<|gv E E<|nx<|c_t E E<|csr<|mv E E<|s_p E (zp E E)<|gx H8 fun t_2 ht_2 H9=>s_v E (zA E) (zQ 0 E ht_2)<|mv E E<|s_p E (zR E E)<|by exact qv (sz:=4) (vs:=[.int .u8 4,.int .i64 n,.int .u64 t_2,.int .u64 pc]) 2 E E E E E E (Nat.le_of_ble_eq_true E) E<|nx<|zi<|zl<|zb<|zh Tryz.results25 (zy E (zD (k:=4) 2 E E) E ze) ⟨_,E,E,H9⟩) fun c H8=>ceF E E E (c)<|gv E E<|nx<|c_f E E<|csr<|iteK H8 (fun c_1 H10=>ceT E E E (c_1)<|gv E E<|nx<|c_t E E<|csr<|mv E E<|s_p E (zp E E)<|gx H10 fun t_3 ht_3 H11=>s_v E (zA E) (zQ 0 E ht_3)<|mv E E<|s_p E (zR E E)<|by exact qv (sz:=4) (vs:=[.int .u8 5,.int .i64 n,.int .u64 t_3,.int .u64 pc]) 2 E E E E E E (Nat.le_of_ble_eq_true E) E<|nx<|zi<|zl<|zb<|zh Tryz.results25 (zy E (zD (k:=4) 2 E E) E ze) ⟨_,E,E,H11⟩) fun c_1 H10=>ceF E E E (c_1)<|gv E E<|nx<|cfs E E<|zS<|hJx ([.int .u8 0,.int .i64 0,.int .u64 0,.int .u64 0]) _ _ _ _ [1,1] H10 E ⟨E,E,E,E,True.intro⟩ E)
end Go.Proofs.YtabdpmnhjlmnlaaGreatDoor
end
section
namespace Go.Proofs.YtabdpmnhjlmnlaaGreatDoor
open Go Go.Pt
attribute [local irreducible] Code.wp Back bodyPost wpList FR WL WC WQ WA AW Tr Yc HC AllC
set_option maxRecDepth 20000
set_option maxHeartbeats 4000000
set_option linter.unusedVariables false
def jk (S:Mem) (h:Value) (Q:Mem→Prop):Prop:=
 ci Tryz.prog S h "Len" [] fun rv Sx => ∃ t : Int, rv = .int .i64 t ∧ 
 lp (fun Xx (i:Int) (Sx_1:Mem)=>
 if 0≤i then
 zbP Sx_1 h i t fun t_1 Sx_2=>
 Xx (IntKind.i64.wrap (i-1)) Sx_2
 else
 Q Sx_1) (IntKind.i64.wrap ((IntKind.i64.wrap (Int.tdiv t 2))-1)) Sx
theorem zbw {S:Mem} {h:Value} {Q:Mem→Prop} (H:jk S h Q):zau S h Q:=by
 unfold jk at H
 exact Tr.intro Tryz.func106 E Tryz.ntmps106 E fun w0=>csr<|mv E E<|zhb E E E H fun rv Sx H1=>by obtain⟨t,rfl,H2⟩:=H1;exact gv E E<|nxr<|mv E E<|s_p E (xf E E (by decide))<|s_p E (jw E E)<|gv E E<|nx<|zE<|qS (fun z=>⟨17,[(0,h),(2,.int .i64 t),(3,.int .i64 z)]⟩) (fun z=>[]) (IntKind.i64.wrap ((IntKind.i64.wrap (Int.tdiv t 2))-1)) (idx:=[]) H2 E ⟨E,E,E,True.intro⟩ E<|fun Xx hXx i Sx_1 H3=>zG<|csr<|mv E E<|iteK H3 (fun c H4=>s_p E (yT (qq E E) c)<|nx<|c_t E E<|qw<|zr<|zG<|zE<|zx<|mv E E<|mv E E<|mv E E<|qM E E H4 fun t_1 Sx_2 H5=>zn<|zS<|zr<|zx<|mv E E<|s_p E (jw E E)<|gv E E<|zn<|hXx (IntKind.i64.wrap (i-1)) _ _ _ _ [] H5 E ⟨E,E,E,True.intro⟩ E) fun c H4=>s_p E (yF (qq E E) c)<|nx<|c_f E E<|qB<|zo<|zo<|zV<|kD Tryz.results106 (ze) ⟨E,H4⟩
def fR (S:Mem) (h:Value) (x:Value) (Q:Mem→Prop):Prop:=
 ci Tryz.prog S h "Push" [x] fun rv Sx => rv = .tuple #[] ∧ 
 ci Tryz.prog Sx h "Len" [] fun rv Sx_1 => ∃ t : Int, rv = .int .i64 t ∧ 
 zeV Sx_1 h (IntKind.i64.wrap (t-1)) fun Sx_2=>
 Q Sx_2
theorem zeB {S:Mem} {h:Value} {x:Value} {Q:Mem→Prop} (H:fR S h x Q):zbQ S h x Q:=by
 unfold fR at H
 exact Tr.intro Tryz.func150 E Tryz.ntmps150 E fun w0=>csr<|mv E E<|mv E E<|zhb E E E H fun rv Sx H1=>by obtain⟨rfl,H2⟩:=H1;exact nx<|zx<|mv E E<|mv E E<|zhb E E E H2 fun rv Sx_1 H3=>by obtain⟨t,rfl,H4⟩:=H3;exact s_p E (jw E E)<|zaY E E H4 fun Sx_2 H5=>zn<|kD Tryz.results150 (ze) ⟨E,H5⟩
def fQ (S:Mem) (h:Value) (i0_0:Int) (n:Int) (Q:Bool→Mem→Prop):Prop:=
 jn (fun (i:Int) (Sx:Mem)=>
 Q (decide (i0_0<i)) Sx) fun Jx=>
 lp (fun Xx (i_1:Int) (Sx_1:Mem)=>
 jn (fun (Sx_2:Mem)=>
 jn (fun (j:Int) (Sx_3:Mem)=>
 ci Tryz.prog Sx_3 h "Less" [.int .i64 j, .int .i64 i_1] fun rv Sx_4 => ∃ t : Bool, rv = .bool t ∧ 
 if t=true then
 ci Tryz.prog Sx_4 h "Swap" [.int .i64 i_1, .int .i64 j] fun rv Sx_5 => rv = .tuple #[] ∧ 
 Xx j Sx_5
 else
 Jx i_1 Sx_4) fun Jx_1=>
 if IntKind.i64.wrap ((IntKind.i64.wrap ((IntKind.i64.wrap (2*i_1))+1))+1)<n then
 ci Tryz.prog Sx_2 h "Less" [.int .i64 (IntKind.i64.wrap ((IntKind.i64.wrap ((IntKind.i64.wrap (2 * i_1)) + 1)) + 1)), .int .i64 (IntKind.i64.wrap ((IntKind.i64.wrap (2 * i_1)) + 1))] fun rv Sx_6 => ∃ t_1 : Bool, rv = .bool t_1 ∧ 
 if t_1=true then
 Jx_1 (IntKind.i64.wrap ((IntKind.i64.wrap ((IntKind.i64.wrap (2*i_1))+1))+1)) Sx_6
 else
 Jx_1 (IntKind.i64.wrap ((IntKind.i64.wrap (2*i_1))+1)) Sx_6
 else
 Jx_1 (IntKind.i64.wrap ((IntKind.i64.wrap (2*i_1))+1)) Sx_2) fun Jx_2=>
 if n≤IntKind.i64.wrap ((IntKind.i64.wrap (2*i_1))+1) then
 Jx i_1 Sx_1
 else
 if IntKind.i64.wrap ((IntKind.i64.wrap (2*i_1))+1)<0 then
 Jx i_1 Sx_1
 else
 Jx_2 Sx_1) i0_0 S
theorem zeA {S:Mem} {h:Value} {i0_0:Int} {n:Int} {Q:Bool→Mem→Prop} (H:fQ S h i0_0 n Q):zbP S h i0_0 n Q:=by
 unfold fQ at H
 exact Tr.intro Tryz.func162 E Tryz.ntmps162 E fun w0=>csr<|gv E E<|nxr<|mv E E<|gv E E<|nx<|zm H (fun (J:Int→Mem→Prop) (z:Int) S=>J z S) (fun z=>⟨48,[(1,.int .i64 i0_0),(7,.int .i64 z)]⟩) (fun z=>[]) (fun i Sx H1=>csr<|mv E E<|mv E E<|s_p E (qu E E)<|gv E E<|nx<|zi<|zh Tryz.results162 (zc E ze) ⟨_,E,H1⟩) (fun Jx hJx H2=>zE<|qS (fun z=>⟨48,[(0,h),(1,.int .i64 i0_0),(2,.int .i64 n),(7,.int .i64 z)]⟩) (fun z=>[]) i0_0 (idx:=[]) H2 E ⟨E,E,E,E,True.intro⟩ E<|fun Xx hXx i_1 Sx_1 H3=>zE<|csr<|mv E E<|s_p E (xg E E)<|s_p E (qd E E)<|gv E E<|nx<|zm H3 (fun (J:Mem→Prop) (z:Unit) S=>J S) (fun z=>⟨48,[(0,h),(1,.int .i64 i0_0),(2,.int .i64 n),(7,.int .i64 i_1),(8,.int .i64 (IntKind.i64.wrap ((IntKind.i64.wrap (2*i_1))+1)))]⟩) (fun z=>[]) (fun _ Sx_2 H4=>csr<|mv E E<|gv E E<|nx<|zm H4 (fun (J:Int→Mem→Prop) (z:Int) S=>J z S) (fun z=>⟨48,[(0,h),(1,.int .i64 i0_0),(2,.int .i64 n),(7,.int .i64 i_1),(9,.int .i64 z)]⟩) (fun z=>[]) (fun j Sx_3 H5=>zG<|csr<|mv E E<|mv E E<|mv E E<|zhb E E E H5 fun rv Sx_4 H6=>by obtain⟨t,rfl,H7⟩:=H6;exact by have H8:=wO H7;rcases H8 with ⟨rfl,H9⟩ | ⟨rfl,H9⟩;exact (s_p E (yB (qe E) E)<|nx<|cfs E E<|zr<|csr<|mv E E<|mv E E<|mv E E<|zhb E E E H9 fun rv Sx_5 H10=>by obtain⟨rfl,H11⟩:=H10;exact nx<|zx<|mv E E<|gv E E<|zn<|zS<|hXx j _ _ _ _ [] H11 E ⟨E,E,E,E,True.intro⟩ E);exact (s_p E (yB (qe E) E)<|nx<|c_t E E<|qB<|zo<|zap E<|zo<|zV<|hJx i_1 _ _ _ _ [] H9 E ⟨E,E,True.intro⟩ E)) (fun Jx_1 hJx_1 H12=>csr<|mv E E<|s_p E (qd E E)<|gv E E<|nxr<|mv E E<|mv E E<|iteK H12 (fun c H13=>s_p E (yT (zH E E) c)<|mv E E<|mv E E<|mv E E<|mv E E<|zhb E E E H13 fun rv Sx_6 H14=>by obtain⟨t_1,rfl,H15⟩:=H14;exact by have H16:=wO H15;rcases H16 with ⟨rfl,H17⟩ | ⟨rfl,H17⟩;exact (pk E E E<|nx<|ctr E E<|mv E E<|gv E E<|zn<|hJx_1 (IntKind.i64.wrap ((IntKind.i64.wrap ((IntKind.i64.wrap (2*i_1))+1))+1)) _ _ _ _ [] H17 E ⟨E,E,E,E,E,True.intro⟩ E);exact (pk E E E<|nx<|cfs E E<|hJx_1 (IntKind.i64.wrap ((IntKind.i64.wrap (2*i_1))+1)) _ _ _ _ [] H17 E ⟨E,E,E,E,E,True.intro⟩ E)) fun c H13=>s_p E (yF (zH E E) c)<|mv E E<|sk4 E E E E<|by exact pk E E E<|nx<|cfs E E<|hJx_1 (IntKind.i64.wrap ((IntKind.i64.wrap (2*i_1))+1)) _ _ _ _ [] H13 E ⟨E,E,E,E,E,True.intro⟩ E)) (fun Jx_2 hJx_2 H18=>csr<|mv E E<|mv E E<|iteK H18 (fun c_1 H19=>s_p E (yT (qq E E) c_1)<|mv E E<|sk2 E E<|pk E E E<|nx<|c_t E E<|qB<|zo<|zap E<|zo<|zV<|hJx i_1 _ _ _ _ [] H19 E ⟨E,E,True.intro⟩ E) fun c_1 H19=>s_p E (yF (qq E E) c_1)<|mv E E<|mv E E<|iteK H19 (fun c_2 H20=>s_p E (yT (zH E E) c_2)<|pk E E E<|nx<|c_t E E<|qB<|zo<|zap E<|zo<|zV<|hJx i_1 _ _ _ _ [] H20 E ⟨E,E,True.intro⟩ E) fun c_2 H20=>s_p E (yF (zH E E) c_2)<|pk E E E<|nx<|cfs E E<|hJx_2 () _ _ _ _ [] H20 E ⟨E,E,E,E,E,True.intro⟩ E))
def zcf (S:Mem) (h:Value) (j:Int) (Q:Mem→Prop):Prop:=
 lp (fun Xx (j_1:Int) (Sx:Mem)=>
 jn (fun (Sx_1:Mem)=>
 ci Tryz.prog Sx_1 h "Swap" [.int .i64 (IntKind.i64.wrap (Int.tdiv (IntKind.i64.wrap (j_1 - 1)) 2)), .int .i64 j_1] fun rv Sx_2 => rv = .tuple #[] ∧ 
 Xx (IntKind.i64.wrap (Int.tdiv (IntKind.i64.wrap (j_1-1)) 2)) Sx_2) fun Jx=>
 if IntKind.i64.wrap (Int.tdiv (IntKind.i64.wrap (j_1-1)) 2)=j_1 then
 Q Sx
 else
 ci Tryz.prog Sx h "Less" [.int .i64 j_1, .int .i64 (IntKind.i64.wrap (Int.tdiv (IntKind.i64.wrap (j_1 - 1)) 2))] fun rv Sx_3 => ∃ t : Bool, rv = .bool t ∧ 
 if t=true then
 Jx Sx_3
 else
 Q Sx_3) j S
theorem zgO {S:Mem} {h:Value} {j:Int} {Q:Mem→Prop} (H:zcf S h j Q):zeV S h j Q:=by
 unfold zcf at H
 exact Tr.intro Tryz.func215 E Tryz.ntmps215 E fun w0=>zE<|qS (fun z=>⟨23,[(0,h),(1,.int .i64 z)]⟩) (fun z=>[]) j (idx:=[]) H E ⟨E,E,True.intro⟩ E<|fun Xx hXx j_1 Sx H1=>zE<|csr<|mv E E<|s_p E (jw E E)<|s_p E (xf E E (by decide))<|gv E E<|nx<|zm H1 (fun (J:Mem→Prop) (z:Unit) S=>J S) (fun z=>⟨23,[(0,h),(1,.int .i64 j_1),(4,.int .i64 (IntKind.i64.wrap (Int.tdiv (IntKind.i64.wrap (j_1-1)) 2)))]⟩) (fun z=>[]) (fun _ Sx_1 H2=>csr<|mv E E<|mv E E<|mv E E<|zhb E E E H2 fun rv Sx_2 H3=>by obtain⟨rfl,H4⟩:=H3;exact nx<|zx<|mv E E<|gv E E<|zn<|zS<|hXx (IntKind.i64.wrap (Int.tdiv (IntKind.i64.wrap (j_1-1)) 2)) _ _ _ _ [] H4 E ⟨E,E,True.intro⟩ E) (fun Jx hJx H5=>csr<|mv E E<|mv E E<|iteK H5 (fun c H6=>ceT E E E (c)<|mv E E<|sk4 E E E E<|zK E<|pk E E E<|nx<|c_t E E<|qB<|zo<|zap E<|zo<|zV<|kD Tryz.results215 (ze) ⟨E,H6⟩) fun c H6=>ceF E E E (c)<|mv E E<|mv E E<|mv E E<|mv E E<|zhb E E E H6 fun rv Sx_3 H7=>by obtain⟨t,rfl,H8⟩:=H7;exact by have H9:=wO H8;rcases H9 with ⟨rfl,H10⟩ | ⟨rfl,H10⟩;exact (s_p E (yB (qe E) E)<|pk E E E<|nx<|cfs E E<|hJx () _ _ _ _ [] H10 E ⟨E,E,E,True.intro⟩ E);exact (s_p E (yB (qe E) E)<|pk E E E<|nx<|c_t E E<|qB<|zo<|zap E<|zo<|zV<|kD Tryz.results215 (ze) ⟨E,H10⟩))
end Go.Proofs.YtabdpmnhjlmnlaaGreatDoor
end
section
namespace Go.Proofs.YtabdpmnhjlmnlaaGreatDoor
open Go Go.Pt
attribute [local irreducible] Code.wp Back bodyPost wpList FR WL WC WQ WA AW Tr Yc HC AllC
set_option maxRecDepth 20000
set_option maxHeartbeats 4000000
set_option linter.unusedVariables false
def xR (S:Mem) (a:List Value) (b:List Value) (Q:Bool→Mem→Prop):Prop:=
 a.length=3 ∧
 b.length=3 ∧
 jn (fun (Sx:Mem)=>
 gI (nthL a 2) .i64 fun t=>
 gI (nthL b 2) .i64 fun t_1=>
 Q (decide (t<t_1)) Sx) fun Jx=>
 gI (nthL a 0) .u64 fun t_2=>
 gI (nthL b 0) .u64 fun t_3=>
 if t_2≠t_3 then
 gI (nthL a 0) .u64 fun t_4=>
 gI (nthL b 0) .u64 fun t_5=>
 Q (decide (t_4<t_5)) S
 else
 gI (nthL a 1) .i64 fun t_6=>
 gI (nthL b 1) .i64 fun t_7=>
 if t_6≠t_7 then
 gI (nthL a 1) .i64 fun t_8=>
 gI (nthL b 1) .i64 fun t_9=>
 Q (decide (t_8<t_9)) S
 else
 Jx S
theorem gO {S:Mem} {a:List Value} {b:List Value} {Q:Bool→Mem→Prop} (H:xR S a b Q):wN S a b Q:=by
 unfold xR at H
 exact Tr.intro Tryz.func272 E Tryz.ntmps272 E fun w0=>an H fun ha H1=>an H1 fun hb H2=>csr<|qI E E E fun b_1=>qI E E E fun b_2=>gv E E<|nx<|zm H2 (fun (J:Mem→Prop) (z:Unit) S=>J S) (fun z=>⟨32,[(2,.pointer (some ⟨b_1,0,none⟩)),(3,.pointer (some ⟨b_2,0,none⟩))]⟩) (fun z=>[⟨b_1,193,a⟩,⟨b_2,193,b⟩]) (fun _ Sx H3=>csr<|s_p E (zp E E)<|gx H3 fun t ht H4=>s_v E (zA E) (zQ 0 E ht)<|s_p E (zp E E)<|gx H4 fun t_1 ht_1 H5=>s_v E (zA E) (zQ 1 E ht_1)<|s_p E (zH E E)<|gv E E<|nx<|zi<|zh Tryz.results272 (zc E ze) ⟨_,E,H5⟩) (fun Jx hJx H6=>zE<|csr<|s_p E (zp E E)<|gx H6 fun t_2 ht_2 H7=>s_v E (zA E) (zQ 0 E ht_2)<|s_p E (zp E E)<|gx H7 fun t_3 ht_3 H8=>s_v E (zA E) (zQ 1 E ht_3)<|iteK H8 (fun c H9=>s_p E (yT (qm E E) c)<|gv E E<|nx<|c_t E E<|csr<|s_p E (zp E E)<|gx H9 fun t_4 ht_4 H10=>s_v E (zA E) (zQ 0 E ht_4)<|s_p E (zp E E)<|gx H10 fun t_5 ht_5 H11=>s_v E (zA E) (zQ 1 E ht_5)<|s_p E (zH E E)<|gv E E<|nx<|zi<|zl<|zb<|zh Tryz.results272 (zc E ze) ⟨_,E,H11⟩) fun c H9=>s_p E (yF (qm E E) c)<|gv E E<|nx<|c_f E E<|csr<|s_p E (zp E E)<|gx H9 fun t_6 ht_6 H12=>s_v E (zA E) (zQ 0 E ht_6)<|s_p E (zp E E)<|gx H12 fun t_7 ht_7 H13=>s_v E (zA E) (zQ 1 E ht_7)<|iteK H13 (fun c_1 H14=>s_p E (yT (qm E E) c_1)<|gv E E<|nx<|c_t E E<|csr<|s_p E (zp E E)<|gx H14 fun t_8 ht_8 H15=>s_v E (zA E) (zQ 0 E ht_8)<|s_p E (zp E E)<|gx H15 fun t_9 ht_9 H16=>s_v E (zA E) (zQ 1 E ht_9)<|s_p E (zH E E)<|gv E E<|nx<|by exact zi<|zl<|zb<|zh Tryz.results272 (zc E ze) ⟨_,E,H16⟩) fun c_1 H14=>s_p E (yF (qm E E) c_1)<|gv E E<|nx<|cfs E E<|zS<|hJx () _ _ _ _ [0,0] H14 E ⟨E,E,True.intro⟩ E)
def wL (S:Mem) (c:Pt) (vm:Int) (seat:Int) (Q:Mem→Prop):Prop:=
 al S 3 ([.int .i64 vm]) fun b Sx=>
 al Sx 3 ([.int .i64 seat]) fun b_1 Sx_1=>
 vw Sx_1 c (.func (.func 242) #[] #[.pointer (some ⟨b,0,none⟩),.pointer (some ⟨b_1,0,none⟩)]) fun Sx_2=>
 Q Sx_2
theorem zaf {S:Mem} {c:Pt} {vm:Int} {seat:Int} {Q:Mem→Prop} (H:wL S c vm seat Q):vx S c vm seat Q:=by
 unfold wL at H
 exact Tr.intro Tryz.func230 E Tryz.ntmps230 E fun w0=>csr<|qI E E E fun b=>zaj 0 E fun hb=>have H1:=H b hb;qI E E E fun b_1=>zaj 0 E fun hb_1=>have H2:=H1 b_1 hb_1;nx<|zx<|mv E E<|s_p E (zlm E)<|zaY E E H2 fun Sx_2 H3=>zn<|kD Tryz.results230 (ze) ⟨E,H3⟩
def xB (S:Mem) (a:List Value) (t:Pt) (t_1:Pt) (Q:Bool→Mem→Prop):Prop:=
 a.length=3 ∧
 gI (nthL a 1) .i64 fun t_2=>
 nn t fun b_1 o=>
 gI (S.cell b_1 o) .i64 fun t_3=>
 if t_2=t_3 then
 gI (nthL a 2) .i64 fun t_4=>
 nn t_1 fun b_2 o_1=>
 gI (S.cell b_2 o_1) .i64 fun t_5=>
 Q (decide (t_4=t_5)) S
 else
 Q false S
theorem ga {S:Mem} {a:List Value} {t:Pt} {t_1:Pt} {Q:Bool→Mem→Prop} (H:xB S a t t_1 Q):fT S a t t_1 Q:=by
 unfold xB at H
 exact Tr.intro Tryz.func242 E Tryz.ntmps242 E fun w0=>an H fun ha H1=>csr<|qI E E E fun b=>gv E E<|nxr<|s_p E (zp E E)<|gx H1 fun t_2 ht_2 H2=>s_v E (zA E) (zQ 0 E ht_2)<|by obtain⟨b_1,o,rfl,H3⟩:=H2;exact gx H3 fun t_3 ht_3 H4=>s_v E (zA E) (qc ht_3)<|iteK H4 (fun c H5=>ceT E E E (c)<|mv E E<|s_p E (zp E E)<|gx H5 fun t_4 ht_4 H6=>s_v E (zA E) (zQ 0 E ht_4)<|by obtain⟨b_2,o_1,rfl,H7⟩:=H6;exact gx H7 fun t_5 ht_5 H8=>s_v E (zA E) (qc ht_5)<|s_p E (jz E E)<|pk E E E<|gv E E<|nx<|zi<|zh Tryz.results242 (zc E ze) ⟨_,E,H8⟩) fun c H5=>ceF E E E (c)<|mv E E<|sk4 E E E E<|pk E E E<|gv E E<|nx<|zi<|zh Tryz.results242 (zc E ze) ⟨_,E,H5⟩
def vf (S:Mem) (c:Pt) (vm:Int) (seat:Int) (atx:Int) (Q:Int→Mem→Prop):Prop:=
 jn (fun (Sx:Mem)=>
 vx Sx c vm seat fun Sx_1=>
 nn c fun b o=>
 zbQ Sx_1 (.iface 269 (.pointer (some ⟨b,o,none⟩))) (.iface 193 (valL ([.int .u64 atx,.int .i64 vm,.int .i64 seat]))) fun Sx_2=>
 Q 0 Sx_2) fun Jx=>
 if c=none then
 Q 2 S
 else
 if vm<0 then
 Q 1 S
 else
 if 6≤vm then
 Q 1 S
 else
 if seat<0 then
 Q 1 S
 else
 if 3≤seat then
 Q 1 S
 else
 Jx S
theorem zaJ {S:Mem} {c:Pt} {vm:Int} {seat:Int} {atx:Int} {Q:Int→Mem→Prop} (H:vf S c vm seat atx Q):wM S c vm seat atx Q:=by
 unfold vf at H
 exact Tr.intro Tryz.func205 E Tryz.ntmps205 E fun w0=>csr<|gv E E<|nx<|zm H (fun (J:Mem→Prop) (z:Unit) S=>J S) (fun z=>⟨41,[(0,eP c),(1,.int .i64 vm),(2,.int .i64 seat),(3,.int .u64 atx)]⟩) (fun z=>[]) (fun _ Sx H1=>csr<|mv E E<|mv E E<|mv E E<|zaY E E H1 fun Sx_1 H2=>nxr<|mv E E<|by obtain⟨b,o,rfl,H3⟩:=H2;exact s_p E (zT E)<|s_p E (zp E E)<|s_p E (zcS E)<|mv E E<|mv E E<|mv E E<|s_p E (zR E E)<|by exact s_p E (zcS E)<|zaY E E H3 fun Sx_2 H4=>nxr<|gv E E<|nx<|zi<|zh Tryz.results205 (zc E ze) ⟨_,E,H4⟩) (fun Jx hJx H5=>zE<|csr<|mv E E<|iteK H5 (fun c_1 H6=>s_p E (yT (xE (p:=c) E E) c_1)<|gv E E<|nx<|c_t E E<|csr<|gv E E<|nx<|zi<|zl<|zb<|zh Tryz.results205 (zc E ze) ⟨_,E,H6⟩) fun c_1 H6=>s_p E (yF (xE (p:=c) E E) c_1)<|gv E E<|nx<|c_f E E<|csr<|mv E E<|iteK H6 (fun c_2 H7=>s_p E (yT (zH E E) c_2)<|mv E E<|sk2 E E<|pk E E E<|mv E E<|sk2 E E<|pk E E E<|mv E E<|sk2 E E<|pk E E E<|gv E E<|nx<|c_t E E<|csr<|gv E E<|nx<|zi<|zl<|zb<|zh Tryz.results205 (zc E ze) ⟨_,E,H7⟩) fun c_2 H7=>s_p E (yF (zH E E) c_2)<|mv E E<|mv E E<|iteK H7 (fun c_3 H8=>s_p E (yT (qq E E) c_3)<|pk E E E<|mv E E<|sk2 E E<|pk E E E<|mv E E<|sk2 E E<|pk E E E<|gv E E<|nx<|c_t E E<|csr<|gv E E<|nx<|zi<|zl<|zb<|zh Tryz.results205 (zc E ze) ⟨_,E,H8⟩) fun c_3 H8=>s_p E (yF (qq E E) c_3)<|pk E E E<|mv E E<|mv E E<|iteK H8 (fun c_4 H9=>s_p E (yT (zH E E) c_4)<|pk E E E<|mv E E<|sk2 E E<|pk E E E<|gv E E<|nx<|c_t E E<|csr<|gv E E<|nx<|zi<|zl<|zb<|zh Tryz.results205 (zc E ze) ⟨_,E,H9⟩) fun c_4 H9=>s_p E (yF (zH E E) c_4)<|pk E E E<|mv E E<|mv E E<|iteK H9 (fun c_5 H10=>s_p E (yT (qq E E) c_5)<|pk E E E<|gv E E<|nx<|c_t E E<|csr<|gv E E<|nx<|zi<|zl<|zb<|zh Tryz.results205 (zc E ze) ⟨_,E,H10⟩) fun c_5 H10=>s_p E (yF (qq E E) c_5)<|pk E E E<|gv E E<|nx<|cfs E E<|zS<|hJx () _ _ _ _ [] H10 E ⟨E,E,E,E,True.intro⟩ E)
def wK (S:Mem) (c:Pt) (ofx:Value) (Q:Mem→Prop):Prop:=
 if c≠none then
 nn c fun b o=>
 gL (S.cell b o) fun t=>
 qk S t ofx fun t_1 Sx=>
 pt Sx b o 1 ([eL t_1]) fun Sx_1=>
 zau Sx_1 (.iface 269 (.pointer (some ⟨b,o,none⟩))) fun Sx_2=>
 Q Sx_2
 else
 Q S
theorem zae {S:Mem} {c:Pt} {ofx:Value} {Q:Mem→Prop} (H:wK S c ofx Q):vw S c ofx Q:=by
 unfold wK at H
 exact Tr.intro Tryz.func153 E Tryz.ntmps153 E fun w0=>csr<|mv E E<|iteK H (fun c_1 H1=>s_p E (yT (zbe (p:=c) E E) c_1)<|nx<|c_t E E<|csr<|mv E E<|mv E E<|by obtain⟨b,o,rfl,H2⟩:=H1;exact s_p E (zT E)<|s_p E (zp E E)<|gx H2 fun t ht H3=>s_v E (zA E) (qc ht)<|mv E E<|qM E E H3 fun t_1 Sx H4=>s_p E (zT E)<|s_p E (zp E E)<|an H4 fun c_2 H5=>zY E E E E E c_2 E<|nx<|zx<|mv E E<|s_p E (zT E)<|s_p E (zp E E)<|s_p E (zcS E)<|zaY E E H5 fun Sx_2 H6=>zn<|kD Tryz.results153 (ze) ⟨E,H6⟩) fun c_1 H1=>s_p E (yF (zbe (p:=c) E E) c_1)<|nx<|cfs E E<|kD Tryz.results153 (ze) ⟨E,H1⟩
def gE (S:Mem) (r:Sl) (Q:Int→Mem→Prop):Prop:=
 Q (r.n:Int) S
theorem zbz {S:Mem} {r:Sl} {Q:Int→Mem→Prop} (H:gE S r Q):zdw S r Q:=by
 unfold gE at H
 exact Tr.intro Tryz.func269 E Tryz.ntmps269 E fun w0=>csr<|gv E E<|nxr<|mv E E<|s_p E (wP E)<|gv E E<|nx<|zi<|zh Tryz.results269 (zc E ze) ⟨_,E,H⟩
def vv (S:Mem) (r:Sl) (i:Int) (j:Int) (Q:Bool→Mem→Prop):Prop:=
 sl r fun b o n n_1=>
 0≤i∧i<((n:Nat):Int) ∧
 gA (S.part b (o+i.toNat*3) 3) fun t=>
 0≤j∧j<((n:Nat):Int) ∧
 gA (S.part b (o+j.toNat*3) 3) fun t_1=>
 wN S t t_1 fun t_2 Sx=>
 Q t_2 Sx
theorem zbj {S:Mem} {r:Sl} {i:Int} {j:Int} {Q:Bool→Mem→Prop} (H:vv S r i j Q):gZ S r i j Q:=by
 unfold vv at H
 exact Tr.intro Tryz.func270 E Tryz.ntmps270 E fun w0=>csr<|gv E E<|nx<|zG<|zI (by kernel_rfl)<|aTP 0 E (by decide +kernel) E (zk E)<|by exact aTP 1 E (by decide +kernel) E (zk E)<|by exact by obtain⟨b,o,n,n_1,rfl,H1⟩:=H;exact an2 H1 fun c c_1 H2=>aTP 2 E (by decide +kernel) E (yf E E c c_1 E)<|by exact gx H2 fun t ht H3=>by refine aT 3 E (by decide +kernel) E (zO E (zX ht)) (qX ht) ?_;exact aTP 4 E (by decide +kernel) E (zk E)<|by exact aTP 5 E (by decide +kernel) E (zk E)<|by exact an2 H3 fun c_2 c_3 H4=>aTP 6 E (by decide +kernel) E (yf E E c_2 c_3 E)<|by exact gx H4 fun t_1 ht_1 H5=>by refine aT 7 E (by decide +kernel) E (zO E (zX ht_1)) (qX ht_1) ?_;exact zw 8 (by decide +kernel) E<|by exact qM E E H5 fun t_2 Sx H6=>zn<|zF zu<|aTP 9 E (by decide +kernel) E (zM E)<|by exact zJ (by decide +kernel)<|by exact zr<|zi<|zh Tryz.results270 (zc E ze) ⟨_,E,H6⟩
def vu (S:Mem) (r:Pt) (x:Value) (Q:Mem→Prop):Prop:=
 nn r fun b o=>
 gL (S.cell b o) fun t=>
 asA x 193 3 fun t_1=>
 t_1.all (·.oneCell')=true ∧
 ap S 193 3 24 [.int .u64 0,.int .i64 0,.int .i64 0] t 1 t_1 fun t_2 Sx=>
 pt Sx b o 1 ([eL t_2]) fun Sx_1=>
 Q Sx_1
theorem zbi {S:Mem} {r:Pt} {x:Value} {Q:Mem→Prop} (H:vu S r x Q):zco S r x Q:=by
 unfold vu at H
 exact Tr.intro Tryz.func281 E Tryz.ntmps281 E fun w0=>zI (by kernel_rfl)<|a_takeP 0 E (by decide +kernel) zd E (zk E)<|by exact a_takeP 1 E (by decide +kernel) zd E (zk E)<|by exact by obtain⟨b,o,rfl,H1⟩:=H;exact a_takeP 2 E (by decide +kernel) zd E (zT E)<|by exact gx H1 fun t ht H2=>qp 3 E (by decide +kernel) zd E (zA E) (qc ht)<|by exact a_takeP 4 E (by decide +kernel) zd E (zk E)<|by exact by obtain⟨t_1,rfl,ht_1,H3⟩:=H2;exact a_takeP 5 E (by decide +kernel) zd E (zij E)<|by exact zw 6 (by decide +kernel) E<|by exact zgA E E (by decide) (zdr (size:=3) E ht_1) fun b_1=>zn<|zF (zB (qc ht) zu)<|zw 7 (by decide +kernel) E<|by exact an H3 fun c H4=>zak (sx:=t) (vs:=t_1) E E E (zif 0 E (zg ht_1)) ht_1 c (by decide) H4 fun t_2 Sx H5=>zn<|zF zu<|a_takeP 8 E (by decide +kernel) zd E (zT E)<|by exact zw 9 (by decide +kernel) E<|by exact an H5 fun c_1 H6=>zY E E E E E c_1 E<|zn<|zF zu<|zJ (by decide +kernel)<|by exact kD Tryz.results281 (ze) ⟨E,H6⟩
def vt (S:Mem) (r:Sl) (i:Int) (j:Int) (Q:Mem→Prop):Prop:=
 sl r fun b o n n_1=>
 0≤j∧j<((n:Nat):Int) ∧
 gA (S.part b (o+j.toNat*3) 3) fun t=>
 0≤i∧i<((n:Nat):Int) ∧
 gA (S.part b (o+i.toNat*3) 3) fun t_1=>
 0≤i∧i<((n:Nat):Int) ∧
 t.all (·.oneCell')=true ∧
 pt S b (o+i.toNat*3) 3 t fun Sx=>
 0≤j∧j<((n:Nat):Int) ∧
 t_1.all (·.oneCell')=true ∧
 pt Sx b (o+j.toNat*3) 3 t_1 fun Sx_1=>
 Q Sx_1
theorem zbh {S:Mem} {r:Sl} {i:Int} {j:Int} {Q:Mem→Prop} (H:vt S r i j Q):gY S r i j Q:=by
 unfold vt at H
 exact Tr.intro Tryz.func271 E Tryz.ntmps271 E fun w0=>zI (by kernel_rfl)<|a_takeP 0 E (by decide +kernel) zd E (zk E)<|by exact a_takeP 1 E (by decide +kernel) zd E (zk E)<|by exact a_takeP 2 E (by decide +kernel) zd E (zk E)<|by exact a_takeP 3 E (by decide +kernel) zd E (zk E)<|by exact a_takeP 4 E (by decide +kernel) zd E (zk E)<|by exact a_takeP 5 E (by decide +kernel) zd E (zk E)<|by exact by obtain⟨b,o,n,n_1,rfl,H1⟩:=H;exact an2 H1 fun c c_1 H2=>a_takeP 6 E (by decide +kernel) zd E (yf E E c c_1 E)<|by exact gx H2 fun t ht H3=>by refine qp 7 E (by decide +kernel) zd E (zO E (zX ht)) (qX ht) ?_;exact a_takeP 8 E (by decide +kernel) zd E (zk E)<|by exact a_takeP 9 E (by decide +kernel) zd E (zk E)<|by exact an2 H3 fun c_2 c_3 H4=>a_takeP 10 E (by decide +kernel) zd E (yf E E c_2 c_3 E)<|by exact gx H4 fun t_1 ht_1 H5=>by refine qp 11 E (by decide +kernel) zd E (zO E (zX ht_1)) (qX ht_1) ?_;exact an2 H5 fun c_4 c_5 H6=>a_takeP 12 E (by decide +kernel) zd E (yf E E c_4 c_5 E)<|by exact zw 13 (by decide +kernel) E<|by exact an H6 fun c_6 H7=>an H7 fun c_7 H8=>zY E E E E (zX ht) c_7 c_6<|zn<|zF zu<|an2 H8 fun c_8 c_9 H9=>a_takeP 14 E (by decide +kernel) zd E (yf E E c_8 c_9 E)<|by exact zw 15 (by decide +kernel) E<|by exact an H9 fun c_10 H10=>an H10 fun c_11 H11=>zY E E E E (zX ht_1) c_11 c_10<|zn<|zF zu<|zJ (by decide +kernel)<|by exact kD Tryz.results271 (ze) ⟨E,H11⟩
def qg (S:Mem) (s:Sl) (del:Value) (Q:Sl→Mem→Prop):Prop:=
 qo S s del fun t Sx=>
 jn (fun (Sx_1:Mem)=>
 jn (fun (i:Int) (Sx_2:Mem)=>
 (0:Int)≤i∧(i:Int)≤(s.n:Int)∧(s.n:Int)≤(s.c:Int) ∧
 lt (slc 3 s i (s.n:Int)) fun t_1=>
 clr Sx_2 3 [.int .u64 0,.int .i64 0,.int .i64 0] t_1 fun Sx_3=>
 (0:Int)≤i∧i≤(s.c:Int) ∧
 lt (slc 3 s 0 i) fun t_2=>
 Q t_2 Sx_3) fun Jx=>
 lp (fun Xx (z:Int×Int) (Sx_4:Mem)=>
 match z with
 | (i_1,j)=>
 jn (fun (Sx_5:Mem)=>
 sl s fun b o n n_1=>
 0≤j∧j<((n:Nat):Int) ∧
 gA (Sx_5.part b (o+j.toNat*3) 3) fun t_3=>
 t_3.all (·.oneCell')=true ∧
 cv Tryz.prog Sx_5 del [valL t_3] fun rv Sx_6=>∃ t_4:Bool,rv=.bool t_4∧
 if t_4=true then
 Xx (i_1,IntKind.i64.wrap (j+1)) Sx_6
 else
 0≤i_1∧i_1<((n:Nat):Int) ∧
 t_3.all (·.oneCell')=true ∧
 pt Sx_6 b (o+i_1.toNat*3) 3 t_3 fun Sx_7=>
 Xx (IntKind.i64.wrap (i_1+1),IntKind.i64.wrap (j+1)) Sx_7) fun Jx_1=>
 if j<(s.n:Int) then
 Jx_1 Sx_4
 else
 Jx i_1 Sx_4) (t,IntKind.i64.wrap (t+1)) Sx_1) fun Jx_2=>
 if t=(-1) then
 Q s Sx
 else
 Jx_2 Sx
theorem qF {S:Mem} {s:Sl} {del:Value} {Q:Sl→Mem→Prop} (H:qg S s del Q):qk S s del Q:=by
 unfold qg at H
 exact Tr.intro Tryz.func216 E Tryz.ntmps216 E fun w0=>csr<|gv E E<|nxr<|mv E E<|mv E E<|qM E E H fun t Sx H1=>gv E E<|nx<|zm H1 (fun (J:Mem→Prop) (z:Unit) S=>J S) (fun z=>⟨42,[(0,eL s),(1,del),(5,.int .i64 t)]⟩) (fun z=>[]) (fun _ Sx_1 H2=>zm H2 (fun (J:Int→Mem→Prop) (z:Int) S=>J z S) (fun z=>⟨42,[(0,eL s),(5,.int .i64 z)]⟩) (fun z=>[]) (fun i Sx_2 H3=>csr<|mv E E<|mv E E<|an3 H3 fun c c_1 c_2 H4=>by obtain⟨t_1,et_1,H5⟩:=zje H4;exact s_p E (eqv (zfK (a:=i) (b:=(s.n:Int)) E E E c c_1 c_2) (congrArg eL et_1))<|zlt (s:=t_1) (z:=[.int .u64 0,.int .i64 0,.int .i64 0]) E E E H5 fun Sx_3 H6=>nxr<|mv E E<|mv E E<|an2 H6 fun c_4 c_5 H7=>by obtain⟨t_2,et_2,H8⟩:=zje H7;exact s_p E (eqv (zfK (a:=0) (b:=i) E E E (by decide) c_4 c_5) (congrArg eL et_2))<|gv E E<|nx<|zi<|zh Tryz.results216 (zc E ze) ⟨_,E,H8⟩) (fun Jx hJx H9=>csr<|mv E E<|s_p E (qd E E)<|gv E E<|nx<|zE<|qS (fun z=>⟨42,[(0,eL s),(1,del),(5,.int .i64 z.1),(6,.int .i64 z.2)]⟩) (fun z=>[]) (t,IntKind.i64.wrap (t+1)) (idx:=[]) H9 E ⟨E,E,E,E,True.intro⟩ E<|by rintro Xx hXx ⟨i_1,j⟩ Sx_4 H10;exact zm H10 (fun (J:Mem→Prop) (z:Unit) S=>J S) (fun z=>⟨42,[(0,eL s),(1,del),(5,.int .i64 i_1),(6,.int .i64 j)]⟩) (fun z=>[]) (fun _ Sx_5 H11=>zG<|zE<|csr<|mv E E<|mv E E<|by obtain⟨b,o,n,n_1,rfl,H12⟩:=H11;exact an2 H12 fun c_6 c_7 H13=>s_p E (yf E E c_6 c_7 E)<|gx H13 fun t_3 ht_3 H14=>by refine s_v E (zO E (zX ht_3)) (qX ht_3) ?_;exact by refine zP E fun b_1=>?_;exact an H14 fun c_8 H15=>zq 0 E E E E E (zX ht_3) E c_8<|nxr<|mv E E<|by refine s_v E (zO E (zX ht_3)) (zD (k:=3) 0 E (zg (zX ht_3))) ?_;exact zkl E E E H15 fun rv Sx_6 H16=>by obtain⟨t_4,rfl,H17⟩:=H16;exact by have H18:=wO H17;rcases H18 with ⟨rfl,H19⟩ | ⟨rfl,H19⟩;exact (s_p E (yB (qe E) E)<|nx<|cfs E E<|zS<|zr<|zx<|mv E E<|s_p E (qd E E)<|gv E E<|zn<|hXx (i_1,IntKind.i64.wrap (j+1)) _ _ _ _ [] H19 E ⟨E,E,E,E,True.intro⟩ E);exact (s_p E (yB (qe E) E)<|nx<|c_t E E<|csr<|mv E E<|mv E E<|by refine s_v E (zO E (zX ht_3)) (zD (k:=3) 0 E (zg (zX ht_3))) ?_;exact an2 H19 fun c_9 c_10 H20=>s_p E (yf E E c_9 c_10 E)<|an H20 fun c_11 H21=>an H21 fun c_12 H22=>zY E E E E (zX ht_3) c_12 c_11<|nx<|zx<|mv E E<|s_p E (qd E E)<|gv E E<|zn<|zS<|zr<|zx<|mv E E<|s_p E (qd E E)<|gv E E<|zn<|hXx (IntKind.i64.wrap (i_1+1),IntKind.i64.wrap (j+1)) _ _ _ _ [] H22 E ⟨E,E,E,E,True.intro⟩ E)) (fun Jx_1 hJx_1 H23=>csr<|mv E E<|mv E E<|s_p E (wP E)<|iteK H23 (fun c_13 H24=>s_p E (yT (zH E E) c_13)<|nx<|c_t E E<|qw<|hJx_1 () _ _ _ _ [] H24 E ⟨E,E,E,E,True.intro⟩ E) fun c_13 H24=>s_p E (yF (zH E E) c_13)<|nx<|c_f E E<|qB<|zo<|zo<|zV<|hJx i_1 _ _ _ _ [] H24 E ⟨E,E,True.intro⟩ E))) (fun Jx_2 hJx_2 H25=>csr<|mv E E<|iteK H25 (fun c_14 H26=>ceT E E E (c_14)<|nx<|c_t E E<|csr<|mv E E<|gv E E<|nx<|zi<|zb<|zh Tryz.results216 (zc E ze) ⟨_,E,H26⟩) fun c_14 H26=>ceF E E E (c_14)<|nx<|cfs E E<|hJx_2 () _ _ _ _ [] H26 E ⟨E,E,E,True.intro⟩ E)
def qh (S:Mem) (s:Sl) (f:Value) (Q:Int→Mem→Prop):Prop:=
 jn (fun (Sx:Mem)=>
 Q (-1) Sx) fun Jx=>
 lp (fun Xx (t:Int) (Sx_1:Mem)=>
 if t<(s.n:Int) then
 sl s fun b o n n_1=>
 0≤t∧t<((n:Nat):Int) ∧
 gA (Sx_1.part b (o+t.toNat*3) 3) fun t_1=>
 cv Tryz.prog Sx_1 f [valL t_1] fun rv Sx_2=>∃ t_2:Bool,rv=.bool t_2∧
 if t_2=true then
 Q t Sx_2
 else
 Xx (IntKind.i64.wrap (t+1)) Sx_2
 else
 Jx Sx_1) 0 S
theorem qL {S:Mem} {s:Sl} {f:Value} {Q:Int→Mem→Prop} (H:qh S s f Q):qo S s f Q:=by
 unfold qh at H
 exact Tr.intro Tryz.func235 E Tryz.ntmps235 E fun w0=>csr<|gv E E<|nx<|zm H (fun (J:Mem→Prop) (z:Unit) S=>J S) (fun z=>⟨19,[]⟩) (fun z=>[]) (fun _ Sx H1=>csr<|gv E E<|nx<|zi<|zh Tryz.results235 (zc E ze) ⟨_,E,H1⟩) (fun Jx hJx H2=>csr<|mv E E<|s_p E (wP E)<|mv E E<|nx<|zE<|qS (fun z=>⟨19,[(0,eL s),(1,f),(7,.int .i64 (s.n:Int)),(8,.int .i64 z)]⟩) (fun z=>[]) 0 (idx:=[]) H2 E ⟨E,E,E,E,True.intro⟩ E<|fun Xx hXx t Sx_1 H3=>csr<|iteK H3 (fun c H4=>s_p E (yT (zH E E) c)<|nx<|zG<|c_t E E<|qw<|zr<|zG<|zE<|csr<|mv E E<|gv E E<|nxr<|mv E E<|mv E E<|mv E E<|by obtain⟨b,o,n,n_1,rfl,H5⟩:=H4;exact an2 H5 fun c_1 c_2 H6=>s_p E (yf E E c_1 c_2 E)<|gx H6 fun t_1 ht_1 H7=>by refine s_v E (zO E (zX ht_1)) (qX ht_1) ?_;exact zkl E E E H7 fun rv Sx_2 H8=>by obtain⟨t_2,rfl,H9⟩:=H8;exact by have H10:=wO H9;rcases H10 with ⟨rfl,H11⟩ | ⟨rfl,H11⟩;exact (nx<|c_t E E<|csr<|mv E E<|gv E E<|nx<|zi<|zl<|zb<|zb<|zl<|zb<|zh Tryz.results235 (zc E ze) ⟨_,E,H11⟩);exact (nx<|cfs E E<|zS<|zr<|zx<|s_p E (qd E E)<|mv E E<|zn<|hXx (IntKind.i64.wrap (t+1)) _ _ _ _ [] H11 E ⟨E,E,E,E,True.intro⟩ E)) fun c H4=>s_p E (yF (zH E E) c)<|nx<|zG<|c_f E E<|qB<|zo<|zo<|zV<|hJx () _ _ _ _ [] H4 E True.intro E)
end Go.Proofs.YtabdpmnhjlmnlaaGreatDoor
end
section
namespace Go.Hp
section
variable {α:Type} [Inhabited α]
def gt (l:List α) (i:Nat):α:=l.getD i default
def sw (l:List α) (i j:Nat):List α:=(l.set i (gt l j)).set j (gt l i)
theorem zgq {l:List α} {i:Nat} (h:i<l.length):gt l i=l[i]:=by simp[gt,h]
theorem zdI (l:List α) (i j:Nat):(sw l i j).length=l.length:=by simp[sw]
theorem zjh {l:List α} {i k:Nat} {a:α} (h:i<l.length):gt (l.set i a) k=if k=i then a else gt l k:=by
 simp only[gt,List.getD_eq_getElem?_getD,List.getElem?_set]
 by_cases e:i=k
 ·subst e;simp[h]
 ·rw[if_neg e,if_neg (fun h=>e h.symm)]
theorem zdo {l:List α} {i j k:Nat} (hi:i<l.length) (hj:j<l.length):gt (sw l i j) k=if k=j then gt l i else if k=i then gt l j else gt l k:=by
 rw[sw,zjh (by simpa using hj),zjh hi]
theorem zgQ {l:List α} {i j:Nat} (hi:i<l.length) (hj:j<l.length):(sw l i j).Perm l:=by
 rw[sw,zgq hi,zgq hj];exact List.set_set_perm hi hj
structure Ord (lt:α→α→Bool):Prop where
 asym:∀ a b,lt a b=true→lt b a=false
 trans:∀ a b c,lt b a=false→lt c b=false→lt c a=false
variable {lt:α→α→Bool}
def HpF (lt:α→α→Bool) (l:List α) (n lo:Nat):Prop:=∀ k,0<k→k<n→lo≤(k-1)/2→lt (gt l k) (gt l ((k-1)/2))=false
def Heap (lt:α→α→Bool) (l:List α):Prop:=HpF lt l l.length 0
structure Dn (lt:α→α→Bool) (l:List α) (n lo i:Nat):Prop where
 from_:lo≤i
 all:∀ k,0<k→k<n→lo≤(k-1)/2→(k-1)/2≠i→lt (gt l k) (gt l ((k-1)/2))=false
 over:lo<i→∀ k,0<k→k<n→(k-1)/2=i→lo≤(i-1)/2→lt (gt l k) (gt l ((i-1)/2))=false
theorem Dn.start {l:List α} {n lo:Nat} (h:HpF lt l n (lo+1)):Dn lt l n lo lo:=
 ⟨Nat.le_refl _,fun k h1 h2 h3 h4=>h k h1 h2 (by omega),fun h=>absurd h (Nat.lt_irrefl _)⟩
theorem Dn.leaf {l:List α} {n lo i:Nat} (h:Dn lt l n lo i) (hl:n≤2*i+1):HpF lt l n lo:=fun k h1 h2 h3=>h.all k h1 h2 h3 (by omega)
theorem Dn.stop (hO:Ord lt) {l:List α} {n lo i j:Nat} (h:Dn lt l n lo i) (hm:∀ k,k=2*i+1∨k=2*i+2→k<n→lt (gt l k) (gt l j)=false) (hs:lt (gt l j) (gt l i)=false):HpF lt l n lo:=fun k h1 h2 h3=>by
 by_cases e:(k-1)/2=i
 ·rw[e]
  exact hO.trans _ _ _ hs (hm k (by omega) h2)
 ·exact h.all k h1 h2 h3 e
theorem Dn.next (hO:Ord lt) {l:List α} {n lo i j:Nat} (h:Dn lt l n lo i) (hn:n≤l.length) (hjn:j<n) (hj:j=2*i+1∨j=2*i+2) (hm:∀ k,k=2*i+1∨k=2*i+2→k<n→lt (gt l k) (gt l j)=false) (hs:lt (gt l j) (gt l i)=true):Dn lt (sw l i j) n lo j:=by
 have hf:=h.from_
 have hi:i<l.length:=by omega
 have hj':j<l.length:=by omega
 have hji:(j-1)/2=i:=by omega
 refine⟨by omega,fun k h1 h2 h3 h4=>?_,fun _ k h1 h2 h3 _=>?_⟩
 ·rw[zdo hi hj',zdo hi hj']
  by_cases e1:k=j
  ·subst e1
   rw[if_pos rfl,if_neg (by omega),if_pos hji]
   exact hO.asym _ _ hs
  ·rw[if_neg e1]
   by_cases e2:k=i
   ·subst e2
    rw[if_pos rfl,if_neg (by omega),if_neg (by omega)]
    exact h.over (by omega) j (by omega) hjn hji h3
   ·rw[if_neg e2,if_neg h4]
    by_cases e3:(k-1)/2=i
    ·rw[if_pos e3];exact hm k (by omega) h2
    ·rw[if_neg e3];exact h.all k h1 h2 h3 e3
 ·rw[zdo hi hj',zdo hi hj',if_neg (by omega),if_neg (by omega),if_neg (by omega),if_pos hji]
  have:=h.all k h1 h2 (by omega) (by omega)
  rw[h3] at this
  exact this
structure Up (lt:α→α→Bool) (l:List α) (j:Nat):Prop where
 all:∀ k,0<k→k<l.length→k≠j→lt (gt l k) (gt l ((k-1)/2))=false
 over:0<j→∀ k,0<k→k<l.length→(k-1)/2=j→lt (gt l k) (gt l ((j-1)/2))=false
theorem gX {l r:List α} {k:Nat} (h:k<l.length):gt (l++r) k=gt l k:=by simp[gt,List.getD_eq_getElem?_getD,List.getElem?_append_left h]
theorem Up.start {l:List α} {a:α} (h:Heap lt l):Up lt (l++[a]) l.length:=by
 refine⟨fun k h1 h2 h3=>?_,fun _ k h1 h2 h3=>?_⟩
 ·simp only[List.length_append,List.length_singleton] at h2
  rw[gX (by omega),gX (by omega)]
  exact h k h1 (by omega) (by omega)
 ·simp only[List.length_append,List.length_singleton] at h2;omega
theorem Up.top {l:List α} (h:Up lt l 0):Heap lt l:=fun k h1 h2 _=>h.all k h1 h2 (by omega)
theorem Up.stop {l:List α} {j:Nat} (h:Up lt l j) (hs:lt (gt l j) (gt l ((j-1)/2))=false):Heap lt l:=fun k h1 h2 _=>by
 by_cases e:k=j
 ·subst e;exact hs
 ·exact h.all k h1 h2 e
theorem Up.next (hO:Ord lt) {l:List α} {j:Nat} (h:Up lt l j) (h0:0<j) (hj:j<l.length) (hs:lt (gt l j) (gt l ((j-1)/2))=true):Up lt (sw l ((j-1)/2) j) ((j-1)/2):=by
 have hi:(j-1)/2<l.length:=by omega
 refine⟨fun k h1 h2 h3=>?_,fun hp k h1 h2 h3=>?_⟩
 ·rw[zdI] at h2
  rw[zdo hi hj,zdo hi hj]
  by_cases e1:k=j
  ·subst e1
   rw[if_pos rfl,if_neg (by omega),if_pos rfl]
   exact hO.asym _ _ hs
  ·rw[if_neg e1,if_neg h3]
   by_cases e2:(k-1)/2=j
   ·rw[if_pos e2];exact h.over h0 k h1 h2 e2
   ·rw[if_neg e2]
    by_cases e3:(k-1)/2=(j-1)/2
    ·rw[if_pos e3]
     have:=h.all k h1 h2 e1
     rw[e3] at this
     exact hO.trans _ _ _ (hO.asym _ _ hs) this
    ·rw[if_neg e3];exact h.all k h1 h2 e1
 ·rw[zdI] at h2
  rw[zdo hi hj,zdo hi hj]
  have hup:=h.all ((j-1)/2) hp hi (by omega)
  rw[if_neg (by omega:¬((j-1)/2-1)/2=j),if_neg (by omega:¬((j-1)/2-1)/2=(j-1)/2)]
  by_cases e1:k=j
  ·subst e1;rw[if_pos rfl];exact hup
  ·rw[if_neg e1,if_neg (by omega)]
   have:=h.all k h1 h2 e1
   rw[h3] at this
   exact hO.trans _ _ _ hup this
theorem Heap.least (hO:Ord lt) (hr:∀ a,lt a a=false) {l:List α} (h:Heap lt l):∀ k,k<l.length→lt (gt l k) (gt l 0)=false:=by
 intro k
 induction k using Nat.strongRecOn with
 | _ k ih=>
  intro hk
  by_cases h0:k=0
  ·subst h0;exact hr _
  ·exact hO.trans _ _ _ (ih ((k-1)/2) (by omega) (by omega)) (h k (by omega) hk (by omega))
theorem HpF.take {l:List α} {n:Nat} (h:HpF lt l n 0) (hn:n≤l.length):Heap lt (l.take n):=fun k h1 h2 _=>by
 rw[List.length_take,Nat.min_eq_left hn] at h2
 have e:∀ m,m<n→gt (l.take n) m=gt l m:=fun m hm=>by simp[gt,List.getD_eq_getElem?_getD,hm]
 rw[e k h2,e _ (by omega)]
 exact h k h1 h2 (by omega)
theorem HpF.leafs {l:List α} {n:Nat}:HpF lt l n (n/2):=fun k h1 h2 h3=>by omega
end
end Go.Hp
end
section
namespace Go.Pt
def Grows (S S':Mem):Prop:=∀ x,S x≠none→S' x≠none
theorem Grows.refl {S:Mem}:Grows S S:=fun _ h=>h
theorem Grows.trans {S S' S'':Mem} (h:Grows S S') (k:Grows S' S''):Grows S S'':=fun x hx=>k x (h x hx)
theorem Grows.set {S S':Mem} (h:Grows S S') {b:Nat} {k:Blk}:Grows S (S'.set b k):=fun x hx=>by
 by_cases e:x=b
 ·rw[e,qf];simp
 ·rw[yl e];exact h x hx
theorem Grows.keeps {S S':Mem} (h:Keeps S S' []):Grows S S':=fun x hx=>by rw[h x hx (by simp)];exact hx
end Go.Pt
end
section
namespace Go.Proofs.YtabdpmnhjlmnlaaGreatDoor.Hk
open Go Go.Pt Go.Hp
open Go.Proofs.YtabdpmnhjlmnlaaGreatDoor
structure Al where
 tm:Int
 vm:Int
 seat:Int
deriving DecidableEq,Inhabited
def ce (a:Al):List Value:=[.int .u64 a.tm,.int .i64 a.vm,.int .i64 a.seat]
def fl (l:List Al):List Value:=l.flatMap ce
def bf (a b:Al):Bool:=if a.tm≠b.tm then decide (a.tm<b.tm) else if a.vm≠b.vm then decide (a.vm<b.vm) else decide (a.seat<b.seat)
theorem zjm {a b:Al}:bf a b=true↔a.tm<b.tm∨(a.tm=b.tm∧(a.vm<b.vm∨(a.vm=b.vm∧a.seat<b.seat))):=by
 unfold bf
 split
 ·simp;omega
 ·split
  ·simp;omega
  ·simp;omega
theorem zkg {a b:Al}:bf a b=false↔¬(a.tm<b.tm∨(a.tm=b.tm∧(a.vm<b.vm∨(a.vm=b.vm∧a.seat<b.seat)))):=by
 rw[←zjm];simp
theorem zia (a:Al):bf a a=false:=by rw[zkg];omega
theorem bf_ord:Ord bf:=⟨fun a b h=>by rw[zjm] at h;rw[zkg];omega,fun a b c h1 h2=>by rw[zkg] at *;omega⟩
theorem vS (a:Al):(ce a).length=3:=rfl
theorem zel (a:Al):(ce a).all (·.oneCell')=true:=rfl
theorem yc (l:List Al):(fl l).length=l.length*3:=by
 induction l with
 | nil=>rfl
 | cons a l ih=>simp only[fl,List.flatMap_cons,List.length_append,List.length_cons] at *;rw[ih,vS];omega
theorem zaw (l r:List Al):fl (l++r)=fl l++fl r:=by simp[fl]
theorem zdq {l:List Al} {i:Nat} (h:i<l.length):fl l=fl (l.take i)++(ce (gt l i)++fl (l.drop (i+1))):=by
 have e:l=l.take i++(gt l i :: l.drop (i+1)):=by
  rw[zgq h,List.getElem_cons_drop,List.take_append_drop]
 have e2:fl l=fl (l.take i++(gt l i :: l.drop (i+1))):=congrArg fl e
 rw[e2,zaw]
 rfl
theorem zjT {l:List Al} {j:List Value} {i:Nat} (h:i<l.length):lpart (fl l++j) (i*3) 3=some (ce (gt l i)):=by
 have hln:=yc l
 rw[qR (by simp only[List.length_append];omega),zdq h]
 have ht:(fl (l.take i)).length=i*3:=by rw[yc,List.length_take];omega
 congr 1
 rw[List.append_assoc,List.drop_left' ht,List.append_assoc,List.take_left' (vS _)]
theorem zkV {l:List Al} {j:List Value} {i:Nat} {a:Al} (h:i<l.length):spl (fl l++j) (i*3) (ce a)=fl (l.set i a)++j:=by
 have hln:=yc l
 rw[xF _ _ _ (by simp only[List.length_append];omega)]
 have ht:(fl (l.take i)).length=i*3:=by rw[yc,List.length_take];omega
 have e1:fl (l.set i a)=fl (l.take i)++(ce a++fl (l.drop (i+1))):=by
  rw[List.set_eq_take_append_cons_drop,if_pos h,zaw]
  rfl
 have h1:(fl l++j).take (i*3)=fl (l.take i):=by
  rw[zdq h,List.append_assoc,List.take_left' ht]
 have h2:(fl l++j).drop (i*3+(ce a).length)=fl (l.drop (i+1))++j:=by
  rw[zdq h,vS,←List.drop_drop,List.append_assoc,List.drop_left' ht,List.append_assoc,List.drop_left' (vS _)]
 rw[h1,h2,e1]
 simp
structure Ro (S:Mem) (b o c:Nat) (t:TypeId) (s:Sl) (n:Nat):Prop where
 cell:S.cell b o=some (eL s)
 p:s.p=some (c,0)
 n:s.n=n
 ne:b≠c
def wi (S:Mem) (c:Nat) (t:TypeId) (j:List Value) (l:List Al):Mem:=S.set c (bw t (fl l++j))
theorem zkk {S:Mem} {c:Nat} {t:TypeId} {j:List Value} {l:List Al}:wi S c t j l c=some (bw t (fl l++j)):=qf
section
variable {S:Mem} {b o c:Nat} {t:TypeId} {s:Sl} {j:List Value} {l:List Al} {n:Nat}
theorem zeq (h:b≠c):(wi S c t j l).cell b o=S.cell b o:=by
 unfold Mem.cell wi;rw[yl h]
theorem zff {S:Mem} {x y:Al} {Q:Bool→Mem→Prop} (hQ:Q (bf x y) S):wN S (ce x) (ce y) Q:=by
 apply gO
 unfold xR
 refine⟨rfl,rfl,?_⟩
 simp only[jn]
 rw[zW (show nthL (ce x) 0=some (.int .u64 x.tm) from rfl),zW (show nthL (ce y) 0=some (.int .u64 y.tm) from rfl)]
 unfold bf at hQ
 by_cases h1:x.tm≠y.tm
 ·rw[if_pos h1] at hQ ⊢
  rw[zW (show nthL (ce x) 0=some (.int .u64 x.tm) from rfl),zW (show nthL (ce y) 0=some (.int .u64 y.tm) from rfl)]
  exact hQ
 ·rw[if_neg h1] at hQ ⊢
  rw[zW (show nthL (ce x) 1=some (.int .i64 x.vm) from rfl),zW (show nthL (ce y) 1=some (.int .i64 y.vm) from rfl)]
  by_cases h2:x.vm≠y.vm
  ·rw[if_pos h2] at hQ ⊢
   rw[zW (show nthL (ce x) 1=some (.int .i64 x.vm) from rfl),zW (show nthL (ce y) 1=some (.int .i64 y.vm) from rfl)]
   exact hQ
  ·rw[if_neg h2] at hQ ⊢
   rw[zW (show nthL (ce x) 2=some (.int .i64 x.seat) from rfl),zW (show nthL (ce y) 2=some (.int .i64 y.seat) from rfl)]
   exact hQ
theorem zaC {i:Nat} (h:i<l.length):(wi S c t j l).part c (0+i*3) 3=some (ce (gt l i)):=by
 rw[xG zkk,Nat.zero_add];exact zjT h
theorem zgH {i:Nat} {a:Al} {K:Mem→Prop} (h:i<l.length) (hK:K (wi S c t j (l.set i a))):pt (wi S c t j l) c (0+i*3) 3 (ce a) K:=by
 have hln:=yc l
 refine zkm (t:=t) (cs:=fl l++j) zkk (by simp only[List.length_append];omega) ?_
 rw[Nat.zero_add,zkV h]
 simpa [wi] using hK
theorem zjL {cap:Nat} {x y:Nat} (hx:x<l.length) (hy:y<l.length) (hn:n=l.length) {Q:Bool→Mem→Prop} (hQ:Q (bf (gt l x) (gt l y)) (wi S c t j l)):gZ (wi S c t j l) ⟨some (c,0),n,cap⟩ x y Q:=by
 apply zbj
 unfold vv
 rw[zah]
 refine⟨by omega,by omega,?_⟩
 rw[Int.toNat_natCast,zbk (zaC hx)]
 refine⟨by omega,by omega,?_⟩
 rw[Int.toNat_natCast,zbk (zaC hy)]
 exact zff hQ
theorem zjv {cap:Nat} {x y:Nat} (hx:x<l.length) (hy:y<l.length) (hn:n=l.length) {Q:Mem→Prop} (hQ:Q (wi S c t j (sw l x y))):gY (wi S c t j l) ⟨some (c,0),n,cap⟩ x y Q:=by
 apply zbh
 unfold vt
 rw[zah]
 refine⟨by omega,by omega,?_⟩
 rw[Int.toNat_natCast,Int.toNat_natCast,zbk (zaC hy)]
 refine⟨by omega,by omega,?_⟩
 rw[zbk (zaC hx)]
 refine⟨by omega,by omega,zel _,zgH hx ?_⟩
 refine⟨by omega,by omega,zel _,zgH (by simpa using hy) ?_⟩
 exact hQ
abbrev rw_ (b o:Nat):Value:=.iface 269 (.pointer (some ⟨b,o,none⟩))
theorem zfc (hr : Ro S b o c t s l.length) {x y : Nat} (hx : x < l.length) (hy : y < l.length) {R : Value → Mem → Prop} (hR : R (.bool (bf (gt l x) (gt l y))) (wi S c t j l)) : ci Tryz.prog (wi S c t j l) (rw_ b o) "Less" [.int .i64 x, .int .i64 y] R := by
 obtain⟨p,n,cap⟩:=s
 obtain⟨h1,h2,h3,h4⟩:=hr
 simp only at h2 h3
 subst h2;subst h3
 exact zlF (v:=eL ⟨some (c,0),l.length,cap⟩) (by rw[zeq h4];exact h1) (Tr.mono (zjL hx hy rfl (Q:=fun r S'=>R (.bool r) S') hR) (by rintro v S' ⟨r,rfl,h⟩;exact h))
theorem zhV (hr : Ro S b o c t s l.length) {x y : Nat} (hx : x < l.length) (hy : y < l.length) {R : Value → Mem → Prop} (hR : R (.tuple #[]) (wi S c t j (sw l x y))) : ci Tryz.prog (wi S c t j l) (rw_ b o) "Swap" [.int .i64 x, .int .i64 y] R := by
 obtain⟨p,n,cap⟩:=s
 obtain⟨h1,h2,h3,h4⟩:=hr
 simp only at h2 h3
 subst h2;subst h3
 exact zlF (v:=eL ⟨some (c,0),l.length,cap⟩) (by rw[zeq h4];exact h1) (Tr.mono (zjv hx hy rfl (Q:=fun S'=>R (.tuple #[]) S') hR) (by rintro v S' ⟨rfl,h⟩;exact h))
theorem zhW (hr : S.cell b o = some (eL s)) {R : Value → Mem → Prop} (hR : R (.int .i64 s.n) S) : ci Tryz.prog S (rw_ b o) "Len" [] R :=
 zlF hr (Tr.mono (zbz (S:=S) (r:=s) (Q:=fun r S'=>R (.int .i64 r) S') hR) (by rintro v S' ⟨r,rfl,h⟩;exact h))
theorem Ro.len (hr:Ro S b o c t s n) {m:Nat} (h:m=n):Ro S b o c t s m:=h ▸ hr
theorem zhQ (hr:Ro S b o c t s l.length) {lo n:Nat} (hn:n≤l.length) (hlo:lo<l.length) (hl:l.length<1000000) (h:HpF bf l n (lo+1)) {Q:Bool→Mem→Prop}
  (hQ:∀ r l',l'.Perm l→HpF bf l' n lo→(∀ k,n≤k→gt l' k=gt l k)→Q r (wi S c t j l')):zbP (wi S c t j l) (rw_ b o) lo n Q:=by
 apply zeA
 unfold fQ
 simp only[jn]
 refine qx (fun (z:Int) S'=>∃ (i:Nat) (l':List Al),z=(i:Int)∧S'=wi S c t j l'∧l'.Perm l∧Dn bf l' n lo i∧i<l.length∧(∀ k,n≤k→gt l' k=gt l k)) (fun z=>(l.length-z).toNat) ?_
  ⟨lo,l,rfl,rfl,List.Perm.refl _,Dn.start h,hlo,fun _ _=>rfl⟩
 rintro X z S' ⟨i,l',rfl,rfl,hp,hd,hi,hk⟩ ih
 have hlen:=hp.length_eq
 have hr':Ro S b o c t s l'.length:=hr.len hlen
 rw[w64 (x:=2*(i:Int)) (by omega) (by omega),w64 (x:=2*(i:Int)+1) (by omega) (by omega),w64 (x:=2*(i:Int)+1+1) (by omega) (by omega)]
 by_cases h1:(n:Int)≤2*(i:Int)+1
 ·rw[if_pos h1]
  exact hQ _ l' hp (hd.leaf (by omega)) hk
 rw[if_neg h1,if_neg (by omega:¬2*(i:Int)+1<0)]
 have e1:2*(i:Int)+1=((2*i+1:Nat):Int):=by omega
 have e2:2*(i:Int)+1+1=((2*i+2:Nat):Int):=by omega
 rw[e2,e1]
 have rest:∀ jx:Nat,(jx=2*i+1∨jx=2*i+2)→jx<n→(∀ k,k=2*i+1∨k=2*i+2→k<n→bf (gt l' k) (gt l' jx)=false) →
   ci Tryz.prog (wi S c t j l') (rw_ b o) "Less" [.int .i64 (jx : Int), .int .i64 (i : Int)] (fun rv Sx_4 => ∃ t_1 : Bool, rv = .bool t_1 ∧ 
       if t_1=true then
        ci Tryz.prog Sx_4 (rw_ b o) "Swap" [.int .i64 (i : Int), .int .i64 (jx : Int)] fun rv Sx_5 => rv = .tuple #[] ∧ 
        X jx Sx_5
       else
       Q (decide ((lo:Int)<i)) Sx_4):=by
  intro jx hj hjn hm
  refine zfc hr' (by omega) (by omega) ⟨_,rfl,?_⟩
  by_cases hs:bf (gt l' jx) (gt l' i)=true
  ·rw[if_pos hs]
   refine zhV hr' (by omega) (by omega) ⟨rfl,?_⟩
   refine ih _ _ ⟨jx,_,rfl,rfl,(zgQ (by omega) (by omega)).trans hp,hd.next bf_ord (by omega) hjn hj hm hs,by omega,fun k hkn=>?_⟩ (by omega)
   rw[zdo (by omega) (by omega),if_neg (by omega),if_neg (by omega)]
   exact hk k hkn
  ·rw[if_neg hs]
   exact hQ _ l' hp (hd.stop bf_ord hm (by simpa using hs)) hk
 by_cases h2:((2*i+2:Nat):Int)<n
 ·rw[if_pos h2]
  refine zfc hr' (by omega) (by omega) ⟨_,rfl,?_⟩
  by_cases hs:bf (gt l' (2*i+2)) (gt l' (2*i+1))=true
  ·rw[if_pos hs]
   refine rest _ (.inr rfl) (by omega) ?_
   rintro k (rfl | rfl) hkn
   ·exact bf_ord.asym _ _ hs
   ·exact zia _
  ·rw[if_neg hs]
   refine rest _ (.inl rfl) (by omega) ?_
   rintro k (rfl | rfl) hkn
   ·exact zia _
   ·simpa using hs
 ·rw[if_neg h2]
  refine rest _ (.inl rfl) (by omega) ?_
  rintro k (rfl | rfl) hkn
  ·exact zia _
  ·omega
theorem zjt (hr:Ro S b o c t s l.length) {x:Nat} (hx:x<l.length) (hl:l.length<1000000) (h:Up bf l x) {Q:Mem→Prop}
  (hQ:∀ l',l'.Perm l→Heap bf l'→Q (wi S c t j l')):zeV (wi S c t j l) (rw_ b o) x Q:=by
 apply zgO
 unfold zcf
 simp only[jn]
 refine qx (fun (z:Int) S'=>∃ (i:Nat) (l':List Al),z=(i:Int)∧S'=wi S c t j l'∧l'.Perm l∧Up bf l' i∧i<l.length) (fun z=>z.toNat) ?_ ⟨x,l,rfl,rfl,List.Perm.refl _,h,hx⟩
 rintro X z S' ⟨i,l',rfl,rfl,hp,hu,hi⟩ ih
 have hlen:=hp.length_eq
 have hr':Ro S b o c t s l'.length:=hr.len hlen
 rw[w64 (x:=(i:Int)-1) (by omega) (by omega)]
 by_cases h0:i=0
 ·subst h0
  rw[if_pos (by decide)]
  exact hQ l' hp hu.top
 have e:IntKind.i64.wrap (Int.tdiv ((i:Int)-1) 2)=(((i-1)/2:Nat):Int):=by
  rw[td (by omega),w64 (by omega) (by omega)];omega
 rw[e,if_neg (by omega)]
 refine zfc hr' (by omega) (by omega) ⟨_,rfl,?_⟩
 by_cases hs:bf (gt l' i) (gt l' ((i-1)/2))=true
 ·rw[if_pos hs]
  refine zhV hr' (by omega) (by omega) ⟨rfl,?_⟩
  exact ih _ _ ⟨_,_,rfl,rfl,(zgQ (by omega) (by omega)).trans hp,hu.next bf_ord (by omega) (by omega) hs,by omega⟩ (by omega)
 ·rw[if_neg hs]
  exact hQ l' hp (hu.stop (by simpa using hs))
theorem zhG (hr:Ro S b o c t s l.length) (hl:l.length<1000000) {Q:Mem→Prop} (hQ:∀ l',l'.Perm l→Heap bf l'→Q (wi S c t j l')):zau (wi S c t j l) (rw_ b o) Q:=by
 apply zbw
 unfold jk
 refine zhW (s:=s) (by rw[zeq hr.ne];exact hr.cell) ⟨_,rfl,?_⟩
 rw[hr.n,td (by omega),w64 (x:=(l.length:Int)/2) (by omega) (by omega),w64 (by omega) (by omega)]
 refine qx (fun (z:Int) S'=>∃ (i:Nat) (l':List Al),z=(i:Int)-1∧S'=wi S c t j l'∧l'.Perm l∧HpF bf l' l.length i∧i≤l.length/2) (fun z=>(z+1).toNat) ?_ ⟨l.length/2,l,by omega,rfl,List.Perm.refl _,HpF.leafs,by omega⟩
 rintro X z S' ⟨i,l',rfl,rfl,hp,hh,hi⟩ ih
 have hlen:=hp.length_eq
 by_cases h0:0≤(i:Int)-1
 ·rw[if_pos h0]
  have e:(i:Int)-1=((i-1:Nat):Int):=by omega
  rw[e]
  refine zhQ (hr.len hlen) (by omega) (by omega) (by omega) (by rw[show i-1+1=i by omega];exact hh) fun r l2 hp2 hh2 _=>?_
  rw[w64 (by omega) (by omega)]
  exact ih _ _ ⟨i-1,l2,by omega,rfl,hp2.trans hp,hh2,by omega⟩ (by omega)
 ·rw[if_neg h0]
  have:i=0:=by omega
  subst this
  exact hQ l' hp (by unfold Heap;rw[hlen];exact hh)
end
end Go.Proofs.YtabdpmnhjlmnlaaGreatDoor.Hk
namespace Go.Proofs.YtabdpmnhjlmnlaaGreatDoor.Hk
open Go Go.Pt Go.Hp
open Go.Proofs.YtabdpmnhjlmnlaaGreatDoor
theorem zio {S:Mem} {b c:Nat} {k m:Blk} (h:b≠c):(S.set c m).set b k=(S.set b k).set c m:=by
 funext x;simp only[Mem.set]
 by_cases h1:x=b
 ·by_cases h2:x=c
  ·exact absurd (h1.symm.trans h2) h
  ·simp[h1,h]
 ·simp[h1]
def own (s:Sl):List Nat:=match s.p with
 | none=>[]
 | some (c,_)=>[c]
structure Ck (S:Mem) (b o:Nat) (tb:TypeId) (cs:List Value) (s:Sl) (l:List Al):Prop where
 blk:S b=some (bw tb cs)
 cell:nthL cs o=some (eL s)
 row:Row S 3 s (fl l)
 ne:∀ c∈own s,b≠c
 heap:Heap bf l
 len:l.length<100000
section
variable {S:Mem} {b o c:Nat} {tb t:TypeId} {cs j:List Value} {s:Sl} {l:List Al} {cap:Nat}
theorem zkI (h:S c=some (bw t (fl l++j))) (hc:l.length≤cap) (hj:j.length=(cap-l.length)*3):Row S 3 ⟨some (c,0),l.length,cap⟩ (fl l):=by
 have hl:=yc l
 refine⟨hl,hc,.inr ⟨c,_,rfl,h,rfl,?_,?_⟩⟩
 ·simp only[List.length_append,hl,hj];rw[←Nat.add_mul];congr 1;omega
 ·simp only;rw[List.take_left' hl]
theorem zan (h:Row S 3 s (fl l)):(s=⟨none,0,0⟩∧l=[])∨∃ c cap t j,s=⟨some (c,0),l.length,cap⟩∧l.length≤cap∧S c=some (bw t (fl l++j))∧j.length=(cap-l.length)*3:=by
 obtain⟨p,n,cp⟩:=s
 have hl:=yc l
 have h1:=h.len
 have h2:=h.cap
 simp only at h1 h2
 have hn:n=l.length:=by omega
 subst hn
 rcases h.lie with ⟨h3,h4⟩ | ⟨c,k,h3,h4,h5,h6,h7⟩
 ·simp only at h3 h4
  subst h3;subst h4
  have:l=[]:=List.length_eq_zero_iff.1 (by omega)
  subst this
  exact .inl ⟨rfl,rfl⟩
 ·simp only at h3 h6 h7
  subst h3
  obtain⟨kt,kc,kf⟩:=k
  simp only at h5 h6 h7
  subst h5
  refine .inr ⟨c,cp,kt,kc.drop (l.length*3),rfl,h2,?_,by rw[List.length_drop,h6,Nat.sub_mul]⟩
  rw[←h7,List.take_append_drop];exact h4
theorem Ck.rd (h:Ck S b o tb cs s l):S.cell b o=some (eL s):=by rw[qK h.blk];exact h.cell
theorem own_row {x:Nat} (h:Row S 3 s (fl l)) (hx:x∈own s):∃ k,S x=some k:=by
 rcases zan h with ⟨rfl,rfl⟩ | ⟨c,cap,t,j,rfl,_,h2,_⟩
 ·simp[own] at hx
 ·simp only[own,List.mem_singleton] at hx;subst hx;exact⟨_,h2⟩
theorem zit {S':Mem} {W:List Nat} (h:Row S 3 s (fl l)) (hk:Keeps S S' W) (hw:∀ x∈own s,x∉W):Row S' 3 s (fl l):=by
 refine h.keep fun c hc=>hk c ?_ (hw c (by simp[own,hc]))
 obtain⟨k,hk⟩:=own_row h (show c∈own s by simp[own,hc])
 simp[hk]
theorem Ck.keep {S':Mem} {W:List Nat} (h:Ck S b o tb cs s l) (hk:Keeps S S' W) (hb:b∉W) (hw:∀ x∈own s,x∉W):Ck S' b o tb cs s l:=
 ⟨hk.get h.blk hb,h.cell,zit h.row hk hw,h.ne,h.heap,h.len⟩
def Tells (S:Mem) (W:List Nat) (fv:Value) (p:Al→Bool):Prop:=∀ S' a (R:Value→Mem→Prop),Keeps S S' W→R (.bool (p a)) S'→cv Tryz.prog S' fv [valL (ce a)] R
variable {fv:Value} {p:Al→Bool}
theorem zfj {l':List Al} {j':List Value}:Keeps S (wi S c t j' l') [c]:=fun x _ hw=>yl (by simpa using hw)
theorem zgo (hf:Tells S [c] fv p) (hl:l.length<100000) {Q:Int→Mem→Prop} (h1:∀ i,i<l.length→(∀ k,k<i→p (gt l k)=false)→p (gt l i)=true→Q i (wi S c t j l)) (h2:(∀ k,k<l.length→p (gt l k)=false)→Q (-1) (wi S c t j l)) :
  qo (wi S c t j l) ⟨some (c,0),l.length,cap⟩ fv Q:=by
 apply qL
 unfold qh
 simp only[jn]
 refine qx (fun (z:Int) S'=>∃ (i:Nat),z=(i:Int)∧S'=wi S c t j l∧i≤l.length∧∀ k,k<i→p (gt l k)=false) (fun z=>(l.length-z).toNat) ?_ ⟨0,rfl,rfl,by omega,fun k hk=>by omega⟩
 rintro X z S' ⟨i,rfl,rfl,hi,hk⟩ ih
 by_cases h:(i:Int)<(l.length:Int)
 ·rw[if_pos h,zah]
  refine⟨by omega,h,?_⟩
  rw[Int.toNat_natCast,zbk (zaC (by omega))]
  refine hf _ _ _ zfj ⟨_,rfl,?_⟩
  by_cases hp:p (gt l i)=true
  ·rw[if_pos hp];exact h1 i (by omega) hk hp
  ·rw[if_neg hp,w64 (by omega) (by omega)]
   refine ih _ _ ⟨i+1,by omega,rfl,by omega,fun k hk2=>?_⟩ (by omega)
   by_cases e:k=i
   ·subst e;simpa using hp
   ·exact hk k (by omega)
 ·rw[if_neg h]
  exact h2 fun k hk2=>hk k (by omega)
theorem zcM {l:List Al} {q:Al→Bool} (h:∀ k,k<l.length→q (gt l k)=true):l.filter q=l:=by
 rw[List.filter_eq_self]
 intro a ha
 obtain⟨k,hk,rfl⟩:=List.getElem_of_mem ha
 have:=h k hk
 rwa [zgq hk] at this
theorem ju {l:List Al} {q:Al→Bool} {k:Nat} (h:k<l.length):(l.take (k+1)).filter q=(l.take k).filter q++(if q (gt l k)=true then [gt l k] else []):=by
 rw[List.take_succ_eq_append_getElem h,List.filter_append,zgq h]
 congr 1
 by_cases hq:q l[k]=true <;> simp[hq]
theorem gR (m:Nat):(zrep m [.int .u64 0,.int .i64 0,.int .i64 0]).length=m*3:=by rw[vG];rfl
theorem zfa (hf:Tells S [c] fv p) (hl:l.length<100000) (hc:l.length≤cap) (hj:j.length=(cap-l.length)*3) {Q:Sl→Mem→Prop}
  (hQ:∀ l' j',l'=l.filter (fun a=>! p a)→l'.length≤cap→j'.length=(cap-l'.length)*3→Q ⟨some (c,0),l'.length,cap⟩ (wi S c t j' l')) :
  qk (wi S c t j l) ⟨some (c,0),l.length,cap⟩ fv Q:=by
 apply qF
 unfold qg
 refine zgo hf hl (fun i0 hi0 hlow hpi=>?_) fun hno=>?_
 ·simp only[jn]
  rw[if_neg (by omega),w64 (by omega) (by omega)]
  refine qx (fun (z:Int×Int) S'=>∃ (i k:Nat) (l':List Al),z.1=(i:Int)∧z.2=(k:Int)∧S'=wi S c t j l'∧i<k∧k≤l.length∧l'.length=l.length∧l'.take i=(l.take k).filter (fun a=>! p a)∧l'.drop k=l.drop k) (fun z=>(l.length-z.2).toNat) ?_
   ⟨i0,i0+1,l,rfl,by simp,rfl,by omega,by omega,rfl,?_,rfl⟩
  ·rintro X ⟨z1,z2⟩ S' ⟨i,k,l',e1,e2,rfl,hik,hk,hlen,ht,hd⟩ ih
   dsimp only at e1 e2 ih ⊢
   subst e1;subst e2
   by_cases hkn:(k:Int)<(l.length:Int)
   ·rw[if_pos hkn,zah]
    refine⟨by omega,hkn,?_⟩
    rw[Int.toNat_natCast,zbk (zaC (by omega))]
    have hgk:gt l' k=gt l k:=by
     have h1:l'[k]? = l[k]?:=by
      have:=congrArg (fun x=>x[0]?) hd
      simpa using this
     simp[gt,List.getD_eq_getElem?_getD,h1]
    refine⟨zel _,hf _ _ _ zfj ⟨_,rfl,?_⟩⟩
    have hdr:l'.drop (k+1)=l.drop (k+1):=by rw[←List.drop_drop,←List.drop_drop,hd]
    by_cases hp:p (gt l' k)=true
    ·rw[if_pos hp,w64 (by omega) (by omega)]
     refine ih _ _ ⟨i,k+1,l',rfl,by simp,rfl,by omega,by omega,hlen,?_,hdr⟩ (by simp only;omega)
     rw[ju (by omega),←hgk,hp,ht];simp
    ·rw[if_neg hp]
     refine⟨by omega,by omega,zel _,?_⟩
     rw[Int.toNat_natCast]
     refine zgH (by omega) ?_
     rw[w64 (by omega) (by omega),w64 (by omega) (by omega)]
     refine ih _ _ ⟨i+1,k+1,l'.set i (gt l' k),by simp,by simp,rfl,by omega,by omega,by simpa using hlen,?_,?_⟩ (by simp only;omega)
     ·rw[ju (by omega),←hgk,←ht]
      simp only[Bool.not_eq_true] at hp
      rw[hp,List.take_succ_eq_append_getElem (by simp;omega),List.take_set_of_le (by omega)]
      simp
     ·rw[List.drop_set_of_lt (by omega)];exact hdr
   ·rw[if_neg hkn]
    have hkl:k=l.length:=by omega
    subst hkl
    have htl:(l.take l.length).filter (fun a=>! p a)=l.filter (fun a=>! p a):=by rw[List.take_length]
    rw[htl] at ht
    have hil:(l'.take i).length=i:=by rw[List.length_take];omega
    refine⟨by omega,by omega,by omega,?_⟩
    unfold lt clr
    refine .inr ⟨c,0+i*3,?_,?_,?_⟩
    ·simp only[slc,Int.toNat_natCast]
     rw[if_neg (by omega)]
     rfl
    ·refine⟨_,zkk,rfl,?_⟩
     have:=yc l'
     simp only[slc,List.length_append];omega
    ·refine⟨by omega,by omega,?_⟩
     have e0:slc 3 ⟨some (c,0),l.length,cap⟩ 0 (i:Int)=⟨some (c,0),i,cap⟩:=by
      simp only[slc]
      by_cases hcap:cap=0
      ·omega
      ·rw[if_neg (by simpa using hcap)];simp
     have e1:(wi S c t j l').put c (0+i*3) (zrep (slc 3 ⟨some (c,0),l.length,cap⟩ (i:Int) (l.length:Int)).n [.int .u64 0,.int .i64 0,.int .i64 0])=wi S c t (zrep (l.length-i) [.int .u64 0,.int .i64 0,.int .i64 0]++j) (l'.take i):=by
      have hz:(slc 3 ⟨some (c,0),l.length,cap⟩ (i:Int) (l.length:Int)).n=l.length-i:=by simp only[slc];omega
      have hfl:=yc l'
      rw[hz,wu zkk,Nat.zero_add,xF _ _ _ (by simp only[List.length_append];omega),gR]
      unfold wi
      rw[set_set]
      congr 2
      have hs:fl l'=fl (l'.take i)++fl (l'.drop i):=by rw[←zaw,List.take_append_drop]
      have h3:(fl (l'.take i)).length=i*3:=by rw[yc,hil]
      have h4:(fl (l'.drop i)).length=(l.length-i)*3:=by rw[yc,List.length_drop,hlen]
      have h5:(fl l'++j).take (i*3)=fl (l'.take i):=by rw[hs,List.append_assoc,List.take_left' h3]
      have h6:(fl l'++j).drop (i*3+(l.length-i)*3)=j:=by
       rw[hs,←List.drop_drop,List.append_assoc,List.drop_left' h3,List.drop_left' h4]
      simp only
      rw[h5,h6,List.append_assoc]
     rw[e0,e1]
     have:=hQ (l'.take i) (zrep (l.length-i) [.int .u64 0,.int .i64 0,.int .i64 0]++j) ht (by omega) (by rw[List.length_append,gR,hj,hil,←Nat.add_mul];congr 1;omega)
     rwa [hil] at this
  ·rw[List.take_succ_eq_append_getElem hi0,List.filter_append]
   rw[zgq hi0] at hpi
   simp only[List.filter_cons,hpi,List.filter_nil]
   have:(l.take i0).filter (fun a=>! p a)=l.take i0:=by
    refine zcM fun k hk=>?_
    rw[List.length_take] at hk
    have e:gt (l.take i0) k=gt l k:=by simp[gt,List.getD_eq_getElem?_getD,(by omega:k<i0)]
    rw[e,hlow k (by omega)];rfl
   rw[this];simp
 ·simp only[jn]
  rw[if_pos trivial]
  have e:l.filter (fun a=>! p a)=l:=zcM fun k hk=>by rw[hno k hk];rfl
  exact hQ l j e.symm hc hj
end
end Go.Proofs.YtabdpmnhjlmnlaaGreatDoor.Hk
namespace Go.Proofs.YtabdpmnhjlmnlaaGreatDoor.Hk
open Go Go.Pt Go.Hp
open Go.Proofs.YtabdpmnhjlmnlaaGreatDoor
theorem zdK:∀ {cs:List Value} {o:Nat} {v:Value},nthL cs o=some v→spl cs o [v]=cs
 | [],_,_,h=>by simp[nthL] at h
 | x :: cs,0,v,h=>by simp only[nthL,Option.some.injEq] at h;subst h;simp[spl]
 | x :: cs,n+1,v,h=>by simp only[nthL] at h;simp only[spl,zdK h]
theorem zfl:∀ {cs:List Value} {o:Nat} {v w:Value},o<cs.length→spl (spl cs o [v]) o [w]=spl cs o [w]
 | [],_,_,_,h=>by simp at h
 | x :: cs,0,v,w,h=>by simp[spl]
 | x :: cs,n+1,v,w,h=>by simp only[spl];rw[zfl (by simpa using h)]
theorem zhH {S:Mem} (fv:Value) {Q:Int→Mem→Prop} (hQ:Q (-1) S):qo S ⟨none,0,0⟩ fv Q:=by
 apply qL
 unfold qh
 simp only[jn]
 refine qx (fun (z:Int) S'=>z=0∧S'=S) (fun _=>0) ?_ ⟨rfl,rfl⟩
 rintro X z S' ⟨rfl,rfl⟩ ih
 rw[if_neg (by simp)]
 exact hQ
theorem zgw {S:Mem} (fv:Value) {Q:Sl→Mem→Prop} (hQ:Q ⟨none,0,0⟩ S):qk S ⟨none,0,0⟩ fv Q:=by
 apply qF
 unfold qg
 refine zhH fv ?_
 simp only[jn]
 rw[if_pos trivial]
 exact hQ
theorem ziL {S:Mem} {b o:Nat} (hc:S.cell b o=some (.slice none 0 0)) {Q:Mem→Prop} (hQ:Q S):zau S (rw_ b o) Q:=by
 apply zbw
 unfold jk
 refine zhW (s:=⟨none,0,0⟩) hc ⟨0,rfl,?_⟩
 refine qx (fun (z:Int) S'=>z = -1∧S'=S) (fun _=>0) ?_ ⟨rfl,rfl⟩
 rintro X z S' ⟨rfl,rfl⟩ ih
 rw[if_neg (by decide)]
 exact hQ
section
variable {S:Mem} {b o c:Nat} {tb t:TypeId} {cs j:List Value} {s:Sl} {l:List Al} {cap:Nat} {fv:Value} {p:Al→Bool}
theorem kW {v w:Value} (h:nthL cs o=some w):nthL (spl cs o [v]) o=some v:=by
 have:=zaK h
 rw[qi,kX (by simp;omega),if_pos (by simp)];simp
theorem zkt (h:S c=some (bw t (fl l++j))):wi S c t j l=S:=zbn h
theorem zks {k:Blk} (h:b≠c):(wi S c t j l).set b k=wi (S.set b k) c t j l:=zio h
structure Left' (S S':Mem) (b o:Nat) (tb:TypeId) (cs:List Value) (s s':Sl) (l':List Al):Prop where
 ck:Ck S' b o tb (spl cs o [eL s']) s' l'
 keep:Keeps S S' (b :: own s)
 fresh:∀ x∈own s',x∈own s∨S x=none
 al:Grows S S'
theorem zlc {S':Mem} {l':List Al} (hb:S' b=some (bw tb cs)) (hcell:nthL cs o=some (eL ⟨some (c,0),l'.length,cap⟩)) (hc:S' c=some (bw t (fl l'++j))) (hle:l'.length≤cap) (hj:j.length=(cap-l'.length)*3) (hne:b≠c) (hh:Heap bf l') (hl:l'.length<100000) :
  Ck S' b o tb cs ⟨some (c,0),l'.length,cap⟩ l':=⟨hb,hcell,zkI hc hle hj,fun x hx=>by simp only[own,List.mem_singleton] at hx;subst hx;exact hne,hh,hl⟩
theorem zhP (h:Ck S b o tb cs s l) (hf:Tells S (b :: own s) fv p) {Q:Mem→Prop} (hQ:∀ S' s' l',l'.Perm (l.filter fun a=>! p a)→Left' S S' b o tb cs s s' l'→Q S'):vw S (some (b,o)) fv Q:=by
 apply zae
 unfold wK
 rw[if_pos (by simp),qY,vP h.rd]
 rcases zan h.row with ⟨rfl,rfl⟩ | ⟨c,cap,t,j,rfl,hle,hc,hj⟩
 ·refine zgw fv ?_
  have hlt:=zaK h.cell
  refine zkm h.blk (by omega) ?_
  have e:spl cs o [eL ⟨none,0,0⟩]=cs:=zdK h.cell
  rw[e,zbn h.blk]
  refine ziL h.rd (hQ S ⟨none,0,0⟩ [] (List.Perm.refl _) ⟨by rw[e];exact h,Keeps.refl,fun x hx=>.inl hx,Grows.refl⟩)
 ·have hne:b≠c:=h.ne c (by simp[own])
  have hlen:=h.len
  have hlt:=zaK h.cell
  rw[←zkt hc]
  refine zfa (fun S' a R hk hR=>hf S' a R (hk.wider (by simp[own])) hR) hlen hle hj fun l' j' hl' hle' hj'=>?_
  have hfl:l'.length≤l.length:=by rw[hl'];exact List.length_filter_le _ _
  refine zkm (t:=tb) (cs:=cs) (by unfold wi;rw[yl hne];exact h.blk) (by omega) ?_
  rw[zks hne]
  have hb':(S.set b (bw tb (spl cs o [eL ⟨some (c,0),l'.length,cap⟩]))) b=some (bw tb (spl cs o [eL ⟨some (c,0),l'.length,cap⟩])):=qf
  refine zhG (s:=⟨some (c,0),l'.length,cap⟩) ⟨by rw[qK hb'];exact kW h.cell,rfl,rfl,hne⟩ (by omega) fun l2 hp hh=>?_
  have hlen2:=hp.length_eq
  have hx:(⟨some (c,0),l'.length,cap⟩:Sl)=⟨some (c,0),l2.length,cap⟩:=by rw[hlen2]
  rw[hx]
  refine hQ _ ⟨some (c,0),l2.length,cap⟩ l2 (hl' ▸ hp) ⟨zlc (by unfold wi;rw[yl hne];exact qf) (kW h.cell) zkk (by omega) (by rw[hlen2];exact hj') hne hh (by omega),?_,fun x hx=>.inl hx,Grows.refl.set.set⟩
  intro x hx hw
  simp only[own,List.mem_cons,List.not_mem_nil,or_false,not_or] at hw
  unfold wi
  rw[yl hw.2,yl hw.1]
theorem Left'.of {S1 S':Mem} {s':Sl} {l':List Al} (h:Left' S1 S' b o tb cs s s' l') (hk:Keeps S S1 []):Left' S S' b o tb cs s s' l':=
 ⟨h.ck,(hk.wider (by simp)).trans h.keep,fun x hx=>(h.fresh x hx).imp id fun e=>(by
  cases hs:S x with
  | none=>rfl
  | some k=>have:=hk.get hs (by simp);rw[e] at this;cases this),(Grows.keeps hk).trans h.al⟩
theorem not_own {x:Nat} (h:Ck S b o tb cs s l) (hx:S x=none):x∉b :: own s:=by
 intro hm
 rcases List.mem_cons.1 hm with rfl | hm
 ·rw[h.blk] at hx;cases hx
 ·obtain⟨k,hk⟩:=own_row h.row hm;rw[hk] at hx;cases hx
theorem zgv (h:Ck S b o tb cs s l) {vm seat:Int} {Q:Mem→Prop} (hQ:∀ S' s' l',l'.Perm (l.filter fun a=>! (decide (a.vm=vm) && decide (a.seat=seat)))→Left' S S' b o tb cs s s' l'→Q S'):vx S (some (b,o)) vm seat Q:=by
 apply zaf
 unfold wL
 intro b1 hb1 b2 hb2
 have hk1:Keeps S (S.set b1 (bw 3 [.int .i64 vm])) []:=Keeps.refl.new hb1
 have hk2:Keeps (S.set b1 (bw 3 [.int .i64 vm])) ((S.set b1 (bw 3 [.int .i64 vm])).set b2 (bw 3 [.int .i64 seat])) []:=Keeps.refl.new hb2
 have h1:=h.keep hk1 (by simp) (by simp)
 have h2:=h1.keep hk2 (by simp) (by simp)
 have n12:b1≠b2:=fun e=>by subst e;simp at hb2
 refine zhP h2 (p:=fun a=>decide (a.vm=vm) && decide (a.seat=seat)) ?_ fun S' s' l' hp hL=>hQ S' s' l' hp (hL.of (hk1.trans hk2))
 intro S' a R hk hR
 have g1:S' b1=some (bw 3 [.int .i64 vm]):=hk.get (by rw[yl n12];exact qf) (not_own h hb1)
 have g2:S' b2=some (bw 3 [.int .i64 seat]):=hk.get qf (not_own h1 hb2)
 refine⟨_,[],[_,_],rfl,inferInstance,Tr.mono (ga (S:=S') (a:=ce a) (t:=some (b1,0)) (t_1:=some (b2,0)) (Q:=fun r S2=>R (.bool r) S2) ?_) (by rintro v S2 ⟨r,rfl,h⟩;exact h)⟩
 unfold xB
 refine⟨rfl,?_⟩
 rw[zW (show nthL (ce a) 1=some (.int .i64 a.vm) from rfl),qY,zW (by rw[qK g1];rfl)]
 by_cases e:a.vm=vm
 ·rw[if_pos e,zW (show nthL (ce a) 2=some (.int .i64 a.seat) from rfl),qY,zW (by rw[qK g2];rfl)]
  simpa [e] using hR
 ·rw[if_neg e]
  simpa [e] using hR
theorem zhm (h:Ck S b o tb cs s l) (hl:l.length+1<100000) {a:Al} {Q:Mem→Prop} (hQ:∀ S' s' l',l'.Perm (a :: l)→Left' S S' b o tb cs s s' l'→Q S') :
  zbQ S (rw_ b o) (.iface 193 (valL (ce a))) Q:=by
 apply zeB
 unfold fR
 have hlt:=zaK h.cell
 have hlim:(2*(s.n+1)+1024)*24≤281474976710656:=by
  have h1:=h.row.len
  rw[yc] at h1
  omega
 refine zlG (t:=269) (Tr.mono (zbi (S:=S) (r:=some (b,o)) (x:=.iface 193 (valL (ce a))) (Q:=fun S1=>∃ s1,Row S1 3 s1 (fl (l++[a]))∧Keeps S S1 (b :: own s)∧S1 b=some (bw tb (spl cs o [eL s1]))∧(∀ x∈own s1,b≠x)∧(∀ x∈own s1,x∈own s∨S x=none)∧Grows S S1) ?_) ?_)
 ·unfold vu
  rw[qY,vP h.rd]
  refine⟨ce a,rfl,rfl,zel _,?_⟩
  refine jv h.row (by simp[vS]) (by decide) rfl hlim fun s1 S1 c1 k hn hp1 hor hS1 hrow=>?_
  have hbc:b≠c1:=by
   rcases hor with e | e
   ·exact h.ne c1 (by simp[own,e])
   ·intro e2;subst e2;rw[h.blk] at e;cases e
  have hb1:S1 b=some (bw tb cs):=by rw[hS1,yl hbc];exact h.blk
  refine zkm hb1 (by omega) ?_
  have hown:own s1=[c1]:=by simp[own,hp1]
  refine⟨s1,?_,?_,qf,?_,?_,by rw[hS1];exact Grows.refl.set.set⟩
  ·rw[zaw]
   refine hrow.keep fun x hx=>?_
   have:x=c1:=by rw[hp1] at hx;cases hx;rfl
   subst this
   rw[yl (fun e=>hbc e.symm)]
  ·intro x hx hw
   rw[yl (fun e=>hw (by simp[e])),hS1]
   rcases hor with e | e
   ·exact yl (fun e2=>hw (by simp[own,e,e2]))
   ·exact yl (fun e2=>hx (by rw[e2];exact e))
  ·rw[hown];intro x hx;rw[List.mem_singleton] at hx;subst hx;exact hbc
  ·rw[hown];intro x hx;rw[List.mem_singleton] at hx;subst hx
   exact hor.imp (fun e=>by simp[own,e]) id
 ·rintro v S1 ⟨rfl,s1,hrow,hk,hb1,hne,hfr,hgr⟩
  refine⟨rfl,?_⟩
  rcases zan hrow with ⟨rfl,h0⟩ | ⟨c,cap,t,j,rfl,hle,hc,hj⟩
  ·simp at h0
  ·have hcell1:S1.cell b o=some (eL ⟨some (c,0),(l++[a]).length,cap⟩):=by rw[qK hb1];exact kW h.cell
   have hbc:=hne c (by simp[own])
   refine zhW hcell1 ⟨_,rfl,?_⟩
   simp only[List.length_append,List.length_singleton]
   rw[w64 (by omega) (by omega),show ((l.length+1:Nat):Int)-1=(l.length:Int) by omega]
   rw[←zkt hc]
   refine zjt (s:=⟨some (c,0),(l++[a]).length,cap⟩) ⟨hcell1,rfl,rfl,hbc⟩ (by simp) (by simp;omega) (Up.start h.heap) fun l' hp hh=>?_
   have hlen:=hp.length_eq
   have hx:(⟨some (c,0),(l++[a]).length,cap⟩:Sl)=⟨some (c,0),l'.length,cap⟩:=by rw[hlen]
   rw[hx] at hb1
   refine hQ _ ⟨some (c,0),l'.length,cap⟩ l' (hp.trans (List.perm_append_comm (l₁:=l) (l₂:=[a]))) ⟨zlc (by unfold wi;rw[yl hbc];exact hb1) (kW h.cell) zkk (by omega) (by rw[hlen];exact hj) hbc hh (by rw[hlen];simp;omega),?_,?_,hgr.set⟩
   ·intro x hx2 hw
    by_cases e:x=c
    ·subst e
     rcases hfr x (by simp[own]) with h3 | h3
     ·exact absurd (List.mem_cons_of_mem _ h3) hw
     ·exact absurd h3 hx2
    ·unfold wi;rw[yl e];exact hk x hx2 hw
   ·intro x hx2;exact hfr x hx2
theorem set_spec (h:Ck S b o tb cs s l) (hl:l.length+1<100000) {vm seat tm:Int} (h1:0≤vm) (h2:vm<6) (h3:0≤seat) (h4:seat<3) {Q:Int→Mem→Prop}
  (hQ:∀ S' s' l',l'.Perm (⟨tm,vm,seat⟩ :: l.filter fun a=>! (decide (a.vm=vm) && decide (a.seat=seat)))→Left' S S' b o tb cs s s' l'→Q 0 S'):wM S (some (b,o)) vm seat tm Q:=by
 apply zaJ
 unfold vf
 simp only[jn]
 rw[if_neg (by simp),if_neg (by omega),if_neg (by omega),if_neg (by omega),if_neg (by omega)]
 refine zgv h fun S1 s1 l1 hp1 hL1=>?_
 rw[qY]
 have hlen1:l1.length≤l.length:=by rw[hp1.length_eq];exact List.length_filter_le _ _
 refine zhm (a:=⟨tm,vm,seat⟩) hL1.ck (by omega) fun S2 s2 l2 hp2 hL2=>hQ S2 s2 l2 (hp2.trans (hp1.cons _)) ?_
 have hlt:=zaK h.cell
 have e:spl (spl cs o [eL s1]) o [eL s2]=spl cs o [eL s2]:=zfl hlt
 refine⟨e ▸ hL2.ck,?_,?_,hL1.al.trans hL2.al⟩
 ·intro x hx hw
  have k1:=hL1.keep x hx hw
  have:x∉b :: own s1:=by
   intro hm
   rcases List.mem_cons.1 hm with rfl | hm
   ·exact hw (by simp)
   ·rcases hL1.fresh x hm with h5 | h5
    ·exact hw (by simp[h5])
    ·exact hx h5
  rw[hL2.keep x (by rw[k1];exact hx) this,k1]
 ·intro x hx
  rcases hL2.fresh x hx with h5 | h5
  ·exact hL1.fresh x h5
  ·by_cases hm:x∈b :: own s
   ·rcases List.mem_cons.1 hm with rfl | hm
    ·rw[hL1.ck.blk] at h5;cases h5
    ·exact .inl hm
   ·right
    cases hs:S x with
    | none=>rfl
    | some k=>have:=hL1.keep.get hs hm;rw[h5] at this;cases this
end
end Go.Proofs.YtabdpmnhjlmnlaaGreatDoor.Hk
namespace Go.Proofs.YtabdpmnhjlmnlaaGreatDoor.Hk
open Go Go.Pt Go.Hp
open Go.Proofs.YtabdpmnhjlmnlaaGreatDoor
section
variable {S:Mem} {b o c:Nat} {tb t:TypeId} {cs j:List Value} {s:Sl} {l:List Al} {cap:Nat}
structure Told (S S':Mem) (b:Nat) (s' lo:Sl) (out:List Al):Prop where
 row:Row S' 3 lo (fl out)
 fresh:∀ x∈own lo,S x=none
 apart:∀ x∈own lo,x∉b :: own s'
def Rises (l:List Al):Prop:=l.Pairwise fun x y=>bf y x=false
end
end Go.Proofs.YtabdpmnhjlmnlaaGreatDoor.Hk
end
section
namespace Go.Proofs.YtabdpmnhjlmnlaaGreatDoor.Hq
open Go Go.Pt Go.Hp
open Go.Proofs.YtabdpmnhjlmnlaaGreatDoor
def ce (a:Int):List Value:=[.int .i64 a]
def fl (l:List Int):List Value:=l.flatMap ce
def bf (a b:Int):Bool:=decide (a<b)
theorem vS (a:Int):(ce a).length=1:=rfl
theorem yc (l:List Int):(fl l).length=l.length*1:=by
 induction l with
 | nil=>rfl
 | cons a l ih=>simp only[fl,List.flatMap_cons,List.length_append,List.length_cons] at *;rw[ih,vS];omega
structure Ro (S:Mem) (b o c:Nat) (t:TypeId) (s:Sl) (n:Nat):Prop where
 cell:S.cell b o=some (eL s)
 p:s.p=some (c,0)
 n:s.n=n
 ne:b≠c
def wi (S:Mem) (c:Nat) (t:TypeId) (j:List Value) (l:List Int):Mem:=S.set c (bw t (fl l++j))
section
variable {S:Mem} {b o c:Nat} {t:TypeId} {s:Sl} {j:List Value} {l:List Int} {n:Nat}
abbrev rw_ (b o:Nat):Value:=.iface 205 (.pointer (some ⟨b,o,none⟩))
end
def own (s:Sl):List Nat:=match s.p with
 | none=>[]
 | some (c,_)=>[c]
structure Ck (S:Mem) (b o:Nat) (tb:TypeId) (cs:List Value) (s:Sl) (l:List Int):Prop where
 blk:S b=some (bw tb cs)
 cell:nthL cs o=some (eL s)
 row:Row S 1 s (fl l)
 ne:∀ c∈own s,b≠c
 heap:Heap bf l
 len:l.length<100000
section
variable {S:Mem} {b o c:Nat} {tb t:TypeId} {cs j:List Value} {s:Sl} {l:List Int} {cap:Nat}
theorem zan (h:Row S 1 s (fl l)):(s=⟨none,0,0⟩∧l=[])∨∃ c cap t j,s=⟨some (c,0),l.length,cap⟩∧l.length≤cap∧S c=some (bw t (fl l++j))∧j.length=(cap-l.length)*1:=by
 obtain⟨p,n,cp⟩:=s
 have hl:=yc l
 have h1:=h.len
 have h2:=h.cap
 simp only at h1 h2
 have hn:n=l.length:=by omega
 subst hn
 rcases h.lie with ⟨h3,h4⟩ | ⟨c,k,h3,h4,h5,h6,h7⟩
 ·simp only at h3 h4
  subst h3;subst h4
  have:l=[]:=List.length_eq_zero_iff.1 (by omega)
  subst this
  exact .inl ⟨rfl,rfl⟩
 ·simp only at h3 h6 h7
  subst h3
  obtain⟨kt,kc,kf⟩:=k
  simp only at h5 h6 h7
  subst h5
  refine .inr ⟨c,cp,kt,kc.drop (l.length*1),rfl,h2,?_,by rw[List.length_drop,h6,Nat.sub_mul]⟩
  rw[←h7,List.take_append_drop];exact h4
theorem own_row {x:Nat} (h:Row S 1 s (fl l)) (hx:x∈own s):∃ k,S x=some k:=by
 rcases zan h with ⟨rfl,rfl⟩ | ⟨c,cap,t,j,rfl,_,h2,_⟩
 ·simp[own] at hx
 ·simp only[own,List.mem_singleton] at hx;subst hx;exact⟨_,h2⟩
variable {fv:Value}
end
section
variable {S:Mem} {b o c:Nat} {tb t:TypeId} {cs j:List Value} {s:Sl} {l:List Int} {cap:Nat} 
structure Left' (S S':Mem) (b o:Nat) (tb:TypeId) (cs:List Value) (s s':Sl) (l':List Int):Prop where
 ck:Ck S' b o tb (spl cs o [eL s']) s' l'
 keep:Keeps S S' (b :: own s)
 fresh:∀ x∈own s',x∈own s∨S x=none
 al:Grows S S'
end
end Go.Proofs.YtabdpmnhjlmnlaaGreatDoor.Hq
end
section
namespace Go.Pt
open Go Go.RowKit Go.Cr
section
variable {S S':Mem} {ρ ρ':Rho} {r w:Nat} {s:Sl} {l:List Value}
theorem Rw.some (h:Rw S ρ r w s l) (h0:0<l.length):∃ c,s.p=Option.some (c,0):=by
 rcases h.row.lie with ⟨_,h2⟩ | ⟨b,k,h1,_⟩
 ·have h4:=h.row.len
  have h3:=h.row.cap
  have hn:s.n=0:=by omega
  rw[hn,Nat.zero_mul] at h4
  omega
 ·exact⟨b,h1⟩
theorem Rw.cell (h:Rw S ρ r w s l) {c:Nat} (hc:s.p=Option.some (c,0)) {x:Nat} (i:Nat) (hi:i<l.length) (hx:x=i):S.cell c x=nthL l i:=by
 subst hx
 have hl:=h.row.len
 rcases h.row.lie with ⟨h1,_⟩ | ⟨b,k,h1,h2,h3,h4,h5⟩
 ·rw[h1] at hc;cases hc
 ·rw[h1] at hc;cases hc
  rw[qK h2,qi,qi,←h5,List.getElem?_take,if_pos (by omega)]
theorem Rw.part (h:Rw S ρ r w s l) {c:Nat} (hc:s.p=Option.some (c,0)) {x n:Nat} (i:Nat) (hi:i+n≤l.length) (hx:x=i):S.part c x n=lpart l i n:=by
 subst hx
 have hl:=h.row.len
 have hcap:=h.row.cap
 rcases h.row.lie with ⟨h1,_⟩ | ⟨b,k,h1,h2,h3,h4,h5⟩
 ·rw[h1] at hc;cases hc
 ·rw[h1] at hc;cases hc
  have hm:s.n*w≤s.c*w:=Nat.mul_le_mul_right _ hcap
  rw[xG h2,qR (by omega),qR hi]
  congr 1
  apply List.ext_getElem?
  intro j
  rw[List.getElem?_take,List.getElem?_take,List.getElem?_drop,List.getElem?_drop]
  by_cases hj:j<n
  ·rw[if_pos hj,if_pos hj,←h5,List.getElem?_take,if_pos (by omega)]
  ·rw[if_neg hj,if_neg hj]
theorem Rw.pt (h:Rw S ρ r w s l) (hg:∀ b r,ρ b=Option.some r→S b≠none) {c:Nat} (hc:s.p=Option.some (c,0)) {x n:Nat} {vs:List Value} (i:Nat) (hn:n=vs.length) (hi:i+vs.length≤l.length) (hx:x=i) {K:Mem→Prop}
  (hK:∀ S',Mv S ρ S' ρ (· = r)→Rw S' ρ r w s (spl l i vs)→K S'):Go.Pt.pt S c x n vs K:=by
 subst hx
 have hl:=h.row.len
 have hcap:=h.row.cap
 have hr:=h.rol c 0 hc
 rcases h.row.lie with ⟨h1,_⟩ | ⟨b,k,h1,h2,h3,h4,h5⟩
 ·rw[h1] at hc;cases hc
 ·rw[h1] at hc;cases hc
  have hm:s.n*w≤s.c*w:=Nat.mul_le_mul_right _ hcap
  refine⟨⟨k,h2,h3,by omega⟩,?_⟩
  rw[wu h2]
  refine hK _ (Mv.put (R:=(· = r)) (Mv.refl hg) hr rfl _) ⟨⟨by rw[qj hi];exact hl,hcap,.inr ⟨c,_,h1,qf,h3,?_,?_⟩⟩,h.rol⟩
  ·simp only;rw[qj (by omega)];exact h4
  ·simp only
   rw[←h5]
   have hkl:k.cs=k.cs.take (s.n*w)++k.cs.drop (s.n*w):=(List.take_append_drop _ _).symm
   have h6:(k.cs.take (s.n*w)).length=s.n*w:=by rw[List.length_take];omega
   have e:spl k.cs x vs=spl (k.cs.take (s.n*w)) x vs++k.cs.drop (s.n*w):=by
    conv=>lhs;rw[hkl]
    exact xU (by omega)
   rw[e,List.take_left' (by rw[qj (by omega)];exact h6)]
theorem Rw.n (h:Rw S ρ r w s l) (hw:0<w) {m:Nat} (hm:l.length=m*w):s.n=m:=by
 have:=h.row.len
 rw[hm] at this
 exact (Nat.eq_of_mul_eq_mul_right hw this).symm
theorem Rw.sl (h:Rw S ρ r w s l) (h0:0<l.length):∃ c,s=⟨Option.some (c,0),s.n,s.c⟩∧s.p=Option.some (c,0):=by
 obtain⟨c,hc⟩:=h.some h0
 refine⟨c,?_,hc⟩
 obtain⟨p,n,c'⟩:=s
 simp only at hc;rw[hc]
theorem Rw.keeps (h:Rw S ρ r w s l) (hk:Keeps S S' []):Rw S' ρ r w s l:=
 ⟨h.row.keep fun b hb=>by
  rcases h.row.lie with ⟨h1,_⟩ | ⟨b',k,h1,h2,_⟩
  ·rw[h1] at hb;cases hb
  ·rw[h1] at hb;cases hb;exact hk b (by rw[h2];simp) (by simp),h.rol⟩
end
end Go.Pt
namespace Go.Cr
open Go Go.Pt
theorem Pc.keeps {S S':Mem} {ρ:Rho} {r b:Nat} {l:List Value} (h:Pc S ρ r b l) (hk:Keeps S S' []):Pc S' ρ r b l:=
 ⟨h.at_.keep (hk b h.at_.some (by simp)),h.rol⟩
structure OwnP (S:Mem) (ρ:Rho) (ob N:Nat) (own:Nat→Ow):Prop where
 ex:∃ rs,Pc S ρ 8 ob [eL rs]∧Rw S ρ 9 4 rs (cF N fun f=>owL (own f))
section
variable {S S':Mem} {ρ ρ':Rho} {R:Nat→Prop} {ob N:Nat} {own:Nat→Ow}
theorem OwnP.keep (h:OwnP S ρ ob N own) (m:Mv S ρ S' ρ' R) (h8:¬R 8) (h9:¬R 9):OwnP S' ρ' ob N own:=by
 obtain⟨rs,h1,h2⟩:=h.ex
 exact⟨rs,h1.keep m h8,h2.keep m h9⟩
theorem OwnP.keeps (h:OwnP S ρ ob N own) (hk:Keeps S S' []):OwnP S' ρ ob N own:=by
 obtain⟨rs,h1,h2⟩:=h.ex
 exact⟨rs,h1.keeps hk,h2.keeps hk⟩
end
end Go.Cr
end
section
namespace Go.Cr
open Go Go.Pt
theorem yn (g:Nat→Bool) (n:Nat):count g (n+1)=count g n+(g n).toNat:=by
 unfold count
 rw[List.range_succ,List.filter_append,List.length_append]
 congr 1
 cases h:g n <;> simp[h]
theorem jg {g g':Nat→Bool}:∀ {n:Nat},(∀ i,i<n→g i=g' i)→count g n=count g' n
 | 0,_=>rfl
 | n+1,h=>by rw[yn,yn,jg fun i hi=>h i (by omega),h n (by omega)]
theorem zdv (g:Nat→Bool):∀ n,count g n≤n
 | 0=>by simp[count]
 | n+1=>by
  have:=zdv g n
  rw[yn]
  cases g n <;> simp <;> omega
theorem zcP {g g':Nat→Bool}:∀ {n:Nat},(∀ i,i<n→g i=true→g' i=true)→count g n≤count g' n
 | 0,_=>by simp[count]
 | n+1,h=>by
  rw[yn,yn]
  have:=zcP (n:=n) fun i hi=>h i (by omega)
  have h2:=h n (by omega)
  cases hg:g n
  ·simp;omega
  ·rw[h2 hg];simp;omega
theorem vE {g:Nat→Bool}:∀ {n:Nat},(∀ i,i<n→g i=false)→count g n=0
 | 0,_=>rfl
 | n+1,h=>by rw[yn,vE fun i hi=>h i (by omega),h n (by omega)];rfl
theorem zhU {g:Nat→Bool} {n i:Nat} (hi:i<n) (h:g i=true):0<count g n:=by
 induction n with
 | zero=>omega
 | succ n ih=>
  rw[yn]
  by_cases e:i=n
  ·subst e;rw[h];simp
  ·have:=ih (by omega);omega
theorem zcO {g:Nat→Bool} {n:Nat} (h:count g n=0):∀ i,i<n→g i=false:=fun i hi=>by
 cases hg:g i
 ·rfl
 ·have:=zhU hi hg;omega
theorem kM {g:Nat→Bool} {n f:Nat} (hf:f<n) (b:Bool):count (upd g f b) n+(g f).toNat=count g n+b.toNat:=by
 induction n with
 | zero=>omega
 | succ n ih=>
  rw[yn,yn]
  by_cases e:f=n
  ·subst e
   rw[zt,jg (g:=upd g f b) (g':=g) fun i hi=>zv (by omega)]
   omega
  ·have:=ih (by omega)
   rw[zv (f:=g) (i:=f) (j:=n) (Ne.symm e)]
   omega
theorem qN {u:Nat→Bool} {N f:Nat} (h:firstOff u N=some f):f<N∧u f=false∧∀ g,g<f→u g=true:=by
 unfold firstOff at h
 induction N with
 | zero=>simp at h
 | succ N ih=>
  rw[List.range_succ,List.find?_append] at h
  cases h1:(List.range N).find? (fun i=>! u i) with
  | some x=>
   rw[h1] at h
   simp only[Option.some_or,Option.some.injEq] at h
   subst h
   have:=ih h1
   exact⟨by omega,this.2⟩
  | none=>
   rw[h1] at h
   rw[Option.none_or] at h
   cases hu:u N with
   | true=>simp[hu] at h
   | false=>
    simp[hu] at h
    subst h
    refine⟨by omega,hu,fun g hg=>?_⟩
    have:=List.find?_eq_none.1 h1 g (List.mem_range.2 hg)
    simpa using this
theorem je {u:Nat→Bool} {N:Nat} (h:firstOff u N=none):∀ f,f<N→u f=true:=fun f hf=>by
 have:=List.find?_eq_none.1 h f (List.mem_range.2 hf)
 simpa using this
theorem fD {u:Nat→Bool} {N f:Nat} (hf:f<N) (h0:u f=false) (h1:∀ g,g<f→u g=true):firstOff u N=some f:=by
 cases h:firstOff u N with
 | none=>have:=je h f hf;rw[h0] at this;cases this
 | some g=>
  obtain⟨_,h3,h4⟩:=qN h
  rcases Nat.lt_trichotomy f g with e | e | e
  ·have:=h4 f e;rw[h0] at this;cases this
  ·rw[e]
  ·have:=h1 g e;rw[h3] at this;cases this
theorem zcn {u u':Nat→Bool} {N:Nat} (h:∀ i,i<N→u i=u' i):firstOff u N=firstOff u' N:=by
 cases h1:firstOff u N with
 | some f=>
  obtain⟨a,b,c⟩:=qN h1
  exact (fD a (by rw[←h f a];exact b) fun g hg=>by rw[←h g (by omega)];exact c g hg).symm
 | none=>
  cases h2:firstOff u' N with
  | none=>rfl
  | some f=>
   obtain⟨a,b,c⟩:=qN h2
   have:=je h1 f a
   rw[h f a,b] at this;cases this
theorem zgs {u:Nat→Bool} {N:Nat}:firstOff u N=none↔count (fun f=>! u f) N=0:=by
 constructor
 ·intro h
  exact vE fun i hi=>by rw[je h i hi];rfl
 ·intro h
  cases h1:firstOff u N with
  | none=>rfl
  | some f=>
   obtain⟨a,b,_⟩:=qN h1
   have:=zcO h f a
   rw[b] at this;cases this
theorem zcs {N:Nat}:∀ {k:Nat} {u:Nat→Bool} {l:List Nat} {u':Nat→Bool},takeN N k u=some (l,u') →
  l.length=k∧l.Nodup∧(∀ f∈l,f<N∧u f=false)∧(∀ f,u' f=(u f || decide (f∈l)))∧count (fun f=>! u' f) N+k=count (fun f=>! u f) N
 | 0,u,l,u',h=>by
  simp only[takeN,Option.some.injEq,Prod.mk.injEq] at h
  obtain⟨rfl,rfl⟩:=h
  simp
 | k+1,u,l,u',h=>by
  simp only[takeN] at h
  cases h1:firstOff u N with
  | none=>rw[h1] at h;cases h
  | some f=>
   rw[h1] at h
   dsimp only at h
   cases h2:takeN N k (upd u f true) with
   | none=>rw[h2] at h;cases h
   | some q=>
    obtain⟨l2,u2⟩:=q
    rw[h2] at h
    simp only[Option.some.injEq,Prod.mk.injEq] at h
    obtain⟨rfl,rfl⟩:=h
    obtain⟨a,b,_⟩:=qN h1
    obtain⟨c1,c2,c3,c4,c5⟩:=zcs h2
    have hnf:f∉l2:=fun hm=>by
     have:=(c3 f hm).2
     rw[zt] at this;cases this
    refine⟨by rw[List.length_cons,c1],List.nodup_cons.2 ⟨hnf,c2⟩,fun g hg=>?_,fun g=>?_,?_⟩
    ·rcases List.mem_cons.1 hg with e | e
     ·rw[e];exact⟨a,b⟩
     ·have h3:=c3 g e
      rw[zv (fun e2=>hnf (by rw[←e2];exact e))] at h3
      exact h3
    ·rw[c4 g]
     by_cases e:g=f
     ·subst e;rw[zt];simp
     ·rw[zv e];simp[e]
    ·have e1:(fun g=>! upd u f true g)=upd (fun g=>! u g) f false:=by
      funext g;unfold upd;split <;> rfl
     have:=kM (g:=fun g=>! u g) a false
     rw[←e1] at this
     simp only[b,Bool.not_false,Bool.toNat_true,Bool.toNat_false] at this
     omega
end Go.Cr
end
section
namespace Go.Proofs.YtabdpmnhjlmnlaaGreatDoor
open Go Go.Pt
attribute [local irreducible] Code.wp Back bodyPost wpList FR WL WC WQ WA AW Tr Yc HC AllC
set_option maxRecDepth 20000
set_option maxHeartbeats 4000000
set_option linter.unusedVariables false
end Go.Proofs.YtabdpmnhjlmnlaaGreatDoor
end
section
namespace Go.Proofs.YtabdpmnhjlmnlaaGreatDoor
open Go Go.Pt
attribute [local irreducible] Code.wp Back bodyPost wpList FR WL WC WQ WA AW Tr Yc HC AllC
set_option maxRecDepth 20000
set_option maxHeartbeats 4000000
set_option linter.unusedVariables false
end Go.Proofs.YtabdpmnhjlmnlaaGreatDoor
end
section
namespace Go.Proofs.YtabdpmnhjlmnlaaGreatDoor
open Go Go.Pt Go.Cr
section
variable {S:Mem}
def enL (f:Int) (wr:Bool):List Value:=[.bool true,.int .i64 f,.bool wr]
def noEn:List Value:=[.bool false,.int .i64 0,.bool false]
end
end Go.Proofs.YtabdpmnhjlmnlaaGreatDoor
end
section
namespace Go.Cr
open Go Go.Pt
theorem zgh {w:Int} (h:W64 w):num (bytes8 w)=w:=by
 obtain⟨h1,h2⟩:=h
 have e:bytes8 w=[w/1%256,w/256%256,w/65536%256,w/16777216%256,w/4294967296%256,w/1099511627776%256,w/281474976710656%256,w/72057594037927936%256]:=rfl
 rw[e]
 simp only[num]
 omega
theorem zkO {d:Nat→List Int} {f g i j:Nat} {w:Int} (hl:(d f).length=256) (hi:i<32) (hj:j<32) (hw:W64 w):ld (wr d f (8*i) (bytes8 w)) g j=if g=f∧j=i then w else ld d g j:=by
 have h8:=vF w
 unfold ld wr
 by_cases hg:g=f
 ·subst hg
  rw[zt]
  by_cases e:j=i
  ·subst e
   rw[if_pos ⟨rfl,rfl⟩]
   have:=ziw (d:=d g) (off:=8*j) (l:=bytes8 w) (by omega)
   rw[h8] at this
   rw[this,zgh hw]
  ·rw[if_neg (fun h=>e h.2),zhj (by omega) (by omega)]
 ·rw[zv hg,if_neg (fun h=>hg h.1)]
theorem ziX {d:Nat→List Int} {f off:Nat} {l:List Int} (hl:off+l.length≤(d f).length) (g:Nat):(wr d f off l g).length=(d g).length:=by
 unfold wr
 by_cases hg:g=f
 ·subst hg;rw[zt,zeE hl]
 ·rw[zv hg]
theorem ziY {d:Nat→List Int} {f off:Nat} {l:List Int} (hb:Byt l) {g:Nat} (h:Byt (d g)):Byt (wr d f off l g):=by
 unfold wr
 by_cases hg:g=f
 ·subst hg;rw[zt];exact zeF h hb
 ·rw[zv hg];exact h
theorem zkr {d:Nat→List Int} {f g off:Nat} {l:List Int} (h:g≠f):wr d f off l g=d g:=zv h
def lentN (ls:Nat→Ls) (n p:Nat):Nat:=count (fun i=>(ls i).on && (decide ((ls i).fr=n) && decide ((ls i).pg=p))) 16
structure WOk (W:Wd):Prop where
 off:∀ n,(W.vm n).on=false→W.vm n=bv0∧(∀ p,W.own n p=none)∧∀ k,W.alarm n k=none
 six:∀ n,6≤n→(W.vm n).on=false
 seats:∀ n,(W.vm n).on=true→1≤(W.vm n).seats.length∧(W.vm n).seats.length≤3
 ok:∀ n,∀ s∈(W.vm n).seats,s.Ok
 keys:∀ n,(W.vm n).keys.length≤64∧Byt (W.vm n).keys
 disk:∀ n j,(W.vm n).on=true→((W.vm n).disk j).length=256∧Byt ((W.vm n).disk j)
 quota:∀ n,0≤(W.vm n).quota∧(W.vm n).quota≤32
 bells:∀ n k,(W.vm n).bells k=true→(W.vm n).on=true∧(W.vm k).on=true∧(W.vm k).bells n=true∧k≠n
 pg:∀ n p l,W.own n p=some l→(W.vm n).on=true∧p<32∧l.length=256∧Byt l
 most:∀ n,(W.pages n:Int)≤(W.vm n).quota
 lsr:∀ i,(W.ls i).on=true→i<16∧(W.vm (W.ls i).fr).on=true∧(W.vm (W.ls i).to).on=true∧(W.ls i).fr≠(W.ls i).to∧(W.own (W.ls i).fr (W.ls i).pg).isSome=true∧-1≤(W.ls i).at_∧(W.ls i).at_≤31
 lso:∀ i,(W.ls i).on=false→W.ls i=ls0
 lsa:∀ i,(W.ls i).on=true→∀ p:Nat,(W.ls i).at_=p→W.own (W.ls i).to p=none
 lsu:∀ i j,(W.ls i).on=true→(W.ls j).on=true→(W.ls i).to=(W.ls j).to→0≤(W.ls i).at_→(W.ls i).at_=(W.ls j).at_→i=j
 alarm:∀ n k w,W.alarm n k=some w→k<(W.vm n).seats.length∧W64 w
def most64:Int:=18446744073709551615
structure Rel (C:Cst) (W:Wd) (φ:Nat→Nat→Nat):Prop where
 wk:WOk W
 vm:C.vm=W.vm
 ls:C.ls=W.ls
 ev:C.ev=W.ev
 N:C.N≤512
 form:C.form=1∨C.form=2
 now:0≤C.now∧C.now≤4611686018427387904
 time:∀ n,(W.vm n).on=true→0≤C.late n∧C.late n≤C.now∧W.time n=C.now-C.late n
 alm:∀ n k,C.alm n k=(W.alarm n k).map fun w=>min (w+C.late n) most64
 free:W.free=count (fun f=>! C.used f) C.N
 left:C.left = -1
 used:∀ f,f<C.N→C.used f=decide ((C.own f).kind≠0)
 own0:∀ f,f<C.N→(C.own f).kind=0→C.own f=ow0
 kind:∀ f,f<C.N→0≤(C.own f).kind∧(C.own f).kind≤3
 len:∀ f,f<C.N→(C.dat f).length=256∧Byt (C.dat f)
 off:∀ n,(W.vm n).on=false→C.fr n=[]∧C.tf n=0∧C.late n=0
 tab:∀ n,(W.vm n).on=true→C.tf n=C.form∧(C.fr n).length=5∧(C.fr n).Nodup
 tabf:∀ n f,f∈C.fr n→f<C.N∧C.own f=⟨2,n,0,0⟩
 tabk:∀ f,f<C.N→(C.own f).kind=2→∃ n,f∈C.fr n
 root:∀ n j,(W.vm n).on=true→j<4→unp C.form (ld C.dat ((C.fr n).getD 0 0) j)=some ((C.fr n).getD (j+1) 0,true)
 leaf:∀ n p,(W.vm n).on=true→p<32→unp C.form (ld C.dat ((C.fr n).getD (p/8+1) 0) (p%8))=(W.where_ n p).map fun q=>(φ q.1 q.2.1,q.2.2)
 pg:∀ n p l,W.own n p=some l→φ n p<C.N∧C.own (φ n p)=⟨3,n,p,lentN W.ls n p⟩∧C.dat (φ n p)=l
 pgk:∀ f,f<C.N→(C.own f).kind=3→∃ n p,(W.own n p).isSome=true∧φ n p=f
 hyp:C.region.Nodup∧∀ f,f∈C.region↔f<C.N∧(C.own f).kind=1
 cache:∀ r∈C.cache,∃ n:Nat,r.vm=n∧(W.vm n).on=true∧C.walk n r.page=some (r.f,r.w)
 csize:C.cache.length≤8
section
variable {C:Cst} {W:Wd} {φ:Nat→Nat→Nat}
theorem zfB {l:List Nat} {i:Nat} (h:i<l.length):l.getD i 0∈l:=by
 rw[List.getD_eq_getElem?_getD,List.getElem?_eq_getElem h];exact List.getElem_mem h
theorem Rel.frN (h:Rel C W φ) {n j:Nat} (hn:(W.vm n).on=true) (hj:j<5):(C.fr n).getD j 0<C.N∧C.own ((C.fr n).getD j 0)=⟨2,n,0,0⟩:=
 h.tabf n _ (zfB (by rw[(h.tab n hn).2.1];exact hj))
theorem Rel.cons (h:Rel C W φ) {n:Nat} (hn:(W.vm n).on=true):∃ a b c d e,C.fr n=[a,b,c,d,e]:=by
 have hl:=(h.tab n hn).2.1
 match hf:C.fr n,hl with
 | [a,b,c,d,e],_=>exact⟨a,b,c,d,e,rfl⟩
theorem Rel.leafC (h:Rel C W φ) {n:Nat} (hn:(W.vm n).on=true) {p:Nat} (hp:p<32):Go.Cr.leafC C.dat C.N (C.tf n) (C.fr n) p=some ((C.fr n).getD (p/8+1) 0,p%8):=by
 have h1:=(h.tab n hn).1
 have hr:=h.root n (p/8) hn (by omega)
 have h0:=h.frN hn (j:=0) (by decide)
 obtain⟨a,b,c,d,e,hf⟩:=h.cons hn
 rw[hf] at hr h0 ⊢
 unfold Go.Cr.leafC
 rw[if_neg (by omega)]
 simp only[List.getD_cons_zero] at h0 hr
 dsimp only
 rw[if_pos h0.1,h1]
 have e1:((p:Int)/8).toNat=p/8:=by omega
 have e2:((p:Int)%8).toNat=p%8:=by omega
 rw[e1,e2,hr];rfl
theorem Rel.walk (h:Rel C W φ) {n:Nat} (hn:(W.vm n).on=true) {p:Nat} (hp:p<32):C.walk n p=(W.where_ n p).map fun q=>(φ q.1 q.2.1,q.2.2):=by
 unfold Cst.walk walkC
 rw[h.leafC hn hp]
 dsimp only
 rw[if_pos (h.frN hn (by omega)).1,(h.tab n hn).1]
 exact h.leaf n p hn hp
theorem zcW {C:Cst} {n:Nat} {page:Int} (hp:page<0∨31<page):C.walk n page=none:=by
 unfold Cst.walk walkC Go.Cr.leafC
 rw[if_pos hp]
theorem Rel.ld_keep (h:Rel C W φ) {f:Nat} (hf:(C.own f).kind≠2) {l:List Int} {n j i:Nat} (hn:(W.vm n).on=true) (hj:j<5):ld (upd C.dat f l) ((C.fr n).getD j 0) i=ld C.dat ((C.fr n).getD j 0) i:=by
 have:=(h.frN hn hj).2
 unfold ld
 rw[zv]
 intro e
 rw[e] at this
 rw[this] at hf
 exact hf rfl
theorem Rel.inj (h:Rel C W φ) {n p m q:Nat} {l l':List Int} (h1:W.own n p=some l) (h2:W.own m q=some l') (e:φ n p=φ m q):n=m∧p=q:=by
 have e1:=(h.pg n p l h1).2.1
 have e2:=(h.pg m q l' h2).2.1
 rw[e,e2] at e1
 simp only[Ow.mk.injEq,Int.natCast_inj] at e1
 exact⟨e1.2.1.symm,e1.2.2.1.symm⟩
theorem WOk.where_own (h:WOk W) {n p:Nat} {q:Nat×Nat×Bool} (hq:W.where_ n p=some q):∃ l,W.own q.1 q.2.1=some l:=by
 unfold Wd.where_ at hq
 split at hq
 ·rename_i hs
  cases hq
  exact Option.isSome_iff_exists.1 hs
 ·cases hf:leaseAt W.ls n p with
  | none=>rw[hf] at hq;cases hq
  | some i=>
   rw[hf] at hq
   simp only[Option.map_some,Option.some.injEq] at hq
   subst hq
   have:=List.find?_some hf
   simp only[Bool.and_eq_true,decide_eq_true_eq] at this
   exact Option.isSome_iff_exists.1 (h.lsr i this.1).2.2.2.2.1
end
end Go.Cr
end
section
namespace Go.Cr
open Go Go.Pt
theorem _root_.Go.Pt.Rw.claim {S S':Mem} {ρ:Rho} {R:Nat→Prop} {r size:Nat} {t:Sl} {l:List Value} (hg:∀ b r,ρ b=some r→S b≠none) (hk:Keeps S S' []) (hrow:Row S' size t l) (hf:∀ b o,t.p=some (b,o)→S b=none) :
  ∃ ρ',Mv S ρ S' ρ' R∧Rw S' ρ' r size t l:=by
 rcases hrow.lie with ⟨h1,_⟩ | ⟨b,k,h1,h2,_⟩
 ·exact⟨ρ,Mv.keeps hg hk,hrow,fun b o h=>by rw[h1] at h;cases h⟩
 ·refine⟨ρ.upd b r,Mv.claim hg hk (hf b 0 h1) (by rw[h2];simp),hrow,fun b' o h=>?_⟩
  rw[h1] at h;cases h;exact yt
structure StoreD (S:Mem) (ρ:Rho) (m N:Nat) (d:Nat→List Int):Prop where
 ex:∃ B,StoreAt S m B N (cF N d)∧ρ B=some 2
 rol:ρ m=some 1
 len:∀ f,f<N→(d f).length=256
 byt:∀ f,f<N→Byt (d f)
section
variable {S S':Mem} {ρ ρ':Rho} {R:Nat→Prop} {m N:Nat} {d:Nat→List Int}
theorem StoreD.keep (h:StoreD S ρ m N d) (mv:Mv S ρ S' ρ' R) (h1:¬R 1) (h2:¬R 2):StoreD S' ρ' m N d:=by
 obtain⟨B,hB,hr⟩:=h.ex
 have e1:S' m=S m:=mv.kp m (by rw[hB.hd];simp) fun r e=>by rw[h.rol] at e;cases e;exact h1
 have e2:S' B=S B:=mv.kp B (by rw[hB.dt];simp) fun r e=>by rw[hr] at e;cases e;exact h2
 exact⟨⟨B,⟨by rw[e1];exact hB.hd,by rw[e2];exact hB.dt,hB.ne,hB.len,hB.byt,hB.lim⟩,mv.ext B 2 hr⟩,mv.ext m 1 h.rol,h.len,h.byt⟩
theorem StoreD.keeps (h:StoreD S ρ m N d) (hk:Keeps S S' []):StoreD S' ρ m N d:=by
 obtain⟨B,hB,hr⟩:=h.ex
 exact⟨⟨B,hB.keep hk,hr⟩,h.rol,h.len,h.byt⟩
theorem StoreD.lim (h:StoreD S ρ m N d):N≤512:=by obtain⟨B,hB,_⟩:=h.ex;exact hB.lim
end
end Go.Cr
namespace Go.Proofs.YtabdpmnhjlmnlaaGreatDoor
open Go Go.Pt Go.Cr
section
variable {S:Mem} {ρ:Rho} {m N:Nat} {d:Nat→List Int}
end
end Go.Proofs.YtabdpmnhjlmnlaaGreatDoor
namespace Go.Cr
open Go Go.Pt
open Go.Proofs.YtabdpmnhjlmnlaaGreatDoor (enL noEn)
def tbL (tf:Int) (fs:Sl):List Value:=[.int .i64 tf,eL fs]
end Go.Cr
namespace Go.Proofs.YtabdpmnhjlmnlaaGreatDoor
open Go Go.Pt Go.Cr
section
variable {S:Mem} {ρ:Rho} {m N:Nat} {d:Nat→List Int} {tf:Int} {fs:Sl} {fr:List Nat}
end
end Go.Proofs.YtabdpmnhjlmnlaaGreatDoor
end
section
namespace Go.Cr
open Go Go.Pt
theorem zfC {S S':Mem} {b:Nat} (hk:Keeps S S' []) (h:S' b=none):S b=none:=by
 cases hs:S b with
 | none=>rfl
 | some k=>have:=hk.get hs (by simp);rw[h] at this;cases this
theorem zbc {α:Type} {f:α→List Value} {w:Nat} (h:∀ a,(f a).length=w):∀ l:List α,(l.flatMap f).length=l.length*w
 | []=>by simp
 | a :: l=>by rw[List.flatMap_cons,List.length_append,zbc h l,h,List.length_cons,Nat.add_mul];omega
theorem ziQ {α:Type} {f:α→List Value} {w:Nat} (h:∀ a,(f a).length=w) {l:List α} {j:Nat} (hj:j<l.length):l.flatMap f=(l.take j).flatMap f++(f l[j]++(l.drop (j+1)).flatMap f)∧((l.take j).flatMap f).length=j*w:=by
 constructor
 ·have e:l=l.take j++(l[j] :: l.drop (j+1)):=by rw[List.getElem_cons_drop,List.take_append_drop]
  have e2:=congrArg (List.flatMap f) e
  rw[List.flatMap_append,List.flatMap_cons] at e2
  exact e2
 ·rw[zbc h,List.length_take,Nat.min_eq_left (by omega)]
theorem zhN {α:Type} {f:α→List Value} {w:Nat} (h:∀ a,(f a).length=w) {l:List α} {j:Nat} (hj:j<l.length):lpart (l.flatMap f) (j*w) w=some (f l[j]):=by
 obtain⟨e1,e2⟩:=ziQ h hj
 have hl:=h l[j]
 rw[e1,show j*w=j*w+0 by omega,xD e2,wU (by omega),←hl,zg rfl]
structure CaP (S:Mem) (ρ:Rho) (r0 h i:Nat) (L:Sl→List Value) (l:List Cw):Prop where
 ex:∃ cs,Pc S ρ r0 h (L cs)∧Rw S ρ 6 5 cs (l.flatMap cwL)
 get:∀ cs,nthL (L cs) i=some (eL cs)
 set:∀ cs cs',spl (L cs) i [eL cs']=L cs'
 ne:r0≠6
variable {S S':Mem} {ρ ρ':Rho} {R:Nat→Prop} {r0 h i:Nat} {L:Sl→List Value} {l:List Cw}
theorem CaP.keep (hc:CaP S ρ r0 h i L l) (m:Mv S ρ S' ρ' R) (h0:¬R r0) (h6:¬R 6):CaP S' ρ' r0 h i L l:=by
 obtain⟨cs,h1,h2⟩:=hc.ex
 exact⟨⟨cs,h1.keep m h0,h2.keep m h6⟩,hc.get,hc.set,hc.ne⟩
theorem CaP.keeps (hc:CaP S ρ r0 h i L l) (hk:Keeps S S' []):CaP S' ρ r0 h i L l:=by
 obtain⟨cs,h1,h2⟩:=hc.ex
 exact⟨⟨cs,h1.keeps hk,h2.keeps hk⟩,hc.get,hc.set,hc.ne⟩
end Go.Cr
namespace Go.Proofs.YtabdpmnhjlmnlaaGreatDoor
open Go Go.Pt Go.Cr
section
variable {S:Mem} {ρ:Rho} {r0 h i:Nat} {L:Sl→List Value} {l:List Cw}
def Wants (S:Mem) (fv:Value) (p:Cw→Bool):Prop:=∀ S' r (R:Value→Mem→Prop),Keeps S S' []→R (.bool (p r)) S'→cv Tryz.prog S' fv [valL (cwL r)] R
end
end Go.Proofs.YtabdpmnhjlmnlaaGreatDoor
end
