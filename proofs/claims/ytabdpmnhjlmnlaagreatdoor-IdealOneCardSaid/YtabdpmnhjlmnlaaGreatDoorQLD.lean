/- Texts of this work,joined by program (pack.py): PsB. -/
import Derived.Test.YtabdpmnhjlmnlaaGreatDoorQLC
set_option linter.unusedVariables false
section
namespace Go.Proofs.YtabdpmnhjlmnlaaGreatDoor
open Go Go.Pt
attribute [local irreducible] Code.wp Back bodyPost wpList FR WL WC WQ WA AW Tr Yc HC AllC
set_option maxRecDepth 20000
set_option maxHeartbeats 4000000
set_option linter.unusedVariables false
def jp (S:Mem) (w:Int) (Q:List Value→Bool→Mem→Prop):Prop:=
 wS S (IntKind.u64.wrap w) 26 6 fun t Sx=>
 wS Sx (IntKind.u64.wrap w) 22 4 fun t_1 Sx_1=>
 wS Sx_1 (IntKind.u64.wrap w) 18 4 fun t_2 Sx_2=>
 jn (fun (o:List Value) (Sx_3:Mem)=>
 o.length=5 ∧
 fF Sx_3 o fun t_3 t_4 Sx_4=>
 if t_4=true then
 if t_3≠w then
 Q ([.int .u8 0,.int .u8 0,.int .u8 0,.int .u8 0,.int .i16 0]) false Sx_4
 else
 o.all (·.oneCell')=true ∧
 Q o true Sx_4
 else
 Q ([.int .u8 0,.int .u8 0,.int .u8 0,.int .u8 0,.int .i16 0]) false Sx_4) fun Jx=>
 vR Sx_2 (IntKind.u8.wrap t) fun t_5 Sx_5=>
 gB (nthL t_5 2) fun t_6=>
 if t_6=true then
 wS Sx_5 (IntKind.u64.wrap w) 0 4 fun t_7 Sx_6=>
 Jx ([.int .u8 (IntKind.u8.wrap t),.int .u8 (IntKind.u8.wrap t_1),.int .u8 (IntKind.u8.wrap t_2),.int .u8 (IntKind.u8.wrap t_7),.int .i16 0]) Sx_6
 else
 wS Sx_5 (IntKind.u64.wrap w) 0 16 fun t_8 Sx_7=>
 Jx ([.int .u8 (IntKind.u8.wrap t),.int .u8 (IntKind.u8.wrap t_1),.int .u8 (IntKind.u8.wrap t_2),.int .u8 0,.int .i16 (IntKind.i16.wrap t_8)]) Sx_7
theorem zdb {S:Mem} {w:Int} {Q:List Value→Bool→Mem→Prop} (H:jp S w Q):fG S w Q:=by
 unfold jp at H
 exact Tr.intro Tryz.func123 E Tryz.ntmps123 E fun w0=>csr<|by refine zP E fun b=>?_;exact gv E E<|nxr<|mv E E<|s_p E (zN ⟨_,Tryz.underlying41⟩ E)<|gv E E<|nxr<|mv E E<|qM E E H fun t Sx H1=>s_p E (zN ⟨_,Tryz.underlying39⟩ E)<|mv E E<|qM E E H1 fun t_1 Sx_1 H2=>s_p E (zN ⟨_,Tryz.underlying39⟩ E)<|mv E E<|qM E E H2 fun t_2 Sx_2 H3=>s_p E (zN ⟨_,Tryz.underlying39⟩ E)<|s_p E (zR E E)<|by exact by refine zP E fun b_1=>?_;exact qv (sz:=5) (vs:=[.int .u8 (IntKind.u8.wrap t),.int .u8 (IntKind.u8.wrap t_1),.int .u8 (IntKind.u8.wrap t_2),.int .u8 0,.int .i16 0]) 1 E E E E E E (Nat.le_of_ble_eq_true E) E<|nx<|zm H3 (fun (J:List Value→Mem→Prop) (z:List Value) S=>J z S) (fun z=>⟨46,[(0,.int .u32 w),(2,.pointer (some ⟨b,0,none⟩)),(5,.pointer (some ⟨b_1,0,none⟩))]⟩) (fun z=>[⟨b,231,[.int .u8 0,.int .u8 0,.int .u8 0,.int .u8 0,.int .i16 0]⟩,⟨b_1,231,z⟩]) (fun o Sx_3 H4=>an H4 fun ho H5=>csr<|by refine s_v E (zO E ho) (zD (k:=5) 1 E (zg ho)) ?_;exact zcu E E H5 fun t_3 t_4 Sx_4 H6=>mv E E<|s_p E (zj E E)<|iteK H6 (fun c H7=>s_p E (yB (zj E E) c)<|gv E E<|gv E E<|nx<|zG<|csr<|mv E E<|s_p E (yB (qe E) E)<|mv E E<|mv E E<|mv E E<|iteK H7 (fun c_1 H8=>s_p E (yT (qm E E) c_1)<|pk E E E<|nx<|c_t E E<|csr<|s_p E (zR E E)<|by exact qv (sz:=5) (vs:=[.int .u8 0,.int .u8 0,.int .u8 0,.int .u8 0,.int .i16 0]) 0 E E E E E E (Nat.le_of_ble_eq_true E) E<|gv E E<|nx<|zi<|zb<|zh Tryz.results123 (zy E (zD (k:=5) 0 E E) E (zc E ze)) ⟨_,_,E,E,H8⟩) fun c_1 H8=>s_p E (yF (qm E E) c_1)<|pk E E E<|nx<|cfs E E<|zr<|csr<|by refine s_v E (zO E ho) (zD (k:=5) 1 E (zg ho)) ?_;exact an H8 fun c_2 H9=>zq 0 E E E E E ho E c_2<|gv E E<|nx<|zi<|zh Tryz.results123 (zy E (zD (k:=5) 0 E (zg ho)) ho (zc E ze)) ⟨_,_,E,ho,H9⟩) fun c H7=>s_p E (yB (zj E E) (wQ c))<|gv E E<|gv E E<|nx<|zG<|csr<|mv E E<|s_p E (yB (qe E) E)<|mv E E<|sk2 E E<|zK E<|pk E E E<|nx<|c_t E E<|csr<|s_p E (zR E E)<|by exact qv (sz:=5) (vs:=[.int .u8 0,.int .u8 0,.int .u8 0,.int .u8 0,.int .i16 0]) 0 E E E E E E (Nat.le_of_ble_eq_true E) E<|gv E E<|nx<|zi<|zb<|zh Tryz.results123 (zy E (zD (k:=5) 0 E E) E (zc E ze)) ⟨_,_,E,E,H7⟩) (fun Jx hJx H10=>csr<|s_p E (zp E E)<|s_v E (zA E) (zQ 1 E E)<|qr E E H10 fun rv Sx_5 H11=>by obtain⟨t_5,rfl,ht_5,H12⟩:=H11;exact gx H12 fun t_6 ht_6 H13=>by have H14:=wO H13;rcases H14 with ⟨rfl,H15⟩ | ⟨rfl,H15⟩;exact (s_p E (zcT E ht_6)<|nx<|ctr E E<|mv E E<|qM E E H15 fun t_7 Sx_6 H16=>s_p E (zN ⟨_,Tryz.underlying39⟩ E)<|s_p E (zp E E)<|qv (sz:=1) (vs:=[.int .u8 (IntKind.u8.wrap t_7)]) 1 E E E E E E (Nat.le_of_ble_eq_true E) E<|zn<|hJx ([.int .u8 (IntKind.u8.wrap t),.int .u8 (IntKind.u8.wrap t_1),.int .u8 (IntKind.u8.wrap t_2),.int .u8 (IntKind.u8.wrap t_7),.int .i16 0]) _ _ _ _ [0,0] H16 E ⟨E,E,E,True.intro⟩ E);exact (s_p E (zcT E ht_6)<|nx<|cfr E E<|mv E E<|qM E E H15 fun t_8 Sx_7 H17=>s_p E (zN ⟨_,Tryz.underlying39⟩ E)<|s_p E (zp E E)<|qv (sz:=1) (vs:=[.int .i16 (IntKind.i16.wrap t_8)]) 1 E E E E E E (Nat.le_of_ble_eq_true E) E<|zn<|hJx ([.int .u8 (IntKind.u8.wrap t),.int .u8 (IntKind.u8.wrap t_1),.int .u8 (IntKind.u8.wrap t_2),.int .u8 0,.int .i16 (IntKind.i16.wrap t_8)]) _ _ _ _ [0,0] H17 E ⟨E,E,E,True.intro⟩ E))
def jm (S:Mem) (code:Int) (Q:List Value→Mem→Prop):Prop:=
 jn (fun (v:List Value) (Sx:Mem)=>
 v.length=4 ∧
 Q ([.bool true,.bool true,.bool true,.bool false]) Sx) fun Jx=>
 jn (fun (t:Bool) (Sx_1:Mem)=>
 if t=true then
 Q ([.bool false,.bool false,.bool false,.bool false]) Sx_1
 else
 jn (fun (t_1:Bool) (Sx_2:Mem)=>
 if t_1=true then
 Q ([.bool true,.bool false,.bool false,.bool true]) Sx_2
 else
 if code=20 then
 Q ([.bool false,.bool false,.bool false,.bool true]) Sx_2
 else
 jn (fun (t_2:Bool) (Sx_3:Mem)=>
 if t_2=true then
 Q ([.bool true,.bool true,.bool false,.bool true]) Sx_3
 else
 Jx ([.bool false,.bool false,.bool false,.bool false]) Sx_3) fun Jx_1=>
 if code=11 then
 Jx_1 true Sx_2
 else
 if code=12 then
 Jx_1 true Sx_2
 else
 if code=13 then
 Jx_1 true Sx_2
 else
 if code=14 then
 Jx_1 true Sx_2
 else
 if code=15 then
 Jx_1 true Sx_2
 else
 if code=16 then
 Jx_1 true Sx_2
 else
 if code=17 then
 Jx_1 true Sx_2
 else
 Jx_1 false Sx_2) fun Jx_2=>
 if code=1 then
 Jx_2 true Sx_1
 else
 if code=2 then
 Jx_2 true Sx_1
 else
 if code=18 then
 Jx_2 true Sx_1
 else
 if code=19 then
 Jx_2 true Sx_1
 else
 Jx_2 false Sx_1) fun Jx_3=>
 if code=0 then
 Jx_3 true S
 else
 if code=21 then
 Jx_3 true S
 else
 if code=22 then
 Jx_3 true S
 else
 Jx_3 false S
theorem zcZ {S:Mem} {code:Int} {Q:List Value→Mem→Prop} (H:jm S code Q):vR S code Q:=by
 unfold jm at H
 exact Tr.intro Tryz.func173 E Tryz.ntmps173 E fun w0=>csr<|by refine zP E fun b=>?_;exact nx<|zm H (fun (J:List Value→Mem→Prop) (z:List Value) S=>J z S) (fun z=>⟨28,[(2,.pointer (some ⟨b,0,none⟩))]⟩) (fun z=>[⟨b,292,z⟩]) (fun v Sx H1=>an H1 fun hv H2=>csr<|s_p E (zR E E)<|by exact zq 0 E E E E E E hv E<|nx<|zi<|zh Tryz.results173 (zy E (zD (k:=4) 0 E E) E ze) ⟨_,E,E,H2⟩) (fun Jx hJx H3=>csr<|mv E E<|nx<|zE<|zm H3 (fun (J:Bool→Mem→Prop) (z:Bool) S=>J z S) (fun z=>⟨28,[(2,.pointer (some ⟨b,0,none⟩)),(3,.int .u8 code),(4,.bool z)]⟩) (fun z=>[⟨b,292,[.bool false,.bool false,.bool false,.bool false]⟩]) (fun t Sx_1 H4=>by have H5:=wO H4;rcases H5 with ⟨c,H6⟩ | ⟨c,H6⟩;exact (c_t E c<|csr<|s_p E (zR E E)<|by exact qv (sz:=4) (vs:=[.bool false,.bool false,.bool false,.bool false]) 0 E E E E E E (Nat.le_of_ble_eq_true E) E<|nx<|zi<|zl<|zb<|zh Tryz.results173 (zy E (zD (k:=4) 0 E E) E ze) ⟨_,E,E,H6⟩);exact (c_f E c<|zm H6 (fun (J:Bool→Mem→Prop) (z:Bool) S=>J z S) (fun z=>⟨28,[(2,.pointer (some ⟨b,0,none⟩)),(3,.int .u8 code),(9,.bool z)]⟩) (fun z=>[⟨b,292,[.bool false,.bool false,.bool false,.bool false]⟩]) (fun t_1 Sx_2 H7=>by have H8:=wO H7;rcases H8 with ⟨c_1,H9⟩ | ⟨c_1,H9⟩;exact (c_t E c_1<|csr<|s_p E (zR E E)<|by exact qv (sz:=4) (vs:=[.bool true,.bool false,.bool false,.bool true]) 0 E E E E E E (Nat.le_of_ble_eq_true E) E<|nx<|zi<|zl<|zb<|zh Tryz.results173 (zy E (zD (k:=4) 0 E E) E ze) ⟨_,E,E,H9⟩);exact (c_f E c_1<|csr<|iteK H9 (fun c_2 H10=>ceT E E E (c_2)<|gv E E<|nx<|c_t E E<|csr<|s_p E (zR E E)<|by exact qv (sz:=4) (vs:=[.bool false,.bool false,.bool false,.bool true]) 0 E E E E E E (Nat.le_of_ble_eq_true E) E<|nx<|zi<|zl<|zb<|zh Tryz.results173 (zy E (zD (k:=4) 0 E E) E ze) ⟨_,E,E,H10⟩) fun c_2 H10=>ceF E E E (c_2)<|gv E E<|nx<|c_f E E<|zm H10 (fun (J:Bool→Mem→Prop) (z:Bool) S=>J z S) (fun z=>⟨28,[(2,.pointer (some ⟨b,0,none⟩)),(18,.bool z)]⟩) (fun z=>[⟨b,292,[.bool false,.bool false,.bool false,.bool false]⟩]) (fun t_2 Sx_3 H11=>by have H12:=wO H11;rcases H12 with ⟨c_3,H13⟩ | ⟨c_3,H13⟩;exact (c_t E c_3<|csr<|s_p E (zR E E)<|by exact qv (sz:=4) (vs:=[.bool true,.bool true,.bool false,.bool true]) 0 E E E E E E (Nat.le_of_ble_eq_true E) E<|nx<|zi<|zl<|zb<|zh Tryz.results173 (zy E (zD (k:=4) 0 E E) E ze) ⟨_,E,E,H13⟩);exact (c_f E c_3<|qw<|zS<|hJx ([.bool false,.bool false,.bool false,.bool false]) _ _ _ _ [0] H13 E ⟨E,True.intro⟩ E)) (fun Jx_1 hJx_1 H14=>csr<|iteK H14 (fun c_4 H15=>ceT E E E (c_4)<|gv E E<|nx<|c_t E E<|qw<|hJx_1 true _ _ _ _ [0] H15 E ⟨E,E,True.intro⟩ E) fun c_4 H15=>ceF E E E (c_4)<|gv E E<|nx<|c_f E E<|csr<|iteK H15 (fun c_5 H16=>ceT E E E (c_5)<|gv E E<|nx<|c_t E E<|qw<|hJx_1 true _ _ _ _ [0] H16 E ⟨E,E,True.intro⟩ E) fun c_5 H16=>ceF E E E (c_5)<|gv E E<|nx<|c_f E E<|csr<|iteK H16 (fun c_6 H17=>ceT E E E (c_6)<|gv E E<|nx<|c_t E E<|qw<|hJx_1 true _ _ _ _ [0] H17 E ⟨E,E,True.intro⟩ E) fun c_6 H17=>ceF E E E (c_6)<|gv E E<|nx<|c_f E E<|csr<|iteK H17 (fun c_7 H18=>ceT E E E (c_7)<|gv E E<|nx<|c_t E E<|qw<|hJx_1 true _ _ _ _ [0] H18 E ⟨E,E,True.intro⟩ E) fun c_7 H18=>ceF E E E (c_7)<|gv E E<|nx<|c_f E E<|csr<|iteK H18 (fun c_8 H19=>ceT E E E (c_8)<|gv E E<|nx<|c_t E E<|qw<|hJx_1 true _ _ _ _ [0] H19 E ⟨E,E,True.intro⟩ E) fun c_8 H19=>ceF E E E (c_8)<|gv E E<|nx<|c_f E E<|csr<|iteK H19 (fun c_9 H20=>ceT E E E (c_9)<|by exact gv E E<|nx<|c_t E E<|qw<|hJx_1 true _ _ _ _ [0] H20 E ⟨E,E,True.intro⟩ E) fun c_9 H20=>ceF E E E (c_9)<|by exact gv E E<|nx<|cfr E E<|iteK H20 (fun c_10 H21=>ceT E E E (c_10)<|gv E E<|zn<|hJx_1 true _ _ _ _ [0] H21 E ⟨E,E,True.intro⟩ E) fun c_10 H21=>ceF E E E (c_10)<|gv E E<|zn<|hJx_1 false _ _ _ _ [0] H21 E ⟨E,E,True.intro⟩ E))) (fun Jx_2 hJx_2 H22=>csr<|iteK H22 (fun c_11 H23=>ceT E E E (c_11)<|gv E E<|nx<|c_t E E<|qw<|hJx_2 true _ _ _ _ [0] H23 E ⟨E,E,E,True.intro⟩ E) fun c_11 H23=>ceF E E E (c_11)<|gv E E<|nx<|c_f E E<|csr<|iteK H23 (fun c_12 H24=>ceT E E E (c_12)<|gv E E<|nx<|c_t E E<|qw<|hJx_2 true _ _ _ _ [0] H24 E ⟨E,E,E,True.intro⟩ E) fun c_12 H24=>ceF E E E (c_12)<|gv E E<|nx<|c_f E E<|csr<|iteK H24 (fun c_13 H25=>ceT E E E (c_13)<|gv E E<|nx<|c_t E E<|qw<|hJx_2 true _ _ _ _ [0] H25 E ⟨E,E,E,True.intro⟩ E) fun c_13 H25=>ceF E E E (c_13)<|gv E E<|nx<|cfr E E<|iteK H25 (fun c_14 H26=>ceT E E E (c_14)<|gv E E<|zn<|hJx_2 true _ _ _ _ [0] H26 E ⟨E,E,E,True.intro⟩ E) fun c_14 H26=>ceF E E E (c_14)<|gv E E<|zn<|hJx_2 false _ _ _ _ [0] H26 E ⟨E,E,E,True.intro⟩ E))) (fun Jx_3 hJx_3 H27=>csr<|iteK H27 (fun c_15 H28=>ceT E E E (c_15)<|gv E E<|nx<|c_t E E<|qw<|hJx_3 true _ _ _ _ [0] H28 E ⟨E,E,E,True.intro⟩ E) fun c_15 H28=>ceF E E E (c_15)<|gv E E<|nx<|c_f E E<|csr<|iteK H28 (fun c_16 H29=>ceT E E E (c_16)<|gv E E<|nx<|c_t E E<|qw<|hJx_3 true _ _ _ _ [0] H29 E ⟨E,E,E,True.intro⟩ E) fun c_16 H29=>ceF E E E (c_16)<|gv E E<|nx<|cfr E E<|iteK H29 (fun c_17 H30=>ceT E E E (c_17)<|gv E E<|zn<|hJx_3 true _ _ _ _ [0] H30 E ⟨E,E,E,True.intro⟩ E) fun c_17 H30=>ceF E E E (c_17)<|gv E E<|zn<|hJx_3 false _ _ _ _ [0] H30 E ⟨E,E,E,True.intro⟩ E))
def jo (S:Mem) (o:List Value) (Q:Int→Bool→Mem→Prop):Prop:=
 o.length=5 ∧
 jn (fun (Sx:Mem)=>
 gI (nthL o 0) .u8 fun t=>
 ww Sx 0 26 6 (IntKind.u64.wrap t) fun t_1 Sx_1=>
 gI (nthL o 1) .u8 fun t_2=>
 ww Sx_1 t_1 22 4 (IntKind.u64.wrap t_2) fun t_3 Sx_2=>
 gI (nthL o 2) .u8 fun t_4=>
 ww Sx_2 t_3 18 4 (IntKind.u64.wrap t_4) fun t_5 Sx_3=>
 jn (fun (Sx_4:Mem)=>
 gI (nthL o 4) .i16 fun t_6=>
 ww Sx_4 t_5 0 16 (IntKind.u64.wrap (IntKind.u16.wrap t_6)) fun t_7 Sx_5=>
 Q (IntKind.u32.wrap t_7) true Sx_5) fun Jx=>
 gI (nthL o 0) .u8 fun t_8=>
 vR Sx_3 t_8 fun t_9 Sx_6=>
 gB (nthL t_9 2) fun t_10=>
 if t_10=true then
 gI (nthL o 3) .u8 fun t_11=>
 ww Sx_6 t_5 0 4 (IntKind.u64.wrap t_11) fun t_12 Sx_7=>
 Q (IntKind.u32.wrap t_12) true Sx_7
 else
 Jx Sx_6) fun Jx_1=>
 zaQ S o fun t_13 Sx_8=>
 if t_13=true then
 Jx_1 Sx_8
 else
 Q 0 false Sx_8
theorem zda {S:Mem} {o:List Value} {Q:Int→Bool→Mem→Prop} (H:jo S o Q):fF S o Q:=by
 unfold jo at H
 exact Tr.intro Tryz.func174 E Tryz.ntmps174 E fun w0=>an H fun ho H1=>csr<|qI E E E fun b=>gv E E<|gv E E<|nx<|zm H1 (fun (J:Mem→Prop) (z:Unit) S=>J S) (fun z=>⟨39,[(1,.pointer (some ⟨b,0,none⟩))]⟩) (fun z=>[⟨b,231,o⟩]) (fun _ Sx H2=>csr<|s_p E (zp E E)<|gx H2 fun t ht H3=>s_v E (zA E) (zQ 0 E ht)<|s_p E (zN ⟨_,Tryz.underlying5⟩ E)<|qM E E H3 fun t_1 Sx_1 H4=>gv E E<|nxr<|mv E E<|s_p E (zp E E)<|gx H4 fun t_2 ht_2 H5=>s_v E (zA E) (zQ 0 E ht_2)<|s_p E (zN ⟨_,Tryz.underlying5⟩ E)<|qM E E H5 fun t_3 Sx_2 H6=>gv E E<|nxr<|mv E E<|s_p E (zp E E)<|gx H6 fun t_4 ht_4 H7=>s_v E (zA E) (zQ 0 E ht_4)<|s_p E (zN ⟨_,Tryz.underlying5⟩ E)<|qM E E H7 fun t_5 Sx_3 H8=>gv E E<|nx<|zm H8 (fun (J:Mem→Prop) (z:Unit) S=>J S) (fun z=>⟨39,[(1,.pointer (some ⟨b,0,none⟩)),(4,.int .u64 t_5)]⟩) (fun z=>[⟨b,231,o⟩]) (fun _ Sx_4 H9=>csr<|mv E E<|s_p E (zp E E)<|gx H9 fun t_6 ht_6 H10=>s_v E (zA E) (zQ 0 E ht_6)<|s_p E (zN ⟨_,Tryz.underlying54⟩ E)<|s_p E (zN ⟨_,Tryz.underlying166⟩ E)<|by exact qM E E H10 fun t_7 Sx_5 H11=>s_p E (zN ⟨_,Tryz.underlying39⟩ E)<|gv E E<|gv E E<|nx<|zi<|zh Tryz.results174 (zc E (zc E ze)) ⟨_,_,E,H11⟩) (fun Jx hJx H12=>csr<|s_p E (zp E E)<|gx H12 fun t_8 ht_8 H13=>s_v E (zA E) (zQ 0 E ht_8)<|qr E E H13 fun rv Sx_6 H14=>by obtain⟨t_9,rfl,ht_9,H15⟩:=H14;exact gx H15 fun t_10 ht_10 H16=>by have H17:=wO H16;rcases H17 with ⟨rfl,H18⟩ | ⟨rfl,H18⟩;exact (s_p E (zcT E ht_10)<|nx<|c_t E E<|csr<|mv E E<|s_p E (zp E E)<|gx H18 fun t_11 ht_11 H19=>s_v E (zA E) (zQ 0 E ht_11)<|s_p E (zN ⟨_,Tryz.underlying5⟩ E)<|qM E E H19 fun t_12 Sx_7 H20=>s_p E (zN ⟨_,Tryz.underlying39⟩ E)<|gv E E<|gv E E<|nx<|zi<|zb<|zh Tryz.results174 (zc E (zc E ze)) ⟨_,_,E,H20⟩);exact (s_p E (zcT E ht_10)<|nx<|cfs E E<|hJx () _ _ _ _ [0] H18 E ⟨E,E,True.intro⟩ E))) (fun Jx_1 hJx_1 H21=>csr<|by refine s_v E (zO E ho) (zD (k:=5) 0 E (zg ho)) ?_;exact qM E E H21 fun t_13 Sx_8 H22=>by have H23:=wO H22;rcases H23 with ⟨rfl,H24⟩ | ⟨rfl,H24⟩;exact (s_p E (yB (qe E) E)<|nx<|cfs E E<|hJx_1 () _ _ _ _ [0] H24 E ⟨E,True.intro⟩ E);exact (s_p E (yB (qe E) E)<|nx<|c_t E E<|csr<|gv E E<|gv E E<|nx<|zi<|zb<|zh Tryz.results174 (zc E (zc E ze)) ⟨_,_,E,H24⟩))
def gC (S:Mem) (o:List Value) (Q:Bool→Mem→Prop):Prop:=
 o.length=5 ∧
 gI (nthL o 0) .u8 fun t=>
 vR S t fun t_1 Sx=>
 t_1.all (·.oneCell')=true ∧
 jn (fun (Sx_1:Mem)=>
 gI (nthL o 0) .u8 fun t_2=>
 if t_2=18 then
 gI (nthL o 4) .i16 fun t_3=>
 if 0≤t_3 then
 gI (nthL o 4) .i16 fun t_4=>
 Q (decide (t_4<9)) Sx_1
 else
 Q false Sx_1
 else
 gI (nthL o 0) .u8 fun t_5=>
 if t_5=19 then
 gI (nthL o 4) .i16 fun t_6=>
 if 0≤t_6 then
 gI (nthL o 4) .i16 fun t_7=>
 Q (decide (t_7<9)) Sx_1
 else
 Q false Sx_1
 else
 Q true Sx_1) fun Jx=>
 gI (nthL o 0) .u8 fun t_8=>
 if 23≤t_8 then
 Q false Sx
 else
 gB (nthL t_1 0) fun t_9=>
 gI (nthL o 1) .u8 fun t_10=>
 cv Tryz.prog Sx (.func (.func 240) #[] #[]) [.bool t_9,.int .u8 t_10] fun rv Sx_2=>∃ t_11:Bool,rv=.bool t_11∧
 if t_11=true then
 gB (nthL t_1 1) fun t_12=>
 gI (nthL o 2) .u8 fun t_13=>
 cv Tryz.prog Sx_2 (.func (.func 240) #[] #[]) [.bool t_12,.int .u8 t_13] fun rv Sx_3=>∃ t_14:Bool,rv=.bool t_14∧
 if t_14=true then
 gB (nthL t_1 2) fun t_15=>
 gI (nthL o 3) .u8 fun t_16=>
 cv Tryz.prog Sx_3 (.func (.func 240) #[] #[]) [.bool t_15,.int .u8 t_16] fun rv Sx_4=>∃ t_17:Bool,rv=.bool t_17∧
 if t_17=true then
 gB (nthL t_1 3) fun t_18=>
 if t_18=true then
 Jx Sx_4
 else
 gI (nthL o 4) .i16 fun t_19=>
 if t_19≠0 then
 Q false Sx_4
 else
 Jx Sx_4
 else
 Q false Sx_4
 else
 Q false Sx_3
 else
 Q false Sx_2
theorem zdG {S:Mem} {o:List Value} {Q:Bool→Mem→Prop} (H:gC S o Q):zaQ S o Q:=by
 unfold gC at H
 exact Tr.intro Tryz.func219 E Tryz.ntmps219 E fun w0=>an H fun ho H1=>csr<|qI E E E fun b=>gv E E<|nxr<|s_p E (zp E E)<|gx H1 fun t ht H2=>s_v E (zA E) (zQ 0 E ht)<|qr E E H2 fun rv Sx H3=>by obtain⟨t_1,rfl,ht_1,H4⟩:=H3;exact by refine zP E fun b_1=>?_;exact an H4 fun c H5=>zq 1 E E E E E ht_1 E c<|nxr<|gv E E<|nx<|zm H5 (fun (J:Mem→Prop) (z:Unit) S=>J S) (fun z=>⟨64,[(1,.pointer (some ⟨b,0,none⟩))]⟩) (fun z=>[⟨b,231,o⟩]) (fun _ Sx_1 H6=>zG<|csr<|s_p E (zp E E)<|gx H6 fun t_2 ht_2 H7=>s_v E (zA E) (zQ 0 E ht_2)<|iteK H7 (fun c_1 H8=>ceT E E E (c_1)<|mv E E<|sk2 E E<|zK E<|pk E E E<|nx<|c_t E E<|csr<|s_p E (zp E E)<|gx H8 fun t_3 ht_3 H9=>s_v E (zA E) (zQ 0 E ht_3)<|iteK H9 (fun c_2 H10=>s_p E (yT (qq E E) c_2)<|mv E E<|s_p E (zp E E)<|gx H10 fun t_4 ht_4 H11=>s_v E (zA E) (zQ 0 E ht_4)<|s_p E (zH E E)<|pk E E E<|gv E E<|nx<|zi<|zb<|zh Tryz.results219 (zc E ze) ⟨_,E,H11⟩) fun c_2 H10=>s_p E (yF (qq E E) c_2)<|mv E E<|sk2 E E<|zK E<|pk E E E<|gv E E<|nx<|zi<|zb<|zh Tryz.results219 (zc E ze) ⟨_,E,H10⟩) fun c_1 H8=>ceF E E E (c_1)<|mv E E<|s_p E (zp E E)<|gx H8 fun t_5 ht_5 H12=>s_v E (zA E) (zQ 0 E ht_5)<|iteK H12 (fun c_3 H13=>ceT E E E (c_3)<|pk E E E<|nx<|c_t E E<|csr<|s_p E (zp E E)<|gx H13 fun t_6 ht_6 H14=>s_v E (zA E) (zQ 0 E ht_6)<|iteK H14 (fun c_4 H15=>s_p E (yT (qq E E) c_4)<|mv E E<|s_p E (zp E E)<|gx H15 fun t_7 ht_7 H16=>s_v E (zA E) (zQ 0 E ht_7)<|s_p E (zH E E)<|pk E E E<|gv E E<|nx<|zi<|zb<|zh Tryz.results219 (zc E ze) ⟨_,E,H16⟩) fun c_4 H15=>s_p E (yF (qq E E) c_4)<|mv E E<|sk2 E E<|zK E<|pk E E E<|gv E E<|nx<|zi<|zb<|zh Tryz.results219 (zc E ze) ⟨_,E,H15⟩) fun c_3 H13=>ceF E E E (c_3)<|pk E E E<|nx<|cfs E E<|zr<|csr<|gv E E<|nx<|zi<|zh Tryz.results219 (zc E ze) ⟨_,E,H13⟩) (fun Jx hJx H17=>csr<|s_p E (zp E E)<|gx H17 fun t_8 ht_8 H18=>s_v E (zA E) (zQ 0 E ht_8)<|iteK H18 (fun c_5 H19=>s_p E (yT (qq E E) c_5)<|mv E E<|sk4 E E E E<|sk2 E E<|zK E<|pk E E E<|mv E E<|sk4 E E E E<|sk2 E E<|zK E<|pk E E E<|mv E E<|sk4 E E E E<|sk2 E E<|zK E<|pk E E E<|mv E E<|sk4 E E E E<|zK E<|by exact sk2 E E<|zK E<|pk E E E<|nx<|c_t E E<|csr<|gv E E<|nx<|zi<|zb<|zh Tryz.results219 (zc E ze) ⟨_,E,H19⟩) fun c_5 H19=>s_p E (yF (qq E E) c_5)<|mv E E<|mv E E<|s_p E (zp E E)<|gx H19 fun t_9 ht_9 H20=>s_v E (zA E) (zQ 1 E ht_9)<|s_p E (zp E E)<|gx H20 fun t_10 ht_10 H21=>s_v E (zA E) (zQ 0 E ht_10)<|zkl E E E H21 fun rv Sx_2 H22=>by obtain⟨t_11,rfl,H23⟩:=H22;exact by have H24:=wO H23;rcases H24 with ⟨rfl,H25⟩ | ⟨rfl,H25⟩;exact (s_p E (yB (qe E) E)<|pk E E E<|mv E E<|mv E E<|s_p E (zp E E)<|gx H25 fun t_12 ht_12 H26=>s_v E (zA E) (zQ 1 E ht_12)<|s_p E (zp E E)<|gx H26 fun t_13 ht_13 H27=>s_v E (zA E) (zQ 0 E ht_13)<|zkl E E E H27 fun rv Sx_3 H28=>by obtain⟨t_14,rfl,H29⟩:=H28;exact by have H30:=wO H29;rcases H30 with ⟨rfl,H31⟩ | ⟨rfl,H31⟩;exact (s_p E (yB (qe E) E)<|pk E E E<|mv E E<|mv E E<|s_p E (zp E E)<|gx H31 fun t_15 ht_15 H32=>s_v E (zA E) (zQ 1 E ht_15)<|s_p E (zp E E)<|gx H32 fun t_16 ht_16 H33=>s_v E (zA E) (zQ 0 E ht_16)<|zkl E E E H33 fun rv Sx_4 H34=>by obtain⟨t_17,rfl,H35⟩:=H34;exact by have H36:=wO H35;rcases H36 with ⟨rfl,H37⟩ | ⟨rfl,H37⟩;exact (s_p E (yB (qe E) E)<|pk E E E<|mv E E<|s_p E (zp E E)<|gx H37 fun t_18 ht_18 H38=>by have H39:=wO H38;rcases H39 with ⟨rfl,H40⟩ | ⟨rfl,H40⟩;exact (s_v E (zA E) (zQ 1 E ht_18)<|s_p E (yB (qe E) E)<|mv E E<|sk2 E E<|zK E<|pk E E E<|pk E E E<|nx<|cfs E E<|hJx () _ _ _ _ [0] H40 E ⟨E,True.intro⟩ E);exact (s_v E (zA E) (zQ 1 E ht_18)<|s_p E (yB (qe E) E)<|mv E E<|s_p E (zp E E)<|gx H40 fun t_19 ht_19 H41=>s_v E (zA E) (zQ 0 E ht_19)<|iteK H41 (fun c_6 H42=>s_p E (yT (qm E E) c_6)<|pk E E E<|pk E E E<|nx<|c_t E E<|csr<|gv E E<|nx<|zi<|zb<|zh Tryz.results219 (zc E ze) ⟨_,E,H42⟩) fun c_6 H42=>s_p E (yF (qm E E) c_6)<|pk E E E<|pk E E E<|nx<|cfs E E<|hJx () _ _ _ _ [0] H42 E ⟨E,True.intro⟩ E));exact (s_p E (yB (qe E) E)<|pk E E E<|mv E E<|sk8 E E E E E E E E<|pk E E E<|nx<|c_t E E<|csr<|gv E E<|nx<|zi<|zb<|zh Tryz.results219 (zc E ze) ⟨_,E,H37⟩));exact (s_p E (yB (qe E) E)<|pk E E E<|mv E E<|sk4 E E E E<|sk2 E E<|zK E<|pk E E E<|mv E E<|sk8 E E E E E E E E<|pk E E E<|nx<|c_t E E<|csr<|gv E E<|nx<|zi<|zb<|zh Tryz.results219 (zc E ze) ⟨_,E,H31⟩));exact (s_p E (yB (qe E) E)<|pk E E E<|mv E E<|sk4 E E E E<|sk2 E E<|zK E<|pk E E E<|mv E E<|sk4 E E E E<|sk2 E E<|zK E<|pk E E E<|mv E E<|sk8 E E E E E E E E<|pk E E E<|nx<|c_t E E<|csr<|gv E E<|nx<|zi<|zb<|zh Tryz.results219 (zc E ze) ⟨_,E,H25⟩))
def vX (S:Mem) (isx:Bool) (r:Int) (Q:Bool→Mem→Prop):Prop:=
 if r=0 then
 Q true S
 else
 if isx=true then
 Q (decide (r<16)) S
 else
 Q false S
theorem zby {S:Mem} {isx:Bool} {r:Int} {Q:Bool→Mem→Prop} (H:vX S isx r Q):jh S isx r Q:=by
 unfold vX at H
 exact Tr.intro Tryz.func240 E Tryz.ntmps240 E fun w0=>csr<|gv E E<|nxr<|mv E E<|iteK H (fun c H1=>ceT E E E (c)<|mv E E<|sk4 E E E E<|zK E<|pk E E E<|gv E E<|nx<|zi<|zh Tryz.results240 (zc E ze) ⟨_,E,H1⟩) fun c H1=>ceF E E E (c)<|mv E E<|iteK H1 (fun c_1 H2=>s_p E (qZ E c_1)<|mv E E<|mv E E<|s_p E (zH E E)<|pk E E E<|pk E E E<|gv E E<|nx<|zi<|zh Tryz.results240 (zc E ze) ⟨_,E,H2⟩) fun c_1 H2=>s_p E (qZ E (wQ c_1))<|mv E E<|sk2 E E<|pk E E E<|pk E E E<|gv E E<|nx<|zi<|zh Tryz.results240 (zc E ze) ⟨_,E,H2⟩
def gp (S:Mem) (w:Int) (atx:Int) (n:Int) (Q:Int→Mem→Prop):Prop:=
 jn (fun (Sx:Mem)=>
 0≤atx ∧
 if n<64 then
 0≤n ∧
 Q (iand .u64 (ishr .u64 w atx) (IntKind.u64.wrap ((ishl .u64 1 n)-1))) Sx
 else
 Q (ishr .u64 w atx) Sx) fun Jx=>
 if atx<0 then
 Q 0 S
 else
 if 63<atx then
 Q 0 S
 else
 if n≤0 then
 Q 0 S
 else
 Jx S
theorem zdz {S:Mem} {w:Int} {atx:Int} {n:Int} {Q:Int→Mem→Prop} (H:gp S w atx n Q):wS S w atx n Q:=by
 unfold gp at H
 exact Tr.intro Tryz.func165 E Tryz.ntmps165 E fun w0=>csr<|gv E E<|nx<|zm H (fun (J:Mem→Prop) (z:Unit) S=>J S) (fun z=>⟨28,[(0,.int .u64 w),(1,.int .i64 atx),(2,.int .i64 n)]⟩) (fun z=>[]) (fun _ Sx H1=>csr<|mv E E<|mv E E<|an H1 fun c H2=>s_p E (jy E E c)<|gv E E<|nx<|zG<|csr<|mv E E<|iteK H2 (fun c_1 H3=>s_p E (yT (zH E E) c_1)<|nx<|ctr E E<|mv E E<|mv E E<|an H3 fun c_2 H4=>s_p E (zaz E E c_2)<|s_p E (jw E E)<|s_p E (vH E E)<|gv E E<|nxr<|mv E E<|gv E E<|nx<|zi<|zh Tryz.results165 (zc E ze) ⟨_,E,H4⟩) fun c_1 H3=>s_p E (yF (zH E E) c_1)<|nx<|cfs E E<|zr<|csr<|mv E E<|gv E E<|nx<|zi<|zh Tryz.results165 (zc E ze) ⟨_,E,H3⟩) (fun Jx hJx H5=>csr<|mv E E<|iteK H5 (fun c_3 H6=>s_p E (yT (zH E E) c_3)<|mv E E<|sk2 E E<|pk E E E<|mv E E<|sk2 E E<|pk E E E<|nx<|c_t E E<|csr<|gv E E<|nx<|zi<|zb<|zh Tryz.results165 (zc E ze) ⟨_,E,H6⟩) fun c_3 H6=>s_p E (yF (zH E E) c_3)<|mv E E<|mv E E<|iteK H6 (fun c_4 H7=>s_p E (yT (qu E E) c_4)<|pk E E E<|mv E E<|sk2 E E<|pk E E E<|nx<|c_t E E<|csr<|gv E E<|nx<|zi<|zb<|zh Tryz.results165 (zc E ze) ⟨_,E,H7⟩) fun c_4 H7=>s_p E (yF (qu E E) c_4)<|pk E E E<|mv E E<|mv E E<|iteK H7 (fun c_5 H8=>s_p E (yT (zii E E) c_5)<|pk E E E<|nx<|c_t E E<|csr<|gv E E<|nx<|zi<|zb<|zh Tryz.results165 (zc E ze) ⟨_,E,H8⟩) fun c_5 H8=>s_p E (yF (zii E E) c_5)<|pk E E E<|nx<|cfs E E<|hJx () _ _ _ _ [] H8 E ⟨E,E,E,True.intro⟩ E)
def ji (S:Mem) (w:Int) (atx:Int) (n:Int) (v:Int) (Q:Int→Mem→Prop):Prop:=
 jn (fun (Sx:Mem)=>
 jn (fun (mask:Int) (Sx_1:Mem)=>
 0≤atx ∧
 0≤atx ∧
 Q (ior .u64 (iandn .u64 w (ishl .u64 mask atx)) (ishl .u64 (iand .u64 v mask) atx)) Sx_1) fun Jx=>
 if n<64 then
 0≤n ∧
 Jx (IntKind.u64.wrap ((ishl .u64 1 n)-1)) Sx
 else
 Jx 18446744073709551615 Sx) fun Jx_1=>
 if atx<0 then
 Q w S
 else
 if 63<atx then
 Q w S
 else
 if n≤0 then
 Q w S
 else
 Jx_1 S
theorem zbt {S:Mem} {w:Int} {atx:Int} {n:Int} {v:Int} {Q:Int→Mem→Prop} (H:ji S w atx n v Q):ww S w atx n v Q:=by
 unfold ji at H
 exact Tr.intro Tryz.func167 E Tryz.ntmps167 E fun w0=>csr<|gv E E<|nx<|zm H (fun (J:Mem→Prop) (z:Unit) S=>J S) (fun z=>⟨37,[(0,.int .u64 w),(1,.int .i64 atx),(2,.int .i64 n),(3,.int .u64 v)]⟩) (fun z=>[]) (fun _ Sx H1=>csr<|gv E E<|nx<|zm H1 (fun (J:Int→Mem→Prop) (z:Int) S=>J z S) (fun z=>⟨37,[(0,.int .u64 w),(1,.int .i64 atx),(3,.int .u64 v),(9,.int .u64 z)]⟩) (fun z=>[]) (fun mask Sx_1 H2=>zG<|zI (by kernel_rfl)<|aTP 0 E (by decide +kernel) E (zk E)<|by exact aTP 1 E (by decide +kernel) E (zk E)<|by exact aTP 2 E (by decide +kernel) E (zk E)<|by exact an H2 fun c H3=>aTP 3 E (by decide +kernel) E (zaz E E c)<|by exact aTP 4 E (by decide +kernel) E (ziW E E)<|by exact aTP 5 E (by decide +kernel) E (zk E)<|by exact aTP 6 E (by decide +kernel) E (zk E)<|by exact aTP 7 E (by decide +kernel) E (vH E E)<|by exact aTP 8 E (by decide +kernel) E (zk E)<|by exact an H3 fun c_1 H4=>aTP 9 E (by decide +kernel) E (zaz E E c_1)<|by exact aTP 10 E (by decide +kernel) E (zie E E)<|by exact aTP 11 E (by decide +kernel) E (zM E)<|by exact zJ (by decide +kernel)<|by exact zr<|zi<|zh Tryz.results167 (zc E ze) ⟨_,E,H4⟩) (fun Jx hJx H5=>csr<|mv E E<|iteK H5 (fun c_2 H6=>s_p E (yT (zH E E) c_2)<|nx<|ctr E E<|mv E E<|an H6 fun c_3 H7=>s_p E (zaz E E c_3)<|s_p E (jw E E)<|gv E E<|zn<|hJx (IntKind.u64.wrap ((ishl .u64 1 n)-1)) _ _ _ _ [] H7 E ⟨E,E,E,E,True.intro⟩ E) fun c_2 H6=>s_p E (yF (zH E E) c_2)<|nx<|cfs E E<|hJx 18446744073709551615 _ _ _ _ [] H6 E ⟨E,E,E,E,True.intro⟩ E)) (fun Jx_1 hJx_1 H8=>csr<|mv E E<|iteK H8 (fun c_4 H9=>s_p E (yT (zH E E) c_4)<|mv E E<|sk2 E E<|pk E E E<|mv E E<|sk2 E E<|pk E E E<|nx<|c_t E E<|csr<|mv E E<|gv E E<|nx<|zi<|zb<|zh Tryz.results167 (zc E ze) ⟨_,E,H9⟩) fun c_4 H9=>s_p E (yF (zH E E) c_4)<|mv E E<|mv E E<|iteK H9 (fun c_5 H10=>s_p E (yT (qu E E) c_5)<|pk E E E<|mv E E<|sk2 E E<|pk E E E<|nx<|c_t E E<|csr<|mv E E<|gv E E<|nx<|zi<|zb<|zh Tryz.results167 (zc E ze) ⟨_,E,H10⟩) fun c_5 H10=>s_p E (yF (qu E E) c_5)<|pk E E E<|mv E E<|mv E E<|iteK H10 (fun c_6 H11=>s_p E (yT (zii E E) c_6)<|pk E E E<|nx<|c_t E E<|csr<|mv E E<|gv E E<|nx<|zi<|zb<|zh Tryz.results167 (zc E ze) ⟨_,E,H11⟩) fun c_6 H11=>s_p E (yF (zii E E) c_6)<|pk E E E<|nx<|cfs E E<|hJx_1 () _ _ _ _ [] H11 E ⟨E,E,E,E,True.intro⟩ E)
def yq (S:Mem) (code:Int) (Q:Int→Mem→Prop):Prop:=
 al S 3 ([.int .i64 0,.int .i64 9,.int .i64 9,.int .i64 7,.int .i64 7,.int .i64 7,.int .i64 7,.int .i64 7,.int .i64 7,.int .i64 7,.int .i64 7,.int .i64 11,.int .i64 11,.int .i64 11,.int .i64 11,.int .i64 11,.int .i64 11,.int .i64 11,.int .i64 9,.int .i64 9,.int .i64 8,.int .i64 0,.int .i64 0]) fun b Sx=>
 0≤code∧code<23 ∧
 gI (Sx.cell b (0+code.toNat*1)) .i64 fun t=>
 Q t Sx
theorem kB {S:Mem} {code:Int} {Q:Int→Mem→Prop} (H:yq S code Q):qH S code Q:=by
 unfold yq at H
 exact Tr.intro Tryz.func73 E Tryz.ntmps73 E fun w0=>csr<|gv E E<|nxr<|zgA E E (by decide) E fun b=>zaj 0 E fun hb=>have H1:=H b hb;mv E E<|an2 H1 fun c c_1 H2=>s_p E (yf E E c c_1 E)<|gx H2 fun t ht H3=>s_v E (zA E) (qc ht)<|gv E E<|nx<|zi<|zh Tryz.results73 (zc E ze) ⟨_,E,H3⟩
def xa (S:Mem) (code:Int) (a:Int) (b:Int) (c:Int) (n:Int) (Q:Int→Mem→Prop):Prop:=
 qH S code fun t Sx=>
 if Int.tmod (IntKind.i64.wrap (Int.tdiv t 4)) 2=1 then
 Q (IntKind.u32.wrap ((IntKind.u32.wrap ((IntKind.u32.wrap ((IntKind.u32.wrap ((IntKind.u32.wrap code)*67108864))+(IntKind.u32.wrap ((IntKind.u32.wrap a)*4194304))))+(IntKind.u32.wrap ((IntKind.u32.wrap b)*262144))))+(IntKind.u32.wrap c))) Sx
 else
 Q (IntKind.u32.wrap ((IntKind.u32.wrap ((IntKind.u32.wrap ((IntKind.u32.wrap ((IntKind.u32.wrap code)*67108864))+(IntKind.u32.wrap ((IntKind.u32.wrap a)*4194304))))+(IntKind.u32.wrap ((IntKind.u32.wrap b)*262144))))+(IntKind.u32.wrap (IntKind.u16.wrap n)))) Sx
theorem jK {S:Mem} {code:Int} {a:Int} {b:Int} {c:Int} {n:Int} {Q:Int→Mem→Prop} (H:xa S code a b c n Q):xM S code a b c n Q:=by
 unfold xa at H
 exact Tr.intro Tryz.func29 E Tryz.ntmps29 E fun w0=>csr<|gv E E<|nxr<|mv E E<|s_p E (zN ⟨_,Tryz.underlying5⟩ E)<|s_p E (xg E E)<|mv E E<|s_p E (zN ⟨_,Tryz.underlying5⟩ E)<|s_p E (xg E E)<|s_p E (qd E E)<|mv E E<|s_p E (zN ⟨_,Tryz.underlying5⟩ E)<|s_p E (xg E E)<|s_p E (qd E E)<|gv E E<|nx<|zG<|csr<|mv E E<|qM E E H fun t Sx H1=>s_p E (xf E E (by decide))<|s_p E (xe E E (by decide))<|iteK H1 (fun c_1 H2=>ceT E E E (c_1)<|nx<|c_t E E<|csr<|mv E E<|mv E E<|s_p E (zN ⟨_,Tryz.underlying5⟩ E)<|s_p E (qd E E)<|gv E E<|nx<|zi<|zb<|zh Tryz.results29 (zc E ze) ⟨_,E,H2⟩) fun c_1 H2=>ceF E E E (c_1)<|nx<|cfs E E<|zr<|csr<|mv E E<|mv E E<|s_p E (zN ⟨_,Tryz.underlying54⟩ E)<|s_p E (zN ⟨_,Tryz.underlying166⟩ E)<|s_p E (qd E E)<|gv E E<|nx<|zi<|zh Tryz.results29 (zc E ze) ⟨_,E,H2⟩
def yH (S:Mem) (code:Int) (a:Int) (b:Int) (c:Int) (n:Int) (Q:Bool→Mem→Prop):Prop:=
 jn (fun (Sx:Mem)=>
 qH Sx code fun t Sx_1=>
 jn (fun (Sx_2:Mem)=>
 if code≠18 then
 if code≠19 then
 Q true Sx_2
 else
 if 0≤n then
 Q (decide (n<9)) Sx_2
 else
 Q false Sx_2
 else
 if 0≤n then
 Q (decide (n<9)) Sx_2
 else
 Q false Sx_2) fun Jx=>
 if 15<a then
 Q false Sx_1
 else
 if 15<b then
 Q false Sx_1
 else
 if 15<c then
 Q false Sx_1
 else
 if Int.tmod t 2=0 then
 if 0<a then
 Q false Sx_1
 else
 if Int.tmod (IntKind.i64.wrap (Int.tdiv t 2)) 2=0 then
 if 0<b then
 Q false Sx_1
 else
 if Int.tmod (IntKind.i64.wrap (Int.tdiv t 4)) 2=0 then
 if 0<c then
 Q false Sx_1
 else
 if IntKind.i64.wrap (Int.tdiv t 8)=0 then
 if n≠0 then
 Q false Sx_1
 else
 Jx Sx_1
 else
 Jx Sx_1
 else
 if IntKind.i64.wrap (Int.tdiv t 8)=0 then
 if n≠0 then
 Q false Sx_1
 else
 Jx Sx_1
 else
 Jx Sx_1
 else
 if Int.tmod (IntKind.i64.wrap (Int.tdiv t 4)) 2=0 then
 if 0<c then
 Q false Sx_1
 else
 if IntKind.i64.wrap (Int.tdiv t 8)=0 then
 if n≠0 then
 Q false Sx_1
 else
 Jx Sx_1
 else
 Jx Sx_1
 else
 if IntKind.i64.wrap (Int.tdiv t 8)=0 then
 if n≠0 then
 Q false Sx_1
 else
 Jx Sx_1
 else
 Jx Sx_1
 else
 if Int.tmod (IntKind.i64.wrap (Int.tdiv t 2)) 2=0 then
 if 0<b then
 Q false Sx_1
 else
 if Int.tmod (IntKind.i64.wrap (Int.tdiv t 4)) 2=0 then
 if 0<c then
 Q false Sx_1
 else
 if IntKind.i64.wrap (Int.tdiv t 8)=0 then
 if n≠0 then
 Q false Sx_1
 else
 Jx Sx_1
 else
 Jx Sx_1
 else
 if IntKind.i64.wrap (Int.tdiv t 8)=0 then
 if n≠0 then
 Q false Sx_1
 else
 Jx Sx_1
 else
 Jx Sx_1
 else
 if Int.tmod (IntKind.i64.wrap (Int.tdiv t 4)) 2=0 then
 if 0<c then
 Q false Sx_1
 else
 if IntKind.i64.wrap (Int.tdiv t 8)=0 then
 if n≠0 then
 Q false Sx_1
 else
 Jx Sx_1
 else
 Jx Sx_1
 else
 if IntKind.i64.wrap (Int.tdiv t 8)=0 then
 if n≠0 then
 Q false Sx_1
 else
 Jx Sx_1
 else
 Jx Sx_1) fun Jx_1=>
 if 23≤code then
 Q false S
 else
 Jx_1 S
theorem kU {S:Mem} {code:Int} {a:Int} {b:Int} {c:Int} {n:Int} {Q:Bool→Mem→Prop} (H:yH S code a b c n Q):xo S code a b c n Q:=by
 unfold yH at H
 exact Tr.intro Tryz.func129 E Tryz.ntmps129 E fun w0=>csr<|gv E E<|nx<|zm H (fun (J:Mem→Prop) (z:Unit) S=>J S) (fun z=>⟨78,[(0,.int .u8 code),(1,.int .u8 a),(2,.int .u8 b),(3,.int .u8 c),(4,.int .i16 n)]⟩) (fun z=>[]) (fun _ Sx H1=>csr<|mv E E<|qM E E H1 fun t Sx_1 H2=>gv E E<|nx<|zm H2 (fun (J:Mem→Prop) (z:Unit) S=>J S) (fun z=>⟨78,[(0,.int .u8 code),(4,.int .i16 n)]⟩) (fun z=>[]) (fun _ Sx_2 H3=>csr<|mv E E<|iteK H3 (fun c_1 H4=>s_p E (yT (qm E E) c_1)<|mv E E<|mv E E<|iteK H4 (fun c_2 H5=>s_p E (yT (qm E E) c_2)<|pk E E E<|mv E E<|sk4 E E E E<|sk2 E E<|pk E E E<|gv E E<|nx<|zi<|zh Tryz.results129 (zc E ze) ⟨_,E,H5⟩) fun c_2 H5=>s_p E (yF (qm E E) c_2)<|pk E E E<|mv E E<|mv E E<|iteK H5 (fun c_3 H6=>s_p E (yT (qq E E) c_3)<|mv E E<|mv E E<|s_p E (zH E E)<|pk E E E<|pk E E E<|gv E E<|nx<|zi<|zh Tryz.results129 (zc E ze) ⟨_,E,H6⟩) fun c_3 H6=>s_p E (yF (qq E E) c_3)<|mv E E<|sk2 E E<|pk E E E<|pk E E E<|gv E E<|nx<|zi<|zh Tryz.results129 (zc E ze) ⟨_,E,H6⟩) fun c_1 H4=>s_p E (yF (qm E E) c_1)<|mv E E<|sk2 E E<|pk E E E<|mv E E<|mv E E<|iteK H4 (fun c_4 H7=>s_p E (yT (qq E E) c_4)<|mv E E<|mv E E<|s_p E (zH E E)<|pk E E E<|pk E E E<|gv E E<|nx<|zi<|zh Tryz.results129 (zc E ze) ⟨_,E,H7⟩) fun c_4 H7=>s_p E (yF (qq E E) c_4)<|mv E E<|sk2 E E<|pk E E E<|pk E E E<|gv E E<|nx<|zi<|zh Tryz.results129 (zc E ze) ⟨_,E,H7⟩) (fun Jx hJx H8=>csr<|mv E E<|iteK H8 (fun c_5 H9=>s_p E (yT (qu E E) c_5)<|mv E E<|sk2 E E<|pk E E E<|mv E E<|sk2 E E<|pk E E E<|mv E E<|sk4 E E E E<|sk2 E E<|zK E<|pk E E E<|mv E E<|sk8 E E E E E E E E<|pk E E E<|mv E E<|zK E<|by exact sk4 E E E E<|sk2 E E<|zK E<|pk E E E<|mv E E<|sk4 E E E E<|sk2 E E<|zK E<|pk E E E<|nx<|c_t E E<|csr<|gv E E<|nx<|zi<|zb<|zh Tryz.results129 (zc E ze) ⟨_,E,H9⟩) fun c_5 H9=>s_p E (yF (qu E E) c_5)<|mv E E<|mv E E<|iteK H9 (fun c_6 H10=>s_p E (yT (qu E E) c_6)<|pk E E E<|mv E E<|sk2 E E<|pk E E E<|mv E E<|sk4 E E E E<|sk2 E E<|zK E<|pk E E E<|mv E E<|sk8 E E E E E E E E<|pk E E E<|mv E E<|by exact sk8 E E E E E E E E<|pk E E E<|mv E E<|sk4 E E E E<|sk2 E E<|zK E<|pk E E E<|nx<|c_t E E<|csr<|gv E E<|nx<|zi<|zb<|zh Tryz.results129 (zc E ze) ⟨_,E,H10⟩) fun c_6 H10=>s_p E (yF (qu E E) c_6)<|pk E E E<|mv E E<|mv E E<|iteK H10 (fun c_7 H11=>s_p E (yT (qu E E) c_7)<|pk E E E<|mv E E<|sk4 E E E E<|sk2 E E<|zK E<|pk E E E<|mv E E<|sk8 E E E E E E E E<|pk E E E<|by exact mv E E<|sk8 E E E E E E E E<|pk E E E<|mv E E<|sk4 E E E E<|sk2 E E<|zK E<|pk E E E<|nx<|c_t E E<|csr<|gv E E<|nx<|zi<|zb<|zh Tryz.results129 (zc E ze) ⟨_,E,H11⟩) fun c_7 H11=>s_p E (yF (qu E E) c_7)<|pk E E E<|mv E E<|mv E E<|s_p E (xe E E (by decide))<|iteK H11 (fun c_8 H12=>ceT E E E (c_8)<|mv E E<|mv E E<|iteK H12 (fun c_9 H13=>s_p E (yT (qu E E) c_9)<|pk E E E<|pk E E E<|mv E E<|sk4 E E E E<|sk2 E E<|zK E<|by exact zK E<|pk E E E<|mv E E<|sk8 E E E E E E E E<|pk E E E<|mv E E<|sk4 E E E E<|sk2 E E<|zK E<|pk E E E<|nx<|c_t E E<|csr<|gv E E<|nx<|zi<|zb<|zh Tryz.results129 (zc E ze) ⟨_,E,H13⟩) fun c_9 H13=>s_p E (yF (qu E E) c_9)<|pk E E E<|pk E E E<|mv E E<|mv E E<|s_p E (xf E E (by decide))<|s_p E (xe E E (by decide))<|iteK H13 (fun c_10 H14=>ceT E E E (c_10)<|mv E E<|mv E E<|by exact iteK H14 (fun c_11 H15=>s_p E (yT (qu E E) c_11)<|pk E E E<|pk E E E<|mv E E<|sk8 E E E E E E E E<|pk E E E<|mv E E<|sk4 E E E E<|sk2 E E<|zK E<|pk E E E<|nx<|c_t E E<|csr<|gv E E<|nx<|zi<|zb<|zh Tryz.results129 (zc E ze) ⟨_,E,H15⟩) fun c_11 H15=>s_p E (yF (qu E E) c_11)<|pk E E E<|pk E E E<|mv E E<|mv E E<|s_p E (xf E E (by decide))<|s_p E (xe E E (by decide))<|iteK H15 (fun c_12 H16=>ceT E E E (c_12)<|mv E E<|mv E E<|iteK H16 (fun c_13 H17=>s_p E (yT (qu E E) c_13)<|pk E E E<|pk E E E<|mv E E<|sk4 E E E E<|sk2 E E<|zK E<|pk E E E<|nx<|c_t E E<|csr<|gv E E<|nx<|zi<|zb<|zh Tryz.results129 (zc E ze) ⟨_,E,H17⟩) fun c_13 H17=>s_p E (yF (qu E E) c_13)<|pk E E E<|pk E E E<|mv E E<|mv E E<|s_p E (xf E E (by decide))<|iteK H17 (fun c_14 H18=>ceT E E E (c_14)<|mv E E<|mv E E<|iteK H18 (fun c_15 H19=>s_p E (yT (qm E E) c_15)<|pk E E E<|pk E E E<|nx<|c_t E E<|csr<|gv E E<|nx<|zi<|zb<|zh Tryz.results129 (zc E ze) ⟨_,E,H19⟩) fun c_15 H19=>s_p E (yF (qm E E) c_15)<|pk E E E<|pk E E E<|nx<|cfs E E<|hJx () _ _ _ _ [] H19 E ⟨E,E,True.intro⟩ E) fun c_14 H18=>ceF E E E (c_14)<|mv E E<|sk2 E E<|pk E E E<|pk E E E<|nx<|cfs E E<|hJx () _ _ _ _ [] H18 E ⟨E,E,True.intro⟩ E) fun c_12 H16=>ceF E E E (c_12)<|mv E E<|sk2 E E<|pk E E E<|pk E E E<|mv E E<|mv E E<|s_p E (xf E E (by decide))<|iteK H16 (fun c_16 H20=>ceT E E E (c_16)<|mv E E<|mv E E<|iteK H20 (fun c_17 H21=>s_p E (yT (qm E E) c_17)<|pk E E E<|pk E E E<|nx<|c_t E E<|csr<|gv E E<|nx<|zi<|zb<|zh Tryz.results129 (zc E ze) ⟨_,E,H21⟩) fun c_17 H21=>s_p E (yF (qm E E) c_17)<|pk E E E<|pk E E E<|nx<|cfs E E<|hJx () _ _ _ _ [] H21 E ⟨E,E,True.intro⟩ E) fun c_16 H20=>ceF E E E (c_16)<|mv E E<|sk2 E E<|pk E E E<|pk E E E<|nx<|cfs E E<|hJx () _ _ _ _ [] H20 E ⟨E,E,True.intro⟩ E) fun c_10 H14=>ceF E E E (c_10)<|mv E E<|zK E<|by exact zK E<|pk E E E<|pk E E E<|mv E E<|mv E E<|s_p E (xf E E (by decide))<|s_p E (xe E E (by decide))<|iteK H14 (fun c_18 H22=>ceT E E E (c_18)<|mv E E<|mv E E<|iteK H22 (fun c_19 H23=>s_p E (yT (qu E E) c_19)<|pk E E E<|pk E E E<|mv E E<|sk4 E E E E<|sk2 E E<|zK E<|pk E E E<|nx<|c_t E E<|csr<|gv E E<|nx<|zi<|zb<|zh Tryz.results129 (zc E ze) ⟨_,E,H23⟩) fun c_19 H23=>s_p E (yF (qu E E) c_19)<|pk E E E<|pk E E E<|mv E E<|mv E E<|s_p E (xf E E (by decide))<|iteK H23 (fun c_20 H24=>ceT E E E (c_20)<|mv E E<|mv E E<|iteK H24 (fun c_21 H25=>s_p E (yT (qm E E) c_21)<|pk E E E<|pk E E E<|nx<|c_t E E<|csr<|gv E E<|nx<|zi<|zb<|zh Tryz.results129 (zc E ze) ⟨_,E,H25⟩) fun c_21 H25=>s_p E (yF (qm E E) c_21)<|pk E E E<|pk E E E<|nx<|cfs E E<|hJx () _ _ _ _ [] H25 E ⟨E,E,True.intro⟩ E) fun c_20 H24=>ceF E E E (c_20)<|mv E E<|sk2 E E<|pk E E E<|pk E E E<|nx<|cfs E E<|hJx () _ _ _ _ [] H24 E ⟨E,E,True.intro⟩ E) fun c_18 H22=>ceF E E E (c_18)<|mv E E<|sk2 E E<|pk E E E<|pk E E E<|mv E E<|mv E E<|s_p E (xf E E (by decide))<|iteK H22 (fun c_22 H26=>ceT E E E (c_22)<|mv E E<|mv E E<|iteK H26 (fun c_23 H27=>s_p E (yT (qm E E) c_23)<|pk E E E<|pk E E E<|nx<|c_t E E<|csr<|gv E E<|nx<|zi<|zb<|zh Tryz.results129 (zc E ze) ⟨_,E,H27⟩) fun c_23 H27=>s_p E (yF (qm E E) c_23)<|pk E E E<|pk E E E<|nx<|cfs E E<|hJx () _ _ _ _ [] H27 E ⟨E,E,True.intro⟩ E) fun c_22 H26=>ceF E E E (c_22)<|mv E E<|sk2 E E<|pk E E E<|pk E E E<|nx<|cfs E E<|hJx () _ _ _ _ [] H26 E ⟨E,E,True.intro⟩ E) fun c_8 H12=>ceF E E E (c_8)<|mv E E<|sk2 E E<|pk E E E<|pk E E E<|mv E E<|mv E E<|s_p E (xf E E (by decide))<|s_p E (xe E E (by decide))<|iteK H12 (fun c_24 H28=>ceT E E E (c_24)<|mv E E<|mv E E<|iteK H28 (fun c_25 H29=>by exact s_p E (yT (qu E E) c_25)<|pk E E E<|pk E E E<|mv E E<|sk8 E E E E E E E E<|pk E E E<|mv E E<|sk4 E E E E<|sk2 E E<|zK E<|pk E E E<|nx<|c_t E E<|csr<|gv E E<|nx<|zi<|zb<|zh Tryz.results129 (zc E ze) ⟨_,E,H29⟩) fun c_25 H29=>by exact s_p E (yF (qu E E) c_25)<|pk E E E<|pk E E E<|mv E E<|mv E E<|s_p E (xf E E (by decide))<|s_p E (xe E E (by decide))<|iteK H29 (fun c_26 H30=>ceT E E E (c_26)<|mv E E<|mv E E<|iteK H30 (fun c_27 H31=>s_p E (yT (qu E E) c_27)<|pk E E E<|pk E E E<|mv E E<|sk4 E E E E<|sk2 E E<|zK E<|pk E E E<|nx<|c_t E E<|csr<|gv E E<|nx<|zi<|zb<|zh Tryz.results129 (zc E ze) ⟨_,E,H31⟩) fun c_27 H31=>s_p E (yF (qu E E) c_27)<|pk E E E<|pk E E E<|mv E E<|mv E E<|s_p E (xf E E (by decide))<|iteK H31 (fun c_28 H32=>ceT E E E (c_28)<|mv E E<|mv E E<|iteK H32 (fun c_29 H33=>s_p E (yT (qm E E) c_29)<|pk E E E<|pk E E E<|nx<|c_t E E<|csr<|gv E E<|nx<|zi<|zb<|zh Tryz.results129 (zc E ze) ⟨_,E,H33⟩) fun c_29 H33=>s_p E (yF (qm E E) c_29)<|pk E E E<|pk E E E<|nx<|cfs E E<|hJx () _ _ _ _ [] H33 E ⟨E,E,True.intro⟩ E) fun c_28 H32=>ceF E E E (c_28)<|mv E E<|sk2 E E<|pk E E E<|pk E E E<|nx<|cfs E E<|hJx () _ _ _ _ [] H32 E ⟨E,E,True.intro⟩ E) fun c_26 H30=>ceF E E E (c_26)<|mv E E<|sk2 E E<|pk E E E<|pk E E E<|mv E E<|mv E E<|s_p E (xf E E (by decide))<|iteK H30 (fun c_30 H34=>ceT E E E (c_30)<|mv E E<|mv E E<|iteK H34 (fun c_31 H35=>s_p E (yT (qm E E) c_31)<|pk E E E<|pk E E E<|nx<|c_t E E<|csr<|gv E E<|nx<|zi<|zb<|zh Tryz.results129 (zc E ze) ⟨_,E,H35⟩) fun c_31 H35=>s_p E (yF (qm E E) c_31)<|pk E E E<|pk E E E<|nx<|cfs E E<|hJx () _ _ _ _ [] H35 E ⟨E,E,True.intro⟩ E) fun c_30 H34=>ceF E E E (c_30)<|mv E E<|sk2 E E<|pk E E E<|pk E E E<|nx<|cfs E E<|hJx () _ _ _ _ [] H34 E ⟨E,E,True.intro⟩ E) fun c_24 H28=>ceF E E E (c_24)<|mv E E<|sk2 E E<|by exact pk E E E<|pk E E E<|mv E E<|mv E E<|s_p E (xf E E (by decide))<|s_p E (xe E E (by decide))<|iteK H28 (fun c_32 H36=>ceT E E E (c_32)<|mv E E<|mv E E<|iteK H36 (fun c_33 H37=>s_p E (yT (qu E E) c_33)<|pk E E E<|pk E E E<|mv E E<|sk4 E E E E<|sk2 E E<|zK E<|pk E E E<|nx<|c_t E E<|csr<|gv E E<|nx<|zi<|zb<|zh Tryz.results129 (zc E ze) ⟨_,E,H37⟩) fun c_33 H37=>s_p E (yF (qu E E) c_33)<|pk E E E<|pk E E E<|mv E E<|mv E E<|s_p E (xf E E (by decide))<|iteK H37 (fun c_34 H38=>ceT E E E (c_34)<|mv E E<|mv E E<|iteK H38 (fun c_35 H39=>s_p E (yT (qm E E) c_35)<|pk E E E<|pk E E E<|nx<|c_t E E<|csr<|gv E E<|nx<|zi<|zb<|zh Tryz.results129 (zc E ze) ⟨_,E,H39⟩) fun c_35 H39=>s_p E (yF (qm E E) c_35)<|pk E E E<|pk E E E<|nx<|cfs E E<|hJx () _ _ _ _ [] H39 E ⟨E,E,True.intro⟩ E) fun c_34 H38=>ceF E E E (c_34)<|mv E E<|sk2 E E<|pk E E E<|pk E E E<|nx<|cfs E E<|hJx () _ _ _ _ [] H38 E ⟨E,E,True.intro⟩ E) fun c_32 H36=>ceF E E E (c_32)<|mv E E<|sk2 E E<|pk E E E<|pk E E E<|mv E E<|mv E E<|s_p E (xf E E (by decide))<|iteK H36 (fun c_36 H40=>ceT E E E (c_36)<|mv E E<|mv E E<|iteK H40 (fun c_37 H41=>s_p E (yT (qm E E) c_37)<|pk E E E<|pk E E E<|nx<|c_t E E<|csr<|gv E E<|nx<|zi<|zb<|zh Tryz.results129 (zc E ze) ⟨_,E,H41⟩) fun c_37 H41=>s_p E (yF (qm E E) c_37)<|pk E E E<|pk E E E<|nx<|cfs E E<|hJx () _ _ _ _ [] H41 E ⟨E,E,True.intro⟩ E) fun c_36 H40=>ceF E E E (c_36)<|mv E E<|sk2 E E<|pk E E E<|pk E E E<|nx<|cfs E E<|hJx () _ _ _ _ [] H40 E ⟨E,E,True.intro⟩ E)) (fun Jx_1 hJx_1 H42=>csr<|mv E E<|iteK H42 (fun c_38 H43=>s_p E (yT (qq E E) c_38)<|nx<|c_t E E<|csr<|gv E E<|nx<|zi<|zb<|zh Tryz.results129 (zc E ze) ⟨_,E,H43⟩) fun c_38 H43=>s_p E (yF (qq E E) c_38)<|nx<|cfs E E<|hJx_1 () _ _ _ _ [] H43 E ⟨E,E,E,E,E,True.intro⟩ E)
end Go.Proofs.YtabdpmnhjlmnlaaGreatDoor
end
