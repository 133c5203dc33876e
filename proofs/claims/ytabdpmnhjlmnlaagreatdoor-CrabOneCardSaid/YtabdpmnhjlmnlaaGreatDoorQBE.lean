/- Texts of this work,joined by program (pack.py). -/
import Derived.Test.YtabdpmnhjlmnlaaGreatDoorQBC
import Derived.Test.YtabdpmnhjlmnlaaGreatDoorQBD
import Derived.Test.YtabdpmnhjlmnlaaGreatDoorQBB
set_option linter.unusedVariables false
namespace Go.Proofs.YtabdpmnhjlmnlaaGreatDoor
section
open Go Go.Pt Go.Proofs.Tryz
attribute [local irreducible] lt WD WN Code.wp Back bodyPost wpList FR WL WC WQ WA AW Tr Yc HC AllC
set_option maxRecDepth 20000
set_option maxHeartbeats 4000000
def vi (S:Mem) (h:Pt) (vm:Int) (Q:Sl→Mem→Prop):Prop:=
 jn (fun (Sx:Mem)=>
 nn h fun b o=>
 0≤vm∧vm<6 ∧
 gL (Sx.cell b (o+5+vm.toNat*1)) fun t=>
 sp Sx t 4 fun vs=>
 ap Sx 45 4 32 [.int .u8 0,.int .i64 0,.int .u64 0,.int .u64 0] (⟨none,0,0⟩) t.n vs fun t_1 Sx_1=>
 Q t_1 Sx_1) fun Jx=>
 if h=none then
 Q (⟨none,0,0⟩) S
 else
 if vm<0 then
 Q (⟨none,0,0⟩) S
 else
 if 6≤vm then
 Q (⟨none,0,0⟩) S
 else
 Jx S
theorem zcn {S:Mem} {h:Pt} {vm:Int} {Q:Sl→Mem→Prop} (H:vi S h vm Q):yZ S h vm Q:=by
 unfold vi at H
 exact Tr.intro func32 E ntmps32 E fun w0=>csr<|gv E E<|nx<|zp H (fun (J:Mem→Prop) (z:Unit) S=>J S) (fun z=>⟨22,[(0,eP h),(1,.int .i64 vm)]⟩) (fun z=>[]) (fun _ Sx H1=>csr<|mv E E<|mv E E<|by obtain⟨b,o,rfl,H2⟩:=H1;exact s_p E (qt E)<|s_p E (zv E E)<|an2 H2 fun c c_1 H3=>s_p E (qb E E c c_1 E)<|gx H3 fun t ht H4=>s_v E (zF E) (qh ht)<|by obtain⟨vs,h_1,c_2,H5⟩:=H4;exact zau (sx:=⟨none,0,0⟩) (vs:=vs) E E E ((fj h_1).1) ((fj (P:=prog) (w0:=w0) (S0:=S) (V:=[]) h_1).2) c_2 (by decide) H5 fun t_1 Sx_1 H6=>gv E E<|nx<|zo<|zn results32 (zd E zg) ⟨_,E,H6⟩) (fun Jx hJx H7=>csr<|mv E E<|iteK H7 (fun c_3 H8=>s_p E (yT (wb (p:=h) E E) c_3)<|mv E E<|sk2 E E<|pk E E E<|mv E E<|sk2 E E<|pk E E E<|nx<|c_t E E<|csr<|gv E E<|nx<|zo<|zb<|zn results32 (zd E zg) ⟨_,E,H8⟩) fun c_3 H8=>s_p E (yF (wb (p:=h) E E) c_3)<|mv E E<|mv E E<|iteK H8 (fun c_4 H9=>s_p E (yT (zQ E E) c_4)<|pk E E E<|mv E E<|sk2 E E<|pk E E E<|nx<|c_t E E<|csr<|gv E E<|nx<|zo<|zb<|zn results32 (zd E zg) ⟨_,E,H9⟩) fun c_4 H9=>s_p E (yF (zQ E E) c_4)<|pk E E E<|mv E E<|mv E E<|iteK H9 (fun c_5 H10=>s_p E (yT (wP E E) c_5)<|pk E E E<|nx<|c_t E E<|csr<|gv E E<|nx<|zo<|zb<|zn results32 (zd E zg) ⟨_,E,H10⟩) fun c_5 H10=>s_p E (yF (wP E E) c_5)<|pk E E E<|nx<|cfs E E<|hJx () _ _ _ _ [] H10 E ⟨E,E,True.intro⟩ E)
def wa (S:Mem) (h:Pt) (vm:Int) (Q:Int→Mem→Prop):Prop:=
 jn (fun (Sx:Mem)=>
 nn h fun b o=>
 gP (Sx.cell b (o+3)) fun t=>
 nn t fun b_1 o_1=>
 gP (Sx.cell b_1 (o_1+74)) fun t_1=>
 ki Sx t_1 3 vm fun t_2 Sx_1=>
 Q t_2 Sx_1) fun Jx=>
 if h=none then
 Q 0 S
 else
 nn h fun b_2 o_2=>
 gP (S.cell b_2 (o_2+3)) fun t_3=>
 qq S t_3 vm fun t_4 Sx_2=>
 if t_4=true then
 Jx Sx_2
 else
 Q 0 Sx_2
theorem gq {S:Mem} {h:Pt} {vm:Int} {Q:Int→Mem→Prop} (H:wa S h vm Q):xK S h vm Q:=by
 unfold wa at H
 have:=dj1 4 [0,1]
 exact Tr.intro func40 E ntmps40 E fun w0=>go results40 H
def kI (S:Mem) (h:Pt) (vm:Int) (page:Int) (Q:Int→Int→Mem→Prop):Prop:=
 nn h fun b o=>
 gP (S.cell b (o+3)) fun t=>
 nn t fun b_1 o_1=>
 0≤vm∧vm<6 ∧
 gA (S.part b_1 (o_1+2+vm.toNat*12+2) 2) fun t_1=>
 gP (S.cell b o) fun t_2=>
 qv S t_1 t_2 page fun t_3 t_4 Sx=>
 Sx.cell b (o+3)=some (.pointer (some ⟨b_1,o_1,none⟩)) ∧
 t_3.all (·.oneCell')=true ∧
 if t_4≠0 then
 Q 0 11 Sx
 else
 gP (Sx.cell b (o+3)) fun t_5=>
 nn t_5 fun b_3 o_2=>
 gA (Sx.part b_3 (o_2+75) 96) fun t_6=>
 fc Sx t_6 vm page fun t_7 Sx_1=>
 if 0≤t_7 then
 Q 0 7 Sx_1
 else
 gI (nthL t_3 1) .i64 fun t_8=>
 Q t_8 0 Sx_1
theorem zed {S:Mem} {h:Pt} {vm:Int} {page:Int} {Q:Int→Int→Mem→Prop} (H:kI S h vm page Q):vW S h vm page Q:=by
 unfold kI at H
 exact Tr.intro func231 E ntmps231 E fun w0=>go results231 H
def b_crab_Crab_own (S:Mem) (h:Pt) (vm:Int) (page:Int) (frame:Int) (Q:Mem→Prop):Prop:=
 nn h fun b o=>
 gP (S.cell b o) fun t=>
 yq S t frame fun t_1 Sx=>
 gP (Sx.cell b (o+3)) fun t_2=>
 nn t_2 fun b_1 o_1=>
 gP (Sx.cell b_1 (o_1+74)) fun t_3=>
 vA Sx t_3 frame vm page fun t_4 Sx_1=>
 wX Sx_1 (some (b,o)) vm page frame true fun Sx_2=>
 Q Sx_2
theorem t_crab_Crab_own {S:Mem} {h:Pt} {vm:Int} {page:Int} {frame:Int} {Q:Mem→Prop} (H:b_crab_Crab_own S h vm page frame Q):crab_Crab_own S h vm page frame Q:=by
 unfold b_crab_Crab_own at H
 exact Tr.intro func75 E ntmps75 E fun w0=>go results75 H
def jA (S:Mem) (h:Pt) (vm:Int) (page:Int) (frame:Int) (write:Bool) (Q:Mem→Prop):Prop:=
 nn h fun b o=>
 gP (S.cell b (o+3)) fun t=>
 nn t fun b_1 o_1=>
 0≤vm∧vm<6 ∧
 gA (S.part b_1 (o_1+2+vm.toNat*12+2) 2) fun t_1=>
 gP (S.cell b o) fun t_2=>
 jc S t_1 t_2 page frame write fun t_3 Sx=>
 Sx.cell b (o+3)=some (.pointer (some ⟨b_1,o_1,none⟩)) ∧
 xb Sx (some (b,o+2)) vm page fun Sx_1=>
 Q Sx_1
theorem zeI {S:Mem} {h:Pt} {vm:Int} {page:Int} {frame:Int} {write:Bool} {Q:Mem→Prop} (H:jA S h vm page frame write Q):wX S h vm page frame write Q:=by
 unfold jA at H
 exact Tr.intro func142 E ntmps142 E fun w0=>go results142 H
def kF (S:Mem) (h:Pt) (vm:Int) (x:List Value) (Q:Mem→Prop):Prop:=
 x.length=4 ∧
 nn h fun b_1 o=>
 0≤vm∧vm<6 ∧
 gL (S.cell b_1 (o+5+vm.toNat*1)) fun t=>
 x.all (·.oneCell')=true ∧
 ap S 45 4 32 [.int .u8 0,.int .i64 0,.int .u64 0,.int .u64 0] t 1 x fun t_1 Sx=>
 0≤vm∧vm<6 ∧
 pt Sx b_1 (o+5+vm.toNat*1) 1 ([eL t_1]) fun Sx_1=>
 Q Sx_1
theorem zea {S:Mem} {h:Pt} {vm:Int} {x:List Value} {Q:Mem→Prop} (H:kF S h vm x Q):xd S h vm x Q:=by
 unfold kF at H
 exact Tr.intro func79 E ntmps79 E fun w0=>go results79 H
def vM (S:Mem) (h:Pt) (vm:Int) (page:Int) (Q:Mem→Prop):Prop:=
 nn h fun b o=>
 gP (S.cell b (o+3)) fun t=>
 nn t fun b_1 o_1=>
 0≤vm∧vm<6 ∧
 gA (S.part b_1 (o_1+2+vm.toNat*12+2) 2) fun t_1=>
 gP (S.cell b o) fun t_2=>
 vy S t_1 t_2 page fun t_3 Sx=>
 Sx.cell b (o+3)=some (.pointer (some ⟨b_1,o_1,none⟩)) ∧
 xb Sx (some (b,o+2)) vm page fun Sx_1=>
 Q Sx_1
theorem zcV {S:Mem} {h:Pt} {vm:Int} {page:Int} {Q:Mem→Prop} (H:vM S h vm page Q):xJ S h vm page Q:=by
 unfold vM at H
 exact Tr.intro func146 E ntmps146 E fun w0=>go results146 H
def zaL (S:Mem) (w:Int) (Q:Int→Mem→Prop):Prop:=
 if 65536≤w then
 Q (-1) S
 else
 Q (IntKind.i64.wrap w) S
theorem zhr {S:Mem} {w:Int} {Q:Int→Mem→Prop} (H:zaL S w Q):zba S w Q:=by
 unfold zaL at H
 exact Tr.intro func43 E ntmps43 E fun w0=>go results43 H
def zbY (S:Mem) (x:List Value) (n:Int) (pc:Int) (s:List Value) (Q:List Value→Mem→Prop):Prop:=
 x.length=2 ∧
 s.length=26 ∧
 jn (fun (v:List Value) (Sx:Mem)=>
 v.length=4 ∧
 zgG Sx s fun t Sx_1=>
 Q ([.int .u8 1,.int .i64 n,.int .u64 pc,.int .u64 t]) Sx_1) fun Jx=>
 gI (nthL x 0) .u8 fun t_1=>
 if t_1=1 then
 gI (nthL x 1) .u64 fun t_2=>
 Q ([.int .u8 4,.int .i64 n,.int .u64 t_2,.int .u64 pc]) S
 else
 if t_1=4 then
 gI (nthL x 1) .u64 fun t_3=>
 Q ([.int .u8 5,.int .i64 n,.int .u64 t_3,.int .u64 pc]) S
 else
 Jx ([.int .u8 0,.int .i64 0,.int .u64 0,.int .u64 0]) S
theorem zit {S:Mem} {x:List Value} {n:Int} {pc:Int} {s:List Value} {Q:List Value→Mem→Prop} (H:zbY S x n pc s Q):zfx S x n pc s Q:=by
 unfold zbY at H
 have:=dj (α:=List Value×Unit) 7 [1,2,7,8] (fun _=>[]) (fun z=>[(1,none),(2,some z.1)])
 exact Tr.intro func25 E ntmps25 E fun w0=>go results25 H
def jz (S:Mem) (b:List Value) (page:Int) (off:Int) (n:Int) (Q:Sl→Int→Mem→Prop):Prop:=
 b.length=2 ∧
 kT S b page fun t t_1 Sx=>
 t.all (·.oneCell')=true ∧
 jn (fun (Sx_1:Mem)=>
 gP (nthL b 0) fun t_2=>
 nn t_2 fun b_3 o=>
 gP (Sx_1.cell b_3 o) fun t_3=>
 gI (nthL t 1) .i64 fun t_4=>
 qV Sx_1 t_3 t_4 off n fun t_5 t_6 Sx_2=>
 Q t_5 t_6 Sx_2) fun Jx=>
 if t_1≠0 then
 Q (⟨none,0,0⟩) t_1 Sx
 else
 Jx Sx
theorem zeH {S:Mem} {b:List Value} {page:Int} {off:Int} {n:Int} {Q:Sl→Int→Mem→Prop} (H:jz S b page off n Q):fm S b page off n Q:=by
 unfold jz at H
 exact Tr.intro func234 E ntmps234 E fun w0=>an H fun hb H1=>csr<|gu E E E fun b_1=>gv E E<|gv E E<|nxr<|by refine s_v E (qa E hb) (zx (k:=2) 0 E (ze hb)) ?_;exact mv E E<|qP E E H1 fun rv Sx H2=>by obtain⟨t,t_1,rfl,ht,H3⟩:=H2;exact mv E E<|s_p E (zj E E)<|s_p E (zj E E)<|by refine qk E fun b_2=>?_;exact an H3 fun c H4=>zl 1 E E E E E ht E c<|gv E E<|nx<|zp H4 (fun (J:Mem→Prop) (z:Unit) S=>J S) (fun z=>⟨33,[(2,.int .i64 off),(3,.int .i64 n),(4,.pointer (some ⟨b_1,0,none⟩)),(10,.pointer (some ⟨b_2,0,none⟩))]⟩) (fun z=>[⟨b_1,173,b⟩,⟨b_2,111,t⟩]) (fun _ Sx_1 H5=>zO<|qc (by kernel_rfl)<|aTP 0 E (by decide +kernel) E (zv E E)<|by exact gx H5 fun t_2 ht_2 H6=>aT 1 E (by decide +kernel) E (zF E) (qm 0 E ht_2)<|by exact by obtain⟨b_3,o,rfl,H7⟩:=H6;exact aTP 2 E (by decide +kernel) E (qt E)<|by exact aTP 3 E (by decide +kernel) E (zv E E)<|by exact gx H7 fun t_3 ht_3 H8=>aT 4 E (by decide +kernel) E (zF E) (qh ht_3)<|by exact aTP 5 E (by decide +kernel) E (zv E E)<|by exact gx H8 fun t_4 ht_4 H9=>aT 6 E (by decide +kernel) E (zF E) (qm 1 E ht_4)<|by exact aTP 7 E (by decide +kernel) E (zt E)<|by exact aTP 8 E (by decide +kernel) E (zt E)<|by exact zH 9 (by decide +kernel) E<|by exact zhi E E H9 fun t_5 t_6 Sx_2 H10=>zu<|qf (zA (qm 0 E ht_2) zD)<|aTP 10 E (by decide +kernel) E (zj E E)<|by exact aTP 11 E (by decide +kernel) E (zj E E)<|by exact aTP 12 E (by decide +kernel) E (qH E)<|by exact aTP 13 E (by decide +kernel) E (qH E)<|by exact qi (by decide +kernel)<|by exact zC<|zo<|zn results234 (zd E (zd E zg)) ⟨_,_,E,H10⟩) (fun Jx hJx H11=>csr<|mv E E<|iteK H11 (fun c_1 H12=>s_p E (yT (qw E E) c_1)<|nx<|c_t E E<|csr<|mv E E<|gv E E<|gv E E<|nx<|zo<|zb<|zn results234 (zd E (zd E zg)) ⟨_,_,E,H12⟩) fun c_1 H12=>s_p E (yF (qw E E) c_1)<|nx<|cfs E E<|hJx () _ _ _ _ [0,0] H12 E ⟨E,E,E,E,True.intro⟩ E)
def jy (S:Mem) (b:List Value) (page:Int) (off:Int) (p:Sl) (Q:Int→Mem→Prop):Prop:=
 b.length=2 ∧
 kT S b page fun t t_1 Sx=>
 t.all (·.oneCell')=true ∧
 jn (fun (Sx_1:Mem)=>
 gP (nthL b 0) fun t_2=>
 nn t_2 fun b_3 o=>
 gP (Sx_1.cell b_3 o) fun t_3=>
 gI (nthL t 1) .i64 fun t_4=>
 qg Sx_1 t_3 t_4 off p fun t_5 Sx_2=>
 Q t_5 Sx_2) fun Jx=>
 if t_1≠0 then
 Q t_1 Sx
 else
 gB (nthL t 2) fun t_6=>
 if t_6=true then
 Jx Sx
 else
 Q 11 Sx
theorem zeG {S:Mem} {b:List Value} {page:Int} {off:Int} {p:Sl} {Q:Int→Mem→Prop} (H:jy S b page off p Q):fk S b page off p Q:=by
 unfold jy at H
 have:=dj (α:=Unit) 7 [2,3,4,9] (fun _=>[]) (fun _=>[(0,none),(1,none)])
 exact Tr.intro func233 E ntmps233 E fun w0=>go results233 H
def jw (S:Mem) (b:List Value) (page:Int) (Q:List Value→Int→Mem→Prop):Prop:=
 b.length=2 ∧
 jn (fun (v:List Value) (Sx:Mem)=>
 v.length=3 ∧
 gP (nthL b 0) fun t=>
 nn t fun b_3 o=>
 gP (Sx.cell b_3 (o+3)) fun t_1=>
 gI (nthL b 1) .i64 fun t_2=>
 nn t_1 fun b_4 o_1=>
 0≤t_2∧t_2<6 ∧
 gA (Sx.part b_4 (o_1+2+t_2.toNat*12+2) 2) fun t_3=>
 gP (nthL b 0) fun t_4=>
 nn t_4 fun b_5 o_2=>
 gP (Sx.cell b_5 o_2) fun t_5=>
 qv Sx t_3 t_5 page fun t_6 t_7 Sx_1=>
 Sx_1.cell b_3 (o+3)=some (.pointer (some ⟨b_4,o_1,none⟩)) ∧
 t_6.all (·.oneCell')=true ∧
 if t_7=0 then
 gP (nthL b 0) fun t_8=>
 nn t_8 fun b_7 o_3=>
 gI (nthL b 1) .i64 fun t_9=>
 js Sx_1 (some (b_7,o_3+2)) t_9 page t_6 fun Sx_2=>
 t_6.all (·.oneCell')=true ∧
 Q t_6 t_7 Sx_2
 else
 t_6.all (·.oneCell')=true ∧
 Q t_6 t_7 Sx_1) fun Jx=>
 gP (nthL b 0) fun t_10=>
 nn t_10 fun b_8 o_4=>
 gI (nthL b 1) .i64 fun t_11=>
 kq S (some (b_8,o_4+2)) t_11 page fun t_12 t_13 Sx_3=>
 if t_13=true then
 t_12.all (·.oneCell')=true ∧
 t_12.all (·.oneCell')=true ∧
 Q t_12 0 Sx_3
 else
 t_12.all (·.oneCell')=true ∧
 Jx ([.bool false,.int .i64 0,.bool false]) Sx_3
theorem zeF {S:Mem} {b:List Value} {page:Int} {Q:List Value→Int→Mem→Prop} (H:jw S b page Q):kT S b page Q:=by
 unfold jw at H
 exact Tr.intro func243 E ntmps243 E fun w0=>an H fun hb H1=>csr<|gu E E E fun b_1=>by refine qk E fun b_2=>?_;exact gv E E<|nx<|zp H1 (fun (J:List Value→Mem→Prop) (z:List Value) S=>J z S) (fun z=>⟨58,[(1,.int .i64 page),(2,.pointer (some ⟨b_1,0,none⟩)),(4,.pointer (some ⟨b_2,0,none⟩))]⟩) (fun z=>[⟨b_1,173,b⟩,⟨b_2,111,z⟩]) (fun v Sx H2=>an H2 fun hv H3=>zO<|qc (by kernel_rfl)<|aTP 0 E (by decide +kernel) E (zv E E)<|by exact gx H3 fun t ht H4=>aT 1 E (by decide +kernel) E (zF E) (qm 0 E ht)<|by exact by obtain⟨b_3,o,rfl,H5⟩:=H4;exact aTP 2 E (by decide +kernel) E (qt E)<|by exact aTP 3 E (by decide +kernel) E (zv E E)<|by exact gx H5 fun t_1 ht_1 H6=>aT 4 E (by decide +kernel) E (zF E) (qh ht_1)<|by exact aTP 5 E (by decide +kernel) E (zv E E)<|by exact gx H6 fun t_2 ht_2 H7=>aT 6 E (by decide +kernel) E (zF E) (qm 0 E ht_2)<|by exact by obtain⟨b_4,o_1,rfl,H8⟩:=H7;exact aTP 7 E (by decide +kernel) E (qt E)<|by exact aTP 8 E (by decide +kernel) E (zv E E)<|by exact an2 H8 fun c c_1 H9=>aTP 9 E (by decide +kernel) E (qb E E c c_1 E)<|by exact aTP 10 E (by decide +kernel) E (zv E E)<|by exact gx H9 fun t_3 ht_3 H10=>by refine aT 11 E (by decide +kernel) E (qa E (qZ ht_3)) (zfN ht_3) ?_;exact aTP 12 E (by decide +kernel) E (zv E E)<|by exact gx H10 fun t_4 ht_4 H11=>aT 13 E (by decide +kernel) E (zF E) (qm 0 E ht_4)<|by exact by obtain⟨b_5,o_2,rfl,H12⟩:=H11;exact aTP 14 E (by decide +kernel) E (qt E)<|by exact aTP 15 E (by decide +kernel) E (zv E E)<|by exact gx H12 fun t_5 ht_5 H13=>aT 16 E (by decide +kernel) E (zF E) (qh ht_5)<|by exact aTP 17 E (by decide +kernel) E (zt E)<|by exact zjf 18 22 (by decide +kernel) E E (qP E E H13 fun rv Sx_1 H14=>by obtain⟨t_6,t_7,rfl,ht_6,H15⟩:=H14;exact by obtain⟨k,H16⟩:=H15;exact zu<|qf (zA (qm 0 E ht_4) (zA (qm 0 E ht_2) (zA (qh k) (zA (qm 0 E ht) zD))))<|aTP 19 E (by decide +kernel) E (zt E)<|by exact aTP 20 E (by decide +kernel) E (zj E E)<|by exact aTP 21 E (by decide +kernel) E (zj E E)<|by exact zH 22 (by decide +kernel) E<|by exact by refine qk E fun b_6=>?_;exact zu<|qf (zA (qm 0 E ht_4) (zA (qm 0 E ht_2) (zA (qh k) (zA (qm 0 E ht) zD))))<|zH 23 (by decide +kernel) E<|by exact an H16 fun c_2 H17=>zl 2 E E E E E ht_6 E c_2<|zu<|qf zD<|aTP 24 E (by decide +kernel) E (qH E)<|by exact qi (by decide +kernel)<|by exact zC<|zO<|csr<|mv E E<|iteK H17 (fun c_3 H18=>ceT E E E (c_3)<|nx<|c_t E E<|qc (by kernel_rfl)<|aTP 0 E (by decide +kernel) E (zv E E)<|by exact gx H18 fun t_8 ht_8 H19=>aT 1 E (by decide +kernel) E (zF E) (qm 0 E ht_8)<|by exact by obtain⟨b_7,o_3,rfl,H20⟩:=H19;exact aTP 2 E (by decide +kernel) E (qt E)<|by exact aTP 3 E (by decide +kernel) E (zv E E)<|by exact aTP 4 E (by decide +kernel) E (zv E E)<|by exact gx H20 fun t_9 ht_9 H21=>aT 5 E (by decide +kernel) E (zF E) (qm 0 E ht_9)<|by exact aTP 6 E (by decide +kernel) E (zt E)<|by exact by refine aT 7 E (by decide +kernel) E (qa E ht_6) (zx (k:=3) 2 E (ze ht_6)) ?_;exact zH 8 (by decide +kernel) E<|by exact zls E E H21 fun Sx_2 H22=>zu<|qf (zA (qm 0 E ht_8) zD)<|qi (by decide +kernel)<|by exact zC<|csr<|by refine s_v E (qa E ht_6) (zx (k:=3) 2 E (ze ht_6)) ?_;exact mv E E<|an H22 fun c_4 H23=>zl 1 E E E E E ht_6 hv c_4<|gv E E<|nx<|zo<|zn results243 (zr E (zx (k:=3) 1 E (ze ht_6)) ht_6 (zd E zg)) ⟨_,_,E,ht_6,H23⟩) fun c_3 H18=>ceF E E E (c_3)<|nx<|cfs E E<|zC<|csr<|by refine s_v E (qa E ht_6) (zx (k:=3) 2 E (ze ht_6)) ?_;exact mv E E<|an H18 fun c_5 H24=>zl 1 E E E E E ht_6 hv c_5<|gv E E<|nx<|zo<|zn results243 (zr E (zx (k:=3) 1 E (ze ht_6)) ht_6 (zd E zg)) ⟨_,_,E,ht_6,H24⟩) (by refine qk E fun b_6=>?_;exact zu<|qf (zA (qh ht_5) (zA (qm 0 E ht_4) (zA (zfN ht_3) (zA (qm 0 E ht_2) (zA (qh ht_1) (zA (qm 0 E ht) zD))))))<|zH 18 (by decide +kernel) E<|by exact qP E E H13 fun rv Sx_1 H25=>by obtain⟨t_6,t_7,rfl,ht_6,H26⟩:=H25;exact by obtain⟨k,H27⟩:=H26;exact zu<|qf (zA (qm 0 E ht_4) (zA (qm 0 E ht_2) (zA (qh k) (zA (qm 0 E ht) zD))))<|aTP 19 E (by decide +kernel) E (zt E)<|by exact aTP 20 E (by decide +kernel) E (zj E E)<|by exact aTP 21 E (by decide +kernel) E (zj E E)<|by exact zH 23 (by decide +kernel) E<|by exact an H27 fun c_2 H28=>zl 2 E E E E E ht_6 E c_2<|zu<|qf zD<|aTP 24 E (by decide +kernel) E (qH E)<|by exact qi (by decide +kernel)<|by exact zC<|zO<|csr<|mv E E<|iteK H28 (fun c_3 H29=>ceT E E E (c_3)<|nx<|c_t E E<|qc (by kernel_rfl)<|aTP 0 E (by decide +kernel) E (zv E E)<|by exact gx H29 fun t_8 ht_8 H30=>aT 1 E (by decide +kernel) E (zF E) (qm 0 E ht_8)<|by exact by obtain⟨b_7,o_3,rfl,H31⟩:=H30;exact aTP 2 E (by decide +kernel) E (qt E)<|by exact aTP 3 E (by decide +kernel) E (zv E E)<|by exact aTP 4 E (by decide +kernel) E (zv E E)<|by exact gx H31 fun t_9 ht_9 H32=>aT 5 E (by decide +kernel) E (zF E) (qm 0 E ht_9)<|by exact aTP 6 E (by decide +kernel) E (zt E)<|by exact by refine aT 7 E (by decide +kernel) E (qa E ht_6) (zx (k:=3) 2 E (ze ht_6)) ?_;exact zH 8 (by decide +kernel) E<|by exact zls E E H32 fun Sx_2 H33=>zu<|qf (zA (qm 0 E ht_8) zD)<|qi (by decide +kernel)<|by exact zC<|csr<|by refine s_v E (qa E ht_6) (zx (k:=3) 2 E (ze ht_6)) ?_;exact mv E E<|an H33 fun c_4 H34=>zl 1 E E E E E ht_6 hv c_4<|gv E E<|nx<|zo<|zn results243 (zr E (zx (k:=3) 1 E (ze ht_6)) ht_6 (zd E zg)) ⟨_,_,E,ht_6,H34⟩) fun c_3 H29=>ceF E E E (c_3)<|nx<|cfs E E<|zC<|csr<|by refine s_v E (qa E ht_6) (zx (k:=3) 2 E (ze ht_6)) ?_;exact mv E E<|an H29 fun c_5 H35=>zl 1 E E E E E ht_6 hv c_5<|gv E E<|nx<|zo<|zn results243 (zr E (zx (k:=3) 1 E (ze ht_6)) ht_6 (zd E zg)) ⟨_,_,E,ht_6,H35⟩)) (fun Jx hJx H36=>zO<|qc (by kernel_rfl)<|a_takeP 0 E (by decide +kernel) (za (za zc)) E (zv E E)<|by exact gx H36 fun t_10 ht_10 H37=>qp 1 E (by decide +kernel) (za (za zc)) E (zF E) (qm 0 E ht_10)<|by exact by obtain⟨b_8,o_4,rfl,H38⟩:=H37;exact a_takeP 2 E (by decide +kernel) (za (za zc)) E (qt E)<|by exact a_takeP 3 E (by decide +kernel) (za (za zc)) E (zv E E)<|by exact a_takeP 4 E (by decide +kernel) (za (za zc)) E (zv E E)<|by exact gx H38 fun t_11 ht_11 H39=>qp 5 E (by decide +kernel) (za (za zc)) E (zF E) (qm 0 E ht_11)<|by exact a_takeP 6 E (by decide +kernel) (za (za zc)) E (zt E)<|by exact zjf 7 11 (by decide +kernel) E E (qP E E H39 fun rv Sx_3 H40=>by obtain⟨t_12,t_13,rfl,ht_12,H41⟩:=H40;exact zu<|qf (zA (qm 0 E ht_10) zD)<|a_takeP 8 E (by decide +kernel) (za (za zc)) E (zt E)<|by exact a_takeP 9 E (by decide +kernel) (za (za zc)) E (zj E E)<|by exact iteK H41 (fun c_6 H42=>a_takeP 10 E (by decide +kernel) (za (za zc)) E (yB (zj E E) c_6)<|by exact zH 11 (by decide +kernel) E<|by exact by refine qk E fun b_9=>?_;exact zu<|qf (zA (qm 0 E ht_10) zD)<|zH 12 (by decide +kernel) E<|by exact an H42 fun c_7 H43=>zl 2 E E E E E ht_12 E c_7<|zu<|qf zD<|a_takeP 13 E (by decide +kernel) (za (za zc)) E (qH E)<|by exact qi (by decide +kernel)<|by exact zC<|csr<|mv E E<|nx<|c_t E E<|csr<|by refine s_v E (qa E ht_12) (zx (k:=3) 2 E (ze ht_12)) ?_;exact an H43 fun c_8 H44=>zl 1 E E E E E ht_12 E c_8<|gv E E<|nx<|zo<|zb<|zn results243 (zr E (zx (k:=3) 1 E (ze ht_12)) ht_12 (zd E zg)) ⟨_,_,E,ht_12,H44⟩) fun c_6 H42=>a_takeP 10 E (by decide +kernel) (za (za zc)) E (yB (zj E E) (zac c_6))<|by exact zH 11 (by decide +kernel) E<|by exact by refine qk E fun b_10=>?_;exact zu<|qf (zA (qm 0 E ht_10) zD)<|zH 12 (by decide +kernel) E<|by exact an H42 fun c_9 H45=>zl 2 E E E E E ht_12 E c_9<|zu<|qf zD<|a_takeP 13 E (by decide +kernel) (za (za zc)) E (qH E)<|by exact qi (by decide +kernel)<|by exact zC<|csr<|mv E E<|nx<|cfs E E<|hJx ([.bool false,.int .i64 0,.bool false]) _ _ _ _ [0,0] H45 E ⟨E,E,E,True.intro⟩ E) (by refine qk E fun b_9=>?_;exact zu<|qf (zA (qm 0 E ht_11) (zA (qm 0 E ht_10) zD))<|zH 7 (by decide +kernel) E<|by exact qP E E H39 fun rv Sx_3 H46=>by obtain⟨t_12,t_13,rfl,ht_12,H47⟩:=H46;exact zu<|qf (zA (qm 0 E ht_10) zD)<|a_takeP 8 E (by decide +kernel) (za (za zc)) E (zt E)<|by exact a_takeP 9 E (by decide +kernel) (za (za zc)) E (zj E E)<|by exact iteK H47 (fun c_6 H48=>a_takeP 10 E (by decide +kernel) (za (za zc)) E (yB (zj E E) c_6)<|by exact zH 12 (by decide +kernel) E<|by exact an H48 fun c_7 H49=>zl 2 E E E E E ht_12 E c_7<|zu<|qf zD<|a_takeP 13 E (by decide +kernel) (za (za zc)) E (qH E)<|by exact qi (by decide +kernel)<|by exact zC<|csr<|mv E E<|nx<|c_t E E<|csr<|by refine s_v E (qa E ht_12) (zx (k:=3) 2 E (ze ht_12)) ?_;exact an H49 fun c_8 H50=>zl 1 E E E E E ht_12 E c_8<|gv E E<|nx<|zo<|zb<|zn results243 (zr E (zx (k:=3) 1 E (ze ht_12)) ht_12 (zd E zg)) ⟨_,_,E,ht_12,H50⟩) fun c_6 H48=>a_takeP 10 E (by decide +kernel) (za (za zc)) E (yB (zj E E) (zac c_6))<|by exact zH 12 (by decide +kernel) E<|by exact an H48 fun c_9 H51=>zl 2 E E E E E ht_12 E c_9<|zu<|qf zD<|a_takeP 13 E (by decide +kernel) (za (za zc)) E (qH E)<|by exact qi (by decide +kernel)<|by exact zC<|csr<|mv E E<|nx<|cfs E E<|hJx ([.bool false,.int .i64 0,.bool false]) _ _ _ _ [0,0] H51 E ⟨E,E,E,True.intro⟩ E))
def ww (S:Mem) (s:Pt) (a:Int) (b:Int) (Q:Bool→Mem→Prop):Prop:=
 qq S s a fun t Sx=>
 if t=true then
 qq Sx s b fun t_1 Sx_1=>
 if t_1=true then
 nn s fun b_1 o=>
 0≤a∧a<6 ∧
 gI (Sx_1.cell b_1 (o+2+a.toNat*12+11)) .u32 fun t_2=>
 0≤b ∧
 Q (decide (iand .u32 (ishr .u32 t_2 b) 1=1)) Sx_1
 else
 Q false Sx_1
 else
 Q false Sx
theorem zbg {S:Mem} {s:Pt} {a:Int} {b:Int} {Q:Bool→Mem→Prop} (H:ww S s a b Q):wT S s a b Q:=by
 unfold ww at H
 exact Tr.intro func161 E ntmps161 E fun w0=>go results161 H
def vg (S:Mem) (s:Pt) (vm:Int) (n:Int) (Q:Pt→Mem→Prop):Prop:=
 jn (fun (Sx:Mem)=>
 nn s fun b o=>
 0≤vm∧vm<6 ∧
 gL (Sx.cell b (o+2+vm.toNat*12+1)) fun t=>
 sl t fun b_1 o_1 n_1 n_2=>
 0≤n∧n<((n_1:Nat):Int) ∧
 Q (some (b_1,o_1+n.toNat*26)) Sx) fun Jx=>
 qq S s vm fun t_1 Sx_1=>
 if t_1=true then
 if n<0 then
 Q none Sx_1
 else
 nn s fun b_2 o_2=>
 0≤vm∧vm<6 ∧
 gL (Sx_1.cell b_2 (o_2+2+vm.toNat*12+1)) fun t_2=>
 if (t_2.n:Int)≤n then
 Q none Sx_1
 else
 Jx Sx_1
 else
 Q none Sx_1
theorem zcl {S:Mem} {s:Pt} {vm:Int} {n:Int} {Q:Pt→Mem→Prop} (H:vg S s vm n Q):qB S s vm n Q:=by
 unfold vg at H
 have:=dj1 4 [0,1,2]
 exact Tr.intro func77 E ntmps77 E fun w0=>go results77 H
def wK (S:Mem) (s:Pt) (vm:Int) (Q:Bool→Mem→Prop):Prop:=
 if s≠none then
 if 0≤vm then
 if vm<6 then
 nn s fun b o=>
 0≤vm∧vm<6 ∧
 gB (S.cell b (o+2+vm.toNat*12)) fun t=>
 Q t S
 else
 Q false S
 else
 Q false S
 else
 Q false S
theorem zbA {S:Mem} {s:Pt} {vm:Int} {Q:Bool→Mem→Prop} (H:wK S s vm Q):qq S s vm Q:=by
 unfold wK at H
 exact Tr.intro func81 E ntmps81 E fun w0=>go results81 H
def vf (S:Mem) (s:Pt) (vm:Int) (Q:Int→Mem→Prop):Prop:=
 nn s fun b o=>
 gI (S.cell b (o+1)) .u64 fun t=>
 0≤vm∧vm<6 ∧
 gI (S.cell b (o+2+vm.toNat*12+5)) .u64 fun t_1=>
 Q (IntKind.u64.wrap (t-t_1)) S
theorem zck {S:Mem} {s:Pt} {vm:Int} {Q:Int→Mem→Prop} (H:vf S s vm Q):km S s vm Q:=by
 unfold vf at H
 exact Tr.intro func78 E ntmps78 E fun w0=>go results78 H
end
section
open Go Go.Pt Go.Proofs.Tryz
attribute [local irreducible] lt WD WN Code.wp Back bodyPost wpList FR WL WC WQ WA AW Tr Yc HC AllC
set_option maxRecDepth 20000
set_option maxHeartbeats 4000000
def jv (S:Mem) (h:Value) (Q:Mem→Prop):Prop:=
 ci prog S h "Len" [] fun rv Sx => ∃ t : Int, rv = .int .i64 t ∧ 
 lp (fun Xx (i:Int) (Sx_1:Mem)=>
 if 0≤i then
 zaz Sx_1 h i t fun t_1 Sx_2=>
 Xx (IntKind.i64.wrap (i-1)) Sx_2
 else
 Q Sx_1) (IntKind.i64.wrap ((IntKind.i64.wrap (Int.tdiv t 2))-1)) Sx
theorem zbz {S:Mem} {h:Value} {Q:Mem→Prop} (H:jv S h Q):gC S h Q:=by
 unfold jv at H
 have:=dj0 (α:=Int) 3 [0,2] (fun z=>[(3,.int .i64 z)])
 exact Tr.intro func106 E ntmps106 E fun w0=>go results106 H
def zdC (S:Mem) (h:Value) (Q:Value→Mem→Prop):Prop:=
 ci prog S h "Len" [] fun rv Sx => ∃ t : Int, rv = .int .i64 t ∧ 
 ci prog Sx h "Swap" [.int .i64 0, .int .i64 (IntKind.i64.wrap (t - 1))] fun rv Sx_1 => rv = .tuple #[] ∧ 
 zaz Sx_1 h 0 (IntKind.i64.wrap (t-1)) fun t_1 Sx_2=>
 ci prog Sx_2 h "Pop" [] fun rv Sx_3 => ∃ t_2 : Value, rv = t_2 ∧ 
 Q t_2 Sx_3
theorem zjV {S:Mem} {h:Value} {Q:Value→Mem→Prop} (H:zdC S h Q):zgV S h Q:=by
 unfold zdC at H
 exact Tr.intro func155 E ntmps155 E fun w0=>csr<|gv E E<|nxr<|mv E E<|zkQ E E E H fun rv Sx H1=>by obtain⟨t,rfl,H2⟩:=H1;exact s_p E (zgv E E)<|gv E E<|nxr<|mv E E<|mv E E<|zkQ E E E H2 fun rv Sx_1 H3=>by obtain⟨rfl,H4⟩:=H3;exact nxr<|mv E E<|mv E E<|vv E E H4 fun t_1 Sx_2 H5=>nxr<|mv E E<|zkQ E E E H5 fun rv Sx_3 H6=>by obtain⟨t_2,rfl,H7⟩:=H6;exact gv E E<|nx<|zo<|zn results155 (zd E zg) ⟨_,E,H7⟩
def fG (S:Mem) (h:Value) (x:Value) (Q:Mem→Prop):Prop:=
 ci prog S h "Push" [x] fun rv Sx => rv = .tuple #[] ∧ 
 ci prog Sx h "Len" [] fun rv Sx_1 => ∃ t : Int, rv = .int .i64 t ∧ 
 zgU Sx_1 h (IntKind.i64.wrap (t-1)) fun Sx_2=>
 Q Sx_2
theorem zeE {S:Mem} {h:Value} {x:Value} {Q:Mem→Prop} (H:fG S h x Q):zaA S h x Q:=by
 unfold fG at H
 exact Tr.intro func150 E ntmps150 E fun w0=>csr<|mv E E<|mv E E<|zkQ E E E H fun rv Sx H1=>by obtain⟨rfl,H2⟩:=H1;exact nx<|zw<|mv E E<|mv E E<|zkQ E E E H2 fun rv Sx_1 H3=>by obtain⟨t,rfl,H4⟩:=H3;exact s_p E (zgv E E)<|zls E E H4 fun Sx_2 H5=>zu<|ziG results150 (zg) ⟨E,H5⟩
def fF (S:Mem) (h:Value) (i0_0:Int) (n:Int) (Q:Bool→Mem→Prop):Prop:=
 jn (fun (i:Int) (Sx:Mem)=>
 Q (decide (i0_0<i)) Sx) fun Jx=>
 lp (fun Xx (i_1:Int) (Sx_1:Mem)=>
 jn (fun (Sx_2:Mem)=>
 jn (fun (j:Int) (Sx_3:Mem)=>
 ci prog Sx_3 h "Less" [.int .i64 j, .int .i64 i_1] fun rv Sx_4 => ∃ t : Bool, rv = .bool t ∧ 
 if t=true then
 ci prog Sx_4 h "Swap" [.int .i64 i_1, .int .i64 j] fun rv Sx_5 => rv = .tuple #[] ∧ 
 Xx j Sx_5
 else
 Jx i_1 Sx_4) fun Jx_1=>
 if IntKind.i64.wrap ((IntKind.i64.wrap ((IntKind.i64.wrap (2*i_1))+1))+1)<n then
 ci prog Sx_2 h "Less" [.int .i64 (IntKind.i64.wrap ((IntKind.i64.wrap ((IntKind.i64.wrap (2 * i_1)) + 1)) + 1)), .int .i64 (IntKind.i64.wrap ((IntKind.i64.wrap (2 * i_1)) + 1))] fun rv Sx_6 => ∃ t_1 : Bool, rv = .bool t_1 ∧ 
 if t_1=true then
 Jx_1 (IntKind.i64.wrap ((IntKind.i64.wrap ((IntKind.i64.wrap (2*i_1))+1))+1)) Sx_6
 else
 Jx_1 (IntKind.i64.wrap ((IntKind.i64.wrap (2*i_1))+1)) Sx_6
 else
 Jx_1 (IntKind.i64.wrap ((IntKind.i64.wrap (2*i_1))+1)) Sx_2) fun Jx_2=>
 if n≤IntKind.i64.wrap ((IntKind.i64.wrap (2*i_1))+1) then
 Jx i_1 Sx_1
 else
 if IntKind.i64.wrap ((IntKind.i64.wrap (2*i_1))+1)<0 then
 Jx i_1 Sx_1
 else
 Jx_2 Sx_1) i0_0 S
theorem zeD {S:Mem} {h:Value} {i0_0:Int} {n:Int} {Q:Bool→Mem→Prop} (H:fF S h i0_0 n Q):zaz S h i0_0 n Q:=by
 unfold fF at H
 exact Tr.intro func162 E ntmps162 E fun w0=>csr<|gv E E<|nxr<|mv E E<|gv E E<|nx<|zp H (fun (J:Int→Mem→Prop) (z:Int) S=>J z S) (fun z=>⟨48,[(1,.int .i64 i0_0),(7,.int .i64 z)]⟩) (fun z=>[]) (fun i Sx H1=>csr<|mv E E<|mv E E<|s_p E (qT E E)<|gv E E<|nx<|zo<|zn results162 (zd E zg) ⟨_,E,H1⟩) (fun Jx hJx H2=>zE<|xM (fun z=>⟨48,[(0,h),(1,.int .i64 i0_0),(2,.int .i64 n),(7,.int .i64 z)]⟩) (fun z=>[]) i0_0 (idx:=[]) H2 E ⟨E,E,E,E,True.intro⟩ E<|fun Xx hXx i_1 Sx_1 H3=>zE<|csr<|mv E E<|s_p E (zca E E)<|s_p E (qy E E)<|gv E E<|nx<|zp H3 (fun (J:Mem→Prop) (z:Unit) S=>J S) (fun z=>⟨48,[(0,h),(1,.int .i64 i0_0),(2,.int .i64 n),(7,.int .i64 i_1),(8,.int .i64 (IntKind.i64.wrap ((IntKind.i64.wrap (2*i_1))+1)))]⟩) (fun z=>[]) (fun _ Sx_2 H4=>csr<|mv E E<|gv E E<|nx<|zp H4 (fun (J:Int→Mem→Prop) (z:Int) S=>J z S) (fun z=>⟨48,[(0,h),(1,.int .i64 i0_0),(2,.int .i64 n),(7,.int .i64 i_1),(9,.int .i64 z)]⟩) (fun z=>[]) (fun j Sx_3 H5=>zO<|csr<|mv E E<|mv E E<|mv E E<|zkQ E E E H5 fun rv Sx_4 H6=>by obtain⟨t,rfl,H7⟩:=H6;exact by have H8:=zbG H7;rcases H8 with ⟨rfl,H9⟩ | ⟨rfl,H9⟩;exact (s_p E (yB (qC E) E)<|nx<|cfs E E<|zC<|csr<|mv E E<|mv E E<|mv E E<|zkQ E E E H9 fun rv Sx_5 H10=>by obtain⟨rfl,H11⟩:=H10;exact nx<|zw<|mv E E<|gv E E<|zu<|zX<|hXx j _ _ _ _ [] H11 E ⟨E,E,E,E,True.intro⟩ E);exact (s_p E (yB (qC E) E)<|nx<|c_t E E<|yg<|zm<|zaV E<|zm<|zU<|hJx i_1 _ _ _ _ [] H9 E ⟨E,E,True.intro⟩ E)) (fun Jx_1 hJx_1 H12=>csr<|mv E E<|s_p E (qy E E)<|gv E E<|nxr<|mv E E<|mv E E<|iteK H12 (fun c H13=>s_p E (yT (zQ E E) c)<|mv E E<|mv E E<|mv E E<|mv E E<|zkQ E E E H13 fun rv Sx_6 H14=>by obtain⟨t_1,rfl,H15⟩:=H14;exact by have H16:=zbG H15;rcases H16 with ⟨rfl,H17⟩ | ⟨rfl,H17⟩;exact (pk E E E<|nx<|ctr E E<|mv E E<|gv E E<|zu<|hJx_1 (IntKind.i64.wrap ((IntKind.i64.wrap ((IntKind.i64.wrap (2*i_1))+1))+1)) _ _ _ _ [] H17 E ⟨E,E,E,E,E,True.intro⟩ E);exact (pk E E E<|nx<|cfs E E<|hJx_1 (IntKind.i64.wrap ((IntKind.i64.wrap (2*i_1))+1)) _ _ _ _ [] H17 E ⟨E,E,E,E,E,True.intro⟩ E)) fun c H13=>s_p E (yF (zQ E E) c)<|mv E E<|sk4 E E E E<|by exact pk E E E<|nx<|cfs E E<|hJx_1 (IntKind.i64.wrap ((IntKind.i64.wrap (2*i_1))+1)) _ _ _ _ [] H13 E ⟨E,E,E,E,E,True.intro⟩ E)) (fun Jx_2 hJx_2 H18=>csr<|mv E E<|mv E E<|iteK H18 (fun c_1 H19=>s_p E (yT (wP E E) c_1)<|mv E E<|sk2 E E<|pk E E E<|nx<|c_t E E<|yg<|zm<|zaV E<|zm<|zU<|hJx i_1 _ _ _ _ [] H19 E ⟨E,E,True.intro⟩ E) fun c_1 H19=>s_p E (yF (wP E E) c_1)<|mv E E<|mv E E<|iteK H19 (fun c_2 H20=>s_p E (yT (zQ E E) c_2)<|pk E E E<|nx<|c_t E E<|yg<|zm<|zaV E<|zm<|zU<|hJx i_1 _ _ _ _ [] H20 E ⟨E,E,True.intro⟩ E) fun c_2 H20=>s_p E (yF (zQ E E) c_2)<|pk E E E<|nx<|cfs E E<|hJx_2 () _ _ _ _ [] H20 E ⟨E,E,E,E,E,True.intro⟩ E))
def zcL (S:Mem) (h:Value) (j:Int) (Q:Mem→Prop):Prop:=
 lp (fun Xx (j_1:Int) (Sx:Mem)=>
 jn (fun (Sx_1:Mem)=>
 ci prog Sx_1 h "Swap" [.int .i64 (IntKind.i64.wrap (Int.tdiv (IntKind.i64.wrap (j_1 - 1)) 2)), .int .i64 j_1] fun rv Sx_2 => rv = .tuple #[] ∧ 
 Xx (IntKind.i64.wrap (Int.tdiv (IntKind.i64.wrap (j_1-1)) 2)) Sx_2) fun Jx=>
 if IntKind.i64.wrap (Int.tdiv (IntKind.i64.wrap (j_1-1)) 2)=j_1 then
 Q Sx
 else
 ci prog Sx h "Less" [.int .i64 j_1, .int .i64 (IntKind.i64.wrap (Int.tdiv (IntKind.i64.wrap (j_1 - 1)) 2))] fun rv Sx_3 => ∃ t : Bool, rv = .bool t ∧ 
 if t=true then
 Jx Sx_3
 else
 Q Sx_3) j S
theorem zhq {S:Mem} {h:Value} {j:Int} {Q:Mem→Prop} (H:zcL S h j Q):zgU S h j Q:=by
 unfold zcL at H
 exact Tr.intro func215 E ntmps215 E fun w0=>zE<|xM (fun z=>⟨23,[(0,h),(1,.int .i64 z)]⟩) (fun z=>[]) j (idx:=[]) H E ⟨E,E,True.intro⟩ E<|fun Xx hXx j_1 Sx H1=>zE<|csr<|mv E E<|s_p E (zgv E E)<|s_p E (zcN E E (by decide))<|gv E E<|nx<|zp H1 (fun (J:Mem→Prop) (z:Unit) S=>J S) (fun z=>⟨23,[(0,h),(1,.int .i64 j_1),(4,.int .i64 (IntKind.i64.wrap (Int.tdiv (IntKind.i64.wrap (j_1-1)) 2)))]⟩) (fun z=>[]) (fun _ Sx_1 H2=>csr<|mv E E<|mv E E<|mv E E<|zkQ E E E H2 fun rv Sx_2 H3=>by obtain⟨rfl,H4⟩:=H3;exact nx<|zw<|mv E E<|gv E E<|zu<|zX<|hXx (IntKind.i64.wrap (Int.tdiv (IntKind.i64.wrap (j_1-1)) 2)) _ _ _ _ [] H4 E ⟨E,E,True.intro⟩ E) (fun Jx hJx H5=>csr<|mv E E<|mv E E<|iteK H5 (fun c H6=>ceT E E E (c)<|mv E E<|sk4 E E E E<|zG E<|pk E E E<|nx<|c_t E E<|yg<|zm<|zaV E<|zm<|zU<|ziG results215 (zg) ⟨E,H6⟩) fun c H6=>ceF E E E (c)<|mv E E<|mv E E<|mv E E<|mv E E<|zkQ E E E H6 fun rv Sx_3 H7=>by obtain⟨t,rfl,H8⟩:=H7;exact by have H9:=zbG H8;rcases H9 with ⟨rfl,H10⟩ | ⟨rfl,H10⟩;exact (s_p E (yB (qC E) E)<|pk E E E<|nx<|cfs E E<|hJx () _ _ _ _ [] H10 E ⟨E,E,E,True.intro⟩ E);exact (s_p E (yB (qC E) E)<|pk E E E<|nx<|c_t E E<|yg<|zm<|zaV E<|zm<|zU<|ziG results215 (zg) ⟨E,H10⟩))
def zdA (S:Mem) (frames:Int) (Q:Pt→Mem→Prop):Prop:=
 al S 178 ([.slice (none) 0 0,.slice (none) 0 0,.int .i64 (-1)]) fun b Sx=>
 jn (fun (Sx_1:Mem)=>
 gC Sx_1 (.iface 205 (.pointer (some ⟨b,0,none⟩))) fun Sx_2=>
 Q (some (b,0)) Sx_2) fun Jx=>
 lp (fun Xx (t:Int) (Sx_3:Mem)=>
 if t<(if 512<(if frames<0 then 0 else frames) then 512 else (if frames<0 then 0 else frames)) then
 gL (Sx_3.cell b 0) fun t_1=>
 ap Sx_3 3 1 8 [.int .i64 0] t_1 1 ([.int .i64 t]) fun t_2 Sx_4=>
 pt Sx_4 b 0 1 ([eL t_2]) fun Sx_5=>
 gL (Sx_5.cell b 1) fun t_3=>
 ap Sx_5 4 1 1 [.bool false] t_3 1 ([.bool false]) fun t_4 Sx_6=>
 pt Sx_6 b 1 1 ([eL t_4]) fun Sx_7=>
 Xx (IntKind.i64.wrap (t+1)) Sx_7
 else
 Jx Sx_3) 0 Sx
theorem zjT {S:Mem} {frames:Int} {Q:Pt→Mem→Prop} (H:zdA S frames Q):zcA S frames Q:=by
 unfold zdA at H
 have:=dj1 9 [3]
 have:=dj0 (α:=Int) 4 [3,9] (fun z=>[(10,.int .i64 z)])
 exact Tr.intro func51 E ntmps51 E fun w0=>go results51 H
def kC (S:Mem) (p:Pt) (n:Int) (Q:Int→Mem→Prop):Prop:=
 jn (fun (Sx:Mem)=>
 nn p fun b o=>
 gL (Sx.cell b (o+1)) fun t=>
 sl t fun b_1 o_1 n_1 n_2=>
 0≤n∧n<((n_1:Nat):Int) ∧
 pt Sx b_1 (o_1+n.toNat*1) 1 ([.bool false]) fun Sx_1=>
 zaA Sx_1 (.iface 205 (.pointer (some ⟨b,o,none⟩))) (.iface 3 (.int .i64 n)) fun Sx_2=>
 Q 0 Sx_2) fun Jx=>
 if p=none then
 Q 2 S
 else
 if n<0 then
 Q 1 S
 else
 nn p fun b_2 o_2=>
 gL (S.cell b_2 (o_2+1)) fun t_1=>
 if (t_1.n:Int)≤n then
 Q 1 S
 else
 gL (S.cell b_2 (o_2+1)) fun t_2=>
 sl t_2 fun b_3 o_3 n_3 n_4=>
 0≤n∧n<((n_3:Nat):Int) ∧
 gB (S.cell b_3 (o_3+n.toNat*1)) fun t_3=>
 if t_3=true then
 Jx S
 else
 Q 8 S
theorem zdX {S:Mem} {p:Pt} {n:Int} {Q:Int→Mem→Prop} (H:kC S p n Q):vU S p n Q:=by
 unfold kC at H
 have:=dj1 8 [0,1]
 exact Tr.intro func88 E ntmps88 E fun w0=>go results88 H
def kB (S:Mem) (p:Pt) (Q:Int→Mem→Prop):Prop:=
 if p=none then
 Q 0 S
 else
 nn p fun b o=>
 gL (S.cell b o) fun t=>
 Q (t.n:Int) S
theorem zdW {S:Mem} {p:Pt} {Q:Int→Mem→Prop} (H:kB S p Q):jW S p Q:=by
 unfold kB at H
 exact Tr.intro func34 E ntmps34 E fun w0=>go results34 H
def kA (S:Mem) (p:Pt) (n:Int) (Q:Sl→Int→Mem→Prop):Prop:=
 jn (fun (Sx:Mem)=>
 jn (fun (l:Sl) (Sx_1:Mem)=>
 Q l 0 Sx_1) fun Jx=>
 lp (fun Xx (z:Sl×Int) (Sx_2:Mem)=>
 match z with
 | (l_1,t)=>
 if t<(if n<0 then 0 else n) then
 jn (fun (l_2:Sl) (Sx_3:Mem)=>
 Xx (l_2,IntKind.i64.wrap (t+1)) Sx_3) fun Jx_1=>
 vT Sx_2 p fun t_1 t_2 Sx_4=>
 jn (fun (Sx_5:Mem)=>
 ap Sx_5 3 1 8 [.int .i64 0] l_1 1 ([.int .i64 t_1]) fun t_3 Sx_6=>
 Jx_1 t_3 Sx_6) fun Jx_2=>
 if t_2≠0 then
 jn (fun (Sx_7:Mem)=>
 Q (⟨none,0,0⟩) t_2 Sx_7) fun Jx_3=>
 lp (fun Xx_1 (t_4:Int) (Sx_8:Mem)=>
 if t_4<(l_1.n:Int) then
 sl l_1 fun b_1 o n_1 n_2=>
 0≤t_4∧t_4<((n_1:Nat):Int) ∧
 gI (Sx_8.cell b_1 (o+t_4.toNat*1)) .i64 fun t_5=>
 vU Sx_8 p t_5 fun t_6 Sx_9=>
 Xx_1 (IntKind.i64.wrap (t_4+1)) Sx_9
 else
 Jx_3 Sx_8) 0 Sx_4
 else
 Jx_2 Sx_4
 else
 Jx l_1 Sx_2) (⟨none,0,0⟩,0) Sx) fun Jx_4=>
 if p=none then
 Q (⟨none,0,0⟩) 2 S
 else
 Jx_4 S
theorem zdV {S:Mem} {p:Pt} {n:Int} {Q:Sl→Int→Mem→Prop} (H:kA S p n Q):wz S p n Q:=by
 unfold kA at H
 exact Tr.intro func71 E ntmps71 E fun w0=>csr<|gv E E<|gv E E<|nx<|zp H (fun (J:Mem→Prop) (z:Unit) S=>J S) (fun z=>⟨41,[(0,eP p),(1,.int .i64 n)]⟩) (fun z=>[]) (fun _ Sx H1=>csr<|gv E E<|nx<|zp H1 (fun (J:Sl→Mem→Prop) (z:Sl) S=>J z S) (fun z=>⟨41,[(6,eL z)]⟩) (fun z=>[]) (fun l Sx_1 H2=>csr<|mv E E<|gv E E<|gv E E<|nx<|zo<|zn results71 (zd E (zd E zg)) ⟨_,_,E,H2⟩) (fun Jx hJx H3=>csr<|mv E E<|s_p E (zoe E E)<|mv E E<|nx<|zE<|xM (fun z=>⟨41,[(0,eP p),(6,eL z.1),(14,.int .i64 (if n<0 then 0 else n)),(15,.int .i64 z.2)]⟩) (fun z=>[]) (⟨none,0,0⟩,0) (idx:=[]) H3 E ⟨E,E,E,E,True.intro⟩ E<|by rintro Xx hXx ⟨l_1,t⟩ Sx_2 H4;exact csr<|iteK H4 (fun c H5=>s_p E (yT (zQ E E) c)<|nx<|zO<|c_t E E<|yu<|zC<|zp H5 (fun (J:Sl→Mem→Prop) (z:Sl) S=>J z S) (fun z=>⟨41,[(0,eP p),(6,eL z),(14,.int .i64 (if n<0 then 0 else n)),(15,.int .i64 t)]⟩) (fun z=>[]) (fun l_2 Sx_3 H6=>zw<|s_p E (qy E E)<|mv E E<|zu<|hXx (l_2,IntKind.i64.wrap (t+1)) _ _ _ _ [] H6 E ⟨E,E,E,E,True.intro⟩ E) (fun Jx_1 hJx_1 H7=>zE<|csr<|mv E E<|zhi E E H7 fun t_1 t_2 Sx_4 H8=>mv E E<|s_p E (zj E E)<|s_p E (zj E E)<|gv E E<|gv E E<|nx<|zp H8 (fun (J:Mem→Prop) (z:Unit) S=>J S) (fun z=>⟨41,[(0,eP p),(6,eL l_1),(7,.int .i64 t_1),(14,.int .i64 (if n<0 then 0 else n)),(15,.int .i64 t)]⟩) (fun z=>[]) (fun _ Sx_5 H9=>zw<|mv E E<|mv E E<|zkR E E (by decide) E fun b=>zau (sx:=l_1) (vs:=[.int .i64 t_1]) E E E (zjE 0 E E) E E (by decide) H9 fun t_3 Sx_6 H10=>gv E E<|zu<|zX<|hJx_1 t_3 _ _ _ _ [] H10 E ⟨E,E,E,E,True.intro⟩ E) (fun Jx_2 hJx_2 H11=>csr<|mv E E<|iteK H11 (fun c_1 H12=>s_p E (yT (qw E E) c_1)<|nx<|c_t E E<|zp H12 (fun (J:Mem→Prop) (z:Unit) S=>J S) (fun z=>⟨41,[(8,.int .i64 t_2)]⟩) (fun z=>[]) (fun _ Sx_7 H13=>csr<|mv E E<|gv E E<|gv E E<|nx<|zo<|zb<|zh<|zb<|zb<|zh<|zb<|zn results71 (zd E (zd E zg)) ⟨_,_,E,H13⟩) (fun Jx_3 hJx_3 H14=>csr<|mv E E<|s_p E (vX E)<|mv E E<|nx<|zE<|xM (fun z=>⟨41,[(0,eP p),(8,.int .i64 t_2),(24,eL l_1),(25,.int .i64 (l_1.n:Int)),(26,.int .i64 z)]⟩) (fun z=>[]) 0 (idx:=[]) H14 E ⟨E,E,E,E,E,True.intro⟩ E<|fun Xx_1 hXx_1 t_4 Sx_8 H15=>csr<|iteK H15 (fun c_2 H16=>s_p E (yT (zQ E E) c_2)<|nx<|zO<|c_t E E<|yu<|zC<|by exact zO<|zE<|csr<|by obtain⟨b_1,o,n_1,n_2,rfl,H17⟩:=H16;exact an2 H17 fun c_3 c_4 H18=>s_p E (vx E E c_3 c_4 E)<|gx H18 fun t_5 ht_5 H19=>s_v E (zF E) (qh ht_5)<|gv E E<|nx<|zw<|mv E E<|mv E E<|vv E E H19 fun t_6 Sx_9 H20=>zu<|zX<|zC<|zw<|s_p E (qy E E)<|mv E E<|zu<|hXx_1 (IntKind.i64.wrap (t_4+1)) _ _ _ _ [] H20 E ⟨E,E,E,E,E,True.intro⟩ E) fun c_2 H16=>s_p E (yF (zQ E E) c_2)<|nx<|zO<|c_f E E<|yg<|zm<|zm<|zU<|by exact hJx_3 () _ _ _ _ [] H16 E ⟨E,True.intro⟩ E)) fun c_1 H12=>s_p E (yF (qw E E) c_1)<|nx<|cfs E E<|hJx_2 () _ _ _ _ [] H12 E ⟨E,E,E,E,E,True.intro⟩ E))) fun c H5=>s_p E (yF (zQ E E) c)<|nx<|zO<|c_f E E<|yg<|zm<|zm<|zU<|hJx l_1 _ _ _ _ [] H5 E ⟨E,True.intro⟩ E)) (fun Jx_4 hJx_4 H21=>csr<|mv E E<|iteK H21 (fun c_5 H22=>s_p E (yT (wb (p:=p) E E) c_5)<|nx<|c_t E E<|csr<|gv E E<|gv E E<|nx<|zo<|zb<|zn results71 (zd E (zd E zg)) ⟨_,_,E,H22⟩) fun c_5 H22=>s_p E (yF (wb (p:=p) E E) c_5)<|nx<|cfs E E<|hJx_4 () _ _ _ _ [] H22 E ⟨E,E,True.intro⟩ E)
def kz (S:Mem) (p:Pt) (Q:Int→Int→Mem→Prop):Prop:=
 jn (fun (Sx:Mem)=>
 nn p fun b o=>
 gI (Sx.cell b (o+2)) .i64 fun t=>
 pt Sx b (o+2) 1 ([.int .i64 (if IntKind.i64.wrap (t-1)<(-1) then (-1) else IntKind.i64.wrap (t-1))]) fun Sx_1=>
 zgV Sx_1 (.iface 205 (.pointer (some ⟨b,o,none⟩))) fun t_1 Sx_2=>
 asI t_1 3 .i64 fun t_2=>
 gL (Sx_2.cell b (o+1)) fun t_3=>
 sl t_3 fun b_1 o_1 n n_1=>
 0≤t_2∧t_2<((n:Nat):Int) ∧
 pt Sx_2 b_1 (o_1+t_2.toNat*1) 1 ([.bool true]) fun Sx_3=>
 Q t_2 0 Sx_3) fun Jx=>
 if p=none then
 Q 0 2 S
 else
 nn p fun b_2 o_2=>
 gI (S.cell b_2 (o_2+2)) .i64 fun t_4=>
 if t_4=0 then
 Q 0 3 S
 else
 gL (S.cell b_2 o_2) fun t_5=>
 if (t_5.n:Int)=0 then
 Q 0 3 S
 else
 Jx S
theorem zdU {S:Mem} {p:Pt} {Q:Int→Int→Mem→Prop} (H:kz S p Q):vT S p Q:=by
 unfold kz at H
 exact Tr.intro func139 E ntmps139 E fun w0=>csr<|gv E E<|gv E E<|nx<|zp H (fun (J:Mem→Prop) (z:Unit) S=>J S) (fun z=>⟨44,[(0,eP p)]⟩) (fun z=>[]) (fun _ Sx H1=>csr<|mv E E<|mv E E<|by obtain⟨b,o,rfl,H2⟩:=H1;exact s_p E (qt E)<|s_p E (zv E E)<|gx H2 fun t ht H3=>s_v E (zF E) (qh ht)<|s_p E (zgv E E)<|s_p E (zoe E E)<|s_p E (qt E)<|s_p E (zv E E)<|an H3 fun c H4=>qY E E E E E c E<|nxr<|mv E E<|s_p E (qt E)<|s_p E (zv E E)<|s_p E (zkV E)<|vv E E H4 fun t_1 Sx_2 H5=>by obtain⟨t_2,rfl,H6⟩:=H5;exact s_p E (zgw E)<|gv E E<|nxr<|mv E E<|s_p E (qt E)<|s_p E (zv E E)<|gx H6 fun t_3 ht_3 H7=>s_v E (zF E) (qh ht_3)<|mv E E<|by obtain⟨b_1,o_1,n,n_1,rfl,H8⟩:=H7;exact an2 H8 fun c_1 c_2 H9=>s_p E (vx E E c_1 c_2 E)<|an H9 fun c_3 H10=>qY E E E E E c_3 E<|nxr<|mv E E<|gv E E<|gv E E<|nx<|zo<|zn results139 (zd E (zd E zg)) ⟨_,_,E,H10⟩) (fun Jx hJx H11=>zE<|csr<|mv E E<|iteK H11 (fun c_4 H12=>s_p E (yT (wb (p:=p) E E) c_4)<|gv E E<|nx<|c_t E E<|csr<|gv E E<|gv E E<|nx<|zo<|zh<|zb<|zn results139 (zd E (zd E zg)) ⟨_,_,E,H12⟩) fun c_4 H12=>s_p E (yF (wb (p:=p) E E) c_4)<|gv E E<|nx<|c_f E E<|csr<|mv E E<|by obtain⟨b_2,o_2,rfl,H13⟩:=H12;exact s_p E (qt E)<|s_p E (zv E E)<|gx H13 fun t_4 ht_4 H14=>s_v E (zF E) (qh ht_4)<|iteK H14 (fun c_5 H15=>ceT E E E (c_5)<|mv E E<|sk4 E E E E<|sk2 E E<|pk E E E<|gv E E<|nx<|c_t E E<|csr<|gv E E<|gv E E<|nx<|zo<|zh<|zb<|zn results139 (zd E (zd E zg)) ⟨_,_,E,H15⟩) fun c_5 H15=>ceF E E E (c_5)<|mv E E<|mv E E<|s_p E (qt E)<|s_p E (zv E E)<|gx H15 fun t_5 ht_5 H16=>s_v E (zF E) (qh ht_5)<|s_p E (vX E)<|iteK H16 (fun c_6 H17=>ceT E E E (c_6)<|pk E E E<|gv E E<|nx<|c_t E E<|csr<|gv E E<|gv E E<|nx<|zo<|zh<|zb<|zn results139 (zd E (zd E zg)) ⟨_,_,E,H17⟩) fun c_6 H17=>ceF E E E (c_6)<|pk E E E<|gv E E<|nx<|cfs E E<|zX<|hJx () _ _ _ _ [] H17 E ⟨E,True.intro⟩ E)
def zaJ (S:Mem) (f:Sl) (Q:Int→Mem→Prop):Prop:=
 Q (f.n:Int) S
theorem zeB {S:Mem} {f:Sl} {Q:Int→Mem→Prop} (H:zaJ S f Q):zgM S f Q:=by
 unfold zaJ at H
 exact Tr.intro func273 E ntmps273 E fun w0=>go results273 H
def ky (S:Mem) (f:Sl) (i:Int) (j:Int) (Q:Bool→Mem→Prop):Prop:=
 sl f fun b o n n_1=>
 0≤i∧i<((n:Nat):Int) ∧
 gI (S.cell b (o+i.toNat*1)) .i64 fun t=>
 0≤j∧j<((n:Nat):Int) ∧
 gI (S.cell b (o+j.toNat*1)) .i64 fun t_1=>
 Q (decide (t<t_1)) S
theorem zdT {S:Mem} {f:Sl} {i:Int} {j:Int} {Q:Bool→Mem→Prop} (H:ky S f i j Q):zbn S f i j Q:=by
 unfold ky at H
 exact Tr.intro func274 E ntmps274 E fun w0=>go results274 H
def jt (S:Mem) (f:Pt) (Q:Value→Mem→Prop):Prop:=
 nn f fun b o=>
 gL (S.cell b o) fun t=>
 sl t fun b_1 o_1 n n_1=>
 0≤IntKind.i64.wrap ((t.n:Int)-1)∧IntKind.i64.wrap ((t.n:Int)-1)<((n:Nat):Int) ∧
 gI (S.cell b_1 (o_1+(IntKind.i64.wrap ((t.n:Int)-1)).toNat*1)) .i64 fun t_1=>
 (0:Int)≤IntKind.i64.wrap ((n:Int)-1)∧IntKind.i64.wrap ((n:Int)-1)≤((⟨some (b_1,o_1),n,n_1⟩:Sl).c:Int) ∧
 lt (slc 1 (⟨some (b_1,o_1),n,n_1⟩:Sl) 0 (IntKind.i64.wrap ((n:Int)-1))) fun t_2=>
 pt S b o 1 ([eL t_2]) fun Sx=>
 Q (.iface 3 (.int .i64 t_1)) Sx
theorem zeA {S:Mem} {f:Pt} {Q:Value→Mem→Prop} (H:jt S f Q):zgL S f Q:=by
 unfold jt at H
 exact Tr.intro func276 E ntmps276 E fun w0=>go results276 H
def kw (S:Mem) (f:Pt) (x:Value) (Q:Mem→Prop):Prop:=
 nn f fun b o=>
 gL (S.cell b o) fun t=>
 asI x 3 .i64 fun t_1=>
 ap S 3 1 8 [.int .i64 0] t 1 ([.int .i64 t_1]) fun t_2 Sx=>
 pt Sx b o 1 ([eL t_2]) fun Sx_1=>
 Q Sx_1
theorem zdS {S:Mem} {f:Pt} {x:Value} {Q:Mem→Prop} (H:kw S f x Q):zfL S f x Q:=by
 unfold kw at H
 exact Tr.intro func277 E ntmps277 E fun w0=>qc (by kernel_rfl)<|a_takeP 0 E (by decide +kernel) zc E (zt E)<|by exact a_takeP 1 E (by decide +kernel) zc E (zt E)<|by exact by obtain⟨b,o,rfl,H1⟩:=H;exact a_takeP 2 E (by decide +kernel) zc E (qt E)<|by exact gx H1 fun t ht H2=>qp 3 E (by decide +kernel) zc E (zF E) (qh ht)<|by exact a_takeP 4 E (by decide +kernel) zc E (zt E)<|by exact by obtain⟨t_1,rfl,H3⟩:=H2;exact a_takeP 5 E (by decide +kernel) zc E (zgw E)<|by exact zH 6 (by decide +kernel) E<|by exact zkR E E (by decide) E fun b_1=>zu<|qf (zA (qh ht) zD)<|zH 7 (by decide +kernel) E<|by exact zau (sx:=t) (vs:=[.int .i64 t_1]) E E E (zjE 0 E E) E E (by decide) H3 fun t_2 Sx H4=>zu<|qf zD<|a_takeP 8 E (by decide +kernel) zc E (qt E)<|by exact zH 9 (by decide +kernel) E<|by exact an H4 fun c H5=>qY E E E E E c E<|zu<|qf zD<|qi (by decide +kernel)<|by exact ziG results277 (zg) ⟨E,H5⟩
def ku (S:Mem) (f:Sl) (i:Int) (j:Int) (Q:Mem→Prop):Prop:=
 sl f fun b o n n_1=>
 0≤j∧j<((n:Nat):Int) ∧
 gI (S.cell b (o+j.toNat*1)) .i64 fun t=>
 0≤i∧i<((n:Nat):Int) ∧
 gI (S.cell b (o+i.toNat*1)) .i64 fun t_1=>
 0≤i∧i<((n:Nat):Int) ∧
 pt S b (o+i.toNat*1) 1 ([.int .i64 t]) fun Sx=>
 0≤j∧j<((n:Nat):Int) ∧
 pt Sx b (o+j.toNat*1) 1 ([.int .i64 t_1]) fun Sx_1=>
 Q Sx_1
theorem zdR {S:Mem} {f:Sl} {i:Int} {j:Int} {Q:Mem→Prop} (H:ku S f i j Q):zbm S f i j Q:=by
 unfold ku at H
 exact Tr.intro func275 E ntmps275 E fun w0=>go results275 H
end
section
open Go Go.Pt Go.Proofs.Tryz
attribute [local irreducible] lt WD WN Code.wp Back bodyPost wpList FR WL WC WQ WA AW Tr Yc HC AllC
set_option maxRecDepth 20000
set_option maxHeartbeats 4000000
def wy (S:Mem) (a:List Value) (b:List Value) (Q:Bool→Mem→Prop):Prop:=
 a.length=3 ∧
 b.length=3 ∧
 jn (fun (Sx:Mem)=>
 gI (nthL a 2) .i64 fun t=>
 gI (nthL b 2) .i64 fun t_1=>
 Q (decide (t<t_1)) Sx) fun Jx=>
 gI (nthL a 0) .u64 fun t_2=>
 gI (nthL b 0) .u64 fun t_3=>
 if t_2≠t_3 then
 gI (nthL a 0) .u64 fun t_4=>
 gI (nthL b 0) .u64 fun t_5=>
 Q (decide (t_4<t_5)) S
 else
 gI (nthL a 1) .i64 fun t_6=>
 gI (nthL b 1) .i64 fun t_7=>
 if t_6≠t_7 then
 gI (nthL a 1) .i64 fun t_8=>
 gI (nthL b 1) .i64 fun t_9=>
 Q (decide (t_8<t_9)) S
 else
 Jx S
theorem zbi {S:Mem} {a:List Value} {b:List Value} {Q:Bool→Mem→Prop} (H:wy S a b Q):vu S a b Q:=by
 unfold wy at H
 have:=dj (α:=Unit) 6 [2,3] (fun _=>[]) (fun _=>[(0,none),(1,none)])
 exact Tr.intro func272 E ntmps272 E fun w0=>go results272 H
def vr (S:Mem) (c:Pt) (vm:Int) (seat:Int) (Q:Mem→Prop):Prop:=
 al S 3 ([.int .i64 vm]) fun b Sx=>
 al Sx 3 ([.int .i64 seat]) fun b_1 Sx_1=>
 kP Sx_1 c (.func (.func 242) #[] #[.pointer (some ⟨b,0,none⟩),.pointer (some ⟨b_1,0,none⟩)]) fun Sx_2=>
 Q Sx_2
theorem zct {S:Mem} {c:Pt} {vm:Int} {seat:Int} {Q:Mem→Prop} (H:vr S c vm seat Q):kQ S c vm seat Q:=by
 unfold vr at H
 exact Tr.intro func230 E ntmps230 E fun w0=>go results230 H
def xX (S:Mem) (a:List Value) (t:Pt) (t_1:Pt) (Q:Bool→Mem→Prop):Prop:=
 a.length=3 ∧
 gI (nthL a 1) .i64 fun t_2=>
 nn t fun b_1 o=>
 gI (S.cell b_1 o) .i64 fun t_3=>
 if t_2=t_3 then
 gI (nthL a 2) .i64 fun t_4=>
 nn t_1 fun b_2 o_1=>
 gI (S.cell b_2 o_1) .i64 fun t_5=>
 Q (decide (t_4=t_5)) S
 else
 Q false S
theorem zas {S:Mem} {a:List Value} {t:Pt} {t_1:Pt} {Q:Bool→Mem→Prop} (H:xX S a t t_1 Q):zbZ S a t t_1 Q:=by
 unfold xX at H
 exact Tr.intro func242 E ntmps242 E fun w0=>go results242 H
def vQ (S:Mem) (c:Pt) (vm:Int) (seat:Int) (atx:Int) (Q:Int→Mem→Prop):Prop:=
 jn (fun (Sx:Mem)=>
 kQ Sx c vm seat fun Sx_1=>
 nn c fun b o=>
 zaA Sx_1 (.iface 269 (.pointer (some ⟨b,o,none⟩))) (.iface 193 (valL ([.int .u64 atx,.int .i64 vm,.int .i64 seat]))) fun Sx_2=>
 Q 0 Sx_2) fun Jx=>
 if c=none then
 Q 2 S
 else
 if vm<0 then
 Q 1 S
 else
 if 6≤vm then
 Q 1 S
 else
 if seat<0 then
 Q 1 S
 else
 if 3≤seat then
 Q 1 S
 else
 Jx S
theorem zcZ {S:Mem} {c:Pt} {vm:Int} {seat:Int} {atx:Int} {Q:Int→Mem→Prop} (H:vQ S c vm seat atx Q):vt S c vm seat atx Q:=by
 unfold vQ at H
 have:=dj1 6 [0,1,2,3]
 exact Tr.intro func205 E ntmps205 E fun w0=>go results205 H
def vq (S:Mem) (c:Pt) (ofx:Value) (Q:Mem→Prop):Prop:=
 if c≠none then
 nn c fun b o=>
 gL (S.cell b o) fun t=>
 zT S t ofx fun t_1 Sx=>
 pt Sx b o 1 ([eL t_1]) fun Sx_1=>
 gC Sx_1 (.iface 269 (.pointer (some ⟨b,o,none⟩))) fun Sx_2=>
 Q Sx_2
 else
 Q S
theorem zcs {S:Mem} {c:Pt} {ofx:Value} {Q:Mem→Prop} (H:vq S c ofx Q):kP S c ofx Q:=by
 unfold vq at H
 exact Tr.intro func153 E ntmps153 E fun w0=>go results153 H
def zaP (S:Mem) (r:Sl) (Q:Int→Mem→Prop):Prop:=
 Q (r.n:Int) S
theorem zeO {S:Mem} {r:Sl} {Q:Int→Mem→Prop} (H:zaP S r Q):zhh S r Q:=by
 unfold zaP at H
 exact Tr.intro func269 E ntmps269 E fun w0=>go results269 H
def kO (S:Mem) (r:Sl) (i:Int) (j:Int) (Q:Bool→Mem→Prop):Prop:=
 sl r fun b o n n_1=>
 0≤i∧i<((n:Nat):Int) ∧
 gA (S.part b (o+i.toNat*3) 3) fun t=>
 0≤j∧j<((n:Nat):Int) ∧
 gA (S.part b (o+j.toNat*3) 3) fun t_1=>
 vu S t t_1 fun t_2 Sx=>
 Q t_2 Sx
theorem zej {S:Mem} {r:Sl} {i:Int} {j:Int} {Q:Bool→Mem→Prop} (H:kO S r i j Q):zbt S r i j Q:=by
 unfold kO at H
 exact Tr.intro func270 E ntmps270 E fun w0=>go results270 H
def kN (S:Mem) (r:Pt) (x:Value) (Q:Mem→Prop):Prop:=
 nn r fun b o=>
 gL (S.cell b o) fun t=>
 asA x 193 3 fun t_1=>
 t_1.all (·.oneCell')=true ∧
 ap S 193 3 24 [.int .u64 0,.int .i64 0,.int .i64 0] t 1 t_1 fun t_2 Sx=>
 pt Sx b o 1 ([eL t_2]) fun Sx_1=>
 Q Sx_1
theorem zei {S:Mem} {r:Pt} {x:Value} {Q:Mem→Prop} (H:kN S r x Q):zfQ S r x Q:=by
 unfold kN at H
 exact Tr.intro func281 E ntmps281 E fun w0=>qc (by kernel_rfl)<|a_takeP 0 E (by decide +kernel) zc E (zt E)<|by exact a_takeP 1 E (by decide +kernel) zc E (zt E)<|by exact by obtain⟨b,o,rfl,H1⟩:=H;exact a_takeP 2 E (by decide +kernel) zc E (qt E)<|by exact gx H1 fun t ht H2=>qp 3 E (by decide +kernel) zc E (zF E) (qh ht)<|by exact a_takeP 4 E (by decide +kernel) zc E (zt E)<|by exact by obtain⟨t_1,rfl,ht_1,H3⟩:=H2;exact a_takeP 5 E (by decide +kernel) zc E (zgw E)<|by exact zH 6 (by decide +kernel) E<|by exact zkR E E (by decide) (zes (size:=3) E ht_1) fun b_1=>zu<|qf (zA (qh ht) zD)<|zH 7 (by decide +kernel) E<|by exact an H3 fun c H4=>zau (sx:=t) (vs:=t_1) E E E (zjE 0 E (ze ht_1)) ht_1 c (by decide) H4 fun t_2 Sx H5=>zu<|qf zD<|a_takeP 8 E (by decide +kernel) zc E (qt E)<|by exact zH 9 (by decide +kernel) E<|by exact an H5 fun c_1 H6=>qY E E E E E c_1 E<|zu<|qf zD<|qi (by decide +kernel)<|by exact ziG results281 (zg) ⟨E,H6⟩
def kM (S:Mem) (r:Sl) (i:Int) (j:Int) (Q:Mem→Prop):Prop:=
 sl r fun b o n n_1=>
 0≤j∧j<((n:Nat):Int) ∧
 gA (S.part b (o+j.toNat*3) 3) fun t=>
 0≤i∧i<((n:Nat):Int) ∧
 gA (S.part b (o+i.toNat*3) 3) fun t_1=>
 0≤i∧i<((n:Nat):Int) ∧
 t.all (·.oneCell')=true ∧
 pt S b (o+i.toNat*3) 3 t fun Sx=>
 0≤j∧j<((n:Nat):Int) ∧
 t_1.all (·.oneCell')=true ∧
 pt Sx b (o+j.toNat*3) 3 t_1 fun Sx_1=>
 Q Sx_1
theorem zeh {S:Mem} {r:Sl} {i:Int} {j:Int} {Q:Mem→Prop} (H:kM S r i j Q):zbs S r i j Q:=by
 unfold kM at H
 exact Tr.intro func271 E ntmps271 E fun w0=>go results271 H
def zN (S:Mem) (s:Sl) (del:Value) (Q:Sl→Mem→Prop):Prop:=
 zW S s del fun t Sx=>
 jn (fun (Sx_1:Mem)=>
 jn (fun (i:Int) (Sx_2:Mem)=>
 (0:Int)≤i∧(i:Int)≤(s.n:Int)∧(s.n:Int)≤(s.c:Int) ∧
 lt (slc 3 s i (s.n:Int)) fun t_1=>
 clr Sx_2 3 [.int .u64 0,.int .i64 0,.int .i64 0] t_1 fun Sx_3=>
 (0:Int)≤i∧i≤(s.c:Int) ∧
 lt (slc 3 s 0 i) fun t_2=>
 Q t_2 Sx_3) fun Jx=>
 lp (fun Xx (z:Int×Int) (Sx_4:Mem)=>
 match z with
 | (i_1,j)=>
 jn (fun (Sx_5:Mem)=>
 sl s fun b o n n_1=>
 0≤j∧j<((n:Nat):Int) ∧
 gA (Sx_5.part b (o+j.toNat*3) 3) fun t_3=>
 t_3.all (·.oneCell')=true ∧
 cv prog Sx_5 del [valL t_3] fun rv Sx_6=>∃ t_4:Bool,rv=.bool t_4∧
 if t_4=true then
 Xx (i_1,IntKind.i64.wrap (j+1)) Sx_6
 else
 0≤i_1∧i_1<((n:Nat):Int) ∧
 t_3.all (·.oneCell')=true ∧
 pt Sx_6 b (o+i_1.toNat*3) 3 t_3 fun Sx_7=>
 Xx (IntKind.i64.wrap (i_1+1),IntKind.i64.wrap (j+1)) Sx_7) fun Jx_1=>
 if j<(s.n:Int) then
 Jx_1 Sx_4
 else
 Jx i_1 Sx_4) (t,IntKind.i64.wrap (t+1)) Sx_1) fun Jx_2=>
 if t=(-1) then
 Q s Sx
 else
 Jx_2 Sx
theorem qD {S:Mem} {s:Sl} {del:Value} {Q:Sl→Mem→Prop} (H:zN S s del Q):zT S s del Q:=by
 unfold zN at H
 have:=dj0 (α:=Int×Unit) 12 [0] (fun z=>[(5,.int .i64 z.1)])
 have:=dj0 (α:=Int×Int) 6 [0,1] (fun z=>[(5,.int .i64 z.1),(6,.int .i64 z.2)])
 have:=dj1 8 [0,1,5,6]
 have:=dj1 5 [0,1,5]
 exact Tr.intro func216 E ntmps216 E fun w0=>go results216 H
def zP (S:Mem) (s:Sl) (f:Value) (Q:Int→Mem→Prop):Prop:=
 jn (fun (Sx:Mem)=>
 Q (-1) Sx) fun Jx=>
 lp (fun Xx (t:Int) (Sx_1:Mem)=>
 if t<(s.n:Int) then
 sl s fun b o n n_1=>
 0≤t∧t<((n:Nat):Int) ∧
 gA (Sx_1.part b (o+t.toNat*3) 3) fun t_1=>
 cv prog Sx_1 f [valL t_1] fun rv Sx_2=>∃ t_2:Bool,rv=.bool t_2∧
 if t_2=true then
 Q t Sx_2
 else
 Xx (IntKind.i64.wrap (t+1)) Sx_2
 else
 Jx Sx_1) 0 S
theorem qG {S:Mem} {s:Sl} {f:Value} {Q:Int→Mem→Prop} (H:zP S s f Q):zW S s f Q:=by
 unfold zP at H
 have:=dj1 8 []
 have:=dj0 (α:=Int) 3 [0,1,7] (fun z=>[(8,.int .i64 z)])
 exact Tr.intro func235 E ntmps235 E fun w0=>go results235 H
end
end Go.Proofs.YtabdpmnhjlmnlaaGreatDoor
namespace Go.Pt
section
open Go Go.RowKit
theorem qo {S:Mem} {b o:Nat} {k:Blk} (h:S b=some k):S.cell b o=nthL k.cs o:=by simp[Mem.cell,h]
theorem yh {S:Mem} {b o n:Nat} {k:Blk} (h:S b=some k):S.part b o n=lpart k.cs o n:=by simp[Mem.part,h]
theorem kR {S:Mem} {b o:Nat} {vs:List Value} {k:Blk} (h:S b=some k):S.put b o vs=S.set b ⟨k.ty,spl k.cs o vs,k.fr⟩:=by
 funext x;simp only[Mem.put,Mem.set,h,Option.map_some]
@[simp] theorem zy {S:Mem} {b:Nat} {k:Blk}:(S.set b k) b=some k:=by simp[Mem.set]
theorem qe {S:Mem} {b c:Nat} {k:Blk} (h:c≠b):(S.set b k) c=S c:=by simp[Mem.set,h]
@[simp] theorem set_set {S:Mem} {b:Nat} {k k':Blk}:(S.set b k).set b k'=S.set b k':=by
 funext x;simp only[Mem.set];split <;> rfl
theorem zcu {S:Mem} {b:Nat} {k:Blk} (h:S b=some k):S.set b k=S:=by
 funext x;simp only[Mem.set];split
 ·rename_i hx;rw[hx,h]
 ·rfl
theorem zkS {S:Mem} {b o n t:Nat} {vs cs:List Value} {K:Mem→Prop} (h:S b=some (bw t cs)) (hf:o+n≤cs.length) (hK:K (S.set b (bw t (spl cs o vs)))):pt S b o n vs K:=
 ⟨⟨_,h,rfl,hf⟩,by rw[kR h];exact hK⟩
def Keeps (S S':Mem) (W:List Nat):Prop:=∀ x,S x≠none→x∉W→S' x=S x
theorem Keeps.refl {S:Mem} {W:List Nat}:Keeps S S W:=fun _ _ _=>rfl
theorem Keeps.trans {S S' S'':Mem} {W:List Nat} (h:Keeps S S' W) (h':Keeps S' S'' W):Keeps S S'' W:=fun x hx hw=>by
 have e:=h x hx hw
 rw[h' x (by rw[e];exact hx) hw,e]
theorem Keeps.wider {S S':Mem} {W W':List Nat} (h:Keeps S S' W) (hw:∀ x∈W,x∈W'):Keeps S S' W':=fun x hx h2=>h x hx fun h3=>h2 (hw x h3)
theorem Keeps.set {S S':Mem} {W:List Nat} (h:Keeps S S' W) {b:Nat} {k:Blk} (hb:b∈W):Keeps S (S'.set b k) W:=fun x hx hw=>by
 rw[qe (fun e=>hw (by rw[e];exact hb))];exact h x hx hw
theorem Keeps.new {S S':Mem} {W:List Nat} (h:Keeps S S' W) {b:Nat} {k:Blk} (hb:S' b=none):Keeps S (S'.set b k) W:=fun x hx hw=>by
 have e:=h x hx hw
 rw[qe (fun hxb=>by rw[←hxb,e] at hb;exact hx hb)];exact e
theorem Keeps.get {S S':Mem} {W:List Nat} (h:Keeps S S' W) {b:Nat} {k:Blk} (hb:S b=some k) (hw:b∉W):S' b=some k:=by
 rw[h b (by rw[hb];simp) hw,hb]
theorem w64 {x:Int} (h1 : -9223372036854775808≤x) (h2:x≤9223372036854775807):IntKind.i64.wrap x=x:=zgx (k:=.i64) ⟨h1,h2⟩
theorem wu64 {x:Int} (h1:0≤x) (h2:x≤18446744073709551615):IntKind.u64.wrap x=x:=zgx (k:=.u64) ⟨h1,h2⟩
theorem wu32 {x:Int} (h1:0≤x) (h2:x≤4294967295):IntKind.u32.wrap x=x:=zgx (k:=.u32) ⟨h1,h2⟩
theorem wu8 {x:Int} (h1:0≤x) (h2:x≤255):IntKind.u8.wrap x=x:=zgx (k:=.u8) ⟨h1,h2⟩
theorem td {a b:Int} (h:0≤a):Int.tdiv a b=a/b:=Int.tdiv_eq_ediv_of_nonneg h
theorem tm {a b:Int} (h:0≤a):Int.tmod a b=a%b:=Int.tmod_eq_emod_of_nonneg h
theorem Keeps.fresh {S S':Mem} {W:List Nat} (h:Keeps S S' W) {b:Nat} {k:Blk} (hb:S b=none):Keeps S (S'.set b k) W:=fun x hx hw=>by
 rw[qe (fun e=>by rw[e] at hx;exact hx hb)];exact h x hx hw
theorem zmL {cs vs:List Value} {o:Nat} (h:o+vs.length≤cs.length):(spl cs o vs).take (o+vs.length)=cs.take o++vs:=by
 rw[xD _ _ _ (by omega),List.take_left']
 simp;omega
structure Row (S:Mem) (size:Nat) (s:Sl) (l:List Value):Prop where
 len:l.length=s.n*size
 cap:s.n≤s.c
 lie:(s.p=none∧s.c=0)∨∃ b k,s.p=some (b,0)∧S b=some k∧k.fr=(0,0)∧k.cs.length=s.c*size∧k.cs.take (s.n*size)=l
theorem Row.nil {S:Mem} {size:Nat}:Row S size ⟨none,0,0⟩ []:=⟨by simp,by simp,.inl ⟨rfl,rfl⟩⟩
theorem Row.part {S:Mem} {size:Nat} {s:Sl} {l:List Value} (h:Row S size s l) {b:Nat} (hp:s.p=some (b,0)):S.part b 0 (s.n*size)=some l:=by
 rcases h.lie with ⟨h1,_⟩ | ⟨b',k,h1,h2,hfr,h3,h4⟩
 ·rw[h1] at hp;cases hp
 ·rw[h1] at hp;cases hp
  rw[yh h2,qA (by rw[h3,Nat.zero_add];exact Nat.mul_le_mul_right _ h.cap)]
  simpa using h4
theorem Row.keep {S S':Mem} {size:Nat} {s:Sl} {l:List Value} (h:Row S size s l) (hk:∀ b,s.p=some (b,0)→S' b=S b):Row S' size s l:=by
 refine⟨h.len,h.cap,?_⟩
 rcases h.lie with h1 | ⟨b,k,h1,h2,h3⟩
 ·exact .inl h1
 ·exact .inr ⟨b,k,h1,by rw[hk b h1];exact h2,h3⟩
theorem jR {S:Mem} {e size bytes m:Nat} {z l vs:List Value} {s:Sl} {K:Sl→Mem→Prop} (h:Row S size s l) (hv:vs.length=m*size) (hm:0<m) (hz:z.length=size) (lim:(2*(s.n+m)+1024)*bytes≤281474976710656)
  (hK:∀ (s':Sl) (S':Mem) (b:Nat) (k:Blk),s'.n=s.n+m→s'.p=some (b,0)→(s.p=some (b,0)∨S b=none)→S'=S.set b k→Row S' size s' (l++vs)→K s' S'):ap S e size bytes z s m vs K:=by
 refine⟨lim,fun hc=>?_,fun hc=>?_⟩
 ·rcases h.lie with ⟨h1,h2⟩ | ⟨b,k,h1,h2,hfr,h3,h4⟩
  ·omega
  ·have hfit:0+s.n*size+m*size≤k.cs.length:=by
    rw[h3,Nat.zero_add,←Nat.add_mul];exact Nat.mul_le_mul_right _ hc
   refine .inr ⟨b,0,h1,⟨k,h2,hfr,hfit⟩,?_⟩
   refine hK _ _ b ⟨k.ty,spl k.cs (0+s.n*size) vs,k.fr⟩ rfl h1 (.inl h1) (kR h2) ⟨by simp[h.len,hv,Nat.add_mul],hc,.inr ⟨b,⟨k.ty,spl k.cs (0+s.n*size) vs,k.fr⟩,h1,by rw[kR h2,zy],hfr,?_,?_⟩⟩
   ·simp only;rw[zS (by rw[hv];exact hfit)];exact h3
   ·simp only
    rw[Nat.zero_add,Nat.add_mul,←hv,zmL (by rw[hv];omega),h4]
 ·refine⟨l,?_,fun b c hb h1 h2=>?_⟩
  ·rcases h.lie with ⟨h1,h2⟩ | ⟨b,k,h1,h2,hfr,h3,h4⟩
   ·have h0:s.n=0:=by have:=h.cap;omega
    exact .inl ⟨h1,h0,List.length_eq_zero_iff.1 (by rw[h.len,h0,Nat.zero_mul])⟩
   ·exact .inr ⟨b,0,h1,h.part h1⟩
  ·refine hK _ _ b _ rfl rfl (.inr hb) rfl ⟨by simp[h.len,hv,Nat.add_mul],h1,.inr ⟨b,_,rfl,zy,rfl,?_,?_⟩⟩
   ·simp only[List.length_append,h.len,hv,ja,hz]
    rw[←Nat.add_mul,←Nat.add_mul];congr 1;omega
   ·simp only
    rw[List.take_left' (by simp[h.len,hv,Nat.add_mul])]
end
end Go.Pt
namespace Go.Hp
section
section
variable {α:Type} [Inhabited α]
def gt (l:List α) (i:Nat):α:=l.getD i default
def sw (l:List α) (i j:Nat):List α:=(l.set i (gt l j)).set j (gt l i)
theorem zgW {l:List α} {i:Nat} (h:i<l.length):gt l i=l[i]:=by simp[gt,h]
theorem zeQ (l:List α) (i j:Nat):(sw l i j).length=l.length:=by simp[sw]
theorem znO {l:List α} {i k:Nat} {a:α} (h:i<l.length):gt (l.set i a) k=if k=i then a else gt l k:=by
 simp only[gt,List.getD_eq_getElem?_getD,List.getElem?_set]
 by_cases e:i=k
 ·subst e;simp[h]
 ·rw[if_neg e,if_neg (fun h=>e h.symm)]
theorem zdl {l:List α} {i j k:Nat} (hi:i<l.length) (hj:j<l.length):gt (sw l i j) k=if k=j then gt l i else if k=i then gt l j else gt l k:=by
 rw[sw,znO (by simpa using hj),znO hi]
theorem zeP {l:List α} {i j:Nat} (hi:i<l.length) (hj:j<l.length):(sw l i j).Perm l:=by
 rw[sw,zgW hi,zgW hj];exact List.set_set_perm hi hj
structure Ord (lt:α→α→Bool):Prop where
 asym:∀ a b,lt a b=true→lt b a=false
 trans:∀ a b c,lt b a=false→lt c b=false→lt c a=false
variable {lt:α→α→Bool}
def HpF (lt:α→α→Bool) (l:List α) (n lo:Nat):Prop:=∀ k,0<k→k<n→lo≤(k-1)/2→lt (gt l k) (gt l ((k-1)/2))=false
def Heap (lt:α→α→Bool) (l:List α):Prop:=HpF lt l l.length 0
structure Dn (lt:α→α→Bool) (l:List α) (n lo i:Nat):Prop where
 from_:lo≤i
 all:∀ k,0<k→k<n→lo≤(k-1)/2→(k-1)/2≠i→lt (gt l k) (gt l ((k-1)/2))=false
 over:lo<i→∀ k,0<k→k<n→(k-1)/2=i→lo≤(i-1)/2→lt (gt l k) (gt l ((i-1)/2))=false
theorem Dn.start {l:List α} {n lo:Nat} (h:HpF lt l n (lo+1)):Dn lt l n lo lo:=
 ⟨Nat.le_refl _,fun k h1 h2 h3 h4=>h k h1 h2 (by omega),fun h=>absurd h (Nat.lt_irrefl _)⟩
theorem Dn.leaf {l:List α} {n lo i:Nat} (h:Dn lt l n lo i) (hl:n≤2*i+1):HpF lt l n lo:=fun k h1 h2 h3=>h.all k h1 h2 h3 (by omega)
theorem Dn.stop (hO:Ord lt) {l:List α} {n lo i j:Nat} (h:Dn lt l n lo i) (hm:∀ k,k=2*i+1∨k=2*i+2→k<n→lt (gt l k) (gt l j)=false) (hs:lt (gt l j) (gt l i)=false):HpF lt l n lo:=fun k h1 h2 h3=>by
 by_cases e:(k-1)/2=i
 ·rw[e]
  exact hO.trans _ _ _ hs (hm k (by omega) h2)
 ·exact h.all k h1 h2 h3 e
theorem Dn.next (hO:Ord lt) {l:List α} {n lo i j:Nat} (h:Dn lt l n lo i) (hn:n≤l.length) (hjn:j<n) (hj:j=2*i+1∨j=2*i+2) (hm:∀ k,k=2*i+1∨k=2*i+2→k<n→lt (gt l k) (gt l j)=false) (hs:lt (gt l j) (gt l i)=true):Dn lt (sw l i j) n lo j:=by
 have hf:=h.from_
 have hi:i<l.length:=by omega
 have hj':j<l.length:=by omega
 have hji:(j-1)/2=i:=by omega
 refine⟨by omega,fun k h1 h2 h3 h4=>?_,fun _ k h1 h2 h3 _=>?_⟩
 ·rw[zdl hi hj',zdl hi hj']
  by_cases e1:k=j
  ·subst e1
   rw[if_pos rfl,if_neg (by omega),if_pos hji]
   exact hO.asym _ _ hs
  ·rw[if_neg e1]
   by_cases e2:k=i
   ·subst e2
    rw[if_pos rfl,if_neg (by omega),if_neg (by omega)]
    exact h.over (by omega) j (by omega) hjn hji h3
   ·rw[if_neg e2,if_neg h4]
    by_cases e3:(k-1)/2=i
    ·rw[if_pos e3];exact hm k (by omega) h2
    ·rw[if_neg e3];exact h.all k h1 h2 h3 e3
 ·rw[zdl hi hj',zdl hi hj',if_neg (by omega),if_neg (by omega),if_neg (by omega),if_pos hji]
  have:=h.all k h1 h2 (by omega) (by omega)
  rw[h3] at this
  exact this
structure Up (lt:α→α→Bool) (l:List α) (j:Nat):Prop where
 all:∀ k,0<k→k<l.length→k≠j→lt (gt l k) (gt l ((k-1)/2))=false
 over:0<j→∀ k,0<k→k<l.length→(k-1)/2=j→lt (gt l k) (gt l ((j-1)/2))=false
theorem zbq {l r:List α} {k:Nat} (h:k<l.length):gt (l++r) k=gt l k:=by simp[gt,List.getD_eq_getElem?_getD,List.getElem?_append_left h]
theorem Up.start {l:List α} {a:α} (h:Heap lt l):Up lt (l++[a]) l.length:=by
 refine⟨fun k h1 h2 h3=>?_,fun _ k h1 h2 h3=>?_⟩
 ·simp only[List.length_append,List.length_singleton] at h2
  rw[zbq (by omega),zbq (by omega)]
  exact h k h1 (by omega) (by omega)
 ·simp only[List.length_append,List.length_singleton] at h2;omega
theorem Up.top {l:List α} (h:Up lt l 0):Heap lt l:=fun k h1 h2 _=>h.all k h1 h2 (by omega)
theorem Up.stop {l:List α} {j:Nat} (h:Up lt l j) (hs:lt (gt l j) (gt l ((j-1)/2))=false):Heap lt l:=fun k h1 h2 _=>by
 by_cases e:k=j
 ·subst e;exact hs
 ·exact h.all k h1 h2 e
theorem Up.next (hO:Ord lt) {l:List α} {j:Nat} (h:Up lt l j) (h0:0<j) (hj:j<l.length) (hs:lt (gt l j) (gt l ((j-1)/2))=true):Up lt (sw l ((j-1)/2) j) ((j-1)/2):=by
 have hi:(j-1)/2<l.length:=by omega
 refine⟨fun k h1 h2 h3=>?_,fun hp k h1 h2 h3=>?_⟩
 ·rw[zeQ] at h2
  rw[zdl hi hj,zdl hi hj]
  by_cases e1:k=j
  ·subst e1
   rw[if_pos rfl,if_neg (by omega),if_pos rfl]
   exact hO.asym _ _ hs
  ·rw[if_neg e1,if_neg h3]
   by_cases e2:(k-1)/2=j
   ·rw[if_pos e2];exact h.over h0 k h1 h2 e2
   ·rw[if_neg e2]
    by_cases e3:(k-1)/2=(j-1)/2
    ·rw[if_pos e3]
     have:=h.all k h1 h2 e1
     rw[e3] at this
     exact hO.trans _ _ _ (hO.asym _ _ hs) this
    ·rw[if_neg e3];exact h.all k h1 h2 e1
 ·rw[zeQ] at h2
  rw[zdl hi hj,zdl hi hj]
  have hup:=h.all ((j-1)/2) hp hi (by omega)
  rw[if_neg (by omega:¬((j-1)/2-1)/2=j),if_neg (by omega:¬((j-1)/2-1)/2=(j-1)/2)]
  by_cases e1:k=j
  ·subst e1;rw[if_pos rfl];exact hup
  ·rw[if_neg e1,if_neg (by omega)]
   have:=h.all k h1 h2 e1
   rw[h3] at this
   exact hO.trans _ _ _ hup this
theorem Heap.least (hO:Ord lt) (hr:∀ a,lt a a=false) {l:List α} (h:Heap lt l):∀ k,k<l.length→lt (gt l k) (gt l 0)=false:=by
 intro k
 induction k using Nat.strongRecOn with
 | _ k ih=>
  intro hk
  by_cases h0:k=0
  ·subst h0;exact hr _
  ·exact hO.trans _ _ _ (ih ((k-1)/2) (by omega) (by omega)) (h k (by omega) hk (by omega))
theorem Heap.pop {l:List α} (h:Heap lt l) (h0:0<l.length):HpF lt (sw l 0 (l.length-1)) (l.length-1) 1:=fun k h1 h2 h3=>by
 rw[zdl h0 (by omega),zdl h0 (by omega),if_neg (by omega),if_neg (by omega),if_neg (by omega),if_neg (by omega)]
 exact h k h1 (by omega) (by omega)
theorem HpF.take {l:List α} {n:Nat} (h:HpF lt l n 0) (hn:n≤l.length):Heap lt (l.take n):=fun k h1 h2 _=>by
 rw[List.length_take,Nat.min_eq_left hn] at h2
 have e:∀ m,m<n→gt (l.take n) m=gt l m:=fun m hm=>by simp[gt,List.getD_eq_getElem?_getD,hm]
 rw[e k h2,e _ (by omega)]
 exact h k h1 h2 (by omega)
theorem HpF.leafs {l:List α} {n:Nat}:HpF lt l n (n/2):=fun k h1 h2 h3=>by omega
end
end
end Go.Hp
namespace Go.Pt
section
def Grows (S S':Mem):Prop:=∀ x,S x≠none→S' x≠none
theorem Grows.refl {S:Mem}:Grows S S:=fun _ h=>h
theorem Grows.trans {S S' S'':Mem} (h:Grows S S') (k:Grows S' S''):Grows S S'':=fun x hx=>k x (h x hx)
theorem Grows.set {S S':Mem} (h:Grows S S') {b:Nat} {k:Blk}:Grows S (S'.set b k):=fun x hx=>by
 by_cases e:x=b
 ·rw[e,zy];simp
 ·rw[qe e];exact h x hx
theorem Grows.keeps {S S':Mem} (h:Keeps S S' []):Grows S S':=fun x hx=>by rw[h x hx (by simp)];exact hx
end
end Go.Pt
