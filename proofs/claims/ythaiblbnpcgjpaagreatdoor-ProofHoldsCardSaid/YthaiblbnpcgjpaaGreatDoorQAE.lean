/- Texts of this work,joined by program (pack.py). -/
import Derived.Test.YthaiblbnpcgjpaaGreatDoorQAC
import Derived.Test.YthaiblbnpcgjpaaGreatDoorQAD
import Derived.Test.YthaiblbnpcgjpaaGreatDoorQAB
import Derived.Lib.TrailingZeros
set_option linter.unusedVariables false
namespace Go.Proofs.YthaiblbnpcgjpaaGreatDoor
section
open Go Go.Pt Go.Proofs.Tryz
attribute [local irreducible] lt WD WN Code.wp Back bodyPost wpList FR WL WC WQ WA AW Tr Yc HC AllC
set_option maxRecDepth 20000
set_option maxHeartbeats 4000000
def zad (S:Mem) (s:Pt) (n:Int) (Q:Int→Mem→Prop):Prop:=
 jn (fun (Sx:Mem)=>
 nn s fun b o=>
 gI (Sx.cell b (o+24)) .u32 fun t=>
 0≤n ∧
 pt Sx b (o+24) 1 ([.int .u32 (ior .u32 t (ishl .u32 1 n))]) fun Sx_1=>
 zcn Sx_1 (some (b,o)) fun Sx_2=>
 Q 0 Sx_2) fun Jx=>
 if s=none then
 Q 1 S
 else
 zcV S n fun t_1 Sx_3=>
 if t_1=true then
 nn s fun b_1 o_1=>
 gI (Sx_3.cell b_1 (o_1+23)) .u8 fun t_2=>
 if t_2=2 then
 Q 10 Sx_3
 else
 Jx Sx_3
 else
 Q 1 Sx_3
theorem zhh {S:Mem} {s:Pt} {n:Int} {Q:Int→Mem→Prop} (H:zad S s n Q):kG S s n Q:=by
 unfold zad at H
 have:=dj1 6 [0,1]
 exact Tr.intro func96 E ntmps96 E fun w0=>go results96 H
def jH (S:Mem) (n:Int) (Q:Bool→Mem→Prop):Prop:=
 if 0≤n then
 Q (decide (n<8)) S
 else
 Q false S
theorem zdu {S:Mem} {n:Int} {Q:Bool→Mem→Prop} (H:jH S n Q):zcV S n Q:=by
 unfold jH at H
 exact Tr.intro func147 E ntmps147 E fun w0=>go results147 H
def zbE (S:Mem) (s:Pt) (Q:Mem→Prop):Prop:=
 if s≠none then
 nn s fun b o=>
 gI (S.cell b (o+23)) .u8 fun t=>
 if t=1 then
 gI (S.cell b (o+24)) .u32 fun t_1=>
 gI (S.cell b (o+25)) .u32 fun t_2=>
 if iand .u32 t_1 t_2≠0 then
 pt S b (o+23) 1 ([.int .u8 0]) fun Sx=>
 Q Sx
 else
 Q S
 else
 Q S
 else
 Q S
theorem zir {S:Mem} {s:Pt} {Q:Mem→Prop} (H:zbE S s Q):zcn S s Q:=by
 unfold zbE at H
 exact Tr.intro func148 E ntmps148 E fun w0=>go results148 H
def zbF (S:Mem) (s:Pt) (Q:Int→Bool→Mem→Prop):Prop:=
 zfb S s fun t t_1 Sx=>
 if t_1=true then
 nn s fun b o=>
 gI (Sx.cell b (o+24)) .u32 fun t_2=>
 0≤t ∧
 pt Sx b (o+24) 1 ([.int .u32 (iandn .u32 t_2 (ishl .u32 1 t))]) fun Sx_1=>
 Q t true Sx_1
 else
 Q t false Sx
theorem zis {S:Mem} {s:Pt} {Q:Int→Bool→Mem→Prop} (H:zbF S s Q):zfa S s Q:=by
 unfold zbF at H
 exact Tr.intro func160 E ntmps160 E fun w0=>go results160 H
def zbG (S:Mem) (s:Pt) (Q:Int→Bool→Mem→Prop):Prop:=
 jn (fun (Sx:Mem)=>
 nn s fun b o=>
 gI (Sx.cell b (o+24)) .u32 fun t=>
 gI (Sx.cell b (o+25)) .u32 fun t_1=>
 zcw Sx (IntKind.u64.wrap (iand .u32 t t_1)) fun t_2 Sx_1=>
 Sx_1.cell b (o+25)=some (.int .u32 t_1) ∧
 Sx_1.cell b (o+24)=some (.int .u32 t) ∧
 Q t_2 true Sx_1) fun Jx=>
 if s=none then
 Q 0 false S
 else
 nn s fun b_1 o_1=>
 gB (S.cell b_1 (o_1+22)) fun t_3=>
 if t_3=true then
 gI (S.cell b_1 (o_1+24)) .u32 fun t_4=>
 gI (S.cell b_1 (o_1+25)) .u32 fun t_5=>
 if iand .u32 t_4 t_5=0 then
 Q 0 false S
 else
 Jx S
 else
 Q 0 false S
theorem zit {S:Mem} {s:Pt} {Q:Int→Bool→Mem→Prop} (H:zbG S s Q):zfb S s Q:=by
 unfold zbG at H
 have:=dj1 4 [0]
 exact Tr.intro func196 E ntmps196 E fun w0=>go results196 H
def zbA (S:Mem) (s:Pt) (cause:Int) (addr:Int) (Q:Mem→Prop):Prop:=
 jn (fun (Sx:Mem)=>
 jn (fun (Sx_1:Mem)=>
 nn s fun b o=>
 gI (Sx_1.cell b (o+16)) .u64 fun t=>
 gI (Sx_1.cell b (o+18)) .u64 fun t_1=>
 pt Sx_1 b (o+19) 1 ([.int .u64 t]) fun Sx_2=>
 pt Sx_2 b (o+20) 1 ([.int .u64 cause]) fun Sx_3=>
 pt Sx_3 b (o+21) 1 ([.int .u64 addr]) fun Sx_4=>
 pt Sx_4 b (o+16) 1 ([.int .u64 t_1]) fun Sx_5=>
 pt Sx_5 b (o+22) 1 ([.bool false]) fun Sx_6=>
 Q Sx_6) fun Jx=>
 nn s fun b_1 o_1=>
 gI (Sx.cell b_1 (o_1+18)) .u64 fun t_2=>
 if t_2=0 then
 pt Sx b_1 (o_1+23) 1 ([.int .u8 2]) fun Sx_7=>
 Q Sx_7
 else
 Jx Sx) fun Jx_1=>
 if s=none then
 Q S
 else
 Jx_1 S
theorem zin {S:Mem} {s:Pt} {cause:Int} {addr:Int} {Q:Mem→Prop} (H:zbA S s cause addr Q):zeL S s cause addr Q:=by
 unfold zbA at H
 have:=dj1 4 [0,1,2]
 have:=dj1 2 [0,1,2]
 exact Tr.intro func197 E ntmps197 E fun w0=>go results197 H
def zdn (S:Mem) (s:List Value) (n:Int) (time:Int) (me:Int) (Q:Int→Bool→Mem→Prop):Prop:=
 s.length=26 ∧
 jn (fun (Sx:Mem)=>
 Q 0 false Sx) fun Jx=>
 if n=0 then
 gI (nthL s 17) .u64 fun t=>
 Q t true S
 else
 if n=1 then
 gI (nthL s 18) .u64 fun t_1=>
 Q t_1 true S
 else
 if n=2 then
 gI (nthL s 19) .u64 fun t_2=>
 Q t_2 true S
 else
 if n=3 then
 gI (nthL s 20) .u64 fun t_3=>
 Q t_3 true S
 else
 if n=4 then
 gI (nthL s 21) .u64 fun t_4=>
 Q t_4 true S
 else
 if n=5 then
 gI (nthL s 25) .u32 fun t_5=>
 Q (IntKind.u64.wrap t_5) true S
 else
 if n=6 then
 gB (nthL s 22) fun t_6=>
 zcg S t_6 fun t_7 Sx_1=>
 Q t_7 true Sx_1
 else
 if n=7 then
 Q time true S
 else
 if n=8 then
 Q (IntKind.u64.wrap me) true S
 else
 Jx S
theorem zjY {S:Mem} {s:List Value} {n:Int} {time:Int} {me:Int} {Q:Int→Bool→Mem→Prop} (H:zdn S s n time me Q):zgy S s n time me Q:=by
 unfold zdn at H
 have:=dj1 21 []
 exact Tr.intro func203 E ntmps203 E fun w0=>go results203 H
def zdl (S:Mem) (s:Pt) (n:Int) (v:Int) (Q:Bool→Mem→Prop):Prop:=
 jn (fun (Sx:Mem)=>
 jn (fun (Sx_1:Mem)=>
 Q true Sx_1) fun Jx=>
 if n=0 then
 nn s fun b o=>
 pt Sx b (o+17) 1 ([.int .u64 v]) fun Sx_2=>
 Jx Sx_2
 else
 if n=1 then
 nn s fun b_1 o_1=>
 pt Sx b_1 (o_1+18) 1 ([.int .u64 v]) fun Sx_3=>
 Jx Sx_3
 else
 if n=2 then
 nn s fun b_2 o_2=>
 pt Sx b_2 (o_2+19) 1 ([.int .u64 v]) fun Sx_4=>
 Jx Sx_4
 else
 if n=3 then
 nn s fun b_3 o_3=>
 pt Sx b_3 (o_3+20) 1 ([.int .u64 v]) fun Sx_5=>
 Jx Sx_5
 else
 if n=4 then
 nn s fun b_4 o_4=>
 pt Sx b_4 (o_4+21) 1 ([.int .u64 v]) fun Sx_6=>
 Jx Sx_6
 else
 if n=5 then
 nn s fun b_5 o_5=>
 pt Sx b_5 (o_5+25) 1 ([.int .u32 (IntKind.u32.wrap (iand .u64 v 255))]) fun Sx_7=>
 Jx Sx_7
 else
 if n=6 then
 nn s fun b_6 o_6=>
 pt Sx b_6 (o_6+22) 1 ([.bool (decide (iand .u64 v 1=1))]) fun Sx_8=>
 Jx Sx_8
 else
 Q false Sx) fun Jx_1=>
 if s=none then
 Q false S
 else
 Jx_1 S
theorem zjW {S:Mem} {s:Pt} {n:Int} {v:Int} {Q:Bool→Mem→Prop} (H:zdl S s n v Q):zgx S s n v Q:=by
 unfold zdl at H
 have:=dj1 20 []
 have:=dj1 4 [0,1,2]
 exact Tr.intro func204 E ntmps204 E fun w0=>go results204 H
def zbC (S:Mem) (s:Pt) (Q:Mem→Prop):Prop:=
 if s≠none then
 nn s fun b o=>
 gI (S.cell b (o+19)) .u64 fun t=>
 pt S b (o+16) 1 ([.int .u64 t]) fun Sx=>
 pt Sx b (o+22) 1 ([.bool true]) fun Sx_1=>
 Q Sx_1
 else
 Q S
theorem zip {S:Mem} {s:Pt} {Q:Mem→Prop} (H:zbC S s Q):zeN S s Q:=by
 unfold zbC at H
 exact Tr.intro func205 E ntmps205 E fun w0=>go results205 H
def zbz (S:Mem) (onx:Bool) (Q:Int→Mem→Prop):Prop:=
 if onx=true then
 Q 1 S
 else
 Q 0 S
theorem zim {S:Mem} {onx:Bool} {Q:Int→Mem→Prop} (H:zbz S onx Q):zcg S onx Q:=by
 unfold zbz at H
 exact Tr.intro func136 E ntmps136 E fun w0=>go results136 H
def fY (S:Mem) (w:Int) (Q:Int→Mem→Prop):Prop:=
 kw S w fun t Sx=>
 Q t Sx
theorem zhd {S:Mem} {w:Int} {Q:Int→Mem→Prop} (H:fY S w Q):zcw S w Q:=by
 unfold fY at H
 exact Tr.intro func229 E ntmps229 E fun w0=>go results229 H
def yK (S:Mem) (x:Int) (Q:Int→Mem→Prop):Prop:=
 if x=0 then
 Q 64 S
 else
 0≤ishr .u64 (IntKind.u64.wrap ((iand .u64 x (IntKind.u64.wrap (0-x)))*285870213051353865)) 58∧ishr .u64 (IntKind.u64.wrap ((iand .u64 x (IntKind.u64.wrap (0-x)))*285870213051353865)) 58<64 ∧
 gI (S.cell 0 (0+(ishr .u64 (IntKind.u64.wrap ((iand .u64 x (IntKind.u64.wrap (0-x)))*285870213051353865)) 58).toNat*1)) .u8 fun t=>
 Q (IntKind.i64.wrap t) S
theorem fm {S:Mem} {x:Int} {Q:Int→Mem→Prop} (H:yK S x Q):kw S x Q:=by
 unfold yK at H
 exact Tr.intro func244 E ntmps244 E fun w0=>go results244 H
def zah (S:Mem) (x:Int) (y:Int) (Q:Int→Int→Mem→Prop):Prop:=
 Q (IntKind.u64.wrap ((IntKind.u64.wrap ((IntKind.u64.wrap ((ishr .u64 x 32)*(ishr .u64 y 32)))+(ishr .u64 (IntKind.u64.wrap ((IntKind.u64.wrap ((ishr .u64 x 32)*(iand .u64 y 4294967295)))+(ishr .u64 (IntKind.u64.wrap ((iand .u64 x 4294967295)*(iand .u64 y 4294967295))) 32))) 32)))+(ishr .u64 (IntKind.u64.wrap ((iand .u64 (IntKind.u64.wrap ((IntKind.u64.wrap ((ishr .u64 x 32)*(iand .u64 y 4294967295)))+(ishr .u64 (IntKind.u64.wrap ((iand .u64 x 4294967295)*(iand .u64 y 4294967295))) 32))) 4294967295)+(IntKind.u64.wrap ((iand .u64 x 4294967295)*(ishr .u64 y 32))))) 32))) (IntKind.u64.wrap (x*y)) S
theorem zhm {S:Mem} {x:Int} {y:Int} {Q:Int→Int→Mem→Prop} (H:zah S x y Q):zdi S x y Q:=by
 unfold zah at H
 exact Tr.intro func231 E ntmps231 E fun w0=>go results231 H
def xS (S:Mem) (x:Int) (k:Int) (Q:Int→Mem→Prop):Prop:=
 0≤iand .u64 (IntKind.u64.wrap k) 63 ∧
 0≤IntKind.u64.wrap (64-(iand .u64 (IntKind.u64.wrap k) 63)) ∧
 Q (ior .u64 (ishl .u64 x (iand .u64 (IntKind.u64.wrap k) 63)) (ishr .u64 x (IntKind.u64.wrap (64-(iand .u64 (IntKind.u64.wrap k) 63))))) S
theorem zbj {S:Mem} {x:Int} {k:Int} {Q:Int→Mem→Prop} (H:xS S x k Q):vd S x k Q:=by
 unfold xS at H
 exact Tr.intro func232 E ntmps232 E fun w0=>go results232 H
def zdj (S:Mem) (sum:Int) (w:Int) (Q:Int→Mem→Prop):Prop:=
 zdi S (ixor .u64 sum w) 11400714819323198485 fun t t_1 Sx=>
 vd Sx t 17 fun t_2 Sx_1=>
 Q (ixor .u64 t_2 t_1) Sx_1
theorem zjU {S:Mem} {sum:Int} {w:Int} {Q:Int→Mem→Prop} (H:zdj S sum w Q):zec S sum w Q:=by
 unfold zdj at H
 exact Tr.intro func207 E ntmps207 E fun w0=>go results207 H
def zbB (S:Mem) (s:List Value) (Q:Sl→Mem→Prop):Prop:=
 s.length=26 ∧
 al S 66 s fun b Sx=>
 sp Sx ⟨some (b,0),16,16⟩ 1 fun vs=>
 ap Sx 43 1 8 [.int .u64 0] (⟨none,0,0⟩) 16 vs fun t Sx_1=>
 gI (Sx_1.cell b 16) .u64 fun t_1=>
 gI (Sx_1.cell b 17) .u64 fun t_2=>
 gI (Sx_1.cell b 18) .u64 fun t_3=>
 gI (Sx_1.cell b 19) .u64 fun t_4=>
 gI (Sx_1.cell b 20) .u64 fun t_5=>
 gI (Sx_1.cell b 21) .u64 fun t_6=>
 gB (Sx_1.cell b 22) fun t_7=>
 gI (Sx_1.cell b 23) .u8 fun t_8=>
 gI (Sx_1.cell b 24) .u32 fun t_9=>
 gI (Sx_1.cell b 25) .u32 fun t_10=>
 zcg Sx_1 t_7 fun t_11 Sx_2=>
 Sx_2.cell b 25=some (.int .u32 t_10) ∧
 Sx_2.cell b 24=some (.int .u32 t_9) ∧
 Sx_2.cell b 23=some (.int .u8 t_8) ∧
 Sx_2.cell b 21=some (.int .u64 t_6) ∧
 Sx_2.cell b 20=some (.int .u64 t_5) ∧
 Sx_2.cell b 19=some (.int .u64 t_4) ∧
 Sx_2.cell b 18=some (.int .u64 t_3) ∧
 Sx_2.cell b 17=some (.int .u64 t_2) ∧
 Sx_2.cell b 16=some (.int .u64 t_1) ∧
 ap Sx_2 43 1 8 [.int .u64 0] t 10 ([.int .u64 t_1,.int .u64 t_2,.int .u64 t_3,.int .u64 t_4,.int .u64 t_5,.int .u64 t_6,.int .u64 t_11,.int .u64 (IntKind.u64.wrap t_8),.int .u64 (IntKind.u64.wrap t_9),.int .u64 (IntKind.u64.wrap t_10)]) fun t_12 Sx_3=>
 Sx_3.cell b 25=some (.int .u32 t_10) ∧
 Sx_3.cell b 24=some (.int .u32 t_9) ∧
 Sx_3.cell b 23=some (.int .u8 t_8) ∧
 Q t_12 Sx_3
theorem zio {S:Mem} {s:List Value} {Q:Sl→Mem→Prop} (H:zbB S s Q):zeM S s Q:=by
 unfold zbB at H
 exact Tr.intro func79 E ntmps79 E fun w0=>an H fun hs H1=>csr<|jM E E E fun b=>zmR 0 E fun hb=>have H2:=H1 b hb;gv E E<|nxr<|s_p E (zA E E)<|s_p E (znK E)<|by obtain⟨vs,h,c,H3⟩:=H2;exact gf (sx:=⟨none,0,0⟩) (vs:=vs) E E E ((zbq h).1) ((zbq (P:=prog) (w0:=w0) (S0:=S) (V:=[]) h).2) c (by decide) H3 fun t Sx_1 H4=>gv E E<|nx<|qb<|qa (by kernel_rfl)<|aTP 0 E (by decide +kernel) E (zp E)<|by exact aTP 1 E (by decide +kernel) E (zA E E)<|by exact gx H4 fun t_1 ht_1 H5=>aT 2 E (by decide +kernel) E (zG E) (qh ht_1)<|by exact aTP 3 E (by decide +kernel) E (zA E E)<|by exact gx H5 fun t_2 ht_2 H6=>aT 4 E (by decide +kernel) E (zG E) (qh ht_2)<|by exact aTP 5 E (by decide +kernel) E (zA E E)<|by exact gx H6 fun t_3 ht_3 H7=>aT 6 E (by decide +kernel) E (zG E) (qh ht_3)<|by exact aTP 7 E (by decide +kernel) E (zA E E)<|by exact gx H7 fun t_4 ht_4 H8=>aT 8 E (by decide +kernel) E (zG E) (qh ht_4)<|by exact aTP 9 E (by decide +kernel) E (zA E E)<|by exact gx H8 fun t_5 ht_5 H9=>aT 10 E (by decide +kernel) E (zG E) (qh ht_5)<|by exact aTP 11 E (by decide +kernel) E (zA E E)<|by exact gx H9 fun t_6 ht_6 H10=>aT 12 E (by decide +kernel) E (zG E) (qh ht_6)<|by exact aTP 13 E (by decide +kernel) E (zA E E)<|by exact gx H10 fun t_7 ht_7 H11=>aT 14 E (by decide +kernel) E (zG E) (qh ht_7)<|by exact aTP 16 E (by decide +kernel) E (zA E E)<|by exact gx H11 fun t_8 ht_8 H12=>aT 17 E (by decide +kernel) E (zG E) (qh ht_8)<|by exact aTP 18 E (by decide +kernel) E (jy ⟨_,underlying5⟩ E)<|by exact aTP 19 E (by decide +kernel) E (zA E E)<|by exact gx H12 fun t_9 ht_9 H13=>aT 20 E (by decide +kernel) E (zG E) (qh ht_9)<|by exact aTP 21 E (by decide +kernel) E (jy ⟨_,underlying45⟩ E)<|by exact aTP 22 E (by decide +kernel) E (zA E E)<|by exact gx H13 fun t_10 ht_10 H14=>aT 23 E (by decide +kernel) E (zG E) (qh ht_10)<|by exact aTP 24 E (by decide +kernel) E (jy ⟨_,underlying45⟩ E)<|by exact zw 15 (by decide +kernel) E<|by exact kq E E H14 fun t_11 Sx_2 H15=>by obtain⟨k,H16⟩:=H15;exact by obtain⟨k_1,H17⟩:=H16;exact by obtain⟨k_2,H18⟩:=H17;exact by obtain⟨k_3,H19⟩:=H18;exact by obtain⟨k_4,H20⟩:=H19;exact by obtain⟨k_5,H21⟩:=H20;exact by obtain⟨k_6,H22⟩:=H21;exact by obtain⟨k_7,H23⟩:=H22;exact by obtain⟨k_8,H24⟩:=H23;exact zr<|zH (zj (qh k) (zj (qh k_1) (zj (qh k_2) (zj (qh k_3) (zj (qh k_4) (zj (qh k_5) (zj (qh k_6) (zj (qh k_7) (zj (qh k_8) zq)))))))))<|zw 25 (by decide +kernel) E<|by exact zjr E E (by decide) E fun b_1=>zr<|zH (zj (qh k) (zj (qh k_1) (zj (qh k_2) zq)))<|zw 26 (by decide +kernel) E<|by exact gf (sx:=t) (vs:=[.int .u64 t_1,.int .u64 t_2,.int .u64 t_3,.int .u64 t_4,.int .u64 t_5,.int .u64 t_6,.int .u64 t_11,.int .u64 (IntKind.u64.wrap t_8),.int .u64 (IntKind.u64.wrap t_9),.int .u64 (IntKind.u64.wrap t_10)]) E E E (zgS 0 E E) E E (by decide) H24 fun t_12 Sx_3 H25=>by obtain⟨k_9,H26⟩:=H25;exact by obtain⟨k_10,H27⟩:=H26;exact by obtain⟨k_11,H28⟩:=H27;exact zr<|zH (zj (qh k_9) (zj (qh k_10) (zj (qh k_11) zq)))<|aTP 27 E (by decide +kernel) E (zT E)<|by exact zW (by decide +kernel)<|by exact zB<|zu<|zt results79 (zf E zi) ⟨_,E,H28⟩
def zdk (S:Mem) (s:List Value) (Q:Int→Mem→Prop):Prop:=
 s.length=26 ∧
 jn (fun (n:Int) (Sx:Mem)=>
 Q n Sx) fun Jx=>
 zeM S s fun t Sx_1=>
 lp (fun Xx (z:Int×Int) (Sx_2:Mem)=>
 match z with
 | (n_1,t_1)=>
 if t_1<(t.n:Int) then
 sl t fun b_1 o n_2 n_3=>
 0≤t_1∧t_1<((n_2:Nat):Int) ∧
 gI (Sx_2.cell b_1 (o+t_1.toNat*1)) .u64 fun t_2=>
 zec Sx_2 n_1 t_2 fun t_3 Sx_3=>
 Xx (t_3,IntKind.i64.wrap (t_1+1)) Sx_3
 else
 Jx n_1 Sx_2) (0,0) Sx_1
theorem zjV {S:Mem} {s:List Value} {Q:Int→Mem→Prop} (H:zdk S s Q):zgw S s Q:=by
 unfold zdk at H
 have:=dj0 (α:=Int×Unit) 8 [] (fun z=>[(3,.int .u64 z.1)])
 have:=dj0 (α:=Int×Int) 4 [7,8] (fun z=>[(3,.int .u64 z.1),(9,.int .i64 z.2)])
 exact Tr.intro func165 E ntmps165 E fun w0=>go results165 H
def zfq (S:Mem) (p:Sl) (Q:Int→Mem→Prop):Prop:=
 jn (fun (w:Int) (Sx:Mem)=>
 Q w Sx) fun Jx=>
 lp (fun Xx (z:Int×Int) (Sx_1:Mem)=>
 match z with
 | (w_1,t)=>
 if t<(p.n:Int) then
 sl p fun b o n n_1=>
 0≤t∧t<((n:Nat):Int) ∧
 gI (Sx_1.cell b (o+t.toNat*1)) .u8 fun t_1=>
 if t<8 then
 0≤IntKind.i64.wrap (8*t) ∧
 Xx (ior .u64 w_1 (ishl .u64 (IntKind.u64.wrap t_1) (IntKind.i64.wrap (8*t))),IntKind.i64.wrap (t+1)) Sx_1
 else
 Xx (w_1,IntKind.i64.wrap (t+1)) Sx_1
 else
 Jx w_1 Sx_1) (0,0) S
theorem zli {S:Mem} {p:Sl} {Q:Int→Mem→Prop} (H:zfq S p Q):zen S p Q:=by
 unfold zfq at H
 have:=dj0 (α:=Int×Unit) 9 [] (fun z=>[(3,.int .u64 z.1)])
 have:=dj0 (α:=Int×Int) 4 [6,7] (fun z=>[(3,.int .u64 z.1),(8,.int .i64 z.2)])
 exact Tr.intro func72 E ntmps72 E fun w0=>go results72 H
def fZ (S:Mem) (w:Int) (Q:Sl→Mem→Prop):Prop:=
 al S 5 ([.int .u8 0,.int .u8 0,.int .u8 0,.int .u8 0,.int .u8 0,.int .u8 0,.int .u8 0,.int .u8 0]) fun b Sx=>
 jn (fun (Sx_1:Mem)=>
 Q (⟨some (b,0),8,8⟩) Sx_1) fun Jx=>
 lp (fun Xx (t:Int) (Sx_2:Mem)=>
 if t<8 then
 0≤IntKind.i64.wrap (8*t) ∧
 0≤t∧t<8 ∧
 pt Sx_2 b (0+t.toNat*1) 1 ([.int .u8 (IntKind.u8.wrap (ishr .u64 w (IntKind.i64.wrap (8*t))))]) fun Sx_3=>
 Xx (IntKind.i64.wrap (t+1)) Sx_3
 else
 Jx Sx_2) 0 Sx
theorem zhe {S:Mem} {w:Int} {Q:Sl→Mem→Prop} (H:fZ S w Q):zal S w Q:=by
 unfold fZ at H
 have:=dj1 8 [3]
 have:=dj0 (α:=Int) 4 [0,3,7] (fun z=>[(8,.int .i64 z)])
 exact Tr.intro func73 E ntmps73 E fun w0=>go results73 H
end
end Go.Proofs.YthaiblbnpcgjpaaGreatDoor
namespace Go.Pt
section
open Go Go.RowKit
theorem qj {S:Mem} {b o:Nat} {k:Blk} (h:S b=some k):S.cell b o=nthL k.cs o:=by simp[Mem.cell,h]
theorem yp {S:Mem} {b o n:Nat} {k:Blk} (h:S b=some k):S.part b o n=lpart k.cs o n:=by simp[Mem.part,h]
theorem kN {S:Mem} {b o:Nat} {vs:List Value} {k:Blk} (h:S b=some k):S.put b o vs=S.set b ⟨k.ty,spl k.cs o vs,k.fr⟩:=by
 funext x;simp only[Mem.put,Mem.set,h,Option.map_some]
@[simp] theorem zz {S:Mem} {b:Nat} {k:Blk}:(S.set b k) b=some k:=by simp[Mem.set]
theorem zO {S:Mem} {b c:Nat} {k:Blk} (h:c≠b):(S.set b k) c=S c:=by simp[Mem.set,h]
@[simp] theorem zix {S:Mem} {b:Nat} {k k':Blk}:(S.set b k).set b k'=S.set b k':=by
 funext x;simp only[Mem.set];split <;> rfl
theorem zef {S:Mem} {b:Nat} {k:Blk} (h:S b=some k):S.set b k=S:=by
 funext x;simp only[Mem.set];split
 ·rename_i hx;rw[hx,h]
 ·rfl
theorem zkT {S:Mem} {b o n t:Nat} {vs cs:List Value} {K:Mem→Prop} (h:S b=some (bw t cs)) (hf:o+n≤cs.length) (hK:K (S.set b (bw t (spl cs o vs)))):pt S b o n vs K:=
 ⟨⟨_,h,rfl,hf⟩,by rw[kN h];exact hK⟩
def Keeps (S S':Mem) (W:List Nat):Prop:=∀ x,S x≠none→x∉W→S' x=S x
theorem Keeps.refl {S:Mem} {W:List Nat}:Keeps S S W:=fun _ _ _=>rfl
theorem Keeps.trans {S S' S'':Mem} {W:List Nat} (h:Keeps S S' W) (h':Keeps S' S'' W):Keeps S S'' W:=fun x hx hw=>by
 have e:=h x hx hw
 rw[h' x (by rw[e];exact hx) hw,e]
theorem Keeps.wider {S S':Mem} {W W':List Nat} (h:Keeps S S' W) (hw:∀ x∈W,x∈W'):Keeps S S' W':=fun x hx h2=>h x hx fun h3=>h2 (hw x h3)
theorem Keeps.set {S S':Mem} {W:List Nat} (h:Keeps S S' W) {b:Nat} {k:Blk} (hb:b∈W):Keeps S (S'.set b k) W:=fun x hx hw=>by
 rw[zO (fun e=>hw (by rw[e];exact hb))];exact h x hx hw
theorem Keeps.new {S S':Mem} {W:List Nat} (h:Keeps S S' W) {b:Nat} {k:Blk} (hb:S' b=none):Keeps S (S'.set b k) W:=fun x hx hw=>by
 have e:=h x hx hw
 rw[zO (fun hxb=>by rw[←hxb,e] at hb;exact hx hb)];exact e
theorem Keeps.get {S S':Mem} {W:List Nat} (h:Keeps S S' W) {b:Nat} {k:Blk} (hb:S b=some k) (hw:b∉W):S' b=some k:=by
 rw[h b (by rw[hb];simp) hw,hb]
theorem w64 {x:Int} (h1 : -9223372036854775808≤x) (h2:x≤9223372036854775807):IntKind.i64.wrap x=x:=zgm (k:=.i64) ⟨h1,h2⟩
theorem wu64 {x:Int} (h1:0≤x) (h2:x≤18446744073709551615):IntKind.u64.wrap x=x:=zgm (k:=.u64) ⟨h1,h2⟩
theorem wu32 {x:Int} (h1:0≤x) (h2:x≤4294967295):IntKind.u32.wrap x=x:=zgm (k:=.u32) ⟨h1,h2⟩
theorem wu8 {x:Int} (h1:0≤x) (h2:x≤255):IntKind.u8.wrap x=x:=zgm (k:=.u8) ⟨h1,h2⟩
theorem td {a b:Int} (h:0≤a):Int.tdiv a b=a/b:=Int.tdiv_eq_ediv_of_nonneg h
theorem tm {a b:Int} (h:0≤a):Int.tmod a b=a%b:=Int.tmod_eq_emod_of_nonneg h
theorem zqs {α:Type} {F:(α→Mem→Prop)→α→Mem→Prop} (I:Nat→α→Mem→Prop) (h:∀ X n y S,I n y S→(∀ m y' S',m<n→I m y' S'→X y' S')→F X y S) {n:Nat} {z:α} {S:Mem} (h0:I n z S):lp F z S:=by
 intro X hX
 have key:∀ n y S,I n y S→X y S:=by
  intro n
  induction n using Nat.strongRecOn with
  | _ n ih=>intro y S hI;exact hX y S (h X n y S hI fun m y' S' hm hI'=>ih m hm y' S' hI')
 exact key n z S h0
theorem Keeps.fresh {S S':Mem} {W:List Nat} (h:Keeps S S' W) {b:Nat} {k:Blk} (hb:S b=none):Keeps S (S'.set b k) W:=fun x hx hw=>by
 rw[zO (fun e=>by rw[e] at hx;exact hx hb)];exact h x hx hw
theorem zmP {cs vs:List Value} {o:Nat} (h:o+vs.length≤cs.length):(spl cs o vs).take (o+vs.length)=cs.take o++vs:=by
 rw[xi _ _ _ (by omega),List.take_left']
 simp;omega
structure Row (S:Mem) (size:Nat) (s:Sl) (l:List Value):Prop where
 len:l.length=s.n*size
 cap:s.n≤s.c
 lie:(s.p=none∧s.c=0)∨∃ b k,s.p=some (b,0)∧S b=some k∧k.fr=(0,0)∧k.cs.length=s.c*size∧k.cs.take (s.n*size)=l
theorem Row.nil {S:Mem} {size:Nat}:Row S size ⟨none,0,0⟩ []:=⟨by simp,by simp,.inl ⟨rfl,rfl⟩⟩
theorem Row.part {S:Mem} {size:Nat} {s:Sl} {l:List Value} (h:Row S size s l) {b:Nat} (hp:s.p=some (b,0)):S.part b 0 (s.n*size)=some l:=by
 rcases h.lie with ⟨h1,_⟩ | ⟨b',k,h1,h2,hfr,h3,h4⟩
 ·rw[h1] at hp;cases hp
 ·rw[h1] at hp;cases hp
  rw[yp h2,qA (by rw[h3,Nat.zero_add];exact Nat.mul_le_mul_right _ h.cap)]
  simpa using h4
theorem Row.keep {S S':Mem} {size:Nat} {s:Sl} {l:List Value} (h:Row S size s l) (hk:∀ b,s.p=some (b,0)→S' b=S b):Row S' size s l:=by
 refine⟨h.len,h.cap,?_⟩
 rcases h.lie with h1 | ⟨b,k,h1,h2,h3⟩
 ·exact .inl h1
 ·exact .inr ⟨b,k,h1,by rw[hk b h1];exact h2,h3⟩
theorem wS {S:Mem} {e size bytes m:Nat} {z l vs:List Value} {s:Sl} {K:Sl→Mem→Prop} (h:Row S size s l) (hv:vs.length=m*size) (hm:0<m) (hz:z.length=size) (lim:(2*(s.n+m)+1024)*bytes≤281474976710656)
  (hK:∀ (s':Sl) (S':Mem) (b:Nat) (k:Blk),s'.n=s.n+m→s'.p=some (b,0)→(s.p=some (b,0)∨S b=none)→S'=S.set b k→Row S' size s' (l++vs)→K s' S'):ap S e size bytes z s m vs K:=by
 refine⟨lim,fun hc=>?_,fun hc=>?_⟩
 ·rcases h.lie with ⟨h1,h2⟩ | ⟨b,k,h1,h2,hfr,h3,h4⟩
  ·omega
  ·have hfit:0+s.n*size+m*size≤k.cs.length:=by
    rw[h3,Nat.zero_add,←Nat.add_mul];exact Nat.mul_le_mul_right _ hc
   refine .inr ⟨b,0,h1,⟨k,h2,hfr,hfit⟩,?_⟩
   refine hK _ _ b ⟨k.ty,spl k.cs (0+s.n*size) vs,k.fr⟩ rfl h1 (.inl h1) (kN h2) ⟨by simp[h.len,hv,Nat.add_mul],hc,.inr ⟨b,⟨k.ty,spl k.cs (0+s.n*size) vs,k.fr⟩,h1,by rw[kN h2,zz],hfr,?_,?_⟩⟩
   ·simp only;rw[qK (by rw[hv];exact hfit)];exact h3
   ·simp only
    rw[Nat.zero_add,Nat.add_mul,←hv,zmP (by rw[hv];omega),h4]
 ·refine⟨l,?_,fun b c hb h1 h2=>?_⟩
  ·rcases h.lie with ⟨h1,h2⟩ | ⟨b,k,h1,h2,hfr,h3,h4⟩
   ·have h0:s.n=0:=by have:=h.cap;omega
    exact .inl ⟨h1,h0,List.length_eq_zero_iff.1 (by rw[h.len,h0,Nat.zero_mul])⟩
   ·exact .inr ⟨b,0,h1,h.part h1⟩
  ·refine hK _ _ b _ rfl rfl (.inr hb) rfl ⟨by simp[h.len,hv,Nat.add_mul],h1,.inr ⟨b,_,rfl,zz,rfl,?_,?_⟩⟩
   ·simp only[List.length_append,h.len,hv,kK,hz]
    rw[←Nat.add_mul,←Nat.add_mul];congr 1;omega
   ·simp only
    rw[List.take_left' (by simp[h.len,hv,Nat.add_mul])]
end
section
open Go Go.RowKit
abbrev Rho:=Nat→Option Nat
def Rho.upd (ρ:Rho) (b r:Nat):Rho:=fun x=>if x=b then some r else ρ x
theorem yL {ρ:Rho} {b r:Nat}:(ρ.upd b r) b=some r:=by simp[Rho.upd]
theorem ye {ρ:Rho} {b r c:Nat} (h:c≠b):(ρ.upd b r) c=ρ c:=by simp[Rho.upd,h]
structure Mv (S:Mem) (ρ:Rho) (S':Mem) (ρ':Rho) (R:Nat→Prop):Prop where
 ext:∀ b r,ρ b=some r→ρ' b=some r
 old:∀ b r,ρ' b=some r→S b≠none→ρ b=some r
 kp:∀ b,S b≠none→(∀ r,ρ b=some r→¬R r)→S' b=S b
 al:∀ b,S b≠none→S' b≠none
 rg:∀ b r,ρ' b=some r→S' b≠none
variable {S S' S'':Mem} {ρ ρ' ρ'':Rho} {R R':Nat→Prop}
theorem Mv.refl (h:∀ b r,ρ b=some r→S b≠none):Mv S ρ S ρ R:=⟨fun _ _ h=>h,fun _ _ h _=>h,fun _ _ _=>rfl,fun _ h=>h,h⟩
theorem Mv.trans (h:Mv S ρ S' ρ' R) (k:Mv S' ρ' S'' ρ'' R):Mv S ρ S'' ρ'' R:=
 ⟨fun b r e=>k.ext b r (h.ext b r e),fun b r e hb=>h.old b r (k.old b r e (h.al b hb)) hb,fun b hb hr=>by
  have e:=h.kp b hb hr
  rw[k.kp b (by rw[e];exact hb) fun r e'=>hr r (h.old b r e' hb),e],fun b hb=>k.al b (h.al b hb),k.rg⟩
theorem Mv.mono (h:Mv S ρ S' ρ' R) (hR:∀ r,R r→R' r):Mv S ρ S' ρ' R':=⟨h.ext,h.old,fun b hb hr=>h.kp b hb fun r e hr'=>hr r e (hR r hr'),h.al,h.rg⟩
theorem Mv.keeps (h:∀ b r,ρ b=some r→S b≠none) (hk:Keeps S S' []):Mv S ρ S' ρ R:=
 ⟨fun _ _ h=>h,fun _ _ h _=>h,fun b hb _=>hk b hb (by simp),fun b hb=>by rw[hk b hb (by simp)];exact hb,fun b r e=>by rw[hk b (h b r e) (by simp)];exact h b r e⟩
theorem Mv.claim (h:∀ b r,ρ b=some r→S b≠none) (hk:Keeps S S' []) {c r:Nat} (hc:S c=none) (hc':S' c≠none):Mv S ρ S' (ρ.upd c r) R:=by
 have k:=Mv.keeps (R:=R) h hk
 have hn:∀ b r',ρ b=some r'→b≠c:=fun b r' e e2=>by rw[e2] at e;exact h c r' e hc
 refine⟨fun b r' e=>by rw[ye (hn b r' e)];exact e,fun b r' e hb=>?_,k.kp,k.al,fun b r' e=>?_⟩
 ·rw[ye (fun e2=>by rw[e2] at hb;exact hb hc)] at e;exact e
 ·by_cases hbc:b=c
  ·rw[hbc];exact hc'
  ·rw[ye hbc] at e;exact k.rg b r' e
theorem Mv.put (h:Mv S ρ S' ρ' R) {b r:Nat} (hb:ρ' b=some r) (hr:R r) (k:Blk):Mv S ρ (S'.set b k) ρ' R:=
 ⟨h.ext,h.old,fun x hx hxr=>by
  by_cases e:x=b
  ·subst e;exact absurd hr (hxr r (h.old x r hb hx))
  ·rw[zO e];exact h.kp x hx hxr,fun x hx=>by
  by_cases e:x=b
  ·rw[e,zz];simp
  ·rw[zO e];exact h.al x hx,fun x r' e'=>by
  by_cases e:x=b
  ·rw[e,zz];simp
  ·rw[zO e];exact h.rg x r' e'⟩
theorem Mv.new (h:Mv S ρ S' ρ' R) {b:Nat} (hb:S' b=none) (k:Blk) (r:Nat):Mv S ρ (S'.set b k) (ρ'.upd b r) R:=by
 have h2:Mv S' ρ' (S'.set b k) (ρ'.upd b r) R:=Mv.claim h.rg (Keeps.refl.fresh hb) hb (by simp)
 exact h.trans h2
theorem Mv.then (h:Mv S ρ S' ρ' R) (hk:Keeps S' S'' []):Mv S ρ S'' ρ' R:=h.trans (Mv.keeps h.rg hk)
theorem Mv.keepsW {W:List Nat} (h:∀ b r,ρ b=some r→S b≠none) (hk:Keeps S S' W) (hW:∀ w∈W,S' w≠none∧∃ r,ρ w=some r∧R r):Mv S ρ S' ρ R:=
 ⟨fun _ _ h=>h,fun _ _ h _=>h,fun b hb hr=>by
  by_cases hw:b∈W
  ·obtain⟨_,r,e,h2⟩:=hW b hw;exact absurd h2 (hr r e)
  ·exact hk b hb hw,fun b hb=>by
  by_cases hw:b∈W
  ·exact (hW b hw).1
  ·rw[hk b hb hw];exact hb,fun b r e=>by
  by_cases hw:b∈W
  ·exact (hW b hw).1
  ·rw[hk b (h b r e) hw];exact h b r e⟩
structure Bl (S:Mem) (ρ:Rho) (r b:Nat) (k:Blk):Prop where
 at_:S b=some k
 rol:ρ b=some r
theorem Bl.keep {r b:Nat} {k:Blk} (h:Bl S ρ r b k) (m:Mv S ρ S' ρ' R) (hr:¬R r):Bl S' ρ' r b k:=
 ⟨by rw[m.kp b (by rw[h.at_];simp) fun r' e=>by rw[h.rol] at e;cases e;exact hr];exact h.at_,m.ext b r h.rol⟩
theorem Bl.ne {r r' b b':Nat} {k k':Blk} (h:Bl S ρ r b k) (h':Bl S ρ r' b' k') (hr:r≠r'):b≠b':=fun e=>by
 have:=h.rol;rw[e,h'.rol] at this;cases this;exact hr rfl
structure Rw (S:Mem) (ρ:Rho) (r size:Nat) (s:Sl) (l:List Value):Prop where
 row:Row S size s l
 rol:∀ b o,s.p=some (b,o)→ρ b=some r
theorem Rw.nil {r size:Nat}:Rw S ρ r size ⟨none,0,0⟩ []:=⟨Row.nil,fun b o h=>by cases h⟩
theorem Rw.keep {r size:Nat} {s:Sl} {l:List Value} (h:Rw S ρ r size s l) (m:Mv S ρ S' ρ' R) (hr:¬R r):Rw S' ρ' r size s l:=
 ⟨h.row.keep fun b hb=>m.kp b (by
  rcases h.row.lie with ⟨h1,_⟩ | ⟨b',k,h1,h2,_⟩
  ·rw[h1] at hb;cases hb
  ·rw[h1] at hb;cases hb;rw[h2];simp) fun r' e=>by rw[h.rol b 0 hb] at e;cases e;exact hr,fun b o hb=>m.ext b r (h.rol b o hb)⟩
theorem Rw.ne {r r' size b:Nat} {s:Sl} {l:List Value} {k:Blk} (h:Rw S ρ r size s l) (h':Bl S ρ r' b k) (hr:r≠r'):∀ o,s.p≠some (b,o):=fun o e=>by
 have:=h.rol b o e;rw[h'.rol] at this;cases this;exact hr rfl
theorem zkR {S0:Mem} {ρ0:Rho} {r e size bytes m:Nat} {z l vs:List Value} {s:Sl} {K:Sl→Mem→Prop} (hm0:Mv S0 ρ0 S ρ R) (hr:R r) (h:Rw S ρ r size s l) (hv:vs.length=m*size) (hm:0<m) (hz:z.length=size) (lim:(2*(s.n+m)+1024)*bytes≤281474976710656)
  (hK:∀ (s':Sl) (S':Mem) (ρ':Rho),Mv S0 ρ0 S' ρ' R→Mv S ρ S' ρ' (· = r)→Rw S' ρ' r size s' (l++vs)→s'.n=s.n+m→K s' S'):ap S e size bytes z s m vs K:=
 wS h.row hv hm hz lim fun s' S' b k hn hp hor hS' hrow=>by
  subst hS'
  have key:∃ ρ',Mv S ρ (S.set b k) ρ' (· = r)∧ρ' b=some r:=by
   rcases hor with h1 | h1
   ·exact⟨ρ,(Mv.refl (R:=(· = r)) hm0.rg).put (h.rol b 0 h1) rfl k,h.rol b 0 h1⟩
   ·exact⟨_,(Mv.refl hm0.rg).new h1 k r,yL⟩
  obtain⟨ρ',m1,hb⟩:=key
  exact hK s' _ ρ' (hm0.trans (m1.mono fun x hx=>by rw[hx];exact hr)) m1 ⟨hrow,fun b' o hb'=>by rw[hp] at hb';cases hb';exact hb⟩ hn
end
section
open Go Go.RowKit
structure At (S:Mem) (b o:Nat) (l:List Value):Prop where
 ex:∃ k,S b=some k∧k.fr=(0,0)∧lpart k.cs o l.length=some l
theorem zqe {cs l vs:List Value} {o i:Nat} (h:lpart cs o l.length=some l) (hi:i+vs.length≤l.length):spl cs (o+i) vs=spl cs o (spl l i vs):=by
 obtain⟨h1,_,_⟩:=qE h
 have hl:=qK hi
 apply List.ext_getElem?
 intro j
 rw[jL (by omega),jL (by omega),hl]
 by_cases hj:o≤j∧j<o+l.length
 ·rw[if_pos hj,jL hi]
  by_cases h2:i≤j-o∧j-o<i+vs.length
  ·rw[if_pos h2,if_pos (by omega)];congr 1;omega
  ·rw[if_neg h2,if_neg (by omega),wg h (j-o) (by omega)];congr 1;omega
 ·rw[if_neg hj,if_neg (by omega)]
theorem zmO {cs l l':List Value} {o:Nat} (h:o+l.length≤cs.length) (hl:l'.length=l.length):spl (spl cs o l) o l'=spl cs o l':=by
 apply List.ext_getElem?
 intro j
 rw[jL (by rw[qK h];omega),jL h,jL (by omega)]
 by_cases hj:o≤j∧j<o+l'.length
 ·rw[if_pos hj,if_pos hj]
 ·rw[if_neg hj,if_neg hj,if_neg (by omega)]
theorem zmN {cs l:List Value} {o:Nat} (h:lpart cs o l.length=some l):spl cs o l=cs:=by
 obtain⟨h1,_,_⟩:=qE h
 apply List.ext_getElem?
 intro j
 rw[jL h1]
 by_cases hj:o≤j∧j<o+l.length
 ·rw[if_pos hj,wg h (j-o) (by omega)];congr 1;omega
 ·rw[if_neg hj]
theorem zlS {cs l:List Value} {o:Nat} (h:o+l.length≤cs.length):lpart (spl cs o l) o l.length=some l:=by
 rw[qA (by rw[qK h];exact h)]
 congr 1
 apply List.ext_getElem?
 intro j
 rw[List.getElem?_take,List.getElem?_drop,jL h]
 by_cases hj:j<l.length
 ·rw[if_pos hj,if_pos (by omega)];congr 1;omega
 ·rw[if_neg hj,List.getElem?_eq_none (by omega)]
variable {S:Mem} {b o:Nat} {l:List Value}
theorem At.self (h:At S b o l):S.put b o l=S:=by
 obtain⟨k,h1,_,h3⟩:=h.ex
 rw[kN h1,zmN h3];exact zef h1
theorem At.put (h:At S b o l) {l':List Value} (hl:l'.length=l.length):At (S.put b o l') b o l':=by
 obtain⟨k,h1,h2,h3⟩:=h.ex
 have h4:=(qE h3).1
 exact⟨⟨k.ty,spl k.cs o l',k.fr⟩,by rw[kN h1,zz],h2,zlS (by omega)⟩
theorem At.put2 (h:At S b o l) {l1 l2:List Value} (h1:l1.length=l.length) (h2:l2.length=l.length):(S.put b o l1).put b o l2=S.put b o l2:=by
 obtain⟨k,e1,_,e3⟩:=h.ex
 have h4:=(qE e3).1
 rw[kN e1,kN e1,kN (zz),zix]
 simp only
 rw[zmO (by omega) (by omega)]
theorem At.cell (h:At S b o l) {i:Nat} (hi:i<l.length):S.cell b (o+i)=nthL l i:=by
 obtain⟨k,h1,_,h3⟩:=h.ex
 rw[qj h1,zI,zI,wg h3 i hi]
theorem At.part (h:At S b o l) {i n:Nat} (hi:i+n≤l.length):S.part b (o+i) n=lpart l i n:=by
 obtain⟨k,h1,_,h3⟩:=h.ex
 have h4:=qE h3
 rw[yp h1,qA (by omega),qA hi]
 congr 1
 apply List.ext_getElem?
 intro j
 rw[List.getElem?_take,List.getElem?_take,List.getElem?_drop,List.getElem?_drop]
 by_cases hj:j<n
 ·rw[if_pos hj,if_pos hj,wg h3 (i+j) (by omega)];congr 1;omega
 ·rw[if_neg hj,if_neg hj]
theorem At.all (h:At S b o l):S.part b o l.length=some l:=by
 obtain⟨k,h1,_,h3⟩:=h.ex
 rw[yp h1];exact h3
theorem At.pt (h:At S b o l) {i n:Nat} {vs:List Value} (hn:n=vs.length) (hi:i+vs.length≤l.length) {K:Mem→Prop} (hK:K (S.put b o (spl l i vs))):Go.Pt.pt S b (o+i) n vs K:=by
 obtain⟨k,h1,h2,h3⟩:=h.ex
 have h4:=qE h3
 refine⟨⟨k,h1,h2,by omega⟩,?_⟩
 have:S.put b (o+i) vs=S.put b o (spl l i vs):=by rw[kN h1,kN h1,zqe h3 hi]
 rw[this];exact hK
theorem At.keep {S':Mem} (h:At S b o l) (hk:S' b=S b):At S' b o l:=by
 obtain⟨k,h1,h2⟩:=h.ex
 exact⟨k,by rw[hk];exact h1,h2⟩
theorem At.some (h:At S b o l):S b≠none:=by
 obtain⟨k,h1,_⟩:=h.ex;rw[h1];simp
theorem At.mv {ρ:Rho} {R:Nat→Prop} {S0:Mem} {ρ0:Rho} (m:Mv S0 ρ0 S ρ R) (h:At S b o l) {r:Nat} (hb:ρ b=Option.some r) (hr:R r) (l':List Value):Mv S0 ρ0 (S.put b o l') ρ R:=by
 obtain⟨k,h1,_⟩:=h.ex
 rw[kN h1];exact m.put hb hr _
theorem Rw.at_ {ρ:Rho} {r w:Nat} {s:Sl} {A:List (List Value)} (h:Rw S ρ r w s A.flatten) (hw:∀ v∈A,v.length=w) {i:Nat} (hi:i<A.length) (hw0:0<w):∃ c,s=⟨Option.some (c,0),A.length,s.c⟩∧At S c (i*w) A[i]:=by
 have hfl:A.flatten.length=A.length*w:=by
  clear h hi
  induction A with
  | nil=>simp
  | cons x A ih=>
   have:=ih fun v hv=>hw v (by simp[hv])
   rw[List.flatten_cons,List.length_append,this,hw x (by simp),List.length_cons,Nat.add_mul];omega
 have hn:s.n=A.length:=by
  have:=h.row.len
  rw[hfl] at this
  exact (Nat.eq_of_mul_eq_mul_right hw0 this).symm
 have hcap:=h.row.cap
 rcases h.row.lie with ⟨_,h2⟩ | ⟨c,k,h1,h2,h3,h4,h5⟩
 ·omega
 refine⟨c,?_,⟨k,h2,h3,?_⟩⟩
 ·obtain⟨p,n,cc⟩:=s;simp only at h1 hn;subst h1;subst hn;rfl
 have hAi:A[i].length=w:=hw _ (List.getElem_mem hi)
 have hi1:(i+1)*w≤A.length*w:=Nat.mul_le_mul_right _ hi
 rw[Nat.add_mul,Nat.one_mul] at hi1
 have hcw:A.length*w≤s.c*w:=Nat.mul_le_mul_right _ (by omega)
 rw[qA (by omega)]
 congr 1
 have key:∀ (A:List (List Value)) (i:Nat) (hi:i<A.length),(∀ v∈A,v.length=w)→(A.flatten.drop (i*w)).take w=A[i]:=by
  intro A
  induction A with
  | nil=>intro i hi;simp at hi
  | cons x A ih=>
   intro i hi hw
   have hx:x.length=w:=hw x (by simp)
   cases i with
   | zero=>rw[Nat.zero_mul,List.drop_zero,List.flatten_cons,List.take_left' hx];rfl
   | succ i=>
    rw[List.flatten_cons,show (i+1)*w=x.length+i*w by rw[Nat.add_mul,hx];omega,←List.drop_drop,List.drop_left' rfl]
    exact ih i (by simpa using hi) fun v hv=>hw v (by simp[hv])
 have h6:=key A i hi hw
 rw[hAi,←h6,←h5]
 apply List.ext_getElem?
 intro j
 simp only[List.getElem?_take,List.getElem?_drop]
 by_cases hj:j<w
 ·rw[if_pos hj,if_pos hj,if_pos (by rw[hn];omega)]
 ·rw[if_neg hj,if_neg hj]
end
end Go.Pt
namespace Go.Cr
section
open Go Go.Pt
structure Seat where
 R:List Int
 pc:Int
 base:Int
 vec:Int
 epc:Int
 cause:Int
 addr:Int
 opn:Bool
 st:Int
 pend:Int
 mask:Int
def Seat.tail (s:Seat):List Value:=[.int .u64 s.pc,.int .u64 s.base,.int .u64 s.vec,.int .u64 s.epc,.int .u64 s.cause,.int .u64 s.addr,.bool s.opn,.int .u8 s.st,.int .u32 s.pend,.int .u32 s.mask]
def Seat.L (s:Seat):List Value:=s.R.map (Value.int .u64)++s.tail
abbrev W64 (x:Int):Prop:=0≤x∧x≤18446744073709551615
structure Seat.Ok (s:Seat):Prop where
 len:s.R.length=16
 r:∀ x∈s.R,W64 x
 pc:W64 s.pc
 base:W64 s.base
 vec:W64 s.vec
 epc:W64 s.epc
 cause:W64 s.cause
 addr:W64 s.addr
 st:0≤s.st∧s.st≤2
 pend:0≤s.pend∧s.pend≤255
 mask:0≤s.mask∧s.mask≤255
def seat0:Seat:=⟨List.replicate 16 0,0,0,0,0,0,0,false,0,0,0⟩
theorem zjp:seat0.Ok:=⟨rfl,fun x hx=>by rw[List.eq_of_mem_replicate hx];decide,by decide,by decide,by decide,by decide,by decide,by decide,by decide,by decide,by decide⟩
theorem zjD {A B:List Value} {n j:Nat} (h:A.length=n):nthL (A++B) (n+j)=nthL B j:=by
 rw[zI,zI,List.getElem?_append_right (by omega)]
 congr 1;omega
theorem xX:∀ {A B v:List Value} {n j:Nat},A.length=n→spl (A++B) (n+j) v=A++spl B j v
 | [],B,v,n,j,h=>by
  have:n=0:=by simpa using h.symm
  subst this;simp
 | a :: A,B,v,n,j,h=>by
  obtain⟨m,rfl⟩:∃ m,n=m+1:=⟨A.length,by simpa using h.symm⟩
  rw[show m+1+j=(m+j)+1 by omega]
  simp only[List.cons_append,spl]
  rw[xX (by simpa using h)]
theorem zhn:∀ {A B:List Value} {j:Nat} {v:Value},j<A.length→spl (A++B) j [v]=A.set j v++B
 | [],B,j,v,h=>by simp at h
 | a :: A,B,0,v,h=>by cases B <;> simp[spl] <;> cases A <;> simp[spl]
 | a :: A,B,j+1,v,h=>by
  simp only[List.cons_append,spl,List.set_cons_succ]
  rw[zhn (by simpa using h)]
variable {s:Seat}
theorem Seat.L_len (h:s.R.length=16):s.L.length=26:=by simp[Seat.L,Seat.tail,h]
theorem Seat.L_r (h:s.R.length=16) {i:Nat} (hi:i<16):nthL s.L i=some (.int .u64 (s.R.getD i 0)):=by
 unfold Seat.L
 rw[zI,List.getElem?_append_left (by simpa [h] using hi),List.getElem?_map,List.getD_eq_getElem?_getD,List.getElem?_eq_getElem (by omega)];rfl
theorem Seat.L_t (h:s.R.length=16) (j:Nat):nthL s.L (16+j)=nthL s.tail j:=zjD (by simpa using h)
theorem Seat.set_t (h:s.R.length=16) (j:Nat) (v:List Value):spl s.L (16+j) v=s.R.map (Value.int .u64)++spl s.tail j v:=xX (by simpa using h)
theorem Seat.set_r (h:s.R.length=16) {i:Nat} (hi:i<16) (x:Int):spl s.L i [.int .u64 x]=({ s with R:=s.R.set i x }:Seat).L:=by
 unfold Seat.L
 rw[zhn (by simpa [h] using hi)]
 show _=(s.R.set i x).map _++_
 rw[List.map_set];rfl
section
variable (h:s.R.length=16)
include h
theorem Seat.g16:nthL s.L 16=some (.int .u64 s.pc):=Seat.L_t h 0
theorem Seat.g17:nthL s.L 17=some (.int .u64 s.base):=Seat.L_t h 1
theorem Seat.g18:nthL s.L 18=some (.int .u64 s.vec):=Seat.L_t h 2
theorem Seat.g19:nthL s.L 19=some (.int .u64 s.epc):=Seat.L_t h 3
theorem Seat.g20:nthL s.L 20=some (.int .u64 s.cause):=Seat.L_t h 4
theorem Seat.g21:nthL s.L 21=some (.int .u64 s.addr):=Seat.L_t h 5
theorem Seat.g22:nthL s.L 22=some (.bool s.opn):=Seat.L_t h 6
theorem Seat.g23:nthL s.L 23=some (.int .u8 s.st):=Seat.L_t h 7
theorem Seat.g24:nthL s.L 24=some (.int .u32 s.pend):=Seat.L_t h 8
theorem Seat.g25:nthL s.L 25=some (.int .u32 s.mask):=Seat.L_t h 9
theorem Seat.s16 (x:Int):spl s.L 16 [.int .u64 x]=({ s with pc:=x }:Seat).L:=Seat.set_t h 0 _
theorem Seat.s17 (x:Int):spl s.L 17 [.int .u64 x]=({ s with base:=x }:Seat).L:=Seat.set_t h 1 _
theorem Seat.s18 (x:Int):spl s.L 18 [.int .u64 x]=({ s with vec:=x }:Seat).L:=Seat.set_t h 2 _
theorem Seat.s19 (x:Int):spl s.L 19 [.int .u64 x]=({ s with epc:=x }:Seat).L:=Seat.set_t h 3 _
theorem Seat.s20 (x:Int):spl s.L 20 [.int .u64 x]=({ s with cause:=x }:Seat).L:=Seat.set_t h 4 _
theorem Seat.s21 (x:Int):spl s.L 21 [.int .u64 x]=({ s with addr:=x }:Seat).L:=Seat.set_t h 5 _
theorem Seat.s22 (x:Bool):spl s.L 22 [.bool x]=({ s with opn:=x }:Seat).L:=Seat.set_t h 6 _
theorem Seat.s23 (x:Int):spl s.L 23 [.int .u8 x]=({ s with st:=x }:Seat).L:=Seat.set_t h 7 _
theorem Seat.s24 (x:Int):spl s.L 24 [.int .u32 x]=({ s with pend:=x }:Seat).L:=Seat.set_t h 8 _
theorem Seat.s25 (x:Int):spl s.L 25 [.int .u32 x]=({ s with mask:=x }:Seat).L:=Seat.set_t h 9 _
end
end
end Go.Cr
section
namespace Go.Cr
open Go Go.Pt Go.Lib
theorem zZ {β:Type} {J:β} {B:β→Prop} (R:β→Prop) (hJ:R J) (hB:∀ j,R j→B j):jn J B:=hB J hJ
structure Pl (S:Mem) (b o:Nat):Prop where
 ex:∃ l,At S b o l∧l.length=26
theorem Pl.of {S:Mem} {b o:Nat} {s:Seat} (h:At S b o s.L) (hl:s.R.length=16):Pl S b o:=⟨_,h,Seat.L_len hl⟩
section
variable {S:Mem} {b o:Nat} {s:Seat}
theorem Pl.at_ (h:Pl S b o) (hl:s.R.length=16):At (S.put b o s.L) b o s.L:=by
 obtain⟨l,h1,h2⟩:=h.ex
 exact h1.put (by rw[Seat.L_len hl,h2])
theorem Pl.cell (h:Pl S b o) (hl:s.R.length=16) {i:Nat} (hi:i<26):(S.put b o s.L).cell b (o+i)=nthL s.L i:=(h.at_ hl).cell (by rw[Seat.L_len hl];exact hi)
theorem Pl.all (h:Pl S b o) (hl:s.R.length=16):(S.put b o s.L).part b o 26=some s.L:=by
 have:=(h.at_ hl).all
 rwa [Seat.L_len hl] at this
theorem Pl.pt (h:Pl S b o) (hl:s.R.length=16) {i:Nat} {v:Value} {s':Seat} (hi:i<26) (he:spl s.L i [v]=s'.L) {K:Mem→Prop} (hK:K (S.put b o s'.L)):Go.Pt.pt (S.put b o s.L) b (o+i) 1 [v] K:=by
 obtain⟨l,h1,h2⟩:=h.ex
 have hll:=Seat.L_len hl
 refine (h.at_ hl).pt (i:=i) (vs:=[v]) rfl (by rw[hll];show i+1≤26;omega) ?_
 have hl':s'.L.length=26:=by rw[←he,qK (by rw[hll];show i+1≤26;omega),hll]
 rw[he,h1.put2 (by omega) (by omega)]
 exact hK
end
def Seat.trap (s:Seat) (cause addr:Int):Seat:=if s.vec=0 then { s with st:=2 } else { s with epc:=s.pc,cause:=cause,addr:=addr,pc:=s.vec,opn:=false }
theorem Seat.trap_ok {s:Seat} (h:s.Ok) {c a:Int} (hc:W64 c) (ha:W64 a):(s.trap c a).Ok:=by
 unfold Seat.trap
 split
 ·exact { h with st:=⟨by show (0:Int)≤2;decide,by show (2:Int)≤2;decide⟩ }
 ·exact { h with epc:=h.pc,cause:=hc,addr:=ha,pc:=h.vec }
def Seat.back (s:Seat):Seat:={ s with pc:=s.epc,opn:=true }
theorem Seat.back_ok {s:Seat} (h:s.Ok):s.back.Ok:={ h with pc:=h.epc }
def Seat.may (s:Seat):Int:=iand .u32 s.pend s.mask
theorem iand32 {a b:Int} (ha:0≤a∧a≤255) (hb:0≤b∧b≤255):∃ m:Nat,iand .u32 a b=m∧m=a.toNat &&& b.toNat∧m≤255:=by
 obtain⟨x,rfl⟩:∃ m:Nat,a=m:=⟨a.toNat,by omega⟩
 obtain⟨y,rfl⟩:∃ m:Nat,b=m:=⟨b.toNat,by omega⟩
 refine⟨x &&& y,?_,by simp,?_⟩
 ·unfold iand
  show IntKind.u32.wrap ((BitVec.ofInt 32 (x:Int) &&& BitVec.ofInt 32 (y:Int)).toNat:Int)=_
  have e1:(BitVec.ofInt 32 (x:Int))=BitVec.ofNat 32 x:=BitVec.ofInt_natCast 32 x
  have e2:(BitVec.ofInt 32 (y:Int))=BitVec.ofNat 32 y:=BitVec.ofInt_natCast 32 y
  rw[e1,e2,BitVec.toNat_and,BitVec.toNat_ofNat,BitVec.toNat_ofNat,Nat.mod_eq_of_lt (by omega),Nat.mod_eq_of_lt (by omega)]
  have:x &&& y≤x:=Nat.and_le_left
  exact wu32 (by omega) (by omega)
 ·have:x &&& y≤x:=Nat.and_le_left
  omega
theorem Seat.may_nat {s:Seat} (h:s.Ok):∃ m:Nat,s.may=m∧m=s.pend.toNat &&& s.mask.toNat∧m≤255:=iand32 h.pend h.mask
def Seat.wake (s:Seat):Seat:=if s.st=1∧s.may≠0 then { s with st:=0 } else s
theorem Seat.wake_ok {s:Seat} (h:s.Ok):s.wake.Ok:=by
 unfold Seat.wake
 split
 ·exact { h with st:=⟨by show (0:Int)≤0;decide,by show (0:Int)≤2;decide⟩ }
 ·exact h
def low (m:Nat):Nat:=((List.range 8).find? fun i=>m/2 ^ i%2 == 1).getD 8
def nextL (s:Seat):Option Nat:=if s.opn=true∧s.may≠0 then some (low s.may.toNat) else none
theorem znN:∀ m:Fin 256,m.1≠0→0≤ishr .u64 (IntKind.u64.wrap ((iand .u64 (m.1:Int) (IntKind.u64.wrap (0-(m.1:Int))))*285870213051353865)) 58 ∧
  ishr .u64 (IntKind.u64.wrap ((iand .u64 (m.1:Int) (IntKind.u64.wrap (0-(m.1:Int))))*285870213051353865)) 58<64 ∧
  deBruijn64tab[(ishr .u64 (IntKind.u64.wrap ((iand .u64 (m.1:Int) (IntKind.u64.wrap (0-(m.1:Int))))*285870213051353865)) 58).toNat]? = some (low m.1)∧low m.1<8∧m.1/2 ^ low m.1%2=1:=by decide +kernel
end Go.Cr
namespace Go.Proofs.YthaiblbnpcgjpaaGreatDoor
open Go Go.Pt Go.Cr Go.Lib
structure Gl (S:Mem):Prop where
 tab:∃ t fr,S 0=some ⟨t,deBruijn64tab.map fun (n:Nat)=>Value.int .u8 n,fr⟩
theorem Gl.keep {S S':Mem} (h:Gl S) (hk:S' 0=S 0):Gl S':=by
 obtain⟨t,fr,h1⟩:=h.tab
 exact⟨t,fr,by rw[hk];exact h1⟩
section
variable {S:Mem} {b o:Nat} {s:Seat}
theorem zkD (hg:Gl S) {m:Nat} (h0:m≠0) (hm:m≤255) {Q:Int→Mem→Prop} (hQ:Q (low m:Int) S):zcw S (m:Int) Q:=by
 obtain⟨h1,h2,h3,h4,_⟩:=znN ⟨m,by omega⟩ h0
 simp only at h1 h2 h3 h4
 obtain⟨t,fr,ht⟩:=hg.tab
 apply zhd
 unfold fY
 apply fm
 unfold yK
 rw[if_neg (by omega)]
 refine⟨h1,h2,?_⟩
 rw[zx (n:=(low m:Int)) ?_]
 ·rw[w64 (by omega) (by omega)];exact hQ
 ·rw[qj ht,zI]
  simp only[Nat.zero_add,Nat.mul_one,List.getElem?_map,h3,Option.map_some]
theorem zld (hp:Pl S b o) (hl:s.R.length=16) {cause addr:Int} {Q:Mem→Prop} (hQ:Q (S.put b o (s.trap cause addr).L)):zeL (S.put b o s.L) (some (b,o)) cause addr Q:=by
 apply zin
 unfold zbA
 simp only[jn,reduceCtorEq,if_false]
 rw[zL,zL,zx ((hp.cell hl (by decide)).trans (Seat.g18 hl))]
 unfold Seat.trap at hQ
 by_cases hv:s.vec=0
 ·rw[if_pos hv] at hQ ⊢
  exact hp.pt hl (by decide) (Seat.s23 hl _) hQ
 ·rw[if_neg hv] at hQ ⊢
  rw[zx ((hp.cell hl (by decide)).trans (Seat.g16 hl)),zx ((hp.cell hl (by decide)).trans (Seat.g18 hl))]
  refine hp.pt hl (by decide) (Seat.s19 hl _) ?_
  refine hp.pt (s:={ s with epc:=s.pc }) hl (by decide) (Seat.s20 (s:={ s with epc:=s.pc }) hl _) ?_
  refine hp.pt (s:={ s with epc:=s.pc,cause:=cause }) hl (by decide) (Seat.s21 (s:={ s with epc:=s.pc,cause:=cause }) hl _) ?_
  refine hp.pt (s:={ s with epc:=s.pc,cause:=cause,addr:=addr }) hl (by decide) (Seat.s16 (s:={ s with epc:=s.pc,cause:=cause,addr:=addr }) hl _) ?_
  exact hp.pt (s:={ s with epc:=s.pc,cause:=cause,addr:=addr,pc:=s.vec }) hl (by decide) (Seat.s22 (s:={ s with epc:=s.pc,cause:=cause,addr:=addr,pc:=s.vec }) hl _) hQ
theorem zmx (hp:Pl S b o) (hl:s.R.length=16) {Q:Mem→Prop} (hQ:Q (S.put b o s.back.L)):zeN (S.put b o s.L) (some (b,o)) Q:=by
 apply zip
 unfold zbC
 rw[if_pos (by simp),zL,zx ((hp.cell hl (by decide)).trans (Seat.g19 hl))]
 refine hp.pt hl (by decide) (Seat.s16 hl _) ?_
 exact hp.pt (s:={ s with pc:=s.epc }) hl (by decide) (Seat.s22 (s:={ s with pc:=s.epc }) hl _) hQ
theorem zhb (hp:Pl S b o) (hl:s.R.length=16) {Q:Mem→Prop} (hQ:Q (S.put b o s.wake.L)):zcn (S.put b o s.L) (some (b,o)) Q:=by
 apply zir
 unfold zbE
 rw[if_pos (by simp),zL,zx ((hp.cell hl (by decide)).trans (Seat.g23 hl))]
 unfold Seat.wake Seat.may at hQ
 by_cases h1:s.st=1
 ·rw[if_pos h1,zx ((hp.cell hl (by decide)).trans (Seat.g24 hl)),zx ((hp.cell hl (by decide)).trans (Seat.g25 hl))]
  by_cases h2:iand .u32 s.pend s.mask≠0
  ·rw[if_pos ⟨h1,h2⟩] at hQ
   rw[if_pos h2]
   exact hp.pt hl (by decide) (Seat.s23 hl _) hQ
  ·rw[if_neg (fun h=>h2 h.2)] at hQ
   rw[if_neg h2];exact hQ
 ·rw[if_neg (fun h=>h1 h.1)] at hQ
  rw[if_neg h1];exact hQ
theorem zlJ (hg:Gl (S.put b o s.L)) (hp:Pl S b o) (hs:s.Ok) {Q:Int→Bool→Mem→Prop} (hQ:match nextL s with | some n=>Q n true (S.put b o s.L) | none=>Q 0 false (S.put b o s.L)):zfb (S.put b o s.L) (some (b,o)) Q:=by
 have hl:=hs.len
 apply zit
 unfold zbG
 unfold nextL at hQ
 simp only[jn,reduceCtorEq,if_false]
 rw[zL,zL,fo ((hp.cell hl (by decide)).trans (Seat.g22 hl))]
 by_cases h1:s.opn=true
 ·rw[if_pos h1,zx ((hp.cell hl (by decide)).trans (Seat.g24 hl)),zx ((hp.cell hl (by decide)).trans (Seat.g25 hl))]
  obtain⟨m,e,_,hm⟩:=Seat.may_nat hs
  unfold Seat.may at e hQ
  by_cases h2:iand .u32 s.pend s.mask=0
  ·rw[if_neg (fun h=>h.2 h2)] at hQ
   rw[if_pos h2];exact hQ
  ·rw[if_pos ⟨h1,h2⟩] at hQ
   rw[if_neg h2]
   simp only[e,Int.toNat_natCast] at hQ h2 ⊢
   rw[zx ((hp.cell hl (by decide)).trans (Seat.g24 hl)),zx ((hp.cell hl (by decide)).trans (Seat.g25 hl)),e,wu64 (by omega) (by omega)]
   refine zkD hg (by omega) hm ?_
   exact⟨(hp.cell hl (by decide)).trans (Seat.g25 hl),(hp.cell hl (by decide)).trans (Seat.g24 hl),hQ⟩
 ·rw[if_neg (fun h=>h1 h.1)] at hQ
  rw[if_neg h1];exact hQ
end
end Go.Proofs.YthaiblbnpcgjpaaGreatDoor
end
section
namespace Go.Cr
open Go Go.Pt
def cls (c:Int):Nat:=if c=0∨c=21∨c=22 then 0 else if c=1∨c=2∨c=18∨c=19 then 1 else if c=20 then 2 else if 11≤c∧c≤17 then 3 else 4
def fA:Nat→Bool | 1 | 3 | 4=>true | _=>false
def fB:Nat→Bool | 3 | 4=>true | _=>false
def fC:Nat→Bool | 4=>true | _=>false
def fN:Nat→Bool | 1 | 2 | 3=>true | _=>false
def kdL (m:Nat):List Value:=[.bool (fA m),.bool (fB m),.bool (fC m),.bool (fN m)]
def rf:Nat→Int | 0=>0 | 1=>9 | 2=>8 | 3=>11 | _=>7
def regR (f:Bool) (r:Int):Prop:=r=0∨(f=true∧r<16)
structure Rt (k a b c n:Int):Prop where
 kk:k<23
 aa:regR (fA (cls k)) a
 bb:regR (fB (cls k)) b
 cc:regR (fC (cls k)) c
 nn:fN (cls k)=true∨n=0
 rw:k=18∨k=19→0≤n∧n<9
instance (f:Bool) (r:Int):Decidable (regR f r):=by unfold regR;infer_instance
instance (k a b c n:Int):Decidable (Rt k a b c n):=
 decidable_of_iff (k<23∧regR (fA (cls k)) a∧regR (fB (cls k)) b∧regR (fC (cls k)) c∧(fN (cls k)=true∨n=0)∧(k=18∨k=19→0≤n∧n<9))
  ⟨fun⟨h1,h2,h3,h4,h5,h6⟩=>⟨h1,h2,h3,h4,h5,h6⟩,fun h=>⟨h.kk,h.aa,h.bb,h.cc,h.nn,h.rw⟩⟩
structure Bd (k a b c n:Int):Prop where
 kk:0≤k∧k≤255
 aa:0≤a∧a≤255
 bb:0≤b∧b≤255
 cc:0≤c∧c≤255
 nn : -32768≤n∧n≤32767
def opL (k a b c n:Int):List Value:=[.int .u8 k,.int .u8 a,.int .u8 b,.int .u8 c,.int .i16 n]
theorem wd (w n:Nat):BitVec.ofInt w (n:Int)=BitVec.ofNat w n:=by
 apply BitVec.eq_of_toNat_eq;simp
theorem yr {a b:Nat} (ha:a<18446744073709551616) (hb:b<18446744073709551616):iand .u64 a b=((a &&& b:Nat):Int):=by
 unfold iand
 show IntKind.u64.wrap ((BitVec.ofInt 64 (a:Int) &&& BitVec.ofInt 64 (b:Int)).toNat:Int)=_
 rw[wd,wd,BitVec.toNat_and,BitVec.toNat_ofNat,BitVec.toNat_ofNat,Nat.mod_eq_of_lt ha,Nat.mod_eq_of_lt hb]
 have:a &&& b≤a:=Nat.and_le_left
 exact wu64 (by omega) (by omega)
theorem fO {a b:Nat} (ha:a<18446744073709551616) (hb:b<18446744073709551616):ior .u64 a b=((a ||| b:Nat):Int):=by
 unfold ior
 show IntKind.u64.wrap ((BitVec.ofInt 64 (a:Int) ||| BitVec.ofInt 64 (b:Int)).toNat:Int)=_
 rw[wd,wd,BitVec.toNat_or,BitVec.toNat_ofNat,BitVec.toNat_ofNat,Nat.mod_eq_of_lt ha,Nat.mod_eq_of_lt hb]
 have:a ||| b<2 ^ 64:=Nat.or_lt_two_pow (by omega) (by omega)
 exact wu64 (by omega) (by omega)
theorem zpg {x y:BitVec 64} (h:x &&& y=0#64):x &&& ~~~y=x:=by
 apply BitVec.eq_of_getLsbD_eq
 intro i hi
 have h2:=congrArg (fun z=>z.getLsbD i) h
 simp only[BitVec.getLsbD_and,BitVec.getLsbD_not,BitVec.getLsbD_zero] at h2 ⊢
 cases hx:x.getLsbD i <;> cases hy:y.getLsbD i <;> simp_all
theorem zoO {X j b:Nat} (hb:b<2 ^ j):(X*2 ^ j) &&& b=0:=by
 apply Nat.eq_of_testBit_eq
 intro i
 rw[Nat.testBit_and,Nat.zero_testBit,←Nat.shiftLeft_eq,Nat.testBit_shiftLeft]
 by_cases hi:j≤i
 ·have:b.testBit i=false:=Nat.testBit_lt_two_pow (Nat.lt_of_lt_of_le hb (Nat.pow_le_pow_right (by decide) hi))
  rw[this];simp
 ·simp[hi]
theorem zmf {a b:Nat} (ha:a<18446744073709551616) (hb:b<18446744073709551616) (h:a &&& b=0):iandn .u64 a b=(a:Int):=by
 unfold iandn
 show IntKind.u64.wrap ((BitVec.ofInt 64 (a:Int) &&& ~~~ BitVec.ofInt 64 (b:Int)).toNat:Int)=_
 rw[wd,wd,zpg ?_]
 ·rw[BitVec.toNat_ofNat,Nat.mod_eq_of_lt ha]
  exact wu64 (by omega) (by omega)
 ·apply BitVec.eq_of_toNat_eq
  rw[BitVec.toNat_and,BitVec.toNat_ofNat,BitVec.toNat_ofNat,Nat.mod_eq_of_lt ha,Nat.mod_eq_of_lt hb,h]
  rfl
theorem zaU {X j b:Nat} (hb:b<2 ^ j):(X*2 ^ j) ||| b=X*2 ^ j+b:=by
 rw[←Nat.shiftLeft_eq,Nat.shiftLeft_add_eq_or_of_lt hb]
def wrd (k a b c n:Int):Int:=k*67108864+a*4194304+b*262144+(if fC (cls k)=true then c else n%65536)
theorem jC {a s:Nat} (hs:s≤63) (h:a*2 ^ s<18446744073709551616):ishl .u64 (a:Int) (s:Int)=((a*2 ^ s:Nat):Int):=by
 unfold ishl
 have e:min ((s:Int)).toNat IntKind.u64.bits=s:=by
  show min ((s:Int)).toNat 64=s
  simp;omega
 rw[e]
 have e2:((a:Int)*2 ^ s)=((a*2 ^ s:Nat):Int):=by push_cast;rfl
 rw[e2]
 exact wu64 (by omega) (by omega)
theorem kz {a s:Nat} (hs:s≤63):ishr .u64 (a:Int) (s:Int)=((a/2 ^ s:Nat):Int):=by
 unfold ishr
 have e:min ((s:Int)).toNat IntKind.u64.bits=s:=by
  show min ((s:Int)).toNat 64=s
  simp;omega
 rw[e]
 have e2:((2:Int) ^ s)=((2 ^ s:Nat):Int):=by push_cast;rfl
 rw[e2,Int.fdiv_eq_ediv_of_nonneg _ (Int.natCast_nonneg _)]
 exact (Int.natCast_ediv _ _).symm
theorem zgI {n:Nat} (h0:0<n) (hn:n≤63):IntKind.u64.wrap (ishl .u64 1 (n:Int)-1)=((2 ^ n-1:Nat):Int):=by
 have hp:2 ^ n<18446744073709551616:=Nat.lt_of_le_of_lt (Nat.pow_le_pow_right (by decide) hn) (by decide)
 have hp0:0<2 ^ n:=Nat.two_pow_pos n
 have:=jC (a:=1) hn (by rw[Nat.one_mul];exact hp)
 rw[Nat.one_mul] at this
 rw[show ((1:Nat):Int)=1 from rfl] at this
 rw[this,show ((2 ^ n:Nat):Int)-1=((2 ^ n-1:Nat):Int) by omega]
 exact wu64 (by omega) (by omega)
def dK (w:Int):Int:=w/67108864%64
def dA (w:Int):Int:=w/4194304%16
def dB (w:Int):Int:=w/262144%16
def dC (w:Int):Int:=if fC (cls (dK w))=true then w%16 else 0
def dN (w:Int):Int:=if fC (cls (dK w))=true then 0 else IntKind.i16.wrap (w%65536)
theorem zqA (x:Int) : -32768≤IntKind.i16.wrap x∧IntKind.i16.wrap x≤32767:=by
 simp[IntKind.wrap,IntKind.bits,IntKind.signed];omega
theorem zry (w:Int):Bd (dK w) (dA w) (dB w) (dC w) (dN w):=by
 refine⟨by unfold dK;omega,by unfold dA;omega,by unfold dB;omega,?_,?_⟩
 ·unfold dC;split <;> omega
 ·unfold dN;split
  ·decide
  ·exact zqA _
def isW (w:Int):Prop:=Rt (dK w) (dA w) (dB w) (dC w) (dN w)∧wrd (dK w) (dA w) (dB w) (dC w) (dN w)=w
instance (w:Int):Decidable (isW w):=by unfold isW;infer_instance
end Go.Cr
namespace Go.Proofs.YthaiblbnpcgjpaaGreatDoor
open Go Go.Pt Go.Cr
section
variable {S:Mem}
theorem zbp {c:Int} {Q:List Value→Mem→Prop} (hQ:Q (kdL (cls c)) S):jb S c Q:=by
 apply zgp
 unfold fc
 simp only[jn,if_true,Bool.false_eq_true,if_false]
 have key:∀ m,cls c=m→Q (kdL m) S:=fun m h=>by rw[←h];exact hQ
 by_cases h0:c=0
 ·rw[if_pos h0];exact key 0 (by unfold cls;rw[if_pos (by omega)])
 rw[if_neg h0]
 by_cases h21:c=21
 ·rw[if_pos h21];exact key 0 (by unfold cls;rw[if_pos (by omega)])
 rw[if_neg h21]
 by_cases h22:c=22
 ·rw[if_pos h22];exact key 0 (by unfold cls;rw[if_pos (by omega)])
 rw[if_neg h22]
 by_cases h1:c=1
 ·rw[if_pos h1];exact key 1 (by unfold cls;rw[if_neg (by omega),if_pos (by omega)])
 rw[if_neg h1]
 by_cases h2:c=2
 ·rw[if_pos h2];exact key 1 (by unfold cls;rw[if_neg (by omega),if_pos (by omega)])
 rw[if_neg h2]
 by_cases h18:c=18
 ·rw[if_pos h18];exact key 1 (by unfold cls;rw[if_neg (by omega),if_pos (by omega)])
 rw[if_neg h18]
 by_cases h19:c=19
 ·rw[if_pos h19];exact key 1 (by unfold cls;rw[if_neg (by omega),if_pos (by omega)])
 rw[if_neg h19]
 by_cases h20:c=20
 ·rw[if_pos h20];exact key 2 (by unfold cls;rw[if_neg (by omega),if_neg (by omega),if_pos (by omega)])
 rw[if_neg h20]
 by_cases h11:c=11
 ·rw[if_pos h11];exact key 3 (by unfold cls;rw[if_neg (by omega),if_neg (by omega),if_neg (by omega),if_pos (by omega)])
 rw[if_neg h11]
 by_cases h12:c=12
 ·rw[if_pos h12];exact key 3 (by unfold cls;rw[if_neg (by omega),if_neg (by omega),if_neg (by omega),if_pos (by omega)])
 rw[if_neg h12]
 by_cases h13:c=13
 ·rw[if_pos h13];exact key 3 (by unfold cls;rw[if_neg (by omega),if_neg (by omega),if_neg (by omega),if_pos (by omega)])
 rw[if_neg h13]
 by_cases h14:c=14
 ·rw[if_pos h14];exact key 3 (by unfold cls;rw[if_neg (by omega),if_neg (by omega),if_neg (by omega),if_pos (by omega)])
 rw[if_neg h14]
 by_cases h15:c=15
 ·rw[if_pos h15];exact key 3 (by unfold cls;rw[if_neg (by omega),if_neg (by omega),if_neg (by omega),if_pos (by omega)])
 rw[if_neg h15]
 by_cases h16:c=16
 ·rw[if_pos h16];exact key 3 (by unfold cls;rw[if_neg (by omega),if_neg (by omega),if_neg (by omega),if_pos (by omega)])
 rw[if_neg h16]
 by_cases h17:c=17
 ·rw[if_pos h17];exact key 3 (by unfold cls;rw[if_neg (by omega),if_neg (by omega),if_neg (by omega),if_pos (by omega)])
 rw[if_neg h17]
 exact⟨rfl,key 4 (by unfold cls;rw[if_neg (by omega),if_neg (by omega),if_neg (by omega),if_neg (by omega)])⟩
theorem zfA {c:Int} (h0:0≤c) (h1:c<23) {Q:Int→Mem→Prop} (hQ:∀ S',Keeps S S' []→Q (rf (cls c)) S'):yI S c Q:=by
 apply gd
 unfold yl
 intro b hb
 refine⟨h0,h1,?_⟩
 have hq:=hQ (S.set b (bw 3 ([.int .i64 0,.int .i64 9,.int .i64 9,.int .i64 7,.int .i64 7,.int .i64 7,.int .i64 7,.int .i64 7,.int .i64 7,.int .i64 7,.int .i64 7,.int .i64 11,.int .i64 11,.int .i64 11,.int .i64 11,.int .i64 11,.int .i64 11,.int .i64 11,.int .i64 9,.int .i64 9,.int .i64 8,.int .i64 0,.int .i64 0]))) (Keeps.refl.new hb)
 rw[zx (n:=rf (cls c)) ?_]
 ·exact hq
 ·rw[qj zz]
  have:∀ i:Fin 23,nthL ([.int .i64 0,.int .i64 9,.int .i64 9,.int .i64 7,.int .i64 7,.int .i64 7,.int .i64 7,.int .i64 7,.int .i64 7,.int .i64 7,.int .i64 7,.int .i64 11,.int .i64 11,.int .i64 11,.int .i64 11,.int .i64 11,.int .i64 11,.int .i64 11,.int .i64 9,.int .i64 9,.int .i64 8,.int .i64 0,.int .i64 0]:List Value) (0+i.1*1)=some (.int .i64 (rf (cls (i.1:Int)))):=by
   rintro⟨i,hi⟩
   match i,hi with
   | 0,_=>rfl
   | 1,_=>rfl
   | 2,_=>rfl
   | 3,_=>rfl
   | 4,_=>rfl
   | 5,_=>rfl
   | 6,_=>rfl
   | 7,_=>rfl
   | 8,_=>rfl
   | 9,_=>rfl
   | 10,_=>rfl
   | 11,_=>rfl
   | 12,_=>rfl
   | 13,_=>rfl
   | 14,_=>rfl
   | 15,_=>rfl
   | 16,_=>rfl
   | 17,_=>rfl
   | 18,_=>rfl
   | 19,_=>rfl
   | 20,_=>rfl
   | 21,_=>rfl
   | 22,_=>rfl
   | n+23,h=>exact absurd h (by omega)
  have h2:=this ⟨c.toNat,by omega⟩
  rw[show ((⟨c.toNat,by omega⟩:Fin 23).1:Int)=c by simp;omega] at h2
  exact h2
theorem zne {f:Bool} {r:Int} {Q:Bool→Mem→Prop} (hQ:Q (decide (regR f r)) S):gX S f r Q:=by
 apply zeF
 unfold jt
 unfold regR at hQ
 by_cases h:r=0
 ·rw[if_pos h];simp only[h,true_or,decide_true] at hQ;exact hQ
 ·rw[if_neg h]
  cases f with
  | true=>rw[if_pos rfl];simpa [h] using hQ
  | false=>rw[if_neg (by decide)];simpa [h] using hQ
theorem zmn {f:Bool} {r:Int} {K:Bool→Mem→Prop} (hK:K (decide (regR f r)) S):cv Tryz.prog S (.func (.func 245) #[] #[]) [.bool f,.int .u8 r] fun rv S'=>∃ t:Bool,rv=.bool t∧K t S':=by
 refine⟨245,[],[],rfl,inferInstance,?_⟩
 have h:=zne (f:=f) (r:=r) (Q:=K) hK
 unfold gX at h
 exact Tr.mono h fun v S' ⟨r0,h1,h2⟩=>⟨r0,h1,h2⟩
theorem zkk {k a b c n:Int} {Q:Bool→Mem→Prop} (hQ:Q (decide (Rt k a b c n)) S):zdf S (opL k a b c n) Q:=by
 have g0:nthL (opL k a b c n) 0=some (.int .u8 k):=rfl
 have g1:nthL (opL k a b c n) 1=some (.int .u8 a):=rfl
 have g2:nthL (opL k a b c n) 2=some (.int .u8 b):=rfl
 have g3:nthL (opL k a b c n) 3=some (.int .u8 c):=rfl
 have g4:nthL (opL k a b c n) 4=some (.int .i16 n):=rfl
 have no:¬Rt k a b c n→Q false S:=fun h=>by rw[decide_eq_false h] at hQ;exact hQ
 apply zhl
 unfold zag
 refine⟨rfl,?_⟩
 rw[zx g0]
 refine zbp ⟨rfl,?_⟩
 refine zZ (fun j=>k<23→regR (fA (cls k)) a→regR (fB (cls k)) b→regR (fC (cls k)) c→(fN (cls k)=true∨n=0)→j S) ?_ fun j hj=>?_
 ·intro h1 h2 h3 h4 h5
  have fin:∀ (p:Prop) [Decidable p],(p↔(k=18∨k=19→0≤n∧n<9))→Q (decide p) S:=fun p _ hp=>by
   have:decide p=decide (Rt k a b c n):=decide_eq_decide.2 ⟨fun h=>⟨h1,h2,h3,h4,h5,hp.1 h⟩,fun h=>hp.2 h.rw⟩
   rw[this];exact hQ
  rw[zx g0]
  by_cases h18:k=18
  ·rw[if_pos h18,zx g4]
   by_cases h0:0≤n
   ·rw[if_pos h0,zx g4]
    exact fin _ ⟨fun h _=>⟨h0,h⟩,fun h=>(h (.inl h18)).2⟩
   ·rw[if_neg h0];exact no fun h=>h0 (h.rw (.inl h18)).1
  rw[if_neg h18,zx g0]
  by_cases h19:k=19
  ·rw[if_pos h19,zx g4]
   by_cases h0:0≤n
   ·rw[if_pos h0,zx g4]
    exact fin _ ⟨fun h _=>⟨h0,h⟩,fun h=>(h (.inr h19)).2⟩
   ·rw[if_neg h0];exact no fun h=>h0 (h.rw (.inr h19)).1
  rw[if_neg h19]
  have:=fin True ⟨fun _ h=>by omega,fun _=>trivial⟩
  simpa using this
 ·rw[zx g0]
  by_cases h1:23≤k
  ·rw[if_pos h1];exact no fun h=>by have:=h.kk;omega
  rw[if_neg h1,fo (show nthL (kdL (cls k)) 0=some (.bool (fA (cls k))) from rfl),zx g1]
  refine zmn ?_
  by_cases h2:regR (fA (cls k)) a
  rotate_left
  ·rw[decide_eq_false h2,if_neg (by decide)];exact no fun h=>h2 h.aa
  rw[decide_eq_true h2,if_pos rfl,fo (show nthL (kdL (cls k)) 1=some (.bool (fB (cls k))) from rfl),zx g2]
  refine zmn ?_
  by_cases h3:regR (fB (cls k)) b
  rotate_left
  ·rw[decide_eq_false h3,if_neg (by decide)];exact no fun h=>h3 h.bb
  rw[decide_eq_true h3,if_pos rfl,fo (show nthL (kdL (cls k)) 2=some (.bool (fC (cls k))) from rfl),zx g3]
  refine zmn ?_
  by_cases h4:regR (fC (cls k)) c
  rotate_left
  ·rw[decide_eq_false h4,if_neg (by decide)];exact no fun h=>h4 h.cc
  rw[decide_eq_true h4,if_pos rfl,fo (show nthL (kdL (cls k)) 3=some (.bool (fN (cls k))) from rfl)]
  by_cases h5:fN (cls k)=true
  ·rw[if_pos h5];exact hj (by omega) h2 h3 h4 (.inl h5)
  rw[if_neg h5,zx g4]
  by_cases h6:n=0
  ·rw[if_neg (by simpa using h6)];exact hj (by omega) h2 h3 h4 (.inr h6)
  ·rw[if_pos h6];exact no fun h=>by rcases h.nn with h | h <;> contradiction
theorem fD {w v X j:Nat} {at_ n:Nat} (hw:w=X*2 ^ j) (hj:at_+n≤j) (hj2:j≤63) (hn:0<n) (hv:v<2 ^ n) (hw64:w<18446744073709551616) {Q:Int→Mem→Prop} (hQ:Q ((w+v*2 ^ at_:Nat):Int) S):yc S (w:Int) at_ n (v:Int) Q:=by
 apply gu
 unfold ve
 have hpn:2 ^ n<18446744073709551616:=Nat.lt_of_le_of_lt (Nat.pow_le_pow_right (by decide) (show n≤63 by omega)) (by decide)
 have hpj:2 ^ j<18446744073709551616:=Nat.lt_of_le_of_lt (Nat.pow_le_pow_right (by decide) hj2) (by decide)
 have hp0:0<2 ^ n:=Nat.two_pow_pos n
 have hpa:0<2 ^ at_:=Nat.two_pow_pos at_
 have hmul:2 ^ n*2 ^ at_≤2 ^ j:=by rw[←Nat.pow_add];exact Nat.pow_le_pow_right (by decide) (by omega)
 have hm1:(2 ^ n-1)*2 ^ at_<2 ^ j:=Nat.lt_of_lt_of_le (Nat.mul_lt_mul_of_pos_right (by omega) hpa) hmul
 have hv1:v*2 ^ at_<2 ^ j:=Nat.lt_of_lt_of_le (Nat.mul_lt_mul_of_pos_right hv hpa) hmul
 refine zZ (fun j=>j S) ?_ fun j0 hj0=>by rw[if_neg (by omega),if_neg (by omega),if_neg (by omega)];exact hj0
 refine zZ (fun j0=>j0 ((2 ^ n-1:Nat):Int) S) ?_ fun j0 hj0=>?_
 ·refine⟨by omega,by omega,?_⟩
  rw[jC (by omega) (by omega),zmf hw64 (by omega) (by rw[hw];exact zoO hm1)]
  rw[yr (by omega) (by omega),Nat.and_two_pow_sub_one_eq_mod,Nat.mod_eq_of_lt hv,jC (by omega) (by omega),fO hw64 (by omega),hw,zaU hv1,←hw]
  exact hQ
 ·rw[if_pos (by omega)]
  refine⟨by omega,?_⟩
  rw[zgI hn (by omega)]
  exact hj0
theorem gi {w at_ n:Nat} (ha:at_≤63) (hn:0<n) (hn2:n≤63) (hw64:w<18446744073709551616) {Q:Int→Mem→Prop} (hQ:Q ((w/2 ^ at_%2 ^ n:Nat):Int) S):yG S (w:Int) at_ n Q:=by
 apply zdt
 unfold jG
 have hpn:2 ^ n<18446744073709551616:=Nat.lt_of_le_of_lt (Nat.pow_le_pow_right (by decide) hn2) (by decide)
 refine zZ (fun j=>j S) ?_ fun j0 hj0=>by rw[if_neg (by omega),if_neg (by omega),if_neg (by omega)];exact hj0
 refine⟨by omega,?_⟩
 have hd:w/2 ^ at_≤w:=Nat.div_le_self _ _
 rw[if_pos (by omega)]
 refine⟨by omega,?_⟩
 rw[zgI hn hn2,kz ha,yr (by omega) (by omega),Nat.and_two_pow_sub_one_eq_mod]
 exact hQ
theorem ziT {k a b c n:Int} (hb:Bd k a b c n) {Q:Int→Bool→Mem→Prop} (hY:Rt k a b c n→Q (wrd k a b c n) true S) (hN:¬Rt k a b c n→Q 0 false S):zbt S (opL k a b c n) Q:=by
 apply zgq
 unfold fd
 refine⟨rfl,?_⟩
 refine zZ (fun j=>Rt k a b c n→j S) ?_ fun j hj=>?_
 rotate_left
 ·refine zkk ?_
  by_cases hr:Rt k a b c n
  ·rw[decide_eq_true hr,if_pos rfl];exact hj hr
  ·rw[decide_eq_false hr,if_neg (by decide)];exact hN hr
 intro hr
 have h1:=hb.kk
 have h2:=hb.aa
 have h3:=hb.bb
 have h4:=hb.cc
 have h5:=hb.nn
 have hq:=hY hr
 have hk:=hr.kk
 have ha:=hr.aa
 have hbb:=hr.bb
 have hcc:=hr.cc
 unfold regR at ha hbb hcc
 have g0:nthL (opL k a b c n) 0=some (.int .u8 k):=rfl
 have g1:nthL (opL k a b c n) 1=some (.int .u8 a):=rfl
 have g2:nthL (opL k a b c n) 2=some (.int .u8 b):=rfl
 have g3:nthL (opL k a b c n) 3=some (.int .u8 c):=rfl
 have g4:nthL (opL k a b c n) 4=some (.int .i16 n):=rfl
 generalize opL k a b c n=o at *
 obtain⟨kk,hkk⟩:∃ m:Nat,k=m:=⟨k.toNat,by omega⟩
 obtain⟨aa,haa⟩:∃ m:Nat,a=m:=⟨a.toNat,by omega⟩
 obtain⟨bb,hbb'⟩:∃ m:Nat,b=m:=⟨b.toNat,by omega⟩
 obtain⟨cc,hcc'⟩:∃ m:Nat,c=m:=⟨c.toNat,by omega⟩
 obtain⟨nn,hnn⟩:∃ m:Nat,n%65536=m:=⟨(n%65536).toNat,by omega⟩
 rw[zx g0,wu64 h1.1 (by omega),hkk]
 refine fD (w:=0) (v:=kk) (X:=0) (j:=63) (at_:=26) (n:=6) (by simp) (by decide) (by decide) (by decide) (by omega) (by decide) ?_
 rw[zx g1,wu64 h2.1 (by omega),haa]
 refine fD (v:=aa) (X:=kk) (j:=26) (at_:=22) (n:=4) (by simp) (by decide) (by decide) (by decide) (by omega) (by omega) ?_
 rw[zx g2,wu64 h3.1 (by omega),hbb']
 refine fD (v:=bb) (X:=kk*16+aa) (j:=22) (at_:=18) (n:=4) (by omega) (by decide) (by decide) (by decide) (by omega) (by omega) ?_
 refine zZ (fun j=>fC (cls k)=false→j S) ?_ fun j hj=>?_
 ·intro hf
  have hw16:IntKind.u16.wrap n=n%65536:=by simp[IntKind.wrap,IntKind.bits,IntKind.signed]
  rw[zx g4,hw16,wu64 (by omega) (by omega),hnn]
  refine fD (v:=nn) (X:=kk*256+aa*16+bb) (j:=18) (at_:=0) (n:=16) (by omega) (by decide) (by decide) (by decide) (by omega) (by omega) ?_
  have e:IntKind.u32.wrap (((0+kk*2 ^ 26+aa*2 ^ 22+bb*2 ^ 18+nn*2 ^ 0:Nat)):Int)=wrd k a b c n:=by
   rw[wu32 (by omega) (by omega)]
   unfold wrd
   rw[hf,if_neg (by decide)]
   omega
  rw[e];exact hq
 ·rw[zx g0]
  refine zbp ?_
  rw[fo (show nthL (kdL (cls k)) 2=some (.bool (fC (cls k))) from rfl)]
  by_cases hf:fC (cls k)=true
  ·rw[if_pos hf,zx g3,wu64 h4.1 (by omega),hcc']
   refine fD (v:=cc) (X:=kk*256+aa*16+bb) (j:=18) (at_:=0) (n:=4) (by omega) (by decide) (by decide) (by decide) (by omega) (by omega) ?_
   have e:IntKind.u32.wrap (((0+kk*2 ^ 26+aa*2 ^ 22+bb*2 ^ 18+cc*2 ^ 0:Nat)):Int)=wrd k a b c n:=by
    rw[wu32 (by omega) (by omega)]
    unfold wrd
    rw[if_pos hf]
    omega
   rw[e];exact hq
  ·rw[if_neg hf];exact hj (by simpa using hf)
theorem ziY {w:Int} (h0:0≤w) (h1:w≤4294967295) {Q:List Value→Bool→Mem→Prop} (hY:isW w→Q (opL (dK w) (dA w) (dB w) (dC w) (dN w)) true S) (hN:¬isW w→Q (opL 0 0 0 0 0) false S):zbu S w Q:=by
 apply zgr
 unfold fe
 obtain⟨m,rfl⟩:∃ m:Nat,w=m:=⟨w.toNat,by omega⟩
 rw[wu64 (x:=(m:Int)) (by omega) (by omega)]
 refine gi (w:=m) (at_:=26) (n:=6) (by decide) (by decide) (by decide) (by omega) ?_
 refine gi (w:=m) (at_:=22) (n:=4) (by decide) (by decide) (by decide) (by omega) ?_
 refine gi (w:=m) (at_:=18) (n:=4) (by decide) (by decide) (by decide) (by omega) ?_
 have eK:IntKind.u8.wrap ((m/2 ^ 26%2 ^ 6:Nat):Int)=dK m:=by rw[wu8 (by omega) (by omega)];unfold dK;omega
 have eA:IntKind.u8.wrap ((m/2 ^ 22%2 ^ 4:Nat):Int)=dA m:=by rw[wu8 (by omega) (by omega)];unfold dA;omega
 have eB:IntKind.u8.wrap ((m/2 ^ 18%2 ^ 4:Nat):Int)=dB m:=by rw[wu8 (by omega) (by omega)];unfold dB;omega
 rw[eK,eA,eB]
 refine zZ (fun j=>j (opL (dK m) (dA m) (dB m) (dC m) (dN m)) S) ?_ fun j hj=>?_
 ·refine⟨rfl,?_⟩
  refine ziT (zry m) (fun hr=>?_) fun hr=>?_
  ·rw[if_pos rfl]
   by_cases he:wrd (dK m) (dA m) (dB m) (dC m) (dN m)=m
   ·rw[if_neg (by simpa using he)]
    exact⟨rfl,hY ⟨hr,he⟩⟩
   ·rw[if_pos he];exact hN fun h=>he h.2
  ·rw[if_neg (by decide)];exact hN fun h=>hr h.1
 ·refine zbp ?_
  rw[fo (show nthL (kdL (cls (dK m))) 2=some (.bool (fC (cls (dK m)))) from rfl)]
  by_cases hf:fC (cls (dK m))=true
  ·rw[if_pos hf]
   refine gi (w:=m) (at_:=0) (n:=4) (by decide) (by decide) (by decide) (by omega) ?_
   have eC:IntKind.u8.wrap ((m/2 ^ 0%2 ^ 4:Nat):Int)=dC m:=by rw[wu8 (by omega) (by omega)];unfold dC;rw[if_pos hf];omega
   have eN:dN m=0:=by unfold dN;rw[if_pos hf]
   rw[eC];rw[eN] at hj;exact hj
  ·rw[if_neg hf]
   refine gi (w:=m) (at_:=0) (n:=16) (by decide) (by decide) (by decide) (by omega) ?_
   have eC:dC m=0:=by unfold dC;rw[if_neg hf]
   have eN:IntKind.i16.wrap ((m/2 ^ 0%2 ^ 16:Nat):Int)=dN m:=by unfold dN;rw[if_neg hf];congr 1;omega
   rw[eN];rw[eC] at hj;exact hj
end
end Go.Proofs.YthaiblbnpcgjpaaGreatDoor
end
namespace Go.Cr
section
open Go Go.Pt
structure GM where
 map:Nat→Option (Nat×Bool)
 dat:Nat→List Int
def Byt (l:List Int):Prop:=∀ x∈l,0≤x∧x≤255
structure GM.Ok (g:GM):Prop where
 pg:∀ p,32≤p→g.map p=none
 len:∀ p f w,g.map p=some (f,w)→(g.dat f).length=256
 byt:∀ p f w,g.map p=some (f,w)→Byt (g.dat f)
def num:List Int→Int
 | []=>0
 | x :: l=>x+256*num l
theorem zfV:∀ {l:List Int},Byt l→0≤num l∧num l<256 ^ l.length
 | [],_=>by simp[num]
 | x :: l,h=>by
  have h1:=h x (by simp)
  have h2:=zfV (l:=l) fun y hy=>h y (by simp[hy])
  simp only[num,List.length_cons,Int.pow_succ]
  omega
theorem zfW:∀ (l r:List Int),num (l++r)=num l+256 ^ l.length*num r
 | [],r=>by simp[num]
 | x :: l,r=>by
  simp only[List.cons_append,num,List.length_cons,Int.pow_succ,zfW l r]
  rw[Int.mul_add,Int.mul_comm (256 ^ l.length) 256,Int.mul_assoc]
  omega
def bytes8 (w:Int):List Int:=(List.range 8).map fun i=>w/2 ^ (8*i)%256
theorem xf (w:Int):(bytes8 w).length=8:=by simp[bytes8]
theorem kJ (w:Int):Byt (bytes8 w):=fun x hx=>by
 obtain⟨i,_,rfl⟩:=List.mem_map.1 hx
 omega
def ldB (g:GM) (page off n:Nat):Option (List Int):=(g.map page).map fun q=>((g.dat q.1).drop off).take n
theorem zgM {g:GM} (hg:g.Ok) {page off n:Nat} {l:List Int} (h:ldB g page off n=some l) (hn:off+n≤256):l.length=n∧Byt l:=by
 unfold ldB at h
 cases hm:g.map page with
 | none=>rw[hm] at h;cases h
 | some q=>
  rw[hm] at h
  simp only[Option.map_some,Option.some.injEq] at h
  subst h
  have hl:=hg.len page q.1 q.2 hm
  refine⟨by simp only[List.length_take,List.length_drop];omega,fun x hx=>hg.byt page q.1 q.2 hm x (List.mem_of_mem_drop (List.mem_of_mem_take hx))⟩
def place (s:Seat) (g:GM) (addr:Int) (wr:Bool):Option (Nat×Nat):=
 if 31<addr/256 then none
 else if s.base=0 then some ((addr/256).toNat,(addr%256).toNat)
 else if 31<s.base/256 then none
 else match ldB g (s.base/256).toNat (8*(addr/256)).toNat 8 with
  | none=>none
  | some p=>if num p%2=0∨(wr=true∧num p/2%2=0)∨31<num p/256 then none else some ((num p/256).toNat,(addr%256).toNat)
theorem zgC {s:Seat} {g:GM} (hg:g.Ok) {addr:Int} (ha:W64 addr) {wr:Bool} {q:Nat×Nat} (h:place s g addr wr=some q):q.1≤31∧q.2=(addr%256).toNat∧q.2≤255:=by
 unfold place at h
 split at h
 ·cases h
 ·split at h
  ·cases h;exact⟨by show (addr/256).toNat≤31;omega,rfl,by show (addr%256).toNat≤255;omega⟩
  ·split at h
   ·cases h
   ·split at h
    ·cases h
    ·rename_i p hp
     have hb:=zgM hg hp (by omega)
     have:=zfV hb.2
     split at h
     ·cases h
     ·cases h;exact⟨by show (num p/256).toNat≤31;omega,rfl,by show (addr%256).toNat≤255;omega⟩
def getW (s:Seat) (g:GM) (addr:Int) (n:Nat):Option Int:=match place s g addr false with
 | none=>none
 | some q=>if addr%n≠0 then none else (ldB g q.1 q.2 n).map num
def wrB (g:GM) (f off:Nat) (l:List Int):GM:={ g with dat:=fun x=>if x=f then (g.dat f).take off++l++(g.dat f).drop (off+l.length) else g.dat x }
def putW (s:Seat) (g:GM) (addr w:Int):Option GM:=match place s g addr true with
 | none=>none
 | some q=>if addr%8≠0 then none else match g.map q.1 with
  | some (f,true)=>some (wrB g f q.2 (bytes8 w))
  | _=>none
structure Out where
 s:Seat
 k:Int
 n:Int
 g:GM
def trapM (s:Seat) (g:GM) (c a:Int):Out:=⟨s.trap c a,if (s.trap c a).st=2 then 4 else 1,c,g⟩
def x64 (n:Int):Int:=IntKind.u64.wrap n
def getR (s:Seat) (time:Int) (me:Int) (n:Int):Int:=if n=0 then s.base else if n=1 then s.vec else if n=2 then s.epc else if n=3 then s.cause else if n=4 then s.addr else if n=5 then s.mask else if n=6 then (if s.opn=true then 1 else 0) else if n=7 then time else me
def setR (s:Seat) (n v:Int):Option Seat:=if n=0 then some { s with base:=v } else if n=1 then some { s with vec:=v } else if n=2 then some { s with epc:=v } else if n=3 then some { s with cause:=v } else if n=4 then some { s with addr:=v } else if n=5 then some { s with mask:=v%256 } else if n=6 then some { s with opn:=decide (v%2=1) } else none
def sumM (k b c:Int):Int:=if k=3 then x64 (b+c) else if k=4 then x64 (b-c) else if k=5 then x64 (b*c) else if k=6 then iand .u64 b c else if k=7 then ior .u64 b c else if k=8 then ixor .u64 b c else if k=9 then ishl .u64 b (c%64) else ishr .u64 b (c%64)
def Seat.r (s:Seat) (i:Int):Int:=s.R.getD i.toNat 0
def Seat.setr (s:Seat) (i v:Int):Seat:={ s with R:=s.R.set i.toNat v }
def doM (s:Seat) (g:GM) (time me k a b c n:Int):Out:=
 let N:=x64 n
 let nx:=x64 (s.pc+4)
 let ok (t:Seat) (pc:Int):Out:=⟨{ t with pc:=pc },0,0,g⟩
 if k=1 then ok (s.setr a N) nx
 else if k=2 then ok (s.setr a (x64 (s.r a%65536+x64 (N*65536)))) nx
 else if k=11 then ok (s.setr a (x64 (s.r b+N))) nx
 else if k=12 then match getW s g (x64 (s.r b+N)) 8 with
  | some v=>ok (s.setr a v) nx
  | none=>trapM s g 3 (x64 (s.r b+N))
 else if k=13 then match putW s g (x64 (s.r b+N)) (s.r a) with
  | some g'=>⟨{ s with pc:=nx },0,0,g'⟩
  | none=>trapM s g 4 (x64 (s.r b+N))
 else if k=14 then ok s (if s.r a=s.r b then x64 (s.pc+x64 (4*N)) else nx)
 else if k=15 then ok s (if s.r a≠s.r b then x64 (s.pc+x64 (4*N)) else nx)
 else if k=16 then ok s (if IntKind.i64.wrap (s.r a)<IntKind.i64.wrap (s.r b) then x64 (s.pc+x64 (4*N)) else nx)
 else if k=17 then ok (s.setr a nx) (x64 (s.r b+N))
 else if k=18 then ok (s.setr a (getR s time me n)) nx
 else if k=19 then match setR s n (s.r a) with
  | some t=>ok t nx
  | none=>trapM s g 1 s.pc
 else if k=20 then ⟨{ s with pc:=nx },2,N,g⟩
 else if k=21 then if s.may=0 then ⟨{ s with pc:=nx,st:=1 },3,0,g⟩ else ⟨{ s with pc:=nx },0,0,g⟩
 else if k=22 then ⟨s.back,0,0,g⟩
 else if 3≤k then ok (s.setr a (sumM k (s.r b) (s.r c))) nx
 else ok s nx
def stepM (s:Seat) (g:GM) (time me:Int):Out:=
 if s.st≠0 then ⟨s,5,0,g⟩
 else match nextL s with
  | some n=>trapM { s with pend:=s.pend-2 ^ n } g (16+n) 0
  | none=>match getW s g s.pc 4 with
   | none=>trapM s g 2 s.pc
   | some w=>if isW w then doM s g time me (dK w) (dA w) (dB w) (dC w) (dN w) else trapM s g 1 w
end
end Go.Cr
section
namespace Go.Cr
open Go Go.Pt
structure By (S:Mem) (p:Sl) (xs:List Int):Prop where
 len:xs.length=p.n
 cap:p.n≤p.c
 bd:Byt xs
 lie:p.n=0∨∃ b o,p.p=some (b,o)∧∀ i (h:i<xs.length),S.cell b (o+i)=some (.int .u8 xs[i])
theorem zlH {a b j:Nat} (ha:a<2 ^ j):a ||| (b*2 ^ j)=a+b*2 ^ j:=by
 rw[Nat.or_comm,zaU ha,Nat.add_comm]
theorem zjf (m i:Nat):m &&& 2 ^ i=2 ^ i*(m/2 ^ i%2):=by
 apply Nat.eq_of_testBit_eq
 intro j
 rw[Nat.testBit_and,Nat.testBit_two_pow]
 have ht:m.testBit i=decide (m/2 ^ i%2=1):=Nat.testBit_eq_decide_div_mod_eq
 rcases Nat.mod_two_eq_zero_or_one (m/2 ^ i) with h | h
 ·rw[h,Nat.mul_zero,Nat.zero_testBit]
  by_cases hj:i=j
  ·subst hj;rw[ht,h];rfl
  ·simp[hj]
 ·rw[h,Nat.mul_one,Nat.testBit_two_pow]
  by_cases hj:i=j
  ·subst hj;rw[ht,h];rfl
  ·simp[hj]
theorem pow256 (i:Nat):(256:Int) ^ i=((2 ^ (8*i):Nat):Int):=by
 have:(2:Nat) ^ (8*i)=256 ^ i:=by rw[Nat.pow_mul]
 rw[this,Int.natCast_pow];rfl
end Go.Cr
namespace Go.Proofs.YthaiblbnpcgjpaaGreatDoor
open Go Go.Pt Go.Cr
section
variable {S:Mem}
theorem zcR {p:Sl} {xs:List Int} (hp:By S p xs) (h8:xs.length≤8) {Q:Int→Mem→Prop} (hQ:Q (num xs) S):zen S p Q:=by
 apply zli
 unfold zfq
 refine zZ (fun j=>j (num xs) S) hQ fun Jx hJ=>?_
 have hlen:=hp.len
 refine zC (fun (z:Int×Int) S'=>∃ i:Nat,z=(num (xs.take i),(i:Int))∧i≤xs.length∧S'=S) (fun z=>xs.length-z.2.toNat) ?_ ⟨0,rfl,by omega,rfl⟩
 rintro X z S' ⟨i,rfl,hi,rfl⟩ ih
 dsimp only at ih ⊢
 by_cases hlt:(i:Int)<(p.n:Int)
 ·rw[if_pos hlt]
  rcases hp.lie with h0 | ⟨b,o,hpp,hc⟩
  ·omega
  have hil:i<xs.length:=by omega
  have hx:=hp.bd _ (List.getElem_mem hil)
  obtain⟨pp,pn,pc⟩:=p
  simp only at hpp hlt hlen
  subst hpp
  rw[fi]
  refine⟨by omega,by omega,?_⟩
  rw[show o+(i:Int).toNat*1=o+i by omega,zx (hc i hil),if_pos (by omega),w64 (x:=8*(i:Int)) (by omega) (by omega)]
  refine⟨by omega,?_⟩
  obtain⟨x,hxx⟩:∃ m:Nat,xs[i]=m:=⟨xs[i].toNat,by omega⟩
  have hb:=zfV (l:=xs.take i) fun y hy=>hp.bd y (List.mem_of_mem_take hy)
  rw[List.length_take,Nat.min_eq_left (by omega),pow256] at hb
  obtain⟨m,hm⟩:∃ m:Nat,num (xs.take i)=m:=⟨(num (xs.take i)).toNat,by omega⟩
  have hp64:2 ^ (8*i)≤2 ^ 56:=Nat.pow_le_pow_right (by decide) (by omega)
  have hx2:x*2 ^ (8*i)≤255*2 ^ (8*i):=Nat.mul_le_mul_right _ (by omega)
  have e1:ishl .u64 (IntKind.u64.wrap xs[i]) (8*(i:Int))=((x*2 ^ (8*i):Nat):Int):=by
   rw[hxx,wu64 (by omega) (by omega)]
   have:=jC (a:=x) (s:=8*i) (by omega) (by omega)
   rw[←this];congr 1
  have e2:num (xs.take (i+1))=num (xs.take i)+256 ^ i*xs[i]:=by
   rw[List.take_succ_eq_append_getElem hil,zfW,List.length_take,Nat.min_eq_left (by omega)]
   simp[num]
  rw[e1,hm,fO (by omega) (by omega),zlH (by omega),w64 (by omega) (by omega)]
  refine ih _ S' ⟨i+1,?_,by omega,rfl⟩ (by dsimp only;omega)
  rw[e2,hm,hxx,pow256]
  congr 1
  push_cast
  rw[Int.mul_comm]
 ·rw[if_neg hlt]
  have e:i=xs.length:=by omega
  subst e
  rw[List.take_length];exact hJ
end
structure Bus (bus:Value) (I:Mem→Rho→GM→Prop) (R:Nat→Prop):Prop where
 ifc:isI bus
 rg:∀ {S ρ g},I S ρ g→∀ b r,ρ b=some r→S b≠none
 ok:∀ {S ρ g},I S ρ g→g.Ok
 gl:∀ {S ρ g},I S ρ g→Gl S
 kp:∀ {S ρ g S'},I S ρ g→Keeps S S' []→I S' ρ g
 load:∀ {S ρ g} {page off n:Nat} {Q:Value→Mem→Prop},I S ρ g→page≤31→0<n→off+n≤256 →
  (∀ S' ρ' sl (e : Int), Mv S ρ S' ρ' R → I S' ρ' g → (match ldB g page off n with | some l => e = 0 ∧ By S' sl l | none => e ≠ 0 ∧ By S' sl []) → Q (.tuple #[eL sl, .int .i64 e]) S') → ci Tryz.prog S bus "Load" [.int .i64 page, .int .i64 off, .int .i64 n] Q
 save:∀ {S ρ g} {page off:Nat} {sl:Sl} {l:List Int} {Q:Value→Mem→Prop},I S ρ g→page≤31→off+8≤256→By S sl l→(∀ b o,sl.p=some (b,o)→ρ b=none)→l.length=8 →
  (∀ S' ρ' g' (e : Int), Mv S ρ S' ρ' R → I S' ρ' g' → (match g.map page with | some (f, true) => e = 0 ∧ g' = wrB g f off l | _ => e ≠ 0 ∧ g' = g) → Q (.int .i64 e) S') → ci Tryz.prog S bus "Save" [.int .i64 page, .int .i64 off, eL sl] Q
structure Cx (I:Mem→Rho→GM→Prop) (R:Nat→Prop) (S:Mem) (ρ:Rho) (g:GM) (b o:Nat) (s:Seat):Prop where
 i:I S ρ g
 at_:At S b o s.L
 rol:∃ r,ρ b=some r∧¬R r
section
variable {bus:Value} {I:Mem→Rho→GM→Prop} {R:Nat→Prop} {S:Mem} {ρ:Rho} {g:GM} {b o:Nat} {s:Seat} {time me:Int}
theorem Cx.mv {S':Mem} {ρ':Rho} {g':GM} (h:Cx I R S ρ g b o s) (m:Mv S ρ S' ρ' R) (hi:I S' ρ' g'):Cx I R S' ρ' g' b o s:=by
 obtain⟨r,h1,h2⟩:=h.rol
 exact⟨hi,h.at_.keep (m.kp b h.at_.some fun r' e=>by rw[h1] at e;cases e;exact h2),r,m.ext b r h1,h2⟩
theorem Cx.cell (h:Cx I R S ρ g b o s) (hl:s.R.length=16) {i:Nat} (hi:i<26):S.cell b (o+i)=nthL s.L i:=h.at_.cell (by rw[Seat.L_len hl];exact hi)
def cL (b o:Nat) (bus:Value) (time me:Int):List Value:=[.pointer (some ⟨b,o,none⟩),bus,.int .u64 time,.int .i64 me]
theorem zfS (hB:Bus bus I R) (hx:Cx I R S ρ g b o s) (hs:s.Ok) {addr:Int} (ha:W64 addr) {wr:Bool} {Q:Int→Int→Bool→Mem→Prop}
  (hQ:∀ S1 ρ1,Mv S ρ S1 ρ1 R→Cx I R S1 ρ1 g b o s→match place s g addr wr with | some q=>Q q.1 q.2 true S1 | none=>Q 0 0 false S1):kC S (cL b o bus time me) addr wr Q:=by
 have hl:=hs.len
 have hbase:=hs.base
 have c0:nthL (cL b o bus time me) 0=some (.pointer (adr (some (b,o)))):=rfl
 have c1:nthL (cL b o bus time me) 1=some bus:=rfl
 apply zeE
 unfold js
 refine⟨rfl,?_⟩
 simp only[jn]
 rw[td ha.1,wu64 (x:=addr/256) (by omega) (by omega),tm ha.1]
 have m0:Mv S ρ S ρ R:=Mv.refl (hB.rg hx.i)
 unfold place at hQ
 by_cases h1:31<addr/256
 ·rw[if_pos (by omega)]
  have:=hQ S ρ m0 hx
  rw[if_pos h1] at this;exact this
 rw[if_neg (by omega),zS c0,zL,zx ((hx.cell hl (by decide)).trans (Seat.g17 hl))]
 by_cases h2:s.base=0
 ·rw[if_pos h2]
  have:=hQ S ρ m0 hx
  rw[if_neg h1,if_pos h2] at this
  rw[w64 (by omega) (by omega),w64 (by omega) (by omega)]
  have e1:(((addr/256).toNat:Nat):Int)=addr/256:=by omega
  have e2:(((addr%256).toNat:Nat):Int)=addr%256:=by omega
  simp only[e1,e2] at this
  exact this
 rw[if_neg h2,zS c0,zL,zx ((hx.cell hl (by decide)).trans (Seat.g17 hl)),td hbase.1,wu64 (x:=s.base/256) (by omega) (by omega)]
 by_cases h3:31<s.base/256
 ·rw[if_pos (by omega)]
  have:=hQ S ρ m0 hx
  rw[if_neg h1,if_neg h2,if_pos h3] at this;exact this
 rw[if_neg (by omega),zqS c1,w64 (x:=s.base/256) (by omega) (by omega),wu64 (x:=8*(addr/256)) (by omega) (by omega),w64 (x:=8*(addr/256)) (by omega) (by omega)]
 have e1:s.base/256=(((s.base/256).toNat:Nat):Int):=by omega
 have e2:8*(addr/256)=(((8*(addr/256)).toNat:Nat):Int):=by omega
 have e3:(8:Int)=((8:Nat):Int):=rfl
 have hld : ∀ {Q : Value → Mem → Prop}, (∀ S' ρ' sl (e : Int), Mv S ρ S' ρ' R → I S' ρ' g → (match ldB g (s.base / 256).toNat (8 * (addr / 256)).toNat 8 with | some l => e = 0 ∧ By S' sl l | none => e ≠ 0 ∧ By S' sl []) → Q (.tuple #[eL sl, .int .i64 e]) S') → ci Tryz.prog S bus "Load" [.int .i64 (s.base / 256), .int .i64 (8 * (addr / 256)), .int .i64 8] Q := fun {Q} h => by
  have:=hB.load (page:=(s.base/256).toNat) (off:=(8*(addr/256)).toNat) (n:=8) hx.i (by omega) (by decide) (by omega) h
  rw[←e1,←e2] at this
  exact this
 refine hld fun S' ρ' sl e hm hi hl2=>⟨sl,e,rfl,?_⟩
 have hq:=hQ S' ρ' hm (hx.mv hm hi)
 rw[if_neg h1,if_neg h2,if_neg h3] at hq
 cases hd:ldB g (s.base/256).toNat (8*(addr/256)).toNat 8 with
 | none=>
  rw[hd] at hl2 hq
  refine zcR hl2.2 (by simp) ?_
  rw[if_pos hl2.1];exact hq
 | some p=>
  rw[hd] at hl2 hq
  obtain⟨rfl,hby⟩:=hl2
  obtain⟨hp8,hpb⟩:=zgM (hB.ok hx.i) hd (by omega)
  refine zcR hby (by omega) ?_
  rw[if_neg (fun h=>h rfl)]
  have hn:=zfV hpb
  rw[hp8] at hn
  obtain⟨m,hm⟩:∃ m:Nat,num p=m:=⟨(num p).toNat,by omega⟩
  have hm64:m<18446744073709551616:=by omega
  dsimp only at hq
  rw[hm] at hq ⊢
  have a1:iand .u64 (m:Int) 1=((m%2:Nat):Int):=by
   have:=yr (a:=m) (b:=1) hm64 (by decide)
   rw[Nat.and_one_is_mod] at this;exact this
  have a2:iand .u64 (m:Int) 2=((2*(m/2%2):Nat):Int):=by
   have:=yr (a:=m) (b:=2) hm64 (by decide)
   have e:=zjf m 1
   rw[Nat.pow_one] at e
   rw[e] at this;exact this
  have a3:ishr .u64 (m:Int) 8=((m/256:Nat):Int):=kz (a:=m) (s:=8) (by decide)
  rw[a1,a2,a3]
  by_cases k1:m%2=0
  ·rw[if_pos (by omega)]
   rw[if_pos (by left;omega)] at hq;exact hq
  rw[if_neg (by omega)]
  have fin:(wr=true→m/2%2≠0)→(if 32≤((m/256:Nat):Int) then Q 0 0 false S' else Q (IntKind.i64.wrap ((m/256:Nat):Int)) (IntKind.i64.wrap (addr%256)) true S'):=fun hw=>by
   by_cases k3:31<m/256
   ·rw[if_pos (by omega)]
    rw[if_pos (by right;right;omega)] at hq;exact hq
   ·rw[if_neg (by omega)]
    rw[if_neg (by
     rintro (h | ⟨h,h'⟩ | h)
     ·omega
     ·exact hw h (by omega)
     ·omega)] at hq
    rw[w64 (by omega) (by omega),w64 (by omega) (by omega)]
    have e1:(((m/256:Int).toNat:Nat):Int)=((m/256:Nat):Int):=by omega
    have e2:(((addr%256).toNat:Nat):Int)=addr%256:=by omega
    simp only[e1,e2] at hq
    exact hq
  cases wr with
  | false=>rw[if_neg (by decide)];exact fin fun h=>by cases h
  | true=>
   rw[if_pos rfl]
   by_cases k2:m/2%2=0
   ·rw[if_pos (by omega)]
    rw[if_pos (by right;left;exact⟨rfl,by omega⟩)] at hq;exact hq
   ·rw[if_neg (by omega)];exact fin fun _=>k2
theorem zfZ (hB:Bus bus I R) (hx:Cx I R S ρ g b o s) (hs:s.Ok) {addr:Int} (ha:W64 addr) {n:Nat} (hn:n=4∨n=8) {Q:Int→Bool→Mem→Prop}
  (hQ:∀ S1 ρ1,Mv S ρ S1 ρ1 R→Cx I R S1 ρ1 g b o s→match getW s g addr n with | some w=>Q w true S1 | none=>∀ x,Q x false S1):jE S (cL b o bus time me) addr n Q:=by
 have c1:nthL (cL b o bus time me) 1=some bus:=rfl
 apply zfz
 unfold jY
 refine⟨rfl,?_⟩
 refine zZ (fun J=>∀ S1 ρ1,Mv S ρ S1 ρ1 R→Cx I R S1 ρ1 g b o s→match place s g addr false with | some q=>J q.1 q.2 true S1 | none=>∀ x y,J x y false S1) ?_ fun J hJ=>?_
 rotate_left
 ·refine zfS hB hx hs ha fun S1 ρ1 hm hx1=>?_
  have h:=hJ S1 ρ1 hm hx1
  cases hp:place s g addr false with
  | none=>rw[hp] at h;dsimp only at h ⊢;rw[if_neg (by decide)];exact h _ _
  | some q=>rw[hp] at h;dsimp only at h ⊢;rw[if_pos rfl];exact h
 intro S1 ρ1 hm hx1
 unfold getW at hQ
 simp only[jn]
 cases hp:place s g addr false with
 | none=>
  dsimp only
  intro x y
  rw[if_neg (by decide)]
  have:=hQ S1 ρ1 hm hx1
  rw[hp] at this;exact this _
 | some q=>
  dsimp only
  have hpb:=zgC (hB.ok hx.i) ha hp
  rw[if_pos trivial]
  have hw:IntKind.u64.wrap (n:Int)=n:=wu64 (by omega) (by omega)
  rw[hw,tm ha.1]
  refine⟨by omega,?_⟩
  by_cases h1:addr%(n:Int)≠0
  ·rw[if_pos h1]
   have:=hQ S1 ρ1 hm hx1
   rw[hp] at this;dsimp only at this
   rw[if_pos h1] at this;exact this _
  rw[if_neg h1,zqS c1]
  refine hB.load hx1.i hpb.1 (by rcases hn with rfl | rfl <;> decide) (by rcases hn with rfl | rfl <;> omega) fun S' ρ' sl e hm' hi hl2=>⟨sl,e,rfl,?_⟩
  have hq:=hQ S' ρ' (hm.trans hm') (hx1.mv hm' hi)
  rw[hp] at hq
  dsimp only at hq
  rw[if_neg h1] at hq
  cases hd:ldB g q.1 q.2 n with
  | none=>
   rw[hd] at hl2 hq
   refine zcR hl2.2 (by simp) ?_
   rw[decide_eq_false hl2.1]
   exact hq _
  | some l=>
   rw[hd] at hl2 hq
   obtain⟨rfl,hby⟩:=hl2
   obtain⟨hp8,_⟩:=zgM (hB.ok hx.i) hd (by rcases hn with rfl | rfl <;> omega)
   refine zcR hby (by omega) ?_
   rw[decide_eq_true rfl]
   exact hq
end
end Go.Proofs.YthaiblbnpcgjpaaGreatDoor
end
section
namespace Go.Cr
open Go Go.Pt
theorem zqc (x:Int):IntKind.u8.wrap x=x%256:=by simp[IntKind.wrap,IntKind.bits,IntKind.signed]
def bL (xs:List Int):List Value:=xs.map (.int .u8)
def bp (w:Int) (i:Nat):List Value:=(List.range 8).map fun j=>Value.int .u8 (if j<i then w/2 ^ (8*j)%256 else 0)
theorem zpe (w:Int) (i:Nat) (h:i<8):spl (bp w i) i [.int .u8 (w/2 ^ (8*i)%256)]=bp w (i+1):=by
 match i,h with
 | 0,_=>rfl
 | 1,_=>rfl
 | 2,_=>rfl
 | 3,_=>rfl
 | 4,_=>rfl
 | 5,_=>rfl
 | 6,_=>rfl
 | 7,_=>rfl
theorem zqQ (w:Int):bp w 8=bL (bytes8 w):=by
 unfold bp bL bytes8
 rw[List.map_map]
 apply List.map_congr_left
 intro j hj
 have:=List.mem_range.1 hj
 simp only[Function.comp,if_pos this]
def exL (k n:Int):List Value:=[.int .u8 k,.int .u64 n]
theorem _root_.Go.Pt.At.pt1 {S:Mem} {b o:Nat} {s s':Seat} (h:At S b o s.L) (hl:s.R.length=16) {i:Nat} {v:Value} (hi:i<26) (he:spl s.L i [v]=s'.L) {K:Mem→Prop} (hK:K (S.put b o s'.L)):Go.Pt.pt S b (o+i) 1 [v] K:=
 h.pt (i:=i) (vs:=[v]) rfl (by rw[Seat.L_len hl];show i+1≤26;omega) (by rw[he];exact hK)
end Go.Cr
namespace Go.Proofs.YthaiblbnpcgjpaaGreatDoor
open Go Go.Pt Go.Cr
theorem zdh {S:Mem} {w:Int} (hw:W64 w) {Q:Sl→Mem→Prop} (hQ:∀ c,S c=none→Q ⟨some (c,0),8,8⟩ (S.set c (bw 5 (bL (bytes8 w))))):zal S w Q:=by
 apply zhe
 unfold fZ
 intro c hc
 refine zZ (fun J=>J (S.set c (bw 5 (bL (bytes8 w))))) (hQ c hc) fun J hJ=>?_
 refine zC (fun (z:Int) S'=>∃ i:Nat,z=i∧i≤8∧S'=S.set c (bw 5 (bp w i))) (fun z=>8-z.toNat) ?_ ⟨0,rfl,by omega,rfl⟩
 rintro X z S' ⟨i,rfl,hi,rfl⟩ ih
 by_cases hlt:(i:Int)<8
 ·rw[if_pos hlt]
  have hi8:i<8:=by omega
  have e8:IntKind.i64.wrap (8*(i:Int))=((8*i:Nat):Int):=by rw[w64 (by omega) (by omega)];omega
  obtain⟨m,hm⟩:∃ m:Nat,w=m:=⟨w.toNat,by omega⟩
  rw[e8]
  refine⟨by omega,by omega,hlt,?_⟩
  rw[show 0+(i:Int).toNat*1=i by omega,w64 (by omega) (by omega)]
  refine zkT (t:=5) (cs:=bp w i) zz (by simp[bp];omega) ?_
  have ev:IntKind.u8.wrap (ishr .u64 w ((8*i:Nat):Int))=w/2 ^ (8*i)%256:=by
   rw[hm,kz (by omega),zqc,Int.natCast_ediv];rfl
  rw[ev,zix,zpe w i hi8]
  exact ih _ _ ⟨i+1,by omega,by omega,rfl⟩ (by omega)
 ·rw[if_neg hlt]
  have:i=8:=by omega
  subst this
  rw[zqQ];exact hJ
theorem zrt {S:Mem} {c t:Nat} {xs:List Int} (hx:Byt xs) {n:Nat} (hn:xs.length=n):By (S.set c (bw t (bL xs))) ⟨some (c,0),n,n⟩ xs:=
 ⟨hn,Nat.le_refl _,hx,.inr ⟨c,0,rfl,fun i hi=>by
  rw[qj zz,zI]
  simp[bL,List.getElem?_eq_getElem hi]⟩⟩
section
variable {bus:Value} {I:Mem→Rho→GM→Prop} {R:Nat→Prop} {S:Mem} {ρ:Rho} {g:GM} {b o:Nat} {s:Seat} {time me:Int}
theorem zkh (hB:Bus bus I R) (hx:Cx I R S ρ g b o s) (hs:s.Ok) {addr w:Int} (ha:W64 addr) (hw:W64 w) {Q:Bool→Mem→Prop}
  (hQ:∀ S1 ρ1,Mv S ρ S1 ρ1 R→match putW s g addr w with | some g'=>Cx I R S1 ρ1 g' b o s→Q true S1 | none=>Cx I R S1 ρ1 g b o s→Q false S1):fV S (cL b o bus time me) addr w Q:=by
 have c1:nthL (cL b o bus time me) 1=some bus:=rfl
 apply zfy
 unfold jX
 refine⟨rfl,?_⟩
 refine zZ (fun J=>∀ S1 ρ1,Mv S ρ S1 ρ1 R→Cx I R S1 ρ1 g b o s→match place s g addr true with | some q=>J q.1 q.2 true S1 | none=>∀ x y,J x y false S1) ?_ fun J hJ=>?_
 rotate_left
 ·refine zfS hB hx hs ha fun S1 ρ1 hm hx1=>?_
  have h:=hJ S1 ρ1 hm hx1
  cases hp:place s g addr true with
  | none=>rw[hp] at h;dsimp only at h ⊢;rw[if_neg (by decide)];exact h _ _
  | some q=>rw[hp] at h;dsimp only at h ⊢;rw[if_pos rfl];exact h
 intro S1 ρ1 hm hx1
 have hq1:=hQ S1 ρ1 hm
 unfold putW at hQ hq1
 cases hp:place s g addr true with
 | none=>
  dsimp only
  intro x y
  rw[if_neg (by decide)]
  rw[hp] at hq1;exact hq1 hx1
 | some q=>
  dsimp only
  have hpb:=zgC (hB.ok hx.i) ha hp
  rw[if_pos rfl,tm ha.1]
  rw[hp] at hq1
  dsimp only at hq1
  by_cases h1:addr%8=0
  ·rw[if_pos h1,zqS c1]
   refine⟨hB.ifc,?_⟩
   refine zdh hw fun c hc=>?_
   have hk:Keeps S1 (S1.set c (bw 5 (bL (bytes8 w)))) []:=Keeps.refl.fresh hc
   have m2:Mv S1 ρ1 (S1.set c (bw 5 (bL (bytes8 w)))) ρ1 R:=Mv.keeps (hB.rg hx1.i) hk
   have hx2:=hx1.mv m2 (hB.kp hx1.i hk)
   refine hB.save hx2.i hpb.1 (by omega) (zrt (kJ w) (xf w)) (fun b o e=>by
    cases e
    cases hr:ρ1 c with
    | none=>rfl
    | some r=>exact absurd hc (hB.rg hx1.i c r hr)) (xf w) fun S' ρ' g' e hm' hi hl2=>⟨e,rfl,?_⟩
   have hq:=hQ S' ρ' ((hm.trans m2).trans hm')
   rw[hp] at hq
   dsimp only at hq
   rw[if_neg (fun h=>h h1)] at hq
   cases hg:g.map q.1 with
   | none=>
    rw[hg] at hl2 hq
    dsimp only at hl2 hq
    rw[decide_eq_false hl2.1]
    refine hq ?_
    have:=hx2.mv hm' hi
    rw[hl2.2] at this;exact this
   | some fw=>
    obtain⟨f,wr⟩:=fw
    rw[hg] at hl2 hq
    cases wr with
    | true=>
     dsimp only at hl2 hq
     rw[hl2.1,decide_eq_true rfl]
     refine hq ?_
     have:=hx2.mv hm' hi
     rw[hl2.2] at this;exact this
    | false=>
     dsimp only at hl2 hq
     rw[decide_eq_false hl2.1]
     refine hq ?_
     have:=hx2.mv hm' hi
     rw[hl2.2] at this;exact this
  ·rw[if_neg h1]
   rw[if_pos h1] at hq1
   exact hq1 hx1
theorem kI (hA:At S b o s.L) (hl:s.R.length=16) {cause addr:Int} {Q:List Value→Mem→Prop} (hQ:Q (exL (if (s.trap cause addr).st=2 then 4 else 1) cause) (S.put b o (s.trap cause addr).L)):yn S (cL b o bus time me) cause addr Q:=by
 have c0:nthL (cL b o bus time me) 0=some (eP (some (b,o))):=rfl
 have hp:Pl S b o:=Pl.of hA hl
 have hl':(s.trap cause addr).R.length=16:=by unfold Seat.trap;split <;> exact hl
 apply zfx
 unfold jW
 refine⟨rfl,?_⟩
 rw[zS c0]
 have h:=zld hp hl (cause:=cause) (addr:=addr) (Q:=fun Sx=>gP (nthL (cL b o bus time me) 0) fun t_1=>nn t_1 fun b_2 o=>gI (Sx.cell b_2 (o+23)) .u8 fun t_2=>if t_2=2 then Q ([.int .u8 4,.int .u64 cause]) Sx else Q ([.int .u8 1,.int .u64 cause]) Sx) ?_
 ·rw[hA.self] at h;exact h
 ·rw[zS c0,zL,zx ((hp.cell hl' (by decide)).trans (Seat.g23 hl'))]
  by_cases h2:(s.trap cause addr).st=2
  ·rw[if_pos h2];rw[if_pos h2] at hQ;exact hQ
  ·rw[if_neg h2];rw[if_neg h2] at hQ;exact hQ
end
end Go.Proofs.YthaiblbnpcgjpaaGreatDoor
end
