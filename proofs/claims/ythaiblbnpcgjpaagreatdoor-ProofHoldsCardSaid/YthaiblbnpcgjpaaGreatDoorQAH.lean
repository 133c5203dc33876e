/- Texts of this work,joined by program (pack.py). -/
import Derived.Test.YthaiblbnpcgjpaaGreatDoorQAC
import Derived.Test.YthaiblbnpcgjpaaGreatDoorQAD
set_option linter.unusedVariables false
set_option maxRecDepth 20000
set_option maxHeartbeats 4000000
namespace Go.Proofs.YthaiblbnpcgjpaaGreatDoor
section
open Go Go.Pt Go.Proofs.Tryz
attribute [local irreducible] lt WD WN Code.wp Back bodyPost wpList FR WL WC WQ WA AW Tr Yc HC AllC
def yX (S:Mem) (p:Sl) (code:Int) (a:Int) (b:Int) (c:Int) (n:Int) (Q:Sl→Mem→Prop):Prop:=
 kr S code a b c n fun t Sx=>
 ap Sx 5 1 1 [.int .u8 0] p 4 ([.int .u8 (IntKind.u8.wrap t),.int .u8 (IntKind.u8.wrap (ishr .u32 t 8)),.int .u8 (IntKind.u8.wrap (ishr .u32 t 16)),.int .u8 (IntKind.u8.wrap (ishr .u32 t 24))]) fun t_1 Sx_1=>
 Q t_1 Sx_1
theorem fF {S:Mem} {p:Sl} {code:Int} {a:Int} {b:Int} {c:Int} {n:Int} {Q:Sl→Mem→Prop} (H:yX S p code a b c n Q):zg S p code a b c n Q:=by
 unfold yX at H
 exact Tr.intro func95 E ntmps95 E fun w0=>go results95 H
def xp (S:Mem) (x:List Value) (Q:Int→Mem→Prop):Prop:=
 x.length=4 ∧
 jn (fun (Sx:Mem)=>
 Q 0 Sx) fun Jx=>
 gP (nthL x 3) fun t=>
 nn t fun b_1 o=>
 gP (S.cell b_1 (o+74)) fun t_1=>
 nn t_1 fun b_2 o_1=>
 gL (S.cell b_2 o_1) fun t_2=>
 lp (fun Xx (t_3:Int) (Sx_1:Mem)=>
 if t_3<(t_2.n:Int) then
 sl t_2 fun b_3 o_2 n n_1=>
 0≤t_3∧t_3<((n:Nat):Int) ∧
 gA (Sx_1.part b_3 (o_2+t_3.toNat*4) 4) fun t_4=>
 t_4.all (·.oneCell')=true ∧
 gP (nthL x 1) fun t_5=>
 gI (nthL t_4 0) .u8 fun t_6=>
 jN Sx_1 t_5 t_3 fun t_7 Sx_2=>
 if t_7≠decide (t_6≠0) then
 Q 8 Sx_2
 else
 gI (nthL t_4 0) .u8 fun t_8=>
 if t_8=0 then
 fits [.i .u8,.i .i64,.i .i64,.i .i64] t_4=true ∧
 if (!(eqL t_4 ([.int .u8 0,.int .i64 0,.int .i64 0,.int .i64 0])))=true then
 Q 8 Sx_2
 else
 Xx (IntKind.i64.wrap (t_3+1)) Sx_2
 else
 Xx (IntKind.i64.wrap (t_3+1)) Sx_2
 else
 Jx Sx_1) 0 S
theorem zaE {S:Mem} {x:List Value} {Q:Int→Mem→Prop} (H:xp S x Q):wb S x Q:=by
 unfold xp at H
 have:=dj1 8 []
 have:=dj (α:=Int) 3 [1,12,13] (fun z=>[(14,.int .i64 z)]) (fun _=>[(0,none)])
 exact Tr.intro func119 E ntmps119 E fun w0=>go results119 H
def vh (S:Mem) (x:List Value) (Q:Int→Mem→Prop):Prop:=
 x.length=4 ∧
 jn (fun (Sx:Mem)=>
 gP (nthL x 3) fun t=>
 nn t fun b_1 o=>
 gP (Sx.cell b_1 (o+74)) fun t_1=>
 gL (nthL x 2) fun t_2=>
 qP Sx t_1 1 0 fun t_3 Sx_1=>
 if t_3≠(t_2.n:Int) then
 Q 7 Sx_1
 else
 Q 0 Sx_1) fun Jx=>
 gL (nthL x 2) fun t_4=>
 lp (fun Xx (t_5:Int) (Sx_2:Mem)=>
 if t_5<(t_4.n:Int) then
 sl t_4 fun b_2 o_1 n n_1=>
 0≤t_5∧t_5<((n:Nat):Int) ∧
 gI (Sx_2.cell b_2 (o_1+t_5.toNat*1)) .i64 fun t_6=>
 gP (nthL x 3) fun t_7=>
 nn t_7 fun b_3 o_2=>
 gP (Sx_2.cell b_3 (o_2+74)) fun t_8=>
 qW Sx_2 t_8 t_6 fun t_9 t_10 Sx_3=>
 t_9.all (·.oneCell')=true ∧
 if t_10≠0 then
 Q 7 Sx_3
 else
 gI (nthL t_9 0) .u8 fun t_11=>
 if t_11≠1 then
 Q 7 Sx_3
 else
 Xx (IntKind.i64.wrap (t_5+1)) Sx_3
 else
 Jx Sx_2) 0 S
theorem zcA {S:Mem} {x:List Value} {Q:Int→Mem→Prop} (H:vh S x Q):kP S x Q:=by
 unfold vh at H
 have:=dj (α:=Unit) 9 [1] (fun _=>[]) (fun _=>[(0,none)])
 have:=dj (α:=Int) 3 [1,8,9] (fun z=>[(10,.int .i64 z)]) (fun _=>[(0,none)])
 exact Tr.intro func120 E ntmps120 E fun w0=>go results120 H
def xm (S:Mem) (x:List Value) (Q:Int→Mem→Prop):Prop:=
 x.length=4 ∧
 jn (fun (Sx:Mem)=>
 Q 0 Sx) fun Jx=>
 gP (nthL x 3) fun t=>
 nn t fun b_1 o=>
 gA (S.part b_1 (o+2) 72) fun t_1=>
 lp (fun Xx (t_2:Int) (Sx_1:Mem)=>
 if t_2<6 then
 jn (fun (Sx_2:Mem)=>
 Xx (IntKind.i64.wrap (t_2+1)) Sx_2) fun Jx_1=>
 0≤t_2∧t_2<6 ∧
 gA (lpart t_1 (t_2.toNat*12) 12) fun t_3=>
 t_3.all (·.oneCell')=true ∧
 jn (fun (need:Int) (Sx_3:Mem)=>
 jn (fun (Sx_4:Mem)=>
 gL (nthL t_3 3) fun t_4=>
 lp (fun Xx_1 (t_5:Int) (Sx_5:Mem)=>
 if t_5<(t_4.n:Int) then
 sl t_4 fun b_3 o_1 n n_1=>
 0≤t_5∧t_5<((n:Nat):Int) ∧
 gI (Sx_5.cell b_3 (o_1+t_5.toNat*1)) .i64 fun t_6=>
 gP (nthL x 3) fun t_7=>
 nn t_7 fun b_4 o_2=>
 gP (Sx_5.cell b_4 (o_2+74)) fun t_8=>
 qW Sx_5 t_8 t_6 fun t_9 t_10 Sx_6=>
 t_9.all (·.oneCell')=true ∧
 if t_10≠0 then
 Q 7 Sx_6
 else
 fits [.i .u8,.i .i64,.i .i64,.i .i64] t_9=true ∧
 if (!(eqL t_9 ([.int .u8 2,.int .i64 t_2,.int .i64 0,.int .i64 0])))=true then
 Q 7 Sx_6
 else
 Xx_1 (IntKind.i64.wrap (t_5+1)) Sx_6
 else
 Jx_1 Sx_5) 0 Sx_4) fun Jx_2=>
 gL (nthL t_3 3) fun t_11=>
 if (t_11.n:Int)≠need then
 Q 7 Sx_3
 else
 gP (nthL x 3) fun t_12=>
 nn t_12 fun b_6 o_3=>
 gP (Sx_3.cell b_6 (o_3+74)) fun t_13=>
 qP Sx_3 t_13 2 t_2 fun t_14 Sx_7=>
 if t_14≠need then
 Q 7 Sx_7
 else
 gB (nthL t_3 0) fun t_15=>
 if t_15=true then
 gI (nthL t_3 2) .i64 fun t_16=>
 gP (nthL x 3) fun t_17=>
 nn t_17 fun b_7 o_4=>
 gI (Sx_7.cell b_7 o_4) .i64 fun t_18=>
 if t_16≠t_18 then
 Q 7 Sx_7
 else
 Jx_2 Sx_7
 else
 Jx_2 Sx_7) fun Jx_3=>
 gB (nthL t_3 0) fun t_19=>
 if t_19=true then
 Jx_3 5 Sx_1
 else
 Jx_3 0 Sx_1
 else
 Jx Sx_1) 0 S
theorem zaB {S:Mem} {x:List Value} {Q:Int→Mem→Prop} (H:xm S x Q):xY S x Q:=by
 unfold xm at H
 have:=dj1 18 []
 have:=dj (α:=Int) 3 [1,14] (fun z=>[(15,.int .i64 z)]) (fun _=>[(0,none)])
 have:=dj (α:=Unit) 17 [1,14,15] (fun _=>[]) (fun _=>[(0,none)])
 have:=dj (α:=Int) 11 [1,3,14,15,55,56] (fun z=>[(57,.int .i64 z)]) (fun _=>[(0,none)])
 have:=dj (α:=Unit) 10 [1,3,4,14,15] (fun _=>[]) (fun _=>[(0,none),(1,none)])
 have:=dj (α:=Int×Unit) 8 [1,3,4,14,15] (fun z=>[(5,.int .i64 z.1)]) (fun _=>[(0,none),(1,none)])
 exact Tr.intro func121 E ntmps121 E fun w0=>go results121 H
def yt (S:Mem) (x:List Value) (Q:Int→Mem→Prop):Prop:=
 x.length=4 ∧
 jn (fun (Sx:Mem)=>
 jn (fun (Sx_1:Mem)=>
 Q 0 Sx_1) fun Jx=>
 gP (nthL x 3) fun t=>
 nn t fun b_1 o=>
 gA (Sx.part b_1 (o+2) 72) fun t_1=>
 lp (fun Xx (t_2:Int) (Sx_2:Mem)=>
 if t_2<6 then
 jn (fun (Sx_3:Mem)=>
 Xx (IntKind.i64.wrap (t_2+1)) Sx_3) fun Jx_1=>
 0≤t_2∧t_2<6 ∧
 gA (lpart t_1 (t_2.toNat*12) 12) fun t_3=>
 t_3.all (·.oneCell')=true ∧
 jn (fun (Sx_4:Mem)=>
 gA (lpart t_3 2 2) fun a=>
 gP (nthL x 0) fun t_4=>
 yR Sx_4 a t_4 fun t_5 t_6 Sx_5=>
 lp (fun Xx_1 (t_7:Int) (Sx_6:Mem)=>
 if t_7<(t_5.n:Int) then
 jn (fun (Sx_7:Mem)=>
 Xx_1 (IntKind.i64.wrap (t_7+1)) Sx_7) fun Jx_2=>
 sl t_5 fun b_3 o_1 n n_1=>
 0≤t_7∧t_7<((n:Nat):Int) ∧
 gI (Sx_6.cell b_3 (o_1+t_7.toNat*1)) .i64 fun t_8=>
 gP (nthL x 3) fun t_9=>
 nn t_9 fun b_4 o_2=>
 gP (Sx_6.cell b_4 (o_2+74)) fun t_10=>
 sl t_6 fun b_5 o_3 n_2 n_3=>
 0≤t_7∧t_7<((n_2:Nat):Int) ∧
 gI (Sx_6.cell b_5 (o_3+t_7.toNat*3+1)) .i64 fun t_11=>
 qW Sx_6 t_10 t_11 fun t_12 t_13 Sx_8=>
 t_12.all (·.oneCell')=true ∧
 jn (fun (mine:Bool) (Sx_9:Mem)=>
 if mine=true then
 Jx_2 Sx_9
 else
 0≤t_7∧t_7<((n_2:Nat):Int) ∧
 gA (Sx_9.part b_5 (o_3+t_7.toNat*3) 3) fun t_14=>
 xD Sx_9 x t_2 t_8 t_14 t_12 fun t_15 Sx_10=>
 if t_15=true then
 Jx_2 Sx_10
 else
 Q 11 Sx_10) fun Jx_3=>
 if t_13=0 then
 gI (nthL t_12 0) .u8 fun t_16=>
 if t_16=3 then
 gI (nthL t_12 1) .i64 fun t_17=>
 if t_17=t_2 then
 gI (nthL t_12 2) .i64 fun t_18=>
 if t_18=t_8 then
 Jx_3 true Sx_8
 else
 Jx_3 false Sx_8
 else
 Jx_3 false Sx_8
 else
 Jx_3 false Sx_8
 else
 Jx_3 false Sx_8
 else
 Jx_1 Sx_6) 0 Sx_5) fun Jx_4=>
 gB (nthL t_3 0) fun t_19=>
 if t_19=true then
 Jx_4 Sx_2
 else
 Jx_1 Sx_2
 else
 Jx Sx_2) 0 Sx) fun Jx_5=>
 gP (nthL x 3) fun t_20=>
 nn t_20 fun b_7 o_4=>
 gP (S.cell b_7 (o_4+74)) fun t_21=>
 nn t_21 fun b_8 o_5=>
 gL (S.cell b_8 o_5) fun t_22=>
 lp (fun Xx_2 (t_23:Int) (Sx_11:Mem)=>
 if t_23<(t_22.n:Int) then
 jn (fun (Sx_12:Mem)=>
 Xx_2 (IntKind.i64.wrap (t_23+1)) Sx_12) fun Jx_6=>
 sl t_22 fun b_9 o_6 n_4 n_5=>
 0≤t_23∧t_23<((n_4:Nat):Int) ∧
 gA (Sx_11.part b_9 (o_6+t_23.toNat*4) 4) fun t_24=>
 t_24.all (·.oneCell')=true ∧
 jn (fun (Sx_13:Mem)=>
 jn (fun (Sx_14:Mem)=>
 gP (nthL x 3) fun t_25=>
 gI (nthL t_24 1) .i64 fun t_26=>
 nn t_25 fun b_11 o_7=>
 0≤t_26∧t_26<6 ∧
 gA (Sx_14.part b_11 (o_7+2+t_26.toNat*12+2) 2) fun t_27=>
 gP (nthL x 0) fun t_28=>
 gI (nthL t_24 2) .i64 fun t_29=>
 zP Sx_14 t_27 t_28 t_29 fun t_30 t_31 Sx_15=>
 t_30.all (·.oneCell')=true ∧
 if t_31≠0 then
 Q 11 Sx_15
 else
 gI (nthL t_30 1) .i64 fun t_32=>
 if t_32≠t_23 then
 Q 11 Sx_15
 else
 gB (nthL t_30 2) fun t_33=>
 if t_33=true then
 gP (nthL x 3) fun t_34=>
 nn t_34 fun b_13 o_8=>
 gA (Sx_15.part b_13 (o_8+75) 96) fun t_35=>
 gI (nthL t_24 1) .i64 fun t_36=>
 gI (nthL t_24 2) .i64 fun t_37=>
 wh Sx_15 t_35 t_36 t_37 fun t_38 Sx_16=>
 if 0≤t_38 then
 Q 11 Sx_16
 else
 Jx_6 Sx_16
 else
 Q 11 Sx_15) fun Jx_7=>
 gP (nthL x 3) fun t_39=>
 gI (nthL t_24 1) .i64 fun t_40=>
 zJ Sx_13 t_39 t_40 fun t_41 Sx_17=>
 if t_41=true then
 Jx_7 Sx_17
 else
 Q 7 Sx_17) fun Jx_8=>
 gI (nthL t_24 0) .u8 fun t_42=>
 if t_42≠3 then
 Jx_6 Sx_11
 else
 Jx_8 Sx_11
 else
 Jx_5 Sx_11) 0 S
theorem kM {S:Mem} {x:List Value} {Q:Int→Mem→Prop} (H:yt S x Q):xb S x Q:=by
 unfold yt at H
 have:=dj1 26 []
 have:=dj (α:=Int) 13 [1,87] (fun z=>[(88,.int .i64 z)]) (fun _=>[(0,none)])
 have:=dj (α:=Unit) 25 [1,87,88] (fun _=>[]) (fun _=>[(0,none)])
 have:=dj (α:=Int) 18 [1,7,10,87,88,103,104] (fun z=>[(105,.int .i64 z)]) (fun _=>[(0,none)])
 have:=dj (α:=Unit) 24 [1,7,10,87,88,103,104,105] (fun _=>[]) (fun _=>[(0,none)])
 have:=dj (α:=Bool×Unit) 22 [1,7,10,11,12,13,87,88,103,104,105] (fun z=>[(15,.bool z.1)]) (fun _=>[(0,none),(1,none)])
 have:=dj (α:=Unit) 16 [1,7,8,87,88] (fun _=>[]) (fun _=>[(0,none),(1,none)])
 have:=dj (α:=Unit) 12 [1] (fun _=>[]) (fun _=>[(0,none)])
 have:=dj (α:=Int) 3 [1,23,24] (fun z=>[(25,.int .i64 z)]) (fun _=>[(0,none)])
 have:=dj (α:=Unit) 11 [1,23,24,25] (fun _=>[]) (fun _=>[(0,none)])
 have:=dj (α:=Unit) 8 [1,3,4,23,24,25] (fun _=>[]) (fun _=>[(0,none),(1,none)])
 have:=dj (α:=Unit) 6 [1,3,4,23,24,25] (fun _=>[]) (fun _=>[(0,none),(1,none)])
 exact Tr.intro func122 E ntmps122 E fun w0=>go results122 H
def xn (S:Mem) (x:List Value) (Q:Int→Mem→Prop):Prop:=
 x.length=4 ∧
 jn (fun (Sx:Mem)=>
 Q 0 Sx) fun Jx=>
 gP (nthL x 3) fun t=>
 nn t fun b_1 o=>
 gA (S.part b_1 (o+2) 72) fun t_1=>
 lp (fun Xx (t_2:Int) (Sx_1:Mem)=>
 if t_2<6 then
 0≤t_2∧t_2<6 ∧
 gA (lpart t_1 (t_2.toNat*12) 12) fun t_3=>
 t_3.all (·.oneCell')=true ∧
 gP (nthL x 3) fun t_4=>
 nn t_4 fun b_3 o_1=>
 gP (Sx_1.cell b_3 (o_1+74)) fun t_5=>
 gI (nthL t_3 4) .i64 fun t_6=>
 qP Sx_1 t_5 3 t_2 fun t_7 Sx_2=>
 if t_6<t_7 then
 Q 9 Sx_2
 else
 Xx (IntKind.i64.wrap (t_2+1)) Sx_2
 else
 Jx Sx_1) 0 S
theorem zaC {S:Mem} {x:List Value} {Q:Int→Mem→Prop} (H:xn S x Q):xZ S x Q:=by
 unfold xn at H
 have:=dj1 8 []
 have:=dj (α:=Int) 3 [1,9] (fun z=>[(10,.int .i64 z)]) (fun _=>[(0,none)])
 exact Tr.intro func123 E ntmps123 E fun w0=>go results123 H
def wx (S:Mem) (x:List Value) (vm:Int) (page:Int) (y:List Value) (r:List Value) (Q:Bool→Mem→Prop):Prop:=
 x.length=4 ∧
 y.length=3 ∧
 r.length=4 ∧
 gP (nthL x 3) fun t=>
 nn t fun b_3 o=>
 gA (S.part b_3 (o+75) 96) fun t_1=>
 gP (nthL x 3) fun t_2=>
 nn t_2 fun b_4 o_1=>
 gA (S.part b_4 (o_1+75) 96) fun t_3=>
 wh S t_3 vm page fun t_4 Sx=>
 Sx.part b_3 (o+75) 96=some t_1 ∧
 qC Sx t_1 t_4 fun t_5 t_6 Sx_1=>
 t_5.all (·.oneCell')=true ∧
 if t_6=0 then
 gI (nthL r 0) .u8 fun t_7=>
 if t_7=3 then
 gI (nthL r 1) .i64 fun t_8=>
 gI (nthL t_5 1) .i64 fun t_9=>
 if t_8=t_9 then
 gI (nthL r 2) .i64 fun t_10=>
 gI (nthL t_5 2) .i64 fun t_11=>
 if t_10=t_11 then
 gB (nthL y 2) fun t_12=>
 gB (nthL t_5 4) fun t_13=>
 Q (decide (t_12=t_13)) Sx_1
 else
 Q false Sx_1
 else
 Q false Sx_1
 else
 Q false Sx_1
 else
 Q false Sx_1
theorem zbQ {S:Mem} {x:List Value} {vm:Int} {page:Int} {y:List Value} {r:List Value} {Q:Bool→Mem→Prop} (H:wx S x vm page y r Q):xD S x vm page y r Q:=by
 unfold wx at H
 exact Tr.intro func185 E ntmps185 E fun w0=>an H fun hx H1=>an H1 fun hy H2=>an H2 fun hr H3=>csr<|jM E E E fun b=>jM E E E fun b_1=>jM E E E fun b_2=>gv E E<|nx<|qb<|qa (by kernel_rfl)<|aTP 0 E (by decide +kernel) E (zA E E)<|by exact gx H3 fun t ht H4=>aT 1 E (by decide +kernel) E (zG E) (zR 0 E ht)<|by exact by obtain⟨b_3,o,rfl,H5⟩:=H4;exact aTP 2 E (by decide +kernel) E (qx E)<|by exact aTP 3 E (by decide +kernel) E (zA E E)<|by exact gx H5 fun t_1 ht_1 H6=>by refine aT 4 E (by decide +kernel) E (qk E (qL ht_1)) (jw ht_1) ?_;exact aTP 5 E (by decide +kernel) E (zA E E)<|by exact gx H6 fun t_2 ht_2 H7=>aT 6 E (by decide +kernel) E (zG E) (zR 0 E ht_2)<|by exact by obtain⟨b_4,o_1,rfl,H8⟩:=H7;exact aTP 7 E (by decide +kernel) E (qx E)<|by exact aTP 8 E (by decide +kernel) E (zA E E)<|by exact gx H8 fun t_3 ht_3 H9=>by refine aT 9 E (by decide +kernel) E (qk E (qL ht_3)) (jw ht_3) ?_;exact aTP 10 E (by decide +kernel) E (zp E)<|by exact aTP 11 E (by decide +kernel) E (zp E)<|by exact ff 12 17 (by decide +kernel) E E (kq E E H9 fun t_4 Sx H10=>by obtain⟨k,H11⟩:=H10;exact zr<|zH (zj (zR 0 E ht_2) (zj (jw k) (zj (zR 0 E ht) zq)))<|ff 13 17 (by decide +kernel) E E (qz E E H11 fun rv Sx_1 H12=>by obtain⟨t_5,t_6,rfl,ht_5,H13⟩:=H12;exact zr<|zH (zj (zR 0 E ht_2) (zj (zR 0 E ht) zq))<|aTP 14 E (by decide +kernel) E (zp E)<|by exact aTP 15 E (by decide +kernel) E (zk E E)<|by exact aTP 16 E (by decide +kernel) E (zk E E)<|by exact zw 17 (by decide +kernel) E<|by exact by refine zX E fun b_5=>?_;exact zr<|zH (zj (zR 0 E ht_2) (zj (zR 0 E ht) zq))<|zw 18 (by decide +kernel) E<|by exact an H13 fun c H14=>zn 3 E E E E E ht_5 E c<|zr<|zH zq<|aTP 19 E (by decide +kernel) E (zT E)<|by exact zW (by decide +kernel)<|by exact zB<|csr<|mv E E<|iteK H14 (fun c_1 H15=>ceT E E E (c_1)<|mv E E<|s_p E (zA E E)<|gx H15 fun t_7 ht_7 H16=>s_v E (zG E) (zR 2 E ht_7)<|iteK H16 (fun c_2 H17=>ceT E E E (c_2)<|pk E E E<|mv E E<|s_p E (zA E E)<|gx H17 fun t_8 ht_8 H18=>s_v E (zG E) (zR 2 E ht_8)<|s_p E (zA E E)<|gx H18 fun t_9 ht_9 H19=>s_v E (zG E) (zR 3 E ht_9)<|iteK H19 (fun c_3 H20=>ceT E E E (c_3)<|pk E E E<|mv E E<|s_p E (zA E E)<|gx H20 fun t_10 ht_10 H21=>s_v E (zG E) (zR 2 E ht_10)<|s_p E (zA E E)<|gx H21 fun t_11 ht_11 H22=>s_v E (zG E) (zR 3 E ht_11)<|iteK H22 (fun c_4 H23=>ceT E E E (c_4)<|pk E E E<|mv E E<|s_p E (zA E E)<|gx H23 fun t_12 ht_12 H24=>s_v E (zG E) (zR 1 E ht_12)<|s_p E (zA E E)<|gx H24 fun t_13 ht_13 H25=>s_v E (zG E) (zR 3 E ht_13)<|s_p E (zig E E)<|pk E E E<|gv E E<|nx<|zu<|zt results185 (zf E zi) ⟨_,E,H25⟩) fun c_4 H23=>ceF E E E (c_4)<|pk E E E<|mv E E<|sk4 E E E E<|zF E<|pk E E E<|gv E E<|nx<|zu<|zt results185 (zf E zi) ⟨_,E,H23⟩) fun c_3 H20=>ceF E E E (c_3)<|pk E E E<|mv E E<|sk4 E E E E<|zF E<|pk E E E<|mv E E<|sk4 E E E E<|zF E<|pk E E E<|gv E E<|nx<|zu<|zt results185 (zf E zi) ⟨_,E,H20⟩) fun c_2 H17=>ceF E E E (c_2)<|pk E E E<|mv E E<|sk4 E E E E<|zF E<|pk E E E<|mv E E<|sk4 E E E E<|zF E<|pk E E E<|mv E E<|sk4 E E E E<|zF E<|pk E E E<|gv E E<|nx<|zu<|zt results185 (zf E zi) ⟨_,E,H17⟩) fun c_1 H15=>ceF E E E (c_1)<|mv E E<|sk2 E E<|zF E<|pk E E E<|mv E E<|sk4 E E E E<|zF E<|pk E E E<|mv E E<|sk4 E E E E<|zF E<|pk E E E<|mv E E<|sk4 E E E E<|zF E<|pk E E E<|gv E E<|nx<|zu<|zt results185 (zf E zi) ⟨_,E,H15⟩) (by refine zX E fun b_5=>?_;exact zr<|zH (zj (zR 0 E ht_2) (zj (jw k) (zj (zR 0 E ht) zq)))<|zw 13 (by decide +kernel) E<|by exact qz E E H11 fun rv Sx_1 H26=>by obtain⟨t_5,t_6,rfl,ht_5,H27⟩:=H26;exact zr<|zH (zj (zR 0 E ht_2) (zj (zR 0 E ht) zq))<|aTP 14 E (by decide +kernel) E (zp E)<|by exact aTP 15 E (by decide +kernel) E (zk E E)<|by exact aTP 16 E (by decide +kernel) E (zk E E)<|by exact zw 18 (by decide +kernel) E<|by exact an H27 fun c H28=>zn 3 E E E E E ht_5 E c<|zr<|zH zq<|aTP 19 E (by decide +kernel) E (zT E)<|by exact zW (by decide +kernel)<|by exact zB<|csr<|mv E E<|iteK H28 (fun c_1 H29=>ceT E E E (c_1)<|mv E E<|s_p E (zA E E)<|gx H29 fun t_7 ht_7 H30=>s_v E (zG E) (zR 2 E ht_7)<|iteK H30 (fun c_2 H31=>ceT E E E (c_2)<|pk E E E<|mv E E<|s_p E (zA E E)<|gx H31 fun t_8 ht_8 H32=>s_v E (zG E) (zR 2 E ht_8)<|s_p E (zA E E)<|gx H32 fun t_9 ht_9 H33=>s_v E (zG E) (zR 3 E ht_9)<|iteK H33 (fun c_3 H34=>ceT E E E (c_3)<|pk E E E<|mv E E<|s_p E (zA E E)<|gx H34 fun t_10 ht_10 H35=>s_v E (zG E) (zR 2 E ht_10)<|s_p E (zA E E)<|gx H35 fun t_11 ht_11 H36=>s_v E (zG E) (zR 3 E ht_11)<|iteK H36 (fun c_4 H37=>ceT E E E (c_4)<|pk E E E<|mv E E<|s_p E (zA E E)<|gx H37 fun t_12 ht_12 H38=>s_v E (zG E) (zR 1 E ht_12)<|s_p E (zA E E)<|gx H38 fun t_13 ht_13 H39=>s_v E (zG E) (zR 3 E ht_13)<|s_p E (zig E E)<|pk E E E<|gv E E<|nx<|zu<|zt results185 (zf E zi) ⟨_,E,H39⟩) fun c_4 H37=>ceF E E E (c_4)<|pk E E E<|mv E E<|sk4 E E E E<|zF E<|pk E E E<|gv E E<|nx<|zu<|zt results185 (zf E zi) ⟨_,E,H37⟩) fun c_3 H34=>ceF E E E (c_3)<|pk E E E<|mv E E<|sk4 E E E E<|zF E<|pk E E E<|mv E E<|sk4 E E E E<|zF E<|pk E E E<|gv E E<|nx<|zu<|zt results185 (zf E zi) ⟨_,E,H34⟩) fun c_2 H31=>ceF E E E (c_2)<|pk E E E<|mv E E<|sk4 E E E E<|zF E<|pk E E E<|mv E E<|sk4 E E E E<|zF E<|pk E E E<|mv E E<|sk4 E E E E<|zF E<|pk E E E<|gv E E<|nx<|zu<|zt results185 (zf E zi) ⟨_,E,H31⟩) fun c_1 H29=>ceF E E E (c_1)<|mv E E<|sk2 E E<|zF E<|pk E E E<|mv E E<|sk4 E E E E<|zF E<|pk E E E<|mv E E<|sk4 E E E E<|zF E<|pk E E E<|mv E E<|sk4 E E E E<|zF E<|pk E E E<|gv E E<|nx<|zu<|zt results185 (zf E zi) ⟨_,E,H29⟩)) (by refine zX E fun b_5=>?_;exact zr<|zH (zj (jw ht_3) (zj (zR 0 E ht_2) (zj (jw ht_1) (zj (zR 0 E ht) zq))))<|zw 12 (by decide +kernel) E<|by exact kq E E H9 fun t_4 Sx H40=>by obtain⟨k,H41⟩:=H40;exact zr<|zH (zj (zR 0 E ht_2) (zj (jw k) (zj (zR 0 E ht) zq)))<|zw 13 (by decide +kernel) E<|by exact qz E E H41 fun rv Sx_1 H42=>by obtain⟨t_5,t_6,rfl,ht_5,H43⟩:=H42;exact zr<|zH (zj (zR 0 E ht_2) (zj (zR 0 E ht) zq))<|aTP 14 E (by decide +kernel) E (zp E)<|by exact aTP 15 E (by decide +kernel) E (zk E E)<|by exact aTP 16 E (by decide +kernel) E (zk E E)<|by exact zw 18 (by decide +kernel) E<|by exact an H43 fun c H44=>zn 3 E E E E E ht_5 E c<|zr<|zH zq<|aTP 19 E (by decide +kernel) E (zT E)<|by exact zW (by decide +kernel)<|by exact zB<|csr<|mv E E<|iteK H44 (fun c_1 H45=>ceT E E E (c_1)<|mv E E<|s_p E (zA E E)<|gx H45 fun t_7 ht_7 H46=>s_v E (zG E) (zR 2 E ht_7)<|iteK H46 (fun c_2 H47=>ceT E E E (c_2)<|pk E E E<|mv E E<|s_p E (zA E E)<|gx H47 fun t_8 ht_8 H48=>s_v E (zG E) (zR 2 E ht_8)<|s_p E (zA E E)<|gx H48 fun t_9 ht_9 H49=>s_v E (zG E) (zR 3 E ht_9)<|iteK H49 (fun c_3 H50=>ceT E E E (c_3)<|pk E E E<|mv E E<|s_p E (zA E E)<|gx H50 fun t_10 ht_10 H51=>s_v E (zG E) (zR 2 E ht_10)<|s_p E (zA E E)<|gx H51 fun t_11 ht_11 H52=>s_v E (zG E) (zR 3 E ht_11)<|iteK H52 (fun c_4 H53=>ceT E E E (c_4)<|pk E E E<|mv E E<|s_p E (zA E E)<|gx H53 fun t_12 ht_12 H54=>s_v E (zG E) (zR 1 E ht_12)<|s_p E (zA E E)<|gx H54 fun t_13 ht_13 H55=>s_v E (zG E) (zR 3 E ht_13)<|s_p E (zig E E)<|pk E E E<|gv E E<|nx<|zu<|zt results185 (zf E zi) ⟨_,E,H55⟩) fun c_4 H53=>ceF E E E (c_4)<|pk E E E<|mv E E<|sk4 E E E E<|zF E<|pk E E E<|gv E E<|nx<|zu<|zt results185 (zf E zi) ⟨_,E,H53⟩) fun c_3 H50=>ceF E E E (c_3)<|pk E E E<|mv E E<|sk4 E E E E<|zF E<|pk E E E<|mv E E<|sk4 E E E E<|zF E<|pk E E E<|gv E E<|nx<|zu<|zt results185 (zf E zi) ⟨_,E,H50⟩) fun c_2 H47=>ceF E E E (c_2)<|pk E E E<|mv E E<|sk4 E E E E<|zF E<|pk E E E<|mv E E<|sk4 E E E E<|zF E<|pk E E E<|mv E E<|sk4 E E E E<|zF E<|pk E E E<|gv E E<|nx<|zu<|zt results185 (zf E zi) ⟨_,E,H47⟩) fun c_1 H45=>ceF E E E (c_1)<|mv E E<|sk2 E E<|zF E<|pk E E E<|mv E E<|sk4 E E E E<|zF E<|pk E E E<|mv E E<|sk4 E E E E<|zF E<|pk E E E<|mv E E<|sk4 E E E E<|zF E<|pk E E E<|gv E E<|nx<|zu<|zt results185 (zf E zi) ⟨_,E,H45⟩)
def vg (S:Mem) (x:List Value) (Q:Int→Mem→Prop):Prop:=
 x.length=4 ∧
 jn (fun (Sx:Mem)=>
 Q 0 Sx) fun Jx=>
 gP (nthL x 3) fun t=>
 nn t fun b_1 o=>
 gA (S.part b_1 (o+2) 72) fun t_1=>
 lp (fun Xx (t_2:Int) (Sx_1:Mem)=>
 if t_2<6 then
 jn (fun (Sx_2:Mem)=>
 Xx (IntKind.i64.wrap (t_2+1)) Sx_2) fun Jx_1=>
 0≤t_2∧t_2<6 ∧
 gA (lpart t_1 (t_2.toNat*12) 12) fun t_3=>
 t_3.all (·.oneCell')=true ∧
 jn (fun (Sx_3:Mem)=>
 jn (fun (Sx_4:Mem)=>
 gL (nthL t_3 1) fun t_4=>
 if (t_4.n:Int)<1 then
 Q 10 Sx_4
 else
 gL (nthL t_3 1) fun t_5=>
 if 3<(t_5.n:Int) then
 Q 10 Sx_4
 else
 gL (nthL t_3 6) fun t_6=>
 if 64<(t_6.n:Int) then
 Q 10 Sx_4
 else
 gI (nthL t_3 11) .u32 fun t_7=>
 if ishr .u32 t_7 6≠0 then
 Q 10 Sx_4
 else
 gI (nthL t_3 5) .u64 fun t_8=>
 gP (nthL x 3) fun t_9=>
 nn t_9 fun b_3 o_1=>
 gI (Sx_4.cell b_3 (o_1+1)) .u64 fun t_10=>
 if t_10<t_8 then
 Q 10 Sx_4
 else
 Jx_1 Sx_4) fun Jx_2=>
 lp (fun Xx_1 (t_11:Int) (Sx_5:Mem)=>
 if t_11<6 then
 gI (nthL t_3 11) .u32 fun t_12=>
 0≤t_11 ∧
 if iand .u32 (ishr .u32 t_12 t_11) 1=1 then
 gP (nthL x 3) fun t_13=>
 yN Sx_5 t_13 t_11 t_2 fun t_14 Sx_6=>
 if t_14=true then
 if t_11=t_2 then
 Q 10 Sx_6
 else
 Xx_1 (IntKind.i64.wrap (t_11+1)) Sx_6
 else
 Q 10 Sx_6
 else
 Xx_1 (IntKind.i64.wrap (t_11+1)) Sx_5
 else
 Jx_2 Sx_5) 0 Sx_3) fun Jx_3=>
 gB (nthL t_3 0) fun t_15=>
 if t_15=true then
 Jx_3 Sx_1
 else
 gI (nthL t_3 11) .u32 fun t_16=>
 if t_16≠0 then
 Q 10 Sx_1
 else
 gL (nthL t_3 1) fun t_17=>
 if (t_17.n:Int)≠0 then
 Q 10 Sx_1
 else
 Jx_1 Sx_1
 else
 Jx Sx_1) 0 S
theorem zcz {S:Mem} {x:List Value} {Q:Int→Mem→Prop} (H:vg S x Q):kO S x Q:=by
 unfold vg at H
 have:=dj1 17 []
 have:=dj (α:=Int) 3 [1,10] (fun z=>[(11,.int .i64 z)]) (fun _=>[(0,none)])
 have:=dj (α:=Unit) 16 [1,10,11] (fun _=>[]) (fun _=>[(0,none)])
 have:=dj (α:=Unit) 14 [1,4,10,11] (fun _=>[]) (fun _=>[(0,none),(1,none)])
 have:=dj (α:=Int) 9 [1,3,4,10,11] (fun z=>[(27,.int .i64 z)]) (fun _=>[(0,none),(1,none)])
 have:=dj (α:=Unit) 8 [1,3,4,10,11] (fun _=>[]) (fun _=>[(0,none),(1,none)])
 exact Tr.intro func125 E ntmps125 E fun w0=>go results125 H
def kE (S:Mem) (m:Pt) (p:Pt) (region:Sl) (s:Pt) (Q:Int→Mem→Prop):Prop:=
 jn (fun (Sx:Mem)=>
 jn (fun (Sx_1:Mem)=>
 Q 0 Sx_1) fun Jx=>
 al Sx 201 ([.func (.func 119) #[valL ([eP m,eP p,eL region,eP s])] #[],.func (.func 120) #[valL ([eP m,eP p,eL region,eP s])] #[],.func (.func 121) #[valL ([eP m,eP p,eL region,eP s])] #[],.func (.func 122) #[valL ([eP m,eP p,eL region,eP s])] #[],.func (.func 123) #[valL ([eP m,eP p,eL region,eP s])] #[],.func (.func 124) #[valL ([eP m,eP p,eL region,eP s])] #[],.func (.func 125) #[valL ([eP m,eP p,eL region,eP s])] #[]]) fun b_1 Sx_2=>
 lp (fun Xx (t:Int) (Sx_3:Mem)=>
 if t<7 then
 0≤t∧t<7 ∧
 gV (Sx_3.cell b_1 (0+t.toNat*1)) fun t_1=>
 cv prog Sx_3 t_1 [] fun rv Sx_4=>∃ t_2:Int,rv=.int .i64 t_2∧
 if t_2≠0 then
 Q t_2 Sx_4
 else
 Xx (IntKind.i64.wrap (t+1)) Sx_4
 else
 Jx Sx_3) 0 Sx_2) fun Jx_1=>
 if m=none then
 Q 1 S
 else
 if p=none then
 Q 1 S
 else
 if s=none then
 Q 1 S
 else
 nn s fun b_2 o=>
 gP (S.cell b_2 (o+74)) fun t_3=>
 if t_3=none then
 Q 1 S
 else
 gP (S.cell b_2 (o+74)) fun t_4=>
 nn t_4 fun b_3 o_1=>
 gL (S.cell b_3 o_1) fun t_5=>
 qF S m fun t_6 Sx_5=>
 Sx_5.cell b_3 o_1=some (eL t_5) ∧
 Sx_5.cell b_2 (o+74)=some (.pointer (some ⟨b_3,o_1,none⟩)) ∧
 Sx_5.cell b_2 (o+74)=some (eP t_3) ∧
 if (t_5.n:Int)≠t_6 then
 Q 1 Sx_5
 else
 Jx_1 Sx_5
theorem zbR {S:Mem} {m:Pt} {p:Pt} {region:Sl} {s:Pt} {Q:Int→Mem→Prop} (H:kE S m p region s Q):wY S m p region s Q:=by
 unfold kE at H
 have:=dj1 12 []
 have:=dj0 (α:=Int) 6 [62,63] (fun z=>[(64,.int .i64 z)])
 have:=dj1 4 [0,1,2,3]
 exact Tr.intro func64 E ntmps64 E fun w0=>go results64 H
def qI (S:Mem) (h:Pt) (Q:Int→Mem→Prop):Prop:=
 nn h fun b o=>
 gP (S.cell b o) fun t=>
 gP (S.cell b (o+1)) fun t_1=>
 gL (S.cell b (o+4)) fun t_2=>
 gP (S.cell b (o+3)) fun t_3=>
 wY S t t_1 t_2 t_3 fun t_4 Sx=>
 Q t_4 Sx
theorem xW {S:Mem} {h:Pt} {Q:Int→Mem→Prop} (H:qI S h Q):qT S h Q:=by
 unfold qI at H
 exact Tr.intro func25 E ntmps25 E fun w0=>go results25 H
def qM (S:Mem) (form:Int) (frames:Int) (region:Int) (acts:Sl) (seed:Sl) (Q:Pt→Mem→Prop):Prop:=
 zct S form frames region fun t t_1 Sx=>
 jn (fun (Sx_1:Mem)=>
 jn (fun (Sx_2:Mem)=>
 Q t Sx_2) fun Jx=>
 lp (fun Xx (i:Int) (Sx_3:Mem)=>
 jn (fun (Sx_4:Mem)=>
 jn (fun (Sx_5:Mem)=>
 Xx (IntKind.i64.wrap (i+1)) Sx_5) fun Jx_1=>
 sl acts fun b o n n_1=>
 0≤i∧i<((n:Nat):Int) ∧
 gI (Sx_4.cell b (o+i.toNat*1)) .u8 fun t_2=>
 0≤i∧i<((n:Nat):Int) ∧
 gI (Sx_4.cell b (o+i.toNat*1)) .u8 fun t_3=>
 jn (fun (t_4:Bool) (Sx_6:Mem)=>
 if t_4=true then
 0≤i∧i<((n:Nat):Int) ∧
 gI (Sx_6.cell b (o+i.toNat*1)) .u8 fun t_5=>
 qS Sx_6 seed fun t_6 Sx_7=>
 Sx_7.cell b (o+i.toNat*1)=some (.int .u8 t_5) ∧
 yD Sx_7 t (IntKind.i64.wrap (1+(IntKind.i64.wrap (Int.tmod t_2 3)))) 6 (IntKind.i64.wrap (1+(IntKind.i64.wrap (Int.tmod t_5 4)))) t_6 fun t_7 t_8 Sx_8=>
 Sx_8.cell b (o+i.toNat*1)=some (.int .u8 t_5) ∧
 Jx_1 Sx_8
 else
 if Int.tmod (IntKind.u8.wrap (Int.tdiv t_3 3)) 8=2 then
 vC Sx_6 t (IntKind.i64.wrap (Int.tmod t_2 3)) (Int.tmod (IntKind.i64.wrap ((IntKind.i64.wrap (Int.tmod t_2 3))+1)) 3) true fun t_9 Sx_9=>
 Jx_1 Sx_9
 else
 if Int.tmod (IntKind.u8.wrap (Int.tdiv t_3 3)) 8=3 then
 0≤i∧i<((n:Nat):Int) ∧
 gI (Sx_6.cell b (o+i.toNat*1)) .u8 fun t_10=>
 kB Sx_6 t (IntKind.i64.wrap (Int.tmod t_2 3)) t_10 fun t_11 Sx_10=>
 vB Sx_10 t fun Sx_11=>
 Jx_1 Sx_11
 else
 if Int.tmod (IntKind.u8.wrap (Int.tdiv t_3 3)) 8=4 then
 0≤i∧i<((n:Nat):Int) ∧
 gI (Sx_6.cell b (o+i.toNat*1)) .u8 fun t_12=>
 if Int.tmod t_12 2=0 then
 xd Sx_6 t (IntKind.i64.wrap (Int.tmod t_2 3)) fun t_13 Sx_12=>
 Jx_1 Sx_12
 else
 Jx_1 Sx_6
 else
 lp (fun Xx_1 (k_2:Int) (Sx_13:Mem)=>
 jn (fun (Sx_14:Mem)=>
 ws Sx_14 t (IntKind.i64.wrap (Int.tmod t_2 3)) 0 fun t_14 Sx_15=>
 ws Sx_15 t (IntKind.i64.wrap (Int.tmod t_2 3)) 1 fun t_15 Sx_16=>
 Xx_1 (IntKind.i64.wrap (k_2+1)) Sx_16) fun Jx_2=>
 if k_2<30 then
 Jx_2 Sx_13
 else
 Jx_1 Sx_13) 0 Sx_6) fun Jx_3=>
 if Int.tmod (IntKind.u8.wrap (Int.tdiv t_3 3)) 8=0 then
 Jx_3 true Sx_4
 else
 if Int.tmod (IntKind.u8.wrap (Int.tdiv t_3 3)) 8=1 then
 Jx_3 true Sx_4
 else
 Jx_3 false Sx_4) fun Jx_4=>
 if i<(acts.n:Int) then
 Jx_4 Sx_3
 else
 Jx Sx_3) 0 Sx_1) fun Jx_5=>
 if t_1≠0 then
 Q none Sx
 else
 Jx_5 Sx
theorem wQ {S:Mem} {form:Int} {frames:Int} {region:Int} {acts:Sl} {seed:Sl} {Q:Pt→Mem→Prop} (H:qM S form frames region acts seed Q):yb S form frames region acts seed Q:=by
 unfold qM at H
 exact Tr.intro func26 E ntmps26 E fun w0=>csr<|gv E E<|nxr<|mv E E<|mv E E<|mv E E<|ziz E E H fun t t_1 Sx H1=>mv E E<|s_p E (zk E E)<|s_p E (zk E E)<|gv E E<|gv E E<|nx<|zy H1 (fun (J:Mem→Prop) (z:Unit) S=>J S) (fun z=>⟨100,[(3,eL acts),(4,eL seed),(11,eP t)]⟩) (fun z=>[]) (fun _ Sx_1 H2=>zy H2 (fun (J:Mem→Prop) (z:Unit) S=>J S) (fun z=>⟨100,[(11,eP t)]⟩) (fun z=>[]) (fun _ Sx_2 H3=>csr<|mv E E<|gv E E<|nx<|zu<|zt results26 (zf E zi) ⟨_,E,H3⟩) (fun Jx hJx H4=>csr<|gv E E<|nx<|zK<|xC (fun z=>⟨100,[(3,eL acts),(4,eL seed),(11,eP t),(13,.int .i64 z)]⟩) (fun z=>[]) 0 (idx:=[]) H4 E ⟨E,E,E,E,True.intro⟩ E<|fun Xx hXx i Sx_3 H5=>zy H5 (fun (J:Mem→Prop) (z:Unit) S=>J S) (fun z=>⟨100,[(3,eL acts),(4,eL seed),(11,eP t),(13,.int .i64 i)]⟩) (fun z=>[]) (fun _ Sx_4 H6=>zy H6 (fun (J:Mem→Prop) (z:Unit) S=>J S) (fun z=>⟨100,[(3,eL acts),(4,eL seed),(11,eP t),(13,.int .i64 i)]⟩) (fun z=>[]) (fun _ Sx_5 H7=>zE<|mv E E<|s_p E (qZ E E)<|gv E E<|zr<|hXx (IntKind.i64.wrap (i+1)) _ _ _ _ [] H7 E ⟨E,E,E,E,True.intro⟩ E) (fun Jx_1 hJx_1 H8=>zK<|csr<|mv E E<|mv E E<|by obtain⟨b,o,n,n_1,rfl,H9⟩:=H8;exact an2 H9 fun c c_1 H10=>s_p E (gn E E c c_1 E)<|gx H10 fun t_2 ht_2 H11=>s_v E (zG E) (qh ht_2)<|s_p E (zid E E (by decide))<|s_p E (jy ⟨_,underlying5⟩ E)<|gv E E<|nxr<|mv E E<|mv E E<|an2 H11 fun c_2 c_3 H12=>s_p E (gn E E c_2 c_3 E)<|gx H12 fun t_3 ht_3 H13=>s_v E (zG E) (qh ht_3)<|s_p E (zoa E E (by decide))<|s_p E (zid E E (by decide))<|nx<|zK<|zy H13 (fun (J:Bool→Mem→Prop) (z:Bool) S=>J z S) (fun z=>⟨100,[(3,.slice (some ⟨b,o,none⟩) n n_1),(4,eL seed),(11,eP t),(13,.int .i64 i),(14,.int .i64 (IntKind.i64.wrap (Int.tmod t_2 3))),(42,.int .u8 (Int.tmod (IntKind.u8.wrap (Int.tdiv t_3 3)) 8)),(53,.bool z)]⟩) (fun z=>[]) (fun t_4 Sx_6 H14=>by have H15:=zfs H14;rcases H15 with ⟨c_4,H16⟩ | ⟨c_4,H16⟩;exact (c_t E c_4<|qa (by kernel_rfl)<|a_takeP 0 E (by decide +kernel) (zc (zc (za (za (zc (za zb)))))) E (zp E)<|by exact a_takeP 1 E (by decide +kernel) (zc (zc (za (za (zc (za zb)))))) E (zp E)<|by exact a_takeP 2 E (by decide +kernel) (zc (zc (za (za (zc (za zb)))))) E (qZ E E)<|by exact a_takeP 3 E (by decide +kernel) (zc (zc (za (za (zc (za zb)))))) E (zp E)<|by exact a_takeP 4 E (by decide +kernel) (zc (zc (za (za (zc (za zb)))))) E (zp E)<|by exact an2 H16 fun c_5 c_6 H17=>a_takeP 5 E (by decide +kernel) (zc (zc (za (za (zc (za zb)))))) E (gn E E c_5 c_6 E)<|by exact gx H17 fun t_5 ht_5 H18=>zY 6 E (by decide +kernel) (zc (zc (za (za (zc (za zb)))))) E (zG E) (qh ht_5)<|by exact a_takeP 7 E (by decide +kernel) (zc (zc (za (za (zc (za zb)))))) E (zid E E (by decide))<|by exact a_takeP 8 E (by decide +kernel) (zc (zc (za (za (zc (za zb)))))) E (jy ⟨_,underlying5⟩ E)<|by exact a_takeP 9 E (by decide +kernel) (zc (zc (za (za (zc (za zb)))))) E (qZ E E)<|by exact a_takeP 10 E (by decide +kernel) (zc (zc (za (za (zc (za zb)))))) E (zp E)<|by exact zw 11 (by decide +kernel) E<|by exact kq E E H18 fun t_6 Sx_7 H19=>by obtain⟨k,H20⟩:=H19;exact zr<|zH (zj (qh k) zq)<|zw 12 (by decide +kernel) E<|by exact ziz E E H20 fun t_7 t_8 Sx_8 H21=>by obtain⟨k_1,H22⟩:=H21;exact zr<|zH (zj (qh k_1) zq)<|zW (by decide +kernel)<|by exact qr<|qr<|hJx_1 () _ _ _ _ [] H22 E ⟨E,E,E,E,True.intro⟩ E);exact (c_f E c_4<|csr<|iteK H16 (fun c_7 H23=>ceT E E E (c_7)<|gv E E<|nx<|ctr E E<|mv E E<|mv E E<|mv E E<|s_p E (qZ E E)<|s_p E (zid E E (by decide))<|kq E E H23 fun t_9 Sx_9 H24=>zr<|qr<|qr<|hJx_1 () _ _ _ _ [] H24 E ⟨E,E,E,E,True.intro⟩ E) fun c_7 H23=>ceF E E E (c_7)<|gv E E<|nx<|c_f E E<|csr<|iteK H23 (fun c_8 H25=>ceT E E E (c_8)<|gv E E<|nx<|c_t E E<|csr<|mv E E<|mv E E<|mv E E<|mv E E<|an2 H25 fun c_9 c_10 H26=>s_p E (gn E E c_9 c_10 E)<|gx H26 fun t_10 ht_10 H27=>s_v E (zG E) (qh ht_10)<|kq E E H27 fun t_11 Sx_10 H28=>nx<|zE<|mv E E<|zlu E E H28 fun Sx_11 H29=>zr<|qr<|qr<|hJx_1 () _ _ _ _ [] H29 E ⟨E,E,E,E,True.intro⟩ E) fun c_8 H25=>ceF E E E (c_8)<|gv E E<|nx<|c_f E E<|csr<|iteK H25 (fun c_11 H30=>ceT E E E (c_11)<|gv E E<|nx<|c_t E E<|csr<|mv E E<|mv E E<|an2 H30 fun c_12 c_13 H31=>s_p E (gn E E c_12 c_13 E)<|gx H31 fun t_12 ht_12 H32=>s_v E (zG E) (qh ht_12)<|s_p E (zid E E (by decide))<|iteK H32 (fun c_14 H33=>ceT E E E (c_14)<|nx<|ctr E E<|mv E E<|mv E E<|kq E E H33 fun t_13 Sx_12 H34=>zr<|qr<|qr<|hJx_1 () _ _ _ _ [] H34 E ⟨E,E,E,E,True.intro⟩ E) fun c_14 H33=>ceF E E E (c_14)<|nx<|cfs E E<|qr<|qr<|hJx_1 () _ _ _ _ [] H33 E ⟨E,E,E,E,True.intro⟩ E) fun c_11 H30=>ceF E E E (c_11)<|gv E E<|nx<|c_f E E<|csr<|gv E E<|nx<|zK<|xC (fun z=>⟨100,[(3,.slice (some ⟨b,o,none⟩) n n_1),(4,eL seed),(11,eP t),(13,.int .i64 i),(14,.int .i64 (IntKind.i64.wrap (Int.tmod t_2 3))),(15,.int .i64 z)]⟩) (fun z=>[]) 0 (idx:=[]) H30 E ⟨E,E,E,E,E,E,True.intro⟩ E<|fun Xx_1 hXx_1 k_2 Sx_13 H35=>zy H35 (fun (J:Mem→Prop) (z:Unit) S=>J S) (fun z=>⟨100,[(3,.slice (some ⟨b,o,none⟩) n n_1),(4,eL seed),(11,eP t),(13,.int .i64 i),(14,.int .i64 (IntKind.i64.wrap (Int.tmod t_2 3))),(15,.int .i64 k_2)]⟩) (fun z=>[]) (fun _ Sx_14 H36=>qb<|zK<|csr<|mv E E<|mv E E<|kq E E H36 fun t_14 Sx_15 H37=>nx<|zE<|mv E E<|mv E E<|kq E E H37 fun t_15 Sx_16 H38=>zr<|qr<|zB<|zE<|mv E E<|s_p E (qZ E E)<|gv E E<|zr<|by exact hXx_1 (IntKind.i64.wrap (k_2+1)) _ _ _ _ [] H38 E ⟨E,E,E,E,E,E,True.intro⟩ E) (fun Jx_2 hJx_2 H39=>csr<|mv E E<|iteK H39 (fun c_15 H40=>s_p E (yT (qq E E) c_15)<|nx<|c_t E E<|yV<|hJx_2 () _ _ _ _ [] H40 E ⟨E,E,E,E,E,E,True.intro⟩ E) fun c_15 H40=>s_p E (yF (qq E E) c_15)<|nx<|c_f E E<|qY<|zm<|zm<|zV<|qr<|qr<|hJx_1 () _ _ _ _ [] H40 E ⟨E,E,E,E,True.intro⟩ E))) (fun Jx_3 hJx_3 H41=>csr<|iteK H41 (fun c_16 H42=>ceT E E E (c_16)<|gv E E<|nx<|c_t E E<|yV<|hJx_3 true _ _ _ _ [] H42 E ⟨E,E,E,E,E,E,E,True.intro⟩ E) fun c_16 H42=>ceF E E E (c_16)<|gv E E<|nx<|cfr E E<|iteK H42 (fun c_17 H43=>ceT E E E (c_17)<|gv E E<|zr<|hJx_3 true _ _ _ _ [] H43 E ⟨E,E,E,E,E,E,E,True.intro⟩ E) fun c_17 H43=>ceF E E E (c_17)<|gv E E<|zr<|hJx_3 false _ _ _ _ [] H43 E ⟨E,E,E,E,E,E,E,True.intro⟩ E))) (fun Jx_4 hJx_4 H44=>csr<|mv E E<|mv E E<|s_p E (jJ E)<|iteK H44 (fun c_18 H45=>s_p E (yT (qq E E) c_18)<|nx<|c_t E E<|yV<|hJx_4 () _ _ _ _ [] H45 E ⟨E,E,E,E,True.intro⟩ E) fun c_18 H45=>s_p E (yF (qq E E) c_18)<|nx<|c_f E E<|qY<|zm<|zm<|zV<|hJx () _ _ _ _ [] H45 E ⟨E,True.intro⟩ E))) (fun Jx_5 hJx_5 H46=>csr<|mv E E<|iteK H46 (fun c_19 H47=>s_p E (yT (qt E E) c_19)<|nx<|c_t E E<|csr<|gv E E<|nx<|zu<|zd<|zt results26 (zf E zi) ⟨_,E,H47⟩) fun c_19 H47=>s_p E (yF (qt E E) c_19)<|nx<|cfs E E<|hJx_5 () _ _ _ _ [] H47 E ⟨E,E,E,True.intro⟩ E)
def yv (S:Mem) (Q:Bool→Mem→Prop):Prop:=
 al S 5 ([.int .u8 0,.int .u8 1]) fun b Sx=>
 yb Sx 1 64 4 (⟨some (b,0),2,2⟩) (⟨none,0,0⟩) fun t Sx_1=>
 jn (fun (Sx_2:Mem)=>
 qT Sx_2 t fun t_1 Sx_3=>
 if t_1=0 then
 wY Sx_3 none none (⟨none,0,0⟩) none fun t_2 Sx_4=>
 Q (decide (t_2=1)) Sx_4
 else
 Q false Sx_3) fun Jx=>
 if t=none then
 Q false Sx_1
 else
 Jx Sx_1
theorem gy {S:Mem} {Q:Bool→Mem→Prop} (H:yv S Q):qi S Q:=by
 unfold yv at H
 have:=dj1 5 [1]
 exact Tr.intro func24 E ntmps24 E fun w0=>go results24 H
end
section
open Go Go.Pt Go.Proofs.Tryz
attribute [local irreducible] lt WD WN Code.wp Back bodyPost wpList FR WL WC WQ WA AW Tr Yc HC AllC
def xR (S:Mem) (h:Pt) (vm:Int) (Q:Int→Mem→Prop):Prop:=
 jn (fun (Sx:Mem)=>
 jn (fun (Sx_1:Mem)=>
 nn h fun b o=>
 gP (Sx_1.cell b (o+3)) fun t=>
 nn t fun b_1 o_1=>
 0≤vm∧vm<6 ∧
 gA (Sx_1.part b_1 (o_1+2+vm.toNat*12+2) 2) fun t_1=>
 t_1.all (·.oneCell')=true ∧
 gP (Sx_1.cell b o) fun t_2=>
 yR Sx_1 t_1 t_2 fun t_3 t_4 Sx_2=>
 jn (fun (Sx_3:Mem)=>
 jn (fun (Sx_4:Mem)=>
 wt Sx_4 (some (b,o+2)) vm fun Sx_5=>
 gP (Sx_5.cell b (o+3)) fun t_5=>
 nn t_5 fun b_3 o_2=>
 gP (Sx_5.cell b_3 (o_2+171)) fun t_6=>
 yQ Sx_5 t_6 vm fun Sx_6=>
 gP (Sx_6.cell b (o+3)) fun t_7=>
 nn t_7 fun b_4 o_3=>
 0≤vm∧vm<6 ∧
 pt Sx_6 b_4 (o_3+2+vm.toNat*12) 12 ([.bool false,.slice (none) 0 0,.int .i64 0,.slice (none) 0 0,.int .i64 0,.int .u64 0,.slice (none) 0 0,.slice (none) 0 0,.slice (none) 0 0,.slice (none) 0 0,.slice (none) 0 0,.int .u32 0]) fun Sx_7=>
 jn (fun (Sx_8:Mem)=>
 Q 0 Sx_8) fun Jx=>
 lp (fun Xx (t_8:Int) (Sx_9:Mem)=>
 if t_8<6 then
 gP (Sx_9.cell b (o+3)) fun t_9=>
 nn t_9 fun b_5 o_4=>
 0≤t_8∧t_8<6 ∧
 gI (Sx_9.cell b_5 (o_4+2+t_8.toNat*12+11)) .u32 fun t_10=>
 0≤vm ∧
 0≤t_8∧t_8<6 ∧
 pt Sx_9 b_5 (o_4+2+t_8.toNat*12+11) 1 ([.int .u32 (iandn .u32 t_10 (ishl .u32 1 vm))]) fun Sx_10=>
 Xx (IntKind.i64.wrap (t_8+1)) Sx_10
 else
 Jx Sx_9) 0 Sx_7) fun Jx_1=>
 gL (nthL t_1 1) fun t_11=>
 lp (fun Xx_1 (t_12:Int) (Sx_11:Mem)=>
 if t_12<(t_11.n:Int) then
 sl t_11 fun b_6 o_5 n n_1=>
 0≤t_12∧t_12<((n:Nat):Int) ∧
 gI (Sx_11.cell b_6 (o_5+t_12.toNat*1)) .i64 fun t_13=>
 gP (Sx_11.cell b (o+3)) fun t_14=>
 nn t_14 fun b_7 o_6=>
 gP (Sx_11.cell b_7 (o_6+74)) fun t_15=>
 wc Sx_11 t_15 t_13 fun t_16 Sx_12=>
 gP (Sx_12.cell b (o+1)) fun t_17=>
 qU Sx_12 t_17 t_13 fun t_18 Sx_13=>
 Xx_1 (IntKind.i64.wrap (t_12+1)) Sx_13
 else
 Jx_1 Sx_11) 0 Sx_3) fun Jx_2=>
 lp (fun Xx_2 (t_19:Int) (Sx_14:Mem)=>
 if t_19<(t_4.n:Int) then
 sl t_4 fun b_8 o_7 n_2 n_3=>
 0≤t_19∧t_19<((n_2:Nat):Int) ∧
 gA (Sx_14.part b_8 (o_7+t_19.toNat*3) 3) fun t_20=>
 t_20.all (·.oneCell')=true ∧
 gP (Sx_14.cell b (o+3)) fun t_21=>
 nn t_21 fun b_10 o_8=>
 gP (Sx_14.cell b_10 (o_8+74)) fun t_22=>
 gI (nthL t_20 1) .i64 fun t_23=>
 yM Sx_14 t_22 t_23 vm fun t_24 Sx_15=>
 Sx_15.cell b (o+3)=some (.pointer (some ⟨b_10,o_8,none⟩)) ∧
 gP (Sx_15.cell b (o+1)) fun t_25=>
 gI (nthL t_20 1) .i64 fun t_26=>
 qU Sx_15 t_25 t_26 fun t_27 Sx_16=>
 Xx_2 (IntKind.i64.wrap (t_19+1)) Sx_16
 else
 Jx_2 Sx_14) 0 Sx_2) fun Jx_3=>
 nn h fun b_11 o_9=>
 gP (Sx.cell b_11 (o_9+3)) fun t_28=>
 nn t_28 fun b_12 o_10=>
 gA (Sx.part b_12 (o_10+75) 96) fun t_29=>
 gF Sx t_29 vm fun t_30 Sx_17=>
 lp (fun Xx_3 (t_31:Int) (Sx_18:Mem)=>
 if t_31<(t_30.n:Int) then
 sl t_30 fun b_13 o_11 n_4 n_5=>
 0≤t_31∧t_31<((n_4:Nat):Int) ∧
 gI (Sx_18.cell b_13 (o_11+t_31.toNat*1)) .i64 fun t_32=>
 gW Sx_18 (some (b_11,o_9)) t_32 fun Sx_19=>
 Xx_3 (IntKind.i64.wrap (t_31+1)) Sx_19
 else
 Jx_3 Sx_18) 0 Sx_17) fun Jx_4=>
 if h=none then
 Q 2 S
 else
 nn h fun b_14 o_12=>
 gP (S.cell b_14 (o_12+3)) fun t_33=>
 zJ S t_33 vm fun t_34 Sx_20=>
 if t_34=true then
 Jx_4 Sx_20
 else
 Q 2 Sx_20
theorem zbh {S:Mem} {h:Pt} {vm:Int} {Q:Int→Mem→Prop} (H:xR S h vm Q):xd S h vm Q:=by
 unfold xR at H
 have:=dj1 31 []
 have:=dj0 (α:=Int) 27 [0,1] (fun z=>[(134,.int .i64 z)])
 have:=dj1 23 [0,1]
 have:=dj0 (α:=Int) 18 [0,1,89,90] (fun z=>[(91,.int .i64 z)])
 have:=dj (α:=Unit) 17 [0,1,7] (fun _=>[]) (fun _=>[(0,none)])
 have:=dj (α:=Int) 12 [0,1,7,63,64] (fun z=>[(65,.int .i64 z)]) (fun _=>[(0,none)])
 have:=dj1 9 [0,1]
 have:=dj0 (α:=Int) 5 [0,1,34,35] (fun z=>[(36,.int .i64 z)])
 have:=dj1 4 [0,1]
 exact Tr.intro func53 E ntmps53 E fun w0=>go results53 H
end
section
open Go Go.Pt Go.Proofs.Tryz
attribute [local irreducible] lt WD WN Code.wp Back bodyPost wpList FR WL WC WQ WA AW Tr Yc HC AllC
def xg (S:Mem) (t:List Value) (s:Pt) (Q:Sl→Sl→Mem→Prop):Prop:=
 t.length=2 ∧
 jn (fun (pages:Sl) (l:Sl) (Sx:Mem)=>
 Q pages l Sx) fun Jx=>
 lp (fun Xx (z:Sl×Sl×Int) (Sx_1:Mem)=>
 match z with
 | (pages_1,l_1,t_1)=>
 if t_1<32 then
 zP Sx_1 t s t_1 fun t_2 t_3 Sx_2=>
 t_2.all (·.oneCell')=true ∧
 if t_3=0 then
 ap Sx_2 3 1 8 [.int .i64 0] pages_1 1 ([.int .i64 t_1]) fun t_4 Sx_3=>
 t_2.all (·.oneCell')=true ∧
 ap Sx_3 80 3 24 [.bool false,.int .i64 0,.bool false] l_1 1 t_2 fun t_5 Sx_4=>
 Xx (t_4,t_5,IntKind.i64.wrap (t_1+1)) Sx_4
 else
 Xx (pages_1,l_1,IntKind.i64.wrap (t_1+1)) Sx_2
 else
 Jx pages_1 l_1 Sx_1) (⟨none,0,0⟩,⟨none,0,0⟩,0) S
theorem gc {S:Mem} {t:List Value} {s:Pt} {Q:Sl→Sl→Mem→Prop} (H:xg S t s Q):yR S t s Q:=by
 unfold xg at H
 exact Tr.intro func101 E ntmps101 E fun w0=>an H fun ht H1=>csr<|jM E E E fun b=>gv E E<|gv E E<|nxr<|gv E E<|nxr<|gv E E<|nx<|zy H1 (fun (J:Sl→Sl→Mem→Prop) (z:Sl×Sl) S=>J z.1 z.2 S) (fun z=>⟨34,[(6,eL z.1),(7,eL z.2)]⟩) (fun z=>[]) (by rintro⟨pages,l⟩ Sx H2;exact csr<|mv E E<|mv E E<|gv E E<|gv E E<|nx<|zu<|zt results101 (zf E (zf E zi)) ⟨_,_,E,H2⟩) (fun Jx hJx H3=>csr<|mv E E<|nx<|zK<|xC (fun z=>⟨34,[(1,eP s),(2,.pointer (some ⟨b,0,none⟩)),(6,eL z.1),(7,eL z.2.1),(11,.int .i64 z.2.2)]⟩) (fun z=>[⟨b,41,t⟩]) (⟨none,0,0⟩,⟨none,0,0⟩,0) (idx:=[0]) H3 E ⟨E,E,E,E,E,True.intro⟩ E<|by rintro Xx hXx ⟨pages_1,l_1,t_1⟩ Sx_1 H4;exact csr<|iteK H4 (fun c H5=>s_p E (yT (qq E E) c)<|nx<|qb<|c_t E E<|yV<|zB<|qb<|zK<|csr<|mv E E<|gv E E<|nxr<|by refine s_v E (qk E ht) (zD (k:=2) 0 E (ze ht)) ?_;exact mv E E<|mv E E<|qz E E H5 fun rv Sx_2 H6=>by obtain⟨t_2,t_3,rfl,ht_2,H7⟩:=H6;exact mv E E<|s_p E (zk E E)<|s_p E (zk E E)<|by refine zX E fun b_1=>?_;exact an H7 fun c_1 H8=>zn 1 E E E E E ht_2 E c_1<|gv E E<|nxr<|mv E E<|iteK H8 (fun c_2 H9=>ceT E E E (c_2)<|nx<|c_t E E<|qa (by kernel_rfl)<|a_takeP 0 E (by decide +kernel) (zc (za (za (zc (za zb))))) E (zp E)<|by exact a_takeP 1 E (by decide +kernel) (zc (za (za (zc (za zb))))) E (zp E)<|by exact a_takeP 4 E (by decide +kernel) (zc (za (za (zc (za zb))))) E (zp E)<|by exact by refine zY 5 E (by decide +kernel) (zc (za (za (zc (za zb))))) E (qk E ht_2) (zD (k:=3) 1 E (ze ht_2)) ?_;exact ff 2 6 (by decide +kernel) E E (zjr E E (by decide) E fun b_2=>zr<|zH (zj (zD (k:=3) 1 E (ze ht_2)) zq)<|ff 3 6 (by decide +kernel) E E (gf (sx:=pages_1) (vs:=[.int .i64 t_1]) E E E (zgS 2 E E) E E (by decide) H9 fun t_4 Sx_3 H10=>zr<|zH (zj (zD (k:=3) 1 E (ze ht_2)) zq)<|zw 6 (by decide +kernel) E<|by exact zjr E E (by decide) (jD (size:=3) E ht_2) fun b_3=>zr<|zH zq<|zw 7 (by decide +kernel) E<|by exact an H10 fun c_3 H11=>gf (sx:=l_1) (vs:=t_2) E E E (zgS 3 E (ze ht_2)) ht_2 c_3 (by decide) H11 fun t_5 Sx_4 H12=>zr<|zH zq<|a_takeP 8 E (by decide +kernel) (zc (za (za (zc (za zb))))) E (zT E)<|by exact a_takeP 9 E (by decide +kernel) (zc (za (za (zc (za zb))))) E (zT E)<|by exact zW (by decide +kernel)<|by exact qr<|zB<|zE<|s_p E (qZ E E)<|mv E E<|zr<|hXx (t_4,t_5,IntKind.i64.wrap (t_1+1)) _ _ _ _ [0] H12 E ⟨E,E,E,E,E,True.intro⟩ E) (zjr E E (by decide) (jD (size:=3) E ht_2) fun b_3=>zr<|zH zq<|zw 3 (by decide +kernel) E<|by exact gf (sx:=pages_1) (vs:=[.int .i64 t_1]) E E E (zgS 2 E E) E E (by decide) H9 fun t_4 Sx_3 H13=>zr<|zH zq<|zw 7 (by decide +kernel) E<|by exact an H13 fun c_3 H14=>gf (sx:=l_1) (vs:=t_2) E E E (zgS 3 E (ze ht_2)) ht_2 c_3 (by decide) H14 fun t_5 Sx_4 H15=>zr<|zH zq<|a_takeP 8 E (by decide +kernel) (zc (za (za (zc (za zb))))) E (zT E)<|by exact a_takeP 9 E (by decide +kernel) (zc (za (za (zc (za zb))))) E (zT E)<|by exact zW (by decide +kernel)<|by exact qr<|zB<|zE<|s_p E (qZ E E)<|mv E E<|zr<|hXx (t_4,t_5,IntKind.i64.wrap (t_1+1)) _ _ _ _ [0] H15 E ⟨E,E,E,E,E,True.intro⟩ E)) (zjr E E (by decide) (jD (size:=3) E ht_2) fun b_2=>zr<|zH zq<|zw 2 (by decide +kernel) E<|by exact zjr E E (by decide) E fun b_3=>zr<|zH zq<|zw 3 (by decide +kernel) E<|by exact gf (sx:=pages_1) (vs:=[.int .i64 t_1]) E E E (zgS 3 E E) E E (by decide) H9 fun t_4 Sx_3 H16=>zr<|zH zq<|zw 7 (by decide +kernel) E<|by exact an H16 fun c_3 H17=>gf (sx:=l_1) (vs:=t_2) E E E (zgS 2 E (ze ht_2)) ht_2 c_3 (by decide) H17 fun t_5 Sx_4 H18=>zr<|zH zq<|a_takeP 8 E (by decide +kernel) (zc (za (za (zc (za zb))))) E (zT E)<|by exact a_takeP 9 E (by decide +kernel) (zc (za (za (zc (za zb))))) E (zT E)<|by exact zW (by decide +kernel)<|by exact qr<|zB<|zE<|s_p E (qZ E E)<|mv E E<|zr<|hXx (t_4,t_5,IntKind.i64.wrap (t_1+1)) _ _ _ _ [0] H18 E ⟨E,E,E,E,E,True.intro⟩ E)) fun c_2 H9=>ceF E E E (c_2)<|nx<|cfs E E<|qr<|zB<|zE<|s_p E (qZ E E)<|mv E E<|zr<|hXx (pages_1,l_1,IntKind.i64.wrap (t_1+1)) _ _ _ _ [0] H9 E ⟨E,E,E,E,E,True.intro⟩ E) fun c H5=>s_p E (yF (qq E E) c)<|nx<|qb<|c_f E E<|qY<|zm<|zm<|zV<|hJx (pages_1,l_1) _ _ _ _ [] H5 E ⟨E,E,True.intro⟩ E)
end
section
open Go Go.Pt Go.Proofs.Tryz
attribute [local irreducible] lt WD WN Code.wp Back bodyPost wpList FR WL WC WQ WA AW Tr Yc HC AllC
def ki (S:Mem) (h:Pt) (a:Int) (b:Int) (onx:Bool) (Q:Int→Mem→Prop):Prop:=
 jn (fun (Sx:Mem)=>
 nn h fun b_1 o=>
 gP (Sx.cell b_1 (o+3)) fun t=>
 nn t fun b_2 o_1=>
 0≤a∧a<6 ∧
 gI (Sx.cell b_2 (o_1+2+a.toNat*12+11)) .u32 fun t_1=>
 0≤b ∧
 0≤a∧a<6 ∧
 pt Sx b_2 (o_1+2+a.toNat*12+11) 1 ([.int .u32 (iandn .u32 t_1 (ishl .u32 1 b))]) fun Sx_1=>
 gP (Sx_1.cell b_1 (o+3)) fun t_2=>
 nn t_2 fun b_3 o_2=>
 0≤b∧b<6 ∧
 gI (Sx_1.cell b_3 (o_2+2+b.toNat*12+11)) .u32 fun t_3=>
 0≤a ∧
 0≤b∧b<6 ∧
 pt Sx_1 b_3 (o_2+2+b.toNat*12+11) 1 ([.int .u32 (iandn .u32 t_3 (ishl .u32 1 a))]) fun Sx_2=>
 if onx=true then
 gP (Sx_2.cell b_1 (o+3)) fun t_4=>
 nn t_4 fun b_4 o_3=>
 0≤a∧a<6 ∧
 gI (Sx_2.cell b_4 (o_3+2+a.toNat*12+11)) .u32 fun t_5=>
 0≤b ∧
 0≤a∧a<6 ∧
 pt Sx_2 b_4 (o_3+2+a.toNat*12+11) 1 ([.int .u32 (ior .u32 t_5 (ishl .u32 1 b))]) fun Sx_3=>
 gP (Sx_3.cell b_1 (o+3)) fun t_6=>
 nn t_6 fun b_5 o_4=>
 0≤b∧b<6 ∧
 gI (Sx_3.cell b_5 (o_4+2+b.toNat*12+11)) .u32 fun t_7=>
 0≤a ∧
 0≤b∧b<6 ∧
 pt Sx_3 b_5 (o_4+2+b.toNat*12+11) 1 ([.int .u32 (ior .u32 t_7 (ishl .u32 1 a))]) fun Sx_4=>
 Q 0 Sx_4
 else
 Q 0 Sx_2) fun Jx=>
 if h=none then
 Q 2 S
 else
 nn h fun b_6 o_5=>
 gP (S.cell b_6 (o_5+3)) fun t_8=>
 zJ S t_8 a fun t_9 Sx_5=>
 if t_9=true then
 gP (Sx_5.cell b_6 (o_5+3)) fun t_10=>
 zJ Sx_5 t_10 b fun t_11 Sx_6=>
 if t_11=true then
 if a=b then
 Q 1 Sx_6
 else
 Jx Sx_6
 else
 Q 2 Sx_6
 else
 Q 2 Sx_5
theorem zdW {S:Mem} {h:Pt} {a:Int} {b:Int} {onx:Bool} {Q:Int→Mem→Prop} (H:ki S h a b onx Q):vC S h a b onx Q:=by
 unfold ki at H
 have:=dj1 6 [0,1,2,3]
 exact Tr.intro func50 E ntmps50 E fun w0=>go results50 H
def jq (S:Mem) (h:Pt) (vm:Int) (b:Int) (Q:Int→Mem→Prop):Prop:=
 jn (fun (Sx:Mem)=>
 nn h fun b_1 o=>
 gP (Sx.cell b_1 (o+3)) fun t=>
 gP (Sx.cell b_1 (o+3)) fun t_1=>
 nn t_1 fun b_2 o_1=>
 0≤vm∧vm<6 ∧
 gL (Sx.cell b_2 (o_1+2+vm.toNat*12+6)) fun t_2=>
 nn t fun b_3 o_2=>
 ap Sx 5 1 1 [.int .u8 0] t_2 1 ([.int .u8 b]) fun t_3 Sx_1=>
 Sx_1.cell b_1 (o+3)=some (.pointer (some ⟨b_2,o_1,none⟩)) ∧
 Sx_1.cell b_1 (o+3)=some (.pointer (some ⟨b_3,o_2,none⟩)) ∧
 0≤vm∧vm<6 ∧
 pt Sx_1 b_3 (o_2+2+vm.toNat*12+6) 1 ([eL t_3]) fun Sx_2=>
 gP (Sx_2.cell b_1 (o+3)) fun t_4=>
 qm Sx_2 t_4 vm 0 fun t_5 Sx_3=>
 kG Sx_3 t_5 6 fun t_6 Sx_4=>
 Q 0 Sx_4) fun Jx=>
 if h=none then
 Q 2 S
 else
 nn h fun b_5 o_3=>
 gP (S.cell b_5 (o_3+3)) fun t_7=>
 zJ S t_7 vm fun t_8 Sx_5=>
 if t_8=true then
 gP (Sx_5.cell b_5 (o_3+3)) fun t_9=>
 nn t_9 fun b_6 o_4=>
 0≤vm∧vm<6 ∧
 gL (Sx_5.cell b_6 (o_4+2+vm.toNat*12+6)) fun t_10=>
 if 64≤(t_10.n:Int) then
 Q 3 Sx_5
 else
 Jx Sx_5
 else
 Q 2 Sx_5
theorem zeD {S:Mem} {h:Pt} {vm:Int} {b:Int} {Q:Int→Mem→Prop} (H:jq S h vm b Q):kB S h vm b Q:=by
 unfold jq at H
 exact Tr.intro func51 E ntmps51 E fun w0=>csr<|gv E E<|nx<|zy H (fun (J:Mem→Prop) (z:Unit) S=>J S) (fun z=>⟨61,[(0,eP h),(1,.int .i64 vm),(2,.int .u8 b)]⟩) (fun z=>[]) (fun _ Sx H1=>qb<|qa (by kernel_rfl)<|aTP 0 E (by decide +kernel) E (zp E)<|by exact by obtain⟨b_1,o,rfl,H2⟩:=H1;exact aTP 1 E (by decide +kernel) E (qx E)<|by exact aTP 2 E (by decide +kernel) E (zA E E)<|by exact gx H2 fun t ht H3=>aT 3 E (by decide +kernel) E (zG E) (qh ht)<|by exact aTP 4 E (by decide +kernel) E (zp E)<|by exact aTP 5 E (by decide +kernel) E (zp E)<|by exact aTP 6 E (by decide +kernel) E (qx E)<|by exact aTP 7 E (by decide +kernel) E (zA E E)<|by exact gx H3 fun t_1 ht_1 H4=>aT 8 E (by decide +kernel) E (zG E) (qh ht_1)<|by exact aTP 9 E (by decide +kernel) E (zp E)<|by exact by obtain⟨b_2,o_1,rfl,H5⟩:=H4;exact aTP 10 E (by decide +kernel) E (qx E)<|by exact aTP 11 E (by decide +kernel) E (zA E E)<|by exact an2 H5 fun c c_1 H6=>aTP 12 E (by decide +kernel) E (wO E E c c_1 E)<|by exact aTP 13 E (by decide +kernel) E (zA E E)<|by exact gx H6 fun t_2 ht_2 H7=>aT 14 E (by decide +kernel) E (zG E) (qh ht_2)<|by exact aTP 15 E (by decide +kernel) E (zp E)<|by exact by obtain⟨b_3,o_2,rfl,H8⟩:=H7;exact aTP 18 E (by decide +kernel) E (qx E)<|by exact aTP 19 E (by decide +kernel) E (zA E E)<|by exact zw 16 (by decide +kernel) E<|by exact zjr E E (by decide) E fun b_4=>zr<|zH (zj (qh ht_2) (zj (qh ht_1) (zj (qh ht) zq)))<|zw 17 (by decide +kernel) E<|by exact gf (sx:=t_2) (vs:=[.int .u8 b]) E E E (zgS 0 E E) E E (by decide) H8 fun t_3 Sx_1 H9=>by obtain⟨k,H10⟩:=H9;exact by obtain⟨k_1,H11⟩:=H10;exact zr<|zH (zj (qh k) (zj (qh k_1) zq))<|an2 H11 fun c_2 c_3 H12=>aTP 20 E (by decide +kernel) E (wO E E c_2 c_3 E)<|by exact aTP 21 E (by decide +kernel) E (zA E E)<|by exact zw 22 (by decide +kernel) E<|by exact an H12 fun c_4 H13=>vD E E E E E c_4 E<|zr<|zH zq<|zW (by decide +kernel)<|by exact zB<|csr<|mv E E<|s_p E (qx E)<|s_p E (zA E E)<|gx H13 fun t_4 ht_4 H14=>s_v E (zG E) (qh ht_4)<|mv E E<|kq E E H14 fun t_5 Sx_3 H15=>kq E E H15 fun t_6 Sx_4 H16=>nxr<|gv E E<|nx<|zu<|zt results51 (zf E zi) ⟨_,E,H16⟩) (fun Jx hJx H17=>zK<|csr<|mv E E<|iteK H17 (fun c_5 H18=>s_p E (yT (wP (p:=h) E E) c_5)<|mv E E<|sk4 E E E E<|sk2 E E<|zF E<|pk E E E<|gv E E<|nx<|c_t E E<|csr<|gv E E<|nx<|zu<|zo<|zd<|zt results51 (zf E zi) ⟨_,E,H18⟩) fun c_5 H18=>s_p E (yF (wP (p:=h) E E) c_5)<|mv E E<|mv E E<|by obtain⟨b_5,o_3,rfl,H19⟩:=H18;exact s_p E (qx E)<|s_p E (zA E E)<|gx H19 fun t_7 ht_7 H20=>s_v E (zG E) (qh ht_7)<|mv E E<|kq E E H20 fun t_8 Sx_5 H21=>by have H22:=zfs H21;rcases H22 with ⟨rfl,H23⟩ | ⟨rfl,H23⟩;exact (s_p E (yB (ym E) E)<|pk E E E<|gv E E<|nx<|c_f E E<|csr<|mv E E<|s_p E (qx E)<|s_p E (zA E E)<|gx H23 fun t_9 ht_9 H24=>s_v E (zG E) (qh ht_9)<|mv E E<|by obtain⟨b_6,o_4,rfl,H25⟩:=H24;exact s_p E (qx E)<|s_p E (zA E E)<|an2 H25 fun c_6 c_7 H26=>s_p E (wO E E c_6 c_7 E)<|s_p E (zA E E)<|gx H26 fun t_10 ht_10 H27=>s_v E (zG E) (qh ht_10)<|s_p E (jJ E)<|iteK H27 (fun c_8 H28=>s_p E (yT (wT E E) c_8)<|gv E E<|nx<|c_t E E<|csr<|gv E E<|nx<|zu<|zo<|zd<|zt results51 (zf E zi) ⟨_,E,H28⟩) fun c_8 H28=>s_p E (yF (wT E E) c_8)<|gv E E<|nx<|cfs E E<|qr<|hJx () _ _ _ _ [] H28 E ⟨E,E,E,True.intro⟩ E);exact (s_p E (yB (ym E) E)<|pk E E E<|gv E E<|nx<|c_t E E<|csr<|gv E E<|nx<|zu<|zo<|zd<|zt results51 (zf E zi) ⟨_,E,H23⟩))
def jp (S:Mem) (h:Pt) (vm:Int) (n:Int) (Q:Int→Mem→Prop):Prop:=
 jn (fun (Sx:Mem)=>
 nn h fun b o=>
 gP (Sx.cell b (o+3)) fun t=>
 qm Sx t vm n fun t_1 Sx_1=>
 nn t_1 fun b_1 o_1=>
 gI (Sx_1.cell b_1 (o_1+16)) .u64 fun t_2=>
 gP (Sx_1.cell b (o+3)) fun t_3=>
 vI Sx_1 t_3 vm fun t_4 Sx_2=>
 zgW Sx_2 (some (b_1,o_1)) (.iface 184 (valL ([.pointer (some ⟨b,o,none⟩),.int .i64 vm]))) t_4 n fun t_5 Sx_3=>
 t_5.all (·.oneCell')=true ∧
 jn (fun (Sx_4:Mem)=>
 gA (Sx_4.part b_1 o_1 26) fun t_6=>
 zfm Sx_4 t_5 n t_2 t_6 fun t_7 Sx_5=>
 yH Sx_5 (some (b,o)) vm t_7 fun Sx_6=>
 gI (nthL t_5 0) .u8 fun t_8=>
 if t_8=2 then
 gI (nthL t_5 1) .u64 fun t_9=>
 jT Sx_6 (some (b,o)) vm n t_9 fun Sx_7=>
 Q 0 Sx_7
 else
 Q 0 Sx_6) fun Jx=>
 gI (nthL t_5 0) .u8 fun t_10=>
 if t_10=5 then
 Q 10 Sx_3
 else
 Jx Sx_3) fun Jx_1=>
 if h=none then
 Q 2 S
 else
 nn h fun b_3 o_2=>
 gP (S.cell b_3 (o_2+3)) fun t_11=>
 qm S t_11 vm n fun t_12 Sx_8=>
 if t_12=none then
 Q 2 Sx_8
 else
 Jx_1 Sx_8
theorem zeC {S:Mem} {h:Pt} {vm:Int} {n:Int} {Q:Int→Mem→Prop} (H:jp S h vm n Q):ws S h vm n Q:=by
 unfold jp at H
 have:=dj (α:=Unit) 9 [0,1,2,7,8,9] (fun _=>[]) (fun _=>[(0,none)])
 have:=dj1 4 [0,1,2]
 exact Tr.intro func54 E ntmps54 E fun w0=>go results54 H
def kg (S:Mem) (h:Pt) (Q:Mem→Prop):Prop:=
 jn (fun (Sx:Mem)=>
 nn h fun b o=>
 gP (Sx.cell b (o+3)) fun t=>
 nn t fun b_1 o_1=>
 gI (Sx.cell b_1 (o_1+1)) .u64 fun t_1=>
 pt Sx b_1 (o_1+1) 1 ([.int .u64 (IntKind.u64.wrap (t_1+1))]) fun Sx_1=>
 gP (Sx_1.cell b (o+3)) fun t_2=>
 nn t_2 fun b_2 o_2=>
 gP (Sx_1.cell b_2 (o_2+171)) fun t_3=>
 gP (Sx_1.cell b (o+3)) fun t_4=>
 nn t_4 fun b_3 o_3=>
 gI (Sx_1.cell b_3 (o_3+1)) .u64 fun t_5=>
 wM Sx_1 t_3 t_5 fun t_6 Sx_2=>
 Sx_2.cell b (o+3)=some (.pointer (some ⟨b_3,o_3,none⟩)) ∧
 Sx_2.cell b (o+3)=some (.pointer (some ⟨b_2,o_2,none⟩)) ∧
 lp (fun Xx (t_7:Int) (Sx_3:Mem)=>
 if t_7<(t_6.n:Int) then
 sl t_6 fun b_4 o_4 n n_1=>
 0≤t_7∧t_7<((n:Nat):Int) ∧
 gA (Sx_3.part b_4 (o_4+t_7.toNat*3) 3) fun t_8=>
 t_8.all (·.oneCell')=true ∧
 gP (Sx_3.cell b (o+3)) fun t_9=>
 gI (nthL t_8 1) .i64 fun t_10=>
 gI (nthL t_8 2) .i64 fun t_11=>
 qm Sx_3 t_9 t_10 t_11 fun t_12 Sx_4=>
 kG Sx_4 t_12 7 fun t_13 Sx_5=>
 Xx (IntKind.i64.wrap (t_7+1)) Sx_5
 else
 Q Sx_3) 0 Sx_2) fun Jx=>
 if h=none then
 Q S
 else
 Jx S
theorem zdV {S:Mem} {h:Pt} {Q:Mem→Prop} (H:kg S h Q):vB S h Q:=by
 unfold kg at H
 have:=dj0 (α:=Int) 4 [0,30,31] (fun z=>[(32,.int .i64 z)])
 have:=dj1 2 [0]
 exact Tr.intro func52 E ntmps52 E fun w0=>go results52 H
def wE (S:Mem) (h:Pt) (vm:Int) (n:Int) (atx:Int) (Q:Int→Mem→Prop):Prop:=
 nn h fun b o=>
 gP (S.cell b (o+3)) fun t=>
 nn t fun b_1 o_1=>
 gA (S.part b_1 (o_1+75) 96) fun t_1=>
 va S t_1 n vm atx fun t_2 t_3 Sx=>
 t_2.all (·.oneCell')=true ∧
 jn (fun (Sx_1:Mem)=>
 jn (fun (Sx_2:Mem)=>
 gP (Sx_2.cell b (o+3)) fun t_4=>
 0≤n∧n<16 ∧
 gI (nthL t_2 (0+n.toNat*6+1)) .i64 fun t_5=>
 nn t_4 fun b_3 o_2=>
 0≤t_5∧t_5<6 ∧
 gA (Sx_2.part b_3 (o_2+2+t_5.toNat*12+2) 2) fun t_6=>
 gP (Sx_2.cell b o) fun t_7=>
 0≤n∧n<16 ∧
 gI (nthL t_2 (0+n.toNat*6+2)) .i64 fun t_8=>
 zP Sx_2 t_6 t_7 t_8 fun t_9 t_10 Sx_3=>
 Sx_3.cell b (o+3)=some (.pointer (some ⟨b_3,o_2,none⟩)) ∧
 t_9.all (·.oneCell')=true ∧
 gP (Sx_3.cell b (o+3)) fun t_11=>
 nn t_11 fun b_5 o_3=>
 t_2.all (·.oneCell')=true ∧
 pt Sx_3 b_5 (o_3+75) 96 t_2 fun Sx_4=>
 gI (nthL t_9 1) .i64 fun t_12=>
 0≤n∧n<16 ∧
 gB (nthL t_2 (0+n.toNat*6+4)) fun t_13=>
 wq Sx_4 (some (b,o)) vm atx t_12 t_13 fun Sx_5=>
 Q 0 Sx_5) fun Jx=>
 gP (Sx_1.cell b (o+3)) fun t_14=>
 nn t_14 fun b_6 o_4=>
 0≤vm∧vm<6 ∧
 gA (Sx_1.part b_6 (o_4+2+vm.toNat*12+2) 2) fun t_15=>
 gP (Sx_1.cell b o) fun t_16=>
 zP Sx_1 t_15 t_16 atx fun t_17 t_18 Sx_6=>
 Sx_6.cell b (o+3)=some (.pointer (some ⟨b_6,o_4,none⟩)) ∧
 t_17.all (·.oneCell')=true ∧
 if t_18=0 then
 Q 8 Sx_6
 else
 Jx Sx_6) fun Jx_1=>
 if t_3≠0 then
 Q t_3 Sx
 else
 Jx_1 Sx
theorem zbY {S:Mem} {h:Pt} {vm:Int} {n:Int} {atx:Int} {Q:Int→Mem→Prop} (H:wE S h vm n atx Q):vJ S h vm n atx Q:=by
 unfold wE at H
 have:=dj (α:=Unit) 8 [0,1,2,3,9] (fun _=>[]) (fun _=>[(0,none)])
 have:=dj (α:=Unit) 5 [0,1,2,3,9] (fun _=>[]) (fun _=>[(0,none)])
 exact Tr.intro func210 E ntmps210 E fun w0=>go results210 H
def ka (S:Mem) (h:Pt) (vm:Int) (n:Int) (k:Int) (Q:Mem→Prop):Prop:=
 nn h fun b o=>
 gP (S.cell b (o+3)) fun t=>
 qm S t vm n fun t_1 Sx=>
 nn t_1 fun b_1 o_1=>
 gI (Sx.cell b_1 (o_1+1)) .u64 fun t_2=>
 gI (Sx.cell b_1 (o_1+2)) .u64 fun t_3=>
 gI (Sx.cell b_1 (o_1+3)) .u64 fun t_4=>
 zax Sx t_3 fun t_5 Sx_1=>
 Sx_1.cell b_1 (o_1+3)=some (.int .u64 t_4) ∧
 Sx_1.cell b_1 (o_1+1)=some (.int .u64 t_2) ∧
 fT Sx_1 (some (b,o)) vm n k t_2 t_5 (decide (t_4≠0)) fun t_6 t_7 Sx_2=>
 pt Sx_2 b_1 o_1 1 ([.int .u64 (IntKind.u64.wrap t_7)]) fun Sx_3=>
 pt Sx_3 b_1 (o_1+1) 1 ([.int .u64 t_6]) fun Sx_4=>
 yH Sx_4 (some (b,o)) vm ([.int .u8 2,.int .i64 n,.int .u64 (ior .u64 (ishl .u64 k 8) (IntKind.u64.wrap t_7)),.int .u64 t_6]) fun Sx_5=>
 Q Sx_5
theorem zdU {S:Mem} {h:Pt} {vm:Int} {n:Int} {k:Int} {Q:Mem→Prop} (H:ka S h vm n k Q):jT S h vm n k Q:=by
 unfold ka at H
 exact Tr.intro func111 E ntmps111 E fun w0=>go results111 H
def jV (S:Mem) (h:Pt) (vm:Int) (n:Int) (k:Int) (w:Int) (b:Int) (write:Bool) (Q:Int→Int→Mem→Prop):Prop:=
 zax S w fun t Sx=>
 nn h fun b_1 o=>
 gP (Sx.cell b_1 (o+3)) fun t_1=>
 nn t_1 fun b_2 o_1=>
 0≤vm∧vm<6 ∧
 jn (fun (Sx_1:Mem)=>
 Q 0 0 Sx_1) fun Jx=>
 if k=0 then
 yH Sx (some (b_1,o)) vm ([.int .u8 3,.int .i64 n,.int .u64 (iand .u64 w 255),.int .u64 0]) fun Sx_2=>
 Jx Sx_2
 else
 if k=1 then
 jn (fun (Sx_3:Mem)=>
 gL (Sx_3.cell b_2 (o_1+2+vm.toNat*12+6)) fun t_2=>
 sl t_2 fun b_3 o_2 n_1 n_2=>
 (0:Int)<(n_1:Nat) ∧
 gI (Sx_3.cell b_3 o_2) .u8 fun t_3=>
 gL (Sx_3.cell b_2 (o_1+2+vm.toNat*12+6)) fun t_4=>
 (0:Int)≤1∧(1:Int)≤(t_4.n:Int)∧(t_4.n:Int)≤(t_4.c:Int) ∧
 lt (slc 1 t_4 1 (t_4.n:Int)) fun t_5=>
 sp Sx_3 t_5 1 fun vs=>
 ap Sx_3 5 1 1 [.int .u8 0] (⟨none,0,0⟩) t_5.n vs fun t_6 Sx_4=>
 pt Sx_4 b_2 (o_1+2+vm.toNat*12+6) 1 ([eL t_6]) fun Sx_5=>
 Q (IntKind.u64.wrap t_3) 0 Sx_5) fun Jx_1=>
 gL (Sx.cell b_2 (o_1+2+vm.toNat*12+6)) fun t_7=>
 if (t_7.n:Int)=0 then
 Q 0 2 Sx
 else
 Jx_1 Sx
 else
 if k=2 then
 jQ Sx (some (b_1,o)) vm t b fun t_8 Sx_6=>
 Q 0 t_8 Sx_6
 else
 if k=3 then
 gP (Sx.cell b_1 (o+3)) fun t_9=>
 nn t_9 fun b_4 o_3=>
 gP (Sx.cell b_4 (o_3+171)) fun t_10=>
 gI (Sx.cell b_2 (o_1+2+vm.toNat*12+5)) .u64 fun t_11=>
 wL Sx t_10 vm n (IntKind.u64.wrap (w+(if ineg .u64 w<t_11 then ineg .u64 w else t_11))) fun t_12 Sx_7=>
 Sx_7.cell b_2 (o_1+2+vm.toNat*12+5)=some (.int .u64 t_11) ∧
 Sx_7.cell b_1 (o+3)=some (.pointer (some ⟨b_4,o_3,none⟩)) ∧
 Jx Sx_7
 else
 if k=4 then
 kW Sx (some (b_1,o)) vm t b write fun t_13 t_14 Sx_8=>
 Q t_13 t_14 Sx_8
 else
 if k=5 then
 vJ Sx (some (b_1,o)) vm t b fun t_15 Sx_9=>
 Q 0 t_15 Sx_9
 else
 if k=6 then
 kX Sx (some (b_1,o)) vm t fun t_16 Sx_10=>
 Q 0 t_16 Sx_10
 else
 if k=7 then
 wo Sx (some (b_1,o)) vm t fun t_17 Sx_11=>
 Q 0 t_17 Sx_11
 else
 if k=8 then
 jS Sx (some (b_1,o)) vm t fun t_18 Sx_12=>
 Q 0 t_18 Sx_12
 else
 if k=9 then
 gT Sx (some (b_1,o)) vm t fun t_19 Sx_13=>
 Q 0 t_19 Sx_13
 else
 if k=10 then
 jR Sx (some (b_1,o)) vm t b fun t_20 Sx_14=>
 Q 0 t_20 Sx_14
 else
 if k=11 then
 jP Sx (some (b_1,o)) vm t b fun t_21 Sx_15=>
 Q 0 t_21 Sx_15
 else
 if k=12 then
 Q (IntKind.u64.wrap vm) 0 Sx
 else
 if k=13 then
 gP (Sx.cell b_1 (o+3)) fun t_22=>
 qm Sx t_22 vm n fun t_23 Sx_16=>
 nn t_23 fun b_5 o_4=>
 pt Sx_16 b_5 (o_4+23) 1 ([.int .u8 2]) fun Sx_17=>
 Jx Sx_17
 else
 Q 0 1 Sx
theorem zfw {S:Mem} {h:Pt} {vm:Int} {n:Int} {k:Int} {w:Int} {b:Int} {write:Bool} {Q:Int→Int→Mem→Prop} (H:jV S h vm n k w b write Q):fT S h vm n k w b write Q:=by
 unfold jV at H
 exact Tr.intro func167 E ntmps167 E fun w0=>csr<|gv E E<|gv E E<|nxr<|mv E E<|kq E E H fun t Sx H1=>gv E E<|nxr<|mv E E<|by obtain⟨b_1,o,rfl,H2⟩:=H1;exact s_p E (qx E)<|s_p E (zA E E)<|gx H2 fun t_1 ht_1 H3=>s_v E (zG E) (qh ht_1)<|mv E E<|by obtain⟨b_2,o_1,rfl,H4⟩:=H3;exact s_p E (qx E)<|s_p E (zA E E)<|an2 H4 fun c c_1 H5=>s_p E (wO E E c c_1 E)<|gv E E<|nx<|zy H5 (fun (J:Mem→Prop) (z:Unit) S=>J S) (fun z=>⟨162,[]⟩) (fun z=>[]) (fun _ Sx_1 H6=>csr<|gv E E<|gv E E<|nx<|zu<|zt results167 (zf E (zf E zi)) ⟨_,_,E,H6⟩) (fun Jx hJx H7=>csr<|mv E E<|nx<|zK<|csr<|iteK H7 (fun c_2 H8=>ceT E E E (c_2)<|gv E E<|nx<|ctr E E<|mv E E<|mv E E<|mv E E<|mv E E<|s_p E (zom E E)<|s_p E (ql E E)<|by exact zlu E E H8 fun Sx_2 H9=>zr<|qr<|hJx () _ _ _ _ [] H9 E True.intro E) fun c_2 H8=>ceF E E E (c_2)<|gv E E<|nx<|c_f E E<|csr<|iteK H8 (fun c_3 H10=>ceT E E E (c_3)<|gv E E<|nx<|c_t E E<|zy H10 (fun (J:Mem→Prop) (z:Unit) S=>J S) (fun z=>⟨162,[(17,.pointer (some ⟨b_2,o_1+2+vm.toNat*12,none⟩))]⟩) (fun z=>[]) (fun _ Sx_3 H11=>csr<|mv E E<|s_p E (qx E)<|s_p E (zA E E)<|gx H11 fun t_2 ht_2 H12=>s_v E (zG E) (qh ht_2)<|by obtain⟨b_3,o_2,n_1,n_2,rfl,H13⟩:=H12;exact an H13 fun c_5 H14=>s_p E (gn E E (by decide) c_5 E)<|gx H14 fun t_3 ht_3 H15=>s_v E (zG E) (qh ht_3)<|gv E E<|nxr<|mv E E<|mv E E<|s_p E (qx E)<|s_p E (zA E E)<|gx H15 fun t_4 ht_4 H16=>s_v E (zG E) (qh ht_4)<|an3 H16 fun c_6 c_7 c_8 H17=>by obtain⟨t_5,et_5,H18⟩:=zmG H17;exact s_p E (eqv (zft (a:=1) (b:=(t_4.n:Int)) E E E c_6 c_7 c_8) (congrArg eL et_5))<|by obtain⟨vs,h_1,c_9,H19⟩:=H18;exact gf (sx:=⟨none,0,0⟩) (vs:=vs) E E E ((zbq h_1).1) ((zbq (P:=prog) (w0:=w0) (S0:=S) (V:=[]) h_1).2) c_9 (by decide) H19 fun t_6 Sx_4 H20=>s_p E (qx E)<|s_p E (zA E E)<|an H20 fun c_10 H21=>vD E E E E E c_10 E<|nxr<|mv E E<|s_p E (jy ⟨_,underlying5⟩ E)<|gv E E<|gv E E<|nx<|zu<|zo<|zd<|zt results167 (zf E (zf E zi)) ⟨_,_,E,H21⟩) (fun Jx_1 hJx_1 H22=>csr<|mv E E<|s_p E (qx E)<|s_p E (zA E E)<|gx H22 fun t_7 ht_7 H23=>s_v E (zG E) (qh ht_7)<|s_p E (jJ E)<|iteK H23 (fun c_11 H24=>ceT E E E (c_11)<|nx<|c_t E E<|csr<|gv E E<|gv E E<|nx<|zu<|zd<|zo<|zd<|zt results167 (zf E (zf E zi)) ⟨_,_,E,H24⟩) fun c_11 H24=>ceF E E E (c_11)<|nx<|cfs E E<|hJx_1 () _ _ _ _ [] H24 E ⟨E,True.intro⟩ E)) fun c_3 H10=>ceF E E E (c_3)<|gv E E<|nx<|c_f E E<|csr<|iteK H10 (fun c_12 H25=>ceT E E E (c_12)<|gv E E<|nx<|c_t E E<|csr<|mv E E<|mv E E<|mv E E<|mv E E<|kq E E H25 fun t_8 Sx_6 H26=>gv E E<|gv E E<|nx<|zu<|zo<|zd<|zt results167 (zf E (zf E zi)) ⟨_,_,E,H26⟩) fun c_12 H25=>ceF E E E (c_12)<|gv E E<|nx<|c_f E E<|csr<|iteK H25 (fun c_13 H27=>ceT E E E (c_13)<|gv E E<|nx<|c_t E E<|qa (by kernel_rfl)<|a_takeP 0 E (by decide +kernel) (zc (za zb)) E (zp E)<|by exact a_takeP 1 E (by decide +kernel) (zc (za zb)) E (qx E)<|by exact a_takeP 2 E (by decide +kernel) (zc (za zb)) E (zA E E)<|by exact gx H27 fun t_9 ht_9 H28=>zY 3 E (by decide +kernel) (zc (za zb)) E (zG E) (qh ht_9)<|by exact by obtain⟨b_4,o_3,rfl,H29⟩:=H28;exact a_takeP 4 E (by decide +kernel) (zc (za zb)) E (qx E)<|by exact a_takeP 5 E (by decide +kernel) (zc (za zb)) E (zA E E)<|by exact gx H29 fun t_10 ht_10 H30=>zY 6 E (by decide +kernel) (zc (za zb)) E (zG E) (qh ht_10)<|by exact a_takeP 7 E (by decide +kernel) (zc (za zb)) E (zp E)<|by exact a_takeP 8 E (by decide +kernel) (zc (za zb)) E (zp E)<|by exact a_takeP 9 E (by decide +kernel) (zc (za zb)) E (zp E)<|by exact a_takeP 10 E (by decide +kernel) (zc (za zb)) E (zp E)<|by exact a_takeP 11 E (by decide +kernel) (zc (za zb)) E (qx E)<|by exact a_takeP 12 E (by decide +kernel) (zc (za zb)) E (zA E E)<|by exact gx H30 fun t_11 ht_11 H31=>zY 13 E (by decide +kernel) (zc (za zb)) E (zG E) (qh ht_11)<|by exact a_takeP 14 E (by decide +kernel) (zc (za zb)) E (zp E)<|by exact a_takeP 15 E (by decide +kernel) (zc (za zb)) E (zpU E)<|by exact a_takeP 16 E (by decide +kernel) (zc (za zb)) E (zog E E)<|by exact a_takeP 17 E (by decide +kernel) (zc (za zb)) E (qZ E E)<|by exact zw 18 (by decide +kernel) E<|by exact kq E E H31 fun t_12 Sx_7 H32=>by obtain⟨k_1,H33⟩:=H32;exact by obtain⟨k_2,H34⟩:=H33;exact zr<|zH (zj (qh k_1) (zj (qh k_2) zq))<|zW (by decide +kernel)<|by exact qr<|hJx () _ _ _ _ [] H34 E True.intro E) fun c_13 H27=>ceF E E E (c_13)<|gv E E<|nx<|c_f E E<|csr<|iteK H27 (fun c_14 H35=>ceT E E E (c_14)<|gv E E<|nx<|c_t E E<|qb<|by exact zE<|mv E E<|mv E E<|mv E E<|mv E E<|mv E E<|ziz E E H35 fun t_13 t_14 Sx_8 H36=>s_p E (zk E E)<|s_p E (zk E E)<|gv E E<|gv E E<|nx<|zu<|zo<|zd<|zt results167 (zf E (zf E zi)) ⟨_,_,E,H36⟩) fun c_14 H35=>ceF E E E (c_14)<|gv E E<|nx<|c_f E E<|qb<|by exact zE<|iteK H35 (fun c_15 H37=>ceT E E E (c_15)<|gv E E<|nx<|c_t E E<|csr<|mv E E<|mv E E<|mv E E<|mv E E<|kq E E H37 fun t_15 Sx_9 H38=>gv E E<|gv E E<|nx<|zu<|zo<|zd<|zt results167 (zf E (zf E zi)) ⟨_,_,E,H38⟩) fun c_15 H37=>ceF E E E (c_15)<|gv E E<|nx<|c_f E E<|csr<|iteK H37 (fun c_16 H39=>ceT E E E (c_16)<|gv E E<|nx<|c_t E E<|csr<|mv E E<|mv E E<|mv E E<|kq E E H39 fun t_16 Sx_10 H40=>gv E E<|gv E E<|nx<|zu<|zo<|zd<|zt results167 (zf E (zf E zi)) ⟨_,_,E,H40⟩) fun c_16 H39=>ceF E E E (c_16)<|gv E E<|nx<|c_f E E<|csr<|iteK H39 (fun c_17 H41=>ceT E E E (c_17)<|gv E E<|nx<|c_t E E<|csr<|mv E E<|mv E E<|mv E E<|kq E E H41 fun t_17 Sx_11 H42=>gv E E<|gv E E<|nx<|zu<|zo<|zd<|zt results167 (zf E (zf E zi)) ⟨_,_,E,H42⟩) fun c_17 H41=>ceF E E E (c_17)<|gv E E<|nx<|c_f E E<|csr<|iteK H41 (fun c_18 H43=>ceT E E E (c_18)<|gv E E<|nx<|c_t E E<|csr<|mv E E<|mv E E<|mv E E<|kq E E H43 fun t_18 Sx_12 H44=>gv E E<|gv E E<|nx<|zu<|zo<|zd<|zt results167 (zf E (zf E zi)) ⟨_,_,E,H44⟩) fun c_18 H43=>ceF E E E (c_18)<|gv E E<|nx<|c_f E E<|csr<|iteK H43 (fun c_19 H45=>ceT E E E (c_19)<|gv E E<|nx<|c_t E E<|csr<|mv E E<|mv E E<|mv E E<|kq E E H45 fun t_19 Sx_13 H46=>gv E E<|gv E E<|nx<|zu<|zo<|zd<|zt results167 (zf E (zf E zi)) ⟨_,_,E,H46⟩) fun c_19 H45=>ceF E E E (c_19)<|gv E E<|nx<|c_f E E<|csr<|iteK H45 (fun c_20 H47=>ceT E E E (c_20)<|gv E E<|nx<|c_t E E<|csr<|mv E E<|mv E E<|mv E E<|mv E E<|kq E E H47 fun t_20 Sx_14 H48=>gv E E<|by exact gv E E<|nx<|zu<|zo<|zd<|zt results167 (zf E (zf E zi)) ⟨_,_,E,H48⟩) fun c_20 H47=>ceF E E E (c_20)<|gv E E<|nx<|c_f E E<|csr<|iteK H47 (fun c_21 H49=>ceT E E E (c_21)<|gv E E<|nx<|c_t E E<|qb<|by exact zE<|mv E E<|mv E E<|mv E E<|mv E E<|kq E E H49 fun t_21 Sx_15 H50=>gv E E<|gv E E<|nx<|zu<|zo<|zd<|zt results167 (zf E (zf E zi)) ⟨_,_,E,H50⟩) fun c_21 H49=>ceF E E E (c_21)<|gv E E<|nx<|c_f E E<|qb<|by exact zE<|iteK H49 (fun c_22 H51=>ceT E E E (c_22)<|gv E E<|nx<|c_t E E<|csr<|mv E E<|s_p E (jy ⟨_,underlying3⟩ E)<|gv E E<|gv E E<|nx<|zu<|zo<|zd<|zt results167 (zf E (zf E zi)) ⟨_,_,E,H51⟩) fun c_22 H51=>ceF E E E (c_22)<|gv E E<|nx<|c_f E E<|csr<|iteK H51 (fun c_23 H52=>ceT E E E (c_23)<|gv E E<|nx<|ctr E E<|mv E E<|s_p E (qx E)<|s_p E (zA E E)<|gx H52 fun t_22 ht_22 H53=>s_v E (zG E) (qh ht_22)<|mv E E<|mv E E<|kq E E H53 fun t_23 Sx_16 H54=>by obtain⟨b_5,o_4,rfl,H55⟩:=H54;exact s_p E (qx E)<|s_p E (zA E E)<|an H55 fun c_24 H56=>vD E E E E E c_24 E<|zr<|qr<|hJx () _ _ _ _ [] H56 E True.intro E) fun c_23 H52=>ceF E E E (c_23)<|gv E E<|nx<|c_f E E<|csr<|gv E E<|gv E E<|nx<|zu<|zo<|zd<|zt results167 (zf E (zf E zi)) ⟨_,_,E,H52⟩)
def jl (S:Mem) (h:Pt) (vm:Int) (page:Int) (Q:Int→Mem→Prop):Prop:=
 jn (fun (Sx:Mem)=>
 jn (fun (Sx_1:Mem)=>
 jn (fun (Sx_2:Mem)=>
 nn h fun b o=>
 gP (Sx_2.cell b (o+1)) fun t=>
 vy Sx_2 t fun t_1 t_2 Sx_3=>
 if t_2≠0 then
 Q t_2 Sx_3
 else
 crab_Crab_own Sx_3 (some (b,o)) vm page t_1 fun Sx_4=>
 Q 0 Sx_4) fun Jx=>
 nn h fun b_1 o_1=>
 gP (Sx_1.cell b_1 (o_1+3)) fun t_3=>
 nn t_3 fun b_2 o_2=>
 0≤vm∧vm<6 ∧
 gI (Sx_1.cell b_2 (o_2+2+vm.toNat*12+4)) .i64 fun t_4=>
 kY Sx_1 (some (b_1,o_1)) vm fun t_5 Sx_5=>
 Sx_5.cell b_2 (o_2+2+vm.toNat*12+4)=some (.int .i64 t_4) ∧
 Sx_5.cell b_1 (o_1+3)=some (.pointer (some ⟨b_2,o_2,none⟩)) ∧
 if t_4≤t_5 then
 Q 9 Sx_5
 else
 Jx Sx_5) fun Jx_1=>
 nn h fun b_3 o_3=>
 gP (Sx.cell b_3 (o_3+3)) fun t_6=>
 nn t_6 fun b_4 o_4=>
 0≤vm∧vm<6 ∧
 gA (Sx.part b_4 (o_4+2+vm.toNat*12+2) 2) fun t_7=>
 gP (Sx.cell b_3 o_3) fun t_8=>
 zP Sx t_7 t_8 page fun t_9 t_10 Sx_6=>
 Sx_6.cell b_3 (o_3+3)=some (.pointer (some ⟨b_4,o_4,none⟩)) ∧
 t_9.all (·.oneCell')=true ∧
 if t_10=0 then
 Q 8 Sx_6
 else
 Jx_1 Sx_6) fun Jx_2=>
 if page<0 then
 Q 1 S
 else
 if 32≤page then
 Q 1 S
 else
 Jx_2 S
theorem zeA {S:Mem} {h:Pt} {vm:Int} {page:Int} {Q:Int→Mem→Prop} (H:jl S h vm page Q):gT S h vm page Q:=by
 unfold jl at H
 have:=dj1 9 [0,1,2]
 have:=dj1 7 [0,1,2]
 have:=dj1 4 [0,1,2]
 exact Tr.intro func214 E ntmps214 E fun w0=>go results214 H
def vZ (S:Mem) (h:Pt) (vm:Int) (page:Int) (Q:Int→Mem→Prop):Prop:=
 vA S h vm page fun t t_1 Sx=>
 jn (fun (Sx_1:Mem)=>
 yj Sx_1 h vm page fun Sx_2=>
 nn h fun b o=>
 gP (Sx_2.cell b (o+3)) fun t_2=>
 nn t_2 fun b_1 o_1=>
 gP (Sx_2.cell b_1 (o_1+74)) fun t_3=>
 yM Sx_2 t_3 t vm fun t_4 Sx_3=>
 gP (Sx_3.cell b (o+1)) fun t_5=>
 qU Sx_3 t_5 t fun t_6 Sx_4=>
 Q t_6 Sx_4) fun Jx=>
 if t_1≠0 then
 Q t_1 Sx
 else
 nn h fun b_2 o_2=>
 gP (Sx.cell b_2 (o_2+3)) fun t_7=>
 nn t_7 fun b_3 o_3=>
 gA (Sx.part b_3 (o_3+75) 96) fun t_8=>
 kR Sx t_8 vm page fun t_9 Sx_5=>
 if t_9=true then
 Q 8 Sx_5
 else
 Jx Sx_5
theorem zdT {S:Mem} {h:Pt} {vm:Int} {page:Int} {Q:Int→Mem→Prop} (H:vZ S h vm page Q):jS S h vm page Q:=by
 unfold vZ at H
 have:=dj1 7 [0,1,2,7]
 exact Tr.intro func213 E ntmps213 E fun w0=>go results213 H
def vr (S:Mem) (h:Pt) (vm:Int) (n:Int) (Q:Int→Mem→Prop):Prop:=
 nn h fun b o=>
 gP (S.cell b (o+3)) fun t=>
 nn t fun b_1 o_1=>
 gA (S.part b_1 (o_1+75) 96) fun t_1=>
 qC S t_1 n fun t_2 t_3 Sx=>
 t_2.all (·.oneCell')=true ∧
 gP (Sx.cell b (o+3)) fun t_4=>
 nn t_4 fun b_3 o_2=>
 gA (Sx.part b_3 (o_2+75) 96) fun t_5=>
 xE Sx t_5 n vm fun t_6 t_7 Sx_1=>
 t_6.all (·.oneCell')=true ∧
 jn (fun (Sx_2:Mem)=>
 gP (Sx_2.cell b (o+3)) fun t_8=>
 nn t_8 fun b_5 o_3=>
 t_6.all (·.oneCell')=true ∧
 pt Sx_2 b_5 (o_3+75) 96 t_6 fun Sx_3=>
 gI (nthL t_2 5) .i64 fun t_9=>
 yj Sx_3 (some (b,o)) vm t_9 fun Sx_4=>
 Q 0 Sx_4) fun Jx=>
 if t_7≠0 then
 Q t_7 Sx_1
 else
 Jx Sx_1
theorem zcH {S:Mem} {h:Pt} {vm:Int} {n:Int} {Q:Int→Mem→Prop} (H:vr S h vm n Q):kX S h vm n Q:=by
 unfold vr at H
 have:=dj (α:=Unit) 6 [0,1,7,9] (fun _=>[]) (fun _=>[(0,none),(1,none)])
 exact Tr.intro func211 E ntmps211 E fun w0=>go results211 H
def vY (S:Mem) (h:Pt) (vm:Int) (sector:Int) (page:Int) (Q:Int→Mem→Prop):Prop:=
 jn (fun (Sx:Mem)=>
 nn h fun b o=>
 gP (Sx.cell b (o+3)) fun t=>
 nn t fun b_1 o_1=>
 0≤vm∧vm<6 ∧
 0≤sector∧sector<4 ∧
 gL (Sx.cell b_1 (o_1+2+vm.toNat*12+7+sector.toNat*1)) fun t_1=>
 gQ Sx ([.pointer (some ⟨b,o,none⟩),.int .i64 vm]) page 0 t_1 fun t_2 Sx_1=>
 if t_2≠0 then
 Q 11 Sx_1
 else
 Q 0 Sx_1) fun Jx=>
 if sector<0 then
 Q 1 S
 else
 if 4≤sector then
 Q 1 S
 else
 Jx S
theorem zdS {S:Mem} {h:Pt} {vm:Int} {sector:Int} {page:Int} {Q:Int→Mem→Prop} (H:vY S h vm sector page Q):jR S h vm sector page Q:=by
 unfold vY at H
 have:=dj1 4 [0,1,2,3]
 exact Tr.intro func215 E ntmps215 E fun w0=>go results215 H
def vq (S:Mem) (h:Pt) (vm:Int) (page:Int) (to:Int) (write:Bool) (Q:Int→Int→Mem→Prop):Prop:=
 vA S h vm page fun t t_1 Sx=>
 jn (fun (Sx_1:Mem)=>
 nn h fun b o=>
 gP (Sx_1.cell b (o+3)) fun t_2=>
 nn t_2 fun b_1 o_1=>
 gA (Sx_1.part b_1 (o_1+75) 96) fun t_3=>
 vG Sx_1 t_3 vm page to write fun t_4 t_5 t_6 Sx_2=>
 t_4.all (·.oneCell')=true ∧
 jn (fun (Sx_3:Mem)=>
 gP (Sx_3.cell b (o+3)) fun t_7=>
 nn t_7 fun b_3 o_2=>
 t_4.all (·.oneCell')=true ∧
 pt Sx_3 b_3 (o_2+75) 96 t_4 fun Sx_4=>
 gP (Sx_4.cell b (o+3)) fun t_8=>
 nn t_8 fun b_4 o_3=>
 gP (Sx_4.cell b_4 (o_3+74)) fun t_9=>
 vF Sx_4 t_9 t vm fun t_10 Sx_5=>
 Q (IntKind.u64.wrap t_5) 0 Sx_5) fun Jx=>
 if t_6≠0 then
 Q 0 t_6 Sx_2
 else
 Jx Sx_2) fun Jx_1=>
 if t_1≠0 then
 Q 0 t_1 Sx
 else
 nn h fun b_5 o_4=>
 gP (Sx.cell b_5 (o_4+3)) fun t_11=>
 zJ Sx t_11 to fun t_12 Sx_6=>
 if t_12=true then
 Jx_1 Sx_6
 else
 Q 0 2 Sx_6
theorem zcG {S:Mem} {h:Pt} {vm:Int} {page:Int} {to:Int} {write:Bool} {Q:Int→Int→Mem→Prop} (H:vq S h vm page to write Q):kW S h vm page to write Q:=by
 unfold vq at H
 have:=dj (α:=Unit) 10 [0,1,12,14,15] (fun _=>[]) (fun _=>[(0,none)])
 have:=dj1 7 [0,1,2,3,4,12]
 exact Tr.intro func209 E ntmps209 E fun w0=>go results209 H
def vW (S:Mem) (h:Pt) (vm:Int) (to:Int) (n:Int) (Q:Int→Mem→Prop):Prop:=
 jn (fun (Sx:Mem)=>
 nn h fun b o=>
 gP (Sx.cell b (o+3)) fun t=>
 qm Sx t to 0 fun t_1 Sx_1=>
 kG Sx_1 t_1 n fun t_2 Sx_2=>
 Q t_2 Sx_2) fun Jx=>
 nn h fun b_1 o_1=>
 gP (S.cell b_1 (o_1+3)) fun t_3=>
 yN S t_3 vm to fun t_4 Sx_3=>
 if t_4=true then
 zcV Sx_3 n fun t_5 Sx_4=>
 if t_5=true then
 Jx Sx_4
 else
 Q 1 Sx_4
 else
 Q 2 Sx_3
theorem zdQ {S:Mem} {h:Pt} {vm:Int} {to:Int} {n:Int} {Q:Int→Mem→Prop} (H:vW S h vm to n Q):jQ S h vm to n Q:=by
 unfold vW at H
 have:=dj1 6 [0,2,3]
 exact Tr.intro func208 E ntmps208 E fun w0=>go results208 H
def vV (S:Mem) (h:Pt) (vm:Int) (sector:Int) (page:Int) (Q:Int→Mem→Prop):Prop:=
 jn (fun (Sx:Mem)=>
 gR Sx ([eP h,.int .i64 vm]) page 0 256 fun t t_1 Sx_1=>
 jn (fun (Sx_2:Mem)=>
 nn h fun b o=>
 gP (Sx_2.cell b (o+3)) fun t_2=>
 nn t_2 fun b_1 o_1=>
 0≤vm∧vm<6 ∧
 0≤sector∧sector<4 ∧
 pt Sx_2 b_1 (o_1+2+vm.toNat*12+7+sector.toNat*1) 1 ([eL t]) fun Sx_3=>
 Q 0 Sx_3) fun Jx=>
 if t_1≠0 then
 Q 11 Sx_1
 else
 Jx Sx_1) fun Jx_1=>
 if sector<0 then
 Q 1 S
 else
 if 4≤sector then
 Q 1 S
 else
 Jx_1 S
theorem zdP {S:Mem} {h:Pt} {vm:Int} {sector:Int} {page:Int} {Q:Int→Mem→Prop} (H:vV S h vm sector page Q):jP S h vm sector page Q:=by
 unfold vV at H
 have:=dj1 7 [0,1,2,9]
 have:=dj1 4 [0,1,2,3]
 exact Tr.intro func216 E ntmps216 E fun w0=>go results216 H
def xw (S:Mem) (h:Pt) (vm:Int) (n:Int) (Q:Int→Mem→Prop):Prop:=
 nn h fun b o=>
 gP (S.cell b (o+3)) fun t=>
 nn t fun b_1 o_1=>
 gA (S.part b_1 (o_1+75) 96) fun t_1=>
 qC S t_1 n fun t_2 t_3 Sx=>
 t_2.all (·.oneCell')=true ∧
 gP (Sx.cell b (o+3)) fun t_4=>
 nn t_4 fun b_3 o_2=>
 gA (Sx.part b_3 (o_2+75) 96) fun t_5=>
 yq Sx t_5 n vm fun t_6 t_7 Sx_1=>
 t_6.all (·.oneCell')=true ∧
 jn (fun (Sx_2:Mem)=>
 gP (Sx_2.cell b (o+3)) fun t_8=>
 nn t_8 fun b_5 o_3=>
 t_6.all (·.oneCell')=true ∧
 pt Sx_2 b_5 (o_3+75) 96 t_6 fun Sx_3=>
 gP (Sx_3.cell b (o+3)) fun t_9=>
 nn t_9 fun b_6 o_4=>
 0≤vm∧vm<6 ∧
 gA (Sx_3.part b_6 (o_4+2+vm.toNat*12+2) 2) fun t_10=>
 gP (Sx_3.cell b o) fun t_11=>
 gI (nthL t_2 2) .i64 fun t_12=>
 zP Sx_3 t_10 t_11 t_12 fun t_13 t_14 Sx_4=>
 Sx_4.cell b (o+3)=some (.pointer (some ⟨b_6,o_4,none⟩)) ∧
 t_13.all (·.oneCell')=true ∧
 gP (Sx_4.cell b (o+3)) fun t_15=>
 nn t_15 fun b_8 o_5=>
 gP (Sx_4.cell b_8 (o_5+74)) fun t_16=>
 gI (nthL t_13 1) .i64 fun t_17=>
 qQ Sx_4 t_16 t_17 vm fun t_18 Sx_5=>
 Sx_5.cell b (o+3)=some (.pointer (some ⟨b_8,o_5,none⟩)) ∧
 Q t_18 Sx_5) fun Jx=>
 if t_7≠0 then
 Q t_7 Sx_1
 else
 Jx Sx_1
theorem zaJ {S:Mem} {h:Pt} {vm:Int} {n:Int} {Q:Int→Mem→Prop} (H:xw S h vm n Q):wo S h vm n Q:=by
 unfold xw at H
 have:=dj (α:=Unit) 6 [0,1,7,9] (fun _=>[]) (fun _=>[(0,none),(1,none)])
 exact Tr.intro func212 E ntmps212 E fun w0=>go results212 H
end
section
open Go Go.Pt Go.Proofs.Tryz
attribute [local irreducible] lt WD WN Code.wp Back bodyPost wpList FR WL WC WQ WA AW Tr Yc HC AllC
def vt (S:Mem) (h:Pt) (vm:Int) (Q:Int→Mem→Prop):Prop:=
 jn (fun (Sx:Mem)=>
 nn h fun b o=>
 gP (Sx.cell b (o+3)) fun t=>
 nn t fun b_1 o_1=>
 gP (Sx.cell b_1 (o_1+74)) fun t_1=>
 qP Sx t_1 3 vm fun t_2 Sx_1=>
 Q t_2 Sx_1) fun Jx=>
 if h=none then
 Q 0 S
 else
 nn h fun b_2 o_2=>
 gP (S.cell b_2 (o_2+3)) fun t_3=>
 zJ S t_3 vm fun t_4 Sx_2=>
 if t_4=true then
 Jx Sx_2
 else
 Q 0 Sx_2
theorem zcI {S:Mem} {h:Pt} {vm:Int} {Q:Int→Mem→Prop} (H:vt S h vm Q):kY S h vm Q:=by
 unfold vt at H
 have:=dj1 4 [0,1]
 exact Tr.intro func240 E ntmps240 E fun w0=>go results240 H
def vX (S:Mem) (h:Pt) (vm:Int) (page:Int) (Q:Int→Int→Mem→Prop):Prop:=
 nn h fun b o=>
 gP (S.cell b (o+3)) fun t=>
 nn t fun b_1 o_1=>
 0≤vm∧vm<6 ∧
 gA (S.part b_1 (o_1+2+vm.toNat*12+2) 2) fun t_1=>
 gP (S.cell b o) fun t_2=>
 zP S t_1 t_2 page fun t_3 t_4 Sx=>
 Sx.cell b (o+3)=some (.pointer (some ⟨b_1,o_1,none⟩)) ∧
 t_3.all (·.oneCell')=true ∧
 if t_4≠0 then
 Q 0 11 Sx
 else
 gP (Sx.cell b (o+3)) fun t_5=>
 nn t_5 fun b_3 o_2=>
 gA (Sx.part b_3 (o_2+75) 96) fun t_6=>
 wh Sx t_6 vm page fun t_7 Sx_1=>
 if 0≤t_7 then
 Q 0 7 Sx_1
 else
 gI (nthL t_3 1) .i64 fun t_8=>
 Q t_8 0 Sx_1
theorem zdR {S:Mem} {h:Pt} {vm:Int} {page:Int} {Q:Int→Int→Mem→Prop} (H:vX S h vm page Q):vA S h vm page Q:=by
 unfold vX at H
 exact Tr.intro func233 E ntmps233 E fun w0=>go results233 H
def b_crab_Crab_own (S:Mem) (h:Pt) (vm:Int) (page:Int) (frame:Int) (Q:Mem→Prop):Prop:=
 nn h fun b o=>
 gP (S.cell b o) fun t=>
 yf S t frame fun t_1 Sx=>
 gP (Sx.cell b (o+3)) fun t_2=>
 nn t_2 fun b_1 o_1=>
 gP (Sx.cell b_1 (o_1+74)) fun t_3=>
 wZ Sx t_3 frame vm page fun t_4 Sx_1=>
 wq Sx_1 (some (b,o)) vm page frame true fun Sx_2=>
 Q Sx_2
theorem t_crab_Crab_own {S:Mem} {h:Pt} {vm:Int} {page:Int} {frame:Int} {Q:Mem→Prop} (H:b_crab_Crab_own S h vm page frame Q):crab_Crab_own S h vm page frame Q:=by
 unfold b_crab_Crab_own at H
 exact Tr.intro func69 E ntmps69 E fun w0=>go results69 H
def jk (S:Mem) (h:Pt) (vm:Int) (page:Int) (frame:Int) (write:Bool) (Q:Mem→Prop):Prop:=
 nn h fun b o=>
 gP (S.cell b (o+3)) fun t=>
 nn t fun b_1 o_1=>
 0≤vm∧vm<6 ∧
 gA (S.part b_1 (o_1+2+vm.toNat*12+2) 2) fun t_1=>
 gP (S.cell b o) fun t_2=>
 kL S t_1 t_2 page frame write fun t_3 Sx=>
 Sx.cell b (o+3)=some (.pointer (some ⟨b_1,o_1,none⟩)) ∧
 yE Sx (some (b,o+2)) vm page fun Sx_1=>
 Q Sx_1
theorem zez {S:Mem} {h:Pt} {vm:Int} {page:Int} {frame:Int} {write:Bool} {Q:Mem→Prop} (H:jk S h vm page frame write Q):wq S h vm page frame write Q:=by
 unfold jk at H
 exact Tr.intro func133 E ntmps133 E fun w0=>go results133 H
def vU (S:Mem) (h:Pt) (vm:Int) (x:List Value) (Q:Mem→Prop):Prop:=
 x.length=4 ∧
 nn h fun b_1 o=>
 0≤vm∧vm<6 ∧
 gL (S.cell b_1 (o+5+vm.toNat*1)) fun t=>
 x.all (·.oneCell')=true ∧
 ap S 188 4 32 [.int .u8 0,.int .i64 0,.int .u64 0,.int .u64 0] t 1 x fun t_1 Sx=>
 0≤vm∧vm<6 ∧
 pt Sx b_1 (o+5+vm.toNat*1) 1 ([eL t_1]) fun Sx_1=>
 Q Sx_1
theorem zdO {S:Mem} {h:Pt} {vm:Int} {x:List Value} {Q:Mem→Prop} (H:vU S h vm x Q):yH S h vm x Q:=by
 unfold vU at H
 exact Tr.intro func109 E ntmps109 E fun w0=>go results109 H
def vp (S:Mem) (h:Pt) (vm:Int) (page:Int) (Q:Mem→Prop):Prop:=
 nn h fun b o=>
 gP (S.cell b (o+3)) fun t=>
 nn t fun b_1 o_1=>
 0≤vm∧vm<6 ∧
 gA (S.part b_1 (o_1+2+vm.toNat*12+2) 2) fun t_1=>
 gP (S.cell b o) fun t_2=>
 wV S t_1 t_2 page fun t_3 Sx=>
 Sx.cell b (o+3)=some (.pointer (some ⟨b_1,o_1,none⟩)) ∧
 yE Sx (some (b,o+2)) vm page fun Sx_1=>
 Q Sx_1
theorem zcF {S:Mem} {h:Pt} {vm:Int} {page:Int} {Q:Mem→Prop} (H:vp S h vm page Q):yj S h vm page Q:=by
 unfold vp at H
 exact Tr.intro func151 E ntmps151 E fun w0=>go results151 H
def zae (S:Mem) (w:Int) (Q:Int→Mem→Prop):Prop:=
 if 65536≤w then
 Q (-1) S
 else
 Q (IntKind.i64.wrap w) S
theorem zhj {S:Mem} {w:Int} {Q:Int→Mem→Prop} (H:zae S w Q):zax S w Q:=by
 unfold zae at H
 exact Tr.intro func166 E ntmps166 E fun w0=>go results166 H
def zbI (S:Mem) (x:List Value) (n:Int) (pc:Int) (s:List Value) (Q:List Value→Mem→Prop):Prop:=
 x.length=2 ∧
 s.length=26 ∧
 jn (fun (v:List Value) (Sx:Mem)=>
 v.length=4 ∧
 zgw Sx s fun t Sx_1=>
 Q ([.int .u8 1,.int .i64 n,.int .u64 pc,.int .u64 t]) Sx_1) fun Jx=>
 gI (nthL x 0) .u8 fun t_1=>
 if t_1=1 then
 gI (nthL x 1) .u64 fun t_2=>
 Q ([.int .u8 4,.int .i64 n,.int .u64 t_2,.int .u64 pc]) S
 else
 if t_1=4 then
 gI (nthL x 1) .u64 fun t_3=>
 Q ([.int .u8 5,.int .i64 n,.int .u64 t_3,.int .u64 pc]) S
 else
 Jx ([.int .u8 0,.int .i64 0,.int .u64 0,.int .u64 0]) S
theorem ziv {S:Mem} {x:List Value} {n:Int} {pc:Int} {s:List Value} {Q:List Value→Mem→Prop} (H:zbI S x n pc s Q):zfm S x n pc s Q:=by
 unfold zbI at H
 have:=dj (α:=List Value×Unit) 7 [1,2,7,8] (fun _=>[]) (fun z=>[(1,none),(2,some z.1)])
 exact Tr.intro func110 E ntmps110 E fun w0=>go results110 H
def jj (S:Mem) (b:List Value) (page:Int) (off:Int) (n:Int) (Q:Sl→Int→Mem→Prop):Prop:=
 b.length=2 ∧
 kA S b page fun t t_1 Sx=>
 t.all (·.oneCell')=true ∧
 jn (fun (Sx_1:Mem)=>
 gP (nthL b 0) fun t_2=>
 nn t_2 fun b_3 o=>
 gP (Sx_1.cell b_3 o) fun t_3=>
 gI (nthL t 1) .i64 fun t_4=>
 qO Sx_1 t_3 t_4 off n fun t_5 t_6 Sx_2=>
 Q t_5 t_6 Sx_2) fun Jx=>
 if t_1≠0 then
 Q (⟨none,0,0⟩) t_1 Sx
 else
 Jx Sx
theorem zey {S:Mem} {b:List Value} {page:Int} {off:Int} {n:Int} {Q:Sl→Int→Mem→Prop} (H:jj S b page off n Q):gR S b page off n Q:=by
 unfold jj at H
 exact Tr.intro func242 E ntmps242 E fun w0=>an H fun hb H1=>csr<|jM E E E fun b_1=>gv E E<|gv E E<|nxr<|by refine s_v E (qk E hb) (zD (k:=2) 0 E (ze hb)) ?_;exact mv E E<|qz E E H1 fun rv Sx H2=>by obtain⟨t,t_1,rfl,ht,H3⟩:=H2;exact mv E E<|s_p E (zk E E)<|s_p E (zk E E)<|by refine zX E fun b_2=>?_;exact an H3 fun c H4=>zn 1 E E E E E ht E c<|gv E E<|nx<|zy H4 (fun (J:Mem→Prop) (z:Unit) S=>J S) (fun z=>⟨33,[(2,.int .i64 off),(3,.int .i64 n),(4,.pointer (some ⟨b_1,0,none⟩)),(10,.pointer (some ⟨b_2,0,none⟩))]⟩) (fun z=>[⟨b_1,184,b⟩,⟨b_2,80,t⟩]) (fun _ Sx_1 H5=>qb<|qa (by kernel_rfl)<|aTP 0 E (by decide +kernel) E (zA E E)<|by exact gx H5 fun t_2 ht_2 H6=>aT 1 E (by decide +kernel) E (zG E) (zR 0 E ht_2)<|by exact by obtain⟨b_3,o,rfl,H7⟩:=H6;exact aTP 2 E (by decide +kernel) E (qx E)<|by exact aTP 3 E (by decide +kernel) E (zA E E)<|by exact gx H7 fun t_3 ht_3 H8=>aT 4 E (by decide +kernel) E (zG E) (qh ht_3)<|by exact aTP 5 E (by decide +kernel) E (zA E E)<|by exact gx H8 fun t_4 ht_4 H9=>aT 6 E (by decide +kernel) E (zG E) (zR 1 E ht_4)<|by exact aTP 7 E (by decide +kernel) E (zp E)<|by exact aTP 8 E (by decide +kernel) E (zp E)<|by exact zw 9 (by decide +kernel) E<|by exact ziz E E H9 fun t_5 t_6 Sx_2 H10=>zr<|zH (zj (zR 0 E ht_2) zq)<|aTP 10 E (by decide +kernel) E (zk E E)<|by exact aTP 11 E (by decide +kernel) E (zk E E)<|by exact aTP 12 E (by decide +kernel) E (zT E)<|by exact aTP 13 E (by decide +kernel) E (zT E)<|by exact zW (by decide +kernel)<|by exact zB<|zu<|zt results242 (zf E (zf E zi)) ⟨_,_,E,H10⟩) (fun Jx hJx H11=>csr<|mv E E<|iteK H11 (fun c_1 H12=>s_p E (yT (qt E E) c_1)<|nx<|c_t E E<|csr<|mv E E<|gv E E<|gv E E<|nx<|zu<|zd<|zt results242 (zf E (zf E zi)) ⟨_,_,E,H12⟩) fun c_1 H12=>s_p E (yF (qt E E) c_1)<|nx<|cfs E E<|hJx () _ _ _ _ [0,0] H12 E ⟨E,E,E,E,True.intro⟩ E)
def ji (S:Mem) (b:List Value) (page:Int) (off:Int) (p:Sl) (Q:Int→Mem→Prop):Prop:=
 b.length=2 ∧
 kA S b page fun t t_1 Sx=>
 t.all (·.oneCell')=true ∧
 jn (fun (Sx_1:Mem)=>
 gP (nthL b 0) fun t_2=>
 nn t_2 fun b_3 o=>
 gP (Sx_1.cell b_3 o) fun t_3=>
 gI (nthL t 1) .i64 fun t_4=>
 qg Sx_1 t_3 t_4 off p fun t_5 Sx_2=>
 Q t_5 Sx_2) fun Jx=>
 if t_1≠0 then
 Q t_1 Sx
 else
 gB (nthL t 2) fun t_6=>
 if t_6=true then
 Jx Sx
 else
 Q 11 Sx
theorem zex {S:Mem} {b:List Value} {page:Int} {off:Int} {p:Sl} {Q:Int→Mem→Prop} (H:ji S b page off p Q):gQ S b page off p Q:=by
 unfold ji at H
 have:=dj (α:=Unit) 7 [2,3,4,9] (fun _=>[]) (fun _=>[(0,none),(1,none)])
 exact Tr.intro func241 E ntmps241 E fun w0=>go results241 H
def jh (S:Mem) (b:List Value) (page:Int) (Q:List Value→Int→Mem→Prop):Prop:=
 b.length=2 ∧
 jn (fun (v:List Value) (Sx:Mem)=>
 v.length=3 ∧
 gP (nthL b 0) fun t=>
 nn t fun b_3 o=>
 gP (Sx.cell b_3 (o+3)) fun t_1=>
 gI (nthL b 1) .i64 fun t_2=>
 nn t_1 fun b_4 o_1=>
 0≤t_2∧t_2<6 ∧
 gA (Sx.part b_4 (o_1+2+t_2.toNat*12+2) 2) fun t_3=>
 gP (nthL b 0) fun t_4=>
 nn t_4 fun b_5 o_2=>
 gP (Sx.cell b_5 o_2) fun t_5=>
 zP Sx t_3 t_5 page fun t_6 t_7 Sx_1=>
 Sx_1.cell b_3 (o+3)=some (.pointer (some ⟨b_4,o_1,none⟩)) ∧
 t_6.all (·.oneCell')=true ∧
 if t_7=0 then
 gP (nthL b 0) fun t_8=>
 nn t_8 fun b_7 o_3=>
 gI (nthL b 1) .i64 fun t_9=>
 jc Sx_1 (some (b_7,o_3+2)) t_9 page t_6 fun Sx_2=>
 t_6.all (·.oneCell')=true ∧
 Q t_6 t_7 Sx_2
 else
 t_6.all (·.oneCell')=true ∧
 Q t_6 t_7 Sx_1) fun Jx=>
 gP (nthL b 0) fun t_10=>
 nn t_10 fun b_8 o_4=>
 gI (nthL b 1) .i64 fun t_11=>
 vK S (some (b_8,o_4+2)) t_11 page fun t_12 t_13 Sx_3=>
 if t_13=true then
 t_12.all (·.oneCell')=true ∧
 t_12.all (·.oneCell')=true ∧
 Q t_12 0 Sx_3
 else
 t_12.all (·.oneCell')=true ∧
 Jx ([.bool false,.int .i64 0,.bool false]) Sx_3
theorem zew {S:Mem} {b:List Value} {page:Int} {Q:List Value→Int→Mem→Prop} (H:jh S b page Q):kA S b page Q:=by
 unfold jh at H
 exact Tr.intro func247 E ntmps247 E fun w0=>an H fun hb H1=>csr<|jM E E E fun b_1=>by refine zX E fun b_2=>?_;exact gv E E<|nx<|zy H1 (fun (J:List Value→Mem→Prop) (z:List Value) S=>J z S) (fun z=>⟨58,[(1,.int .i64 page),(2,.pointer (some ⟨b_1,0,none⟩)),(4,.pointer (some ⟨b_2,0,none⟩))]⟩) (fun z=>[⟨b_1,184,b⟩,⟨b_2,80,z⟩]) (fun v Sx H2=>an H2 fun hv H3=>qb<|qa (by kernel_rfl)<|aTP 0 E (by decide +kernel) E (zA E E)<|by exact gx H3 fun t ht H4=>aT 1 E (by decide +kernel) E (zG E) (zR 0 E ht)<|by exact by obtain⟨b_3,o,rfl,H5⟩:=H4;exact aTP 2 E (by decide +kernel) E (qx E)<|by exact aTP 3 E (by decide +kernel) E (zA E E)<|by exact gx H5 fun t_1 ht_1 H6=>aT 4 E (by decide +kernel) E (zG E) (qh ht_1)<|by exact aTP 5 E (by decide +kernel) E (zA E E)<|by exact gx H6 fun t_2 ht_2 H7=>aT 6 E (by decide +kernel) E (zG E) (zR 0 E ht_2)<|by exact by obtain⟨b_4,o_1,rfl,H8⟩:=H7;exact aTP 7 E (by decide +kernel) E (qx E)<|by exact aTP 8 E (by decide +kernel) E (zA E E)<|by exact an2 H8 fun c c_1 H9=>aTP 9 E (by decide +kernel) E (wO E E c c_1 E)<|by exact aTP 10 E (by decide +kernel) E (zA E E)<|by exact gx H9 fun t_3 ht_3 H10=>by refine aT 11 E (by decide +kernel) E (qk E (qL ht_3)) (jw ht_3) ?_;exact aTP 12 E (by decide +kernel) E (zA E E)<|by exact gx H10 fun t_4 ht_4 H11=>aT 13 E (by decide +kernel) E (zG E) (zR 0 E ht_4)<|by exact by obtain⟨b_5,o_2,rfl,H12⟩:=H11;exact aTP 14 E (by decide +kernel) E (qx E)<|by exact aTP 15 E (by decide +kernel) E (zA E E)<|by exact gx H12 fun t_5 ht_5 H13=>aT 16 E (by decide +kernel) E (zG E) (qh ht_5)<|by exact aTP 17 E (by decide +kernel) E (zp E)<|by exact ff 18 22 (by decide +kernel) E E (qz E E H13 fun rv Sx_1 H14=>by obtain⟨t_6,t_7,rfl,ht_6,H15⟩:=H14;exact by obtain⟨k,H16⟩:=H15;exact zr<|zH (zj (zR 0 E ht_4) (zj (zR 0 E ht_2) (zj (qh k) (zj (zR 0 E ht) zq))))<|aTP 19 E (by decide +kernel) E (zp E)<|by exact aTP 20 E (by decide +kernel) E (zk E E)<|by exact aTP 21 E (by decide +kernel) E (zk E E)<|by exact zw 22 (by decide +kernel) E<|by exact by refine zX E fun b_6=>?_;exact zr<|zH (zj (zR 0 E ht_4) (zj (zR 0 E ht_2) (zj (qh k) (zj (zR 0 E ht) zq))))<|zw 23 (by decide +kernel) E<|by exact an H16 fun c_2 H17=>zn 2 E E E E E ht_6 E c_2<|zr<|zH zq<|aTP 24 E (by decide +kernel) E (zT E)<|by exact zW (by decide +kernel)<|by exact zB<|qb<|csr<|mv E E<|iteK H17 (fun c_3 H18=>ceT E E E (c_3)<|nx<|c_t E E<|qa (by kernel_rfl)<|aTP 0 E (by decide +kernel) E (zA E E)<|by exact gx H18 fun t_8 ht_8 H19=>aT 1 E (by decide +kernel) E (zG E) (zR 0 E ht_8)<|by exact by obtain⟨b_7,o_3,rfl,H20⟩:=H19;exact aTP 2 E (by decide +kernel) E (qx E)<|by exact aTP 3 E (by decide +kernel) E (zA E E)<|by exact aTP 4 E (by decide +kernel) E (zA E E)<|by exact gx H20 fun t_9 ht_9 H21=>aT 5 E (by decide +kernel) E (zG E) (zR 0 E ht_9)<|by exact aTP 6 E (by decide +kernel) E (zp E)<|by exact by refine aT 7 E (by decide +kernel) E (qk E ht_6) (zD (k:=3) 2 E (ze ht_6)) ?_;exact zw 8 (by decide +kernel) E<|by exact zlu E E H21 fun Sx_2 H22=>zr<|zH (zj (zR 0 E ht_8) zq)<|zW (by decide +kernel)<|by exact zB<|csr<|by refine s_v E (qk E ht_6) (zD (k:=3) 2 E (ze ht_6)) ?_;exact mv E E<|an H22 fun c_4 H23=>zn 1 E E E E E ht_6 hv c_4<|gv E E<|nx<|zu<|zt results247 (zv E (zD (k:=3) 1 E (ze ht_6)) ht_6 (zf E zi)) ⟨_,_,E,ht_6,H23⟩) fun c_3 H18=>ceF E E E (c_3)<|nx<|cfs E E<|zB<|csr<|by refine s_v E (qk E ht_6) (zD (k:=3) 2 E (ze ht_6)) ?_;exact mv E E<|an H18 fun c_5 H24=>zn 1 E E E E E ht_6 hv c_5<|gv E E<|nx<|zu<|zt results247 (zv E (zD (k:=3) 1 E (ze ht_6)) ht_6 (zf E zi)) ⟨_,_,E,ht_6,H24⟩) (by refine zX E fun b_6=>?_;exact zr<|zH (zj (qh ht_5) (zj (zR 0 E ht_4) (zj (jw ht_3) (zj (zR 0 E ht_2) (zj (qh ht_1) (zj (zR 0 E ht) zq))))))<|zw 18 (by decide +kernel) E<|by exact qz E E H13 fun rv Sx_1 H25=>by obtain⟨t_6,t_7,rfl,ht_6,H26⟩:=H25;exact by obtain⟨k,H27⟩:=H26;exact zr<|zH (zj (zR 0 E ht_4) (zj (zR 0 E ht_2) (zj (qh k) (zj (zR 0 E ht) zq))))<|aTP 19 E (by decide +kernel) E (zp E)<|by exact aTP 20 E (by decide +kernel) E (zk E E)<|by exact aTP 21 E (by decide +kernel) E (zk E E)<|by exact zw 23 (by decide +kernel) E<|by exact an H27 fun c_2 H28=>zn 2 E E E E E ht_6 E c_2<|zr<|zH zq<|aTP 24 E (by decide +kernel) E (zT E)<|by exact zW (by decide +kernel)<|by exact zB<|qb<|csr<|mv E E<|iteK H28 (fun c_3 H29=>ceT E E E (c_3)<|nx<|c_t E E<|qa (by kernel_rfl)<|aTP 0 E (by decide +kernel) E (zA E E)<|by exact gx H29 fun t_8 ht_8 H30=>aT 1 E (by decide +kernel) E (zG E) (zR 0 E ht_8)<|by exact by obtain⟨b_7,o_3,rfl,H31⟩:=H30;exact aTP 2 E (by decide +kernel) E (qx E)<|by exact aTP 3 E (by decide +kernel) E (zA E E)<|by exact aTP 4 E (by decide +kernel) E (zA E E)<|by exact gx H31 fun t_9 ht_9 H32=>aT 5 E (by decide +kernel) E (zG E) (zR 0 E ht_9)<|by exact aTP 6 E (by decide +kernel) E (zp E)<|by exact by refine aT 7 E (by decide +kernel) E (qk E ht_6) (zD (k:=3) 2 E (ze ht_6)) ?_;exact zw 8 (by decide +kernel) E<|by exact zlu E E H32 fun Sx_2 H33=>zr<|zH (zj (zR 0 E ht_8) zq)<|zW (by decide +kernel)<|by exact zB<|csr<|by refine s_v E (qk E ht_6) (zD (k:=3) 2 E (ze ht_6)) ?_;exact mv E E<|an H33 fun c_4 H34=>zn 1 E E E E E ht_6 hv c_4<|gv E E<|nx<|zu<|zt results247 (zv E (zD (k:=3) 1 E (ze ht_6)) ht_6 (zf E zi)) ⟨_,_,E,ht_6,H34⟩) fun c_3 H29=>ceF E E E (c_3)<|nx<|cfs E E<|zB<|csr<|by refine s_v E (qk E ht_6) (zD (k:=3) 2 E (ze ht_6)) ?_;exact mv E E<|an H29 fun c_5 H35=>zn 1 E E E E E ht_6 hv c_5<|gv E E<|nx<|zu<|zt results247 (zv E (zD (k:=3) 1 E (ze ht_6)) ht_6 (zf E zi)) ⟨_,_,E,ht_6,H35⟩)) (fun Jx hJx H36=>qb<|qa (by kernel_rfl)<|a_takeP 0 E (by decide +kernel) (za (za zb)) E (zA E E)<|by exact gx H36 fun t_10 ht_10 H37=>zY 1 E (by decide +kernel) (za (za zb)) E (zG E) (zR 0 E ht_10)<|by exact by obtain⟨b_8,o_4,rfl,H38⟩:=H37;exact a_takeP 2 E (by decide +kernel) (za (za zb)) E (qx E)<|by exact a_takeP 3 E (by decide +kernel) (za (za zb)) E (zA E E)<|by exact a_takeP 4 E (by decide +kernel) (za (za zb)) E (zA E E)<|by exact gx H38 fun t_11 ht_11 H39=>zY 5 E (by decide +kernel) (za (za zb)) E (zG E) (zR 0 E ht_11)<|by exact a_takeP 6 E (by decide +kernel) (za (za zb)) E (zp E)<|by exact ff 7 11 (by decide +kernel) E E (qz E E H39 fun rv Sx_3 H40=>by obtain⟨t_12,t_13,rfl,ht_12,H41⟩:=H40;exact zr<|zH (zj (zR 0 E ht_10) zq)<|a_takeP 8 E (by decide +kernel) (za (za zb)) E (zp E)<|by exact a_takeP 9 E (by decide +kernel) (za (za zb)) E (zk E E)<|by exact iteK H41 (fun c_6 H42=>a_takeP 10 E (by decide +kernel) (za (za zb)) E (yB (zk E E) c_6)<|by exact zw 11 (by decide +kernel) E<|by exact by refine zX E fun b_9=>?_;exact zr<|zH (zj (zR 0 E ht_10) zq)<|zw 12 (by decide +kernel) E<|by exact an H42 fun c_7 H43=>zn 2 E E E E E ht_12 E c_7<|zr<|zH zq<|a_takeP 13 E (by decide +kernel) (za (za zb)) E (zT E)<|by exact zW (by decide +kernel)<|by exact zB<|csr<|mv E E<|nx<|c_t E E<|csr<|by refine s_v E (qk E ht_12) (zD (k:=3) 2 E (ze ht_12)) ?_;exact an H43 fun c_8 H44=>zn 1 E E E E E ht_12 E c_8<|gv E E<|nx<|zu<|zd<|zt results247 (zv E (zD (k:=3) 1 E (ze ht_12)) ht_12 (zf E zi)) ⟨_,_,E,ht_12,H44⟩) fun c_6 H42=>a_takeP 10 E (by decide +kernel) (za (za zb)) E (yB (zk E E) (zfp c_6))<|by exact zw 11 (by decide +kernel) E<|by exact by refine zX E fun b_10=>?_;exact zr<|zH (zj (zR 0 E ht_10) zq)<|zw 12 (by decide +kernel) E<|by exact an H42 fun c_9 H45=>zn 2 E E E E E ht_12 E c_9<|zr<|zH zq<|a_takeP 13 E (by decide +kernel) (za (za zb)) E (zT E)<|by exact zW (by decide +kernel)<|by exact zB<|csr<|mv E E<|nx<|cfs E E<|hJx ([.bool false,.int .i64 0,.bool false]) _ _ _ _ [0,0] H45 E ⟨E,E,E,True.intro⟩ E) (by refine zX E fun b_9=>?_;exact zr<|zH (zj (zR 0 E ht_11) (zj (zR 0 E ht_10) zq))<|zw 7 (by decide +kernel) E<|by exact qz E E H39 fun rv Sx_3 H46=>by obtain⟨t_12,t_13,rfl,ht_12,H47⟩:=H46;exact zr<|zH (zj (zR 0 E ht_10) zq)<|a_takeP 8 E (by decide +kernel) (za (za zb)) E (zp E)<|by exact a_takeP 9 E (by decide +kernel) (za (za zb)) E (zk E E)<|by exact iteK H47 (fun c_6 H48=>a_takeP 10 E (by decide +kernel) (za (za zb)) E (yB (zk E E) c_6)<|by exact zw 12 (by decide +kernel) E<|by exact an H48 fun c_7 H49=>zn 2 E E E E E ht_12 E c_7<|zr<|zH zq<|a_takeP 13 E (by decide +kernel) (za (za zb)) E (zT E)<|by exact zW (by decide +kernel)<|by exact zB<|csr<|mv E E<|nx<|c_t E E<|csr<|by refine s_v E (qk E ht_12) (zD (k:=3) 2 E (ze ht_12)) ?_;exact an H49 fun c_8 H50=>zn 1 E E E E E ht_12 E c_8<|gv E E<|nx<|zu<|zd<|zt results247 (zv E (zD (k:=3) 1 E (ze ht_12)) ht_12 (zf E zi)) ⟨_,_,E,ht_12,H50⟩) fun c_6 H48=>a_takeP 10 E (by decide +kernel) (za (za zb)) E (yB (zk E E) (zfp c_6))<|by exact zw 12 (by decide +kernel) E<|by exact an H48 fun c_9 H51=>zn 2 E E E E E ht_12 E c_9<|zr<|zH zq<|a_takeP 13 E (by decide +kernel) (za (za zb)) E (zT E)<|by exact zW (by decide +kernel)<|by exact zB<|csr<|mv E E<|nx<|cfs E E<|hJx ([.bool false,.int .i64 0,.bool false]) _ _ _ _ [0,0] H51 E ⟨E,E,E,True.intro⟩ E))
def xv (S:Mem) (s:Pt) (a:Int) (b:Int) (Q:Bool→Mem→Prop):Prop:=
 zJ S s a fun t Sx=>
 if t=true then
 zJ Sx s b fun t_1 Sx_1=>
 if t_1=true then
 nn s fun b_1 o=>
 0≤a∧a<6 ∧
 gI (Sx_1.cell b_1 (o+2+a.toNat*12+11)) .u32 fun t_2=>
 0≤b ∧
 Q (decide (iand .u32 (ishr .u32 t_2 b) 1=1)) Sx_1
 else
 Q false Sx_1
 else
 Q false Sx
theorem zaI {S:Mem} {s:Pt} {a:Int} {b:Int} {Q:Bool→Mem→Prop} (H:xv S s a b Q):yN S s a b Q:=by
 unfold xv at H
 exact Tr.intro func186 E ntmps186 E fun w0=>go results186 H
def wD (S:Mem) (s:Pt) (vm:Int) (n:Int) (Q:Pt→Mem→Prop):Prop:=
 jn (fun (Sx:Mem)=>
 nn s fun b o=>
 0≤vm∧vm<6 ∧
 gL (Sx.cell b (o+2+vm.toNat*12+1)) fun t=>
 sl t fun b_1 o_1 n_1 n_2=>
 0≤n∧n<((n_1:Nat):Int) ∧
 Q (some (b_1,o_1+n.toNat*26)) Sx) fun Jx=>
 zJ S s vm fun t_1 Sx_1=>
 if t_1=true then
 if n<0 then
 Q none Sx_1
 else
 nn s fun b_2 o_2=>
 0≤vm∧vm<6 ∧
 gL (Sx_1.cell b_2 (o_2+2+vm.toNat*12+1)) fun t_2=>
 if (t_2.n:Int)≤n then
 Q none Sx_1
 else
 Jx Sx_1
 else
 Q none Sx_1
theorem zbX {S:Mem} {s:Pt} {vm:Int} {n:Int} {Q:Pt→Mem→Prop} (H:wD S s vm n Q):qm S s vm n Q:=by
 unfold wD at H
 have:=dj1 4 [0,1,2]
 exact Tr.intro func97 E ntmps97 E fun w0=>go results97 H
def xQ (S:Mem) (s:Pt) (vm:Int) (Q:Bool→Mem→Prop):Prop:=
 if s≠none then
 if 0≤vm then
 if vm<6 then
 nn s fun b o=>
 0≤vm∧vm<6 ∧
 gB (S.cell b (o+2+vm.toNat*12)) fun t=>
 Q t S
 else
 Q false S
 else
 Q false S
 else
 Q false S
theorem zbg {S:Mem} {s:Pt} {vm:Int} {Q:Bool→Mem→Prop} (H:xQ S s vm Q):zJ S s vm Q:=by
 unfold xQ at H
 exact Tr.intro func33 E ntmps33 E fun w0=>go results33 H
def wC (S:Mem) (s:Pt) (vm:Int) (Q:Int→Mem→Prop):Prop:=
 nn s fun b o=>
 gI (S.cell b (o+1)) .u64 fun t=>
 0≤vm∧vm<6 ∧
 gI (S.cell b (o+2+vm.toNat*12+5)) .u64 fun t_1=>
 Q (IntKind.u64.wrap (t-t_1)) S
theorem zbW {S:Mem} {s:Pt} {vm:Int} {Q:Int→Mem→Prop} (H:wC S s vm Q):vI S s vm Q:=by
 unfold wC at H
 exact Tr.intro func108 E ntmps108 E fun w0=>go results108 H
end
end Go.Proofs.YthaiblbnpcgjpaaGreatDoor
