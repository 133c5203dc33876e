/- Texts of this work,joined by program (pack.py). -/
import Derived.Test.YtabdpmnhjlmnlaaGreatDoorQBP
import Derived.Test.YtabdpmnhjlmnlaaGreatDoorQBN
import Derived.Test.YtabdpmnhjlmnlaaGreatDoorQBO
import Derived.Test.YtabdpmnhjlmnlaaGreatDoorQBK
import Derived.Test.YtabdpmnhjlmnlaaGreatDoorQBM
set_option linter.unusedVariables false
namespace Go.Proofs.YtabdpmnhjlmnlaaGreatDoor
section
open Go Go.Pt Go.Cr
def rdoB (Sx_4:Mem) (s:Seat) (m:Pt) (time me k x y z n:Int) (v_2:List Value) (Q:List Value→Int→Int→Mem→Prop):Prop:=
 v_2.length=26 ∧
 0≤x∧x<16 ∧
 gI (nthL s.L (0+x.toNat*1)) .u64 fun t=>
 0≤y∧y<16 ∧
 gI (nthL s.L (0+y.toNat*1)) .u64 fun t_1=>
 0≤z∧z<16 ∧
 gI (nthL s.L (0+z.toNat*1)) .u64 fun t_2=>
 gI (nthL s.L 16) .u64 fun t_3=>
 jn (fun (next:Int) (s_2:List Value) (v_3:List Value) (Sx_5:Mem)=>
  s_2.length=26 ∧
  v_3.length=26 ∧
  (spl s_2 16 ([.int .u64 next])).all (·.oneCell')=true ∧
  Q (spl s_2 16 ([.int .u64 next])) 0 0 Sx_5) fun Jx=>
 if k=1 then
  0≤x∧x<16 ∧
  Jx (IntKind.u64.wrap (t_3+4)) (spl s.L (0+x.toNat*1) ([.int .u64 (IntKind.u64.wrap (IntKind.i64.wrap n))])) v_2 Sx_4
 else
 if k=2 then
  0≤x∧x<16 ∧
  Jx (IntKind.u64.wrap (t_3+4)) (spl s.L (0+x.toNat*1) ([.int .u64 (IntKind.u64.wrap ((Int.tmod t 65536)+(IntKind.u64.wrap ((IntKind.u64.wrap (IntKind.i64.wrap n))*65536))))])) v_2 Sx_4
 else
 if k=3 then
  0≤x∧x<16 ∧
  Jx (IntKind.u64.wrap (t_3+4)) (spl s.L (0+x.toNat*1) ([.int .u64 (IntKind.u64.wrap (t_1+t_2))])) v_2 Sx_4
 else
 if k=4 then
  0≤x∧x<16 ∧
  Jx (IntKind.u64.wrap (t_3+4)) (spl s.L (0+x.toNat*1) ([.int .u64 (IntKind.u64.wrap (t_1-t_2))])) v_2 Sx_4
 else
 if k=5 then
  0≤x∧x<16 ∧
  Jx (IntKind.u64.wrap (t_3+4)) (spl s.L (0+x.toNat*1) ([.int .u64 (IntKind.u64.wrap (t_1*t_2))])) v_2 Sx_4
 else
 if k=6 then
  0≤x∧x<16 ∧
  Jx (IntKind.u64.wrap (t_3+4)) (spl s.L (0+x.toNat*1) ([.int .u64 (iand .u64 t_1 t_2)])) v_2 Sx_4
 else
 if k=7 then
  0≤x∧x<16 ∧
  Jx (IntKind.u64.wrap (t_3+4)) (spl s.L (0+x.toNat*1) ([.int .u64 (ior .u64 t_1 t_2)])) v_2 Sx_4
 else
 if k=8 then
  0≤x∧x<16 ∧
  Jx (IntKind.u64.wrap (t_3+4)) (spl s.L (0+x.toNat*1) ([.int .u64 (ixor .u64 t_1 t_2)])) v_2 Sx_4
 else
 if k=9 then
  0≤Int.tmod t_2 64 ∧
  0≤x∧x<16 ∧
  Jx (IntKind.u64.wrap (t_3+4)) (spl s.L (0+x.toNat*1) ([.int .u64 (ishl .u64 t_1 (Int.tmod t_2 64))])) v_2 Sx_4
 else
 if k=10 then
  0≤Int.tmod t_2 64 ∧
  0≤x∧x<16 ∧
  Jx (IntKind.u64.wrap (t_3+4)) (spl s.L (0+x.toNat*1) ([.int .u64 (ishr .u64 t_1 (Int.tmod t_2 64))])) v_2 Sx_4
 else
 if k=11 then
  0≤x∧x<16 ∧
  Jx (IntKind.u64.wrap (t_3+4)) (spl s.L (0+x.toNat*1) ([.int .u64 (IntKind.u64.wrap (t_1+(IntKind.u64.wrap (IntKind.i64.wrap n))))])) v_2 Sx_4
 else
 if k=12 then
  qR Sx_4 s.L m (IntKind.u64.wrap (t_1+(IntKind.u64.wrap (IntKind.i64.wrap n)))) 8 fun t_4 t_5 Sx_6=>
  if t_5=true then
  0≤x∧x<16 ∧
  Jx (IntKind.u64.wrap (t_3+4)) (spl s.L (0+x.toNat*1) ([.int .u64 t_4])) v_2 Sx_6
  else
  zz Sx_6 s.L 3 (IntKind.u64.wrap (t_1+(IntKind.u64.wrap (IntKind.i64.wrap n)))) fun t_6 t_7 t_8 Sx_7=>
  t_6.all (·.oneCell')=true ∧
  Q t_6 t_7 t_8 Sx_7
 else
 if k=13 then
  yI Sx_4 s.L m (IntKind.u64.wrap (t_1+(IntKind.u64.wrap (IntKind.i64.wrap n)))) t fun t_9 Sx_8=>
  if t_9=true then
  Jx (IntKind.u64.wrap (t_3+4)) s.L v_2 Sx_8
  else
  zz Sx_8 s.L 4 (IntKind.u64.wrap (t_1+(IntKind.u64.wrap (IntKind.i64.wrap n)))) fun t_10 t_11 t_12 Sx_9=>
  t_10.all (·.oneCell')=true ∧
  Q t_10 t_11 t_12 Sx_9
 else
 if k=14 then
  if t=t_1 then
  gI (nthL s.L 16) .u64 fun t_13=>
  Jx (IntKind.u64.wrap (t_13+(IntKind.u64.wrap (4*(IntKind.u64.wrap (IntKind.i64.wrap n)))))) s.L v_2 Sx_4
  else
  Jx (IntKind.u64.wrap (t_3+4)) s.L v_2 Sx_4
 else
 if k=15 then
  if t≠t_1 then
  gI (nthL s.L 16) .u64 fun t_14=>
  Jx (IntKind.u64.wrap (t_14+(IntKind.u64.wrap (4*(IntKind.u64.wrap (IntKind.i64.wrap n)))))) s.L v_2 Sx_4
  else
  Jx (IntKind.u64.wrap (t_3+4)) s.L v_2 Sx_4
 else
 if k=16 then
  if IntKind.i64.wrap t<IntKind.i64.wrap t_1 then
  gI (nthL s.L 16) .u64 fun t_15=>
  Jx (IntKind.u64.wrap (t_15+(IntKind.u64.wrap (4*(IntKind.u64.wrap (IntKind.i64.wrap n)))))) s.L v_2 Sx_4
  else
  Jx (IntKind.u64.wrap (t_3+4)) s.L v_2 Sx_4
 else
 if k=17 then
  gI (nthL s.L 16) .u64 fun t_16=>
  0≤x∧x<16 ∧
  Jx (IntKind.u64.wrap (t_1+(IntKind.u64.wrap (IntKind.i64.wrap n)))) (spl s.L (0+x.toNat*1) ([.int .u64 (IntKind.u64.wrap (t_16+4))])) v_2 Sx_4
 else
 if k=18 then
  jn (fun (openx:Int) (Sx_10:Mem)=>
   gI (nthL s.L 17) .u64 fun t_17=>
   gI (nthL s.L 18) .u64 fun t_18=>
   gI (nthL s.L 19) .u64 fun t_19=>
   gI (nthL s.L 20) .u64 fun t_20=>
   gI (nthL s.L 21) .u64 fun t_21=>
   gI (nthL s.L 25) .u32 fun t_22=>
   al Sx_10 39 ([.int .u64 t_17,.int .u64 t_18,.int .u64 t_19,.int .u64 t_20,.int .u64 t_21,.int .u64 (IntKind.u64.wrap t_22),.int .u64 openx,.int .u64 time,.int .u64 (IntKind.u64.wrap me)]) fun b_2 Sx_11=>
   0≤n∧n<9 ∧
   gI (Sx_11.cell b_2 (0+n.toNat*1)) .u64 fun t_23=>
   0≤x∧x<16 ∧
   Jx (IntKind.u64.wrap (t_3+4)) (spl s.L (0+x.toNat*1) ([.int .u64 t_23])) v_2 Sx_11) fun Jx_1=>
  gB (nthL s.L 22) fun t_24=>
  if t_24=true then
  Jx_1 1 Sx_4
  else
  Jx_1 0 Sx_4
 else
 if k=19 then
  if n=0 then
  Jx (IntKind.u64.wrap (t_3+4)) (spl s.L 17 ([.int .u64 t])) v_2 Sx_4
  else
  if n=1 then
  Jx (IntKind.u64.wrap (t_3+4)) (spl s.L 18 ([.int .u64 t])) v_2 Sx_4
  else
  if n=2 then
  Jx (IntKind.u64.wrap (t_3+4)) (spl s.L 19 ([.int .u64 t])) v_2 Sx_4
  else
  if n=3 then
  Jx (IntKind.u64.wrap (t_3+4)) (spl s.L 20 ([.int .u64 t])) v_2 Sx_4
  else
  if n=4 then
  Jx (IntKind.u64.wrap (t_3+4)) (spl s.L 21 ([.int .u64 t])) v_2 Sx_4
  else
  if n=5 then
  Jx (IntKind.u64.wrap (t_3+4)) (spl s.L 25 ([.int .u32 (IntKind.u32.wrap (Int.tmod t 256))])) v_2 Sx_4
  else
  if n=6 then
  Jx (IntKind.u64.wrap (t_3+4)) (spl s.L 22 ([.bool (decide (Int.tmod t 2=1))])) v_2 Sx_4
  else
  gI (nthL s.L 16) .u64 fun t_25=>
  zz Sx_4 s.L 1 t_25 fun t_26 t_27 t_28 Sx_12=>
  t_26.all (·.oneCell')=true ∧
  Q t_26 t_27 t_28 Sx_12
 else
 if k=20 then
  (spl s.L 16 ([.int .u64 (IntKind.u64.wrap (t_3+4))])).all (·.oneCell')=true ∧
  Q (spl s.L 16 ([.int .u64 (IntKind.u64.wrap (t_3+4))])) 2 (IntKind.u64.wrap (IntKind.i64.wrap n)) Sx_4
 else
 if k=21 then
  gI (nthL (spl s.L 16 ([.int .u64 (IntKind.u64.wrap (t_3+4))])) 24) .u32 fun t_29=>
  gI (nthL (spl s.L 16 ([.int .u64 (IntKind.u64.wrap (t_3+4))])) 25) .u32 fun t_30=>
  if iand .u32 t_29 t_30=0 then
  (spl (spl s.L 16 ([.int .u64 (IntKind.u64.wrap (t_3+4))])) 23 ([.int .u8 1])).all (·.oneCell')=true ∧
  Q (spl (spl s.L 16 ([.int .u64 (IntKind.u64.wrap (t_3+4))])) 23 ([.int .u8 1])) 3 0 Sx_4
  else
  (spl s.L 16 ([.int .u64 (IntKind.u64.wrap (t_3+4))])).all (·.oneCell')=true ∧
  Q (spl s.L 16 ([.int .u64 (IntKind.u64.wrap (t_3+4))])) 0 0 Sx_4
 else
 if k=22 then
  gI (nthL s.L 19) .u64 fun t_31=>
  (spl (spl s.L 16 ([.int .u64 t_31])) 22 ([.bool true])).all (·.oneCell')=true ∧
  Q (spl (spl s.L 16 ([.int .u64 t_31])) 22 ([.bool true])) 0 0 Sx_4
 else
 Jx (IntKind.u64.wrap (t_3+4)) s.L v_2 Sx_4
section
variable {m:Pt} {I:Mem→Rho→GM→Prop} {R:Nat→Prop} {S:Mem} {ρ:Rho} {g:GM} {s:Seat} {time me:Int}
set_option maxHeartbeats 2000000 in
theorem zmT (hB:RBus m I R) (hi:I S ρ g) (hs:s.Ok) {k x y z n:Int} (hbd:Bd k x y z n) (hrt:Rt k x y z n) (hst:s.st=0) (ht:W64 time) (hme:0≤me∧me≤2) {v:List Value} (hv:v.length=26) {Q:List Value→Int→Int→Mem→Prop}
  (hQ:∀ S1 ρ1,Mv S ρ S1 ρ1 R→I S1 ρ1 (doM s g time me k x y z n).g→Q (doM s g time me k x y z n).s.L (doM s g time me k x y z n).k (doM s g time me k x y z n).n S1):rdoB S s m time me k x y z n v Q:=by
 have hl:=hs.len
 have m0:Mv S ρ S ρ R:=Mv.refl (hB.rg hi)
 have hk0:=hbd.kk
 have hx0:=hbd.aa
 have hy0:=hbd.bb
 have hz0:=hbd.cc
 have hn0:=hbd.nn
 have hk:=hrt.kk
 have hxr:=hrt.aa
 have hyr:=hrt.bb
 have hzr:=hrt.cc
 have hrw:=hrt.rw
 unfold regR at hxr hyr hzr
 have hx16:x<16:=by omega
 have hy16:y<16:=by omega
 have hz16:z<16:=by omega
 have cr:∀ {i:Int},0≤i→i<16→nthL s.L i.toNat=some (.int .u64 (s.r i)):=fun {i} h0 h1=>Seat.L_r hl (by omega)
 have sr:∀ u:Int,spl s.L x.toNat [.int .u64 u]=(s.setr x u).L:=fun u=>Seat.set_r hl (by omega) u
 have e64:IntKind.i64.wrap n=n:=w64 (by omega) (by omega)
 have hwx:W64 (s.r x):=Seat.r_w hs x
 have hwy:W64 (s.r y):=Seat.r_w hs y
 have hwz:W64 (s.r z):=Seat.r_w hs z
 unfold rdoB
 simp only[Nat.zero_add,Nat.mul_one,e64,sr]
 refine⟨hv,hx0.1,hx16,?_⟩
 rw[zB (cr hx0.1 hx16)]
 refine⟨hy0.1,hy16,?_⟩
 rw[zB (cr hy0.1 hy16)]
 refine⟨hz0.1,hz16,?_⟩
 rw[zB (cr hz0.1 hz16),zB (Seat.g16 hl)]
 refine zI (fun J=>∀ (t:Seat) pc v S1,t.R.length=16→v.length=26→Q ({ t with pc:=pc }:Seat).L 0 0 S1→J pc t.L v S1) ?_ fun J hJ=>?_
 ·intro t pc v S1 hlt hv1 hq
  refine⟨Seat.L_len hlt,hv1,?_⟩
  rw[Seat.s16 hlt]
  exact⟨Seat.L_one _,hq⟩
 have hJr:∀ u pc,Q ({ s.setr x u with pc:=pc }:Seat).L 0 0 S→0≤x∧x<16∧J pc (s.setr x u).L v S:=fun u pc hq=>⟨hx0.1,hx16,hJ (s.setr x u) pc v S (zem hl x u) hv hq⟩
 have hq0:=hQ S ρ m0 
 have hkk:k=0∨k=1∨k=2∨k=3∨k=4∨k=5∨k=6∨k=7∨k=8∨k=9∨k=10∨k=11∨k=12∨k=13∨k=14∨k=15∨k=16∨k=17∨k=18∨k=19∨k=20∨k=21∨k=22:=by omega
 rw[tm hwx.1,tm hwz.1]
 rcases hkk with rfl | rfl | rfl | rfl | rfl | rfl | rfl | rfl | rfl | rfl | rfl | rfl | rfl | rfl | rfl | rfl | rfl | rfl | rfl | rfl | rfl | rfl | rfl <;> simp only[Int.reduceEq,reduceIte,jn]
 ·exact hJ s _ v S hl hv (hq0 hi)
 ·exact hJr _ _ (hq0 hi)
 ·exact hJr _ _ (hq0 hi)
 ·exact hJr _ _ (hq0 hi)
 ·exact hJr _ _ (hq0 hi)
 ·exact hJr _ _ (hq0 hi)
 ·exact hJr _ _ (hq0 hi)
 ·exact hJr _ _ (hq0 hi)
 ·exact hJr _ _ (hq0 hi)
 ·exact⟨by omega,hJr _ _ (hq0 hi)⟩
 ·exact⟨by omega,hJr _ _ (hq0 hi)⟩
 ·exact hJr _ _ (hq0 hi)
 ·refine zhF hB hi hs (wQ _) (n:=8) (.inr rfl) ?_
  have hd:doM s g time me 12 x y z n=(match getW s g (x64 (s.r y+x64 n)) 8 with | some v=>(⟨{ s.setr x v with pc:=x64 (s.pc+4) },0,0,g⟩:Out) | none=>trapM s g 3 (x64 (s.r y+x64 n))):=rfl
  rw[hd] at hq0
  change match getW s g (x64 (s.r y+x64 n)) 8 with | some w=>_ | none=>_
  cases hg:getW s g (x64 (s.r y+x64 n)) 8 with
  | some u=>
   rw[hg] at hq0
   dsimp only at hq0 ⊢
   rw[if_pos rfl]
   exact hJr _ _ (hq0 hi)
  | none=>
   rw[hg] at hq0
   dsimp only at hq0 ⊢
   intro u
   rw[if_neg (by decide)]
   exact vz hl ⟨Seat.L_one _,hq0 hi⟩
 ·refine zlw hB hi hs (wQ _) hwx ?_
  have hd:doM s g time me 13 x y z n=(match putW s g (x64 (s.r y+x64 n)) (s.r x) with | some g'=>(⟨{ s with pc:=x64 (s.pc+4) },0,0,g'⟩:Out) | none=>trapM s g 4 (x64 (s.r y+x64 n))):=rfl
  rw[hd] at hq0 hQ
  change match putW s g (x64 (s.r y+x64 n)) (s.r x) with | some g'=>_ | none=>_
  cases hg:putW s g (x64 (s.r y+x64 n)) (s.r x) with
  | some g'=>
   rw[hg] at hQ
   dsimp only at hQ ⊢
   intro S1 hm1 hi1
   rw[if_pos rfl]
   exact hJ s _ v S1 hl hv (hQ S1 ρ hm1 hi1)
  | none=>
   rw[hg] at hq0
   dsimp only at hq0 ⊢
   rw[if_neg (by decide)]
   exact vz hl ⟨Seat.L_one _,hq0 hi⟩
 ·have hq:=hq0 hi
  change Q ({ s with pc:=if s.r x=s.r y then x64 (s.pc+x64 (4*x64 n)) else x64 (s.pc+4) }:Seat).L 0 0 S at hq
  by_cases he:s.r x=s.r y
  ·rw[if_pos he] at hq
   rw[if_pos he,zB (Seat.g16 hl)]
   exact hJ s _ v S hl hv hq
  ·rw[if_neg he] at hq
   rw[if_neg he]
   exact hJ s _ v S hl hv hq
 ·have hq:=hq0 hi
  change Q ({ s with pc:=if s.r x≠s.r y then x64 (s.pc+x64 (4*x64 n)) else x64 (s.pc+4) }:Seat).L 0 0 S at hq
  by_cases he:s.r x≠s.r y
  ·rw[if_pos he] at hq
   rw[if_pos he,zB (Seat.g16 hl)]
   exact hJ s _ v S hl hv hq
  ·rw[if_neg he] at hq
   rw[if_neg he]
   exact hJ s _ v S hl hv hq
 ·have hq:=hq0 hi
  change Q ({ s with pc:=if IntKind.i64.wrap (s.r x)<IntKind.i64.wrap (s.r y) then x64 (s.pc+x64 (4*x64 n)) else x64 (s.pc+4) }:Seat).L 0 0 S at hq
  by_cases he:IntKind.i64.wrap (s.r x)<IntKind.i64.wrap (s.r y)
  ·rw[if_pos he] at hq
   rw[if_pos he,zB (Seat.g16 hl)]
   exact hJ s _ v S hl hv hq
  ·rw[if_neg he] at hq
   rw[if_neg he]
   exact hJ s _ v S hl hv hq
 ·rw[zB (Seat.g16 hl)]
  exact hJr _ _ (hq0 hi)
 ·have h9:=hrw (.inl rfl)
  have key:∀ ox:Int,ox=(if s.opn=true then 1 else 0)→∀ c,nthL ([.int .u64 s.base,.int .u64 s.vec,.int .u64 s.epc,.int .u64 s.cause,.int .u64 s.addr,.int .u64 (IntKind.u64.wrap s.mask),.int .u64 ox,.int .u64 time,.int .u64 (IntKind.u64.wrap me)]:List Value) n.toNat=some c→c=.int .u64 (getR s time me n):=fun ox hox c hc=>by
   have hm:=hs.mask
   rw[wu64 (x:=s.mask) (by omega) (by omega),wu64 (x:=me) (by omega) (by omega)] at hc
   have:n=0∨n=1∨n=2∨n=3∨n=4∨n=5∨n=6∨n=7∨n=8:=by omega
   rcases this with rfl | rfl | rfl | rfl | rfl | rfl | rfl | rfl | rfl
   ·exact (Option.some.inj hc).symm
   ·exact (Option.some.inj hc).symm
   ·exact (Option.some.inj hc).symm
   ·exact (Option.some.inj hc).symm
   ·exact (Option.some.inj hc).symm
   ·exact (Option.some.inj hc).symm
   ·rw[hox] at hc;exact (Option.some.inj hc).symm
   ·exact (Option.some.inj hc).symm
   ·exact (Option.some.inj hc).symm
  have fin:∀ ox:Int,ox=(if s.opn=true then 1 else 0)→∀ c,S c=none→gI ((S.set c (bw 39 ([.int .u64 s.base,.int .u64 s.vec,.int .u64 s.epc,.int .u64 s.cause,.int .u64 s.addr,.int .u64 (IntKind.u64.wrap s.mask),.int .u64 ox,.int .u64 time,.int .u64 (IntKind.u64.wrap me)]))).cell c n.toNat) .u64 fun t_23=>0≤x∧x<16∧J (IntKind.u64.wrap (s.pc+4)) (s.setr x t_23).L v (S.set c (bw 39 ([.int .u64 s.base,.int .u64 s.vec,.int .u64 s.epc,.int .u64 s.cause,.int .u64 s.addr,.int .u64 (IntKind.u64.wrap s.mask),.int .u64 ox,.int .u64 time,.int .u64 (IntKind.u64.wrap me)]))):=fun ox hox c hc=>by
   have hn9:∃ w,nthL ([.int .u64 s.base,.int .u64 s.vec,.int .u64 s.epc,.int .u64 s.cause,.int .u64 s.addr,.int .u64 (IntKind.u64.wrap s.mask),.int .u64 ox,.int .u64 time,.int .u64 (IntKind.u64.wrap me)]:List Value) n.toNat=some w:=by
    rw[zK]
    exact⟨_,List.getElem?_eq_getElem (by simp only[List.length_cons,List.length_nil];omega)⟩
   obtain⟨w,hw⟩:=hn9
   have hk:=key ox hox w hw
   subst hk
   rw[zB (n:=getR s time me n) (by rw[qo zy];exact hw)]
   have hkp:Keeps S (S.set c (bw 39 ([.int .u64 s.base,.int .u64 s.vec,.int .u64 s.epc,.int .u64 s.cause,.int .u64 s.addr,.int .u64 (IntKind.u64.wrap s.mask),.int .u64 ox,.int .u64 time,.int .u64 (IntKind.u64.wrap me)]))) []:=Keeps.refl.fresh hc
   exact⟨hx0.1,hx16,hJ (s.setr x _) _ v _ (zem hl x _) hv (hQ _ ρ (Mv.keeps (hB.rg hi) hkp) (hB.kp hi hkp))⟩
  rw[fM (Seat.g22 hl),zB (Seat.g17 hl),zB (Seat.g18 hl),zB (Seat.g19 hl),zB (Seat.g20 hl),zB (Seat.g21 hl),zB (Seat.g25 hl)]
  by_cases ho:s.opn=true
  ·rw[if_pos ho]
   intro c hc
   exact⟨h9.1,h9.2,fin 1 (by rw[if_pos ho]) c hc⟩
  ·rw[if_neg ho]
   rw[zB (Seat.g17 hl),zB (Seat.g18 hl),zB (Seat.g19 hl),zB (Seat.g20 hl),zB (Seat.g21 hl),zB (Seat.g25 hl)]
   intro c hc
   exact⟨h9.1,h9.2,fin 0 (by rw[if_neg ho]) c hc⟩
 ·have h9:=hrw (.inr rfl)
  have hq:=hq0
  have hd:doM s g time me 19 x y z n=(match setR s n (s.r x) with | some t=>(⟨{ t with pc:=x64 (s.pc+4) },0,0,g⟩:Out) | none=>trapM s g 1 s.pc):=rfl
  rw[hd] at hq
  unfold setR at hq
  rw[tm hwx.1,tm hwx.1,wu32 (x:=s.r x%256) (by omega) (by omega),Seat.s17 hl,Seat.s18 hl,Seat.s19 hl,Seat.s20 hl,Seat.s21 hl,Seat.s25 hl,Seat.s22 hl]
  have:n=0∨n=1∨n=2∨n=3∨n=4∨n=5∨n=6∨n=7∨n=8:=by omega
  rcases this with rfl | rfl | rfl | rfl | rfl | rfl | rfl | rfl | rfl <;> simp only[Int.reduceEq,reduceIte] at hq ⊢
  ·exact hJ { s with base:=s.r x } _ v S hl hv (hq hi)
  ·exact hJ { s with vec:=s.r x } _ v S hl hv (hq hi)
  ·exact hJ { s with epc:=s.r x } _ v S hl hv (hq hi)
  ·exact hJ { s with cause:=s.r x } _ v S hl hv (hq hi)
  ·exact hJ { s with addr:=s.r x } _ v S hl hv (hq hi)
  ·exact hJ { s with mask:=s.r x%256 } _ v S hl hv (hq hi)
  ·exact hJ { s with opn:=decide (s.r x%2=1) } _ v S hl hv (hq hi)
  ·rw[zB (Seat.g16 hl)];exact vz hl ⟨Seat.L_one _,hq hi⟩
  ·rw[zB (Seat.g16 hl)];exact vz hl ⟨Seat.L_one _,hq hi⟩
 ·rw[Seat.s16 hl]
  exact⟨Seat.L_one _,hq0 hi⟩
 ·have hd:doM s g time me 21 x y z n=(if s.may=0 then (⟨{ s with pc:=x64 (s.pc+4),st:=1 },3,0,g⟩:Out) else ⟨{ s with pc:=x64 (s.pc+4) },0,0,g⟩):=rfl
  rw[hd] at hq0
  rw[Seat.s16 hl,zB (Seat.g24 (s:={ s with pc:=IntKind.u64.wrap (s.pc+4) }) hl),zB (Seat.g25 (s:={ s with pc:=IntKind.u64.wrap (s.pc+4) }) hl),Seat.s23 (s:={ s with pc:=IntKind.u64.wrap (s.pc+4) }) hl]
  by_cases hmay:s.may=0
  ·rw[if_pos hmay] at hq0
   rw[if_pos (show iand .u32 s.pend s.mask=0 from hmay)]
   exact⟨Seat.L_one _,hq0 hi⟩
  ·rw[if_neg hmay] at hq0
   rw[if_neg (show ¬iand .u32 s.pend s.mask=0 from hmay)]
   exact⟨Seat.L_one _,hq0 hi⟩
 ·rw[zB (Seat.g19 hl),Seat.s16 hl,Seat.s22 (s:={ s with pc:=s.epc }) hl]
  exact⟨Seat.L_one _,hq0 hi⟩
end
end
section
open Go Go.Pt Go.Cr
section
variable {m:Pt} {I:Mem→Rho→GM→Prop} {R:Nat→Prop} {S:Mem} {ρ:Rho} {g:GM} {s:Seat} {time me:Int}
theorem fieldsC {k:Int} (h0:0≤k) (h1:k<23):(Int.tmod (IntKind.i64.wrap (Int.tdiv (rf (cls k)) 4)) 2=1)↔fC (cls k)=true:=by
 have hm4:=zjG k
 generalize cls k=m at *
 rcases m with _ | _ | _ | _ | _ | m <;> first | decide | omega
set_option maxHeartbeats 2000000 in
theorem zkg (hB:RBus m I R) (hi:I S ρ g) (hs:s.Ok) (ht:W64 time) (hme:0≤me∧me≤2) {Q:List Value→Int→Int→Mem→Prop}
  (hQ:∀ S1 ρ1,Mv S ρ S1 ρ1 R→I S1 ρ1 (stepM s g time me).g→Q (stepM s g time me).s.L (stepM s g time me).k (stepM s g time me).n S1):wh S s.L m time me Q:=by
 have hl:=hs.len
 have m0:Mv S ρ S ρ R:=Mv.refl (hB.rg hi)
 apply fV
 unfold xo
 refine⟨Seat.L_len hl,?_⟩
 unfold stepM at hQ
 refine zI (fun J=>s.st=0→∀ v,v.length=26→J v S) ?_ fun J hJ=>?_
 rotate_left
 ·rw[zB (Seat.g23 hl)]
  by_cases h0:s.st≠0
  ·have hq:=hQ S ρ m0
   rw[if_pos h0] at hq
   rw[if_pos h0]
   exact⟨Seat.L_one _,hq hi⟩
  ·rw[if_neg h0];exact hJ (by omega) _ rfl
 intro hst v hv
 rw[if_neg (by omega)] at hQ
 refine⟨hv,?_⟩
 refine zI (fun J=>nextL s=none→∀ v,v.length=26→J s.L v S) ?_ fun J hJ=>?_
 rotate_left
 ·refine zkj hs ?_
  cases hn:nextL s with
  | none=>
   dsimp only
   rw[if_neg (by decide)]
   exact hJ hn _ hv
  | some n=>
   dsimp only
   have hq:=hQ S ρ m0
   rw[hn] at hq
   obtain⟨h8,hbit,_,hge⟩:=zep hs hn
   have hpd:=hs.pend
   have e1:ishl .u32 1 (n:Int)=(2:Int) ^ n:=by
    have:∀ k:Fin 8,ishl .u32 1 (k.1:Int)=(2:Int) ^ k.1:=by decide
    exact this ⟨n,h8⟩
   have e2:0≤(2:Int) ^ n:=by
    have:((2 ^ n:Nat):Int)=(2:Int) ^ n:=by rw[Int.natCast_pow];rfl
    rw[←this];exact Int.natCast_nonneg _
   rw[if_pos (by omega),zB (Seat.g24 hl)]
   refine⟨by omega,?_⟩
   rw[e1,wu32 (x:=s.pend-2 ^ n) (by omega) (by omega),wu64 (x:=(n:Int)) (by omega) (by omega),wu64 (x:=16+(n:Int)) (by omega) (by omega),Seat.s24 hl]
   exact vz (s:={ s with pend:=s.pend-2 ^ n }) hl ⟨Seat.L_one _,hq hi⟩
 intro hn v2 hv2
 refine⟨Seat.L_len hl,hv2,?_⟩
 rw[hn] at hQ
 dsimp only at hQ
 refine zI (fun J=>match getW s g s.pc 4 with | some w=>J w true S | none=>∀ x,J x false S) ?_ fun J hJ=>?_
 rotate_left
 ·rw[zB (Seat.g16 hl)]
  refine zhF hB hi hs hs.pc (n:=4) (.inl rfl) ?_
  cases hg:getW s g s.pc 4 with
  | none=>
   rw[hg] at hJ
   dsimp only at hJ ⊢
   intro x
   rw[if_neg (by decide)];exact hJ x
  | some w=>
   rw[hg] at hJ
   dsimp only at hJ ⊢
   rw[if_pos rfl];exact hJ
 cases hg:getW s g s.pc 4 with
 | none=>
  have hq:=hQ S ρ m0
  rw[hg] at hq
  dsimp only at hq ⊢
  intro x
  simp only[jn]
  rw[if_neg (by decide),zB (Seat.g16 hl)]
  exact vz hl ⟨Seat.L_one _,hq hi⟩
 | some w=>
  have hw:=zgX (hB.ok hi) hs.pc (.inl rfl) hg
  have hw32:w<4294967296:=hw.2
  dsimp only
  rw[if_pos rfl]
  rw[hg] at hQ
  dsimp only at hQ
  have eK:IntKind.u8.wrap (IntKind.u64.wrap (Int.tdiv w 67108864))=dK w:=by
   rw[td hw.1,wu64 (by omega) (by omega),wu8 (by omega) (by omega)];unfold dK;omega
  have eA:IntKind.u8.wrap (Int.tmod (IntKind.u64.wrap (Int.tdiv w 4194304)) 16)=dA w:=by
   rw[td hw.1,wu64 (by omega) (by omega),tm (by omega),wu8 (by omega) (by omega)];rfl
  have eB:IntKind.u8.wrap (Int.tmod (IntKind.u64.wrap (Int.tdiv w 262144)) 16)=dB w:=by
   rw[td hw.1,wu64 (by omega) (by omega),tm (by omega),wu8 (by omega) (by omega)];rfl
  have eC:IntKind.u8.wrap (Int.tmod w 16)=w%16:=by rw[tm hw.1,wu8 (by omega) (by omega)]
  have eN:IntKind.i16.wrap (IntKind.u16.wrap (Int.tmod w 65536))=IntKind.i16.wrap (w%65536):=by
   rw[tm hw.1];congr 1;simp[IntKind.wrap,IntKind.bits,IntKind.signed]
  have eW:IntKind.u32.wrap w=w:=wu32 (by omega) (by omega)
  simp only[eK,eA,eB,eC,eN,eW]
  have hd:=zrw w
  refine zI (fun J=>(∀ S1,Keeps S S1 []→J (dN w) (dC w) S1)∧(23≤dK w→∀ S1 nn,Keeps S S1 []→-32768≤nn∧nn≤32767→J nn 0 S1)) ?_ fun J2 hJ2=>?_
  rotate_left
  ·by_cases h23:dK w<23
   ·rw[if_pos h23]
    refine jV hd.kk.1 h23 fun S1 hk1=>?_
    by_cases hf:fC (cls (dK w))=true
    ·rw[if_pos ((fieldsC hd.kk.1 h23).2 hf)]
     have:=hJ2.1 S1 hk1
     unfold dN dC at this
     rw[if_pos hf,if_pos hf] at this
     exact this
    ·rw[if_neg (fun h=>hf ((fieldsC hd.kk.1 h23).1 h))]
     have:=hJ2.1 S1 hk1
     unfold dN dC at this
     rw[if_neg hf,if_neg hf] at this
     exact this
   ·rw[if_neg h23]
    exact hJ2.2 (by omega) S _ Keeps.refl (znN _)
  have bad:¬isW w→∀ S1,Keeps S S1 []→zz S1 s.L 1 w fun t_34 t_35 t_36 Sx_15=>t_34.all (·.oneCell')=true∧Q t_34 t_35 t_36 Sx_15:=fun hN S1 hk1=>by
   have hq:=hQ S1 ρ (Mv.keeps (hB.rg hi) hk1)
   rw[if_neg hN] at hq
   exact vz hl ⟨Seat.L_one _,hq (hB.kp hi hk1)⟩
  refine⟨fun S1 hk1=>?_,fun h23 S1 nn hk1 hnn=>?_⟩
  rotate_left
  ·simp only[jn]
   have hbd:Bd (dK w) (dA w) (dB w) 0 nn:=⟨hd.kk,hd.aa,hd.bb,by decide,hnn⟩
   refine zcz hbd fun S2 hk2=>?_
   rw[decide_eq_false (fun h:Rt (dK w) (dA w) (dB w) 0 nn=>by have:=h.kk;omega),if_neg (by decide)]
   exact bad (fun h=>by have:=h.1.kk;omega) S2 (hk1.trans hk2)
  ·refine zI (fun J=>isW w→∀ S2 v,Keeps S S2 []→v.length=26→J v S2) ?_ fun J3 hJ3=>?_
   rotate_left
   ·refine zcz hd fun S2 hk2=>?_
    by_cases hr:Rt (dK w) (dA w) (dB w) (dC w) (dN w)
    ·rw[decide_eq_true hr,if_pos rfl]
     refine zhG hd hr fun S3 hk3=>?_
     by_cases he:wrd (dK w) (dA w) (dB w) (dC w) (dN w)=w
     ·rw[if_neg (fun h=>h he)]
      exact hJ3 ⟨hr,he⟩ S3 _ ((hk1.trans hk2).trans hk3) hv2
     ·rw[if_pos he]
      exact bad (fun h=>he h.2) S3 ((hk1.trans hk2).trans hk3)
    ·rw[decide_eq_false hr,if_neg (by decide)]
     exact bad (fun h=>hr h.1) S2 (hk1.trans hk2)
   intro hY S2 v3 hk2 hv3
   have hq0:∀ S1 ρ1,Mv S ρ S1 ρ1 R→I S1 ρ1 (doM s g time me (dK w) (dA w) (dB w) (dC w) (dN w)).g→Q (doM s g time me (dK w) (dA w) (dB w) (dC w) (dN w)).s.L (doM s g time me (dK w) (dA w) (dB w) (dC w) (dN w)).k (doM s g time me (dK w) (dA w) (dB w) (dC w) (dN w)).n S1:=fun S1 ρ1 hm=>by
    have:=hQ S1 ρ1 hm
    rw[if_pos hY] at this;exact this
   have m2:Mv S ρ S2 ρ R:=Mv.keeps (hB.rg hi) hk2
   exact zmT hB (hB.kp hi hk2) hs hd hY.1 hst ht hme hv3 fun S3 ρ3 hm3=>hq0 S3 ρ3 (m2.trans hm3)
end
end
end Go.Proofs.YtabdpmnhjlmnlaaGreatDoor
section
namespace Go.Cr
open Go Go.Pt
structure Kr (S:Mem) (ρ:Rho) (r:Nat) (s:Sl) (l:List Int):Prop where
 len:l.length=s.n
 cap:s.n≤s.c
 lie:(s.p=none∧l=[])∨∃ b o,s.p=some (b,o)∧S.part b o l.length=some (bL l)∧ρ b=some r∧S b≠none
structure Ra where
 now:Int
 x:Nat→Rv
 es:Nat→Sl
 A:Nat→Nat
def Ra.c (D:Ra) (W:Wd):Rc0:=⟨D.now,W.free,D.x,W.vm,fun n p=>(W.own n p).isSome,fun n k=>(W.alarm n k).isSome,W.ls,D.es⟩
abbrev pgS (b:Nat):Sl:=⟨some (b,0),256,256⟩
structure RvP (S:Mem) (ρ:Rho) (n:Nat) (x:Rv) (v:Bv):Prop where
 se:Rw S ρ (210+n) 26 x.ss (v.seats.flatMap Seat.L)
 ke:Kr S ρ (220+n) x.ks v.keys
 di:v.on=true→∀ j,j<4→∃ b,x.d j=pgS b∧Bl S ρ (250+(4*n+j)) b (bw 5 (bL (v.disk j)))
 off:v.on=false→x=rv0
def mePg (A:Nat→Nat):Option (Nat×Bool)→Sl
 | some q=>pgS (A q.1)
 | none=>nilL
def meW:Option (Nat×Bool)→Bool
 | some q=>q.2
 | none=>false
def meL (A:Nat→Nat) (m:Nat→Option (Nat×Bool)):List Value:=cF 32 (fun p=>[eL (mePg A (m p))])++cF 32 fun p=>[.bool (meW (m p))]
theorem zgO {A:Nat→Nat} {m:Nat→Option (Nat×Bool)}:(cF 32 (fun p=>[eL (mePg A (m p))])).length=32:=wd (w:=1) fun _ _=>rfl
theorem yC {A:Nat→Nat} {m:Nat→Option (Nat×Bool)}:(meL A m).length=64:=by
 unfold meL
 have:(cF 32 (fun p=>[Value.bool (meW (m p))])).length=32:=wd (w:=1) fun _ _=>rfl
 rw[List.length_append,zgO,this]
theorem zdK {A:Nat→Nat} {m:Nat→Option (Nat×Bool)} {p:Nat} (hp:p<32):nthL (meL A m) p=some (eL (mePg A (m p))):=by
 unfold meL
 rw[vZ (by rw[zgO];exact hp)]
 exact zde hp
theorem zqA {A:Nat→Nat} {m:Nat→Option (Nat×Bool)} {p:Nat} (hp:p<32):nthL (meL A m) (32+p)=some (.bool (meW (m p))):=by
 unfold meL
 rw[qd (n:=32) zgO]
 exact zde hp
theorem ziJ {A A':Nat→Nat} {m m':Nat→Option (Nat×Bool)} {p:Nat} (hp:p<32) (hm:∀ q,q<32→q≠p→mePg A' (m' q)=mePg A (m q)∧meW (m' q)=meW (m q)) :
  spl (spl (meL A m) p [eL (mePg A' (m' p))]) (32+p) [.bool (meW (m' p))]=meL A' m':=by
 unfold meL
 rw[vS (by rw[zgO];simp;omega),zbD (g:=fun q=>eL (mePg A' (m' q))) hp fun q hq=>by
  by_cases e:q=p
  ·subst e;rw[if_pos rfl]
  ·rw[if_neg e,(hm q hq e).1]]
 rw[zL (n:=32) (wd (w:=1) fun _ _=>rfl),zbD (g:=fun q=>.bool (meW (m' q))) hp fun q hq=>by
  by_cases e:q=p
  ·subst e;rw[if_pos rfl]
  ·rw[if_neg e,(hm q hq e).2]]
structure RefA (S:Mem) (ρ:Rho) (r:Nat) (D:Ra) (W:Wd):Prop where
 rg:∀ b r,ρ b=some r→S b≠none
 hd:Pc S ρ 200 r (D.c W).L
 vs:∀ n,n<6→RvP S ρ n (D.x n) (W.vm n)
 me:∀ n,n<6→(W.vm n).on=true→∃ mb,(D.x n).mb=some (mb,0)∧Pc S ρ (230+n) mb (meL D.A (W.gm n).map)
 pg:∀ n p l,W.own n p=some l→Bl S ρ (300+(32*n+p)) (D.A (32*n+p)) (bw 5 (bL l))
 ev:∀ n,n<6→Rw S ρ (240+n) 4 (D.es n) ((W.ev n).flatMap evL)
 now:0≤D.now∧D.now≤4611686018427387904
 time:∀ n,(W.vm n).on=true→0≤(D.x n).begun∧(D.x n).begun≤D.now∧W.time n=D.now-(D.x n).begun
 at_:∀ n k w,W.alarm n k=some w→(D.x n).at_ k=w
abbrev Rd (r:Nat):Prop:=200≤r∧r<500
section
variable {S S':Mem} {ρ ρ':Rho} {R:Nat→Prop}
theorem Kr.keep {r:Nat} {s:Sl} {l:List Int} (h:Kr S ρ r s l) (m:Mv S ρ S' ρ' R) (hr:¬R r):Kr S' ρ' r s l:=by
 refine⟨h.len,h.cap,h.lie.imp id fun⟨b,o,h1,h2,h3,h4⟩=>?_⟩
 have e:S' b=S b:=m.kp b h4 fun r' e=>by rw[h3] at e;cases e;exact hr
 exact⟨b,o,h1,by simp only[Mem.part,e] at h2 ⊢;exact h2,m.ext b r h3,by rw[e];exact h4⟩
theorem Kr.nil {r:Nat}:Kr S ρ r nilL []:=⟨rfl,Nat.le_refl _,.inl ⟨rfl,rfl⟩⟩
theorem RvP.keep {n:Nat} {x:Rv} {v:Bv} (h:RvP S ρ n x v) (m:Mv S ρ S' ρ' R) (hn:n<6) (hR:∀ r,210≤r∧r<230∨250≤r∧r<300→¬R r):RvP S' ρ' n x v:=
 ⟨h.se.keep m (hR _ (by omega)),h.ke.keep m (hR _ (by omega)),fun ho j hj=>by
  obtain⟨b,h1,h2⟩:=h.di ho j hj
  exact⟨b,h1,h2.keep m (hR _ (by omega))⟩,h.off⟩
variable {r:Nat} {D:Ra} {W:Wd}
theorem RefA.keep (h:RefA S ρ r D W) (hw:∀ n p l,W.own n p=some l→n<6∧p<32) (m:Mv S ρ S' ρ' R) (hR:∀ r,200≤r→r<500→¬R r):RefA S' ρ' r D W:=
 ⟨m.rg,h.hd.keep m (hR _ (by decide) (by decide)),fun n hn=>(h.vs n hn).keep m hn fun r h1=>hR r (by omega) (by omega),fun n hn ho=>by
  obtain⟨mb,h1,h2⟩:=h.me n hn ho
  exact⟨mb,h1,h2.keep m (hR _ (by omega) (by omega))⟩,fun n p l hl=>by
  have:=hw n p l hl
  exact (h.pg n p l hl).keep m (hR _ (by omega) (by omega)),fun n hn=>(h.ev n hn).keep m (hR _ (by omega) (by omega)),h.now,h.time,h.at_⟩
theorem WOk.six' (h:WOk W) {n p:Nat} {l:List Int} (ho:W.own n p=some l):n<6∧p<32:=by
 have:=h.pg n p l ho
 refine⟨Nat.lt_of_not_le fun h6=>?_,this.2.1⟩
 have h7:=h.six n h6
 rw[this.1] at h7;cases h7
theorem WOk.on6 (h:WOk W) {n:Nat} (ho:(W.vm n).on=true):n<6:=Nat.lt_of_not_le fun h6=>by
 have h7:=h.six n h6
 rw[ho] at h7;cases h7
theorem RefA.keeps (h:RefA S ρ r D W) (hwk:WOk W) (hk:Keeps S S' []):RefA S' ρ r D W:=h.keep (fun n p l=>hwk.six') (Mv.keeps (R:=fun _=>False) h.rg hk) fun _ _ _ h=>h
theorem RefA.c0 (h:RefA S ρ r D W):S.cell r 0=some (.int .u64 D.now):=h.hd.cell 0 (by rw[Rc0.len];decide) rfl
theorem RefA.c1 (h:RefA S ρ r D W):S.cell r (0+1)=some (.int .i64 W.free):=h.hd.cell 1 (by rw[Rc0.len];decide) rfl
theorem RefA.vcell (h:RefA S ρ r D W) {n j x:Nat} (hn:n<6) (hj:j<54) (hx:x=2+n*54+j):S.cell r x=nthL (rvL (D.x n) (W.vm n) (fun p=>(W.own n p).isSome) fun k=>(W.alarm n k).isSome) j:=
 (h.hd.cell (2+(n*54+j)) (by rw[Rc0.len];omega) (by omega)).trans (Rc0.get (c:=D.c W) hn hj rfl)
theorem RefA.lcell (h:RefA S ρ r D W) {i j x:Nat} (hi:i<16) (hj:j<6) (hx:x=326+i*6+j):S.cell r x=nthL (lsL (W.ls i)) j:=
 (h.hd.cell (326+(i*6+j)) (by rw[Rc0.len];omega) (by omega)).trans (Rc0.getl (c:=D.c W) hi hj rfl)
theorem RefA.ecell (h:RefA S ρ r D W) {n x:Nat} (hn:n<6) (hx:x=422+n):S.cell r x=some (eL (D.es n)):=
 (h.hd.cell (422+n) (by rw[Rc0.len];omega) (by omega)).trans (Rc0.gete (c:=D.c W) hn rfl)
theorem RefA.von (h:RefA S ρ r D W) {n x:Nat} (hn:n<6) (hx:x=2+n*54):S.cell r x=some (.bool (W.vm n).on):=h.vcell hn (j:=0) (by decide) (by omega)
theorem RefA.vss (h:RefA S ρ r D W) {n x:Nat} (hn:n<6) (hx:x=2+n*54+1):S.cell r x=some (eL (D.x n).ss):=h.vcell hn (j:=1) (by decide) (by omega)
theorem RefA.vbe (h:RefA S ρ r D W) {n x:Nat} (hn:n<6) (hx:x=2+n*54+3):S.cell r x=some (.int .u64 (D.x n).begun):=h.vcell hn (j:=3) (by decide) (by omega)
theorem RefA.vks (h:RefA S ρ r D W) {n x:Nat} (hn:n<6) (hx:x=2+n*54+4):S.cell r x=some (eL (D.x n).ks):=h.vcell hn (j:=4) (by decide) (by omega)
theorem RefA.vmb (h:RefA S ρ r D W) {n x:Nat} (hn:n<6) (hx:x=2+n*54+15):S.cell r x=some (eP (D.x n).mb):=(h.vcell hn (j:=15) (by decide) (by omega)).trans rvL_m
theorem RefA.vown (h:RefA S ρ r D W) {n p x:Nat} (hn:n<6) (hp:p<32) (hx:x=2+n*54+16+p):S.cell r x=some (.bool (W.own n p).isSome):=(h.vcell hn (j:=16+p) (by omega) (by omega)).trans (rvL_own hp)
theorem RefA.put (h:RefA S ρ r D W) {i m:Nat} {vs:List Value} (hm:m=vs.length) (hi:i+vs.length≤428) {x:Nat} (hx:x=i) {K:Mem→Prop} (hK:∀ S',Mv S ρ S' ρ (· = 200)→Pc S' ρ 200 r (spl (D.c W).L i vs)→K S'):pt S r x m vs K:=
 h.hd.pt h.rg i hm (by rw[Rc0.len];exact hi) hx hK
def Ra.setX (D:Ra) (n:Nat) (x:Rv):Ra:={ D with x:=upd D.x n x }
end
end Go.Cr
namespace Go.Proofs.YtabdpmnhjlmnlaaGreatDoor
open Go Go.Pt Go.Cr Go.Hp
section
variable {S S':Mem} {ρ ρ':Rho} {R:Nat→Prop} {r:Nat} {D:Ra} {W:Wd}
theorem gZ (h:RefA S ρ r D W) {n:Int} {Q:Bool→Mem→Prop} (hQ:Q (decide (W.there n)) S):qx S (some (r,0)) n Q:=by
 apply gK
 unfold yL
 by_cases h0:0≤n
 ·rw[if_pos h0]
  by_cases h6:n<6
  ·rw[if_pos h6,zV]
   refine⟨h0,h6,?_⟩
   rw[fM (h.von (n:=n.toNat) (by omega) (by omega))]
   have:decide (W.there n)=(W.vm n.toNat).on:=by
    by_cases hb:(W.vm n.toNat).on=true
    ·rw[hb];exact decide_eq_true ⟨h0,h6,hb⟩
    ·rw[Bool.not_eq_true] at hb
     rw[hb];exact decide_eq_false fun h=>by rw[h.2.2] at hb;cases hb
   rw[this] at hQ;exact hQ
  ·rw[if_neg h6]
   rw[decide_eq_false fun h=>h6 h.2.1] at hQ;exact hQ
 ·rw[if_neg h0]
  rw[decide_eq_false fun h=>h0 h.1] at hQ;exact hQ
theorem zeZ (h:RefA S ρ r D W) {n:Nat} (hn:n<6) {Q:Int→Mem→Prop} (hQ:Q (W.pages n) S):ye S (some (r,0)) n Q:=by
 apply gR
 unfold yP
 simp only[jn]
 refine zM (fun (z:Int×Int) S'=>∃ i:Nat,z=(((count (fun p=>(W.own n p).isSome) i:Nat):Int),(i:Int))∧i≤32∧S'=S) (fun z=>32-z.2.toNat) ?_ ⟨0,rfl,by decide,rfl⟩
 rintro X z S' ⟨i,rfl,hi,hS⟩ ih
 subst hS
 dsimp only at ih ⊢
 have hc:=fp (fun p=>(W.own n p).isSome) i
 by_cases hlt:(i:Int)<32
 ·rw[if_pos hlt,zV]
  refine⟨by omega,by omega,by omega,hlt,?_⟩
  rw[fM (h.vown (n:=n) (p:=i) hn (by omega) (by omega))]
  have e:=qW (fun p=>(W.own n p).isSome) i
  cases ho:(W.own n i).isSome with
  | true=>
   rw[if_pos rfl,w64 (by omega) (by omega),w64 (by omega) (by omega)]
   refine ih _ _ ⟨i+1,?_,by omega,rfl⟩ (by dsimp only;omega)
   rw[e,ho];rfl
  | false=>
   rw[if_neg (by decide),w64 (by omega) (by omega)]
   refine ih _ _ ⟨i+1,?_,by omega,rfl⟩ (by dsimp only;omega)
   rw[e,ho];rfl
 ·rw[if_neg hlt]
  have:i=32:=by omega
  subst this
  exact hQ
theorem zkd {s:Seat} (hs:s.Ok) {Q:List Value→Mem→Prop} (hQ:Q s.wake.L S):wg S s.L Q:=by
 have hl:=hs.len
 apply fU
 unfold xm
 refine⟨Seat.L_len hl,?_⟩
 unfold Seat.wake at hQ
 rw[zB (Seat.g23 hl)]
 by_cases h1:s.st=1
 ·rw[if_pos h1,zB (Seat.g24 hl),zB (Seat.g25 hl)]
  obtain⟨m,e,_,hm⟩:=Seat.may_nat hs
  have em:iand .u32 s.pend s.mask=s.may:=rfl
  rw[em]
  by_cases h2:s.may≠0
  ·rw[if_pos ⟨h1,h2⟩] at hQ
   rw[if_pos (by omega),Seat.s23 hl]
   exact⟨Seat.L_one _,hQ⟩
  ·rw[if_neg (fun h=>h2 h.2)] at hQ
   rw[if_neg (by omega)];exact⟨Seat.L_one _,hQ⟩
 ·rw[if_neg (fun h=>h1 h.1)] at hQ
  rw[if_neg h1];exact⟨Seat.L_one _,hQ⟩
end
end Go.Proofs.YtabdpmnhjlmnlaaGreatDoor
end
section
namespace Go.Cr
open Go Go.Pt
open Go.Proofs.YtabdpmnhjlmnlaaGreatDoor (fL zen ziy zlq zqu)
theorem zqk {l:List Seat} (h:∀ s∈l,s.Ok) {j:Nat} (hj:j<l.length) {i:Nat} {vs:List Value} (hi:i+vs.length≤26) {s':Seat} (he:spl l[j].L i vs=s'.L):spl (l.flatMap Seat.L) (j*26+i) vs=(l.set j s').flatMap Seat.L:=by
 obtain⟨A,B,h1,h2,h3⟩:=zen h hj
 have hlen:=Seat.L_len (h _ (List.getElem_mem hj)).len
 rw[h2,h3,←he,←h1,zL (n:=A.length) rfl,vS (by omega)]
section
variable {S S':Mem} {ρ ρ':Rho} {R:Nat→Prop} {r:Nat} {D:Ra} {W:Wd}
theorem zaU {r0:Nat} {ss:Sl} {seats:List Seat} (h:Rw S ρ r0 26 ss (seats.flatMap Seat.L)) (hg:∀ b r,ρ b=some r→S b≠none) (ok:∀ s∈seats,s.Ok) {k:Nat} (hk:k<seats.length) :
  ss.n=seats.length∧∃ c,ss=⟨some (c,0),ss.n,ss.c⟩∧S.part c (0+k*26) 26=some (seats.getD k seat0).L∧(seats.getD k seat0).Ok ∧
   (∀ {s:Seat} {K:Mem→Prop},s.Ok→(∀ S',Mv S ρ S' ρ (· = r0)→Rw S' ρ r0 26 ss ((seats.set k s).flatMap Seat.L)→K S')→pt S c (0+k*26) 26 s.L K) ∧
   ∀ {i x:Nat} {v:Value} {s:Seat} {K:Mem→Prop},i<26→x=0+k*26+i→spl (seats.getD k seat0).L i [v]=s.L→(∀ S',Mv S ρ S' ρ (· = r0)→Rw S' ρ r0 26 ss ((seats.set k s).flatMap Seat.L)→K S')→pt S c x 1 [v] K:=by
 have hn:=h.n (by decide) (fL ok)
 have hlen:=fL ok
 obtain⟨c,e1,e2⟩:=h.sl (by rw[hlen];omega)
 have hg2:seats.getD k seat0=seats[k]:=by rw[List.getD_eq_getElem?_getD,List.getElem?_eq_getElem hk];rfl
 have hok:=ok _ (List.getElem_mem hk)
 refine⟨hn,c,e1,?_,by rw[hg2];exact hok,fun {s K} hs hK=>?_,fun {i x v s K} hi hx he hK=>?_⟩
 ·rw[h.part e2 (k*26) (by rw[hlen];omega) (by omega),hg2]
  have:=ziy ok hk
  rw[Seat.L_len hok.len] at this;exact this
 ·refine h.pt hg e2 (k*26) (by rw[Seat.L_len hs.len]) (by rw[Seat.L_len hs.len,hlen];omega) (by omega) fun S' m h'=>hK S' m ?_
  rw[zlq ok hk hs] at h';exact h'
 ·refine h.pt hg e2 (k*26+i) (vs:=[v]) rfl (by rw[hlen];simp;omega) (by omega) fun S' m h'=>hK S' m ?_
  rw[hg2] at he
  rw[zqk ok hk (by simp;omega) he] at h';exact h'
theorem RefA.putV (h:RefA S ρ r D W) {n j m x:Nat} (hn:n<6) {vs:List Value} (hm:m=vs.length) (hj:j+vs.length≤54) (hx:x=2+n*54+j) {x':Rv} {v':Bv}
  (he:spl (rvL (D.x n) (W.vm n) (fun p=>(W.own n p).isSome) fun k=>(W.alarm n k).isSome) j vs=rvL x' v' (fun p=>(W.own n p).isSome) fun k=>(W.alarm n k).isSome) {K:Mem→Prop}
  (hK:∀ S',Mv S ρ S' ρ (· = 200)→Pc S' ρ 200 r ((D.setX n x').c (W.setV n v')).L→K S'):pt S r x m vs K:=
 h.put (i:=2+(n*54+j)) hm (by omega) (by omega) fun S' m' h'=>hK S' m' (by
  rw[Rc0.set (c:=D.c W) hn hj rfl he] at h'
  have e1:upd (D.c W).ow n (fun p=>(W.own n p).isSome)=fun n p=>(W.own n p).isSome:=xY (f:=fun n p=>(W.own n p).isSome)
  have e2:upd (D.c W).al n (fun k=>(W.alarm n k).isSome)=fun n k=>(W.alarm n k).isSome:=xY (f:=fun n k=>(W.alarm n k).isSome)
  rw[e1,e2] at h'
  exact h')
theorem RefA.setV (h:RefA S ρ r D W) (hwk:WOk W) {n:Nat} (hn:n<6) (m:Mv S ρ S' ρ' R) (hR:∀ q,R q→q=200∨q=210+n∨q=220+n∨(250+4*n≤q∧q<254+4*n)) {x':Rv} {v':Bv} (hd:Pc S' ρ' 200 r ((D.setX n x').c (W.setV n v')).L) (hv:RvP S' ρ' n x' v')
  (hon:v'.on=(W.vm n).on) (hmb:x'.mb=(D.x n).mb) (hbe:x'.begun=(D.x n).begun) (hat:x'.at_=(D.x n).at_):RefA S' ρ' r (D.setX n x') (W.setV n v'):=by
 have hvm:∀ i,(W.setV n v').vm i=if i=n then v' else W.vm i:=fun i=>rfl
 have hx:∀ i,(D.setX n x').x i=if i=n then x' else D.x i:=fun i=>rfl
 refine⟨m.rg,hd,fun i hi=>?_,fun i hi ho=>?_,fun i p l hl=>?_,fun i hi=>?_,h.now,fun i ho=>?_,fun i k w hw=>?_⟩
 ·rw[hvm,hx]
  by_cases e:i=n
  ·subst e;rw[if_pos rfl,if_pos rfl];exact hv
  ·rw[if_neg e,if_neg e]
   have h0:=h.vs i hi
   exact⟨h0.se.keep m fun hr=>by have:=hR _ hr;omega,h0.ke.keep m fun hr=>by have:=hR _ hr;omega,fun ho j hj=>by
    obtain⟨b,h1,h2⟩:=h0.di ho j hj
    exact⟨b,h1,h2.keep m fun hr=>by have:=hR _ hr;omega⟩,h0.off⟩
 ·have ho':(W.vm i).on=true:=by
   rw[hvm] at ho
   by_cases e:i=n
   ·subst e;rw[if_pos rfl] at ho;rw[←hon];exact ho
   ·rw[if_neg e] at ho;exact ho
  obtain⟨mb,h1,h2⟩:=h.me i hi ho'
  refine⟨mb,?_,h2.keep m fun hr=>by have:=hR _ hr;omega⟩
  rw[hx]
  by_cases e:i=n
  ·subst e;rw[if_pos rfl,hmb];exact h1
  ·rw[if_neg e];exact h1
 ·have:=hwk.six' hl
  exact (h.pg i p l hl).keep m fun hr=>by have:=hR _ hr;omega
 ·exact (h.ev i hi).keep m fun hr=>by have:=hR _ hr;omega
 ·have ho':(W.vm i).on=true:=by
   rw[hvm] at ho
   by_cases e:i=n
   ·subst e;rw[if_pos rfl] at ho;rw[←hon];exact ho
   ·rw[if_neg e] at ho;exact ho
  have:=h.time i ho'
  rw[hx]
  by_cases e:i=n
  ·subst e;rw[if_pos rfl,hbe];exact this
  ·rw[if_neg e];exact this
 ·have:=h.at_ i k w hw
  rw[hx]
  by_cases e:i=n
  ·subst e;rw[if_pos rfl,hat];exact this
  ·rw[if_neg e];exact this
theorem zcv {n:Nat}:D.setX n (D.x n)=D:=by unfold Ra.setX;rw[xY]
theorem RefA.seats (h:RefA S ρ r D W) (hwk:WOk W) {n:Nat} (hn:n<6) {seats':List Seat} (hon:(W.vm n).on=true) (m:Mv S ρ S' ρ (· = 210+n)) (hs:Rw S' ρ (210+n) 26 (D.x n).ss (seats'.flatMap Seat.L)):RefA S' ρ r D (W.setV n { W.vm n with seats:=seats' }):=by
 have hv:=h.vs n hn
 have:=h.setV hwk hn (x':=D.x n) (v':={ W.vm n with seats:=seats' }) m (fun q hq=>by omega) (by
  have h2:=h.hd.keep m (by omega)
  rw[zcv]
  have e:(D.c (W.setV n { W.vm n with seats:=seats' })).L=(D.c W).L:=by
   unfold Rc0.L
   show _++(cF 6 (fun i=>rvL (D.x i) ((W.setV n { W.vm n with seats:=seats' }).vm i) (fun p=>(W.own i p).isSome) fun k=>(W.alarm i k).isSome)++_)=_++(cF 6 (fun i=>rvL (D.x i) (W.vm i) (fun p=>(W.own i p).isSome) fun k=>(W.alarm i k).isSome)++_)
   rw[yn (n:=6) (f:=fun i=>rvL (D.x i) ((W.setV n { W.vm n with seats:=seats' }).vm i) (fun p=>(W.own i p).isSome) fun k=>(W.alarm i k).isSome) (g:=fun i=>rvL (D.x i) (W.vm i) (fun p=>(W.own i p).isSome) fun k=>(W.alarm i k).isSome) fun i _=>by
    show rvL (D.x i) (upd W.vm n { W.vm n with seats:=seats' } i) _ _=_
    by_cases e:i=n
    ·subst e;rw[zi];rfl
    ·rw[zk e]]
   rfl
  rw[e];exact h2) ⟨hs,hv.ke.keep m (by omega),fun ho j hj=>by
   obtain⟨b,h1,h2⟩:=hv.di hon j hj
   exact⟨b,h1,h2.keep m (by omega)⟩,fun ho=>hv.off ho⟩ rfl rfl rfl rfl
 rw[zcv] at this
 exact this
end
end Go.Cr
namespace Go.Proofs.YtabdpmnhjlmnlaaGreatDoor
open Go Go.Pt Go.Cr Go.Hp
def RAft (r:Nat) (S:Mem) (ρ:Rho) (W':Wd) (S':Mem):Prop:=∃ ρ' D',Mv S ρ S' ρ' Rd∧RefA S' ρ' r D' W'
section
variable {S S':Mem} {ρ ρ':Rho} {R:Nat→Prop} {r:Nat} {D:Ra} {W:Wd}
theorem RAft.here (h:RefA S ρ r D W):RAft r S ρ W S:=⟨ρ,D,Mv.refl h.rg,h⟩
theorem _root_.Go.Cr.RefA.aft {W':Wd} {D':Ra} (h:RefA S' ρ' r D' W') (m:Mv S ρ S' ρ' R) (hR:∀ q,R q→200≤q∧q<500):RAft r S ρ W' S':=⟨ρ',D',m.mono hR,h⟩
theorem RAft.trans {S1:Mem} {W':Wd} (m:Mv S ρ S1 ρ' R) (hR:∀ q,R q→200≤q∧q<500) (h:RAft r S1 ρ' W' S'):RAft r S ρ W' S':=by
 obtain⟨ρ2,D2,m2,h2⟩:=h
 exact⟨ρ2,D2,(m.mono hR).trans m2,h2⟩
theorem zda {n k:Nat} {s:Seat}:W.putSeat n k s=W.setV n { W.vm n with seats:=(W.vm n).seats.set k s }:=rfl
theorem ror32 {a:Int} (ha:0≤a∧a≤255) {i:Nat} (hi:i<8):0≤ior .u32 a (2 ^ i)∧ior .u32 a (2 ^ i)≤255:=by
 obtain⟨m,rfl⟩:∃ m:Nat,a=m:=⟨a.toNat,by omega⟩
 have key:∀ m:Fin 256,∀ i:Fin 8,0≤ior .u32 (m.1:Int) (2 ^ i.1)∧ior .u32 (m.1:Int) (2 ^ i.1)≤255:=by decide +kernel
 exact key ⟨m,by omega⟩ ⟨i,hi⟩
theorem rshl32 {i:Nat} (hi:i<8):ishl .u32 1 (i:Int)=2 ^ i:=by
 have key:∀ i:Fin 8,ishl .u32 1 (i.1:Int)=2 ^ i.1:=by decide +kernel
 exact key ⟨i,hi⟩
theorem ziC (h:RefA S ρ r D W) (hwk:WOk W) {n k i:Nat} (hn:n<6) (hon:(W.vm n).on=true) (hk:k<(W.vm n).seats.length) (hi:i<8) {Q:Int→Mem→Prop}
  (hQ:∀ S',RAft r S ρ (W.raise n k i).2 S'→Q (W.raise n k i).1 S'):qM S (some (r,0)) n k i Q:=by
 apply gO
 unfold yN
 have hv:=h.vs n hn
 obtain⟨hl,c,e1,hp,hok,hput,_⟩:=zaU hv.se h.rg (hwk.ok n) hk
 unfold Wd.raise at hQ
 rw[zV]
 refine⟨by omega,by omega,?_⟩
 simp only[jn,Int.toNat_natCast]
 rw[wc (h.vss hn (by omega)),e1,jH]
 refine⟨by omega,by omega,?_⟩
 have es:(W.vm n).seats.getD k seat0=(W.vm n).seat k:=rfl
 rw[es] at hp hok
 rw[gD hp]
 refine⟨Seat.L_one _,?_⟩
 rw[zB (Seat.g23 hok.len)]
 by_cases h2:((W.vm n).seat k).st=2
 ·rw[if_pos h2] at hQ ⊢
  exact hQ S (RAft.here h)
 ·rw[if_neg h2] at hQ ⊢
  rw[zB (Seat.g24 hok.len)]
  refine⟨by omega,by omega,by omega,?_⟩
  rw[wc (h.vss hn (by omega)),Seat.s24 hok.len,rshl32 hi]
  have hok2:({ (W.vm n).seat k with pend:=ior .u32 ((W.vm n).seat k).pend (2 ^ i) }:Seat).Ok:={ hok with pend:=ror32 hok.pend hi }
  refine zkd hok2 ?_
  refine⟨h.vss hn (by omega),?_⟩
  rw[e1,jH]
  refine⟨by omega,by omega,Seat.L_one _,?_⟩
  have er:((W.vm n).seat k).raise i=({ (W.vm n).seat k with pend:=ior .u32 ((W.vm n).seat k).pend (2 ^ i) }:Seat).wake:=by unfold Seat.raise;rw[if_neg h2]
  rw[←er]
  refine hput (by rw[er];exact Seat.wake_ok hok2) fun S1 m1 h1=>?_
  refine hQ S1 ((h.seats hwk hn hon m1 h1).aft m1 fun q hq=>by omega)
theorem gw (h:RefA S ρ r D W) (hwk:WOk W) {n:Nat} (hn:n<6) (hl:(W.ev n).length≤1000000000) {k kind a b:Int} {Q:Mem→Prop} (hQ:∀ S',RAft r S ρ (W.tell n ⟨kind,k,a,b⟩) S'→Q S'):qr S (some (r,0)) n k kind a b Q:=by
 apply fQ
 unfold xg
 have hrow:=h.ev n hn
 have hsn:=hrow.n (by decide) (wB fP _)
 rw[zV]
 refine⟨by omega,by omega,?_⟩
 rw[Int.toNat_natCast,wc (h.ecell hn (by omega))]
 refine zid (R:=fun q=>q=240+n) (Mv.refl h.rg) rfl hrow rfl (by decide) rfl (by omega) fun s' S1 ρ1 m1 m1' h1 _=>?_
 refine⟨by omega,by omega,?_⟩
 refine (h.hd.keep m1' (by omega)).pt m1.rg (vs:=[eL s']) (422+n) rfl (by rw[Rc0.len];simp;omega) (by omega) fun S2 m2 h2=>?_
 rw[Rc0.sete (c:=D.c W) hn rfl] at h2
 have mm:Mv S ρ S2 ρ1 (fun q=>q=200∨q=240+n):=(m1.mono fun q hq=>.inr hq).trans (m2.mono fun q hq=>.inl hq)
 refine hQ S2 ⟨ρ1,{ D with es:=upd D.es n s' },mm.mono fun q hq=>by omega,⟨mm.rg,h2,fun i hi=>(h.vs i hi).keep mm hi fun q h1=>by omega,fun i hi ho=>?_,fun i p l hl=>?_,fun i hi=>?_,h.now,h.time,h.at_⟩⟩
 ·obtain⟨mb,e1,e2⟩:=h.me i hi ho
  exact⟨mb,e1,e2.keep mm (by omega)⟩
 ·have:=hwk.six' hl
  exact (h.pg i p l hl).keep mm (by omega)
 ·show Rw S2 ρ1 (240+i) 4 (upd D.es n s' i) ((upd W.ev n (W.ev n++[⟨kind,k,a,b⟩]) i).flatMap evL)
  by_cases e:i=n
  ·subst e
   rw[zi,zi,List.flatMap_append]
   have e3:[(⟨kind,k,a,b⟩:Evt)].flatMap evL=[.int .u8 kind,.int .i64 k,.int .u64 a,.int .u64 b]:=rfl
   rw[e3]
   exact h1.keep m2 (by omega)
  ·rw[zk e,zk e]
   exact (h.ev i hi).keep mm (by omega)
end
end Go.Proofs.YtabdpmnhjlmnlaaGreatDoor
end
section
namespace Go.Cr
open Go Go.Pt
def ra0:Ra:=⟨0,fun _=>rv0,fun _=>nilL,fun _=>0⟩
theorem zrm {f:Int}:(ra0.c (W0 f)).L=spl (Rc0.L ⟨0,0,fun _=>rv0,fun _=>bv0,fun _ _=>false,fun _ _=>false,fun _=>ls0,fun _=>nilL⟩) 1 [.int .i64 f]:=rfl
end Go.Cr
namespace Go.Proofs.YtabdpmnhjlmnlaaGreatDoor
open Go Go.Pt Go.Cr Go.Hp
section
variable {S S':Mem} {ρ ρ':Rho} {R:Nat→Prop} {r:Nat} {D:Ra} {W:Wd}
theorem znW:z141=Rc0.L ⟨0,0,fun _=>rv0,fun _=>bv0,fun _ _=>false,fun _ _=>false,fun _=>ls0,fun _=>nilL⟩:=by kernel_rfl
theorem zly (hg:∀ b r,ρ b=some r→S b≠none) {f:Int} {Q:Pt→Mem→Prop} (hQ:∀ r ρ' S',Mv S ρ S' ρ' (fun _=>False)→RefA S' ρ' r ra0 (W0 f)→Q (some (r,0)) S'):wD S f Q:=by
 apply zak
 unfold xP
 intro b hb
 have m:Mv S ρ (S.set b (bw 141 (spl z141 1 [.int .i64 f]))) (ρ.upd b 200) (fun _=>False):=(Mv.refl hg).new hb _ 200
 refine hQ b _ _ m ⟨m.rg,⟨⟨⟨_,zy,rfl,?_⟩⟩,qO⟩,fun n _=>⟨Rw.nil,Kr.nil,fun h=>(by cases h),fun _=>rfl⟩,fun n _ h=>(by cases h),fun n p l h=>(by cases h),fun n _=>Rw.nil,by decide,fun n h=>(by cases h),fun n k w h=>(by cases h)⟩
 rw[zrm,←znW]
 have e:(bw 141 (spl z141 1 [.int .i64 f])).cs=spl z141 1 [.int .i64 f]:=rfl
 rw[e]
 exact ze rfl
theorem zlz (h:RefA S ρ r D W) (hwk:WOk W) {n b:Int} (hb:0≤b∧b≤255) {Q:Int→Mem→Prop} (hQ:∀ S',RAft r S ρ (W.key n b).2 S'→Q (W.key n b).1 S'):yH S (some (r,0)) n b Q:=by
 apply zal
 unfold xQ
 simp only[jn]
 refine gZ h ?_
 unfold Wd.key at hQ
 by_cases ht:¬W.there n
 ·rw[if_pos ht] at hQ
  rw[decide_eq_false ht,if_neg (by decide)]
  exact hQ S (RAft.here h)
 have ht:=Decidable.not_not.1 ht
 rw[if_neg (fun h=>h ht)] at hQ
 rw[decide_eq_true ht,if_pos rfl]
 obtain⟨n,rfl⟩:∃ m:Nat,n=m:=⟨n.toNat,by have:=ht.1;omega⟩
 have hon:(W.vm n).on=true:=by have:=ht.2.2;rwa [Int.toNat_natCast] at this
 have hn:n<6:=by have:=ht.2.1;omega
 simp only[Int.toNat_natCast] at hQ ⊢
 have hv:=h.vs n hn
 have hke:=hv.ke
 have hkl:=hke.len
 rw[zV]
 refine⟨by omega,by omega,?_⟩
 rw[wc (h.vks hn (by omega))]
 by_cases h64:64≤(W.vm n).keys.length
 ·rw[if_pos h64] at hQ
  rw[if_pos (by omega)]
  exact hQ S (RAft.here h)
 rw[if_neg h64] at hQ
 rw[if_neg (by omega),zV]
 refine⟨by omega,by omega,?_⟩
 rw[wc (h.vks hn (by omega))]
 have hbx:=(hwk.keys n).2
 have fin:∀ (t:Sl) (S1:Mem),Keeps S S1 []→Row S1 1 t (bL (W.vm n).keys)→(∀ b o,t.p=some (b,o)→S b=none) →
   ap S1 5 1 1 [.int .u8 0] t 1 ([.int .u8 b]) fun t_2 Sx_3=>0≤(n:Int)∧(n:Int)<6∧pt Sx_3 r (0+2+n*54+4) 1 ([eL t_2]) fun Sx_4=>qM Sx_4 (some (r,0)) n 0 6 fun t_3 Sx_5=>Q 0 Sx_5:=fun t S1 hk hrow hf=>by
  have htn:t.n=(W.vm n).keys.length:=by have:=hrow.len;unfold bL at this;rw[List.length_map] at this;omega
  have h1:=h.keeps hwk hk
  refine jR hrow rfl (by decide) rfl (by omega) fun t2 S2 c kb e1 e2 e3 e4 e5=>?_
  have hc:S c=none:=by
   rcases e3 with e3 | e3
   ·exact hf c 0 e3
   ·cases hs:S c with
    | none=>rfl
    | some x=>rw[hk c (by rw[hs];simp) (by simp),hs] at e3;cases e3
  have hk2:Keeps S S2 []:=by rw[e4];exact hk.fresh hc
  have hρ:ρ c=none:=by
   cases hs:ρ c with
   | none=>rfl
   | some q=>exact absurd hc (h.rg c q hs)
  have hS2c:S2 c≠none:=by rw[e4,zy];simp
  have m2:Mv S ρ S2 (ρ.upd c (220+n)) (fun _=>False):=Mv.claim h.rg hk2 hc hS2c
  have h2:RefA S2 (ρ.upd c (220+n)) r D W:=h.keep (fun n p l=>hwk.six') m2 fun _ _ _ h=>h
  have hr2:Row S2 1 t2 (bL ((W.vm n).keys++[b])):=by unfold bL at e5 ⊢;rw[List.map_append];exact e5
  have hkr:Kr S2 (ρ.upd c (220+n)) (220+n) t2 ((W.vm n).keys++[b]):=by
   have hp:=hr2.part e2
   refine⟨by rw[List.length_append,e1,htn];rfl,hr2.cap,.inr ⟨c,0,e2,?_,qO,hS2c⟩⟩
   rw[e1,htn,Nat.mul_one] at hp
   rw[List.length_append];exact hp
  refine⟨by omega,by omega,?_⟩
  refine h2.putV (n:=n) (j:=4) (vs:=[eL t2]) (x':={ D.x n with ks:=t2 }) (v':=(W.vm n).setKeys ((W.vm n).keys++[b])) hn rfl (by simp) (by omega) rfl fun S3 m3 h3=>?_
  have hv2:=h2.vs n hn
  have m23:=(m2.mono (R':=fun q=>q=200) fun _ h=>h.elim).trans m3
  have h4:=h2.setV hwk hn m3 (fun q hq=>.inl hq) h3 ⟨hv2.se.keep m3 (by omega),hkr.keep m3 (by omega),fun _ j hj=>by
   obtain⟨b,h1,h2⟩:=hv2.di hon j hj
   exact⟨b,h1,h2.keep m3 (by omega)⟩,fun ho=>by
   have:(W.vm n).on=false:=ho
   rw[hon] at this;cases this⟩ rfl rfl rfl rfl
  have hwk2:WOk (W.setV n ((W.vm n).setKeys ((W.vm n).keys++[b]))):=hwk.setV hon hon rfl (hwk.ok n) ⟨by
   show ((W.vm n).keys++[b]).length≤64
   rw[List.length_append];simp;omega,fun x hx=>by
   have hx':x∈(W.vm n).keys++[b]:=hx
   rcases List.mem_append.1 hx' with hx | hx
   ·exact hbx x hx
   ·simp at hx;omega⟩ (fun j=>hwk.disk n j hon) rfl rfl
  have h1s:=hwk.seats n hon
  refine ziC (k:=0) (i:=6) h4 hwk2 hn (by show (upd W.vm n _ n).on=true;rw[zi];exact hon) (by show 0<(upd W.vm n _ n).seats.length;rw[zi];show 0<(W.vm n).seats.length;omega) (by decide) fun S5 hA=>?_
  exact hQ S5 (RAft.trans m23 (fun q hq=>by omega) hA)
 refine⟨bL (W.vm n).keys,?_,by unfold bL;rw[List.all_map];exact List.all_eq_true.2 fun _ _=>rfl,?_⟩
 ·rcases hke.lie with ⟨h1,h2⟩ | ⟨b',o,h1,h2,_⟩
  ·exact .inl ⟨h1,by rw[←hkl,h2];rfl,by rw[h2];rfl⟩
  ·exact .inr ⟨b',o,h1,by rw[←hkl,Nat.mul_one];exact h2⟩
 by_cases h0:(D.x n).ks.n=0
 ·have hk0:(W.vm n).keys=[]:=List.length_eq_zero_iff.1 (by omega)
  refine⟨by simp only;omega,fun _=>.inl ⟨rfl,by rw[hk0];rfl,?_⟩,fun hc=>by simp only at hc;omega⟩
  have:=fin ⟨none,0+(D.x n).ks.n,0⟩ S Keeps.refl (by rw[hk0,h0];exact Row.nil) fun b o e=>by cases e
  exact this
 ·refine jR (s:=⟨none,0,0⟩) Row.nil (by unfold bL;rw[List.length_map];omega) (by omega) rfl (by simp only;omega) fun t S1 c kb e1 e2 e3 e4 e5=>?_
  have hc:S c=none:=by
   rcases e3 with e3 | e3
   ·cases e3
   ·exact e3
  exact fin t S1 (by rw[e4];exact Keeps.refl.fresh hc) e5 fun b o e=>by rw[e2] at e;cases e;exact hc
end
end Go.Proofs.YtabdpmnhjlmnlaaGreatDoor
end
namespace Go.Cr
section
open Go Go.Pt
section
variable {S S':Mem} {ρ ρ':Rho} {R:Nat→Prop} {r:Nat} {D:Ra} {W:Wd}
theorem zhz {m q:Nat} {l l':List Int} (ho:W.own m q=some l) (n p:Nat):((W.setO m q (some l')).own n p).isSome=(W.own n p).isSome:=by
 show (upd W.own m (upd (W.own m) q (some l')) n p).isSome=_
 by_cases e:n=m
 ·subst e
  rw[zi]
  by_cases e2:p=q
  ·subst e2;rw[zi,ho];rfl
  ·rw[zk e2]
 ·rw[zk e]
theorem znK {m q:Nat} {l l':List Int} (ho:W.own m q=some l):D.c (W.setO m q (some l'))=D.c W:=by
 unfold Ra.c
 have:(fun n p=>((W.setO m q (some l')).own n p).isSome)=fun n p=>(W.own n p).isSome:=by
  funext n p;exact zhz ho n p
 rw[this];rfl
theorem zhA {m q:Nat} {l l':List Int} (ho:W.own m q=some l) (n:Nat):((W.setO m q (some l')).gm n).map=(W.gm n).map:=by
 funext p
 show (if 32≤p then none else ((W.setO m q (some l')).where_ n p).map fun q=>(32*q.1+q.2.1,q.2.2))=if 32≤p then none else (W.where_ n p).map fun q=>(32*q.1+q.2.1,q.2.2)
 have:(W.setO m q (some l')).where_ n p=W.where_ n p:=by
  unfold Wd.where_
  rw[zhz ho];rfl
 rw[this]
theorem RefA.page (h:RefA S ρ r D W) (hwk:WOk W) {m q:Nat} {l l':List Int} (ho:W.own m q=some l) :
  RefA (S.set (D.A (32*m+q)) (bw 5 (bL l'))) ρ r D (W.setO m q (some l'))∧Mv S ρ (S.set (D.A (32*m+q)) (bw 5 (bL l'))) ρ (· = 300+(32*m+q)):=by
 have hb:=h.pg m q l ho
 have h6:=hwk.six' ho
 have mv:Mv S ρ (S.set (D.A (32*m+q)) (bw 5 (bL l'))) ρ (· = 300+(32*m+q)):=(Mv.refl (R:=(· = 300+(32*m+q))) h.rg).put hb.rol rfl _
 refine⟨⟨mv.rg,?_,fun i hi=>(h.vs i hi).keep mv hi fun r h1=>by omega,fun i hi hon=>?_,fun n p l2 hl2=>?_,fun i hi=>(h.ev i hi).keep mv (by omega),h.now,h.time,h.at_⟩,mv⟩
 ·rw[znK ho];exact h.hd.keep mv (by omega)
 ·obtain⟨mb,h1,h2⟩:=h.me i hi hon
  refine⟨mb,h1,?_⟩
  rw[zhA ho];exact h2.keep mv (by omega)
 ·have hl3:upd W.own m (upd (W.own m) q (some l')) n p=some l2:=hl2
  by_cases e:n=m∧p=q
  ·obtain⟨rfl,rfl⟩:=e
   rw[zi,zi] at hl3
   cases hl3
   exact⟨zy,hb.rol⟩
  ·have e3:W.own n p=some l2:=by
    by_cases e1:n=m
    ·subst e1
     rw[zi,zk (fun e2=>e ⟨rfl,e2⟩)] at hl3;exact hl3
    ·rw[zk e1] at hl3;exact hl3
   have h7:=hwk.six' e3
   exact (h.pg n p l2 e3).keep mv (by omega)
def RI (r n:Nat) (D:Ra) (W:Wd) (S:Mem) (ρ:Rho) (g:GM):Prop:=∃ d,RefA S ρ r D (W.setDat d)∧WOk (W.setDat d)∧g=(W.setDat d).gm n
theorem zoB {n mb:Nat} (hn:n<6) (hon:(W.vm n).on=true) (hmb:(D.x n).mb=some (mb,0)):RBus (some (mb,0)) (RI r n D W) (fun q=>300≤q∧q<500) where
 rg:=fun⟨d,h,_⟩=>h.rg
 ok:=fun⟨d,h,hw,hg⟩=>by rw[hg];exact hw.gm n
 kp:=fun⟨d,h,hw,hg⟩ hk=>⟨d,h.keeps hw hk,hw,hg⟩
 at_:=by
  rintro S ρ g ⟨d,h,hw,rfl⟩
  have hon':((W.setDat d).vm n).on=true:=hon
  obtain⟨mb',e1,hme⟩:=h.me n hn hon'
  have e2:mb'=mb:=by rw[hmb] at e1;cases e1;rfl
  subst e2
  have hmap:∀ p f w,((W.setDat d).gm n).map p=some (f,w)→p<32∧∃ m q l,f=32*m+q∧(W.setDat d).where_ n p=some (m,q,w)∧(W.setDat d).own m q=some l:=fun p f w hm=>by
   have hp:p<32:=Nat.lt_of_not_le fun h32=>by rw[(hw.gm n).pg p h32] at hm;cases hm
   rw[zbr hp] at hm
   cases hwh:(W.setDat d).where_ n p with
   | none=>rw[hwh] at hm;cases hm
   | some x=>
    rw[hwh] at hm
    obtain⟨m,q,w2⟩:=x
    simp only[Option.map_some,Option.some.injEq,Prod.mk.injEq] at hm
    obtain⟨l,hl⟩:=hw.where_own hwh
    exact⟨hp,m,q,l,hm.1.symm,by rw[hm.2],hl⟩
  refine⟨mb',0,D.A,rfl,⟨fun p f w hm=>?_,fun p hp hm=>?_⟩,fun p f hm off l hol hb=>?_⟩
  ·obtain⟨hp,m,q,l,rfl,hwh,hl⟩:=hmap p f w hm
   have h6:=hw.six' hl
   refine⟨?_,?_,?_⟩
   ·rw[hme.cell p (by rw[yC];omega) (by omega),zdK hp,hm];rfl
   ·rw[hme.cell (32+p) (by rw[yC];omega) (by omega),zqA hp,hm];rfl
   ·rw[zfm h6.2,hl];exact (h.pg m q l hl).at_
  ·refine⟨nilL,?_,rfl⟩
   rw[hme.cell p (by rw[yC];omega) (by omega),zdK hp,hm];rfl
  ·obtain⟨hp,m,q,l0,rfl,hwh,hl⟩:=hmap p f true hm
   have h6:=hw.six' hl
   have hW:∀ m q l,(W.setDat d).own m q=some l→q<32:=fun m q l h=>(hw.pg m q l h).2.1
   have hpg:=hw.pg m q l0 hl
   have hd:((W.setDat d).gm n).dat (32*m+q)=l0:=by rw[zfm h6.2,hl];rfl
   have hnew:(wrB ((W.setDat d).gm n) (32*m+q) off l).dat (32*m+q)=spB l0 off l:=by
    unfold wrB spB
    dsimp only
    rw[if_pos rfl,hd]
   have hsp:(spB l0 off l).length=256∧Byt (spB l0 off l):=⟨by rw[ziw (by rw[hpg.2.2.1];exact hol)];exact hpg.2.2.1,zix hpg.2.2.2 hb⟩
   have hok:(W.setDat d).setO m q (some (spB l0 off l))=W.setDat (upd d (32*m+q) (spB l0 off l)):=by
    have hWo:∃ l1,W.own m q=some l1:=by
     have:(W.own m q).map (fun _=>d (32*m+q))=some l0:=hl
     cases ho:W.own m q with
     | none=>rw[ho] at this;cases this
     | some l1=>exact⟨l1,rfl⟩
    obtain⟨l1,hl1⟩:=hWo
    refine zgF (l:=l1) (fun m q l h=>?_) hl1
    exact hW m q (d (32*m+q)) (by show (W.own m q).map _=_;rw[h];rfl)
   obtain⟨hp1,hp2⟩:=h.page hw hl (l':=spB l0 off l)
   rw[hnew]
   refine⟨fun e=>?_,⟨upd d (32*m+q) (spB l0 off l),by rw[←hok];exact hp1,by rw[←hok];exact hw.setO hl hsp,?_⟩,hp2.mono fun x hx=>by omega⟩
   ·have h1:=(h.pg m q l0 hl).rol
    rw[e,hme.rol] at h1
    simp only[Option.some.injEq] at h1
    omega
   ·rw[←hok]
    exact (zmj hl h6.2 hW rfl).symm
end
end
section
open Go Go.Pt
structure Sole (W:Wd) (n:Nat):Prop where
 on:(W.vm n).on=true
 off:∀ m,m≠n→(W.vm m).on=false
 ls:∀ i,(W.ls i).on=false
section
variable {S S':Mem} {ρ ρ':Rho} {R:Nat→Prop} {r:Nat} {D:Ra} {W:Wd} {n:Nat}
theorem Sole.at_ (h:Sole W n) (m:Nat) (p:Int):leaseAt W.ls m p=none:=by
 unfold leaseAt
 rw[List.find?_eq_none]
 intro i _
 rw[h.ls i];simp
theorem Sole.where_ (h:Sole W n) (p:Nat):W.where_ n p=if (W.own n p).isSome=true then some (n,p,true) else none:=by
 unfold Wd.where_
 rw[h.at_];rfl
theorem Sole.map (h:Sole W n) {p:Nat} (hp:p<32):(W.gm n).map p=if (W.own n p).isSome=true then some (32*n+p,true) else none:=by
 rw[zbr hp,h.where_]
 split <;> rfl
theorem Sole.there (h:Sole W n) {m:Int} (hm:W.there m):m=n:=by
 by_cases e:m.toNat=n
 ·have:=hm.1;omega
 ·have:=h.off m.toNat e
  rw[hm.2.2] at this;cases this
theorem Sole.bell (h:Sole W n) (hwk:WOk W) (m:Nat):(W.vm n).bells m=false:=by
 cases hb:(W.vm n).bells m with
 | false=>rfl
 | true=>
  have:=hwk.bells n m hb
  have h2:=h.off m this.2.2.2
  rw[this.2.1] at h2;cases h2
theorem Sole.noB (h:Sole W n) (hwk:WOk W) {m:Int}:¬W.there m∨(W.vm n).bells m.toNat=false:=.inr (h.bell hwk _)
theorem zqQ {v':Bv} (h1:v'.on=(W.vm n).on) (h2:v'.quota=(W.vm n).quota) (h3:v'.bells=(W.vm n).bells):(D.c (W.setV n v')).L=(D.c W).L:=by
 unfold Rc0.L
 show _++(cF 6 (fun i=>rvL (D.x i) ((W.setV n v').vm i) (fun p=>(W.own i p).isSome) fun k=>(W.alarm i k).isSome)++_)=_++(cF 6 (fun i=>rvL (D.x i) (W.vm i) (fun p=>(W.own i p).isSome) fun k=>(W.alarm i k).isSome)++_)
 rw[yn (n:=6) (f:=fun i=>rvL (D.x i) ((W.setV n v').vm i) (fun p=>(W.own i p).isSome) fun k=>(W.alarm i k).isSome) (g:=fun i=>rvL (D.x i) (W.vm i) (fun p=>(W.own i p).isSome) fun k=>(W.alarm i k).isSome) fun i _=>by
  show rvL (D.x i) (upd W.vm n v' i) _ _=_
  by_cases e:i=n
  ·subst e
   rw[zi]
   unfold rvL
   rw[h1,h2,h3]
  ·rw[zk e]]
 rfl
theorem Bl.pt {q b:Nat} {cs:List Value} (h:Bl S ρ q b (bw 5 cs)) (hg:∀ b r,ρ b=some r→S b≠none) {i x:Nat} {v:Value} (hi:i<cs.length) (hx:x=i) {K:Mem→Prop} (hK:∀ S',Mv S ρ S' ρ (· = q)→Bl S' ρ q b (bw 5 (spl cs i [v]))→K S'):Go.Pt.pt S b x 1 [v] K:=by
 subst hx
 refine⟨⟨_,h.at_,rfl,by show x+1≤cs.length;omega⟩,?_⟩
 rw[kR h.at_]
 exact hK _ ((Mv.refl (R:=(· = q)) hg).put h.rol rfl _) ⟨zy,h.rol⟩
theorem Bl.cell {q b:Nat} {cs:List Value} (h:Bl S ρ q b (bw 5 cs)) {i:Nat}:S.cell b i=nthL cs i:=by rw[qo h.at_]
theorem RefA.page2 (h:RefA S ρ r D W) (hwk:WOk W) {m q:Nat} {l l':List Int} (ho:W.own m q=some l) (mv:Mv S ρ S' ρ' (· = 300+(32*m+q))) (hb:Bl S' ρ' (300+(32*m+q)) (D.A (32*m+q)) (bw 5 (bL l'))) :
  RefA S' ρ' r D (W.setO m q (some l')):=by
 have h6:=hwk.six' ho
 refine⟨mv.rg,?_,fun i hi=>(h.vs i hi).keep mv hi fun r h1=>by omega,fun i hi hon=>?_,fun n p l2 hl2=>?_,fun i hi=>(h.ev i hi).keep mv (by omega),h.now,h.time,h.at_⟩
 ·rw[znK ho];exact h.hd.keep mv (by omega)
 ·obtain⟨mb,h1,h2⟩:=h.me i hi hon
  refine⟨mb,h1,?_⟩
  rw[zhA ho];exact h2.keep mv (by omega)
 ·have hl3:upd W.own m (upd (W.own m) q (some l')) n p=some l2:=hl2
  by_cases e:n=m∧p=q
  ·obtain⟨rfl,rfl⟩:=e
   rw[zi,zi] at hl3
   cases hl3
   exact hb
  ·have e3:W.own n p=some l2:=by
    by_cases e1:n=m
    ·subst e1
     rw[zi,zk (fun e2=>e ⟨rfl,e2⟩)] at hl3;exact hl3
    ·rw[zk e1] at hl3;exact hl3
   have h7:=hwk.six' e3
   exact (h.pg n p l2 e3).keep mv (by omega)
theorem vY {p:Nat} {o:Option (List Int)} (m q:Nat):(W.setO n p o).own m q=if m=n∧q=p then o else W.own m q:=by
 show upd W.own n (upd (W.own n) p o) m q=_
 by_cases e:m=n
 ·subst e
  rw[zi]
  by_cases e2:q=p
  ·subst e2;rw[zi,if_pos ⟨rfl,rfl⟩]
  ·rw[zk e2,if_neg (fun h=>e2 h.2)]
 ·rw[zk e,if_neg (fun h=>e h.1)]
def Wd.setOF (W:Wd) (n p:Nat) (o:Option (List Int)) (f:Int):Wd:={ W.setO n p o with free:=f }
theorem Sole.setOF (h:Sole W n) {p:Nat} {o:Option (List Int)} {f:Int}:Sole (W.setOF n p o f) n:=⟨h.on,h.off,h.ls⟩
theorem RefA.own (h:RefA S ρ r D W) (hwk:WOk W) (hs:Sole W n) {p:Nat} (hp:p<32) {o:Option (List Int)} {f:Int} {A':Nat→Nat} (hA:∀ f,f≠32*n+p→A' f=D.A f) (m:Mv S ρ S' ρ' R) (hR:∀ q,R q→q=200∨q=230+n∨q=300+(32*n+p))
  {mb:Nat} (hmb:(D.x n).mb=some (mb,0)) (hd:Pc S' ρ' 200 r (({ D with A:=A' }:Ra).c (W.setOF n p o f)).L) (hme:Pc S' ρ' (230+n) mb (meL A' ((W.setOF n p o f).gm n).map)) (hpg:∀ l,o=some l→Bl S' ρ' (300+(32*n+p)) (A' (32*n+p)) (bw 5 (bL l))):RefA S' ρ' r { D with A:=A' } (W.setOF n p o f):=by
 have hn:=hwk.on6 hs.on
 refine⟨m.rg,hd,fun i hi=>(h.vs i hi).keep m hi fun q h1 h2=>by have:=hR q h2;omega,fun i hi ho=>?_,fun i q l hl=>?_,fun i hi=>(h.ev i hi).keep m fun h2=>by have:=hR _ h2;omega,h.now,h.time,h.at_⟩
 ·by_cases e:i=n
  ·subst e;exact⟨mb,hmb,hme⟩
  ·have ho':(W.vm i).on=true:=ho
   rw[hs.off i e] at ho';cases ho'
 ·have hl2:(W.setO n p o).own i q=some l:=hl
  rw[vY] at hl2
  by_cases e:i=n∧q=p
  ·rw[if_pos e] at hl2
   obtain⟨rfl,rfl⟩:=e
   exact hpg l hl2
  ·rw[if_neg e] at hl2
   have h6:=hwk.six' hl2
   have hne:32*i+q≠32*n+p:=fun he=>e ⟨by omega,by omega⟩
   show Bl S' ρ' (300+(32*i+q)) (A' (32*i+q)) _
   rw[hA _ hne]
   exact (h.pg i q l hl2).keep m fun h2=>by have:=hR _ h2;omega
theorem zmv {p:Nat} {o:Option (List Int)} {f:Int} {A':Nat→Nat} (hn:n<6) (hp:p<32):spl (spl (D.c W).L (2+(n*54+(16+p))) [.bool o.isSome]) 1 [.int .i64 f]=(({ D with A:=A' }:Ra).c (W.setOF n p o f)).L:=by
 rw[Rc0.set (c:=D.c W) (n:=n) (j:=16+p) (x':=D.x n) (v':=W.vm n) (ow':=upd (fun p=>(W.own n p).isSome) p o.isSome) (al':=fun k=>(W.alarm n k).isSome) hn (by simp;omega) rfl (zeo hp),Rc0.setf]
 have e1:upd (D.c W).x n (D.x n)=D.x:=xY
 have e2:upd (D.c W).vm n (W.vm n)=W.vm:=xY
 have e3:upd (D.c W).al n (fun k=>(W.alarm n k).isSome)=fun n k=>(W.alarm n k).isSome:=xY (f:=fun n k=>(W.alarm n k).isSome)
 have e4:upd (D.c W).ow n (upd (fun p=>(W.own n p).isSome) p o.isSome)=fun i q=>((W.setOF n p o f).own i q).isSome:=by
  funext i q
  show _=((W.setO n p o).own i q).isSome
  rw[vY]
  by_cases e:i=n
  ·subst e
   rw[zi]
   by_cases e2:q=p
   ·subst e2;rw[zi,if_pos ⟨rfl,rfl⟩]
   ·rw[zk e2,if_neg fun h=>e2 h.2]
  ·rw[zk e,if_neg fun h=>e h.1];rfl
 rw[e1,e2,e3,e4];rfl
end
end
end Go.Cr
section
namespace Go.Cr
open Go Go.Pt
theorem zjd {d l:List Int} (hl:l.length=d.length) {i:Nat} (hi:i<d.length):spl (bL (d.take i++l.drop i)) i [.int .u8 d[i]]=bL (d.take (i+1)++l.drop (i+1)):=by
 have h1:(d.take i).length=i:=by rw[List.length_take];omega
 have h2:(bL (d.take i)).length=i:=by unfold bL;rw[List.length_map];exact h1
 have e:bL (d.take i++l.drop i)=bL (d.take i)++bL (l.drop i):=by unfold bL;rw[List.map_append]
 have e0:l.drop i=l[i] :: l.drop (i+1):=List.drop_eq_getElem_cons (by omega)
 have e3:spl (bL (d.take i)++bL (l.drop i)) (i+0) [.int .u8 d[i]]=_:=zL (n:=i) h2
 rw[Nat.add_zero] at e3
 have e2:spl (bL (l[i] :: l.drop (i+1))) 0 [.int .u8 d[i]]=.int .u8 d[i] :: bL (l.drop (i+1)):=rfl
 rw[e,e3,e0,e2,List.take_succ_eq_append_getElem hi]
 unfold bL
 rw[List.map_append,List.map_append,List.append_assoc];rfl
end Go.Cr
namespace Go.Proofs.YtabdpmnhjlmnlaaGreatDoor
open Go Go.Pt Go.Cr Go.Hp
section
variable {S S':Mem} {ρ ρ':Rho} {R:Nat→Prop} {r:Nat} {D:Ra} {W:Wd} {n:Nat}
theorem zeX {w:Int} (hw:W64 w) {Q:Int→Mem→Prop} (hQ:Q (small w) S):yc S w Q:=by
 obtain⟨h1,h2⟩:=hw
 apply gN
 unfold yM
 unfold small at hQ
 by_cases h:65535<w
 ·rw[if_pos h] at hQ ⊢;exact hQ
 ·rw[if_neg h] at hQ ⊢
  rw[w64 (by omega) (by omega)];exact hQ
theorem zjy {A:Nat→Nat} {q:Option (Nat×Bool)}:(mePg A q).n=if q=none then 0 else 256:=by
 cases q <;> rfl
theorem zfY (h:RefA S ρ r D W) (hs:Sole W n) (hn:n<6) {p:Int} {Q:Int→Mem→Prop} (hQ:Q (W.mine n p) S):yk S (some (r,0)) n p Q:=by
 apply fR
 unfold xi
 simp only[jn]
 unfold Wd.mine at hQ
 by_cases h0:p<0
 ·rw[if_pos (.inl h0)] at hQ
  rw[if_pos h0];exact hQ
 rw[if_neg h0]
 by_cases h1:31<p
 ·rw[if_pos (.inr (.inl h1))] at hQ
  rw[if_pos h1];exact hQ
 rw[if_neg h1,zV]
 refine⟨by omega,by omega,?_⟩
 obtain⟨mb,e1,hme⟩:=h.me n hn hs.on
 rw[Int.toNat_natCast,qQ ((h.vmb hn (by omega)).trans (by rw[e1])),zV]
 refine⟨by omega,by omega,?_⟩
 rw[wc ((hme.cell p.toNat (by rw[yC];omega) (by omega)).trans (zdK (by omega))),zjy,hs.map (by omega)]
 rw[hs.where_] at hQ
 cases ho:(W.own n p.toNat).isSome with
 | true=>
  rw[ho] at hQ
  rw[if_pos rfl,if_neg (by simp),zV]
  rw[if_pos rfl,if_neg (by simp;omega),if_pos rfl] at hQ
  refine⟨by omega,by omega,by omega,by omega,?_⟩
  rw[fM (h.vown (p:=p.toNat) hn (by omega) (by omega)),ho,if_pos rfl]
  exact hQ
 | false=>
  rw[ho] at hQ
  rw[if_pos (by rfl)]
  rw[if_pos (.inr (.inr (by rfl)))] at hQ
  exact hQ
theorem ziD (h:RefA S ρ r D W) (hs:Sole W n) {c i p:Int} {Q:Int→Mem→Prop} (hQ:Q 2 S):xG S (some (r,0)) n c i p Q:=by
 apply gQ
 unfold yO
 refine zI (fun _=>True) trivial fun J _=>?_
 by_cases h0:i<0
 ·rw[if_pos h0];exact hQ
 rw[if_neg h0]
 by_cases h1:15<i
 ·rw[if_pos h1];exact hQ
 rw[if_neg h1,zV]
 refine⟨by omega,by omega,?_⟩
 rw[fM (h.lcell (i:=i.toNat) (j:=0) (by omega) (by decide) (by omega)),hs.ls,if_neg (by decide)]
 exact hQ
theorem zkm (h:RefA S ρ r D W) (hwk:WOk W) (hs:Sole W n) {p:Nat} (hp:p<32) {Q:Mem→Prop}
  (hQ:∀ S' mb,Mv S ρ S' ρ (fun q=>q=200∨q=230+n)→(D.x n).mb=some (mb,0)→Pc S' ρ 200 r (spl (D.c W).L (2+(n*54+(16+p))) [.bool false])→Pc S' ρ (230+n) mb (meL D.A ((W.setO n p none).gm n).map)→Q S'):yl S (some (r,0)) n p Q:=by
 have hn:=hwk.on6 hs.on
 have hs2:Sole (W.setO n p none) n:=⟨hs.on,hs.off,hs.ls⟩
 obtain⟨mb,e1,hme⟩:=h.me n hn hs.on
 apply fS
 unfold xj
 rw[zV]
 refine⟨by omega,by omega,?_⟩
 rw[Int.toNat_natCast,qQ ((h.vmb hn (by omega)).trans (by rw[e1])),zV]
 refine⟨by omega,by omega,?_⟩
 refine hme.pt h.rg (vs:=[.slice none 0 0]) p rfl (by rw[yC];simp;omega) (by omega) fun S1 m1 h1=>?_
 refine⟨by omega,by omega,?_⟩
 have hd1:=h.hd.keep m1 (by omega)
 rw[qQ ((hd1.cell (2+(n*54+15)) (by rw[Rc0.len];omega) (by omega)).trans ((Rc0.get (c:=D.c W) hn (by decide) rfl).trans (rvL_m.trans (by show some (eP (D.x n).mb)=_;rw[e1])))),zV]
 refine⟨by omega,by omega,?_⟩
 refine h1.pt m1.rg (vs:=[.bool false]) (32+p) rfl (by rw[zS (by rw[yC];simp;omega),yC];simp;omega) (by omega) fun S2 m2 h2=>?_
 refine⟨by omega,by omega,by omega,by omega,?_⟩
 refine (hd1.keep m2 (by omega)).pt m2.rg (vs:=[.bool false]) (2+(n*54+(16+p))) rfl (by rw[Rc0.len];simp;omega) (by omega) fun S3 m3 h3=>?_
 have hmap:∀ q,q<32→q≠p→mePg D.A (((W.setO n p none).gm n).map q)=mePg D.A ((W.gm n).map q)∧meW (((W.setO n p none).gm n).map q)=meW ((W.gm n).map q):=fun q hq e=>by
  have:((W.setO n p none).gm n).map q=(W.gm n).map q:=by
   rw[hs2.map hq,hs.map hq,vY,if_neg (c:=n=n∧q=p) fun h=>e h.2]
  rw[this];exact⟨rfl,rfl⟩
 have hmp:((W.setO n p none).gm n).map p=none:=by rw[hs2.map hp,vY,if_pos (c:=n=n∧p=p) ⟨rfl,rfl⟩];rfl
 have hml:=ziJ (A:=D.A) (A':=D.A) hp hmap
 rw[hmp] at hml
 have h2':Pc S2 ρ (230+n) mb (meL D.A ((W.setO n p none).gm n).map):=by rw[←hml];exact h2
 exact hQ S3 mb ((m1.mono fun q hq=>.inr hq).trans ((m2.mono fun q hq=>.inr hq).trans (m3.mono fun q hq=>.inl hq))) e1 h3 (h2'.keep m3 (by omega))
end
end Go.Proofs.YtabdpmnhjlmnlaaGreatDoor
end
section
theorem Go.Pt.lp_imp {α:Type} {F G:(α→Go.Pt.Mem→Prop)→α→Go.Pt.Mem→Prop} (h:∀ X y S,G X y S→F X y S) {z:α} {S:Go.Pt.Mem} (hG:Go.Pt.lp G z S):Go.Pt.lp F z S:=fun X hX=>hG X fun y S hh=>hX y S (h X y S hh)
namespace Go.Cr
open Go Go.Pt
section
variable {S S':Mem} {ρ ρ':Rho} {R:Nat→Prop} {r:Nat} {D:Ra} {W:Wd} {n:Nat}
theorem zlt {x:Rv} {v:Bv} {ow al:Nat→Bool}:(rvL x v ow al).all (·.oneCell')=true:=by
 have h1:∀ {k:Nat} {f:Nat→List Value},(∀ i,(f i).all (·.oneCell')=true)→(cF k f).all (·.oneCell')=true:=fun {k f} h=>by
  induction k with
  | zero=>rfl
  | succ k ih=>show (cF k f++f k).all _=true;rw[List.all_append,ih,h k];rfl
 unfold rvL
 simp only[List.all_append,Bool.and_eq_true]
 exact⟨rfl,h1 fun _=>rfl,h1 fun _=>rfl,rfl,h1 fun _=>rfl,h1 fun _=>rfl,h1 fun _=>rfl⟩
theorem RefA.vpart (h:RefA S ρ r D W) (hn:n<6) {x:Nat} (hx:x=2+n*54):S.part r x 54=some (rvL (D.x n) (W.vm n) (fun p=>(W.own n p).isSome) fun k=>(W.alarm n k).isSome):=
 (h.hd.part (2+(n*54+0)) (by rw[Rc0.len];omega) (by omega)).trans ((Rc0.gets (c:=D.c W) (j:=0) (m:=54) hn (by decide) rfl).trans (ze xf))
theorem zpc (hn:n<6) {k:Nat} (hk:k<3) {w:Int}:spl (spl (D.c W).L (2+(n*54+(48+k))) [.bool true]) (2+(n*54+(51+k))) [.int .u64 w]=((D.setX n { D.x n with at_:=upd (D.x n).at_ k w }).c (W.setAlarm n k w)).L:=by
 rw[Rc0.set (c:=D.c W) (n:=n) (j:=48+k) (x':=D.x n) (v':=W.vm n) (ow':=fun p=>(W.own n p).isSome) (al':=upd (fun k=>(W.alarm n k).isSome) k true) hn (by simp;omega) rfl (zox hk)]
 rw[Rc0.set (n:=n) (j:=51+k) (x':={ D.x n with at_:=upd (D.x n).at_ k w }) (v':=W.vm n) (ow':=fun p=>(W.own n p).isSome) (al':=upd (fun k=>(W.alarm n k).isSome) k true) hn (by simp;omega) rfl (by simp only[zi];exact zow hk)]
 have e1:upd (upd (D.c W).x n (D.x n)) n { D.x n with at_:=upd (D.x n).at_ k w } = upd D.x n { D.x n with at_:=upd (D.x n).at_ k w }:=gG
 have e2:upd (upd (D.c W).vm n (W.vm n)) n (W.vm n)=W.vm:=by rw[gG];exact xY
 have e3:upd (upd (D.c W).ow n (fun p=>(W.own n p).isSome)) n (fun p=>(W.own n p).isSome)=fun n p=>(W.own n p).isSome:=by rw[gG];exact xY (f:=fun n p=>(W.own n p).isSome)
 have e4:upd (upd (D.c W).al n (upd (fun k=>(W.alarm n k).isSome) k true)) n (upd (fun k=>(W.alarm n k).isSome) k true)=fun i j=>((W.setAlarm n k w).alarm i j).isSome:=by
  rw[gG]
  funext i j
  show _=(upd W.alarm n (upd (W.alarm n) k (some w)) i j).isSome
  by_cases e:i=n
  ·subst e
   rw[zi,zi]
   by_cases e2:j=k
   ·subst e2;rw[zi,zi];rfl
   ·rw[zk e2,zk e2]
  ·rw[zk e,zk e];rfl
 rw[e1,e2,e3,e4];rfl
theorem RefA.alarm (h:RefA S ρ r D W) (hwk:WOk W) (hn:n<6) {k:Nat} {w:Int} (m:Mv S ρ S' ρ (· = 200)) (hd:Pc S' ρ 200 r ((D.setX n { D.x n with at_:=upd (D.x n).at_ k w }).c (W.setAlarm n k w)).L) (hon:(W.vm n).on=true):RefA S' ρ r (D.setX n { D.x n with at_:=upd (D.x n).at_ k w }) (W.setAlarm n k w):=by
 have hx:∀ i,(D.setX n { D.x n with at_:=upd (D.x n).at_ k w }).x i=if i=n then { D.x n with at_:=upd (D.x n).at_ k w } else D.x i:=fun i=>rfl
 refine⟨m.rg,hd,fun i hi=>?_,fun i hi ho=>?_,fun i p l hl=>?_,fun i hi=>(h.ev i hi).keep m (by omega),h.now,fun i ho=>?_,fun i j a ha=>?_⟩
 ·rw[hx]
  have h0:=(h.vs i hi).keep m hi fun q h1=>by omega
  by_cases e:i=n
  ·subst e;rw[if_pos rfl]
   exact⟨h0.se,h0.ke,h0.di,fun ho=>by
    have ho':(W.vm i).on=false:=ho
    rw[hon] at ho';cases ho'⟩
  ·rw[if_neg e];exact h0
 ·obtain⟨mb,h1,h2⟩:=h.me i hi ho
  refine⟨mb,?_,h2.keep m (by omega)⟩
  rw[hx]
  by_cases e:i=n
  ·subst e;rw[if_pos rfl];exact h1
  ·rw[if_neg e];exact h1
 ·have:=hwk.six' (W:=W) (n:=i) (p:=p) (l:=l) hl
  exact (h.pg i p l hl).keep m (by omega)
 ·have:=h.time i ho
  rw[hx]
  by_cases e:i=n
  ·subst e;rw[if_pos rfl];exact this
  ·rw[if_neg e];exact this
 ·have ha':upd W.alarm n (upd (W.alarm n) k (some w)) i j=some a:=ha
  rw[hx]
  by_cases e:i=n
  ·subst e
   rw[zi] at ha'
   rw[if_pos rfl]
   show upd (D.x i).at_ k w j=a
   by_cases e2:j=k
   ·subst e2;rw[zi] at ha' ⊢;cases ha';rfl
   ·rw[zk e2] at ha' ⊢;exact h.at_ i j a ha'
  ·rw[zk e] at ha'
   rw[if_neg e];exact h.at_ i j a ha'
theorem zpb {p:Nat} {o:Option (List Int)} {f:Int} {A':Nat→Nat} (hn:n<6) (hp:p<32):spl (spl (D.c W).L 1 [.int .i64 f]) (2+(n*54+(16+p))) [.bool o.isSome]=(({ D with A:=A' }:Ra).c (W.setOF n p o f)).L:=by
 rw[←zmv hn hp,Rc0.setf]
 rw[Rc0.set (c:={ D.c W with free:=f }) (n:=n) (j:=16+p) (x':=D.x n) (v':=W.vm n) (ow':=upd (fun p=>(W.own n p).isSome) p o.isSome) (al':=fun k=>(W.alarm n k).isSome) hn (by simp;omega) rfl (zeo hp)]
 rw[Rc0.set (c:=D.c W) (n:=n) (j:=16+p) (x':=D.x n) (v':=W.vm n) (ow':=upd (fun p=>(W.own n p).isSome) p o.isSome) (al':=fun k=>(W.alarm n k).isSome) hn (by simp;omega) rfl (zeo hp),Rc0.setf]
theorem zkU:zrep 256 [Value.int .u8 0]=bL noughts:=by kernel_rfl
theorem RefA.sec (h:RefA S ρ r D W) (hn:n<6) (hon:(W.vm n).on=true) {j:Nat} (hj:j<4):∃ b,(D.x n).d j=pgS b∧Bl S ρ (250+(4*n+j)) b (bw 5 (bL ((W.vm n).disk j))):=(h.vs n hn).di hon j hj
theorem RefA.disk (h:RefA S ρ r D W) (hwk:WOk W) (hn:n<6) (hon:(W.vm n).on=true) {j b:Nat} (hj:j<4) {l:List Int} (hb:(D.x n).d j=pgS b) (m:Mv S ρ S' ρ (· = 250+(4*n+j))) (hl:Bl S' ρ (250+(4*n+j)) b (bw 5 (bL l))):RefA S' ρ r D (W.setV n ((W.vm n).setDisk j l)):=by
 have hv:=h.vs n hn
 have hd:Pc S' ρ 200 r ((D.setX n (D.x n)).c (W.setV n ((W.vm n).setDisk j l))).L:=by
  rw[zcv,zqQ (D:=D) (W:=W) (n:=n) (v':=(W.vm n).setDisk j l) rfl rfl rfl]
  exact h.hd.keep m (by omega)
 have:=h.setV hwk hn (x':=D.x n) (v':=(W.vm n).setDisk j l) m (fun q hq=>by omega) hd ⟨hv.se.keep m (by omega),hv.ke.keep m (by omega),fun _ i hi=>by
   by_cases e:i=j
   ·subst e
    refine⟨b,hb,?_⟩
    have e2:((W.vm n).setDisk i l).disk i=l:=zi
    rw[e2];exact hl
   ·obtain⟨b',h1,h2⟩:=hv.di hon i hi
    refine⟨b',h1,?_⟩
    have e2:((W.vm n).setDisk j l).disk i=(W.vm n).disk i:=zk e
    rw[e2];exact h2.keep m (by omega),fun ho=>by
   have ho':(W.vm n).on=false:=ho
   rw[hon] at ho';cases ho'⟩ rfl rfl rfl rfl
 rw[zcv] at this
 exact this
theorem wneg {x:Int} (h : -1000000≤x∧x≤1000000):IntKind.i64.wrap x=x:=w64 (by omega) (by omega)
end
end Go.Cr
end
namespace Go.Proofs.YtabdpmnhjlmnlaaGreatDoor
section
open Go Go.Pt Go.Cr Go.Hp
section
variable {S S':Mem} {ρ ρ':Rho} {R:Nat→Prop} {r:Nat} {D:Ra} {W:Wd} {n:Nat}
theorem zlA (h:RefA S ρ r D W) (hwk:WOk W) (hs:Sole W n) (hf : -100000≤W.free∧W.free≤100000) {p:Nat} (hp:p<32) {mb:Nat} (e1:(D.x n).mb=some (mb,0)) {Q:Int→Int→Mem→Prop} (hQ:∀ S',RAft r S ρ (W.setOF n p (some noughts) (W.free-1)) S'→Q 0 0 S') :
  gI (S.cell r (0+1)) .i64 fun t_21=>pt S r (0+1) 1 ([.int .i64 (IntKind.i64.wrap (t_21-1))]) fun Sx_34=>
   al Sx_34 5 (zrep 256 [.int .u8 0]) fun b_4 Sx_35=>0≤(p:Int)∧(p:Int)<32∧pt Sx_35 mb (0+p*1) 1 ([.slice (some ⟨b_4,0,none⟩) 256 256]) fun Sx_36=>
   0≤(p:Int)∧(p:Int)<32∧pt Sx_36 mb (0+32+p*1) 1 ([.bool true]) fun Sx_37=>
   0≤(n:Int)∧(n:Int)<6∧0≤(p:Int)∧(p:Int)<32∧pt Sx_37 r (0+2+n*54+16+p*1) 1 ([.bool true]) fun Sx_38=>Q 0 0 Sx_38:=by
 have hn:=hwk.on6 hs.on
 obtain⟨mb',e1',hme⟩:=h.me n hn hs.on
 have emb:mb'=mb:=by rw[e1] at e1';cases e1';rfl
 subst emb
 rw[zB h.c1,wneg (by omega)]
 refine h.put (i:=1) (vs:=[.int .i64 (W.free-1)]) rfl (by simp) rfl fun S1 m1 h1=>?_
 intro b hb
 rw[zkU]
 have mA:Mv S ρ (S1.set b (bw 5 (bL noughts))) (ρ.upd b (300+(32*n+p))) (fun q=>q=200):=m1.new hb _ _
 have m2:Mv S1 ρ (S1.set b (bw 5 (bL noughts))) (ρ.upd b (300+(32*n+p))) (fun _=>False):=(Mv.refl m1.rg).new hb _ _
 have hbl:Bl (S1.set b (bw 5 (bL noughts))) (ρ.upd b (300+(32*n+p))) (300+(32*n+p)) b (bw 5 (bL noughts)):=⟨zy,qO⟩
 refine⟨by omega,by omega,?_⟩
 refine ((hme.keep m1 (by omega)).keep m2 (fun h=>h)).pt m2.rg (vs:=[eL (pgS b)]) p rfl (by rw[yC];simp;omega) (by omega) fun S3 m3 h3=>?_
 refine⟨by omega,by omega,?_⟩
 refine h3.pt m3.rg (vs:=[.bool true]) (32+p) rfl (by rw[zS (by rw[yC];simp;omega),yC];simp;omega) (by omega) fun S4 m4 h4=>?_
 refine⟨by omega,by omega,by omega,by omega,?_⟩
 refine (((h1.keep m2 (fun h=>h)).keep m3 (by omega)).keep m4 (by omega)).pt m4.rg (vs:=[.bool true]) (2+(n*54+(16+p))) rfl (by rw[zS (by rw[Rc0.len];simp),Rc0.len];simp;omega) (by omega) fun S5 m5 h5=>?_
 have hs2:Sole (W.setO n p (some noughts)) n:=⟨hs.on,hs.off,hs.ls⟩
 have hA:∀ f,f≠32*n+p→upd D.A (32*n+p) b f=D.A f:=fun f e=>zk e
 have hmap:∀ q,q<32→q≠p→mePg (upd D.A (32*n+p) b) (((W.setO n p (some noughts)).gm n).map q)=mePg D.A ((W.gm n).map q)∧meW (((W.setO n p (some noughts)).gm n).map q)=meW ((W.gm n).map q):=fun q hq e=>by
  have:((W.setO n p (some noughts)).gm n).map q=(W.gm n).map q:=by
   rw[hs2.map hq,hs.map hq,vY,if_neg (c:=n=n∧q=p) fun h=>e h.2]
  rw[this,hs.map hq]
  split
  ·refine⟨?_,rfl⟩
   show pgS (upd D.A (32*n+p) b (32*n+q))=pgS (D.A (32*n+q))
   rw[hA _ (by omega)]
  ·exact⟨rfl,rfl⟩
 have hmp:((W.setO n p (some noughts)).gm n).map p=some (32*n+p,true):=by rw[hs2.map hp,vY,if_pos (c:=n=n∧p=p) ⟨rfl,rfl⟩];rfl
 have hml:=ziJ (A:=D.A) (A':=upd D.A (32*n+p) b) hp hmap
 rw[hmp] at hml
 have epg:mePg (upd D.A (32*n+p) b) (some (32*n+p,true))=pgS b:=by
  show pgS (upd D.A (32*n+p) b (32*n+p))=_
  rw[zi]
 rw[epg] at hml
 have h4':Pc S4 (ρ.upd b (300+(32*n+p))) (230+n) mb' (meL (upd D.A (32*n+p) b) ((W.setO n p (some noughts)).gm n).map):=by rw[←hml];exact h4
 have h5':Pc S5 (ρ.upd b (300+(32*n+p))) 200 r (({ D with A:=upd D.A (32*n+p) b }:Ra).c (W.setOF n p (some noughts) (W.free-1))).L:=by
  rw[←zpb (o:=some noughts) hn hp];exact h5
 have mm:Mv S ρ S5 (ρ.upd b (300+(32*n+p))) (fun q=>q=200∨q=230+n):=(mA.mono fun q hq=>.inl hq).trans ((m3.mono fun q hq=>.inr hq).trans ((m4.mono fun q hq=>.inr hq).trans (m5.mono fun q hq=>.inl hq)))
 have hfin:=h.own (o:=some noughts) (f:=W.free-1) (A':=upd D.A (32*n+p) b) hwk hs hp hA mm (fun q hq=>by omega) e1 h5' (h4'.keep m5 (by omega)) (fun l hl=>by
  cases hl
  rw[zi]
  exact ((hbl.keep m3 (by omega)).keep m4 (by omega)).keep m5 (by omega))
 exact hQ S5 (hfin.aft mm fun q hq=>by omega)
set_option maxRecDepth 20000 in
theorem zki (h:RefA S ρ r D W) (hwk:WOk W) (hs:Sole W n) {p sec:Nat} (hp:p<32) (hsec:sec<4) {l:List Int} (ho:W.own n p=some l) {mb db:Nat} (e1:(D.x n).mb=some (mb,0)) (e2:(D.x n).d sec=pgS db) {K:Mem→Prop}
  (hK:∀ S',Mv S ρ S' ρ (· = 300+(32*n+p))→RefA S' ρ r D (W.setO n p (some ((W.vm n).disk sec)))→K S') :
  lp (fun Xx (i:Int) (Sx:Mem)=>if i<256 then
    0≤(p:Int)∧(p:Int)<32∧gL (Sx.cell mb (0+p*1)) fun t_31=>sl (pgS db) fun b_8 o_6 n_3 n_4=>0≤i∧i<((n_3:Nat):Int)∧gI (Sx.cell b_8 (o_6+i.toNat*1)) .u8 fun t_33=>
    sl t_31 fun b_9 o_7 n_5 n_6=>0≤i∧i<((n_5:Nat):Int)∧pt Sx b_9 (o_7+i.toNat*1) 1 ([.int .u8 t_33]) fun Sx_46=>Xx (IntKind.i64.wrap (i+1)) Sx_46
   else K Sx) 0 S:=by
 have hn:=hwk.on6 hs.on
 obtain⟨mb',e1',hme⟩:=h.me n hn hs.on
 have emb:mb'=mb:=by rw[e1] at e1';cases e1';rfl
 subst emb
 obtain⟨db',e2',hdb⟩:=h.sec hn hs.on hsec
 have edb:db'=db:=by rw[e2] at e2';simp[pgS] at e2';exact e2'.symm
 subst edb
 have hpg:=h.pg n p l ho
 have hl:=(hwk.pg n p l ho).2.2
 have hd:=hwk.disk n sec hs.on
 refine zM (fun (z:Int) S'=>∃ i:Nat,z=(i:Int)∧i≤256∧Mv S ρ S' ρ (· = 300+(32*n+p))∧Bl S' ρ (300+(32*n+p)) (D.A (32*n+p)) (bw 5 (bL (((W.vm n).disk sec).take i++l.drop i)))) (fun z=>256-z.toNat) ?_ ⟨0,rfl,by decide,Mv.refl h.rg,by rw[List.take_zero,List.drop_zero,List.nil_append];exact hpg⟩
 rintro X z S1 ⟨i,rfl,hi,m1,hb1⟩ ih
 by_cases hlt:(i:Int)<256
 ·rw[if_pos hlt]
  refine⟨by omega,by omega,?_⟩
  have hmap:mePg D.A ((W.gm n).map p)=pgS (D.A (32*n+p)):=by rw[hs.map hp,ho];rfl
  rw[wc (((hme.keep m1 (by omega)).cell p (by rw[yC];omega) (by omega)).trans ((zdK hp).trans (by rw[hmap]))),jH]
  have hil:i<((W.vm n).disk sec).length:=by omega
  refine⟨by omega,by omega,?_⟩
  rw[zB (n:=((W.vm n).disk sec)[i]) ((Bl.cell (hdb.keep m1 (by omega))).trans (by
   show nthL (bL ((W.vm n).disk sec)) (0+(i:Int).toNat*1)=_
   rw[show 0+(i:Int).toNat*1=i by omega,zK]
   unfold bL
   rw[List.getElem?_map,List.getElem?_eq_getElem hil];rfl)),jH]
  refine⟨by omega,by omega,?_⟩
  refine Bl.pt hb1 m1.rg (i:=i) (by unfold bL;rw[List.length_map,List.length_append,List.length_take,List.length_drop];omega) (by omega) fun S2 m2 hb2=>?_
  rw[zjd (by omega) hil] at hb2
  rw[w64 (by omega) (by omega)]
  exact ih _ _ ⟨i+1,by omega,by omega,m1.trans m2,hb2⟩ (by omega)
 ·rw[if_neg hlt]
  have:i=256:=by omega
  subst this
  rw[List.take_of_length_le (by omega),List.drop_of_length_le (by omega),List.append_nil] at hb1
  exact hK S1 m1 (h.page2 hwk ho m1 hb1)
set_option maxRecDepth 20000 in
theorem zkh (h:RefA S ρ r D W) (hwk:WOk W) (hs:Sole W n) {p sec:Nat} (hp:p<32) (hsec:sec<4) {l:List Int} (ho:W.own n p=some l) {mb db:Nat} (e1:(D.x n).mb=some (mb,0)) (e2:(D.x n).d sec=pgS db) {K:Mem→Prop}
  (hK:∀ S',Mv S ρ S' ρ (· = 250+(4*n+sec))→RefA S' ρ r D (W.setV n ((W.vm n).setDisk sec l))→K S') :
  lp (fun Xx (i:Int) (Sx:Mem)=>if i<256 then
    0≤(p:Int)∧(p:Int)<32∧gL (Sx.cell mb (0+p*1)) fun t_36=>sl t_36 fun b_11 o_9 n_7 n_8=>0≤i∧i<((n_7:Nat):Int)∧gI (Sx.cell b_11 (o_9+i.toNat*1)) .u8 fun t_37=>
    sl (pgS db) fun b_12 o_10 n_9 n_10=>0≤i∧i<((n_9:Nat):Int)∧pt Sx b_12 (o_10+i.toNat*1) 1 ([.int .u8 t_37]) fun Sx_47=>Xx (IntKind.i64.wrap (i+1)) Sx_47
   else K Sx) 0 S:=by
 have hn:=hwk.on6 hs.on
 obtain⟨mb',e1',hme⟩:=h.me n hn hs.on
 have emb:mb'=mb:=by rw[e1] at e1';cases e1';rfl
 subst emb
 obtain⟨db',e2',hdb⟩:=h.sec hn hs.on hsec
 have edb:db'=db:=by rw[e2] at e2';simp[pgS] at e2';exact e2'.symm
 subst edb
 have hpg:=h.pg n p l ho
 have hl:=(hwk.pg n p l ho).2.2
 have hd:=hwk.disk n sec hs.on
 refine zM (fun (z:Int) S'=>∃ i:Nat,z=(i:Int)∧i≤256∧Mv S ρ S' ρ (· = 250+(4*n+sec))∧Bl S' ρ (250+(4*n+sec)) db' (bw 5 (bL (l.take i++((W.vm n).disk sec).drop i)))) (fun z=>256-z.toNat) ?_ ⟨0,rfl,by decide,Mv.refl h.rg,by rw[List.take_zero,List.drop_zero,List.nil_append];exact hdb⟩
 rintro X z S1 ⟨i,rfl,hi,m1,hb1⟩ ih
 by_cases hlt:(i:Int)<256
 ·rw[if_pos hlt]
  refine⟨by omega,by omega,?_⟩
  have hmap:mePg D.A ((W.gm n).map p)=pgS (D.A (32*n+p)):=by rw[hs.map hp,ho];rfl
  rw[wc (((hme.keep m1 (by omega)).cell p (by rw[yC];omega) (by omega)).trans ((zdK hp).trans (by rw[hmap]))),jH]
  have hil:i<l.length:=by omega
  refine⟨by omega,by omega,?_⟩
  rw[zB (n:=l[i]) ((Bl.cell (hpg.keep m1 (by omega))).trans (by
   show nthL (bL l) (0+(i:Int).toNat*1)=_
   rw[show 0+(i:Int).toNat*1=i by omega,zK]
   unfold bL
   rw[List.getElem?_map,List.getElem?_eq_getElem hil];rfl)),jH]
  refine⟨by omega,by omega,?_⟩
  refine Bl.pt hb1 m1.rg (i:=i) (by unfold bL;rw[List.length_map,List.length_append,List.length_take,List.length_drop];omega) (by omega) fun S2 m2 hb2=>?_
  rw[zjd (by omega) hil] at hb2
  rw[w64 (by omega) (by omega)]
  exact ih _ _ ⟨i+1,by omega,by omega,m1.trans m2,hb2⟩ (by omega)
 ·rw[if_neg hlt]
  have:i=256:=by omega
  subst this
  rw[List.take_of_length_le (by omega),List.drop_of_length_le (by omega),List.append_nil] at hb1
  exact hK S1 m1 (h.disk hwk hn hs.on hsec e2 m1 hb1)
end
end
end Go.Proofs.YtabdpmnhjlmnlaaGreatDoor
namespace Go.Cr
section
open Go Go.Pt
structure One (W:Wd) (n:Nat) (s:Seat):Prop where
 lt:n<6
 on:(W.vm n).on=true
 seats:(W.vm n).seats=[s]
def Wd.done (W:Wd) (n:Nat) (s s':Seat) (k c:Int):Wd:=(W.putSeat n 0 s').tell n (told k c 0 s.pc s')
section
variable {W:Wd} {n:Nat} {s s':Seat} {g:GM} {k c:Int}
theorem One.seat (h:One W n s):(W.vm n).seat 0=s:=by unfold Bv.seat;rw[h.seats];rfl
theorem One.run (h:One W n s) (ho:stepM s (W.gm n) (W.time n) 0=⟨s',k,c,g⟩) (h5:k≠5):W.run n 0=(0,if k=2 then ((W.setDat g.dat).done n s s' k c).hyper n 0 c s' else (W.setDat g.dat).done n s s' k c):=by
 have ht:W.there (n:Int):=⟨by omega,by have:=h.lt;omega,by rw[Int.toNat_natCast];exact h.on⟩
 unfold Wd.run
 rw[Int.toNat_natCast,if_neg (by
  rintro (h1 | h1 | h1)
  ·exact h1 ht
  ·omega
  ·rw[h.seats] at h1;simp at h1)]
 dsimp only
 rw[show (0:Int).toNat=0 from rfl,h.seat,ho]
 dsimp only
 rw[if_neg h5]
 rfl
theorem ziS (m:Nat):(W.done n s s' k c).vm m=if m=n then (W.vm n).setSeat 0 s' else W.vm m:=by
 show upd W.vm n _ m=_
 unfold upd;rfl
theorem One.done (h:One W n s):One (W.done n s s' k c) n s':=by
 refine⟨h.lt,?_,?_⟩
 ·rw[ziS,if_pos rfl];exact h.on
 ·rw[ziS,if_pos rfl]
  show (W.vm n).seats.set 0 s'=[s']
  rw[h.seats];rfl
theorem zmn:((W.done n s s' k c).vm n).keys=(W.vm n).keys:=by rw[ziS,if_pos rfl];rfl
theorem zoX:(W.done n s s' k c).ev n=W.ev n++[told k c 0 s.pc s']:=zi
theorem done_own:(W.done n s s' k c).own=W.own:=rfl
theorem zlk {time me w:Int} (h0:s.st=0) (ho:s.opn=false) (hb:s.base=0) {pc:Nat} (hpc:s.pc=pc) (hp:pc%4=0) (hlt:pc<256) {f:Nat} {b:Bool} (hm:g.map 0=some (f,b)) {page:List Int} (hd:g.dat f=page) (hw:num ((page.drop pc).take 4)=w) (hi:isW w):stepM s g time me=doM s g time me (dK w) (dA w) (dB w) (dC w) (dN w):=by
 unfold stepM
 rw[if_neg (by rw[h0];simp)]
 have hn:nextL s=none:=by unfold nextL;rw[if_neg (by rw[ho];simp)]
 have hg:getW s g s.pc 4=some w:=by
  unfold getW place
  rw[if_neg (by omega),if_pos hb]
  dsimp only
  rw[if_neg (by omega)]
  unfold ldB
  rw[show (s.pc/256).toNat=0 by omega,show (s.pc%256).toNat=pc by omega,hm]
  simp only[Option.map_some,hd,hw]
 rw[hn,hg]
 dsimp only
 rw[if_pos hi]
end
section
variable {s:Seat} {g:GM} {t me a b c n:Int}
theorem doM14:doM s g t me 14 a b c n=⟨{ s with pc:=if s.r a=s.r b then x64 (s.pc+x64 (4*x64 n)) else x64 (s.pc+4) },0,0,g⟩:=rfl
end
def Wd.ans (W:Wd) (n:Nat) (c e v:Int):Wd:=(W.putSeat n 0 (((W.vm n).seat 0).answer e v)).tell n ⟨2,0,ior .u64 (x64 (c*256)) e,v⟩
section
variable {W W':Wd} {n:Nat} {s:Seat} {c e v:Int}
theorem znT (m:Nat):(W.ans n c e v).vm m=if m=n then (W.vm n).setSeat 0 (((W.vm n).seat 0).answer e v) else W.vm m:=by
 show upd W.vm n _ m=_
 unfold upd;rfl
theorem One.ans (h:One W n s):One (W.ans n c e v) n (s.answer e v):=by
 refine⟨h.lt,?_,?_⟩
 ·rw[znT,if_pos rfl];exact h.on
 ·rw[znT,if_pos rfl,h.seat]
  show (W.vm n).seats.set 0 _=_
  rw[h.seats];rfl
theorem gm_own {p:Nat} (hp:p<32) {l:List Int} (h:W.own n p=some l):(W.gm n).map p=some (32*n+p,true)∧(W.gm n).dat (32*n+p)=l:=by
 constructor
 ·show (if 32≤p then none else (W.where_ n p).map fun q=>(32*q.1+q.2.1,q.2.2))=_
  rw[if_neg (by omega)]
  unfold Wd.where_
  rw[if_pos (by rw[h];rfl)];rfl
 ·show (W.own ((32*n+p)/32) ((32*n+p)%32)).getD []=l
  rw[show (32*n+p)/32=n by omega,show (32*n+p)%32=p by omega,h];rfl
end
end
section
open Go Go.Pt
def keyImg:List Int:=[8,0,0,5,1,0,0,80,255,255,168,58]
structure KX (W:Wd) (pc:Nat) (l:List Int):Prop where
 ex:∃ s:Seat,One W 0 s∧s.st=0∧s.opn=false∧s.base=0∧s.pc=pc
 keys:(W.vm 0).keys=l
 own:W.own 0 0=some (pageB keyImg 0)
theorem One.setV {W:Wd} {n:Nat} {s s':Seat} (h:One W n s) {v:Bv} {b:Bool} (hb:b=true) (h1:v.on=b) (h2:v.seats=[s']):One (W.setV n v) n s':=by
 subst hb
 refine⟨h.lt,?_,?_⟩
 ·show Bv.on (upd W.vm n v n)=true
  rw[zi];exact h1
 ·show Bv.seats (upd W.vm n v n)=[s']
  rw[zi];exact h2
theorem zoN:isW 984154111:=by decide +kernel
section
variable {W:Wd} {l:List Int}
theorem KX.done {pc:Nat} (h:KX W pc l) {s s':Seat} (ho:One W 0 s) {pc':Nat} (h1:s'.st=0) (h2:s'.opn=false) (h3:s'.base=0) (h4:s'.pc=pc') {k c:Int}:KX (W.done 0 s s' k c) pc' l:=
 ⟨⟨s',ho.done,h1,h2,h3,h4⟩,by rw[zmn];exact h.keys,by rw[done_own];exact h.own⟩
theorem KX.beq (hwk:WOk W) (h:KX W 8 l):(W.run 0 0).1=0∧KX (W.run 0 0).2 4 l∧∃ x,(W.run 0 0).2.ev 0=W.ev 0++[x]:=by
 obtain⟨s,ho,h1,h2,h3,h4⟩:=h.ex
 obtain⟨g1,g2⟩:=gm_own (n:=0) (by decide) h.own
 have hst:stepM s (W.gm 0) (W.time 0) 0=⟨{ s with pc:=4 },0,0,W.gm 0⟩:=by
  rw[zlk (w:=984154111) h1 h2 h3 h4 (by decide) (by decide) g1 g2 (by decide +kernel) zoN]
  have e1:dK 984154111=14:=by decide
  have e2:dN 984154111 = -1:=by decide
  have e3:dA 984154111=dB 984154111:=by decide
  rw[e1,e2,e3,doM14,if_pos rfl,h4];rfl
 have hr:=ho.run hst (by decide)
 rw[show ((0:Nat):Int)=0 from rfl,if_neg (by decide)] at hr
 rw[yz fun m q l h=>(hwk.pg m q l h).2.1] at hr
 rw[hr]
 exact⟨rfl,h.done (s':={ s with pc:=4 }) ho h1 h2 h3 (pc':=4) rfl,_,zoX⟩
end
end
section
open Go Go.Pt
def le4 (w:Int):List Int:=[w%256,w/256%256,w/65536%256,w/16777216%256]
theorem zoK {w:Int} (h:0≤w) (h2:w<4294967296):num (le4 w)=w:=by simp only[le4,num];omega
def imgW (l:List Int):List Int:=l.flatMap le4
theorem zjC:∀ l:List Int,(imgW l).length=4*l.length
 | []=>rfl
 | a :: l=>by
  have:=zjC l
  unfold imgW at this ⊢
  rw[List.flatMap_cons,List.length_append,this,List.length_cons]
  show 4+_=_
  omega
theorem zmg:∀ {l:List Int} {i:Nat} {w:Int},l[i]? = some w→((imgW l).drop (4*i)).take 4=le4 w
 | [],i,w,h=>by simp at h
 | a :: l,0,w,h=>by
  simp only[List.getElem?_cons_zero,Option.some.injEq] at h
  subst h
  rfl
 | a :: l,i+1,w,h=>by
  rw[List.getElem?_cons_succ] at h
  have:=zmg h
  rw[←this,show imgW (a :: l)=le4 a++imgW l from rfl,show 4*(i+1)=(le4 a).length+4*i by simp only[le4,List.length_cons,List.length_nil];omega,List.drop_append]
  rw[List.drop_of_length_le (by omega),List.nil_append,show (le4 a).length+4*i-(le4 a).length=4*i by omega]
theorem zmZ {l:List Int} (hl:l.length≤64) {i:Nat} {w:Int} (h:l[i]? = some w):((pageB (imgW l) 0).drop (4*i)).take 4=le4 w:=by
 have hi:=(List.getElem?_eq_some_iff.1 h).1
 have hn:=zjC l
 unfold pageB fit256
 have e:(imgW l).take 256=imgW l:=List.take_of_length_le (by omega)
 rw[Nat.mul_zero,List.drop_zero,e,List.drop_append_of_le_length (by omega),List.take_append_of_le_length (by rw[List.length_drop];omega)]
 exact zmg h
structure PX (W:Wd) (n:Nat) (ws:List Int) (s:Seat):Prop where
 one:One W n s
 st:s.st=0
 opn:s.opn=false
 base:s.base=0
 own:W.own n 0=some (pageB (imgW ws) 0)
 len:ws.length≤64
section
variable {W:Wd} {n:Nat} {ws:List Int} {s s':Seat} {g:GM} {i:Nat} {k a b c m x y:Int}
theorem PX.run (h:PX W n ws s) (hpc:s.pc=(4*i:Nat)) (hi:ws[i]? = some (wrd k a b c m)) (hb:Bd k a b c m) (hr:Rt k a b c m)
  (hd:doM s (W.gm n) (W.time n) 0 k a b c m=⟨s',x,y,g⟩) (h5:x≠5):W.run n 0=(0,if x=2 then ((W.setDat g.dat).done n s s' x y).hyper n 0 y s' else (W.setDat g.dat).done n s s' x y):=by
 obtain⟨w1,e1,e2,e3,e4,e5⟩:=zpY hb hr
 have hw:=zpZ hb hr
 have hlt:=(List.getElem?_eq_some_iff.1 hi).1
 have hlen:=h.len
 obtain⟨g1,g2⟩:=gm_own (n:=n) (by decide) h.own
 refine h.one.run ?_ h5
 rw[zlk h.st h.opn h.base hpc (by omega) (by omega) g1 g2 (by rw[zmZ h.len hi];exact zoK hw.1 (by omega)) w1,e1,e2,e3,e4,e5,hd]
theorem PX.plain (h:PX W n ws s) (hwk:WOk W) (hpc:s.pc=(4*i:Nat)) (hi:ws[i]? = some (wrd k a b c m)) (hb:Bd k a b c m) (hr:Rt k a b c m)
  (hd:doM s (W.gm n) (W.time n) 0 k a b c m=⟨s',0,y,W.gm n⟩):W.run n 0=(0,W.done n s s' 0 y):=by
 rw[h.run hpc hi hb hr hd (by decide),if_neg (by decide),yz fun m q l h=>(hwk.pg m q l h).2.1]
theorem PX.done (h:PX W n ws s) (h1:s'.st=0) (h2:s'.opn=false) (h3:s'.base=0):PX (W.done n s s' x y) n ws s':=
 ⟨h.one.done,h1,h2,h3,h.own,h.len⟩
theorem PX.ans {e v:Int} (h:PX W n ws s):PX (W.ans n c e v) n ws (s.answer e v):=
 ⟨h.one.ans,h.st,h.opn,h.base,h.own,h.len⟩
end
def Wd.made (W:Wd) (n:Nat) (seats quota pages:Int) (img:List Int):Wd:=
 { W with free:=W.free-(5+pages),vm:=upd W.vm n (mkV seats quota),time:=upd W.time n 0,ev:=upd W.ev n [],own:=upd W.own n fun p=>if (p:Int)<pages then some (pageB img p) else none }
theorem zmr {W:Wd} {seats quota pages:Int} {img:List Int} {n:Nat} (h1:¬(seats<1∨3<seats∨quota<1∨32<quota∨pages<1∨quota<pages)) (h2:img.length≤256*pages) (hn:firstOff (fun n=>(W.vm n).on) 6=some n) (hf:5+pages≤W.free) :
  W.create seats quota pages img=((n:Int),0,W.made n seats quota pages img):=by
 unfold Wd.create
 rw[if_neg h1,if_neg (by omega),hn]
 dsimp only
 rw[if_neg (by omega)];rfl
theorem PX.begin {W:Wd} {n:Nat} (hn:n<6) {quota pages:Int} {ws:List Int} (hp:0<pages) (hl:ws.length≤64):PX (W.made n 1 quota pages (imgW ws)) n ws seat0:=by
 refine⟨⟨hn,?_,?_⟩,rfl,rfl,rfl,?_,hl⟩
 ·show Bv.on (upd W.vm n (mkV 1 quota) n)=true
  rw[zi];rfl
 ·show Bv.seats (upd W.vm n (mkV 1 quota) n)=[seat0]
  rw[zi];rfl
 ·show upd W.own n _ n 0=_
  rw[zi,if_pos (by omega)]
end
end Go.Cr
