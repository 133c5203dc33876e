/- Texts of this work,joined by program (pack.py). -/
import Derived.Test.YtabdpmnhjlmnlaaGreatDoorQBQ
import Derived.Test.YtabdpmnhjlmnlaaGreatDoorQBN
import Derived.Test.YtabdpmnhjlmnlaaGreatDoorQBI
import Derived.Test.YtabdpmnhjlmnlaaGreatDoorQBM
import Derived.Test.YtabdpmnhjlmnlaaGreatDoorQBC
import Derived.Test.YtabdpmnhjlmnlaaGreatDoorQBD
import Derived.Test.YtabdpmnhjlmnlaaGreatDoorQBE
import Derived.Test.YtabdpmnhjlmnlaaGreatDoorQBH
import Derived.ProofKit
import Derived.OpenShut
import Derived.Test.YtabdpmnhjlmnlaaGreatDoorRows
import Derived.LaidMore
import Derived.Lay
import Derived.Lib.LaidU8
import Derived.Deep.Slices
import Derived.Stop.Joined
set_option linter.unusedVariables false
namespace Go.Cr
section
open Go Go.Pt
open Go.Proofs.YtabdpmnhjlmnlaaGreatDoor (fL)
section
variable {S S':Mem} {ρ ρ':Rho} {R:Nat→Prop} {r:Nat} {D:Ra} {W:Wd} {n:Nat}
theorem zqq {x:Rv} {v:Bv} {ow al:Nat→Bool} {j:Nat} (hj:j<4) {s:Sl}:spl (rvL x v ow al) (5+j) [eL s]=rvL { x with d:=upd x.d j s } v ow al:=by
 unfold rvL
 rw[zL (n:=5) rfl,vS (by rw[zcK];simp;omega)]
 rw[zbD (g:=fun p=>eL (upd x.d j s p)) hj fun p _=>by unfold upd;split <;> rfl]
abbrev RN (n:Nat) (q:Nat):Prop:=q=210+n∨q=230+n∨(250+4*n≤q∧q<254+4*n)∨(300+32*n≤q∧q<332+32*n)
theorem zoV {l:List Int} {k:Nat} (hk:k<256):(fit256 l)[k]? = some (l.getD k 0):=by
 unfold fit256
 by_cases h:k<l.length
 ·rw[List.getElem?_append_left (by rw[List.length_take];omega),List.getElem?_take,if_pos hk,List.getD_eq_getElem?_getD,List.getElem?_eq_getElem h];rfl
 ·rw[List.getElem?_append_right (by rw[List.length_take];omega),List.getElem?_replicate,if_pos (by rw[List.length_take];omega),List.getD_eq_getElem?_getD,List.getElem?_eq_none (by omega)];rfl
theorem znv {l:List Int} {k:Nat} (hk:l.length≤k) (hk2:k≤256):(fit256 l).take k++noughts.drop k=fit256 l:=by
 have e:(fit256 l).drop k=noughts.drop k:=by
  unfold fit256 noughts
  rw[List.drop_append,List.drop_of_length_le (by rw[List.length_take];omega),List.nil_append,List.drop_replicate,List.drop_replicate,List.length_take]
  congr 1
  omega
 rw[←e,List.take_append_drop]
theorem zlG {img:List Int} (i:Nat):(pageB img i).length=256:=zgm _
theorem znV:Go.Proofs.YtabdpmnhjlmnlaaGreatDoor.z148=meL (fun _=>0) (fun _=>none):=by kernel_rfl
def xn (ss:Sl) (d:Nat→Sl) (mb:Nat) (now:Int):Rv:=⟨ss,nilL,d,some (mb,0),now,fun _=>0⟩
set_option maxRecDepth 20000 in
theorem zns {img:Sl} {xs:List Int} (hi:Go.Proofs.YtabdpmnhjlmnlaaGreatDoor.ImgAt S ρ img xs) (hl:xs.length≤1000000) {i b q:Nat} (hi32:i<32) (hb:Bl S ρ q b (bw 5 (bL noughts))) (hg:∀ b r,ρ b=some r→S b≠none) {K:Mem→Prop}
  (hK:∀ S',Mv S ρ S' ρ (· = q)→Bl S' ρ q b (bw 5 (bL (pageB xs i)))→K S') :
  lp (fun Xx_1 (k:Int) (Sx_19:Mem)=>if k<256 then if IntKind.i64.wrap ((IntKind.i64.wrap (256*(i:Int)))+k)<(img.n:Int) then
    sl img fun b_6 o_3 n_1 n_2=>0≤IntKind.i64.wrap ((IntKind.i64.wrap (256*(i:Int)))+k)∧IntKind.i64.wrap ((IntKind.i64.wrap (256*(i:Int)))+k)<((n_1:Nat):Int) ∧
    gI (Sx_19.cell b_6 (o_3+(IntKind.i64.wrap ((IntKind.i64.wrap (256*(i:Int)))+k)).toNat*1)) .u8 fun t_4=>0≤k∧k<256∧pt Sx_19 b (0+k.toNat*1) 1 ([.int .u8 t_4]) fun Sx_21=>Xx_1 (IntKind.i64.wrap (k+1)) Sx_21
   else K Sx_19 else K Sx_19) 0 S:=by
 have hlen:=hi.len
 have hpl:=zlG (img:=xs) i
 refine zM (fun (z:Int) S'=>∃ k:Nat,z=(k:Int)∧k≤256∧Mv S ρ S' ρ (· = q)∧Bl S' ρ q b (bw 5 (bL ((pageB xs i).take k++noughts.drop k)))) (fun z=>256-z.toNat) ?_ ⟨0,rfl,by decide,Mv.refl hg,by rw[List.take_zero,List.drop_zero,List.nil_append];exact hb⟩
 rintro X z S1 ⟨k,rfl,hk,m1,hb1⟩ ih
 have ew:IntKind.i64.wrap (IntKind.i64.wrap (256*(i:Int))+k)=((256*i+k:Nat):Int):=by
  rw[w64 (x:=256*(i:Int)) (by omega) (by omega),w64 (by omega) (by omega)];omega
 have fin:(xs.drop (256*i)).length≤k→K S1:=fun hle=>by
  have e:=znv hle hk
  have e2:(pageB xs i).take k++noughts.drop k=pageB xs i:=e
  rw[e2] at hb1
  exact hK S1 m1 hb1
 by_cases hlt:(k:Int)<256
 ·rw[if_pos hlt,ew]
  by_cases hin:((256*i+k:Nat):Int)<(img.n:Int)
  ·rw[if_pos hin]
   have hkl:256*i+k<xs.length:=by omega
   rcases hi.lie with h0 | ⟨c,o,hp,hpart,hρ,hc⟩
   ·rw[h0] at hkl;simp at hkl
   have hcs:S1 c=S c:=m1.kp c hc fun r' e=>by rw[hρ] at e;cases e
   have hx:S1.cell c (o+(256*i+k))=some (.int .u8 xs[256*i+k]):=by
    obtain⟨kb,k1,k2⟩:=zfc hpart
    have:=ka k2 (256*i+k) (by omega)
    rw[qo (hcs.trans k1),zK,←this]
    unfold bL
    rw[List.getElem?_map,List.getElem?_eq_getElem hkl];rfl
   obtain⟨ip,inn,ic⟩:=img
   simp only at hp hlen hin
   subst hp
   rw[jH]
   refine⟨by omega,hin,?_⟩
   rw[Int.toNat_natCast,Nat.mul_one,zB hx]
   refine⟨by omega,hlt,?_⟩
   have hk256:k<256:=by omega
   have hget:(pageB xs i)[k]'(by rw[hpl];exact hk256)=xs[256*i+k]:=by
    have e:=zoV (l:=xs.drop (256*i)) hk256
    rw[List.getD_eq_getElem?_getD,List.getElem?_drop,List.getElem?_eq_getElem hkl] at e
    exact (List.getElem?_eq_some_iff.1 e).2
   have hst:=zjd (d:=pageB xs i) (l:=noughts) (by rw[hpl,qz]) (i:=k) (by rw[hpl];exact hk256)
   rw[hget] at hst
   refine Bl.pt hb1 m1.rg (i:=k) (by unfold bL;rw[List.length_map,List.length_append,List.length_take,List.length_drop,hpl,qz];omega) (by omega) fun S2 m2 hb2=>?_
   rw[hst] at hb2
   rw[w64 (by omega) (by omega)]
   exact ih _ _ ⟨k+1,by omega,by omega,m1.trans m2,hb2⟩ (by omega)
  ·rw[if_neg hin]
   exact fin (by rw[List.length_drop];omega)
 ·rw[if_neg hlt]
  have:k=256:=by omega
  subst this
  rw[List.take_of_length_le (by rw[hpl];exact Nat.le_refl _),List.drop_of_length_le (by rw[qz];exact Nat.le_refl _),List.append_nil] at hb1
  exact hK S1 m1 hb1
end
end
section
open Go Go.Pt
open Go.Proofs.YtabdpmnhjlmnlaaGreatDoor (fL)
section
variable {S S':Mem} {ρ ρ':Rho} {R:Nat→Prop} {r:Nat} {D:Ra} {W:Wd} {n:Nat}
structure NewP (S:Mem) (ρ:Rho) (n mb:Nat) (A:Nat→Nat) (xs:List Int) (i:Nat):Prop where
 me:Pc S ρ (230+n) mb (meL A fun p=>if p<i then some (32*n+p,true) else none)
 pg:∀ p,p<i→Bl S ρ (300+(32*n+p)) (A (32*n+p)) (bw 5 (bL (pageB xs p)))
theorem zkw (hwk:WOk W) (hoff:(W.vm n).on=false) {seats quota pages:Int} {img:List Int} (m p:Nat):(W.made n seats quota pages img).where_ m p=if m=n then (if (p:Int)<pages then some (n,p,true) else none) else W.where_ m p:=by
 have hown:∀ m p,(W.made n seats quota pages img).own m p=if m=n then (if (p:Int)<pages then some (pageB img p) else none) else W.own m p:=fun m p=>by
  show upd W.own n _ m p=_
  by_cases e:m=n
  ·subst e;rw[zi,if_pos rfl]
  ·rw[zk e,if_neg e]
 unfold Wd.where_
 rw[hown]
 by_cases e:m=n
 ·subst e
  rw[if_pos rfl,if_pos rfl]
  have hat:leaseAt W.ls m (p:Int)=none:=by
   cases hf:leaseAt W.ls m p with
   | none=>rfl
   | some j=>
    obtain⟨_,h1,h2,h3⟩:=yb hf
    have:=(hwk.lsr j h1).2.2.1
    rw[h2,hoff] at this;cases this
  by_cases hp:(p:Int)<pages
  ·rw[if_pos hp,if_pos hp,if_pos (by rfl)]
  ·rw[if_neg hp,if_neg hp,if_neg (by decide)]
   show (leaseAt W.ls m p).map _=none
   rw[hat];rfl
 ·rw[if_neg e,if_neg e];rfl
theorem RefA.made (h:RefA S ρ r D W) (hwk:WOk W) (hn:n<6) (hoff:(W.vm n).on=false) {sn quota pages:Nat} {xs:List Int} (hp:pages≤32) {ss:Sl} {d:Nat→Sl} {mb:Nat} {A':Nat→Nat} (hA:∀ f,¬(32*n≤f∧f<32*n+32)→A' f=D.A f)
  (m:Mv S ρ S' ρ' R) (hR:∀ q,R q→q=200∨RN n q) (hse:Rw S' ρ' (210+n) 26 ss ((List.replicate sn seat0).flatMap Seat.L)) (hdi:∀ j,j<4→∃ b,d j=pgS b∧Bl S' ρ' (250+(4*n+j)) b (bw 5 (bL noughts)))
  (hpg:NewP S' ρ' n mb A' xs pages) (hd:Pc S' ρ' 200 r (({ D with x:=upd D.x n (xn ss d mb D.now),es:=upd D.es n nilL,A:=A' }:Ra).c (W.made n sn quota pages xs)).L) :
  RefA S' ρ' r { D with x:=upd D.x n (xn ss d mb D.now),es:=upd D.es n nilL,A:=A' } (W.made n sn quota pages xs):=by
 have hR':∀ q,q≠200→¬RN n q→¬R q:=fun q h0 h1 h2=>(hR q h2).elim h0 h1
 have hown:∀ m p,(W.made n sn quota pages xs).own m p=if m=n then (if (p:Int)<(pages:Int) then some (pageB xs p) else none) else W.own m p:=fun m p=>by
  show upd W.own n _ m p=_
  by_cases e:m=n
  ·subst e;rw[zi,if_pos rfl]
  ·rw[zk e,if_neg e]
 have hvm:∀ i,(W.made n sn quota pages xs).vm i=if i=n then mkV sn quota else W.vm i:=fun i=>rfl
 have hx:∀ i,({ D with x:=upd D.x n (xn ss d mb D.now),es:=upd D.es n nilL,A:=A' }:Ra).x i=if i=n then xn ss d mb D.now else D.x i:=fun i=>rfl
 refine⟨m.rg,hd,fun i hi=>?_,fun i hi ho=>?_,fun i p l hl=>?_,fun i hi=>?_,h.now,fun i ho=>?_,fun i k w hw=>?_⟩
 ·rw[hvm,hx]
  by_cases e:i=n
  ·subst e
   rw[if_pos rfl,if_pos rfl]
   exact⟨by rw[show (mkV sn quota).seats=List.replicate sn seat0 from by show List.replicate ((sn:Int)).toNat seat0=_;rw[Int.toNat_natCast]];exact hse,Kr.nil,fun _ j hj=>hdi j hj,fun ho=>by cases ho⟩
  ·rw[if_neg e,if_neg e]
   have h0:=h.vs i hi
   exact⟨h0.se.keep m (hR' _ (by omega) (by unfold RN;omega)),h0.ke.keep m (hR' _ (by omega) (by unfold RN;omega)),fun ho j hj=>by
    obtain⟨b,h1,h2⟩:=h0.di ho j hj
    exact⟨b,h1,h2.keep m (hR' _ (by omega) (by unfold RN;omega))⟩,h0.off⟩
 ·rw[hx]
  have hmap:∀ p,p<32→((W.made n sn quota pages xs).gm i).map p=if i=n then (if p<pages then some (32*n+p,true) else none) else (W.gm i).map p:=fun p hp=>by
   rw[zbr hp,zbr hp,zkw hwk hoff]
   by_cases e:i=n
   ·rw[if_pos e,if_pos e]
    by_cases hpp:p<pages
    ·rw[if_pos (by omega),if_pos hpp];rfl
    ·rw[if_neg (by omega),if_neg hpp];rfl
   ·rw[if_neg e,if_neg e]
  by_cases e:i=n
  ·subst e
   rw[if_pos rfl]
   refine⟨mb,rfl,?_⟩
   have e2:meL A' ((W.made i sn quota pages xs).gm i).map=meL A' fun p=>if p<pages then some (32*i+p,true) else none:=by
    unfold meL
    rw[yn (n:=32) (f:=fun p=>[eL (mePg A' (((W.made i sn quota pages xs).gm i).map p))]) fun p hp=>by rw[hmap p hp,if_pos rfl],yn (n:=32) (f:=fun p=>[Value.bool (meW (((W.made i sn quota pages xs).gm i).map p))]) fun p hp=>by rw[hmap p hp,if_pos rfl]]
   show Pc S' ρ' (230+i) mb (meL A' ((W.made i sn quota pages xs).gm i).map)
   rw[e2];exact hpg.me
  ·rw[if_neg e]
   have ho':(W.vm i).on=true:=by rw[hvm,if_neg e] at ho;exact ho
   obtain⟨mb',h1,h2⟩:=h.me i hi ho'
   refine⟨mb',h1,?_⟩
   have hgm:∀ p f w,(W.gm i).map p=some (f,w)→¬(32*n≤f∧f<32*n+32):=fun p f w hm=>by
    have hp:p<32:=Nat.lt_of_not_le fun h32=>by rw[(hwk.gm i).pg p h32] at hm;cases hm
    rw[zbr hp] at hm
    cases hw:W.where_ i p with
    | none=>rw[hw] at hm;cases hm
    | some q=>
     obtain⟨l,hl⟩:=hwk.where_own hw
     rw[hw] at hm
     simp only[Option.map_some,Option.some.injEq,Prod.mk.injEq] at hm
     have h6:=hwk.six' hl
     have hon:=(hwk.pg _ _ _ hl).1
     have:q.1≠n:=fun e=>by rw[e,hoff] at hon;cases hon
     omega
   have e2:meL A' ((W.made n sn quota pages xs).gm i).map=meL D.A (W.gm i).map:=by
    unfold meL
    rw[yn (n:=32) (f:=fun p=>[eL (mePg A' (((W.made n sn quota pages xs).gm i).map p))]) (g:=fun p=>[eL (mePg D.A ((W.gm i).map p))]) fun p hp=>by
     rw[hmap p hp,if_neg e]
     cases hm:(W.gm i).map p with
     | none=>rfl
     | some q=>
      show [eL (pgS (A' q.1))]=[eL (pgS (D.A q.1))]
      rw[hA q.1 (hgm p q.1 q.2 hm)],yn (n:=32) (f:=fun p=>[Value.bool (meW (((W.made n sn quota pages xs).gm i).map p))]) fun p hp=>by rw[hmap p hp,if_neg e]]
   show Pc S' ρ' (230+i) mb' (meL A' ((W.made n sn quota pages xs).gm i).map)
   rw[e2];exact h2.keep m (hR' _ (by omega) (by unfold RN;omega))
 ·rw[hown] at hl
  show Bl S' ρ' (300+(32*i+p)) (A' (32*i+p)) _
  by_cases e:i=n
  ·subst e
   rw[if_pos rfl] at hl
   by_cases hpp:(p:Int)<pages
   ·rw[if_pos hpp] at hl
    cases hl
    exact hpg.pg p (by omega)
   ·rw[if_neg hpp] at hl;cases hl
  ·rw[if_neg e] at hl
   have h6:=hwk.six' hl
   rw[hA _ (by omega)]
   exact (h.pg i p l hl).keep m (hR' _ (by omega) (by unfold RN;omega))
 ·show Rw S' ρ' (240+i) 4 (upd D.es n nilL i) ((upd W.ev n [] i).flatMap evL)
  by_cases e:i=n
  ·subst e;rw[zi,zi];exact Rw.nil
  ·rw[zk e,zk e];exact (h.ev i hi).keep m (hR' _ (by omega) (by unfold RN;omega))
 ·rw[hx]
  show _∧_∧upd W.time n 0 i=_
  by_cases e:i=n
  ·subst e
   rw[if_pos rfl,zi]
   have:=h.now
   exact⟨this.1,Int.le_refl _,by show (0:Int)=D.now-D.now;omega⟩
  ·rw[if_neg e,zk e]
   have ho':(W.vm i).on=true:=by rw[hvm,if_neg e] at ho;exact ho
   exact h.time i ho'
 ·have hw':W.alarm i k=some w:=hw
  rw[hx]
  by_cases e:i=n
  ·subst e
   rw[(hwk.off i hoff).2.2 k] at hw';cases hw'
  ·rw[if_neg e];exact h.at_ i k w hw'
end
end
end Go.Cr
namespace Go.Proofs.YtabdpmnhjlmnlaaGreatDoor
section
open Go Go.Pt Go.Cr Go.Hp
section
variable {S S':Mem} {ρ ρ':Rho} {R:Nat→Prop} {r:Nat} {D:Ra} {W:Wd}
theorem zql (k:Nat):(List.replicate (k+1) seat0).flatMap Seat.L=(List.replicate k seat0).flatMap Seat.L++seat0.L:=by
 rw[List.replicate_succ',List.flatMap_append];simp
set_option maxHeartbeats 1000000 in
set_option maxRecDepth 20000 in
theorem zhI (h:RefA S ρ r D W) (hwk:WOk W) (hf : -90000≤W.free∧W.free≤90000) {seats quota pages:Int} {img:Sl} {xs:List Int} (himg:ImgAt S ρ img xs) (hil:xs.length≤1000000) {Q:Int→Int→Mem→Prop}
  (hQ:∀ S',RAft r S ρ (W.create seats quota pages xs).2.2 S'→Q (W.create seats quota pages xs).1 (W.create seats quota pages xs).2.1 S'):qS S (some (r,0)) seats quota pages img Q:=by
 have hlen:=himg.len
 apply gk
 unfold yv
 unfold Wd.create at hQ
 by_cases hbad:seats<1∨3<seats∨quota<1∨32<quota∨pages<1∨quota<pages
 ·rw[if_pos hbad] at hQ
  have hq:=hQ S (RAft.here h)
  refine zI (fun _=>True) trivial fun J _=>?_
  by_cases b1:seats<1
  ·rw[if_pos b1];exact hq
  rw[if_neg b1]
  by_cases b2:3<seats
  ·rw[if_pos b2];exact hq
  rw[if_neg b2]
  by_cases b3:quota<1
  ·rw[if_pos b3];exact hq
  rw[if_neg b3]
  by_cases b4:32<quota
  ·rw[if_pos b4];exact hq
  rw[if_neg b4]
  by_cases b5:pages<1
  ·rw[if_pos b5];exact hq
  rw[if_neg b5,if_pos (by omega)]
  exact hq
 rw[if_neg hbad] at hQ
 refine zI (fun J=>J S) ?_ fun J hJ=>by
  rw[if_neg (by omega),if_neg (by omega),if_neg (by omega),if_neg (by omega),if_neg (by omega),if_neg (by omega)];exact hJ
 obtain⟨sn,rfl⟩:∃ m:Nat,seats=m:=⟨seats.toNat,by omega⟩
 obtain⟨qn,rfl⟩:∃ m:Nat,quota=m:=⟨quota.toNat,by omega⟩
 obtain⟨pn,rfl⟩:∃ m:Nat,pages=m:=⟨pages.toNat,by omega⟩
 have e256:IntKind.i64.wrap (256*(pn:Int))=256*pn:=w64 (by omega) (by omega)
 by_cases hlong:256*(pn:Int)<xs.length
 ·rw[if_pos hlong] at hQ
  refine zI (fun _=>True) trivial fun J _=>?_
  rw[e256,if_pos (by omega)]
  exact hQ S (RAft.here h)
 rw[if_neg hlong] at hQ
 refine zI (fun J=>J S) ?_ fun J hJ=>by
  rw[e256,if_neg (by omega)];exact hJ
 refine zI (fun J=>∀ m:Nat,m≤6→(∀ j,j<m→(W.vm j).on=true)→(m<6→(W.vm m).on=false)→J m S) ?_ fun J hJ=>?_
 rotate_left
 ·refine zM (fun (z:Int) S'=>∃ i:Nat,z=(i:Int)∧i≤6∧S'=S∧∀ j,j<i→(W.vm j).on=true) (fun z=>6-z.toNat) ?_ ⟨0,rfl,by decide,rfl,fun j hj=>by omega⟩
  rintro X z S1 ⟨i,rfl,hi,hS,hall⟩ ih
  subst hS
  by_cases hlt:(i:Int)<6
  ·rw[if_pos hlt,zV]
   refine⟨by omega,hlt,?_⟩
   rw[fM (h.von (n:=i) (by omega) (by omega))]
   cases hon:(W.vm i).on with
   | true=>
    rw[if_pos rfl,w64 (by omega) (by omega)]
    refine ih _ _ ⟨i+1,by omega,by omega,rfl,fun j hj=>?_⟩ (by omega)
    by_cases e:j=i
    ·subst e;exact hon
    ·exact hall j (by omega)
   | false=>
    rw[if_neg (by decide)]
    exact hJ i hi hall fun _=>hon
  ·rw[if_neg hlt]
   exact hJ i hi hall fun h6=>by omega
 intro n hn6 hall hoff
 by_cases h6:n=6
 ·subst h6
  have hnone:firstOff (fun n=>(W.vm n).on) 6=none:=by
   cases hf:firstOff (fun n=>(W.vm n).on) 6 with
   | none=>rfl
   | some f=>
    obtain⟨h1,h2,_⟩:=zZ hf
    rw[hall f h1] at h2;cases h2
  rw[hnone] at hQ
  refine zI (fun _=>True) trivial fun J _=>?_
  rw[if_pos (by rfl)]
  exact hQ S (RAft.here h)
 have hn:n<6:=by omega
 have hoff:=hoff hn
 have hsome:firstOff (fun n=>(W.vm n).on) 6=some n:=jl hn hoff hall
 rw[hsome] at hQ
 dsimp only at hQ
 refine zI (fun J=>J S) ?_ fun J hJ=>by rw[if_neg (by omega)];exact hJ
 have e5:IntKind.i64.wrap (5+(pn:Int))=5+pn:=w64 (by omega) (by omega)
 by_cases hfree:W.free<5+(pn:Int)
 ·rw[if_pos hfree] at hQ
  refine zI (fun _=>True) trivial fun J _=>?_
  rw[zV,zB h.c1,e5,if_pos hfree]
  exact hQ S (RAft.here h)
 rw[if_neg hfree] at hQ
 refine zI (fun J=>J S) ?_ fun J hJ=>by
  rw[zV,zB h.c1,e5,if_neg hfree];exact hJ
 have hmade:({ W with free:=W.free-(5+(pn:Int)),vm:=upd W.vm n (mkV sn qn),time:=upd W.time n 0,ev:=upd W.ev n [],own:=upd W.own n fun p=>if (p:Int)<(pn:Int) then some (pageB xs p) else none }:Wd)=W.made n sn qn pn xs:=rfl
 rw[hmade] at hQ
 rw[zV,zB h.c1,e5,w64 (x:=W.free-(5+(pn:Int))) (by omega) (by omega)]
 refine h.put (i:=1) (vs:=[.int .i64 (W.free-(5+(pn:Int)))]) rfl (by simp) rfl fun S1 m1 hd1=>?_
 have hnow:S1.cell r 0=some (.int .u64 D.now):=by
  rw[hd1.cell 0 (by rw[zS (by rw[Rc0.len];simp),Rc0.len];decide) rfl,Rc0.setf];rfl
 rw[zB hnow]
 intro mb hmb
 have m2:Mv S1 ρ (S1.set mb (bw 148 z148)) (ρ.upd mb (230+n)) (RN n):=(Mv.refl m1.rg).new hmb _ _
 have hP0:NewP (S1.set mb (bw 148 z148)) (ρ.upd mb (230+n)) n mb D.A xs 0:=⟨⟨⟨_,zy,rfl,by
  show lpart z148 0 _=_
  rw[znV]
  have e:meL D.A (fun p=>if p<0 then some (32*n+p,true) else none)=meL (fun _=>0) fun _=>none:=rfl
  rw[e];exact ze rfl⟩,qO⟩,fun p hp=>by omega⟩
 generalize S1.set mb (bw 148 z148)=S2 at m2 hP0 ⊢
 generalize ρ.upd mb (230+n)=ρ2 at m2 hP0
 have hv0:([.bool true,.slice (none) 0 0,.int .i64 (qn:Int),.int .u64 D.now,.slice (none) 0 0,.slice (none) 0 0,.slice (none) 0 0,.slice (none) 0 0,.slice (none) 0 0,.bool false,.bool false,.bool false,.bool false,.bool false,.bool false,.pointer (some ⟨mb,0,none⟩),.bool false,.bool false,.bool false,.bool false,.bool false,.bool false,.bool false,.bool false,.bool false,.bool false,.bool false,.bool false,.bool false,.bool false,.bool false,.bool false,.bool false,.bool false,.bool false,.bool false,.bool false,.bool false,.bool false,.bool false,.bool false,.bool false,.bool false,.bool false,.bool false,.bool false,.bool false,.bool false,.bool false,.bool false,.bool false,.int .u64 0,.int .u64 0,.int .u64 0]:List Value)=rvL (xn nilL (fun _=>nilL) mb D.now) (mkV sn qn) (fun _=>false) (fun _=>false):=rfl
 rw[hv0]
 refine zI (fun J=>∀ S3 ρ3 ss,Mv S2 ρ2 S3 ρ3 (RN n)→NewP S3 ρ3 n mb D.A xs 0→Rw S3 ρ3 (210+n) 26 ss ((List.replicate sn seat0).flatMap Seat.L)→J (rvL (xn ss (fun _=>nilL) mb D.now) (mkV sn qn) (fun _=>false) (fun _=>false)) S3) ?_ fun J hJ=>?_
 rotate_left
 ·refine zM (fun (z:Int×List Value) S'=>∃ (i:Nat) (ρ3:Rho) (ss:Sl),z=((i:Int),rvL (xn ss (fun _=>nilL) mb D.now) (mkV sn qn) (fun _=>false) (fun _=>false))∧i≤sn∧Mv S2 ρ2 S' ρ3 (RN n)∧NewP S' ρ3 n mb D.A xs 0∧Rw S' ρ3 (210+n) 26 ss ((List.replicate i seat0).flatMap Seat.L)) (fun z=>sn-z.1.toNat) ?_ ⟨0,ρ2,nilL,rfl,Nat.zero_le _,Mv.refl m2.rg,hP0,Rw.nil⟩
  rintro X z S3 ⟨i,ρ3,ss,rfl,hi,m3,hP3,hs3⟩ ih
  dsimp only at ih ⊢
  refine⟨xf,?_⟩
  simp only[jn]
  by_cases hlt:(i:Int)<(sn:Int)
  ·rw[if_pos hlt,wc (show nthL (rvL (xn ss (fun _=>nilL) mb D.now) (mkV sn qn) (fun _=>false) (fun _=>false)) 1=some (eL ss) from rfl)]
   have hssn:=hs3.n (by decide) (fL (zou i))
   rw[List.length_replicate] at hssn
   refine zid (R:=RN n) (Mv.refl m3.rg) (.inl rfl) hs3 rfl (by decide) rfl (by omega) fun s' S4 ρ4 m4 m4' h4 _=>?_
   rw[w64 (by omega) (by omega)]
   have hrep:(List.replicate (i+1) seat0).flatMap Seat.L=(List.replicate i seat0).flatMap Seat.L++seat0.L:=zql i
   refine ih _ _ ⟨i+1,ρ4,s',rfl,by omega,m3.trans m4,⟨hP3.me.keep m4' (by omega),fun p hp=>by omega⟩,by rw[hrep];exact h4⟩ (by dsimp only;omega)
  ·rw[if_neg hlt]
   have:i=sn:=by omega
   subst this
   exact hJ S3 ρ3 ss m3 hP3 hs3
 intro S3 ρ3 ss m3 hP3 hs3
 refine⟨xf,?_⟩
 refine zI (fun J=>∀ S4 ρ4 d,Mv S3 ρ3 S4 ρ4 (RN n)→NewP S4 ρ4 n mb D.A xs 0→Rw S4 ρ4 (210+n) 26 ss ((List.replicate sn seat0).flatMap Seat.L)→(∀ j,j<4→∃ b,d j=pgS b∧Bl S4 ρ4 (250+(4*n+j)) b (bw 5 (bL noughts)))→J (rvL (xn ss d mb D.now) (mkV sn qn) (fun _=>false) (fun _=>false)) S4) ?_ fun J hJ=>?_
 rotate_left
 ·refine zM (fun (z:Int×List Value) S'=>∃ (i:Nat) (ρ4:Rho) (d:Nat→Sl),z=((i:Int),rvL (xn ss d mb D.now) (mkV sn qn) (fun _=>false) (fun _=>false))∧i≤4∧Mv S3 ρ3 S' ρ4 (RN n)∧NewP S' ρ4 n mb D.A xs 0∧Rw S' ρ4 (210+n) 26 ss ((List.replicate sn seat0).flatMap Seat.L)∧∀ j,j<i→∃ b,d j=pgS b∧Bl S' ρ4 (250+(4*n+j)) b (bw 5 (bL noughts))) (fun z=>4-z.1.toNat) ?_ ⟨0,ρ3,fun _=>nilL,rfl,by decide,Mv.refl m3.rg,hP3,hs3,fun j hj=>by omega⟩
  rintro X z S4 ⟨i,ρ4,d,rfl,hi,m4,hP4,hs4,hd4⟩ ih
  dsimp only at ih ⊢
  refine⟨xf,?_⟩
  by_cases hlt:(i:Int)<4
  ·rw[if_pos hlt]
   intro b hb
   rw[zkU]
   have m5:Mv S4 ρ4 (S4.set b (bw 5 (bL noughts))) (ρ4.upd b (250+(4*n+i))) (fun _=>False):=(Mv.refl m4.rg).new hb _ _
   refine⟨by omega,hlt,?_⟩
   rw[w64 (by omega) (by omega),show 5+(i:Int).toNat*1=5+i by omega]
   have e:spl (rvL (xn ss d mb D.now) (mkV sn qn) (fun _=>false) (fun _=>false)) (5+i) [.slice (some ⟨b,0,none⟩) 256 256]=rvL (xn ss (upd d i (pgS b)) mb D.now) (mkV sn qn) (fun _=>false) (fun _=>false):=zqq (s:=pgS b) (by omega)
   rw[e]
   refine ih _ _ ⟨i+1,_,upd d i (pgS b),rfl,by omega,m4.trans (m5.mono fun _ h=>h.elim),⟨hP4.me.keep m5 (fun h=>h),fun p hp=>by omega⟩,hs4.keep m5 (fun h=>h),fun j hj=>?_⟩ (by dsimp only;omega)
   by_cases e:j=i
   ·subst e
    exact⟨b,zi,zy,qO⟩
   ·obtain⟨b',h1,h2⟩:=hd4 j (by omega)
    exact⟨b',by rw[zk e];exact h1,h2.keep m5 (fun h=>h)⟩
  ·rw[if_neg hlt]
   have:i=4:=by omega
   subst this
   exact hJ S4 ρ4 d m4 hP4 hs4 hd4
 intro S4 ρ4 d m4 hP4 hs4 hd4
 refine⟨xf,?_⟩
 refine zI (fun J=>∀ S5 ρ5 A',Mv S4 ρ4 S5 ρ5 (RN n)→(∀ f,¬(32*n≤f∧f<32*n+32)→A' f=D.A f)→NewP S5 ρ5 n mb A' xs pn→Rw S5 ρ5 (210+n) 26 ss ((List.replicate sn seat0).flatMap Seat.L)→(∀ j,j<4→∃ b,d j=pgS b∧Bl S5 ρ5 (250+(4*n+j)) b (bw 5 (bL noughts)))→J (rvL (xn ss d mb D.now) (mkV sn qn) (fun p=>decide (p<pn)) (fun _=>false)) S5) ?_ fun J hJ=>?_
 rotate_left
 ·have m14:Mv S ρ S4 ρ4 (fun q=>q=200∨RN n q):=(m1.mono fun q hq=>.inl hq).trans ((m2.mono fun q hq=>.inr hq).trans ((m3.mono fun q hq=>.inr hq).trans (m4.mono fun q hq=>.inr hq)))
  have himg4:=himg.mv m14
  refine zM (fun (z:Int×List Value) S'=>∃ (i:Nat) (ρ5:Rho) (A':Nat→Nat),z=((i:Int),rvL (xn ss d mb D.now) (mkV sn qn) (fun p=>decide (p<i)) (fun _=>false))∧i≤pn∧Mv S4 ρ4 S' ρ5 (RN n)∧(∀ f,¬(32*n≤f∧f<32*n+32)→A' f=D.A f)∧NewP S' ρ5 n mb A' xs i∧Rw S' ρ5 (210+n) 26 ss ((List.replicate sn seat0).flatMap Seat.L)∧(∀ j,j<4→∃ b,d j=pgS b∧Bl S' ρ5 (250+(4*n+j)) b (bw 5 (bL noughts)))) (fun z=>pn-z.1.toNat) ?_ ⟨0,ρ4,D.A,rfl,Nat.zero_le _,Mv.refl m4.rg,fun _ _=>rfl,hP4,hs4,hd4⟩
  rintro X z S5 ⟨i,ρ5,A',rfl,hi,m5,hA5,hP5,hs5,hd5⟩ ih
  dsimp only at ih ⊢
  refine⟨xf,?_⟩
  simp only[jn]
  by_cases hlt:(i:Int)<(pn:Int)
  ·rw[if_pos hlt]
   intro b hb
   rw[zkU]
   have hi32:i<32:=by omega
   have m6:Mv S5 ρ5 (S5.set b (bw 5 (bL noughts))) (ρ5.upd b (300+(32*n+i))) (fun _=>False):=(Mv.refl m5.rg).new hb _ _
   have himg6:=(himg4.mv m5).mv m6
   refine zns himg6 hil (q:=300+(32*n+i)) hi32 ⟨zy,qO⟩ m6.rg fun S7 m7 hb7=>?_
   have g15:nthL (rvL (xn ss d mb D.now) (mkV sn qn) (fun p=>decide (p<i)) (fun _=>false)) 15=some (eP (some (mb,0))):=rvL_m
   rw[qQ g15,zV]
   refine⟨by omega,by omega,?_⟩
   have hme7:=(hP5.me.keep m6 (fun h=>h)).keep m7 (by omega)
   refine hme7.pt m7.rg (vs:=[eL (pgS b)]) i rfl (by rw[yC];simp;omega) (by omega) fun S8 m8 h8=>?_
   rw[qQ g15,zV]
   refine⟨by omega,by omega,?_⟩
   refine h8.pt m8.rg (vs:=[.bool true]) (32+i) rfl (by rw[zS (by rw[yC];simp;omega),yC];simp;omega) (by omega) fun S9 m9 h9=>?_
   refine⟨by omega,by omega,?_⟩
   rw[show 16+(i:Int).toNat*1=16+i by omega,zeo hi32]
   refine⟨xf,?_⟩
   rw[w64 (by omega) (by omega)]
   have hown:upd (fun p=>decide (p<i)) i true=fun p=>decide (p<i+1):=by
    funext p
    by_cases e:p=i
    ·subst e;rw[zi];simp
    ·rw[zk e]
     by_cases h1:p<i
     ·rw[decide_eq_true h1,decide_eq_true (by omega)]
     ·rw[decide_eq_false h1,decide_eq_false (by omega)]
   rw[hown]
   have hml:=ziJ (A:=A') (A':=upd A' (32*n+i) b) (m:=fun p=>if p<i then some (32*n+p,true) else none) (m':=fun p=>if p<i+1 then some (32*n+p,true) else none) hi32 fun q hq e=>by
    by_cases h1:q<i
    ·rw[if_pos h1,if_pos (by omega)]
     refine⟨?_,rfl⟩
     show pgS (upd A' (32*n+i) b (32*n+q))=pgS (A' (32*n+q))
     rw[zk (by omega)]
    ·rw[if_neg h1,if_neg (by omega)]
     exact⟨rfl,rfl⟩
   have epg:mePg (upd A' (32*n+i) b) (if i<i+1 then some (32*n+i,true) else none)=pgS b:=by
    rw[if_pos (by omega)]
    show pgS (upd A' (32*n+i) b (32*n+i))=_
    rw[zi]
   have epw:meW (if i<i+1 then some (32*n+i,true) else none)=true:=by rw[if_pos (by omega)];rfl
   rw[epg,epw] at hml
   rw[hml] at h9
   have m79:Mv (S5.set b (bw 5 (bL noughts))) (ρ5.upd b (300+(32*n+i))) S9 (ρ5.upd b (300+(32*n+i))) (fun q=>q=300+(32*n+i)∨q=230+n):=(m7.mono fun q hq=>.inl hq).trans ((m8.mono fun q hq=>.inr hq).trans (m9.mono fun q hq=>.inr hq))
   have m69:Mv S5 ρ5 S9 (ρ5.upd b (300+(32*n+i))) (RN n):=(m6.mono fun _ h=>h.elim).trans (m79.mono fun q hq=>by unfold RN;omega)
   refine ih _ _ ⟨i+1,_,upd A' (32*n+i) b,rfl,by omega,m5.trans m69,fun f hf=>by rw[zk (by omega)];exact hA5 f hf,⟨h9,fun p hp=>?_⟩,(hs5.keep m6 (fun h=>h)).keep m79 (by omega),fun j hj=>?_⟩ (by dsimp only;omega)
   ·by_cases e:p=i
    ·subst e
     rw[zi]
     exact (hb7.keep m8 (by omega)).keep m9 (by omega)
    ·rw[zk (by omega)]
     exact ((hP5.pg p (by omega)).keep m6 (fun h=>h)).keep m79 (by omega)
   ·obtain⟨b',h1,h2⟩:=hd5 j hj
    exact⟨b',h1,(h2.keep m6 (fun h=>h)).keep m79 (by omega)⟩
  ·rw[if_neg hlt]
   have:i=pn:=by omega
   subst this
   exact hJ S5 ρ5 A' m5 hA5 hP5 hs5 hd5
 intro S5 ρ5 A' m5 hA5 hP5 hs5 hd5
 refine⟨xf,by omega,by omega,zlt,?_⟩
 have m25:Mv S1 ρ S5 ρ5 (RN n):=m2.trans (m3.trans (m4.trans m5))
 have hd5':=hd1.keep m25 (by unfold RN;omega)
 refine hd5'.pt m5.rg (vs:=rvL (xn ss d mb D.now) (mkV sn qn) (fun p=>decide (p<pn)) (fun _=>false)) (2+(n*54+0)) (by rw[xf]) (by rw[xf,zS (by rw[Rc0.len];simp),Rc0.len];omega) (by rw[Int.toNat_natCast];omega) fun S6 m6 hd6=>?_
 refine⟨by omega,by omega,?_⟩
 have hlen6:(spl (spl (D.c W).L 1 [Value.int .i64 (W.free-(5+(pn:Int)))]) (2+(n*54+0)) (rvL (xn ss d mb D.now) (mkV sn qn) (fun p=>decide (p<pn)) (fun _=>false))).length=428:=by
  rw[zS (by rw[xf,zS (by rw[Rc0.len];simp),Rc0.len];omega),zS (by rw[Rc0.len];simp),Rc0.len]
 refine hd6.pt m6.rg (vs:=[eL nilL]) (422+n) rfl (by rw[hlen6];simp;omega) (by rw[Int.toNat_natCast];omega) fun S7 m7 hd7=>?_
 have hfull:spl (rvL (D.x n) (W.vm n) (fun p=>(W.own n p).isSome) fun k=>(W.alarm n k).isSome) 0 (rvL (xn ss d mb D.now) (mkV sn qn) (fun p=>decide (p<pn)) (fun _=>false))=rvL (xn ss d mb D.now) (mkV sn qn) (fun p=>decide (p<pn)) (fun _=>false):=zeR (by rw[xf,xf])
 have hset:=Rc0.set (c:={ D.c W with free:=W.free-(5+(pn:Int)) }) (n:=n) (j:=0) (vs:=rvL (xn ss d mb D.now) (mkV sn qn) (fun p=>decide (p<pn)) (fun _=>false)) (x':=xn ss d mb D.now) (v':=mkV sn qn) (ow':=fun p=>decide (p<pn)) (al':=fun _=>false) hn (by rw[xf];omega) rfl hfull
 rw[Rc0.setf,hset,Rc0.sete hn rfl] at hd7
 have hfin:Pc S7 ρ5 200 r (({ D with x:=upd D.x n (xn ss d mb D.now),es:=upd D.es n nilL,A:=A' }:Ra).c (W.made n sn qn pn xs)).L:=by
  have e1:(fun i p=>((W.made n sn qn pn xs).own i p).isSome)=upd (fun i p=>(W.own i p).isSome) n (fun p=>decide (p<pn)):=by
   funext i p
   show (upd W.own n (fun p=>if (p:Int)<(pn:Int) then some (pageB xs p) else none) i p).isSome=_
   by_cases e:i=n
   ·subst e
    rw[zi,zi]
    by_cases hp:p<pn
    ·rw[if_pos (by omega),decide_eq_true hp];rfl
    ·rw[if_neg (by omega),decide_eq_false hp];rfl
   ·rw[zk e,zk e]
  have e2:(fun i k=>((W.made n sn qn pn xs).alarm i k).isSome)=upd (fun i k=>(W.alarm i k).isSome) n (fun _=>false):=by
   funext i k
   show (W.alarm i k).isSome=_
   by_cases e:i=n
   ·subst e;rw[zi,(hwk.off i hoff).2.2 k];rfl
   ·rw[zk e]
  unfold Ra.c
  rw[e1,e2]
  exact hd7
 have mm:Mv S ρ S7 ρ5 (fun q=>q=200∨RN n q):=(m1.mono fun q hq=>.inl hq).trans ((m25.mono fun q hq=>.inr hq).trans ((m6.mono fun q hq=>.inl hq).trans (m7.mono fun q hq=>.inl hq)))
 have m67:=m6.trans m7
 have hR:=h.made (sn:=sn) (quota:=qn) (pages:=pn) (xs:=xs) (d:=d) (mb:=mb) hwk hn hoff (by omega) hA5 mm (fun q hq=>hq) (hs5.keep m67 (by omega)) (fun j hj=>by
  obtain⟨b',h1,h2⟩:=hd5 j hj
  exact⟨b',h1,h2.keep m67 (by omega)⟩) ⟨hP5.me.keep m67 (by omega),fun p hp=>(hP5.pg p hp).keep m67 (by omega)⟩ hfin
 exact hQ S7 (hR.aft mm fun q hq=>by unfold RN at hq;omega)
end
end
end Go.Proofs.YtabdpmnhjlmnlaaGreatDoor
section
namespace Go.Cr
open Go Go.Pt
theorem zlF {S:Mem} {b o m:Nat} {v:Value} {vs:List Value} (h:S.part b o (m+1)=some (v :: vs)):S.part b (o+1) m=some vs∧S.cell b o=some v∧S.part b o 0=some []:=by
 obtain⟨k,e1,e2⟩:=zfc h
 obtain⟨h1,h2,_⟩:=qL e2
 have e3:k.cs.drop o=k.cs[o] :: k.cs.drop (o+1):=List.drop_eq_getElem_cons (by omega)
 rw[e3,List.take_succ_cons] at h2
 refine⟨?_,?_,?_⟩
 ·rw[yh e1,qA (by omega)]
  rw[(List.cons.inj h2).2]
 ·rw[qo e1,zK,List.getElem?_eq_getElem (by omega),(List.cons.inj h2).1]
 ·rw[yh e1,qA (by omega)];rfl
end Go.Cr
namespace Go.Proofs.YtabdpmnhjlmnlaaGreatDoor
open Go Go.Pt Go.Cr Go.Hp
section
variable {S S':Mem} {ρ ρ':Rho} {R:Nat→Prop} {r:Nat} {D:Ra} {W:Wd} {n:Nat}
set_option maxHeartbeats 4000000 in
set_option maxRecDepth 20000 in
theorem zkn (h:RefA S ρ r D W) (hwk:WOk W) (hs:Sole W n) {k:Nat} (hk:k<(W.vm n).seats.length) (hl:(W.ev n).length≤900000000) (hf : -100000≤W.free∧W.free≤100000) {c w1 w2 w3:Int} (h1:W64 w1) (h2:W64 w2) {Q:Int→Int→Mem→Prop}
  (hQ:∀ S',RAft r S ρ (W.call n k c w1 w2 w3).2.2 S'→Q (W.call n k c w1 w2 w3).1 (W.call n k c w1 w2 w3).2.1 S'):we S (some (r,0)) n k c w1 w2 w3 Q:=by
 have hn:=hwk.on6 hs.on
 have h3:=hwk.seats n hs.on
 obtain⟨mb,e1,hme⟩:=h.me n hn hs.on
 have hv:=h.vs n hn
 have g15:∀ {y:Option Value},y=some (eP (D.x n).mb)→y=some (eP (some (mb,0))):=fun e=>by rw[e,e1]
 have hm15:nthL (rvL (D.x n) (W.vm n) (fun p=>(W.own n p).isSome) fun k=>(W.alarm n k).isSome) 15=some (eP (some (mb,0))):=g15 rvL_m
 apply fT
 unfold xk
 refine zeX h1 ?_
 refine zeX h2 ?_
 rw[zV]
 refine⟨by omega,by omega,?_⟩
 rw[Int.toNat_natCast,gD (h.vpart hn (by omega))]
 refine⟨zlt,?_⟩
 unfold Wd.call at hQ
 by_cases c0:c=0
 ·subst c0
  simp only[jn,Int.reduceEq,↓reduceIte]
  rw[if_pos rfl] at hQ
  rw[Int.tmod_eq_emod_of_nonneg h1.1]
  exact gw h hwk hn (by omega) fun S1 hA=>hQ S1 hA
 rw[if_neg c0] at hQ
 by_cases c1:c=1
 ·subst c1
  simp only[jn,Int.reduceEq,↓reduceIte]
  rw[if_pos rfl] at hQ
  have hks:nthL (rvL (D.x n) (W.vm n) (fun p=>(W.own n p).isSome) fun k=>(W.alarm n k).isSome) 4=some (eL (D.x n).ks):=rfl
  have hke:=hv.ke
  have hkl:=hke.len
  have hcap:=hke.cap
  have h64:=hwk.keys n
  unfold Wd.nextKey at hQ
  rw[wc hks]
  cases hkk:(W.vm n).keys with
  | nil=>
   rw[hkk] at hQ hkl
   rw[if_pos (by rw[←hkl];rfl)]
   exact hQ S (RAft.here h)
  | cons x l=>
   rw[hkk] at hQ hkl h64
   simp only[List.length_cons] at hkl h64
   have hbx:=h64.2 x (by simp)
   rw[if_neg (by omega),wc hks]
   refine⟨by decide,by omega,by omega,?_⟩
   rcases hke.lie with ⟨_,h0⟩ | ⟨b,o,hp,hpart,hρ,hb⟩
   ·rw[hkk] at h0;cases h0
   rw[hkk] at hpart
   obtain⟨t1,t2,t3⟩:=zlF (m:=l.length) (v:=.int .u8 x) (vs:=bL l) hpart
   have hkr:Kr S ρ (220+n) (slc 1 (D.x n).ks 1 ((D.x n).ks.n:Int)) l:=by
    refine⟨?_,?_,.inr ?_⟩
    ·show l.length=(((D.x n).ks.n:Int)-1).toNat
     omega
    ·show (((D.x n).ks.n:Int)-1).toNat≤(D.x n).ks.c-(1:Int).toNat
     rw[show (1:Int).toNat=1 from rfl]
     omega
    ·by_cases hc:(D.x n).ks.c=1
     ·have hl0:l=[]:=List.length_eq_zero_iff.1 (by omega)
      subst hl0
      refine⟨b,o,?_,t3,hρ,hb⟩
      show (if (D.x n).ks.c=(1:Int).toNat then (D.x n).ks.p else _)=_
      rw[if_pos (by rw[hc];rfl),hp]
     ·refine⟨b,o+1,?_,t1,hρ,hb⟩
      show (if (D.x n).ks.c=(1:Int).toNat then (D.x n).ks.p else (D.x n).ks.p.map fun q=>(q.1,q.2+(1:Int).toNat*1))=_
      rw[if_neg (by rw[show (1:Int).toNat=1 from rfl];exact hc),hp];rfl
   show _∧_∧_
   refine⟨by omega,by omega,?_⟩
   refine h.putV (n:=n) (j:=4) (vs:=[eL (slc 1 (D.x n).ks 1 ((D.x n).ks.n:Int))]) (x':={ D.x n with ks:=slc 1 (D.x n).ks 1 ((D.x n).ks.n:Int) }) (v':=(W.vm n).setKeys l) hn rfl (by simp) (by omega) rfl fun S1 m1 hd1=>?_
   have hA:=h.setV hwk hn m1 (fun q hq=>.inl hq) hd1 ⟨hv.se.keep m1 (by omega),hkr.keep m1 (by omega),fun _ j hj=>by
    obtain⟨b,h1,h2⟩:=hv.di hs.on j hj
    exact⟨b,h1,h2.keep m1 (by omega)⟩,fun ho=>by
    have ho':(W.vm n).on=false:=ho
    rw[hs.on] at ho';cases ho'⟩ rfl rfl rfl rfl
   rw[wc hks]
   have hsl:(D.x n).ks=⟨some (b,o),(D.x n).ks.n,(D.x n).ks.c⟩:=by rw[←hp]
   rw[show sl (D.x n).ks=sl ⟨some (b,o),(D.x n).ks.n,(D.x n).ks.c⟩ by rw[←hsl],jH]
   refine⟨by omega,?_⟩
   have hcell:S1.cell b o=some (.int .u8 x):=by
    have e:S1 b=S b:=m1.kp b hb fun q e=>by rw[hρ] at e;cases e;omega
    simp only[Mem.cell,e] at t2 ⊢;exact t2
   rw[zB hcell,wu64 (by omega) (by omega)]
   exact hQ S1 (hA.aft m1 fun q hq=>by omega)
 rw[if_neg c1] at hQ
 by_cases c2:c=2
 ·subst c2
  simp only[jn,Int.reduceEq,↓reduceIte]
  have er:W.ring n (small w1) (small w2)=(2,W):=by unfold Wd.ring;rw[if_pos (hs.noB hwk)]
  rw[if_pos rfl,er] at hQ
  refine gZ h ?_
  by_cases ht:W.there (small w1)
  ·rw[decide_eq_true ht,if_pos rfl]
   refine⟨ht.1,ht.2.1,?_⟩
   rw[fM ((show 9+(small w1).toNat*1=9+(small w1).toNat by omega) ▸ zmO (j:=(small w1).toNat) (by have:=ht.2.1;have:=ht.1;omega)),hs.bell hwk,if_neg (by decide)]
   exact hQ S (RAft.here h)
  ·rw[decide_eq_false ht,if_neg (by decide)]
   exact hQ S (RAft.here h)
 rw[if_neg c2] at hQ
 by_cases c3:c=3
 ·subst c3
  simp only[jn,Int.reduceEq,↓reduceIte]
  rw[if_pos rfl] at hQ
  refine⟨by omega,by omega,by omega,by omega,?_⟩
  rw[Int.toNat_natCast]
  refine h.put (i:=2+(n*54+(48+k))) (vs:=[.bool true]) rfl (by simp;omega) (by omega) fun S1 m1 hd1=>?_
  refine⟨by omega,by omega,by omega,by omega,?_⟩
  refine hd1.pt m1.rg (vs:=[.int .u64 w1]) (2+(n*54+(51+k))) rfl (by rw[zS (by rw[Rc0.len];simp;omega),Rc0.len];simp;omega) (by omega) fun S2 m2 hd2=>?_
  rw[zpc hn (by omega)] at hd2
  have m12:=m1.trans m2
  exact hQ S2 ((h.alarm hwk hn m12 hd2 hs.on).aft m12 fun q hq=>by omega)
 rw[if_neg c3] at hQ
 by_cases c4:c=4
 ·subst c4
  simp only[jn,Int.reduceEq,↓reduceIte]
  rw[if_pos rfl] at hQ
  unfold Wd.offer at hQ
  refine zfY h hs hn ?_
  by_cases e:W.mine n (small w1)≠0
  ·rw[if_pos e] at hQ ⊢
   exact hQ S (RAft.here h)
  rw[if_neg e] at hQ ⊢
  refine gZ h ?_
  by_cases ht:W.there (small w2)
  ·rw[if_neg (fun h=>h ht)] at hQ
   have:=hs.there ht
   rw[if_pos this.symm] at hQ
   rw[decide_eq_true ht,if_pos rfl,if_pos this]
   exact hQ S (RAft.here h)
  ·rw[if_pos ht] at hQ
   rw[decide_eq_false ht,if_neg (by decide)]
   exact hQ S (RAft.here h)
 rw[if_neg c4] at hQ
 by_cases c57:5≤c∧c≤7
 ·have el:W.lease n c (small w1) (small w2)=(2,W):=by
   unfold Wd.lease
   rw[if_pos (.inr (.inr (hs.ls _)))]
  rw[if_pos c57,el] at hQ
  have c567:c=5∨c=6∨c=7:=by omega
  rcases c567 with c | c | c <;> subst c <;> simp only[jn,Int.reduceEq,↓reduceIte] <;> exact ziD h hs (hQ S (RAft.here h))
 rw[if_neg c57] at hQ
 by_cases c8:c=8
 ·subst c8
  simp only[jn,Int.reduceEq,↓reduceIte,Bool.false_eq_true]
  rw[if_pos rfl] at hQ
  unfold Wd.give at hQ
  refine zfY h hs hn ?_
  by_cases e:W.mine n (small w1)≠0
  ·rw[if_pos e] at hQ ⊢
   exact hQ S (RAft.here h)
  rw[if_neg e] at hQ ⊢
  have hlent:lentL W.ls n (small w1)=false:=by
   unfold lentL
   rw[List.any_eq_false]
   intro i _
   rw[hs.ls i];simp
  rw[if_neg (by rw[hlent];decide)] at hQ
  have hp:0≤small w1∧small w1<32:=by
   unfold Wd.mine at e
   split at e
   ·exact absurd (by decide) e
   ·rename_i hh;omega
  obtain⟨p,hpe⟩:∃ p:Nat,small w1=p:=⟨(small w1).toNat,by omega⟩
  rw[hpe] at hQ ⊢
  rw[Int.toNat_natCast] at hQ
  refine zM (fun (z:Int) S'=>∃ i:Nat,z=(i:Int)∧i≤16∧S'=S) (fun z=>16-z.toNat) ?_ ⟨0,rfl,by decide,rfl⟩
  rintro X z S1 ⟨i,rfl,hi,hS⟩ ih
  subst hS
  by_cases hlt:(i:Int)<16
  ·rw[if_pos hlt]
   refine⟨by omega,hlt,?_⟩
   rw[fM (h.lcell (i:=i) (j:=0) (by omega) (by decide) (by omega)),hs.ls,if_neg (by decide),w64 (by omega) (by omega)]
   exact ih _ _ ⟨i+1,by omega,by omega,rfl⟩ (by omega)
  ·rw[if_neg hlt]
   refine zkm h hwk hs (by omega) fun S2 mb2 m2 e2 hd2 hme2=>?_
   have hfree:S2.cell r (0+1)=some (.int .i64 W.free):=by
    rw[hd2.cell 1 (by rw[zS (by rw[Rc0.len];simp;omega),Rc0.len];decide) rfl]
    have:=h.c1
    rw[h.hd.cell 1 (by rw[Rc0.len];decide) rfl] at this
    rw[zK] at this ⊢
    rw[xD _ _ _ (by rw[Rc0.len];omega),List.append_assoc,List.getElem?_append_left (by rw[List.length_take,Rc0.len];omega),List.getElem?_take,if_pos (by omega)]
    exact this
   rw[zB hfree,wneg (by omega)]
   refine hd2.pt m2.rg (vs:=[.int .i64 (W.free+1)]) 1 rfl (by rw[zS (by rw[Rc0.len];simp;omega),Rc0.len];simp) rfl fun S3 m3 hd3=>?_
   have mm:Mv S1 ρ S3 ρ (fun q=>q=200∨q=230+n):=m2.trans (m3.mono fun q hq=>.inl hq)
   have e5:=zmv (D:=D) (W:=W) (n:=n) (p:=p) (o:=none) (f:=W.free+1) (A':=D.A) hn (by omega)
   rw[show (none:Option (List Int)).isSome=false from rfl] at e5
   rw[e5] at hd3
   have hfin:=h.own (o:=none) (f:=W.free+1) (A':=D.A) hwk hs (by omega) (fun _ _=>rfl) mm (fun q hq=>by omega) e2 hd3 (hme2.keep m3 (by omega)) (fun l hl=>by cases hl)
   exact hQ S3 (hfin.aft mm fun q hq=>by omega)
 rw[if_neg c8] at hQ
 by_cases c9:c=9
 ·subst c9
  simp only[jn,Int.reduceEq,↓reduceIte,Bool.false_eq_true]
  rw[if_pos rfl] at hQ
  unfold Wd.get at hQ
  by_cases p0:small w1<0
  ·rw[if_pos (.inl p0)] at hQ
   rw[if_pos p0];exact hQ S (RAft.here h)
  rw[if_neg p0]
  by_cases p1:31<small w1
  ·rw[if_pos (.inr p1)] at hQ
   rw[if_pos p1];exact hQ S (RAft.here h)
  rw[if_neg p1]
  rw[if_neg (by omega)] at hQ
  obtain⟨p,hpe⟩:∃ p:Nat,small w1=p:=⟨(small w1).toNat,by omega⟩
  rw[hpe] at hQ ⊢
  have hp:p<32:=by omega
  rw[Int.toNat_natCast] at hQ ⊢
  rw[qQ hm15,zV]
  refine⟨by omega,by omega,?_⟩
  rw[wc ((hme.cell p (by rw[yC];omega) (by omega)).trans (zdK hp)),zjy,hs.map hp]
  rw[hs.where_] at hQ
  cases ho:(W.own n p).isSome with
  | true=>
   rw[ho] at hQ
   rw[if_pos (by simp)] at hQ
   rw[if_pos (by simp)]
   exact hQ S (RAft.here h)
  | false=>
   rw[ho] at hQ
   rw[if_neg (by simp)] at hQ
   rw[if_neg (by simp),zB (show nthL (rvL (D.x n) (W.vm n) (fun p=>(W.own n p).isSome) fun k=>(W.alarm n k).isSome) 2=some (.int .i64 (W.vm n).quota) from rfl)]
   refine zeZ h hn ?_
   by_cases hq:(W.vm n).quota≤W.pages n
   ·rw[if_pos hq] at hQ ⊢
    exact hQ S (RAft.here h)
   rw[if_neg hq] at hQ ⊢
   rw[zB h.c1]
   by_cases hz:W.free=0
   ·rw[if_pos hz] at hQ ⊢
    exact hQ S (RAft.here h)
   rw[if_neg hz] at hQ ⊢
   have hgf:=zlA h hwk hs hf hp e1 (Q:=Q) fun S1 hA=>hQ S1 hA
   rw[zB h.c1] at hgf ⊢
   obtain⟨r1,r2⟩:=hgf
   refine⟨r1,?_⟩
   dsimp only at r2 ⊢
   simp only[qQ hm15,zV]
   exact r2
 rw[if_neg c9] at hQ
 by_cases c10:c=10
 ·subst c10
  simp only[jn,Int.reduceEq,↓reduceIte,Bool.false_eq_true]
  rw[if_pos rfl] at hQ
  unfold Wd.load at hQ
  by_cases p0:small w1<0
  ·rw[if_pos (.inl p0)] at hQ
   rw[if_pos p0];exact hQ S (RAft.here h)
  rw[if_neg p0]
  by_cases p1:3<small w1
  ·rw[if_pos (.inr p1)] at hQ
   rw[if_pos p1];exact hQ S (RAft.here h)
  rw[if_neg p1]
  rw[if_neg (by omega)] at hQ
  by_cases q0:small w2<0
  ·rw[if_pos (.inl q0)] at hQ
   rw[if_pos q0];exact hQ S (RAft.here h)
  rw[if_neg q0]
  by_cases q1:31<small w2
  ·rw[if_pos (.inr q1)] at hQ
   rw[if_pos q1];exact hQ S (RAft.here h)
  rw[if_neg q1]
  rw[if_neg (by omega)] at hQ
  obtain⟨sec,hse⟩:∃ p:Nat,small w1=p:=⟨(small w1).toNat,by omega⟩
  obtain⟨p,hpe⟩:∃ p:Nat,small w2=p:=⟨(small w2).toNat,by omega⟩
  rw[hpe,hse] at hQ ⊢
  have hp:p<32:=by omega
  have hsec:sec<4:=by omega
  rw[Int.toNat_natCast,Int.toNat_natCast] at hQ ⊢
  rw[qQ hm15,zV]
  refine⟨by omega,by omega,?_⟩
  rw[wc ((hme.cell p (by rw[yC];omega) (by omega)).trans (zdK hp)),zjy,hs.map hp]
  rw[hs.where_] at hQ
  cases ho:W.own n p with
  | none=>
   rw[ho] at hQ
   rw[if_pos (by simp)]
   exact hQ S (RAft.here h)
  | some l=>
   rw[ho] at hQ
   rw[if_neg (by simp),qQ hm15,zV]
   refine⟨by omega,by omega,?_⟩
   rw[fM ((hme.cell (32+p) (by rw[yC];omega) (by omega)).trans (zqA hp)),hs.map hp,ho]
   rw[if_pos (by rfl)]
   obtain⟨db,e2,hdb⟩:=h.sec hn hs.on hsec
   have hloop:=zki h hwk hs hp hsec ho e1 e2 (K:=fun Sx=>Q 0 0 Sx) fun S1 m1 hA=>hQ S1 (hA.aft m1 fun q hq=>by omega)
   have hd5:nthL (rvL (D.x n) (W.vm n) (fun p=>(W.own n p).isSome) fun k=>(W.alarm n k).isSome) (5+sec*1)=some (eL (pgS db)):=by
    rw[Nat.mul_one,zqr hsec,e2]
   simp only[qQ hm15,zV,wc hd5]
   refine lp_imp (fun X i S1 hh=>?_) hloop
   by_cases hlt:i<256
   ·rw[if_pos hlt] at hh ⊢
    obtain⟨u1,u2,u3⟩:=hh
    refine⟨u1,u2,?_⟩
    obtain⟨s1,u4,u5⟩:=u3
    exact⟨s1,u4,by omega,by omega,u5⟩
   ·rw[if_neg hlt] at hh ⊢;exact hh
 rw[if_neg c10] at hQ
 by_cases c11:c=11
 ·subst c11
  simp only[jn,Int.reduceEq,↓reduceIte,Bool.false_eq_true]
  rw[if_pos rfl] at hQ
  unfold Wd.save at hQ
  by_cases p0:small w1<0
  ·rw[if_pos (.inl p0)] at hQ
   rw[if_pos p0];exact hQ S (RAft.here h)
  rw[if_neg p0]
  by_cases p1:3<small w1
  ·rw[if_pos (.inr p1)] at hQ
   rw[if_pos p1];exact hQ S (RAft.here h)
  rw[if_neg p1]
  rw[if_neg (by omega)] at hQ
  by_cases q0:small w2<0
  ·rw[if_pos (.inl q0)] at hQ
   rw[if_pos q0];exact hQ S (RAft.here h)
  rw[if_neg q0]
  by_cases q1:31<small w2
  ·rw[if_pos (.inr q1)] at hQ
   rw[if_pos q1];exact hQ S (RAft.here h)
  rw[if_neg q1]
  rw[if_neg (by omega)] at hQ
  obtain⟨sec,hse⟩:∃ p:Nat,small w1=p:=⟨(small w1).toNat,by omega⟩
  obtain⟨p,hpe⟩:∃ p:Nat,small w2=p:=⟨(small w2).toNat,by omega⟩
  rw[hpe,hse] at hQ ⊢
  have hp:p<32:=by omega
  have hsec:sec<4:=by omega
  rw[Int.toNat_natCast,Int.toNat_natCast] at hQ ⊢
  rw[qQ hm15,zV]
  refine⟨by omega,by omega,?_⟩
  rw[wc ((hme.cell p (by rw[yC];omega) (by omega)).trans (zdK hp)),zjy,hs.map hp]
  rw[hs.where_] at hQ
  cases ho:W.own n p with
  | none=>
   rw[ho] at hQ
   rw[if_pos (by simp)]
   exact hQ S (RAft.here h)
  | some l=>
   rw[ho] at hQ
   rw[if_neg (by simp)]
   obtain⟨db,e2,hdb⟩:=h.sec hn hs.on hsec
   have hQ':∀ S',RAft r S ρ (W.setV n ((W.vm n).setDisk sec l)) S'→Q 0 0 S':=fun S' hA=>by
    have:=hQ S'
    simp only[Option.isSome_some,↓reduceIte] at this
    rw[ho] at this
    exact this hA
   have hloop:=zkh h hwk hs hp hsec ho e1 e2 (K:=fun Sx=>Q 0 0 Sx) fun S1 m1 hA=>hQ' S1 (hA.aft m1 fun q hq=>by omega)
   have hd5:nthL (rvL (D.x n) (W.vm n) (fun p=>(W.own n p).isSome) fun k=>(W.alarm n k).isSome) (5+sec*1)=some (eL (pgS db)):=by
    rw[Nat.mul_one,zqr hsec,e2]
   simp only[qQ hm15,zV,wc hd5]
   refine lp_imp (fun X i S1 hh=>?_) hloop
   by_cases hlt:i<256
   ·rw[if_pos hlt] at hh ⊢
    exact⟨by omega,by omega,hh⟩
   ·rw[if_neg hlt] at hh ⊢;exact hh
 rw[if_neg c11] at hQ
 by_cases c12:c=12
 ·subst c12
  simp only[jn,Int.reduceEq,↓reduceIte,Bool.false_eq_true]
  rw[if_pos rfl] at hQ
  rw[wu64 (by omega) (by omega)]
  exact hQ S (RAft.here h)
 rw[if_neg c12] at hQ
 by_cases c13:c=13
 ·subst c13
  simp only[jn,Int.reduceEq,↓reduceIte,Bool.false_eq_true]
  rw[if_pos rfl] at hQ
  refine⟨by omega,by omega,?_⟩
  obtain⟨hl',cc,ec,hp,hok,_,hput⟩:=zaU hv.se h.rg (hwk.ok n) hk
  rw[wc (h.vss hn (by omega)),show sl (D.x n).ss=sl ⟨some (cc,0),(D.x n).ss.n,(D.x n).ss.c⟩ by rw[←ec],jH]
  refine⟨by omega,by omega,?_⟩
  rw[Int.toNat_natCast]
  refine hput (i:=23) (s:=((W.vm n).seat k).die) (by decide) rfl (Seat.s23 hok.len 2) fun S1 m1 hs1=>?_
  exact hQ S1 ((h.seats hwk hn hs.on m1 hs1).aft m1 fun q hq=>by omega)
 rw[if_neg c13] at hQ
 simp only[jn,if_neg c0,if_neg c1,if_neg c2,if_neg c3,if_neg c4,if_neg (show ¬c=5 by omega),if_neg (show ¬c=6 by omega),if_neg (show ¬c=7 by omega),if_neg c8,if_neg c9,if_neg c10,if_neg c11,if_neg c12,if_neg c13,Bool.false_eq_true,↓reduceIte]
 exact hQ S (RAft.here h)
end
end Go.Proofs.YtabdpmnhjlmnlaaGreatDoor
end
namespace Go.Cr
section
open Go Go.Pt
section
variable {W:Wd} {n:Nat}
theorem WOk.tell (h:WOk W) {m:Nat} {e:Evt}:WOk (W.tell m e):=⟨h.off,h.six,h.seats,h.ok,h.keys,h.disk,h.quota,h.bells,h.pg,h.most,h.lsr,h.lso,h.lsa,h.lsu,h.alarm⟩
theorem WOk.setAlarm (h:WOk W) (hon:(W.vm n).on=true) {k:Nat} (hk:k<(W.vm n).seats.length) {w:Int} (hw:W64 w):WOk (W.setAlarm n k w):=by
 refine⟨fun m hm=>⟨(h.off m hm).1,(h.off m hm).2.1,fun j=>?_⟩,h.six,h.seats,h.ok,h.keys,h.disk,h.quota,h.bells,h.pg,h.most,h.lsr,h.lso,h.lsa,h.lsu,fun m j a ha=>?_⟩
 ·have hm':(W.vm m).on=false:=hm
  show upd W.alarm n (upd (W.alarm n) k (some w)) m j=none
  rw[zk fun e=>by rw[e,hon] at hm';cases hm']
  exact (h.off m hm).2.2 j
 ·have ha':upd W.alarm n (upd (W.alarm n) k (some w)) m j=some a:=ha
  by_cases e:m=n
  ·subst e
   rw[zi] at ha'
   by_cases e2:j=k
   ·subst e2
    rw[zi] at ha'
    cases ha'
    exact⟨hk,hw⟩
   ·rw[zk e2] at ha';exact h.alarm m j a ha'
  ·rw[zk e] at ha';exact h.alarm m j a ha'
theorem WOk.setOF (h:WOk W) (hs:Sole W n) {p:Nat} (hp:p<32) {o:Option (List Int)} {f:Int} (ho:∀ l,o=some l→l.length=256∧Byt l) (hm:((W.setOF n p o f).pages n:Int)≤(W.vm n).quota):WOk (W.setOF n p o f):=by
 have hw:∀ m q,(W.setOF n p o f).own m q=if m=n∧q=p then o else W.own m q:=fun m q=>vY m q
 refine⟨fun m hmo=>⟨(h.off m hmo).1,fun q=>?_,(h.off m hmo).2.2⟩,h.six,h.seats,h.ok,h.keys,h.disk,h.quota,h.bells,fun m q l hl=>?_,fun m=>?_,fun i hi=>?_,h.lso,fun i hi=>?_,fun i j hi=>?_,h.alarm⟩
 ·have hm':(W.vm m).on=false:=hmo
  rw[hw,if_neg fun e=>by rw[e.1,hs.on] at hm';cases hm']
  exact (h.off m hmo).2.1 q
 ·rw[hw] at hl
  split at hl
  ·rename_i e
   obtain⟨rfl,rfl⟩:=e
   exact⟨hs.on,hp,ho l hl⟩
  ·exact h.pg m q l hl
 ·by_cases e:m=n
  ·subst e;exact hm
  ·have:(W.setOF n p o f).pages m=W.pages m:=by
    unfold Wd.pages
    congr 1
    funext q
    rw[hw,if_neg fun h=>e h.1]
   rw[this];exact h.most m
 ·have:(W.ls i).on=true:=hi
  rw[hs.ls i] at this;cases this
 ·have:(W.ls i).on=true:=hi
  rw[hs.ls i] at this;cases this
 ·have:(W.ls i).on=true:=hi
  rw[hs.ls i] at this;cases this
theorem zfd {p:Nat} (hp:p<32) {o:Option (List Int)} {f:Int}:(W.setOF n p o f).pages n+(W.own n p).isSome.toNat=W.pages n+o.isSome.toNat:=by
 have e:(fun q=>((W.setOF n p o f).own n q).isSome)=upd (fun q=>(W.own n q).isSome) p o.isSome:=by
  funext q
  show ((W.setO n p o).own n q).isSome=_
  rw[vY]
  by_cases e:q=p
  ·subst e;rw[if_pos ⟨rfl,rfl⟩,zi]
  ·rw[if_neg fun h=>e h.2,zk e]
 unfold Wd.pages
 rw[e]
 exact jq hp _
structure Lft (n:Nat) (W W':Wd):Prop where
 wk:WOk W'
 so:Sole W' n
 f:W.free-1≤W'.free∧W'.free≤W.free+1
theorem Lft.refl (h:WOk W) (hs:Sole W n):Lft n W W:=⟨h,hs,by omega⟩
theorem Lft.setV (h:WOk W) (hs:Sole W n) {v:Bv} (hw:WOk (W.setV n v)) (hon:v.on=true):Lft n W (W.setV n v):=by
 refine⟨hw,⟨?_,fun m hm=>?_,hs.ls⟩,by show W.free-1≤W.free∧W.free≤W.free+1;omega⟩
 ·show (upd W.vm n v n).on=true
  rw[zi];exact hon
 ·show (upd W.vm n v m).on=false
  rw[zk hm];exact hs.off m hm
theorem WOk.putSeat (h:WOk W) (hon:(W.vm n).on=true) {k:Nat} {s:Seat} (hs:s.Ok):WOk (W.putSeat n k s):=by
 refine h.setV hon hon ?_ (fun t ht=>?_) (h.keys n) (fun j=>h.disk n j hon) rfl rfl
 ·show ((W.vm n).seats.set k s).length=_
  rw[List.length_set]
 ·have ht':t∈(W.vm n).seats.set k s:=ht
  rcases List.mem_or_eq_of_mem_set ht' with e | e
  ·exact h.ok n t e
  ·rw[e];exact hs
theorem Sole.putSeat (hs:Sole W n) {k:Nat} {s:Seat}:Sole (W.putSeat n k s) n:=by
 refine⟨?_,fun m hm=>?_,hs.ls⟩
 ·show (upd W.vm n _ n).on=true
  rw[zi];exact hs.on
 ·show (upd W.vm n _ m).on=false
  rw[zk hm];exact hs.off m hm
theorem zlp (h:WOk W) {k:Nat} (hk:k<(W.vm n).seats.length):((W.vm n).seat k).Ok:=by
 have e:(W.vm n).seat k=(W.vm n).seats[k]:=by
  unfold Bv.seat
  rw[List.getD_eq_getElem?_getD,List.getElem?_eq_getElem hk];rfl
 rw[e];exact h.ok n _ (List.getElem_mem hk)
theorem zmu (h:WOk W) (hs:Sole W n) {k:Nat} (hk:k<(W.vm n).seats.length) {c w1 w2 w3:Int} (h1:W64 w1):Lft n W (W.call n k c w1 w2 w3).2.2:=by
 have hr:=Lft.refl h hs
 unfold Wd.call
 refine zJ (P:=fun r:Int×Int×Wd=>Lft n W r.2.2) (fun _=>⟨h.tell,⟨hs.on,hs.off,hs.ls⟩,by show W.free-1≤W.free∧W.free≤W.free+1;omega⟩) fun _=>?_
 refine zJ (P:=fun r:Int×Int×Wd=>Lft n W r.2.2) (fun _=>?_) fun _=>?_
 ·unfold Wd.nextKey
  have h64:=h.keys n
  cases hk:(W.vm n).keys with
  | nil=>exact hr
  | cons x l=>
   rw[hk] at h64
   simp only[List.length_cons] at h64
   exact Lft.setV h hs (h.setV hs.on hs.on rfl (h.ok n) ⟨by show l.length≤64;omega,fun y hy=>h64.2 y (List.mem_cons_of_mem _ hy)⟩ (fun j=>h.disk n j hs.on) rfl rfl) hs.on
 refine zJ (P:=fun r:Int×Int×Wd=>Lft n W r.2.2) (fun _=>?_) fun _=>?_
 ·unfold Wd.ring
  rw[if_pos (hs.noB h)];exact hr
 refine zJ (P:=fun r:Int×Int×Wd=>Lft n W r.2.2) (fun _=>⟨h.setAlarm hs.on hk h1,⟨hs.on,hs.off,hs.ls⟩,by show W.free-1≤W.free∧W.free≤W.free+1;omega⟩) fun _=>?_
 refine zJ (P:=fun r:Int×Int×Wd=>Lft n W r.2.2) (fun _=>?_) fun _=>?_
 ·unfold Wd.offer
  refine zJ (P:=fun r:Int×Int×Wd=>Lft n W r.2.2) (fun _=>hr) fun _=>?_
  refine zJ (P:=fun r:Int×Int×Wd=>Lft n W r.2.2) (fun _=>hr) fun ht=>?_
  rw[if_pos (hs.there (Decidable.not_not.1 ht)).symm];exact hr
 refine zJ (P:=fun r:Int×Int×Wd=>Lft n W r.2.2) (fun _=>?_) fun _=>?_
 ·unfold Wd.lease
  rw[if_pos (.inr (.inr (hs.ls _)))];exact hr
 refine zJ (P:=fun r:Int×Int×Wd=>Lft n W r.2.2) (fun _=>?_) fun _=>?_
 ·unfold Wd.give
  refine zJ (P:=fun r:Int×Wd=>Lft n W r.2) (fun _=>hr) fun e=>?_
  refine zJ (P:=fun r:Int×Wd=>Lft n W r.2) (fun _=>hr) fun _=>?_
  have hp:(small w1).toNat<32:=by
   unfold Wd.mine at e
   split at e
   ·exact absurd (by decide) e
   ·rename_i hh;omega
  refine⟨h.setOF (o:=none) hs hp (fun l hl=>by cases hl) ?_,hs.setOF (o:=none),by show W.free-1≤W.free+1∧W.free+1≤W.free+1;omega⟩
  have:=zfd (W:=W) (n:=n) (f:=W.free+1) (o:=none) hp
  have h2:=h.most n
  simp only[Option.isSome_none,Bool.toNat_false] at this
  omega
 refine zJ (P:=fun r:Int×Int×Wd=>Lft n W r.2.2) (fun _=>?_) fun _=>?_
 ·unfold Wd.get
  refine zJ (P:=fun r:Int×Wd=>Lft n W r.2) (fun _=>hr) fun hp=>?_
  refine zJ (P:=fun r:Int×Wd=>Lft n W r.2) (fun _=>hr) fun _=>?_
  refine zJ (P:=fun r:Int×Wd=>Lft n W r.2) (fun _=>hr) fun hq=>?_
  refine zJ (P:=fun r:Int×Wd=>Lft n W r.2) (fun _=>hr) fun _=>?_
  have hp:(small w1).toNat<32:=by omega
  refine⟨h.setOF (o:=some noughts) hs hp (fun l hl=>by cases hl;exact⟨qz,fun x hx=>xF hx⟩) ?_,hs.setOF (o:=some noughts),by show W.free-1≤W.free-1∧W.free-1≤W.free+1;omega⟩
  have:=zfd (W:=W) (n:=n) (f:=W.free-1) (o:=some noughts) hp
  simp only[Option.isSome_some,Bool.toNat_true] at this
  omega
 refine zJ (P:=fun r:Int×Int×Wd=>Lft n W r.2.2) (fun _=>?_) fun _=>?_
 ·unfold Wd.load
  refine zJ (P:=fun r:Int×Wd=>Lft n W r.2) (fun _=>hr) fun _=>?_
  refine zJ (P:=fun r:Int×Wd=>Lft n W r.2) (fun _=>hr) fun _=>?_
  rw[hs.where_]
  cases ho:W.own n (small w2).toNat with
  | none=>exact hr
  | some l=>exact⟨h.setO ho (h.disk n _ hs.on),⟨hs.on,hs.off,hs.ls⟩,by show W.free-1≤W.free∧W.free≤W.free+1;omega⟩
 refine zJ (P:=fun r:Int×Int×Wd=>Lft n W r.2.2) (fun _=>?_) fun _=>?_
 ·unfold Wd.save
  refine zJ (P:=fun r:Int×Wd=>Lft n W r.2) (fun _=>hr) fun _=>?_
  refine zJ (P:=fun r:Int×Wd=>Lft n W r.2) (fun _=>hr) fun _=>?_
  rw[hs.where_]
  cases ho:W.own n (small w2).toNat with
  | none=>exact hr
  | some l=>
   have hl:=(h.pg n _ l ho).2.2
   have e:((if (some l).isSome=true then some (n,(small w2).toNat,true) else none):Option (Nat×Nat×Bool))=some (n,(small w2).toNat,true):=rfl
   rw[e]
   dsimp only
   rw[ho]
   refine Lft.setV h hs (h.setV hs.on hs.on rfl (h.ok n) (h.keys n) (fun j=>?_) rfl rfl) hs.on
   show (upd (W.vm n).disk _ _ j).length=256∧Byt (upd (W.vm n).disk _ _ j)
   by_cases e:j=(small w1).toNat
   ·subst e;rw[zi];exact hl
   ·rw[zk e];exact h.disk n j hs.on
 refine zJ (P:=fun r:Int×Int×Wd=>Lft n W r.2.2) (fun _=>hr) fun _=>?_
 refine zJ (P:=fun r:Int×Int×Wd=>Lft n W r.2.2) (fun _=>?_) fun _=>hr
 have hd:(((W.vm n).seat k).die).Ok:={ zlp h hk with st:=(by show (0:Int)≤2∧(2:Int)≤2;decide) }
 exact Lft.setV h hs (h.putSeat (k:=k) (s:=((W.vm n).seat k).die) hs.on hd) hs.on
theorem zpa (hs:Sole W n) (h:WOk W) {k:Nat} {c w1 w2 w3:Int}:(W.call n k c w1 w2 w3).2.1≠0→(W.call n k c w1 w2 w3).1=0:=by
 unfold Wd.call
 refine zJ (P:=fun r:Int×Int×Wd=>r.2.1≠0→r.1=0) (fun _ _=>rfl) fun _=>?_
 refine zJ (P:=fun r:Int×Int×Wd=>r.2.1≠0→r.1=0) (fun _=>?_) fun _=>?_
 ·unfold Wd.nextKey
  cases (W.vm n).keys with
  | nil=>exact fun _=>rfl
  | cons x l=>exact fun e=>absurd rfl e
 refine zJ (P:=fun r:Int×Int×Wd=>r.2.1≠0→r.1=0) (fun _ _=>rfl) fun _=>?_
 refine zJ (P:=fun r:Int×Int×Wd=>r.2.1≠0→r.1=0) (fun _ _=>rfl) fun _=>?_
 refine zJ (P:=fun r:Int×Int×Wd=>r.2.1≠0→r.1=0) (fun _=>?_) fun _=>?_
 ·unfold Wd.offer
  refine zJ (P:=fun r:Int×Int×Wd=>r.2.1≠0→r.1=0) (fun _ _=>rfl) fun _=>?_
  refine zJ (P:=fun r:Int×Int×Wd=>r.2.1≠0→r.1=0) (fun _ _=>rfl) fun ht=>?_
  rw[if_pos (hs.there (Decidable.not_not.1 ht)).symm];exact fun _=>rfl
 refine zJ (P:=fun r:Int×Int×Wd=>r.2.1≠0→r.1=0) (fun _ _=>rfl) fun _=>?_
 refine zJ (P:=fun r:Int×Int×Wd=>r.2.1≠0→r.1=0) (fun _ _=>rfl) fun _=>?_
 refine zJ (P:=fun r:Int×Int×Wd=>r.2.1≠0→r.1=0) (fun _ _=>rfl) fun _=>?_
 refine zJ (P:=fun r:Int×Int×Wd=>r.2.1≠0→r.1=0) (fun _ _=>rfl) fun _=>?_
 refine zJ (P:=fun r:Int×Int×Wd=>r.2.1≠0→r.1=0) (fun _ _=>rfl) fun _=>?_
 refine zJ (P:=fun r:Int×Int×Wd=>r.2.1≠0→r.1=0) (fun _ e=>absurd rfl e) fun _=>?_
 refine zJ (P:=fun r:Int×Int×Wd=>r.2.1≠0→r.1=0) (fun _ _=>rfl) fun _ _=>rfl
theorem znq (h:WOk W) (hs:Sole W n) {m b:Int} (hb:0≤b∧b≤255):Lft n W (W.key m b).2:=by
 unfold Wd.key
 refine zJ (P:=fun r:Int×Wd=>Lft n W r.2) (fun _=>Lft.refl h hs) fun ht=>?_
 have hm:=hs.there (Decidable.not_not.1 ht)
 subst hm
 rw[Int.toNat_natCast]
 refine zJ (P:=fun r:Int×Wd=>Lft n W r.2) (fun _=>Lft.refl h hs) fun h64=>?_
 have hk:=h.keys n
 have hw:WOk (W.setV n ((W.vm n).setKeys ((W.vm n).keys++[b]))):=h.setV hs.on hs.on rfl (h.ok n) ⟨by
  show ((W.vm n).keys++[b]).length≤64
  rw[List.length_append];simp;omega,fun x hx=>by
  have hx':x∈(W.vm n).keys++[b]:=hx
  rcases List.mem_append.1 hx' with hx | hx
  ·exact hk.2 x hx
  ·simp at hx;omega⟩ (fun j=>h.disk n j hs.on) rfl rfl
 have hl:=Lft.setV h hs hw hs.on
 have h1:=h.seats n hs.on
 have hln:0<((W.setV n ((W.vm n).setKeys ((W.vm n).keys++[b]))).vm n).seats.length:=by
  show 0<(upd W.vm n _ n).seats.length
  rw[zi]
  show 0<(W.vm n).seats.length
  omega
 generalize W.setV n ((W.vm n).setKeys ((W.vm n).keys++[b]))=X at hw hl hln
 show Lft n W (X.raise n 0 6).2
 unfold Wd.raise
 refine zJ (P:=fun r:Int×Wd=>Lft n W r.2) (fun _=>hl) fun h2=>?_
 have hok:=zlp hw hln
 have hok2:({ (X.vm n).seat 0 with pend:=ior .u32 ((X.vm n).seat 0).pend (2 ^ 6) }:Seat).Ok:={ hok with pend:=Go.Proofs.YtabdpmnhjlmnlaaGreatDoor.ror32 hok.pend (by decide) }
 have er:(((X.vm n).seat 0).raise 6).Ok:=by
  unfold Seat.raise
  rw[if_neg h2];exact Seat.wake_ok hok2
 have:=Lft.setV hw hl.so (hw.putSeat (k:=0) hl.so.on er) hl.so.on
 exact⟨this.wk,this.so,hl.f⟩
theorem zlS {f:Int} {quota pages:Int} {sn:Int} {img:List Int}:Sole ((W0 f).made 0 sn quota pages img) 0:=⟨rfl,fun m hm=>by
 show (upd (W0 f).vm 0 _ m).on=false
 rw[zk hm];rfl,fun _=>rfl⟩
end
end
end Go.Cr
namespace Go.Proofs.YtabdpmnhjlmnlaaGreatDoor
section
open Go Go.Pt Go.Cr Go.Hp
section
variable {S S':Mem} {ρ ρ':Rho} {R:Nat→Prop} {r:Nat} {D:Ra} {W:Wd} {n:Nat}
theorem _root_.Go.Cr.Seat.rW {s:Seat} (h:s.Ok) {i:Nat} (hi:i<16):W64 (s.r i):=Go.Cr.Seat.r_w h i
theorem _root_.Go.Cr.Seat.setrOk {s:Seat} (h:s.Ok) {i v:Int} (hv:W64 v):(s.setr i v).Ok:={ h with
 len:=by show (s.R.set i.toNat v).length=16;rw[List.length_set];exact h.len
 r:=fun x hx=>by
  have hx':x∈s.R.set i.toNat v:=hx
  rcases List.mem_or_eq_of_mem_set hx' with e | e
  ·exact h.r x e
  ·rw[e];exact hv }
set_option maxHeartbeats 4000000 in
theorem zlv (h:RefA S ρ r D W) (hwk:WOk W) {m0:Nat} (hs:Sole W m0) {n k:Int} (hl:∀ i,(W.ev i).length≤800000000) (hf : -90000≤W.free∧W.free≤90000) {Q:Int→Mem→Prop}
  (hQ:∀ S',RAft r S ρ (W.run n k).2 S'→Lft m0 W (W.run n k).2→Q (W.run n k).1 S'):yG S (some (r,0)) n k Q:=by
 apply zaj
 unfold xO
 unfold Wd.run at hQ
 refine zI (fun J=>W.there n→0≤k→k<(W.vm n.toNat).seats.length→J S) ?_ fun J hJ=>?_
 rotate_left
 ·refine gZ h ?_
  by_cases ht:¬W.there n
  ·rw[if_pos (.inl ht)] at hQ
   rw[decide_eq_false ht,if_neg (by decide)]
   exact hQ S (RAft.here h) (Lft.refl hwk hs)
  have ht:=Decidable.not_not.1 ht
  have hn:n.toNat<6:=by have:=ht.2.1;have:=ht.1;omega
  rw[decide_eq_true ht,if_pos rfl]
  by_cases hk:k<0
  ·rw[if_pos (.inr (.inl hk))] at hQ
   rw[if_pos hk];exact hQ S (RAft.here h) (Lft.refl hwk hs)
  rw[if_neg hk,zV]
  refine⟨ht.1,ht.2.1,?_⟩
  rw[wc (h.vss hn (by omega))]
  have hss:=(h.vs n.toNat hn).se.n (by decide) (fL (hwk.ok n.toNat))
  by_cases hk2:(W.vm n.toNat).seats.length≤k
  ·rw[if_pos (.inr (.inr hk2))] at hQ
   rw[if_pos (by omega)];exact hQ S (RAft.here h) (Lft.refl hwk hs)
  ·rw[if_neg (by omega)]
   exact hJ ht (by omega) (by omega)
 intro ht hk0 hkl
 obtain⟨n,rfl⟩:∃ m:Nat,n=m:=⟨n.toNat,by have:=ht.1;omega⟩
 obtain⟨k,rfl⟩:∃ m:Nat,k=m:=⟨k.toNat,by omega⟩
 rw[Int.toNat_natCast] at hkl
 have hnm:n=m0:=by have:=hs.there ht;omega
 subst hnm
 have hon:=hs.on
 have hn:=hwk.on6 hon
 have hk:k<(W.vm n).seats.length:=by omega
 have h3:=hwk.seats n hon
 rw[if_neg (fun h=>h.elim (fun h=>h ht) (fun h=>by rw[Int.toNat_natCast] at h;omega))] at hQ
 simp only[Int.toNat_natCast] at hQ ⊢
 have hv:=h.vs n hn
 obtain⟨hsn,cb,ess,hpart,hok,_,_⟩:=zaU hv.se h.rg (hwk.ok n) hk
 have esk:(W.vm n).seats.getD k seat0=(W.vm n).seat k:=rfl
 rw[esk] at hpart hok
 have slx:∀ {K:Nat→Nat→Nat→Nat→Prop},sl ⟨some (cb,0),(D.x n).ss.n,(D.x n).ss.c⟩ K→sl (D.x n).ss K:=fun hh=>by rw[ess];exact hh
 rw[zV]
 refine⟨by omega,by omega,?_⟩
 rw[wc (h.vss hn (by omega))]
 refine slx ?_
 rw[jH]
 refine⟨by omega,by omega,?_⟩
 rw[gD hpart]
 refine⟨Seat.L_one _,by omega,by omega,?_⟩
 obtain⟨mb,e1,hme⟩:=h.me n hn hon
 rw[qQ ((h.vmb hn (by omega)).trans (by rw[e1])),zB h.c0]
 refine⟨by omega,by omega,?_⟩
 rw[zB (h.vbe hn (by omega))]
 have htm:=h.time n hon
 have hnow:=h.now
 rw[wu64 (by omega) (by omega),←htm.2.2]
 have hW:=fun m q l h=>((hwk.pg m q l h).2.1:q<32)
 have hB:=zoB (r:=r) (D:=D) (W:=W) hn hon e1
 have hI:RI r n D W S ρ (W.gm n):=⟨(W.gm n).dat,by rw[yz hW];exact h,by rw[yz hW];exact hwk,by rw[yz hW]⟩
 refine zkg hB hI hok ⟨by omega,by omega⟩ ⟨by omega,by omega⟩ fun S1 ρ1 m1 hI1=>?_
 obtain⟨d1,h1,hw1,hg1⟩:=hI1
 have hstep:=zlj (hwk.gm n) hok (time:=W.time n) (me:=k) ⟨by omega,by omega⟩ ⟨by omega,by omega⟩
 have hidle:(stepM ((W.vm n).seat k) (W.gm n) (W.time n) k).k=5→(stepM ((W.vm n).seat k) (W.gm n) (W.time n) k).s=(W.vm n).seat k∧(stepM ((W.vm n).seat k) (W.gm n) (W.time n) k).g=W.gm n:=fun h=>zhv h
 generalize stepM ((W.vm n).seat k) (W.gm n) (W.time n) k=o at hQ hg1 hstep hidle ⊢
 have hdat:W.setDat o.g.dat=W.setDat d1:=by rw[hg1];exact zhC hW
 have hon1:((W.setDat d1).vm n).on=true:=hon
 have hs1:Sole (W.setDat d1) n:=⟨hs.on,hs.off,hs.ls⟩
 refine⟨h1.vbe hn (by omega),h1.c0,Seat.L_one _,?_⟩
 refine zI (fun J=>o.k≠5→J S1) ?_ fun J hJ=>?_
 rotate_left
 ·by_cases h5:o.k=5
  ·rw[if_pos h5] at hQ ⊢
   obtain⟨_,e2⟩:=hidle h5
   have e3:W.setDat d1=W:=by rw[←hdat,e2,yz hW]
   rw[e3] at h1
   exact hQ S1 (h1.aft m1 fun q hq=>by omega) (Lft.refl hwk hs)
  ·rw[if_neg h5];exact hJ h5
 intro h5
 rw[if_neg h5,hdat] at hQ
 refine⟨by omega,by omega,?_⟩
 rw[wc (h1.vss hn (by omega))]
 refine slx ?_
 rw[jH]
 refine⟨by omega,by omega,Seat.L_one _,?_⟩
 have hv1:=h1.vs n hn
 obtain⟨_,cb1,ess1,_,_,hput,_⟩:=zaU hv1.se h1.rg (hw1.ok n) (k:=k) hk
 have ecb:cb1=cb:=by rw[ess] at ess1;cases ess1;rfl
 subst ecb
 refine hput hstep fun S2 m2 hs2=>?_
 have h2:=h1.seats hw1 hn hon1 m2 hs2
 rw[←zda] at h2
 have hw2:WOk ((W.setDat d1).putSeat n k o.s):=hw1.putSeat hon1 hstep
 have hso2:Sole ((W.setDat d1).putSeat n k o.s) n:=hs1.putSeat
 have hev2:((W.setDat d1).putSeat n k o.s).ev=W.ev:=rfl
 have m12:Mv S ρ S2 ρ1 Rd:=(m1.mono fun q hq=>by omega).trans (m2.mono fun q hq=>by omega)
 generalize hW2:((W.setDat d1).putSeat n k o.s).tell n (told o.k o.n k ((W.vm n).seat k).pc o.s)=W2 at hQ
 have hw3:WOk W2:=by rw[←hW2];exact hw2.tell
 have hso3:Sole W2 n:=by rw[←hW2];exact⟨hso2.on,hso2.off,hso2.ls⟩
 have hlen3:(W2.vm n).seats.length=(W.vm n).seats.length:=by
  rw[←hW2]
  show (upd (W.setDat d1).vm n _ n).seats.length=_
  rw[zi]
  show ((W.vm n).seats.set k o.s).length=_
  rw[List.length_set]
 have hev3:(W2.ev n).length≤800000001:=by
  rw[←hW2]
  show (upd W.ev n (W.ev n++[_]) n).length≤_
  rw[zi,List.length_append]
  have:=hl n
  simp;omega
 have hfr3:W2.free=W.free:=by rw[←hW2];rfl
 refine zI (fun J=>∀ S3,RAft r S2 ρ1 W2 S3→J S3) ?_ fun J hJ=>?_
 rotate_left
 ·have gpc:nthL ((W.vm n).seat k).L 16=some (.int .u64 ((W.vm n).seat k).pc):=Seat.g16 hok.len
  have hlv:(((W.setDat d1).putSeat n k o.s).ev n).length≤1000000000:=by rw[hev2];have:=hl n;omega
  unfold told at hW2
  by_cases x1:o.k=1
  ·rw[if_pos x1] at hW2
   rw[if_pos x1,zB gpc]
   exact gw h2 hw2 hn hlv fun S3 hA=>hJ S3 (by rw[hW2] at hA;exact hA)
  rw[if_neg x1] at hW2
  rw[if_neg x1]
  by_cases x4:o.k=4
  ·rw[if_pos x4] at hW2
   rw[if_pos x4,zB gpc]
   exact gw h2 hw2 hn hlv fun S3 hA=>hJ S3 (by rw[hW2] at hA;exact hA)
  rw[if_neg x4] at hW2
  rw[if_neg x4,zB gpc]
  refine ziE hstep fun S2' hk2=>?_
  have h2':=h2.keeps hw2 hk2
  exact gw h2' hw2 hn hlv fun S3 hA=>hJ S3 (by rw[hW2] at hA;exact RAft.trans (Mv.keeps (R:=fun _=>False) h2.rg hk2) (fun q hq=>hq.elim) hA)
 intro S3 hA3
 obtain⟨ρ3,D3,m3,h3'⟩:=hA3
 have m13:=m12.trans m3
 by_cases x2:o.k=2
 ·rw[if_pos x2] at hQ ⊢
  rw[zB (Seat.L_r hstep.len (i:=1) (by decide)),zB (Seat.L_r hstep.len (i:=2) (by decide)),zB (Seat.L_r hstep.len (i:=3) (by decide))]
  have r1:W64 (o.s.r 1):=Seat.rW hstep (by decide)
  have r2:W64 (o.s.r 2):=Seat.rW hstep (by decide)
  have hans:=zjH (c:=o.n) (w1:=o.s.r 1) (w2:=o.s.r 2) (w3:=o.s.r 3) hw3 (k:=k) hn
  have hleft:=zmu hw3 hso3 (k:=k) (by rw[hlen3];exact hk) (c:=o.n) (w1:=o.s.r 1) (w2:=o.s.r 2) (w3:=o.s.r 3) r1
  have hv0:=zpa hso3 hw3 (k:=k) (c:=o.n) (w1:=o.s.r 1) (w2:=o.s.r 2) (w3:=o.s.r 3)
  unfold Wd.hyper at hQ
  dsimp only at hQ
  refine zkn (w3:=o.s.r 3) h3' hw3 hso3 (by rw[hlen3];exact hk) (by omega) (by omega) r1 r2 fun S5 hA5=>?_
  generalize W2.call n k o.n (o.s.r 1) (o.s.r 2) (o.s.r 3)=rr at hQ hA5 hans hleft hv0 ⊢
  obtain⟨v,e,W5⟩:=rr
  dsimp only at hQ hA5 hans hleft hv0 ⊢
  obtain⟨ρ5,D5,m5,h5'⟩:=hA5
  have m15:=m13.trans m5
  have hvb:=hans.v
  have heb:=hans.e
  dsimp only at hvb heb
  have hlen5:k<(W5.vm n).seats.length:=by rw[hans.s.len,hlen3];exact hk
  have hlv5:(W5.ev n).length≤900000000:=by have:=hans.s.ev n;dsimp only at this;omega
  refine zI (fun J=>J v S5) ?_ fun J hJ=>?_
  rotate_left
  ·by_cases he:e≠0
   ·rw[if_pos he]
    have:=hv0 he
    rw[this] at hJ;exact hJ
   ·rw[if_neg he];exact hJ
  show _∧_∧_
  refine⟨by omega,by omega,?_⟩
  have hw5:=hleft.wk
  obtain⟨hsn5,c5,ess5,hp5,hok5,_,hput5⟩:=zaU (h5'.vs n hn).se h5'.rg (hw5.ok n) hlen5
  have es5:(W5.vm n).seats.getD k seat0=(W5.vm n).seat k:=rfl
  rw[es5] at hok5 hput5
  rw[wc (h5'.vss hn (by omega))]
  have slx5:∀ {K:Nat→Nat→Nat→Nat→Prop},sl ⟨some (c5,0),(D5.x n).ss.n,(D5.x n).ss.c⟩ K→sl (D5.x n).ss K:=fun hh=>by rw[ess5];exact hh
  refine slx5 ?_
  rw[jH]
  refine⟨by omega,by omega,?_⟩
  have ew:IntKind.u64.wrap e=e:=wu64 (by omega) (by omega)
  rw[ew]
  refine hput5 (i:=0) (s:=((W5.vm n).seat k).setr 0 e) (by decide) (by omega) (Seat.set_r hok5.len (by decide) e) fun S6 m6 hs6=>?_
  have h6:=h5'.seats hw5 hn hleft.so.on m6 hs6
  rw[←zda] at h6
  have hok6:(((W5.vm n).seat k).setr 0 e).Ok:=Seat.setrOk hok5 ⟨by omega,by omega⟩
  have hw6:WOk (W5.putSeat n k (((W5.vm n).seat k).setr 0 e)):=hw5.putSeat hleft.so.on hok6
  have hso6:Sole (W5.putSeat n k (((W5.vm n).seat k).setr 0 e)) n:=hleft.so.putSeat
  have hlen6:k<((W5.putSeat n k (((W5.vm n).seat k).setr 0 e)).vm n).seats.length:=by
   show k<(upd W5.vm n _ n).seats.length
   rw[zi]
   show k<((W5.vm n).seats.set k _).length
   rw[List.length_set];exact hlen5
  have hsk6:((W5.putSeat n k (((W5.vm n).seat k).setr 0 e)).vm n).seats.getD k seat0=((W5.vm n).seat k).setr 0 e:=by
   show (upd W5.vm n _ n).seats.getD k seat0=_
   rw[zi]
   show ((W5.vm n).seats.set k _).getD k seat0=_
   rw[List.getD_eq_getElem?_getD,List.getElem?_set_self hlen5];rfl
  obtain⟨_,c6,ess6,_,_,_,hput6⟩:=zaU (h6.vs n hn).se h6.rg (hw6.ok n) hlen6
  have ec6:c6=c5:=by rw[ess5] at ess6;cases ess6;rfl
  subst ec6
  rw[hsk6] at hput6
  refine⟨by omega,by omega,?_⟩
  rw[wc (h6.vss hn (by omega))]
  refine slx5 ?_
  rw[jH]
  refine⟨by omega,by omega,?_⟩
  refine hput6 (i:=1) (s:=((W5.vm n).seat k).answer e v) (by decide) (by omega) (Seat.set_r hok6.len (by decide) v) fun S7 m7 hs7=>?_
  have h7:=h6.seats hw6 hn hso6.on m7 hs7
  rw[←zda] at h7
  have e7:(W5.putSeat n k (((W5.vm n).seat k).setr 0 e)).putSeat n k (((W5.vm n).seat k).answer e v)=W5.putSeat n k (((W5.vm n).seat k).answer e v):=by
   show ({ W5 with vm:=upd (upd W5.vm n ((W5.vm n).setSeat k (((W5.vm n).seat k).setr 0 e))) n ((upd W5.vm n ((W5.vm n).setSeat k (((W5.vm n).seat k).setr 0 e)) n).setSeat k (((W5.vm n).seat k).answer e v)) }:Wd) = { W5 with vm:=upd W5.vm n ((W5.vm n).setSeat k (((W5.vm n).seat k).answer e v)) }
   rw[gG,zi]
   unfold Bv.setSeat
   dsimp only
   rw[List.set_set]
  rw[e7] at h7
  have hok7:(((W5.vm n).seat k).answer e v).Ok:=Seat.setrOk hok6 ⟨by omega,by omega⟩
  have hw7:WOk (W5.putSeat n k (((W5.vm n).seat k).answer e v)):=hw5.putSeat hleft.so.on hok7
  refine gw h7 hw7 hn (by show (W5.ev n).length≤_;omega) fun S8 hA8=>hQ S8 ?_ ⟨hw7.tell,⟨hleft.so.putSeat.on,hleft.so.putSeat.off,hleft.so.ls⟩,by
   have:=hleft.f
   rw[hfr3] at this
   exact this⟩
  exact RAft.trans (m15.trans ((m6.mono fun q hq=>by omega).trans (m7.mono fun q hq=>by omega))) (fun q hq=>hq) hA8
 ·rw[if_neg x2] at hQ ⊢
  exact hQ S3 ⟨ρ3,D3,m13,h3'⟩ ⟨hw3,hso3,by rw[hfr3];omega⟩
end
end
section
open Go Go.Pt Go.Proofs.Tryz
attribute [local irreducible] lt WD WN Code.wp Back bodyPost wpList FR WL WC WQ WA AW Tr Yc HC AllC
set_option maxRecDepth 20000
set_option maxHeartbeats 4000000
def qI (S:Mem) (form:Int) (p:Sl) (steps:Int) (key:Int) (Q:Bool→Mem→Prop):Prop:=
 jn (fun (Sx:Mem)=>
 zcI Sx (IntKind.i64.wrap (1+(IntKind.i64.wrap (Int.tmod form 2)))) 40 2 fun t t_1 Sx_1=>
 jn (fun (Sx_2:Mem)=>
 wD Sx_2 38 fun t_2 Sx_3=>
 xa Sx_3 t 1 4 2 p fun t_3 t_4 Sx_4=>
 qS Sx_4 t_2 1 4 2 p fun t_5 t_6 Sx_5=>
 kU Sx_5 t t_3 key fun t_7 Sx_6=>
 yH Sx_6 t_2 t_5 key fun t_8 Sx_7=>
 jn (fun (Sx_8:Mem)=>
 if t_3=t_5 then
 if t_4=0 then
 if t_6=0 then
 wq Sx_8 t t_2 fun t_9 Sx_9=>
 Q t_9 Sx_9
 else
 Q false Sx_8
 else
 Q false Sx_8
 else
 Q false Sx_8) fun Jx=>
 lp (fun Xx (i:Int) (Sx_10:Mem)=>
 jn (fun (Sx_11:Mem)=>
 yK Sx_11 t 0 0 fun t_10 Sx_12=>
 yG Sx_12 t_2 0 0 fun t_11 Sx_13=>
 if t_10≠t_11 then
 Q false Sx_13
 else
 Xx (IntKind.i64.wrap (i+1)) Sx_13) fun Jx_1=>
 if i<IntKind.i64.wrap steps then
 Jx_1 Sx_10
 else
 Jx Sx_10) 0 Sx_7) fun Jx_2=>
 if t_1≠0 then
 Q false Sx_1
 else
 Jx_2 Sx_1) fun Jx_3=>
 qN S fun t_12 Sx_14=>
 if t_12=true then
 if 512<(p.n:Int) then
 qN Sx_14 fun t_13 Sx_15=>
 Q t_13 Sx_15
 else
 Jx_3 Sx_14
 else
 qN Sx_14 fun t_14 Sx_16=>
 Q t_14 Sx_16
theorem jT {S:Mem} {form:Int} {p:Sl} {steps:Int} {key:Int} {Q:Bool→Mem→Prop} (H:qI S form p steps key Q):fd S form p steps key Q:=by
 unfold qI at H
 have:=dj1 17 [9,11,12,13,14,15]
 have:=dj0 (α:=Int) 13 [2,9,11,12,13,14,15] (fun z=>[(16,.int .i64 z)])
 have:=dj1 15 [2,9,11,12,13,14,15,16]
 have:=dj1 7 [1,2,3,9]
 have:=dj1 4 [0,1,2,3]
 exact Tr.intro func8 E ntmps8 E fun w0=>go results8 H
def xv (S:Mem) (h:Pt) (x:Pt) (Q:Bool→Mem→Prop):Prop:=
 jn (fun (Sx:Mem)=>
 nn h fun b o=>
 gP (Sx.cell b (o+1)) fun t=>
 nn x fun b_1 o_1=>
 gI (Sx.cell b_1 (o_1+1)) .i64 fun t_1=>
 jW Sx t fun t_2 Sx_1=>
 Sx_1.cell b_1 (o_1+1)=some (.int .i64 t_1) ∧
 Q (decide (t_2=t_1)) Sx_1) fun Jx=>
 lp (fun Xx (n:Int) (Sx_2:Mem)=>
 jn (fun (Sx_3:Mem)=>
 jn (fun (Sx_4:Mem)=>
 Xx (IntKind.i64.wrap (n+1)) Sx_4) fun Jx_1=>
 yZ Sx_3 h n fun t_3 Sx_5=>
 jn (fun (Sx_6:Mem)=>
 jn (fun (Sx_7:Mem)=>
 jn (fun (pages:Int) (Sx_8:Mem)=>
 xK Sx_8 h n fun t_4 Sx_9=>
 if t_4≠pages then
 Q false Sx_9
 else
 nn h fun b_2 o_2=>
 gP (Sx_9.cell b_2 (o_2+3)) fun t_5=>
 nn x fun b_3 o_3=>
 0≤n∧n<6 ∧
 gB (Sx_9.cell b_3 (o_3+2+n.toNat*54)) fun t_6=>
 qq Sx_9 t_5 n fun t_7 Sx_10=>
 Sx_10.cell b_3 (o_3+2+n.toNat*54)=some (.bool t_6) ∧
 if t_7≠t_6 then
 Q false Sx_10
 else
 Jx_1 Sx_10) fun Jx_2=>
 nn x fun b_4 o_4=>
 0≤n∧n<6 ∧
 gB (Sx_7.cell b_4 (o_4+2+n.toNat*54)) fun t_8=>
 if t_8=true then
 ye Sx_7 (some (b_4,o_4)) n fun t_9 Sx_11=>
 Jx_2 t_9 Sx_11
 else
 Jx_2 0 Sx_7) fun Jx_3=>
 lp (fun Xx_1 (i:Int) (Sx_12:Mem)=>
 jn (fun (Sx_13:Mem)=>
 sl t_3 fun b_5 o_5 n_1 n_2=>
 0≤i∧i<((n_1:Nat):Int) ∧
 gA (Sx_13.part b_5 (o_5+i.toNat*4) 4) fun t_10=>
 nn x fun b_6 o_6=>
 0≤n∧n<6 ∧
 gL (Sx_13.cell b_6 (o_6+422+n.toNat*1)) fun t_11=>
 sl t_11 fun b_7 o_7 n_3 n_4=>
 0≤i∧i<((n_3:Nat):Int) ∧
 gA (Sx_13.part b_7 (o_7+i.toNat*4) 4) fun t_12=>
 fits [.i .u8,.i .i64,.i .u64,.i .u64] t_10=true ∧
 fits [.i .u8,.i .i64,.i .u64,.i .u64] t_12=true ∧
 if (!(eqL t_10 t_12))=true then
 Q false Sx_13
 else
 Xx_1 (IntKind.i64.wrap (i+1)) Sx_13) fun Jx_4=>
 if i<(t_3.n:Int) then
 Jx_4 Sx_12
 else
 Jx_3 Sx_12) 0 Sx_6) fun Jx_5=>
 nn x fun b_8 o_8=>
 0≤n∧n<6 ∧
 gL (Sx_5.cell b_8 (o_8+422+n.toNat*1)) fun t_13=>
 if (t_3.n:Int)≠(t_13.n:Int) then
 Q false Sx_5
 else
 Jx_5 Sx_5) fun Jx_6=>
 if n<6 then
 Jx_6 Sx_2
 else
 Jx Sx_2) 0 S
theorem zaa {S:Mem} {h:Pt} {x:Pt} {Q:Bool→Mem→Prop} (H:xv S h x Q):wq S h x Q:=by
 unfold xv at H
 have:=dj1 18 [0,1]
 have:=dj0 (α:=Int) 3 [0,1] (fun z=>[(5,.int .i64 z)])
 have:=dj1 4 [0,1,5]
 have:=dj0 (α:=Int×Unit) 16 [0,1,5] (fun z=>[(8,.int .i64 z.1)])
 have:=dj1 13 [0,1,5]
 have:=dj0 (α:=Int) 9 [0,1,5,6] (fun z=>[(7,.int .i64 z)])
 have:=dj1 11 [0,1,5,6,7]
 have:=dj1 8 [0,1,5,6]
 have:=dj1 5 [0,1,5]
 exact Tr.intro func37 E ntmps37 E fun w0=>go results37 H
end
section
open Go Go.Pt Go.Cr Go.Hp
structure Bth (S0 S:Mem) (h r:Nat) (W:Wd):Prop where
 ex:∃ ρ A C φ D,Mv S0 rho0 S ρ (fun q=>Rc q∨Rd q)∧CrabA S ρ h A C∧Rel C W φ∧RefA S ρ r D W
section
variable {S S' S0:Mem} {ρ ρ':Rho} {R:Nat→Prop} {h r:Nat} {A:Ad} {C:Cst} {W W':Wd} {φ:Nat→Nat→Nat} {D:Ra}
theorem Bth.wk (b:Bth S0 S h r W):WOk W:=by
 obtain⟨_,_,_,_,_,_,_,hr,_⟩:=b.ex
 exact hr.wk
theorem Bth.keeps0 (b:Bth S0 S h r W):Keeps S0 S []:=by
 obtain⟨_,_,_,_,_,m,_⟩:=b.ex
 exact zfh m
theorem Bth.on (b:Bth S0 S h r W) (hk:Keeps S S' []):Bth S0 S' h r W:=by
 obtain⟨ρ,A,C,φ,D,m,hc,hr,hR⟩:=b.ex
 exact⟨⟨ρ,A,C,φ,D,m.then hk,hc.keeps hk,hr,hR.keeps hr.wk hk⟩⟩
theorem Bth.act {hc:CrabA S ρ h A C} (m0:Mv S0 rho0 S ρ (fun q=>Rc q∨Rd q)) (hwk:WOk W) (hR:RefA S ρ r D W) {ρ1:Rho} {A1:Ad} {C1:Cst} {S1:Mem} {φ1:Nat→Nat→Nat} (m1:Mv S ρ S1 ρ1 Rc) (hc1:CrabA S1 ρ1 h A1 C1) (hr1:Rel C1 W' φ1) :
  RefA S1 ρ1 r D W∧∀ S2,RAft r S1 ρ1 W' S2→Bth S0 S2 h r W':=by
 refine⟨hR.keep (fun n p l=>hwk.six') m1 fun q h1 h2 h3=>by unfold Rc at h3;omega,fun S2 hA=>?_⟩
 obtain⟨ρ2,D2,m2,h2⟩:=hA
 exact⟨⟨ρ2,A1,C1,φ1,D2,(m0.trans (m1.mono fun q hq=>.inl hq)).trans (m2.mono fun q hq=>.inr hq),hc1.keep m2 fun q h1 h3=>by unfold Rd at h3;omega,hr1,h2⟩⟩
theorem zrl (b:Bth S0 S h r W) {m:Nat} (hs:Sole W m) {e:Nat} (he:W.evB e) (hel:e≤700000000) {n k:Int} {Q:Int→Int→Mem→Prop} (hQ:∀ S',Bth S0 S' h r (W.run n k).2→Sole (W.run n k).2 m→Q (W.run n k).1 (W.run n k).1 S') :
  yK S (some (h,0)) n k fun t S1=>yG S1 (some (r,0)) n k fun t' S2=>Q t t' S2:=by
 obtain⟨ρ,A,C,φ,D,m0,hc,hr,hR⟩:=b.ex
 have hf : -90000≤W.free∧W.free≤90000:=by
  have:=hr.free
  have h2:=fp (fun f=>! C.used f) C.N
  have h3:=hr.N
  omega
 refine zhZ hc hr (fun i=>Nat.le_trans (he i) (by omega)) fun S1 hA=>?_
 obtain⟨ρ1,A1,C1,φ1,m1,hc1,hr1,_⟩:=hA
 obtain⟨hR1,hfin⟩:=Bth.act (hc:=hc) m0 hr.wk hR m1 hc1 hr1
 exact zlv hR1 hr.wk hs (fun i=>Nat.le_trans (he i) (by omega)) hf fun S2 hA2 hL=>hQ S2 (hfin S2 hA2) hL.so
theorem zro (b:Bth S0 S h r W) {n x:Int} (hx:0≤x∧x≤255) {Q:Int→Int→Mem→Prop} (hQ:∀ S',Bth S0 S' h r (W.key n x).2→Q (W.key n x).1 (W.key n x).1 S') :
  kU S (some (h,0)) n x fun t S1=>yH S1 (some (r,0)) n x fun t' S2=>Q t t' S2:=by
 obtain⟨ρ,A,C,φ,D,m0,hc,hr,hR⟩:=b.ex
 refine znp hc hr hx fun S1 hA=>?_
 obtain⟨ρ1,A1,C1,φ1,m1,hc1,hr1,_⟩:=hA
 obtain⟨hR1,hfin⟩:=Bth.act (hc:=hc) m0 hr.wk hR m1 hc1 hr1
 exact zlz hR1 hr.wk hx fun S2 hA2=>hQ S2 (hfin S2 hA2)
theorem zny (b:Bth S0 S h r W) {seats quota pages:Int} {img:Sl} {xs:List Int} (himg:∀ ρ,Mv S0 rho0 S ρ (fun q=>Rc q∨Rd q)→ImgAt S ρ img xs) (hil:xs.length≤1000000) {Q:Int→Int→Int→Int→Mem→Prop} (hQ:∀ S',Bth S0 S' h r (W.create seats quota pages xs).2.2→Q (W.create seats quota pages xs).1 (W.create seats quota pages xs).2.1 (W.create seats quota pages xs).1 (W.create seats quota pages xs).2.1 S') :
  xa S (some (h,0)) seats quota pages img fun t u S1=>qS S1 (some (r,0)) seats quota pages img fun t' u' S2=>Q t u t' u' S2:=by
 obtain⟨ρ,A,C,φ,D,m0,hc,hr,hR⟩:=b.ex
 have hf : -90000≤W.free∧W.free≤90000:=by
  have:=hr.free
  have h2:=fp (fun f=>! C.used f) C.N
  have h3:=hr.N
  omega
 have hi:=himg ρ m0
 refine zfv hc hr hi hil fun S1 hA=>?_
 obtain⟨ρ1,A1,C1,φ1,m1,hc1,hr1,_⟩:=hA
 obtain⟨hR1,hfin⟩:=Bth.act (hc:=hc) m0 hr.wk hR m1 hc1 hr1
 exact zhI hR1 hr.wk hf (hi.mv m1) hil fun S2 hA2=>hQ S2 (hfin S2 hA2)
theorem zjv (hr:Rel C W φ) {n:Nat} (hon:(W.vm n).on=false):¬thereV C.vm (n:Int):=fun h=>by
 have h2:(C.vm (n:Int).toNat).on=true:=h.2.2
 rw[Int.toNat_natCast,hr.vm,hon] at h2;cases h2
theorem zkI (hc:CrabA S ρ h A C) (hr:Rel C W φ) {n:Nat} (hn:n<6) {Q:Int→Mem→Prop} (hQ:Q (W.pages n) S):xK S (some (h,0)) n Q:=by
 cases hon:(W.vm n).on with
 | true=>exact zfy hc hr hn hon hQ
 | false=>
  have hz:W.pages n=0:=vE fun p _=>by rw[(hr.wk.off n hon).2.1 p];rfl
  rw[hz] at hQ
  apply gq
  unfold wa
  simp only[jn]
  rw[if_neg (by simp),zV,qQ hc.c3]
  refine wN hc ?_
  rw[decide_eq_false (zjv hr hon),if_neg (by decide)]
  exact hQ
theorem zlr (b:Bth S0 S h r W) {e:Nat} (he:W.evB e) (hel:e≤700000000) {Q:Bool→Mem→Prop} (hQ:∀ S',Keeps S S' []→Q true S'):wq S (some (h,0)) (some (r,0)) Q:=by
 apply zaa
 unfold xv
 refine zI (fun J=>∀ S',Keeps S S' []→J S') (fun S' hk=>?_) fun J hJ=>?_
 ·obtain⟨ρ,A,C,φ,D,m0,hc,hr,hR⟩:=(b.on hk).ex
  rw[zV,qQ hc.c1,zV,zB hR.c1]
  refine zlY hc.pl ?_
  refine⟨hR.c1,?_⟩
  rw[decide_eq_true hr.free.symm]
  exact hQ S' hk
 refine zM (fun (z:Int) S'=>∃ i:Nat,z=(i:Int)∧i≤6∧Keeps S S' []) (fun z=>6-z.toNat) ?_ ⟨0,rfl,by decide,Keeps.refl⟩
 rintro X z S1 ⟨n,rfl,hn6,hk1⟩ ih
 by_cases hlt:(n:Int)<6
 rotate_left
 ·refine zI (fun _=>True) trivial fun J' _=>?_
  rw[if_neg hlt];exact hJ S1 hk1
 have hn:n<6:=by omega
 refine zI (fun J'=>J' S1) ?_ fun J' hJ'=>by rw[if_pos hlt];exact hJ'
 obtain⟨ρ,A,C,φ,D,m0,hc,hr,hR⟩:=(b.on hk1).ex
 have hevn:=he n
 refine zI (fun J'=>∀ S',Keeps S S' []→J' S') (fun S' hk=>by rw[w64 (by omega) (by omega)];exact ih _ _ ⟨n+1,by omega,by omega,hk⟩ (by omega)) fun J1 hJ1=>?_
 refine zfq hc hn (by rw[hr.ev];omega) fun t S2 hk2 hrow hfr=>?_
 rw[hr.ev] at hrow
 have hc2:=hc.keeps hk2
 have hR2:=hR.keeps hr.wk hk2
 have hrw:=hR2.ev n hn
 have hn2:=hrw.n (by decide) (wB fP _)
 have hw1:Rw S2 (fun _=>some 0) 0 4 t ((W.ev n).flatMap evL):=⟨hrow,fun _ _ _=>rfl⟩
 have hn1:=hw1.n (by decide) (wB fP _)
 refine zI (fun J'=>J' S2) ?_ fun J' hJ'=>by
  rw[zV]
  refine⟨by omega,by omega,?_⟩
  rw[wc (hR2.ecell hn (by omega)),if_neg (by rw[hn1,hn2];simp)];exact hJ'
 refine zI (fun J'=>J' S2) ?_ fun J' hJ'=>?_
 ·refine zI (fun J'=>∀ u:Int,u=W.pages n→J' u S2) ?_ fun J' hJ'=>?_
  ·intro u hu
   refine zkI hc2 hr hn ?_
   rw[if_neg (by rw[hu];simp),zV,qQ hc2.c3,zV]
   refine⟨by omega,by omega,?_⟩
   rw[fM (hR2.von hn (by omega))]
   refine wN hc2 ?_
   refine⟨hR2.von hn (by omega),?_⟩
   have hth:decide (thereV C.vm (n:Int))=(W.vm n).on:=by
    cases hon:(W.vm n).on with
    | true=>exact decide_eq_true ⟨by omega,by omega,by rw[Int.toNat_natCast,hr.vm];exact hon⟩
    | false=>exact decide_eq_false (zjv hr hon)
   rw[hth,if_neg (fun h=>h rfl)]
   exact hJ1 S2 (hk1.trans hk2)
  ·rw[zV]
   refine⟨by omega,by omega,?_⟩
   rw[fM (hR2.von hn (by omega))]
   cases hon:(W.vm n).on with
   | true=>
    rw[if_pos rfl]
    exact zeZ hR2 hn (hJ' _ rfl)
   | false=>
    rw[if_neg (by decide)]
    have hz:W.pages n=0:=vE fun p _=>by rw[(hr.wk.off n hon).2.1 p];rfl
    exact hJ' 0 (by rw[hz];rfl)
 ·refine zM (fun (z:Int) S'=>∃ i:Nat,z=(i:Int)∧i≤(W.ev n).length∧S'=S2) (fun z=>(W.ev n).length-z.toNat) ?_ ⟨0,rfl,Nat.zero_le _,rfl⟩
  rintro X2 z S3 ⟨i,rfl,hi,hS⟩ ih2
  subst hS
  by_cases hl2:(i:Int)<(t.n:Int)
  rotate_left
  ·refine zI (fun _=>True) trivial fun J2 _=>?_
   rw[if_neg hl2];exact hJ'
  refine zI (fun J2=>J2 S3) ?_ fun J2 hJ2=>by rw[if_pos hl2];exact hJ2
  have hil:i<(W.ev n).length:=by omega
  have hfl:=wB fP (W.ev n)
  obtain⟨c,e1,e2⟩:=hw1.sl (by rw[hfl];omega)
  obtain⟨c',e1',e2'⟩:=hrw.sl (by rw[hfl];omega)
  rw[show sl t=sl ⟨some (c,0),t.n,t.c⟩ by rw[←e1],jH]
  refine⟨by omega,by omega,?_⟩
  rw[gD ((hw1.part e2 (i*4) (by rw[hfl];omega) (by omega)).trans (zfp fP hil)),zV]
  refine⟨by omega,by omega,?_⟩
  rw[wc (hR2.ecell hn (by omega)),show sl (D.es n)=sl ⟨some (c',0),(D.es n).n,(D.es n).c⟩ by rw[←e1'],jH]
  refine⟨by omega,by omega,?_⟩
  rw[gD ((hrw.part e2' (i*4) (by rw[hfl];omega) (by omega)).trans (zfp fP hil))]
  refine⟨rfl,rfl,?_⟩
  rw[(zfs (ks:=[.i .u8,.i .i64,.i .u64,.i .u64]) rfl rfl).2 rfl,if_neg (by decide),w64 (by omega) (by omega)]
  exact ih2 _ _ ⟨i+1,by omega,by omega,rfl⟩ (by omega)
end
end
end Go.Proofs.YtabdpmnhjlmnlaaGreatDoor
namespace Go.Pt
section
open Go Go.RowKit Go.ChangeShapes
def memOf (W:World):Mem:=fun b=>match W.heap[b]? with
 | some (.cells c t fr)=>some ⟨t,c.toList,fr⟩
 | _=>none
theorem zjx (W:World):St W (memOf W) (memOf W) [] W:=by
 refine⟨rfl,rfl,rfl,Nat.le_refl _,fun _ _ _=>rfl,fun b k h=>?_,by simp,by simp,fun b h1 h2=>(h2 h1).elim,fun _ h=>h⟩
 unfold memOf at h
 split at h
 ·rename_i c t fr hh
  cases h
  simpa using hh
 ·cases h
theorem zku {W:World} {b o:Nat} {v:Value} (h:W.cell? ⟨b,o,none⟩=some v):(memOf W).cell b o=some v:=by
 unfold World.cell? at h
 unfold Mem.cell memOf
 split at h
 ·rename_i c t fr hh
  simp only at hh
  simp only[Option.isSome_none,Bool.false_eq_true,if_false] at h
  rw[hh]
  simp only[zK]
  simpa using h
 ·cases h
theorem zja {P:Program} {f:FuncId} {args:List Value} {W:World} {u:Value} (h:Tr P f (memOf W) args (fun v S'=>v=u∧Keeps (memOf W) S' [])) :
  Calls P f args.toArray W fun e W'=>e=.returned u∧Below W.heap.size W W':=by
 refine (h W (zjx W)).mono ?_
 rintro e W' ⟨v,S',rfl,⟨rfl,hk⟩,hS⟩
 refine⟨rfl,hS.os,hS.tape,hS.output,hS.size,fun k hlt=>?_⟩
 cases hm:memOf W k with
 | none=>exact hS.frame k hlt hm
 | some q=>
  have e1:=hS.mem k q (hk.get hm (by simp))
  have e2:=(zjx W).mem k q hm
  rw[e1,e2]
def BytesIn (S:Mem) (l:Sl):Prop:=∀ i:Nat,i<l.n→∃ b o z,l.p=some (b,o)∧S.cell b (o+i)=some (.int .u8 z)∧0≤z∧z≤255
theorem BytesIn.keep {S S':Mem} {l:Sl} (h:BytesIn S l) (hk:Keeps S S' []):BytesIn S' l:=fun i hi=>by
 obtain⟨b,o,z,h1,h2,h3⟩:=h i hi
 obtain⟨k,h4,h5⟩:=zgs h2
 exact⟨b,o,z,h1,by rw[qo (hk.get h4 (by simp))];exact h5,h3⟩
end
section
open Go Go.RowKit Go.ChangeShapes
def NumsIn (S:Mem) (l:Sl):Prop:=∀ i:Nat,i<l.n→∃ b o z,l.p=some (b,o)∧S.cell b (o+i)=some (.int .u64 z)∧0≤z∧z≤18446744073709551615
theorem NumsIn.keep {S S':Mem} {l:Sl} (h:NumsIn S l) (hk:Keeps S S' []):NumsIn S' l:=fun i hi=>by
 obtain⟨b,o,z,h1,h2,h3⟩:=h i hi
 obtain⟨k,h4,h5⟩:=zgs h2
 exact⟨b,o,z,h1,by rw[qo (hk.get h4 (by simp))];exact h5,h3⟩
end
end Go.Pt
section
namespace Go.Pt
open Go Go.RowKit Go.ChangeShapes Go.WideShapes Go.ChangeAt Go.Lib
theorem ziP {H:Type} {enc:TypeId×Value→H} {a:Assume} {C:Checked} {os:Os} {f:FuncId} {fn:Func} {s:ChangeSpec} {conds:List PathCond} {apart fresh handsOn again:Bool} {X:World→Array Value→Prop}
  (hX:∀ (w w':World) (args:Array Value),w.heap=w'.heap→X w args→X w' args) (own:ownKnob C.prog.godebug=none) (started:os.Started) (noInit:C.prog.inits.idxOf? f=none) (hfn:C.prog.funcs[f]? = some fn)
  (witness:∃ (w:World) (tape:Tape) (i:Input),w.os=os∧(w.forCall tape i).Shaped C.prog∧i.vars=[]∧Input.okWide C.prog (w.forCall tape i) .any w.heap.size f i ∧
   ((s.pre enc C.prog fn conds apart (w.forCall tape i).memory i.args∧X (w.forCall tape i).memory i.args)∧sizedMet enc C.prog fn (OpenSpec.ofChange s) apart (w.forCall tape i).memory i.args)∧a.holds C.prog (lone (Frame.enter C.prog f i.args .normal) [] (w.forCall tape i)))
  (law:∀ (W:World) (base:Nat) (args:Array Value) (ds gs:List (DataW H)) (before:List MemPlace),(∀ (j:Nat) t v,fn.params[j]? = some t→args[j]? = some v→Value.okWide C.prog W .any base t v) →
   DataW.Whole enc C.prog fn.params.toList s.vars apart W args.toList ds gs before→X W args→W.ShapedOpen C.prog →
   Calls C.prog f args W fun e W'=>∃ v,e=.returned v∧s.post enc C.prog fn apart fresh handsOn again W args v W') :
  ReturnsInHanded a C os f .any (fun w args=>(s.pre enc C.prog fn conds apart w args∧X w args)∧sizedMet enc C.prog fn (OpenSpec.ofChange s) apart w args) (s.post enc C.prog fn apart fresh handsOn again):=
 returnsInHanded_of_calls own started noInit witness fun w tape i _ hsh _ hok hpre _=>by
  obtain⟨_,_,_,g,hg,_,_,_,_,hval⟩:=hok
  obtain rfl:g=fn:=Option.some.inj (hg.symm.trans hfn)
  obtain⟨⟨⟨ds,gs,before,hw,_⟩,hx⟩,_⟩:=hpre
  refine (law (w.forCall tape i) w.heap.size i.args ds gs before hval (DataW.Whole.of_heap (w':=w.forCall tape i) (by rfl) hw) (hX _ _ _ (by rfl) hx) hsh).mono fun e W' h=>?_
  obtain⟨v,rfl,hp⟩:=h
  exact ChangeSpec.post_blind hp
theorem wM {a b:Bool} (h:a=true) (k:b=true):(a && b)=true:=by rw[h,k];rfl
end Go.Pt
namespace Go.Proofs.YtabdpmnhjlmnlaaGreatDoor
open Go Go.Pt Go.RowKit Go.Lib Go.Cr Go.ChangeShapes Go.WideShapes
set_option maxRecDepth 10000
theorem znB {W:World} {P:Program} {n:String} {g:Nat} {cs:Array Value} (hg:P.globalNamed n=some g) (h:W.var? P n=some cs):∃ t fr,memOf W g=some ⟨t,cs.toList,fr⟩:=by
 unfold World.var? at h
 rw[hg] at h
 simp only[Option.bind_some] at h
 split at h
 ·rename_i c t fr hh
  cases h
  exact⟨t,fr,by unfold memOf;rw[hh]⟩
 ·cases h
theorem gl_of_laid {W:World} (h:laidMetH Tryz.prog Rows.crabBeginsRow.laid W):Gl (memOf W):=by
 rw[MakeChecks.laidMetH_plain _ _ _ (by kernel_rfl)] at h
 have hp : VarReads Tryz.prog W "math/bits.deBruijn64tab" Rows.laid_math_bits_deBruijn64tab := laidMet.reads h (by simp [Rows.crabBeginsRow])
 obtain⟨g,t,cs,fuel,p,hg,ht,hv,hd⟩:=hp
 obtain rfl := Option.some.inj ((show Tryz.prog.globalNamed "math/bits.deBruijn64tab" = some 0 by kernel_rfl).symm.trans hg)
 obtain rfl:=Option.some.inj ((show (Tryz.prog.globals[0]?).map (·.type)=some 337 by kernel_rfl).symm.trans ht)
 obtain⟨t',fr,hm⟩:=znB hg hv
 have e:(Rows.laid_math_bits_deBruijn64tab:DataW Unit)=tabData .u8 (deBruijn64tab.map fun (n:Nat)=>(n:Int)):=by kernel_rfl
 rw[e] at hd
 have hcs:=cells_of_tab Tryz.underlying337 Tryz.underlying5 (by kernel_rfl) (by kernel_rfl) hd
 rw[hcs,List.map_map] at hm
 exact⟨t',fr,hm⟩
end Go.Proofs.YtabdpmnhjlmnlaaGreatDoor
end
namespace Go.Proofs.YtabdpmnhjlmnlaaGreatDoor
section
open Go Go.Pt Go.RowKit Go.Lib Go.Cr Go.ChangeShapes Go.WideShapes
structure By (S:Mem) (l:Sl) (xs:List Int):Prop where
 len:xs.length=l.n
 cap:l.n≤l.c
 byt:Byt xs
 lie:xs=[]∨∃ b o,l.p=some (b,o)∧S b≠none∧S.part b o xs.length=some (bL xs)
theorem By.keep {S S':Mem} {l:Sl} {xs:List Int} (h:By S l xs) (hk:Keeps S S' []):By S' l xs:=
 ⟨h.len,h.cap,h.byt,h.lie.imp id fun⟨b,o,h1,h2,h3⟩=>by
  have e:=hk b h2 (by simp)
  obtain⟨k,hk⟩:=Option.ne_none_iff_exists'.1 h2
  exact⟨b,o,h1,by rw[e];exact h2,by rw[yh hk] at h3;rw[yh (e.trans hk)];exact h3⟩⟩
theorem By.img {S:Mem} {ρ:Rho} {l:Sl} {xs:List Int} (h:By S l xs) (hr:∀ b o,l.p=some (b,o)→ρ b=none):ImgAt S ρ l xs:=
 ⟨h.len,h.cap,h.byt,h.lie.imp id fun⟨b,o,h1,h2,h3⟩=>⟨b,o,h1,h3,hr b o h1,h2⟩⟩
theorem zoE {H:Type} {enc:TypeId×Value→H} {P:Program} {W:World} {base bs:Nat} {spare:Nat→Bool} {held:Bool} {r:Reach} {t e:TypeId} {v:Value} {d:DataW H} {ps:List MemPlace}
  (ht:P.underlying t=some (.slice e)) (he:P.underlying e=some (.int .u8)) (hc:P.cellsOf e=1) (hval:Value.okWide P W r bs t v) (h:DataW.Trod enc P W base spare held t v d ps):∃ (l:Sl) (xs:List Int),v=eL l∧By (memOf W) l xs:=by
 obtain⟨fuel,hf⟩:=h
 rcases open_ints ht he hc hf with ⟨h0,_⟩ | ⟨a,len,cap,zs,h0,_,hl,hm,hz,_,hcell,hw⟩
 ·refine⟨⟨none,0,0⟩,[],?_,⟨rfl,Nat.le_refl _,fun x hx=>(by cases hx),.inl rfl⟩⟩
  cases v <;> simp_all [Value.cells,eL,adr,Value.okWide,Cell.okWide,Cell.ok]
 ·have hv:v=.slice (some a) len cap:=by
   cases v <;> simp_all [Value.cells,Value.okWide,Cell.okWide,Cell.ok]
  subst hv
  have hval':a.spot=none∧len≤cap:=by
   simp only[Value.okWide,ht,Cell.okWide,Cell.ok] at hval
   exact⟨hval.2.2.2.1,hval.1⟩
  obtain⟨b,o,sp⟩:=a
  simp only at hval'
  obtain⟨hsp,hcap⟩:=hval'
  subst hsp
  have hln:len≤zs.length:=by rw[hz];split <;> omega
  refine⟨⟨some (b,o),len,cap⟩,zs.take len,rfl,⟨?_,hcap,fun x hx=>bounds_u8 (hw _ (List.mem_of_mem_take hx)),?_⟩⟩
  ·simp only[List.length_take];omega
  ·by_cases h0:len=0
   ·left;rw[h0];rfl
   right
   have key:∀ i,i<len→(memOf W).cell b (o+i)=some (.int .u8 (zs.getD i 0)):=fun i hi=>by
    have:=hcell i (by omega)
    have e:(⟨b,o,none⟩:Addr).add i=⟨b,o+i,none⟩:=by unfold Addr.add;split <;> simp_all
    rw[e] at this
    exact zku this
   obtain⟨k,hk,_⟩:=zgs (key 0 (by omega))
   have hlt:∀ i,i<len→k.cs[o+i]? = some (.int .u8 (zs.getD i 0)):=fun i hi=>by
    have:=key i hi
    rw[qo hk,zK] at this
    exact this
   have hb:o+(len-1)<k.cs.length:=by
    have:=hlt (len-1) (by omega)
    exact (List.getElem?_eq_some_iff.1 this).1
   have hll:(zs.take len).length=len:=by rw[List.length_take];omega
   refine⟨b,o,rfl,by rw[hk];simp,?_⟩
   rw[hll,yh hk,qA (by omega)]
   congr 1
   apply List.ext_getElem?
   intro i
   rw[List.getElem?_take,List.getElem?_drop]
   unfold bL
   rw[List.getElem?_map,List.getElem?_take]
   by_cases hi:i<len
   ·rw[if_pos hi,if_pos hi,hlt i hi,List.getElem?_eq_getElem (by omega),List.getD_eq_getElem?_getD,List.getElem?_eq_getElem (by omega)];rfl
   ·rw[if_neg hi,if_neg hi];rfl
end
section
open Go Go.Pt Go.Cr Go.Hp
section
variable {S S' S0:Mem} {h r:Nat} {W:Wd}
theorem By.imgB {S0 S:Mem} {p:Sl} {xs:List Int} (hb:By S0 p xs) {ρ:Rho} {R:Nat→Prop} (m:Mv S0 rho0 S ρ R):ImgAt S ρ p xs:=by
 have h:=hb.keep (zfh m)
 refine⟨h.len,h.cap,h.byt,?_⟩
 rcases h.lie with h0 | ⟨b,o,g1,g2,g3⟩
 ·exact .inl h0
 rcases hb.lie with h0 | ⟨b',o',h1,h2,h3⟩
 ·exact .inl h0
 have e:b'=b:=by rw[h1] at g1;cases g1;rfl
 subst e
 refine .inr ⟨b',o,g1,g3,?_,g2⟩
 cases hρ:ρ b' with
 | none=>rfl
 | some q=>have:=m.old b' q hρ h2;cases this
set_option maxHeartbeats 1000000 in
theorem ziX (hgl:Gl S) {form steps key:Int} (hf:0≤form∧form≤255) {p:Sl} {xs:List Int} (hb:By S p xs) (hst:0≤steps∧steps≤255) (hk:0≤key∧key≤255):qI S form p steps key fun r S'=>r=true∧Keeps S S' []:=by
 have hlen:=hb.len
 unfold qI
 refine zI (fun J=>∀ S1,Keeps S S1 []→xs.length≤512→J S1) ?_ fun J hJ=>?_
 rotate_left
 ·refine zgt hgl fun S1 hk1=>?_
  rw[if_pos rfl]
  have hg1:Gl S1:=hgl.keep (hk1 0 (zdm hgl) (by simp))
  by_cases h512:512<(p.n:Int)
  ·rw[if_pos h512]
   exact zgt hg1 fun S2 hk2=>⟨rfl,hk1.trans hk2⟩
  ·rw[if_neg h512]
   exact hJ S1 hk1 (by omega)
 intro S1 hk1 h512
 have hg1:Gl S1:=hgl.keep (hk1 0 (zdm hgl) (by simp))
 have hb1:=hb.keep hk1
 have ef:IntKind.i64.wrap (1+IntKind.i64.wrap (Int.tmod form 2))=1+form%2:=by rw[Int.tmod_eq_emod_of_nonneg hf.1,w64 (x:=form%2) (by omega) (by omega),w64 (by omega) (by omega)]
 rw[ef]
 refine zqw hg1 (fun hbad=>by unfold badNew at hbad;omega) fun _ S2 h l2=>?_
 refine zI (fun J=>J S2) ?_ fun J hJ=>by rw[if_neg (by decide)];exact hJ
 obtain⟨ρ,A,C,φ,m1,hc1,hr1⟩:=l2
 refine zly hc1.rg fun r ρ2 S3 m2 hR2=>?_
 have hW0:W0 ((40:Int)-2)=W0 38:=by rfl
 rw[hW0] at hr1
 have b3:Bth S1 S3 h r (W0 38):=⟨⟨ρ2,A,C,φ,ra0,(m1.mono fun q hq=>.inl hq).trans (m2.mono fun _ h=>h.elim),hc1.keep m2 fun _ _ h=>h,hr1,hR2⟩⟩
 have ec:(W0 38).create 1 4 2 xs=(0,0,(W0 38).made 0 1 4 2 xs):=zmr (n:=0) (by decide) (by omega) (by decide) (by decide)
 refine zny b3 (fun ρ m=>hb1.imgB m) (by omega) fun S4 b4=>?_
 rw[ec] at b4 ⊢
 have hs4:Sole ((W0 38).made 0 1 4 2 xs) 0:=zlS (sn:=1)
 have e4:((W0 38).made 0 1 4 2 xs).evB 0:=by
  have:=(evB_W0 (f:=38)).create (s:=1) (q:=4) (p:=2) (img:=xs)
  rw[ec] at this;exact this
 refine zro b4 hk fun S5 b5=>?_
 have hs5:=(znq b4.wk hs4 (m:=0) hk).so
 have e5:=e4.key (n:=0) (b:=key)
 refine zI (fun J=>∀ S' W,Bth S1 S' h r W→W.evB 765→J S') (fun S6 W6 b6 e6=>?_) fun J hJ=>?_
 ·rw[if_pos rfl,if_pos rfl,if_pos rfl]
  exact zlr b6 e6 (by decide) fun S7 hk7=>⟨rfl,hk1.trans (b6.keeps0.trans hk7)⟩
 have est:IntKind.i64.wrap steps=steps:=w64 (by omega) (by omega)
 rw[est]
 refine zM (fun (z:Int) S'=>∃ (i:Nat) (W:Wd),z=(i:Int)∧(i:Int)≤steps∧Bth S1 S' h r W∧Sole W 0∧W.evB (3*i)) (fun z=>(steps-z).toNat) ?_ ⟨0,_,rfl,by omega,b5,hs5,e5⟩
 rintro X z S6 ⟨i,W,rfl,hi,b6,hs6,e6⟩ ih
 by_cases hlt:(i:Int)<steps
 ·refine zI (fun J=>J S6) ?_ fun J hJ=>by rw[if_pos hlt];exact hJ
  refine zrl b6 hs6 e6 (by omega) fun S7 b7 hs7=>?_
  rw[if_neg (fun h=>h rfl),w64 (by omega) (by omega)]
  exact ih _ _ ⟨i+1,_,by omega,by omega,b7,hs7,e6.run⟩ (by omega)
 ·refine zI (fun _=>True) trivial fun J' _=>?_
  rw[if_neg hlt]
  exact hJ S6 W b6 (e6.mono (by omega))
end
end
end Go.Proofs.YtabdpmnhjlmnlaaGreatDoor
