/- Texts of this work,joined by program (pack.py): Xj,Xk,Rt,Ru,PsO,Ik,Im,PsV,Jv,PtL,PtM,Jr,Jt,Jg,PsY,Xl. -/
import Derived.Test.YtabdpmnhjlmnlaaGreatDoorQLP
import Derived.Test.YtabdpmnhjlmnlaaGreatDoorQLO
import Derived.Test.YtabdpmnhjlmnlaaGreatDoorQLC
import Derived.Test.YtabdpmnhjlmnlaaGreatDoorQLL
import Derived.Test.YtabdpmnhjlmnlaaGreatDoorQLE
import Derived.Test.YtabdpmnhjlmnlaaGreatDoorQLB
import Derived.ProofKit
import Derived.OpenShut
import Derived.Test.YtabdpmnhjlmnlaaGreatDoorRows
import Derived.LaidMore
import Derived.Lay
import Derived.Lib.LaidU8
import Derived.Deep.Slices
import Derived.Stop.Joined
set_option linter.unusedVariables false
section
namespace Go.Cr.Id
open Go Go.Pt Go.Hp
theorem zjR {x:Vx} {v:Bv} {A:Nat→Nat} {ow:Nat→Bool} {begun:Int}:(imL x v A ow begun).all (·.oneCell')=true:=by
 unfold imL
 rw[List.all_append,List.all_append]
 have h1:(cF 32 fun p=>slL (A p) (ow p)).all (·.oneCell')=true:=zjk fun p _=>by
  unfold slL
  cases ow p <;> rfl
 have h2:(vmC x v 0 0).all (·.oneCell')=true:=rfl
 rw[h1,h2];rfl
theorem zhn {f F:Int} {sn qn:Nat} {xs:List Int} (i:Nat):(pgsI f F sn qn xs i).free=F:=by rw[zeP]
theorem zkW {l:List Int}:(l.take 256)++noughts.drop (l.take 256).length=fit256 l:=by
 unfold fit256 noughts
 rw[List.drop_replicate,List.length_take]
 congr 2
 omega
end Go.Cr.Id
namespace Go.Proofs.YtabdpmnhjlmnlaaGreatDoor
open Go Go.Pt Go.Cr Go.Hp Go.Cr.Id
def IHas (b:Nat) (S:Mem) (ρ:Rho) (W':Wd) (S':Mem):Prop:=∃ ρ' D',Mv S ρ S' ρ' Ri∧IdA S' ρ' b D' W'∧(D'.x 0).ks=nilL
section
variable {S S':Mem} {ρ ρ':Rho} {R:Nat→Prop} {b:Nat} {D:Da} {W:Wd} {n k:Nat} {s:Seat} {f F:Int} {sn qn pn:Nat} {img:Sl} {xs:List Int}
theorem icopy (himg:ImgAt S ρ img xs) (hil:xs.length≤1000000) {c q i:Nat} (hi:i<32) (hg:∀ b r,ρ b=some r→S b≠none) (hb:Bl S ρ q c (bw 145 (bL noughts))) {K:Mem→Prop} (hK:∀ S',Mv S ρ S' ρ (· = q)→Bl S' ρ q c (bw 145 (bL (pageB xs i)))→K S') :
  if IntKind.i64.wrap (256*(i:Int))<(img.n:Int) then
   (0:Int)≤IntKind.i64.wrap (256*(i:Int))∧(IntKind.i64.wrap (256*(i:Int)):Int)≤(img.n:Int)∧(img.n:Int)≤(img.c:Int) ∧
   lt (slc 1 img (IntKind.i64.wrap (256*(i:Int))) (img.n:Int)) fun t_5=>cpy S 1 ⟨some (c,0),256,256⟩ t_5 fun _ Sx_12=>K Sx_12
  else K S:=by
 have hlen:=himg.len
 have hcap:=himg.cap
 rw[w64 (x:=256*(i:Int)) (by omega) (by omega)]
 by_cases hlt:256*(i:Int)<(img.n:Int)
 ·rw[if_pos hlt]
  refine⟨by omega,by omega,by omega,?_⟩
  rcases himg.lie with h0 | ⟨b0,o0,hp,hpart,_,_⟩
  ·rw[h0] at hlen;simp at hlen;omega
  have es:slc 1 img (256*(i:Int)) (img.n:Int)=⟨some (b0,o0+256*i),img.n-256*i,img.c-256*i⟩:=by
   unfold slc
   rw[hp,show (256*(i:Int)).toNat=256*i by omega,if_neg (by omega),show ((img.n:Int)-256*(i:Int)).toNat=img.n-256*i by omega]
   simp
  rw[es]
  have hv:((xs.drop (256*i)).take 256).length=min (img.n-256*i) 256:=by rw[List.length_take,List.length_drop];omega
  have hpt:S.part b0 (o0+256*i) (min (img.n-256*i) 256)=some (bL ((xs.drop (256*i)).take 256)):=by
   obtain⟨kb,k1,k2⟩:=zcz hpart
   obtain⟨h1,h2,_⟩:=qV k2
   rw[xG k1,qR (by omega)]
   have e1:(kb.cs.drop o0).take xs.length=bL xs:=h2
   have e2:bL ((xs.drop (256*i)).take 256)=((bL xs).drop (256*i)).take 256:=by
    unfold bL;rw[List.map_take,List.map_drop]
   rw[e2,←e1,List.drop_take,List.drop_drop,List.take_take]
   congr 2
   omega
  refine⟨bL ((xs.drop (256*i)).take 256),.inr ⟨b0,o0+256*i,rfl,by simp only[Nat.mul_one];exact hpt⟩,by unfold bL;rw[List.all_map];exact List.all_eq_true.2 fun _ _=>rfl,.inr ⟨c,0,rfl,⟨_,hb.at_,rfl,?_⟩,?_⟩⟩
  ·show 0+_≤(bL noughts).length
   unfold bL;rw[List.length_map,qJ];simp only;omega
  ·have hm:Mv S ρ (S.put c 0 (bL ((xs.drop (256*i)).take 256))) ρ (· = q):=by
    rw[wu hb.at_]
    exact (Mv.refl (R:=(· = q)) hg).put hb.rol rfl _
   refine hK _ hm ⟨?_,hb.rol⟩
   rw[wu hb.at_,qf]
   show some (⟨145,spl (bL noughts) 0 (bL ((xs.drop (256*i)).take 256)),(0,0)⟩:Blk)=_
   rw[zgV (by rw[hv,qJ];omega)]
   have e:spB noughts 0 ((xs.drop (256*i)).take 256)=pageB xs i:=by
    unfold spB pageB
    rw[List.take_zero,List.nil_append,Nat.zero_add]
    exact zkW
   rw[e]
 ·rw[if_neg hlt]
  refine hK S (Mv.refl hg) ?_
  have e:pageB xs i=noughts:=by
   unfold pageB
   rw[List.drop_of_length_le (by omega),←zkW]
   rfl
  rw[e];exact hb
set_option maxHeartbeats 1000000 in
theorem zbb (h:IdA S ρ b D (W0 f)) (hs:1≤sn∧sn≤3) (hq:1≤qn∧qn≤32) (hp:1≤pn∧pn≤qn) (himg:ImgAt S ρ img xs) (hil:xs.length≤256*pn) (hf:5+(pn:Int)≤f∧f≤1000000) {Q:Int→Int→Mem→Prop}
  (hQ:∀ S',IHas b S ρ ((W0 f).made 0 sn qn pn xs) S'→Q 0 0 S'):xd S (some (b,0)) sn qn pn img Q:=by
 have hlen:=himg.len
 have hF:f-(5+(pn:Int))=f-(5+pn):=rfl
 generalize hFd:f-(5+(pn:Int))=F
 apply gN
 unfold xQ
 refine zhv hs.1 hs.2 (by omega) (by omega) fun ss b0 b1 b2 b3 S1 hM=>?_
 refine⟨rfl,?_⟩
 have hk1:=hM.pages.keep
 have hnorole:∀ c,S c=none→ρ c=none:=fun c hc=>by
  cases hq:ρ c with
  | none=>rfl
  | some r=>exact absurd hc (h.rg c r hq)
 obtain⟨ρ1,m1,g1,g2,g3,g4,g5⟩:=give5 (q:=610) (d:=fun j=>650+j) (Mv.keeps (R:=fun _=>False) h.rg hk1) (zbS h.gl) hM.row (fun c o e=>⟨(hM.fresh c o e).1,hnorole _ (hM.fresh c o e).1⟩) (fun c hc=>⟨(hM.pages.at_ c hc).1,hnorole _ (hM.pages.at_ c hc).1,(hM.pages.at_ c hc).2⟩) hM.pages.nodup (fun c o e=>(hM.fresh c o e).2)
 have h1:=h.keep wok_W0 m1 fun _ _ _ h=>h
 have himg1:=himg.mv m1
 have hbs:∀ c,c∈[b0,b1,b2,b3]→S1 c≠none:=fun c hc=>by rw[(hM.pages.at_ c hc).2];simp
 have d0:=zfw g2 (hbs b0 (by simp))
 have d1:=zfw g3 (hbs b1 (by simp))
 have d2:=zfw g4 (hbs b2 (by simp))
 have d3:=zfw g5 (hbs b3 (by simp))
 refine zZ (fun J=>J S1) ?_ fun J hJ=>?_
 rotate_left
 ·rw[if_neg (by simp),if_neg (by decide),if_neg (by omega),if_neg (by omega),w64 (by omega) (by omega),if_neg (by omega)]
  exact hJ
 refine zZ (fun J=>J 0 S1) ?_ fun J hJ=>?_
 rotate_left
 ·refine qx (fun (z:Int) S'=>z=0∧S'=S1) (fun _=>0) ?_ ⟨rfl,rfl⟩
  rintro X z S2 ⟨rfl,hS⟩ _
  subst hS
  rw[if_pos (by decide),qY]
  refine⟨by decide,by decide,?_⟩
  have g0:S2.cell b (0+2+(0:Int).toNat*109)=some (.bool false):=h1.on_ (n:=0) (by decide) rfl
  rw[zav g0,if_neg (by decide)]
  exact hJ
 have e5:IntKind.i64.wrap (5+(pn:Int))=5+pn:=w64 (by omega) (by omega)
 refine zZ (fun J=>J S1) ?_ fun J hJ=>?_
 rotate_left
 ·rw[if_neg (by decide),qY,zW h1.c1,e5]
  have e:(W0 f).free=f:=rfl
  rw[e,if_neg (by omega)]
  exact hJ
 have e6:IntKind.i64.wrap (f-(5+(pn:Int)))=F:=by rw[w64 (by omega) (by omega),hFd]
 have e7:(W0 f).free=f:=rfl
 rw[qY,zW h1.c1,e5,e7,e6]
 refine h1.put 1 (vs:=[.int .i64 F]) rfl (by simp) rfl fun S2 m2 h2=>?_
 rw[Ic0.setf] at h2
 rw[zW ((qK h2.at_).trans (show _=some (Value.int .u64 D.now) from rfl))]
 refine⟨by decide,by decide,?_⟩
 generalize hdd:(fun j:Nat=>if j=0 then pg b0 else if j=1 then pg b1 else if j=2 then pg b2 else pg b3)=dd
 have hd0:dd 0=pg b0:=by rw[←hdd];rfl
 have hd1:dd 1=pg b1:=by rw[←hdd];rfl
 have hd2:dd 2=pg b2:=by rw[←hdd];rfl
 have hd3:dd 3=pg b3:=by rw[←hdd];rfl
 have e12:mk12 ss qn b0 b1 b2 b3=vmC ⟨ss,nilL,nilL,dd⟩ (mkV sn qn) 0 0:=by
  unfold vmC
  simp only[hd0,hd1,hd2,hd3]
  rfl
 have ecells:spl (spl z122 0 (mk12 ss qn b0 b1 b2 b3)) 108 [.int .u64 D.now]=imL ⟨ss,nilL,nilL,dd⟩ (mkV sn qn) (fun p=>D.A (32*0+p)) (fun _=>false) D.now:=by
  rw[zjs,e12,zjf (j:=0) (x':=⟨ss,nilL,nilL,dd⟩) (v':=mkV sn qn) (by rw[vI];decide) (zbA (by rw[vI,vI])),zkS]
  exact ziN
 rw[ecells]
 refine⟨zjR,?_⟩
 refine Bl.ptN h2 m2.rg (i:=2+(0*109+0)) (vs:=imL ⟨ss,nilL,nilL,dd⟩ (mkV sn qn) (fun p=>D.A (32*0+p)) (fun _=>false) D.now) imL_len.symm (by rw[imL_len,Ic0.len];decide) rfl fun S3 m3 h3=>?_
 have hset:=Ic0.set (c:={ D.c (W0 f) with free:=F }) (n:=0) (j:=0) (vs:=imL ⟨ss,nilL,nilL,dd⟩ (mkV sn qn) (fun p=>D.A (32*0+p)) (fun _=>false) D.now) (x':=⟨ss,nilL,nilL,dd⟩) (v':=mkV sn qn) (A':=D.A) (ow':=fun _=>false) (b':=D.now) (by decide) (by rw[imL_len];decide) rfl (zbA (by rw[imL_len,imL_len])) fun _ _=>rfl
 rw[hset] at h3
 refine⟨by decide,by decide,?_⟩
 refine Bl.ptN h3 m3.rg (i:=753+0) (vs:=[eL nilL]) rfl (by rw[Ic0.len];simp) rfl fun S4 m4 h4=>?_
 rw[Ic0.sete (by decide) rfl] at h4
 have m24:Mv S1 ρ1 S4 ρ1 (· = 600):=m2.trans (m3.trans m4)
 have hX0:IdA S4 ρ1 b { D with x:=upd D.x 0 ⟨ss,nilL,nilL,dd⟩,be:=upd D.be 0 D.now,es:=upd D.es 0 nilL } (pgsI f F sn qn xs 0):=by
  refine⟨m24.rg,zjj h1.gl m24 h1.g0,zji h1.gl m24 h1.g0,?_,fun i hi=>?_,fun i hi=>?_,fun i hi ho j hj=>?_,fun i p l hl=>(by cases hl),fun i hi=>?_,h1.ck.keep m24 (by omega),h1.now,fun i ho=>?_⟩
  ·have e1:upd (D.c (W0 f)).ow 0 (fun _=>false)=fun i p=>((pgsI f F sn qn xs 0).own i p).isSome:=by
    funext i p
    by_cases e:i=0
    ·subst e;rw[zt];rfl
    ·rw[zv e];rfl
   have h5:=h4
   dsimp only at h5
   rw[e1] at h5
   exact h5
  ·show Rw S4 ρ1 (610+i) 26 (upd D.x 0 _ i).ss ((upd (W0 f).vm 0 (mkV sn qn) i).seats.flatMap Seat.L)
   by_cases e:i=0
   ·subst e
    rw[zt,zt]
    have:(mkV sn qn).seats=List.replicate sn seat0:=by show List.replicate ((sn:Int)).toNat seat0=_;rw[Int.toNat_natCast]
    rw[this]
    exact g1.keep m24 (by omega)
   ·rw[zv e,zv e];exact (h1.se i hi).keep m24 (by omega)
  ·show Kr S4 ρ1 (620+i) (upd D.x 0 _ i).ks (upd (W0 f).vm 0 (mkV sn qn) i).keys
   by_cases e:i=0
   ·subst e;rw[zt,zt];exact Kr.nil
   ·rw[zv e,zv e];exact (h1.ke i hi).keep m24 (by omega)
  ·have ho':(upd (W0 f).vm 0 (mkV sn qn) i).on=true:=ho
   by_cases e:i=0
   ·subst e
    show Kr S4 ρ1 (650+(4*0+j)) ((upd D.x 0 _ 0).d j) ((upd (W0 f).vm 0 (mkV sn qn) 0).disk j)
    rw[zt,zt]
    show Kr S4 ρ1 (650+(4*0+j)) (dd j) noughts
    have hj4:j=0∨j=1∨j=2∨j=3:=by omega
    rcases hj4 with e | e | e | e <;> subst e
    ·rw[hd0];exact d0.keep m24 (by omega)
    ·rw[hd1];exact d1.keep m24 (by omega)
    ·rw[hd2];exact d2.keep m24 (by omega)
    ·rw[hd3];exact d3.keep m24 (by omega)
   ·rw[zv e] at ho';cases ho'
  ·show Rw S4 ρ1 (640+i) 4 (upd D.es 0 nilL i) ((upd (W0 f).ev 0 [] i).flatMap evL)
   by_cases e:i=0
   ·subst e;rw[zt,zt];exact Rw.nil
   ·rw[zv e,zv e];exact (h1.ev i hi).keep m24 (by omega)
  ·have ho':(upd (W0 f).vm 0 (mkV sn qn) i).on=true:=ho
   by_cases e:i=0
   ·subst e
    show 0≤upd D.be 0 D.now 0∧upd D.be 0 D.now 0≤D.now∧(0:Int)=D.now-upd D.be 0 D.now 0
    rw[zt]
    have:=h1.now
    exact⟨this.1,Int.le_refl _,by omega⟩
   ·rw[zv e] at ho';cases ho'
 have mS4:Mv S ρ S4 ρ1 Ri:=(m1.mono fun _ h=>h.elim).trans (m24.mono fun q hq=>by omega)
 have himg4:=himg1.mv m24
 refine zZ (fun J=>∀ S',IHas b S ρ ((W0 f).made 0 sn qn pn xs) S'→J S') (fun S5 hI=>hQ S5 hI) fun J hJ=>?_
 refine qx (fun (z:Int) S'=>∃ (i:Nat) (ρ':Rho) (D':Da),z=(i:Int)∧i≤pn∧Mv S ρ S' ρ' Ri∧IdA S' ρ' b D' (pgsI f F sn qn xs i)∧(D'.x 0).ks=nilL∧ImgAt S' ρ' img xs) (fun z=>pn-z.toNat) ?_ ⟨0,ρ1,_,rfl,Nat.zero_le _,mS4,hX0,(show (upd D.x 0 (⟨ss,nilL,nilL,dd⟩:Vx) 0).ks=nilL by rw[zt]),himg4⟩
 rintro X z S5 ⟨i,ρ5,D5,rfl,hi,m5,h5,hks5,himg5⟩ ih
 by_cases hlt:(i:Int)<(pn:Int)
 rotate_left
 ·rw[if_neg hlt]
  have:i=pn:=by omega
  subst this
  rw[zdV hFd.symm] at h5
  exact hJ S5 ⟨ρ5,D5,m5,h5,hks5⟩
 rw[if_pos hlt]
 have hi32:i<32:=by omega
 obtain⟨hwk5,hso5,_⟩:=zeO (f:=f) (F:=F) (sn:=sn) (qn:=qn) (xs:=xs) hs hq himg.byt (i:=i) (by omega)
 intro c hc
 rw[zgD]
 have m6:Mv S5 ρ5 (S5.set c (bw 145 (bL noughts))) (ρ5.upd c (700+(32*0+i))) (fun _=>False):=(Mv.refl m5.rg).new hc _ _
 have h6:=h5.keep hwk5 m6 fun _ _ _ h=>h
 have himg6:=himg5.mv m6
 refine zZ (fun J=>∀ S6,Mv (S5.set c (bw 145 (bL noughts))) (ρ5.upd c (700+(32*0+i))) S6 (ρ5.upd c (700+(32*0+i))) (· = 700+(32*0+i))→Bl S6 (ρ5.upd c (700+(32*0+i))) (700+(32*0+i)) c (bw 145 (bL (pageB xs i)))→J S6) (fun S7 m7 hb7=>?_) fun J hJ2=>?_
 rotate_left
 ·have:=icopy himg6 (by omega) hi32 m6.rg (q:=700+(32*0+i)) (c:=c) ⟨qf,yt⟩ hJ2
  exact this
 refine⟨by decide,by decide,by omega,by omega,?_⟩
 have hd7:=h6.hd.keep m7 (by omega)
 refine Bl.ptN hd7 m7.rg (i:=2+(0*109+(12+i*3))) (vs:=slL c true) rfl (by rw[Ic0.len];show _+3≤759;omega) (by rw[Int.toNat_natCast];show 0+2+0*109+12+i*3=_;omega) fun S8 m8 h8=>?_
 have e1:=zhX (D:=D5) (W:=pgsI f F sn qn xs i) (f:=F) (n:=0) (by decide) (p:=i) hi32 (o:=some (pageB xs i)) (a:=c)
 have e2:({ D5.c (pgsI f F sn qn xs i) with free:=F }:Ic0)=D5.c (pgsI f F sn qn xs i):=by
  unfold Da.c
  rw[zhn]
 rw[e2] at e1
 rw[show slL c (some (pageB xs i)).isSome=slL c true from rfl] at e1
 rw[e1] at h8
 have m78:Mv (S5.set c (bw 145 (bL noughts))) (ρ5.upd c (700+(32*0+i))) S8 (ρ5.upd c (700+(32*0+i))) (fun q=>q=600∨q=700+(32*0+i)):=(m7.mono fun q hq=>.inr hq).trans (m8.mono fun q hq=>.inl hq)
 have hfin:=h6.own (o:=some (pageB xs i)) (f:=F) (A':=upd D5.A (32*0+i) c) hwk5 (by decide) hi32 (fun f e=>zv e) m78 (fun q hq=>hq) h8 (fun l hl=>by
  cases hl
  rw[zt]
  exact hb7.keep m8 (by omega))
 rw[w64 (by omega) (by omega)]
 have mm:Mv S5 ρ5 S8 (ρ5.upd c (700+(32*0+i))) Ri:=(m6.mono fun _ h=>h.elim).trans (m78.mono fun q hq=>by omega)
 exact ih _ _ ⟨i+1,_,_,by omega,by omega,m5.trans mm,hfin,hks5,himg6.mv m78⟩ (by omega)
end
end Go.Proofs.YtabdpmnhjlmnlaaGreatDoor
end
section
namespace Go.Proofs.YtabdpmnhjlmnlaaGreatDoor
open Go Go.Pt Go.Cr Go.Hp Go.Cr.Id
section
variable {S S':Mem} {ρ ρ':Rho} {R:Nat→Prop} {b:Nat} {D:Da} {W:Wd} {n k:Nat} {s:Seat}
theorem zhJ (h:IdA S ρ b D W) (hwk:WOk W) (hs:Sole W 0) (hks:(D.x 0).ks=nilL) {x:Int} (hx:0≤x∧x≤255) {Q:Int→Mem→Prop}
  (hQ:∀ S' ρ' D',Mv S ρ S' ρ' Ri→IdA S' ρ' b D' (W.key 0 x).2→Q 0 S'):vN S (some (b,0)) 0 x Q:=by
 have hon:=hs.on
 have hkl:(W.vm 0).keys=[]:=by
  have:=(h.ke 0 (by decide)).len
  rw[hks] at this
  exact List.length_eq_zero_iff.1 this
 have h3:=hwk.seats 0 hon
 apply zaI
 unfold ve
 simp only[jn]
 refine jb h ?_
 have ht:W.there 0:=⟨by decide,by decide,hon⟩
 rw[decide_eq_true ht,if_pos rfl,qY]
 refine⟨by decide,by decide,?_⟩
 have gks:S.cell b (0+2+(0:Int).toNat*109+6)=some (eL nilL):=by
  have:=h.ks (n:=0) (x:=0+2+(0:Int).toNat*109+6) (by decide) rfl
  rw[hks] at this;exact this
 rw[vP gks,if_neg (by decide),qY]
 refine⟨by decide,by decide,?_⟩
 rw[vP gks]
 refine jv (s:=nilL) Row.nil rfl (by decide) rfl (by decide) fun t S1 c kb e1 e2 e3 e4 e5=>?_
 have hc:S c=none:=by
  rcases e3 with e3 | e3
  ·cases e3
  ·exact e3
 have hc1:S1 c≠none:=by rw[e4,qf];simp
 have hk1:Keeps S S1 []:=by rw[e4];exact Keeps.refl.fresh hc
 have m1:Mv S ρ S1 (ρ.upd c 620) (fun _=>False):=Mv.claim h.rg hk1 hc hc1
 have h1:=h.keep hwk m1 fun _ _ _ h=>h
 have hkr:Kr S1 (ρ.upd c 620) 620 t [x]:=by
  have hp:=e5.part e2
  have e1':t.n=1:=e1
  refine⟨by rw[e1'];rfl,e5.cap,.inr ⟨c,0,e2,?_,yt,hc1⟩⟩
  rw[e1'] at hp;exact hp
 refine⟨by decide,by decide,?_⟩
 refine h1.putV (n:=0) (j:=6) (vs:=[eL t]) (x':={ D.x 0 with ks:=t }) (v':=(W.vm 0).setKeys [x]) (by decide) rfl (by simp) rfl rfl fun S3 m3 h3'=>?_
 have hA:=h1.setV hwk (by decide) m3 (fun q hq=>.inl hq) h3' ((h1.se 0 (by decide)).keep m3 (by omega)) (hkr.keep m3 (by omega)) (fun ho j hj=>(h1.di 0 (by decide) hon j hj).keep m3 (by omega)) rfl
 have hw2:WOk (W.setV 0 ((W.vm 0).setKeys [x])):=hwk.setV hon hon rfl (hwk.ok 0) ⟨(show ([x]:List Int).length≤64 by simp),fun y hy=>by
  have hy':y∈[x]:=hy
  rw[List.mem_singleton] at hy';rw[hy'];exact hx⟩ (fun j=>hwk.disk 0 j hon) rfl rfl
 have m13:Mv S ρ S3 (ρ.upd c 620) Ri:=(m1.mono fun _ h=>h.elim).trans (m3.mono fun q hq=>by omega)
 have hlen2:0<((W.setV 0 ((W.vm 0).setKeys [x])).vm 0).seats.length:=by
  show 0<(upd W.vm 0 _ 0).seats.length
  rw[zt];show 0<(W.vm 0).seats.length;omega
 have hon2:((W.setV 0 ((W.vm 0).setKeys [x])).vm 0).on=true:=by
  show (upd W.vm 0 _ 0).on=true
  rw[zt];exact hon
 have ekey:(W.key 0 x).2=((W.setV 0 ((W.vm 0).setKeys [x])).raise 0 0 6).2:=by
  unfold Wd.key
  rw[if_neg (fun h=>h ht)]
  show (if 64≤(W.vm 0).keys.length then (3,W) else (0,((W.setV 0 ((W.vm 0).setKeys ((W.vm 0).keys++[x]))).raise 0 0 6).2):Int×Wd).2=_
  rw[hkl,if_neg (by decide),List.nil_append]
 rw[ekey] at hQ
 generalize W.setV 0 ((W.vm 0).setKeys [x])=W2 at hA hw2 hlen2 hon2 hQ
 generalize D.setX 0 { D.x 0 with ks:=t } = D2 at hA
 refine⟨by decide,by decide,?_⟩
 have gss:S3.cell b (0+2+(0:Int).toNat*109+1)=some (eL (D2.x 0).ss):=hA.ss (n:=0) (by decide) rfl
 obtain⟨hsn,cb,ess,_,_,_,_⟩:=xV (hA.se 0 (by decide)) hA.rg (hw2.ok 0) hlen2
 have hsp:(D2.x 0).ss.p=some (cb,0):=by rw[ess]
 obtain⟨hAt,hok,hrol⟩:=zfy hA hw2 (by decide) hlen2 hsp
 have slx:∀ {K:Nat→Nat→Nat→Nat→Prop},sl ⟨some (cb,0),(D2.x 0).ss.n,(D2.x 0).ss.c⟩ K→sl (D2.x 0).ss K:=fun hh=>by rw[ess];exact hh
 rw[vP gss]
 refine slx ?_
 rw[zah]
 refine⟨by omega,?_⟩
 have hok':=Seat.raise_ok' hok (i:=6) (by decide)
 obtain⟨m4,h4⟩:=zfz hA hw2 (by decide) hon2 hlen2 hsp hok'
 refine zix (o:=0) hAt hok (by decide) ?_
 have e0:(0:Nat)*26=0:=rfl
 rw[e0] at m4 h4
 have eraise:(W2.raise 0 0 6).2=W2.putSeat 0 0 (((W2.vm 0).seat 0).raise 6):=by
  unfold Wd.raise
  by_cases h2:((W2.vm 0).seat 0).st=2
  ·rw[if_pos h2]
   unfold Seat.raise
   rw[if_pos h2]
   unfold Wd.putSeat Wd.setV
   have:(W2.vm 0).setSeat 0 ((W2.vm 0).seat 0)=W2.vm 0:=by
    unfold Bv.setSeat Bv.seat
    rw[List.getD_eq_getElem?_getD,List.getElem?_eq_getElem hlen2]
    show ({ W2.vm 0 with seats:=(W2.vm 0).seats.set 0 (W2.vm 0).seats[0] }:Bv)=_
    rw[List.set_getElem_self]
   rw[this,yg]
  ·rw[if_neg h2];rfl
 rw[eraise] at hQ
 exact hQ _ _ _ (m13.trans (m4.mono fun q hq=>by omega)) h4
theorem zcJ (h:IdA S ρ b D W) {Q:Int→Mem→Prop} (hQ:Q W.free S):xX S (some (b,0)) Q:=by
 apply zad
 unfold wJ
 rw[if_neg (by simp),qY,zW h.c1]
 exact hQ
theorem zed (h:IdA S ρ b D W) (hn:n<6) (hl:(W.ev n).length≤800000000) {Q:Sl→Mem→Prop} (hQ:∀ t S',Keeps S S' []→Row S' 4 t ((W.ev n).flatMap evL)→Q t S'):wz S (some (b,0)) n Q:=by
 have hrow:=h.ev n hn
 have hlen:=zbc zbd (W.ev n)
 have hsn:=hrow.n (by decide) hlen
 apply gM
 unfold xP
 simp only[jn]
 rw[if_neg (by simp),if_neg (by omega),if_neg (by omega),qY]
 refine⟨by omega,by omega,?_⟩
 rw[Int.toNat_natCast,vP (h.ecell hn (by omega))]
 refine⟨(W.ev n).flatMap evL,?_,?_,?_⟩
 ·rcases hrow.row.lie with ⟨h1,h2⟩ | ⟨b,k,h1,_⟩
  ·left
   have h3:=hrow.row.cap
   have hz:(D.es n).n=0:=by omega
   have:W.ev n=[]:=List.length_eq_zero_iff.1 (by omega)
   exact⟨h1,hz,by rw[this];rfl⟩
  ·right
   exact⟨b,0,h1,hrow.row.part h1⟩
 ·rw[List.all_flatMap];exact List.all_eq_true.2 fun x _=>rfl
 ·exact zli (by rw[hlen,hsn]) rfl (by omega) fun s' S1 _ hr hk hf=>hQ s' S1 hk hr
end
end Go.Proofs.YtabdpmnhjlmnlaaGreatDoor
end
section
namespace Go.Cr
open Go Go.Pt
open Go.Proofs.YtabdpmnhjlmnlaaGreatDoor (gb)
section
variable {S S':Mem} {ρ ρ':Rho} {R:Nat→Prop} {r:Nat} {D:Ra} {W:Wd} {n:Nat}
structure NewP (S:Mem) (ρ:Rho) (n mb:Nat) (A:Nat→Nat) (xs:List Int) (i:Nat):Prop where
 me:Pc S ρ (230+n) mb (meL A fun p=>if p<i then some (32*n+p,true) else none)
 pg:∀ p,p<i→Bl S ρ (300+(32*n+p)) (A (32*n+p)) (bw 5 (bL (pageB xs p)))
theorem zgk (hwk:WOk W) (hoff:(W.vm n).on=false) {seats quota pages:Int} {img:List Int} (m p:Nat):(W.made n seats quota pages img).where_ m p=if m=n then (if (p:Int)<pages then some (n,p,true) else none) else W.where_ m p:=by
 have hown:∀ m p,(W.made n seats quota pages img).own m p=if m=n then (if (p:Int)<pages then some (pageB img p) else none) else W.own m p:=fun m p=>by
  show upd W.own n _ m p=_
  by_cases e:m=n
  ·subst e;rw[zt,if_pos rfl]
  ·rw[zv e,if_neg e]
 unfold Wd.where_
 rw[hown]
 by_cases e:m=n
 ·subst e
  rw[if_pos rfl,if_pos rfl]
  have hat:leaseAt W.ls m (p:Int)=none:=by
   cases hf:leaseAt W.ls m p with
   | none=>rfl
   | some j=>
    obtain⟨_,h1,h2,h3⟩:=vj hf
    have:=(hwk.lsr j h1).2.2.1
    rw[h2,hoff] at this;cases this
  by_cases hp:(p:Int)<pages
  ·rw[if_pos hp,if_pos hp,if_pos (by rfl)]
  ·rw[if_neg hp,if_neg hp,if_neg (by decide)]
   show (leaseAt W.ls m p).map _=none
   rw[hat];rfl
 ·rw[if_neg e,if_neg e];rfl
theorem RefA.made (h:RefA S ρ r D W) (hwk:WOk W) (hn:n<6) (hoff:(W.vm n).on=false) {sn quota pages:Nat} {xs:List Int} (hp:pages≤32) {ss:Sl} {d:Nat→Sl} {mb:Nat} {A':Nat→Nat} (hA:∀ f,¬(32*n≤f∧f<32*n+32)→A' f=D.A f)
  (m:Mv S ρ S' ρ' R) (hR:∀ q,R q→q=200∨RN n q) (hse:Rw S' ρ' (210+n) 26 ss ((List.replicate sn seat0).flatMap Seat.L)) (hdi:∀ j,j<4→∃ b,d j=pgS b∧Bl S' ρ' (250+(4*n+j)) b (bw 5 (bL noughts)))
  (hpg:NewP S' ρ' n mb A' xs pages) (hd:Pc S' ρ' 200 r (({ D with x:=upd D.x n (xn ss d mb D.now),es:=upd D.es n nilL,A:=A' }:Ra).c (W.made n sn quota pages xs)).L) :
  RefA S' ρ' r { D with x:=upd D.x n (xn ss d mb D.now),es:=upd D.es n nilL,A:=A' } (W.made n sn quota pages xs):=by
 have hR':∀ q,q≠200→¬RN n q→¬R q:=fun q h0 h1 h2=>(hR q h2).elim h0 h1
 have hown:∀ m p,(W.made n sn quota pages xs).own m p=if m=n then (if (p:Int)<(pages:Int) then some (pageB xs p) else none) else W.own m p:=fun m p=>by
  show upd W.own n _ m p=_
  by_cases e:m=n
  ·subst e;rw[zt,if_pos rfl]
  ·rw[zv e,if_neg e]
 have hvm:∀ i,(W.made n sn quota pages xs).vm i=if i=n then mkV sn quota else W.vm i:=fun i=>rfl
 have hx:∀ i,({ D with x:=upd D.x n (xn ss d mb D.now),es:=upd D.es n nilL,A:=A' }:Ra).x i=if i=n then xn ss d mb D.now else D.x i:=fun i=>rfl
 refine⟨m.rg,hd,fun i hi=>?_,fun i hi ho=>?_,fun i p l hl=>?_,fun i hi=>?_,h.now,fun i ho=>?_,fun i k w hw=>?_⟩
 ·rw[hvm,hx]
  by_cases e:i=n
  ·subst e
   rw[if_pos rfl,if_pos rfl]
   exact⟨by rw[show (mkV sn quota).seats=List.replicate sn seat0 from by show List.replicate ((sn:Int)).toNat seat0=_;rw[Int.toNat_natCast]];exact hse,Kr.nil,fun _ j hj=>hdi j hj,fun ho=>by cases ho⟩
  ·rw[if_neg e,if_neg e]
   have h0:=h.vs i hi
   exact⟨h0.se.keep m (hR' _ (by omega) (by unfold RN;omega)),h0.ke.keep m (hR' _ (by omega) (by unfold RN;omega)),fun ho j hj=>by
    obtain⟨b,h1,h2⟩:=h0.di ho j hj
    exact⟨b,h1,h2.keep m (hR' _ (by omega) (by unfold RN;omega))⟩,h0.off⟩
 ·rw[hx]
  have hmap:∀ p,p<32→((W.made n sn quota pages xs).gm i).map p=if i=n then (if p<pages then some (32*n+p,true) else none) else (W.gm i).map p:=fun p hp=>by
   rw[zcK hp,zcK hp,zgk hwk hoff]
   by_cases e:i=n
   ·rw[if_pos e,if_pos e]
    by_cases hpp:p<pages
    ·rw[if_pos (by omega),if_pos hpp];rfl
    ·rw[if_neg (by omega),if_neg hpp];rfl
   ·rw[if_neg e,if_neg e]
  by_cases e:i=n
  ·subst e
   rw[if_pos rfl]
   refine⟨mb,rfl,?_⟩
   have e2:meL A' ((W.made i sn quota pages xs).gm i).map=meL A' fun p=>if p<pages then some (32*i+p,true) else none:=by
    unfold meL
    rw[yk (n:=32) (f:=fun p=>[eL (mePg A' (((W.made i sn quota pages xs).gm i).map p))]) fun p hp=>by rw[hmap p hp,if_pos rfl],yk (n:=32) (f:=fun p=>[Value.bool (meW (((W.made i sn quota pages xs).gm i).map p))]) fun p hp=>by rw[hmap p hp,if_pos rfl]]
   show Pc S' ρ' (230+i) mb (meL A' ((W.made i sn quota pages xs).gm i).map)
   rw[e2];exact hpg.me
  ·rw[if_neg e]
   have ho':(W.vm i).on=true:=by rw[hvm,if_neg e] at ho;exact ho
   obtain⟨mb',h1,h2⟩:=h.me i hi ho'
   refine⟨mb',h1,?_⟩
   have hgm:∀ p f w,(W.gm i).map p=some (f,w)→¬(32*n≤f∧f<32*n+32):=fun p f w hm=>by
    have hp:p<32:=Nat.lt_of_not_le fun h32=>by rw[(hwk.gm i).pg p h32] at hm;cases hm
    rw[zcK hp] at hm
    cases hw:W.where_ i p with
    | none=>rw[hw] at hm;cases hm
    | some q=>
     obtain⟨l,hl⟩:=hwk.where_own hw
     rw[hw] at hm
     simp only[Option.map_some,Option.some.injEq,Prod.mk.injEq] at hm
     have h6:=hwk.six' hl
     have hon:=(hwk.pg _ _ _ hl).1
     have:q.1≠n:=fun e=>by rw[e,hoff] at hon;cases hon
     omega
   have e2:meL A' ((W.made n sn quota pages xs).gm i).map=meL D.A (W.gm i).map:=by
    unfold meL
    rw[yk (n:=32) (f:=fun p=>[eL (mePg A' (((W.made n sn quota pages xs).gm i).map p))]) (g:=fun p=>[eL (mePg D.A ((W.gm i).map p))]) fun p hp=>by
     rw[hmap p hp,if_neg e]
     cases hm:(W.gm i).map p with
     | none=>rfl
     | some q=>
      show [eL (pgS (A' q.1))]=[eL (pgS (D.A q.1))]
      rw[hA q.1 (hgm p q.1 q.2 hm)],yk (n:=32) (f:=fun p=>[Value.bool (meW (((W.made n sn quota pages xs).gm i).map p))]) fun p hp=>by rw[hmap p hp,if_neg e]]
   show Pc S' ρ' (230+i) mb' (meL A' ((W.made n sn quota pages xs).gm i).map)
   rw[e2];exact h2.keep m (hR' _ (by omega) (by unfold RN;omega))
 ·rw[hown] at hl
  show Bl S' ρ' (300+(32*i+p)) (A' (32*i+p)) _
  by_cases e:i=n
  ·subst e
   rw[if_pos rfl] at hl
   by_cases hpp:(p:Int)<pages
   ·rw[if_pos hpp] at hl
    cases hl
    exact hpg.pg p (by omega)
   ·rw[if_neg hpp] at hl;cases hl
  ·rw[if_neg e] at hl
   have h6:=hwk.six' hl
   rw[hA _ (by omega)]
   exact (h.pg i p l hl).keep m (hR' _ (by omega) (by unfold RN;omega))
 ·show Rw S' ρ' (240+i) 4 (upd D.es n nilL i) ((upd W.ev n [] i).flatMap evL)
  by_cases e:i=n
  ·subst e;rw[zt,zt];exact Rw.nil
  ·rw[zv e,zv e];exact (h.ev i hi).keep m (hR' _ (by omega) (by unfold RN;omega))
 ·rw[hx]
  show _∧_∧upd W.time n 0 i=_
  by_cases e:i=n
  ·subst e
   rw[if_pos rfl,zt]
   have:=h.now
   exact⟨this.1,Int.le_refl _,by show (0:Int)=D.now-D.now;omega⟩
  ·rw[if_neg e,zv e]
   have ho':(W.vm i).on=true:=by rw[hvm,if_neg e] at ho;exact ho
   exact h.time i ho'
 ·have hw':W.alarm i k=some w:=hw
  rw[hx]
  by_cases e:i=n
  ·subst e
   rw[(hwk.off i hoff).2.2 k] at hw';cases hw'
  ·rw[if_neg e];exact h.at_ i k w hw'
end
end Go.Cr
end
section
namespace Go.Proofs.YtabdpmnhjlmnlaaGreatDoor
open Go Go.Pt Go.Cr Go.Hp
section
variable {S S':Mem} {ρ ρ':Rho} {R:Nat→Prop} {r:Nat} {D:Ra} {W:Wd}
theorem zkA (k:Nat):(List.replicate (k+1) seat0).flatMap Seat.L=(List.replicate k seat0).flatMap Seat.L++seat0.L:=by
 rw[List.replicate_succ',List.flatMap_append];simp
set_option maxHeartbeats 1000000 in
set_option maxRecDepth 20000 in
theorem zdU (h:RefA S ρ r D W) (hwk:WOk W) (hf : -90000≤W.free∧W.free≤90000) {seats quota pages:Int} {img:Sl} {xs:List Int} (himg:ImgAt S ρ img xs) (hil:xs.length≤1000000) {Q:Int→Int→Mem→Prop}
  (hQ:∀ S',RAft r S ρ (W.create seats quota pages xs).2.2 S'→Q (W.create seats quota pages xs).1 (W.create seats quota pages xs).2.1 S'):yO S (some (r,0)) seats quota pages img Q:=by
 have hlen:=himg.len
 apply kz
 unfold yo
 unfold Wd.create at hQ
 by_cases hbad:seats<1∨3<seats∨quota<1∨32<quota∨pages<1∨quota<pages
 ·rw[if_pos hbad] at hQ
  have hq:=hQ S (RAft.here h)
  refine zZ (fun _=>True) trivial fun J _=>?_
  by_cases b1:seats<1
  ·rw[if_pos b1];exact hq
  rw[if_neg b1]
  by_cases b2:3<seats
  ·rw[if_pos b2];exact hq
  rw[if_neg b2]
  by_cases b3:quota<1
  ·rw[if_pos b3];exact hq
  rw[if_neg b3]
  by_cases b4:32<quota
  ·rw[if_pos b4];exact hq
  rw[if_neg b4]
  by_cases b5:pages<1
  ·rw[if_pos b5];exact hq
  rw[if_neg b5,if_pos (by omega)]
  exact hq
 rw[if_neg hbad] at hQ
 refine zZ (fun J=>J S) ?_ fun J hJ=>by
  rw[if_neg (by omega),if_neg (by omega),if_neg (by omega),if_neg (by omega),if_neg (by omega),if_neg (by omega)];exact hJ
 obtain⟨sn,rfl⟩:∃ m:Nat,seats=m:=⟨seats.toNat,by omega⟩
 obtain⟨qn,rfl⟩:∃ m:Nat,quota=m:=⟨quota.toNat,by omega⟩
 obtain⟨pn,rfl⟩:∃ m:Nat,pages=m:=⟨pages.toNat,by omega⟩
 have e256:IntKind.i64.wrap (256*(pn:Int))=256*pn:=w64 (by omega) (by omega)
 by_cases hlong:256*(pn:Int)<xs.length
 ·rw[if_pos hlong] at hQ
  refine zZ (fun _=>True) trivial fun J _=>?_
  rw[e256,if_pos (by omega)]
  exact hQ S (RAft.here h)
 rw[if_neg hlong] at hQ
 refine zZ (fun J=>J S) ?_ fun J hJ=>by
  rw[e256,if_neg (by omega)];exact hJ
 refine zZ (fun J=>∀ m:Nat,m≤6→(∀ j,j<m→(W.vm j).on=true)→(m<6→(W.vm m).on=false)→J m S) ?_ fun J hJ=>?_
 rotate_left
 ·refine qx (fun (z:Int) S'=>∃ i:Nat,z=(i:Int)∧i≤6∧S'=S∧∀ j,j<i→(W.vm j).on=true) (fun z=>6-z.toNat) ?_ ⟨0,rfl,by decide,rfl,fun j hj=>by omega⟩
  rintro X z S1 ⟨i,rfl,hi,hS,hall⟩ ih
  subst hS
  by_cases hlt:(i:Int)<6
  ·rw[if_pos hlt,qY]
   refine⟨by omega,hlt,?_⟩
   rw[zav (h.von (n:=i) (by omega) (by omega))]
   cases hon:(W.vm i).on with
   | true=>
    rw[if_pos rfl,w64 (by omega) (by omega)]
    refine ih _ _ ⟨i+1,by omega,by omega,rfl,fun j hj=>?_⟩ (by omega)
    by_cases e:j=i
    ·subst e;exact hon
    ·exact hall j (by omega)
   | false=>
    rw[if_neg (by decide)]
    exact hJ i hi hall fun _=>hon
  ·rw[if_neg hlt]
   exact hJ i hi hall fun h6=>by omega
 intro n hn6 hall hoff
 by_cases h6:n=6
 ·subst h6
  have hnone:firstOff (fun n=>(W.vm n).on) 6=none:=by
   cases hf:firstOff (fun n=>(W.vm n).on) 6 with
   | none=>rfl
   | some f=>
    obtain⟨h1,h2,_⟩:=qN hf
    rw[hall f h1] at h2;cases h2
  rw[hnone] at hQ
  refine zZ (fun _=>True) trivial fun J _=>?_
  rw[if_pos (by rfl)]
  exact hQ S (RAft.here h)
 have hn:n<6:=by omega
 have hoff:=hoff hn
 have hsome:firstOff (fun n=>(W.vm n).on) 6=some n:=fD hn hoff hall
 rw[hsome] at hQ
 dsimp only at hQ
 refine zZ (fun J=>J S) ?_ fun J hJ=>by rw[if_neg (by omega)];exact hJ
 have e5:IntKind.i64.wrap (5+(pn:Int))=5+pn:=w64 (by omega) (by omega)
 by_cases hfree:W.free<5+(pn:Int)
 ·rw[if_pos hfree] at hQ
  refine zZ (fun _=>True) trivial fun J _=>?_
  rw[qY,zW h.c1,e5,if_pos hfree]
  exact hQ S (RAft.here h)
 rw[if_neg hfree] at hQ
 refine zZ (fun J=>J S) ?_ fun J hJ=>by
  rw[qY,zW h.c1,e5,if_neg hfree];exact hJ
 have hmade:({ W with free:=W.free-(5+(pn:Int)),vm:=upd W.vm n (mkV sn qn),time:=upd W.time n 0,ev:=upd W.ev n [],own:=upd W.own n fun p=>if (p:Int)<(pn:Int) then some (pageB xs p) else none }:Wd)=W.made n sn qn pn xs:=rfl
 rw[hmade] at hQ
 rw[qY,zW h.c1,e5,w64 (x:=W.free-(5+(pn:Int))) (by omega) (by omega)]
 refine h.put (i:=1) (vs:=[.int .i64 (W.free-(5+(pn:Int)))]) rfl (by simp) rfl fun S1 m1 hd1=>?_
 have hnow:S1.cell r 0=some (.int .u64 D.now):=by
  rw[hd1.cell 0 (by rw[qj (by rw[Rc0.len];simp),Rc0.len];decide) rfl,Rc0.setf];rfl
 rw[zW hnow]
 intro mb hmb
 have m2:Mv S1 ρ (S1.set mb (bw 148 z148)) (ρ.upd mb (230+n)) (RN n):=(Mv.refl m1.rg).new hmb _ _
 have hP0:NewP (S1.set mb (bw 148 z148)) (ρ.upd mb (230+n)) n mb D.A xs 0:=⟨⟨⟨_,qf,rfl,by
  show lpart z148 0 _=_
  rw[zjp]
  have e:meL D.A (fun p=>if p<0 then some (32*n+p,true) else none)=meL (fun _=>0) fun _=>none:=rfl
  rw[e];exact zg rfl⟩,yt⟩,fun p hp=>by omega⟩
 generalize S1.set mb (bw 148 z148)=S2 at m2 hP0 ⊢
 generalize ρ.upd mb (230+n)=ρ2 at m2 hP0
 have hv0:([.bool true,.slice (none) 0 0,.int .i64 (qn:Int),.int .u64 D.now,.slice (none) 0 0,.slice (none) 0 0,.slice (none) 0 0,.slice (none) 0 0,.slice (none) 0 0,.bool false,.bool false,.bool false,.bool false,.bool false,.bool false,.pointer (some ⟨mb,0,none⟩),.bool false,.bool false,.bool false,.bool false,.bool false,.bool false,.bool false,.bool false,.bool false,.bool false,.bool false,.bool false,.bool false,.bool false,.bool false,.bool false,.bool false,.bool false,.bool false,.bool false,.bool false,.bool false,.bool false,.bool false,.bool false,.bool false,.bool false,.bool false,.bool false,.bool false,.bool false,.bool false,.bool false,.bool false,.bool false,.int .u64 0,.int .u64 0,.int .u64 0]:List Value)=rvL (xn nilL (fun _=>nilL) mb D.now) (mkV sn qn) (fun _=>false) (fun _=>false):=rfl
 rw[hv0]
 refine zZ (fun J=>∀ S3 ρ3 ss,Mv S2 ρ2 S3 ρ3 (RN n)→NewP S3 ρ3 n mb D.A xs 0→Rw S3 ρ3 (210+n) 26 ss ((List.replicate sn seat0).flatMap Seat.L)→J (rvL (xn ss (fun _=>nilL) mb D.now) (mkV sn qn) (fun _=>false) (fun _=>false)) S3) ?_ fun J hJ=>?_
 rotate_left
 ·refine qx (fun (z:Int×List Value) S'=>∃ (i:Nat) (ρ3:Rho) (ss:Sl),z=((i:Int),rvL (xn ss (fun _=>nilL) mb D.now) (mkV sn qn) (fun _=>false) (fun _=>false))∧i≤sn∧Mv S2 ρ2 S' ρ3 (RN n)∧NewP S' ρ3 n mb D.A xs 0∧Rw S' ρ3 (210+n) 26 ss ((List.replicate i seat0).flatMap Seat.L)) (fun z=>sn-z.1.toNat) ?_ ⟨0,ρ2,nilL,rfl,Nat.zero_le _,Mv.refl m2.rg,hP0,Rw.nil⟩
  rintro X z S3 ⟨i,ρ3,ss,rfl,hi,m3,hP3,hs3⟩ ih
  dsimp only at ih ⊢
  refine⟨yN,?_⟩
  simp only[jn]
  by_cases hlt:(i:Int)<(sn:Int)
  ·rw[if_pos hlt,vP (show nthL (rvL (xn ss (fun _=>nilL) mb D.now) (mkV sn qn) (fun _=>false) (fun _=>false)) 1=some (eL ss) from rfl)]
   have hssn:=hs3.n (by decide) (gb (zkE i))
   rw[List.length_replicate] at hssn
   refine zkh (R:=RN n) (Mv.refl m3.rg) (.inl rfl) hs3 rfl (by decide) rfl (by omega) fun s' S4 ρ4 m4 m4' h4 _=>?_
   rw[w64 (by omega) (by omega)]
   have hrep:(List.replicate (i+1) seat0).flatMap Seat.L=(List.replicate i seat0).flatMap Seat.L++seat0.L:=zkA i
   refine ih _ _ ⟨i+1,ρ4,s',rfl,by omega,m3.trans m4,⟨hP3.me.keep m4' (by omega),fun p hp=>by omega⟩,by rw[hrep];exact h4⟩ (by dsimp only;omega)
  ·rw[if_neg hlt]
   have:i=sn:=by omega
   subst this
   exact hJ S3 ρ3 ss m3 hP3 hs3
 intro S3 ρ3 ss m3 hP3 hs3
 refine⟨yN,?_⟩
 refine zZ (fun J=>∀ S4 ρ4 d,Mv S3 ρ3 S4 ρ4 (RN n)→NewP S4 ρ4 n mb D.A xs 0→Rw S4 ρ4 (210+n) 26 ss ((List.replicate sn seat0).flatMap Seat.L)→(∀ j,j<4→∃ b,d j=pgS b∧Bl S4 ρ4 (250+(4*n+j)) b (bw 5 (bL noughts)))→J (rvL (xn ss d mb D.now) (mkV sn qn) (fun _=>false) (fun _=>false)) S4) ?_ fun J hJ=>?_
 rotate_left
 ·refine qx (fun (z:Int×List Value) S'=>∃ (i:Nat) (ρ4:Rho) (d:Nat→Sl),z=((i:Int),rvL (xn ss d mb D.now) (mkV sn qn) (fun _=>false) (fun _=>false))∧i≤4∧Mv S3 ρ3 S' ρ4 (RN n)∧NewP S' ρ4 n mb D.A xs 0∧Rw S' ρ4 (210+n) 26 ss ((List.replicate sn seat0).flatMap Seat.L)∧∀ j,j<i→∃ b,d j=pgS b∧Bl S' ρ4 (250+(4*n+j)) b (bw 5 (bL noughts))) (fun z=>4-z.1.toNat) ?_ ⟨0,ρ3,fun _=>nilL,rfl,by decide,Mv.refl m3.rg,hP3,hs3,fun j hj=>by omega⟩
  rintro X z S4 ⟨i,ρ4,d,rfl,hi,m4,hP4,hs4,hd4⟩ ih
  dsimp only at ih ⊢
  refine⟨yN,?_⟩
  by_cases hlt:(i:Int)<4
  ·rw[if_pos hlt]
   intro b hb
   rw[zgC]
   have m5:Mv S4 ρ4 (S4.set b (bw 5 (bL noughts))) (ρ4.upd b (250+(4*n+i))) (fun _=>False):=(Mv.refl m4.rg).new hb _ _
   refine⟨by omega,hlt,?_⟩
   rw[w64 (by omega) (by omega),show 5+(i:Int).toNat*1=5+i by omega]
   have e:spl (rvL (xn ss d mb D.now) (mkV sn qn) (fun _=>false) (fun _=>false)) (5+i) [.slice (some ⟨b,0,none⟩) 256 256]=rvL (xn ss (upd d i (pgS b)) mb D.now) (mkV sn qn) (fun _=>false) (fun _=>false):=zkG (s:=pgS b) (by omega)
   rw[e]
   refine ih _ _ ⟨i+1,_,upd d i (pgS b),rfl,by omega,m4.trans (m5.mono fun _ h=>h.elim),⟨hP4.me.keep m5 (fun h=>h),fun p hp=>by omega⟩,hs4.keep m5 (fun h=>h),fun j hj=>?_⟩ (by dsimp only;omega)
   by_cases e:j=i
   ·subst e
    exact⟨b,zt,qf,yt⟩
   ·obtain⟨b',h1,h2⟩:=hd4 j (by omega)
    exact⟨b',by rw[zv e];exact h1,h2.keep m5 (fun h=>h)⟩
  ·rw[if_neg hlt]
   have:i=4:=by omega
   subst this
   exact hJ S4 ρ4 d m4 hP4 hs4 hd4
 intro S4 ρ4 d m4 hP4 hs4 hd4
 refine⟨yN,?_⟩
 refine zZ (fun J=>∀ S5 ρ5 A',Mv S4 ρ4 S5 ρ5 (RN n)→(∀ f,¬(32*n≤f∧f<32*n+32)→A' f=D.A f)→NewP S5 ρ5 n mb A' xs pn→Rw S5 ρ5 (210+n) 26 ss ((List.replicate sn seat0).flatMap Seat.L)→(∀ j,j<4→∃ b,d j=pgS b∧Bl S5 ρ5 (250+(4*n+j)) b (bw 5 (bL noughts)))→J (rvL (xn ss d mb D.now) (mkV sn qn) (fun p=>decide (p<pn)) (fun _=>false)) S5) ?_ fun J hJ=>?_
 rotate_left
 ·have m14:Mv S ρ S4 ρ4 (fun q=>q=200∨RN n q):=(m1.mono fun q hq=>.inl hq).trans ((m2.mono fun q hq=>.inr hq).trans ((m3.mono fun q hq=>.inr hq).trans (m4.mono fun q hq=>.inr hq)))
  have himg4:=himg.mv m14
  refine qx (fun (z:Int×List Value) S'=>∃ (i:Nat) (ρ5:Rho) (A':Nat→Nat),z=((i:Int),rvL (xn ss d mb D.now) (mkV sn qn) (fun p=>decide (p<i)) (fun _=>false))∧i≤pn∧Mv S4 ρ4 S' ρ5 (RN n)∧(∀ f,¬(32*n≤f∧f<32*n+32)→A' f=D.A f)∧NewP S' ρ5 n mb A' xs i∧Rw S' ρ5 (210+n) 26 ss ((List.replicate sn seat0).flatMap Seat.L)∧(∀ j,j<4→∃ b,d j=pgS b∧Bl S' ρ5 (250+(4*n+j)) b (bw 5 (bL noughts)))) (fun z=>pn-z.1.toNat) ?_ ⟨0,ρ4,D.A,rfl,Nat.zero_le _,Mv.refl m4.rg,fun _ _=>rfl,hP4,hs4,hd4⟩
  rintro X z S5 ⟨i,ρ5,A',rfl,hi,m5,hA5,hP5,hs5,hd5⟩ ih
  dsimp only at ih ⊢
  refine⟨yN,?_⟩
  simp only[jn]
  by_cases hlt:(i:Int)<(pn:Int)
  ·rw[if_pos hlt]
   intro b hb
   rw[zgC]
   have hi32:i<32:=by omega
   have m6:Mv S5 ρ5 (S5.set b (bw 5 (bL noughts))) (ρ5.upd b (300+(32*n+i))) (fun _=>False):=(Mv.refl m5.rg).new hb _ _
   have himg6:=(himg4.mv m5).mv m6
   refine ziM himg6 hil (q:=300+(32*n+i)) hi32 ⟨qf,yt⟩ m6.rg fun S7 m7 hb7=>?_
   have g15:nthL (rvL (xn ss d mb D.now) (mkV sn qn) (fun p=>decide (p<i)) (fun _=>false)) 15=some (eP (some (mb,0))):=rvL_m
   rw[zbT g15,qY]
   refine⟨by omega,by omega,?_⟩
   have hme7:=(hP5.me.keep m6 (fun h=>h)).keep m7 (by omega)
   refine hme7.pt m7.rg (vs:=[eL (pgS b)]) i rfl (by rw[yu];simp;omega) (by omega) fun S8 m8 h8=>?_
   rw[zbT g15,qY]
   refine⟨by omega,by omega,?_⟩
   refine h8.pt m8.rg (vs:=[.bool true]) (32+i) rfl (by rw[qj (by rw[yu];simp;omega),yu];simp;omega) (by omega) fun S9 m9 h9=>?_
   refine⟨by omega,by omega,?_⟩
   rw[show 16+(i:Int).toNat*1=16+i by omega,zbp hi32]
   refine⟨yN,?_⟩
   rw[w64 (by omega) (by omega)]
   have hown:upd (fun p=>decide (p<i)) i true=fun p=>decide (p<i+1):=by
    funext p
    by_cases e:p=i
    ·subst e;rw[zt];simp
    ·rw[zv e]
     by_cases h1:p<i
     ·rw[decide_eq_true h1,decide_eq_true (by omega)]
     ·rw[decide_eq_false h1,decide_eq_false (by omega)]
   rw[hown]
   have hml:=zeQ (A:=A') (A':=upd A' (32*n+i) b) (m:=fun p=>if p<i then some (32*n+p,true) else none) (m':=fun p=>if p<i+1 then some (32*n+p,true) else none) hi32 fun q hq e=>by
    by_cases h1:q<i
    ·rw[if_pos h1,if_pos (by omega)]
     refine⟨?_,rfl⟩
     show pgS (upd A' (32*n+i) b (32*n+q))=pgS (A' (32*n+q))
     rw[zv (by omega)]
    ·rw[if_neg h1,if_neg (by omega)]
     exact⟨rfl,rfl⟩
   have epg:mePg (upd A' (32*n+i) b) (if i<i+1 then some (32*n+i,true) else none)=pgS b:=by
    rw[if_pos (by omega)]
    show pgS (upd A' (32*n+i) b (32*n+i))=_
    rw[zt]
   have epw:meW (if i<i+1 then some (32*n+i,true) else none)=true:=by rw[if_pos (by omega)];rfl
   rw[epg,epw] at hml
   rw[hml] at h9
   have m79:Mv (S5.set b (bw 5 (bL noughts))) (ρ5.upd b (300+(32*n+i))) S9 (ρ5.upd b (300+(32*n+i))) (fun q=>q=300+(32*n+i)∨q=230+n):=(m7.mono fun q hq=>.inl hq).trans ((m8.mono fun q hq=>.inr hq).trans (m9.mono fun q hq=>.inr hq))
   have m69:Mv S5 ρ5 S9 (ρ5.upd b (300+(32*n+i))) (RN n):=(m6.mono fun _ h=>h.elim).trans (m79.mono fun q hq=>by unfold RN;omega)
   refine ih _ _ ⟨i+1,_,upd A' (32*n+i) b,rfl,by omega,m5.trans m69,fun f hf=>by rw[zv (by omega)];exact hA5 f hf,⟨h9,fun p hp=>?_⟩,(hs5.keep m6 (fun h=>h)).keep m79 (by omega),fun j hj=>?_⟩ (by dsimp only;omega)
   ·by_cases e:p=i
    ·subst e
     rw[zt]
     exact (hb7.keep m8 (by omega)).keep m9 (by omega)
    ·rw[zv (by omega)]
     exact ((hP5.pg p (by omega)).keep m6 (fun h=>h)).keep m79 (by omega)
   ·obtain⟨b',h1,h2⟩:=hd5 j hj
    exact⟨b',h1,(h2.keep m6 (fun h=>h)).keep m79 (by omega)⟩
  ·rw[if_neg hlt]
   have:i=pn:=by omega
   subst this
   exact hJ S5 ρ5 A' m5 hA5 hP5 hs5 hd5
 intro S5 ρ5 A' m5 hA5 hP5 hs5 hd5
 refine⟨yN,by omega,by omega,zhc,?_⟩
 have m25:Mv S1 ρ S5 ρ5 (RN n):=m2.trans (m3.trans (m4.trans m5))
 have hd5':=hd1.keep m25 (by unfold RN;omega)
 refine hd5'.pt m5.rg (vs:=rvL (xn ss d mb D.now) (mkV sn qn) (fun p=>decide (p<pn)) (fun _=>false)) (2+(n*54+0)) (by rw[yN]) (by rw[yN,qj (by rw[Rc0.len];simp),Rc0.len];omega) (by rw[Int.toNat_natCast];omega) fun S6 m6 hd6=>?_
 refine⟨by omega,by omega,?_⟩
 have hlen6:(spl (spl (D.c W).L 1 [Value.int .i64 (W.free-(5+(pn:Int)))]) (2+(n*54+0)) (rvL (xn ss d mb D.now) (mkV sn qn) (fun p=>decide (p<pn)) (fun _=>false))).length=428:=by
  rw[qj (by rw[yN,qj (by rw[Rc0.len];simp),Rc0.len];omega),qj (by rw[Rc0.len];simp),Rc0.len]
 refine hd6.pt m6.rg (vs:=[eL nilL]) (422+n) rfl (by rw[hlen6];simp;omega) (by rw[Int.toNat_natCast];omega) fun S7 m7 hd7=>?_
 have hfull:spl (rvL (D.x n) (W.vm n) (fun p=>(W.own n p).isSome) fun k=>(W.alarm n k).isSome) 0 (rvL (xn ss d mb D.now) (mkV sn qn) (fun p=>decide (p<pn)) (fun _=>false))=rvL (xn ss d mb D.now) (mkV sn qn) (fun p=>decide (p<pn)) (fun _=>false):=zbA (by rw[yN,yN])
 have hset:=Rc0.set (c:={ D.c W with free:=W.free-(5+(pn:Int)) }) (n:=n) (j:=0) (vs:=rvL (xn ss d mb D.now) (mkV sn qn) (fun p=>decide (p<pn)) (fun _=>false)) (x':=xn ss d mb D.now) (v':=mkV sn qn) (ow':=fun p=>decide (p<pn)) (al':=fun _=>false) hn (by rw[yN];omega) rfl hfull
 rw[Rc0.setf,hset,Rc0.sete hn rfl] at hd7
 have hfin:Pc S7 ρ5 200 r (({ D with x:=upd D.x n (xn ss d mb D.now),es:=upd D.es n nilL,A:=A' }:Ra).c (W.made n sn qn pn xs)).L:=by
  have e1:(fun i p=>((W.made n sn qn pn xs).own i p).isSome)=upd (fun i p=>(W.own i p).isSome) n (fun p=>decide (p<pn)):=by
   funext i p
   show (upd W.own n (fun p=>if (p:Int)<(pn:Int) then some (pageB xs p) else none) i p).isSome=_
   by_cases e:i=n
   ·subst e
    rw[zt,zt]
    by_cases hp:p<pn
    ·rw[if_pos (by omega),decide_eq_true hp];rfl
    ·rw[if_neg (by omega),decide_eq_false hp];rfl
   ·rw[zv e,zv e]
  have e2:(fun i k=>((W.made n sn qn pn xs).alarm i k).isSome)=upd (fun i k=>(W.alarm i k).isSome) n (fun _=>false):=by
   funext i k
   show (W.alarm i k).isSome=_
   by_cases e:i=n
   ·subst e;rw[zt,(hwk.off i hoff).2.2 k];rfl
   ·rw[zv e]
  unfold Ra.c
  rw[e1,e2]
  exact hd7
 have mm:Mv S ρ S7 ρ5 (fun q=>q=200∨RN n q):=(m1.mono fun q hq=>.inl hq).trans ((m25.mono fun q hq=>.inr hq).trans ((m6.mono fun q hq=>.inl hq).trans (m7.mono fun q hq=>.inl hq)))
 have m67:=m6.trans m7
 have hR:=h.made (sn:=sn) (quota:=qn) (pages:=pn) (xs:=xs) (d:=d) (mb:=mb) hwk hn hoff (by omega) hA5 mm (fun q hq=>hq) (hs5.keep m67 (by omega)) (fun j hj=>by
  obtain⟨b',h1,h2⟩:=hd5 j hj
  exact⟨b',h1,h2.keep m67 (by omega)⟩) ⟨hP5.me.keep m67 (by omega),fun p hp=>(hP5.pg p hp).keep m67 (by omega)⟩ hfin
 exact hQ S7 (hR.aft mm fun q hq=>by unfold RN at hq;omega)
end
end Go.Proofs.YtabdpmnhjlmnlaaGreatDoor
end
section
namespace Go.Proofs.YtabdpmnhjlmnlaaGreatDoor
open Go Go.Pt
attribute [local irreducible] Code.wp Back bodyPost wpList FR WL WC WQ WA AW Tr Yc HC AllC
set_option maxRecDepth 20000
set_option maxHeartbeats 4000000
set_option linter.unusedVariables false
end Go.Proofs.YtabdpmnhjlmnlaaGreatDoor
end
section
namespace Go.Cr
open Go Go.Pt
def awImg:List Int:=[65,0,64,4,0,0,0,80]
def awW1:Wd:=((W0 36).create 1 4 1 awImg).2.2
def awW2:Wd:=(awW1.run 0 0).2
def awW3:Wd:=(awW2.run 0 0).2
def Evt.q (e:Evt):Int×Int×Int×Int:=(e.kind,e.seat,e.a,e.b)
end Go.Cr
end
section
namespace Go.Proofs.YtabdpmnhjlmnlaaGreatDoor
open Go Go.Pt Go.Cr Go.Hp
def Lv (S0:Mem) (ρ0:Rho) (h:Nat) (S:Mem) (W:Wd):Prop:=∃ ρ A C φ,Mv S0 ρ0 S ρ Rc∧CrabA S ρ h A C∧Rel C W φ
def rho0:Rho:=fun _=>none
section
variable {S S' S0:Mem} {ρ ρ' ρ0:Rho} {R:Nat→Prop} {h:Nat} {A:Ad} {C:Cst} {W:Wd} {φ:Nat→Nat→Nat}
theorem gd (m:Mv S rho0 S' ρ R):Keeps S S' []:=fun b hb _=>m.kp b hb fun r e=>by cases e
theorem Lv.keeps (l:Lv S rho0 h S' W):Keeps S S' []:=by
 obtain⟨ρ,A,C,φ,m,_⟩:=l
 exact gd m
theorem Lv.on (l:Lv S0 ρ0 h S W) (hk:Keeps S S' []):Lv S0 ρ0 h S' W:=by
 obtain⟨ρ,A,C,φ,m,hc,hr⟩:=l
 exact⟨ρ,A,C,φ,m.then hk,hc.keeps hk,hr⟩
end
end Go.Proofs.YtabdpmnhjlmnlaaGreatDoor
end
section
namespace Go.Proofs.YtabdpmnhjlmnlaaGreatDoor
open Go Go.Pt
attribute [local irreducible] Code.wp Back bodyPost wpList FR WL WC WQ WA AW Tr Yc HC AllC
set_option maxRecDepth 20000
set_option maxHeartbeats 4000000
set_option linter.unusedVariables false
end Go.Proofs.YtabdpmnhjlmnlaaGreatDoor
end
section
namespace Go.Proofs.YtabdpmnhjlmnlaaGreatDoor
open Go Go.Pt Go.Cr Go.Hp
structure Bth (S0 S:Mem) (h r:Nat) (W:Wd):Prop where
 ex:∃ ρ A C φ D,Mv S0 rho0 S ρ (fun q=>Rc q∨Rd q)∧CrabA S ρ h A C∧Rel C W φ∧RefA S ρ r D W
section
variable {S S' S0:Mem} {ρ ρ':Rho} {R:Nat→Prop} {h r:Nat} {A:Ad} {C:Cst} {W W':Wd} {φ:Nat→Nat→Nat} {D:Ra}
theorem Bth.wk (b:Bth S0 S h r W):WOk W:=by
 obtain⟨_,_,_,_,_,_,_,hr,_⟩:=b.ex
 exact hr.wk
theorem Bth.keeps0 (b:Bth S0 S h r W):Keeps S0 S []:=by
 obtain⟨_,_,_,_,_,m,_⟩:=b.ex
 exact gd m
theorem Bth.on (b:Bth S0 S h r W) (hk:Keeps S S' []):Bth S0 S' h r W:=by
 obtain⟨ρ,A,C,φ,D,m,hc,hr,hR⟩:=b.ex
 exact⟨⟨ρ,A,C,φ,D,m.then hk,hc.keeps hk,hr,hR.keeps hr.wk hk⟩⟩
theorem Bth.act {hc:CrabA S ρ h A C} (m0:Mv S0 rho0 S ρ (fun q=>Rc q∨Rd q)) (hwk:WOk W) (hR:RefA S ρ r D W) {ρ1:Rho} {A1:Ad} {C1:Cst} {S1:Mem} {φ1:Nat→Nat→Nat} (m1:Mv S ρ S1 ρ1 Rc) (hc1:CrabA S1 ρ1 h A1 C1) (hr1:Rel C1 W' φ1) :
  RefA S1 ρ1 r D W∧∀ S2,RAft r S1 ρ1 W' S2→Bth S0 S2 h r W':=by
 refine⟨hR.keep (fun n p l=>hwk.six') m1 fun q h1 h2 h3=>by unfold Rc at h3;omega,fun S2 hA=>?_⟩
 obtain⟨ρ2,D2,m2,h2⟩:=hA
 exact⟨⟨ρ2,A1,C1,φ1,D2,(m0.trans (m1.mono fun q hq=>.inl hq)).trans (m2.mono fun q hq=>.inr hq),hc1.keep m2 fun q h1 h3=>by unfold Rd at h3;omega,hr1,h2⟩⟩
end
end Go.Proofs.YtabdpmnhjlmnlaaGreatDoor
end
section
namespace Go.Pt
open Go Go.RowKit Go.ChangeShapes
def memOf (W:World):Mem:=fun b=>match W.heap[b]? with
 | some (.cells c t fr)=>some ⟨t,c.toList,fr⟩
 | _=>none
theorem zfu (W:World):St W (memOf W) (memOf W) [] W:=by
 refine⟨rfl,rfl,rfl,Nat.le_refl _,fun _ _ _=>rfl,fun b k h=>?_,by simp,by simp,fun b h1 h2=>(h2 h1).elim,fun _ h=>h⟩
 unfold memOf at h
 split at h
 ·rename_i c t fr hh
  cases h
  simpa using hh
 ·cases h
theorem zgj {W:World} {b o:Nat} {v:Value} (h:W.cell? ⟨b,o,none⟩=some v):(memOf W).cell b o=some v:=by
 unfold World.cell? at h
 unfold Mem.cell memOf
 split at h
 ·rename_i c t fr hh
  simp only at hh
  simp only[Option.isSome_none,Bool.false_eq_true,if_false] at h
  rw[hh]
  simp only[qi]
  simpa using h
 ·cases h
theorem zfd {P:Program} {f:FuncId} {args:List Value} {W:World} {u:Value} (h:Tr P f (memOf W) args (fun v S'=>v=u∧Keeps (memOf W) S' [])) :
  Calls P f args.toArray W fun e W'=>e=.returned u∧Below W.heap.size W W':=by
 refine (h W (zfu W)).mono ?_
 rintro e W' ⟨v,S',rfl,⟨rfl,hk⟩,hS⟩
 refine⟨rfl,hS.os,hS.tape,hS.output,hS.size,fun k hlt=>?_⟩
 cases hm:memOf W k with
 | none=>exact hS.frame k hlt hm
 | some q=>
  have e1:=hS.mem k q (hk.get hm (by simp))
  have e2:=(zfu W).mem k q hm
  rw[e1,e2]
def BytesIn (S:Mem) (l:Sl):Prop:=∀ i:Nat,i<l.n→∃ b o z,l.p=some (b,o)∧S.cell b (o+i)=some (.int .u8 z)∧0≤z∧z≤255
theorem BytesIn.keep {S S':Mem} {l:Sl} (h:BytesIn S l) (hk:Keeps S S' []):BytesIn S' l:=fun i hi=>by
 obtain⟨b,o,z,h1,h2,h3⟩:=h i hi
 obtain⟨k,h4,h5⟩:=zek h2
 exact⟨b,o,z,h1,by rw[qK (hk.get h4 (by simp))];exact h5,h3⟩
end Go.Pt
end
section
namespace Go.Pt
open Go Go.RowKit Go.ChangeShapes
def NumsIn (S:Mem) (l:Sl):Prop:=∀ i:Nat,i<l.n→∃ b o z,l.p=some (b,o)∧S.cell b (o+i)=some (.int .u64 z)∧0≤z∧z≤18446744073709551615
theorem NumsIn.keep {S S':Mem} {l:Sl} (h:NumsIn S l) (hk:Keeps S S' []):NumsIn S' l:=fun i hi=>by
 obtain⟨b,o,z,h1,h2,h3⟩:=h i hi
 obtain⟨k,h4,h5⟩:=zek h2
 exact⟨b,o,z,h1,by rw[qK (hk.get h4 (by simp))];exact h5,h3⟩
end Go.Pt
end
section
namespace Go.Pt
open Go Go.RowKit Go.ChangeShapes Go.WideShapes Go.ChangeAt Go.Lib
theorem zeW {H:Type} {enc:TypeId×Value→H} {a:Assume} {C:Checked} {os:Os} {f:FuncId} {fn:Func} {s:ChangeSpec} {conds:List PathCond} {apart fresh handsOn again:Bool} {X:World→Array Value→Prop}
  (hX:∀ (w w':World) (args:Array Value),w.heap=w'.heap→X w args→X w' args) (own:ownKnob C.prog.godebug=none) (started:os.Started) (noInit:C.prog.inits.idxOf? f=none) (hfn:C.prog.funcs[f]? = some fn)
  (witness:∃ (w:World) (tape:Tape) (i:Input),w.os=os∧(w.forCall tape i).Shaped C.prog∧i.vars=[]∧Input.okWide C.prog (w.forCall tape i) .any w.heap.size f i ∧
   ((s.pre enc C.prog fn conds apart (w.forCall tape i).memory i.args∧X (w.forCall tape i).memory i.args)∧sizedMet enc C.prog fn (OpenSpec.ofChange s) apart (w.forCall tape i).memory i.args)∧a.holds C.prog (lone (Frame.enter C.prog f i.args .normal) [] (w.forCall tape i)))
  (law:∀ (W:World) (base:Nat) (args:Array Value) (ds gs:List (DataW H)) (before:List MemPlace),(∀ (j:Nat) t v,fn.params[j]? = some t→args[j]? = some v→Value.okWide C.prog W .any base t v) →
   DataW.Whole enc C.prog fn.params.toList s.vars apart W args.toList ds gs before→X W args→W.ShapedOpen C.prog →
   Calls C.prog f args W fun e W'=>∃ v,e=.returned v∧s.post enc C.prog fn apart fresh handsOn again W args v W') :
  ReturnsInHanded a C os f .any (fun w args=>(s.pre enc C.prog fn conds apart w args∧X w args)∧sizedMet enc C.prog fn (OpenSpec.ofChange s) apart w args) (s.post enc C.prog fn apart fresh handsOn again):=
 returnsInHanded_of_calls own started noInit witness fun w tape i _ hsh _ hok hpre _=>by
  obtain⟨_,_,_,g,hg,_,_,_,_,hval⟩:=hok
  obtain rfl:g=fn:=Option.some.inj (hg.symm.trans hfn)
  obtain⟨⟨⟨ds,gs,before,hw,_⟩,hx⟩,_⟩:=hpre
  refine (law (w.forCall tape i) w.heap.size i.args ds gs before hval (DataW.Whole.of_heap (w':=w.forCall tape i) (by rfl) hw) (hX _ _ _ (by rfl) hx) hsh).mono fun e W' h=>?_
  obtain⟨v,rfl,hp⟩:=h
  exact ChangeSpec.post_blind hp
theorem wt {a b:Bool} (h:a=true) (k:b=true):(a && b)=true:=by rw[h,k];rfl
end Go.Pt
namespace Go.Proofs.YtabdpmnhjlmnlaaGreatDoor
open Go Go.Pt Go.RowKit Go.Lib Go.Cr Go.ChangeShapes Go.WideShapes
set_option maxRecDepth 10000
theorem ziT {W:World} {P:Program} {n:String} {g:Nat} {cs:Array Value} (hg:P.globalNamed n=some g) (h:W.var? P n=some cs):∃ t fr,memOf W g=some ⟨t,cs.toList,fr⟩:=by
 unfold World.var? at h
 rw[hg] at h
 simp only[Option.bind_some] at h
 split at h
 ·rename_i c t fr hh
  cases h
  exact⟨t,fr,by unfold memOf;rw[hh]⟩
 ·cases h
theorem gl_of_laid {W:World} (h:laidMetH Tryz.prog Rows.crabBeginsRow.laid W):Gl (memOf W):=by
 rw[MakeChecks.laidMetH_plain _ _ _ (by kernel_rfl)] at h
 have hp : VarReads Tryz.prog W "math/bits.deBruijn64tab" Rows.laid_math_bits_deBruijn64tab := laidMet.reads h (by simp [Rows.crabBeginsRow])
 obtain⟨g,t,cs,fuel,p,hg,ht,hv,hd⟩:=hp
 obtain rfl := Option.some.inj ((show Tryz.prog.globalNamed "math/bits.deBruijn64tab" = some 0 by kernel_rfl).symm.trans hg)
 obtain rfl:=Option.some.inj ((show (Tryz.prog.globals[0]?).map (·.type)=some 337 by kernel_rfl).symm.trans ht)
 obtain⟨t',fr,hm⟩:=ziT hg hv
 have e:(Rows.laid_math_bits_deBruijn64tab:DataW Unit)=tabData .u8 (deBruijn64tab.map fun (n:Nat)=>(n:Int)):=by kernel_rfl
 rw[e] at hd
 have hcs:=cells_of_tab Tryz.underlying337 Tryz.underlying5 (by kernel_rfl) (by kernel_rfl) hd
 rw[hcs,List.map_map] at hm
 exact⟨t',fr,hm⟩
end Go.Proofs.YtabdpmnhjlmnlaaGreatDoor
end
section
namespace Go.Proofs.YtabdpmnhjlmnlaaGreatDoor
open Go Go.Pt Go.RowKit Go.Lib Go.Cr Go.ChangeShapes Go.WideShapes
structure By (S:Mem) (l:Sl) (xs:List Int):Prop where
 len:xs.length=l.n
 cap:l.n≤l.c
 byt:Byt xs
 lie:xs=[]∨∃ b o,l.p=some (b,o)∧S b≠none∧S.part b o xs.length=some (bL xs)
theorem By.keep {S S':Mem} {l:Sl} {xs:List Int} (h:By S l xs) (hk:Keeps S S' []):By S' l xs:=
 ⟨h.len,h.cap,h.byt,h.lie.imp id fun⟨b,o,h1,h2,h3⟩=>by
  have e:=hk b h2 (by simp)
  obtain⟨k,hk⟩:=Option.ne_none_iff_exists'.1 h2
  exact⟨b,o,h1,by rw[e];exact h2,by rw[xG hk] at h3;rw[xG (e.trans hk)];exact h3⟩⟩
theorem By.img {S:Mem} {ρ:Rho} {l:Sl} {xs:List Int} (h:By S l xs) (hr:∀ b o,l.p=some (b,o)→ρ b=none):ImgAt S ρ l xs:=
 ⟨h.len,h.cap,h.byt,h.lie.imp id fun⟨b,o,h1,h2,h3⟩=>⟨b,o,h1,h3,hr b o h1,h2⟩⟩
theorem zjF {H:Type} {enc:TypeId×Value→H} {P:Program} {W:World} {base bs:Nat} {spare:Nat→Bool} {held:Bool} {r:Reach} {t e:TypeId} {v:Value} {d:DataW H} {ps:List MemPlace}
  (ht:P.underlying t=some (.slice e)) (he:P.underlying e=some (.int .u8)) (hc:P.cellsOf e=1) (hval:Value.okWide P W r bs t v) (h:DataW.Trod enc P W base spare held t v d ps):∃ (l:Sl) (xs:List Int),v=eL l∧By (memOf W) l xs:=by
 obtain⟨fuel,hf⟩:=h
 rcases open_ints ht he hc hf with ⟨h0,_⟩ | ⟨a,len,cap,zs,h0,_,hl,hm,hz,_,hcell,hw⟩
 ·refine⟨⟨none,0,0⟩,[],?_,⟨rfl,Nat.le_refl _,fun x hx=>(by cases hx),.inl rfl⟩⟩
  cases v <;> simp_all [Value.cells,eL,adr,Value.okWide,Cell.okWide,Cell.ok]
 ·have hv:v=.slice (some a) len cap:=by
   cases v <;> simp_all [Value.cells,Value.okWide,Cell.okWide,Cell.ok]
  subst hv
  have hval':a.spot=none∧len≤cap:=by
   simp only[Value.okWide,ht,Cell.okWide,Cell.ok] at hval
   exact⟨hval.2.2.2.1,hval.1⟩
  obtain⟨b,o,sp⟩:=a
  simp only at hval'
  obtain⟨hsp,hcap⟩:=hval'
  subst hsp
  have hln:len≤zs.length:=by rw[hz];split <;> omega
  refine⟨⟨some (b,o),len,cap⟩,zs.take len,rfl,⟨?_,hcap,fun x hx=>bounds_u8 (hw _ (List.mem_of_mem_take hx)),?_⟩⟩
  ·simp only[List.length_take];omega
  ·by_cases h0:len=0
   ·left;rw[h0];rfl
   right
   have key:∀ i,i<len→(memOf W).cell b (o+i)=some (.int .u8 (zs.getD i 0)):=fun i hi=>by
    have:=hcell i (by omega)
    have e:(⟨b,o,none⟩:Addr).add i=⟨b,o+i,none⟩:=by unfold Addr.add;split <;> simp_all
    rw[e] at this
    exact zgj this
   obtain⟨k,hk,_⟩:=zek (key 0 (by omega))
   have hlt:∀ i,i<len→k.cs[o+i]? = some (.int .u8 (zs.getD i 0)):=fun i hi=>by
    have:=key i hi
    rw[qK hk,qi] at this
    exact this
   have hb:o+(len-1)<k.cs.length:=by
    have:=hlt (len-1) (by omega)
    exact (List.getElem?_eq_some_iff.1 this).1
   have hll:(zs.take len).length=len:=by rw[List.length_take];omega
   refine⟨b,o,rfl,by rw[hk];simp,?_⟩
   rw[hll,xG hk,qR (by omega)]
   congr 1
   apply List.ext_getElem?
   intro i
   rw[List.getElem?_take,List.getElem?_drop]
   unfold bL
   rw[List.getElem?_map,List.getElem?_take]
   by_cases hi:i<len
   ·rw[if_pos hi,if_pos hi,hlt i hi,List.getElem?_eq_getElem (by omega),List.getD_eq_getElem?_getD,List.getElem?_eq_getElem (by omega)];rfl
   ·rw[if_neg hi,if_neg hi];rfl
end Go.Proofs.YtabdpmnhjlmnlaaGreatDoor
end
section
namespace Go.Proofs.YtabdpmnhjlmnlaaGreatDoor
open Go Go.Pt Go.Cr Go.Hp
section
variable {S S' S0:Mem} {h r:Nat} {W:Wd}
theorem By.imgB {S0 S:Mem} {p:Sl} {xs:List Int} (hb:By S0 p xs) {ρ:Rho} {R:Nat→Prop} (m:Mv S0 rho0 S ρ R):ImgAt S ρ p xs:=by
 have h:=hb.keep (gd m)
 refine⟨h.len,h.cap,h.byt,?_⟩
 rcases h.lie with h0 | ⟨b,o,g1,g2,g3⟩
 ·exact .inl h0
 rcases hb.lie with h0 | ⟨b',o',h1,h2,h3⟩
 ·exact .inl h0
 have e:b'=b:=by rw[h1] at g1;cases g1;rfl
 subst e
 refine .inr ⟨b',o,g1,g3,?_,g2⟩
 cases hρ:ρ b' with
 | none=>rfl
 | some q=>have:=m.old b' q hρ h2;cases this
end
end Go.Proofs.YtabdpmnhjlmnlaaGreatDoor
end
section
namespace Go.Proofs.YtabdpmnhjlmnlaaGreatDoor
open Go Go.Pt
attribute [local irreducible] Code.wp Back bodyPost wpList FR WL WC WQ WA AW Tr Yc HC AllC
set_option maxRecDepth 20000
set_option maxHeartbeats 4000000
set_option linter.unusedVariables false
def qE (S:Mem) (p:Sl) (steps:Int) (key:Int) (Q:Bool→Mem→Prop):Prop:=
 jn (fun (Sx:Mem)=>
 zat Sx 30 fun t Sx_1=>
 xZ Sx_1 30 fun t_1 Sx_2=>
 xd Sx_2 t 2 4 2 p fun t_2 t_3 Sx_3=>
 yO Sx_3 t_1 2 4 2 p fun t_4 t_5 Sx_4=>
 vN Sx_4 t 0 key fun t_6 Sx_5=>
 wa Sx_5 t_1 0 key fun t_7 Sx_6=>
 jn (fun (Sx_7:Mem)=>
 if t_3=0 then
 xN Sx_7 t t_1 fun t_8 Sx_8=>
 Q t_8 Sx_8
 else
 Q false Sx_7) fun Jx=>
 lp (fun Xx (i:Int) (Sx_9:Mem)=>
 jn (fun (Sx_10:Mem)=>
 wy Sx_10 t 0 (Int.tmod i 2) fun t_9 Sx_11=>
 yv Sx_11 t_1 0 (Int.tmod i 2) fun t_10 Sx_12=>
 if t_9≠t_10 then
 Q false Sx_12
 else
 Xx (IntKind.i64.wrap (i+1)) Sx_12) fun Jx_1=>
 if i<IntKind.i64.wrap steps then
 Jx_1 Sx_9
 else
 Jx Sx_9) 0 Sx_6) fun Jx_2=>
 qP S fun t_11 Sx_13=>
 if t_11=true then
 if 512<(p.n:Int) then
 qP Sx_13 fun t_12 Sx_14=>
 Q t_12 Sx_14
 else
 Jx_2 Sx_13
 else
 qP Sx_13 fun t_13 Sx_15=>
 Q t_13 Sx_15
theorem vY {S:Mem} {p:Sl} {steps:Int} {key:Int} {Q:Bool→Mem→Prop} (H:qE S p steps key Q):kJ S p steps key Q:=by
 unfold qE at H
 exact Tr.intro Tryz.func3 E Tryz.ntmps3 E fun w0=>csr<|gv E E<|nx<|zm H (fun (J:Mem→Prop) (z:Unit) S=>J S) (fun z=>⟨59,[(0,eL p),(1,.int .u8 steps),(2,.int .u8 key)]⟩) (fun z=>[]) (fun _ Sx H1=>csr<|qM E E H1 fun t Sx_1 H2=>gv E E<|nxr<|qM E E H2 fun t_1 Sx_2 H3=>gv E E<|nxr<|mv E E<|mv E E<|zcu E E H3 fun t_2 t_3 Sx_3 H4=>mv E E<|s_p E (zj E E)<|s_p E (zj E E)<|gv E E<|gv E E<|nxr<|mv E E<|mv E E<|zcu E E H4 fun t_4 t_5 Sx_4 H5=>nxr<|mv E E<|mv E E<|qM E E H5 fun t_6 Sx_5 H6=>nxr<|mv E E<|mv E E<|qM E E H6 fun t_7 Sx_6 H7=>nx<|zm H7 (fun (J:Mem→Prop) (z:Unit) S=>J S) (fun z=>⟨59,[(7,eP t),(8,eP t_1),(10,.int .i64 t_3)]⟩) (fun z=>[]) (fun _ Sx_7 H8=>zG<|by exact zx<|mv E E<|iteK H8 (fun c H9=>ceT E E E (c)<|mv E E<|mv E E<|mv E E<|qM E E H9 fun t_8 Sx_8 H10=>pk E E E<|gv E E<|nx<|zi<|zh Tryz.results3 (zc E ze) ⟨_,E,H10⟩) fun c H9=>ceF E E E (c)<|mv E E<|sk2 E E<|zK E<|pk E E E<|gv E E<|nx<|zi<|zh Tryz.results3 (zc E ze) ⟨_,E,H9⟩) (fun Jx hJx H11=>zG<|by exact zx<|gv E E<|nx<|zE<|qS (fun z=>⟨59,[(1,.int .u8 steps),(7,eP t),(8,eP t_1),(10,.int .i64 t_3),(11,.int .i64 z)]⟩) (fun z=>[]) 0 (idx:=[]) H11 E ⟨E,E,E,E,E,True.intro⟩ E<|fun Xx hXx i Sx_9 H12=>zm H12 (fun (J:Mem→Prop) (z:Unit) S=>J S) (fun z=>⟨59,[(1,.int .u8 steps),(7,eP t),(8,eP t_1),(10,.int .i64 t_3),(11,.int .i64 i)]⟩) (fun z=>[]) (fun _ Sx_10 H13=>zG<|zE<|csr<|mv E E<|mv E E<|s_p E (xe E E (by decide))<|qM E E H13 fun t_9 Sx_11 H14=>mv E E<|mv E E<|s_p E (xe E E (by decide))<|qM E E H14 fun t_10 Sx_12 H15=>iteK H15 (fun c_1 H16=>s_p E (yT (qm E E) c_1)<|nx<|c_t E E<|csr<|gv E E<|nx<|zi<|zl<|zb<|zb<|zl<|zb<|zh Tryz.results3 (zc E ze) ⟨_,E,H16⟩) fun c_1 H16=>s_p E (yF (qm E E) c_1)<|nx<|cfs E E<|zS<|zr<|zx<|mv E E<|s_p E (qd E E)<|gv E E<|zn<|hXx (IntKind.i64.wrap (i+1)) _ _ _ _ [] H16 E ⟨E,E,E,E,E,True.intro⟩ E) (fun Jx_1 hJx_1 H17=>csr<|mv E E<|mv E E<|s_p E (zN ⟨_,Tryz.underlying5⟩ E)<|iteK H17 (fun c_2 H18=>s_p E (yT (zH E E) c_2)<|nx<|c_t E E<|qw<|hJx_1 () _ _ _ _ [] H18 E ⟨E,E,E,E,E,True.intro⟩ E) fun c_2 H18=>s_p E (yF (zH E E) c_2)<|nx<|c_f E E<|qB<|zo<|zo<|zV<|hJx () _ _ _ _ [] H18 E ⟨E,E,E,True.intro⟩ E))) (fun Jx_2 hJx_2 H19=>csr<|qM E E H19 fun t_11 Sx_13 H20=>by have H21:=wO H20;rcases H21 with ⟨rfl,H22⟩ | ⟨rfl,H22⟩;exact (s_p E (yB (qe E) E)<|mv E E<|mv E E<|s_p E (wP E)<|iteK H22 (fun c_3 H23=>s_p E (yT (qu E E) c_3)<|pk E E E<|nx<|c_t E E<|csr<|qM E E H23 fun t_12 Sx_14 H24=>gv E E<|nx<|zi<|zb<|zh Tryz.results3 (zc E ze) ⟨_,E,H24⟩) fun c_3 H23=>s_p E (yF (qu E E) c_3)<|pk E E E<|nx<|cfs E E<|hJx_2 () _ _ _ _ [] H23 E ⟨E,E,E,True.intro⟩ E);exact (s_p E (yB (qe E) E)<|mv E E<|sk2 E E<|zK E<|pk E E E<|nx<|c_t E E<|csr<|qM E E H22 fun t_13 Sx_15 H25=>gv E E<|nx<|zi<|zb<|zh Tryz.results3 (zc E ze) ⟨_,E,H25⟩))
def yI (S:Mem) (Q:Bool→Mem→Prop):Prop:=
 zat S 9 fun t Sx=>
 xd Sx t 1 4 4 (⟨none,0,0⟩) fun t_1 t_2 Sx_1=>
 if t_2=0 then
 xX Sx_1 t fun t_3 Sx_2=>
 Q (decide (t_3=0)) Sx_2
 else
 Q false Sx_1
theorem kV {S:Mem} {Q:Bool→Mem→Prop} (H:yI S Q):qP S Q:=by
 unfold yI at H
 exact Tr.intro Tryz.func15 E Tryz.ntmps15 E fun w0=>csr<|gv E E<|nxr<|qM E E H fun t Sx H1=>gv E E<|nxr<|mv E E<|zcu E E H1 fun t_1 t_2 Sx_1 H2=>mv E E<|s_p E (zj E E)<|s_p E (zj E E)<|gv E E<|gv E E<|nxr<|mv E E<|iteK H2 (fun c H3=>ceT E E E (c)<|mv E E<|mv E E<|qM E E H3 fun t_3 Sx_2 H4=>s_p E (jz E E)<|pk E E E<|gv E E<|nx<|zi<|zh Tryz.results15 (zc E ze) ⟨_,E,H4⟩) fun c H3=>ceF E E E (c)<|mv E E<|sk2 E E<|zK E<|pk E E E<|gv E E<|nx<|zi<|zh Tryz.results15 (zc E ze) ⟨_,E,H3⟩
def xb (S:Mem) (h:Pt) (x:Pt) (Q:Bool→Mem→Prop):Prop:=
 jn (fun (Sx:Mem)=>
 nn x fun b o=>
 gI (Sx.cell b (o+1)) .i64 fun t=>
 xX Sx h fun t_1 Sx_1=>
 Sx_1.cell b (o+1)=some (.int .i64 t) ∧
 Q (decide (t_1=t)) Sx_1) fun Jx=>
 lp (fun Xx (n:Int) (Sx_2:Mem)=>
 jn (fun (Sx_3:Mem)=>
 jn (fun (Sx_4:Mem)=>
 Xx (IntKind.i64.wrap (n+1)) Sx_4) fun Jx_1=>
 wz Sx_3 h n fun t_2 Sx_5=>
 jn (fun (Sx_6:Mem)=>
 lp (fun Xx_1 (i:Int) (Sx_7:Mem)=>
 jn (fun (Sx_8:Mem)=>
 sl t_2 fun b_1 o_1 n_1 n_2=>
 0≤i∧i<((n_1:Nat):Int) ∧
 gA (Sx_8.part b_1 (o_1+i.toNat*4) 4) fun t_3=>
 nn x fun b_2 o_2=>
 0≤n∧n<6 ∧
 gL (Sx_8.cell b_2 (o_2+422+n.toNat*1)) fun t_4=>
 sl t_4 fun b_3 o_3 n_3 n_4=>
 0≤i∧i<((n_3:Nat):Int) ∧
 gA (Sx_8.part b_3 (o_3+i.toNat*4) 4) fun t_5=>
 fits [.i .u8,.i .i64,.i .u64,.i .u64] t_3=true ∧
 fits [.i .u8,.i .i64,.i .u64,.i .u64] t_5=true ∧
 if (!(eqL t_3 t_5))=true then
 Q false Sx_8
 else
 Xx_1 (IntKind.i64.wrap (i+1)) Sx_8) fun Jx_2=>
 if i<(t_2.n:Int) then
 Jx_2 Sx_7
 else
 Jx_1 Sx_7) 0 Sx_6) fun Jx_3=>
 nn x fun b_4 o_4=>
 0≤n∧n<6 ∧
 gL (Sx_5.cell b_4 (o_4+422+n.toNat*1)) fun t_6=>
 if (t_2.n:Int)≠(t_6.n:Int) then
 Q false Sx_5
 else
 Jx_3 Sx_5) fun Jx_4=>
 if n<6 then
 Jx_4 Sx_2
 else
 Jx Sx_2) 0 S
theorem jL {S:Mem} {h:Pt} {x:Pt} {Q:Bool→Mem→Prop} (H:xb S h x Q):xN S h x Q:=by
 unfold xb at H
 exact Tr.intro Tryz.func24 E Tryz.ntmps24 E fun w0=>csr<|gv E E<|nx<|zm H (fun (J:Mem→Prop) (z:Unit) S=>J S) (fun z=>⟨52,[(0,eP h),(1,eP x)]⟩) (fun z=>[]) (fun _ Sx H1=>zG<|zI (by kernel_rfl)<|aTP 0 E (by decide +kernel) E (zk E)<|by exact aTP 2 E (by decide +kernel) E (zk E)<|by exact by obtain⟨b,o,rfl,H2⟩:=H1;exact aTP 3 E (by decide +kernel) E (zT E)<|by exact aTP 4 E (by decide +kernel) E (zp E E)<|by exact gx H2 fun t ht H3=>aT 5 E (by decide +kernel) E (zA E) (qc ht)<|by exact zw 1 (by decide +kernel) E<|by exact qM E E H3 fun t_1 Sx_1 H4=>by obtain⟨k,H5⟩:=H4;exact zn<|zF (zB (qc k) zu)<|aTP 6 E (by decide +kernel) E (jz E E)<|by exact aTP 7 E (by decide +kernel) E (zM E)<|by exact zJ (by decide +kernel)<|by exact zr<|zi<|zh Tryz.results24 (zc E ze) ⟨_,E,H5⟩) (fun Jx hJx H6=>csr<|gv E E<|nx<|zE<|qS (fun z=>⟨52,[(0,eP h),(1,eP x),(5,.int .i64 z)]⟩) (fun z=>[]) 0 (idx:=[]) H6 E ⟨E,E,E,True.intro⟩ E<|fun Xx hXx n Sx_2 H7=>zm H7 (fun (J:Mem→Prop) (z:Unit) S=>J S) (fun z=>⟨52,[(0,eP h),(1,eP x),(5,.int .i64 n)]⟩) (fun z=>[]) (fun _ Sx_3 H8=>zm H8 (fun (J:Mem→Prop) (z:Unit) S=>J S) (fun z=>⟨52,[(0,eP h),(1,eP x),(5,.int .i64 n)]⟩) (fun z=>[]) (fun _ Sx_4 H9=>zx<|mv E E<|s_p E (qd E E)<|gv E E<|zn<|hXx (IntKind.i64.wrap (n+1)) _ _ _ _ [] H9 E ⟨E,E,E,True.intro⟩ E) (fun Jx_1 hJx_1 H10=>zE<|csr<|mv E E<|mv E E<|qM E E H10 fun t_2 Sx_5 H11=>gv E E<|nx<|zm H11 (fun (J:Mem→Prop) (z:Unit) S=>J S) (fun z=>⟨52,[(0,eP h),(1,eP x),(5,.int .i64 n),(6,eL t_2)]⟩) (fun z=>[]) (fun _ Sx_6 H12=>csr<|gv E E<|nx<|zE<|qS (fun z=>⟨52,[(0,eP h),(1,eP x),(5,.int .i64 n),(6,eL t_2),(7,.int .i64 z)]⟩) (fun z=>[]) 0 (idx:=[]) H12 E ⟨E,E,E,E,E,True.intro⟩ E<|fun Xx_1 hXx_1 i Sx_7 H13=>zm H13 (fun (J:Mem→Prop) (z:Unit) S=>J S) (fun z=>⟨52,[(0,eP h),(1,eP x),(5,.int .i64 n),(6,eL t_2),(7,.int .i64 i)]⟩) (fun z=>[]) (fun _ Sx_8 H14=>zG<|zE<|zG<|zI (by kernel_rfl)<|a_takeP 0 E (by decide +kernel) (za (zf (za (za (zf (zf (za (za (zf (za zd)))))))))) E (zk E)<|by exact a_takeP 1 E (by decide +kernel) (za (zf (za (za (zf (zf (za (za (zf (za zd)))))))))) E (zk E)<|by exact by obtain⟨b_1,o_1,n_1,n_2,rfl,H15⟩:=H14;exact an2 H15 fun c c_1 H16=>a_takeP 2 E (by decide +kernel) (za (zf (za (za (zf (zf (za (za (zf (za zd)))))))))) E (yf E E c c_1 E)<|by exact gx H16 fun t_3 ht_3 H17=>by refine qp 3 E (by decide +kernel) (za (zf (za (za (zf (zf (za (za (zf (za zd)))))))))) E (zO E (zX ht_3)) (qX ht_3) ?_;exact a_takeP 4 E (by decide +kernel) (za (zf (za (za (zf (zf (za (za (zf (za zd)))))))))) E (zk E)<|by exact a_takeP 5 E (by decide +kernel) (za (zf (za (za (zf (zf (za (za (zf (za zd)))))))))) E (zk E)<|by exact by obtain⟨b_2,o_2,rfl,H18⟩:=H17;exact a_takeP 6 E (by decide +kernel) (za (zf (za (za (zf (zf (za (za (zf (za zd)))))))))) E (zT E)<|by exact a_takeP 7 E (by decide +kernel) (za (zf (za (za (zf (zf (za (za (zf (za zd)))))))))) E (zp E E)<|by exact an2 H18 fun c_2 c_3 H19=>a_takeP 8 E (by decide +kernel) (za (zf (za (za (zf (zf (za (za (zf (za zd)))))))))) E (zz E E c_2 c_3 E)<|by exact gx H19 fun t_4 ht_4 H20=>qp 9 E (by decide +kernel) (za (zf (za (za (zf (zf (za (za (zf (za zd)))))))))) E (zA E) (qc ht_4)<|by exact a_takeP 10 E (by decide +kernel) (za (zf (za (za (zf (zf (za (za (zf (za zd)))))))))) E (zk E)<|by exact by obtain⟨b_3,o_3,n_3,n_4,rfl,H21⟩:=H20;exact an2 H21 fun c_4 c_5 H22=>a_takeP 11 E (by decide +kernel) (za (zf (za (za (zf (zf (za (za (zf (za zd)))))))))) E (yf E E c_4 c_5 E)<|by exact gx H22 fun t_5 ht_5 H23=>by refine qp 12 E (by decide +kernel) (za (zf (za (za (zf (zf (za (za (zf (za zd)))))))))) E (zO E (zX ht_5)) (qX ht_5) ?_;exact an H23 fun c_6 H24=>an H24 fun c_7 H25=>iteK H25 (fun c_8 H26=>a_takeP 13 E (by decide +kernel) (za (zf (za (za (zf (zf (za (za (zf (za zd)))))))))) E (yB (zkn E E c_6 c_7) c_8)<|by exact zJ (by decide +kernel)<|by exact zr<|c_t E E<|csr<|gv E E<|nx<|zi<|zl<|zb<|zb<|zl<|zl<|zb<|zb<|zl<|zb<|zh Tryz.results24 (zc E ze) ⟨_,E,H26⟩) fun c_8 H26=>a_takeP 13 E (by decide +kernel) (za (zf (za (za (zf (zf (za (za (zf (za zd)))))))))) E (yB (zkn E E c_6 c_7) (wQ c_8))<|by exact zJ (by decide +kernel)<|by exact zr<|cfs E E<|zS<|zr<|zx<|mv E E<|s_p E (qd E E)<|gv E E<|zn<|hXx_1 (IntKind.i64.wrap (i+1)) _ _ _ _ [] H26 E ⟨E,E,E,E,E,True.intro⟩ E) (fun Jx_2 hJx_2 H27=>csr<|mv E E<|mv E E<|s_p E (wP E)<|iteK H27 (fun c_9 H28=>s_p E (yT (zH E E) c_9)<|nx<|c_t E E<|qw<|hJx_2 () _ _ _ _ [] H28 E ⟨E,E,E,E,E,True.intro⟩ E) fun c_9 H28=>s_p E (yF (zH E E) c_9)<|nx<|c_f E E<|qB<|zo<|zo<|zV<|zS<|hJx_1 () _ _ _ _ [] H28 E ⟨E,E,E,True.intro⟩ E)) (fun Jx_3 hJx_3 H29=>csr<|mv E E<|s_p E (wP E)<|mv E E<|mv E E<|by obtain⟨b_4,o_4,rfl,H30⟩:=H29;exact s_p E (zT E)<|s_p E (zp E E)<|an2 H30 fun c_10 c_11 H31=>s_p E (zz E E c_10 c_11 E)<|gx H31 fun t_6 ht_6 H32=>s_v E (zA E) (qc ht_6)<|s_p E (wP E)<|iteK H32 (fun c_12 H33=>s_p E (yT (qm E E) c_12)<|nx<|c_t E E<|csr<|gv E E<|nx<|zi<|zb<|zl<|zb<|zb<|zl<|zb<|zh Tryz.results24 (zc E ze) ⟨_,E,H33⟩) fun c_12 H33=>s_p E (yF (qm E E) c_12)<|nx<|cfs E E<|hJx_3 () _ _ _ _ [] H33 E ⟨E,E,E,E,True.intro⟩ E))) (fun Jx_4 hJx_4 H34=>csr<|mv E E<|iteK H34 (fun c_13 H35=>s_p E (yT (zH E E) c_13)<|nx<|c_t E E<|qw<|hJx_4 () _ _ _ _ [] H35 E ⟨E,E,E,True.intro⟩ E) fun c_13 H35=>s_p E (yF (zH E E) c_13)<|nx<|c_f E E<|qB<|zo<|zo<|zV<|hJx () _ _ _ _ [] H35 E ⟨E,E,True.intro⟩ E))
end Go.Proofs.YtabdpmnhjlmnlaaGreatDoor
end
section
namespace Go.Proofs.YtabdpmnhjlmnlaaGreatDoor
open Go Go.Pt Go.Cr Go.Hp Go.Cr.Id
structure Ith (S0 S:Mem) (i r:Nat) (W:Wd):Prop where
 ex:∃ ρ D D',Mv S0 rho0 S ρ (fun q=>Ri q∨Rd q)∧IdA S ρ i D W∧RefA S ρ r D' W
 wk:WOk W
section
variable {S S' S0:Mem} {ρ ρ':Rho} {R:Nat→Prop} {i r:Nat} {W W':Wd} {D:Ra} {Di:Da}
theorem Ith.keeps0 (b:Ith S0 S i r W):Keeps S0 S []:=by
 obtain⟨_,_,_,m,_⟩:=b.ex
 exact gd m
theorem Ith.on (b:Ith S0 S i r W) (hk:Keeps S S' []):Ith S0 S' i r W:=by
 obtain⟨ρ,Di,D,m,hI,hR⟩:=b.ex
 exact⟨⟨ρ,Di,D,m.then hk,hI.keeps b.wk hk,hR.keeps b.wk hk⟩,b.wk⟩
theorem Ith.act (m0:Mv S0 rho0 S ρ (fun q=>Ri q∨Rd q)) (hwk:WOk W) (hw':WOk W') (hR:RefA S ρ r D W) {ρ1:Rho} {D1:Da} {S1:Mem} (m1:Mv S ρ S1 ρ1 Ri) (h1:IdA S1 ρ1 i D1 W') :
  RefA S1 ρ1 r D W∧∀ S2,RAft r S1 ρ1 W' S2→Ith S0 S2 i r W':=by
 refine⟨hR.keep (fun n p l=>hwk.six') m1 fun q h1 h2 h3=>by omega,fun S2 hA=>?_⟩
 obtain⟨ρ2,D2,m2,h2⟩:=hA
 exact⟨⟨ρ2,D1,D2,(m0.trans (m1.mono fun q hq=>.inl hq)).trans (m2.mono fun q hq=>.inr hq),h1.keep hw' m2 fun q h1 h2 h3=>by unfold Rd at h3;omega,h2⟩,hw'⟩
theorem zlu (b:Ith S0 S i r W) (hs:Sole W 0) (hf : -80000≤W.free∧W.free≤80000) {e:Nat} (he:W.evB e) (hel:e≤700000000) {n k:Int} {Q:Int→Int→Mem→Prop} (hQ:∀ S',Ith S0 S' i r (W.run n k).2→Lft 0 W (W.run n k).2→Q (W.run n k).1 (W.run n k).1 S') :
  wy S (some (i,0)) n k fun t S1=>yv S1 (some (r,0)) n k fun t' S2=>Q t t' S2:=by
 obtain⟨ρ,Di,D,m0,hI,hR⟩:=b.ex
 refine zhF hI b.wk hs (fun i=>Nat.le_trans (he i) (by omega)) (by omega) fun S1 hA hL=>?_
 obtain⟨ρ1,D1,m1,h1,_⟩:=hA
 obtain⟨hR1,hfin⟩:=Ith.act m0 b.wk hL.wk hR m1 h1
 exact zhe hR1 b.wk hs (fun i=>Nat.le_trans (he i) (by omega)) (by omega) fun S2 hA2 _=>hQ S2 (hfin S2 hA2) hL
theorem zkB (b:Ith S0 S i r W) {e:Nat} (he:W.evB e) (hel:e≤700000000) {Q:Bool→Mem→Prop} (hQ:∀ S',Keeps S S' []→Q true S'):xN S (some (i,0)) (some (r,0)) Q:=by
 apply jL
 unfold xb
 refine zZ (fun J=>∀ S',Keeps S S' []→J S') (fun S' hk=>?_) fun J hJ=>?_
 ·obtain⟨ρ,Di,D,m0,hI,hR⟩:=(b.on hk).ex
  rw[qY,zW hR.c1]
  refine zcJ hI ?_
  refine⟨hR.c1,?_⟩
  rw[decide_eq_true rfl]
  exact hQ S' hk
 refine qx (fun (z:Int) S'=>∃ i:Nat,z=(i:Int)∧i≤6∧Keeps S S' []) (fun z=>6-z.toNat) ?_ ⟨0,rfl,by decide,Keeps.refl⟩
 rintro X z S1 ⟨n,rfl,hn6,hk1⟩ ih
 by_cases hlt:(n:Int)<6
 rotate_left
 ·refine zZ (fun _=>True) trivial fun J' _=>?_
  rw[if_neg hlt];exact hJ S1 hk1
 have hn:n<6:=by omega
 refine zZ (fun J'=>J' S1) ?_ fun J' hJ'=>by rw[if_pos hlt];exact hJ'
 obtain⟨ρ,Di,D,m0,hI,hR⟩:=(b.on hk1).ex
 have hevn:=he n
 refine zZ (fun J'=>∀ S',Keeps S S' []→J' S') (fun S' hk=>by rw[w64 (by omega) (by omega)];exact ih _ _ ⟨n+1,by omega,by omega,hk⟩ (by omega)) fun J1 hJ1=>?_
 refine zed hI hn (by omega) fun t S2 hk2 hrow=>?_
 have hR2:=hR.keeps b.wk hk2
 have hrw:=hR2.ev n hn
 have hn2:=hrw.n (by decide) (zbc zbd _)
 have hw1:Rw S2 (fun _=>some 0) 0 4 t ((W.ev n).flatMap evL):=⟨hrow,fun _ _ _=>rfl⟩
 have hn1:=hw1.n (by decide) (zbc zbd _)
 refine zZ (fun J'=>J' S2) ?_ fun J' hJ'=>by
  rw[qY]
  refine⟨by omega,by omega,?_⟩
  rw[vP (hR2.ecell hn (by omega)),if_neg (by rw[hn1,hn2];simp)];exact hJ'
 refine qx (fun (z:Int) S'=>∃ i:Nat,z=(i:Int)∧i≤(W.ev n).length∧S'=S2) (fun z=>(W.ev n).length-z.toNat) ?_ ⟨0,rfl,Nat.zero_le _,rfl⟩
 rintro X2 z S3 ⟨j,rfl,hi,hS⟩ ih2
 subst hS
 by_cases hl2:(j:Int)<(t.n:Int)
 rotate_left
 ·refine zZ (fun _=>True) trivial fun J2 _=>?_
  rw[if_neg hl2];exact hJ1 S3 (hk1.trans hk2)
 refine zZ (fun J2=>J2 S3) ?_ fun J2 hJ2=>by rw[if_pos hl2];exact hJ2
 have hil:j<(W.ev n).length:=by omega
 have hfl:=zbc zbd (W.ev n)
 obtain⟨c,e1,e2⟩:=hw1.sl (by rw[hfl];omega)
 obtain⟨c',e1',e2'⟩:=hrw.sl (by rw[hfl];omega)
 rw[show sl t=sl ⟨some (c,0),t.n,t.c⟩ by rw[←e1],zah]
 refine⟨by omega,by omega,?_⟩
 rw[zbk ((hw1.part e2 (j*4) (by rw[hfl];omega) (by omega)).trans (zhN zbd hil)),qY]
 refine⟨by omega,by omega,?_⟩
 rw[vP (hR2.ecell hn (by omega)),show sl (D.es n)=sl ⟨some (c',0),(D.es n).n,(D.es n).c⟩ by rw[←e1'],zah]
 refine⟨by omega,by omega,?_⟩
 rw[zbk ((hrw.part e2' (j*4) (by rw[hfl];omega) (by omega)).trans (zhN zbd hil))]
 refine⟨rfl,rfl,?_⟩
 rw[(zhO (ks:=[.i .u8,.i .i64,.i .u64,.i .u64]) rfl rfl).2 rfl]
 rw[if_neg (by decide),w64 (by omega) (by omega)]
 exact ih2 _ _ ⟨j+1,by omega,by omega,rfl⟩ (by omega)
theorem zic (hgl:Gl S) {Q:Bool→Mem→Prop} (hQ:∀ S',Keeps S S' []→Q true S'):qP S Q:=by
 apply kV
 unfold yI
 refine zec (ρ:=rho0) (fun _ _ h=>by cases h) hgl rfl fun i ρ1 S1 m1 h1=>?_
 refine zbb (sn:=1) (qn:=4) (pn:=4) (xs:=[]) h1 (by decide) (by decide) (by decide) ⟨rfl,by decide,fun x h=>(by cases h),.inl rfl⟩ (by simp) (by decide) fun S2 hA=>?_
 obtain⟨ρ2,D2,m2,h2,_⟩:=hA
 rw[if_pos rfl]
 refine zcJ h2 ?_
 have e:((W0 9).made 0 1 4 4 []).free=0:=rfl
 have e2:decide (((W0 9).made 0 ((1:Nat):Int) ((4:Nat):Int) ((4:Nat):Int) []).free=0)=true:=by decide
 rw[e2]
 exact hQ S2 (gd ((m1.mono (R':=Ri) fun _ h=>h.elim).trans m2))
set_option maxHeartbeats 1000000 in
theorem zee (hgl:Gl S) {steps key:Int} {p:Sl} {xs:List Int} (hb:By S p xs) (hst:0≤steps∧steps≤255) (hk:0≤key∧key≤255):qE S p steps key fun r S'=>r=true∧Keeps S S' []:=by
 have hlen:=hb.len
 unfold qE
 refine zZ (fun J=>∀ S1,Keeps S S1 []→xs.length≤512→J S1) ?_ fun J hJ=>?_
 rotate_left
 ·refine zic hgl fun S1 hk1=>?_
  rw[if_pos rfl]
  have hg1:Gl S1:=hgl.keep (hk1 0 (zbS hgl) (by simp))
  by_cases h512:512<(p.n:Int)
  ·rw[if_pos h512]
   exact zic hg1 fun S2 hk2=>⟨rfl,hk1.trans hk2⟩
  ·rw[if_neg h512]
   exact hJ S1 hk1 (by omega)
 intro S1 hk1 h512
 have hg1:Gl S1:=hgl.keep (hk1 0 (zbS hgl) (by simp))
 have hb1:=hb.keep hk1
 refine zec (ρ:=rho0) (fun _ _ h=>by cases h) hg1 rfl fun i ρ2 S2 m2 h2=>?_
 refine zhg h2.rg fun r ρ3 S3 m3 hR3=>?_
 have h3:=h2.keep wok_W0 m3 fun _ _ _ h=>h
 have m13:Mv S1 rho0 S3 ρ3 (fun q=>Ri q∨Rd q):=(m2.trans m3).mono fun _ h=>h.elim
 have ec:(W0 30).create 2 4 2 xs=(0,0,(W0 30).made 0 2 4 2 xs):=zhT (n:=0) (by decide) (by omega) (by decide) (by decide)
 refine zbb (sn:=2) (qn:=4) (pn:=2) (xs:=xs) h3 (by decide) (by decide) (by decide) (hb1.imgB m13) (by omega) (by decide) fun S4 hA=>?_
 obtain⟨ρ4,D4,m4,h4,hks4⟩:=hA
 have hbyt:Byt xs:=(hb1.imgB m13).byt
 have hok4:=zeO (f:=30) (F:=30-(5+((2:Nat):Int))) (sn:=2) (qn:=4) (xs:=xs) (by decide) (by decide) hbyt (i:=2) (by decide)
 rw[zdV rfl] at hok4
 obtain⟨hw4,hs4,_⟩:=hok4
 have hR4:RefA S4 ρ4 r ra0 (W0 30):=hR3.keep (fun n p l=>wok_W0.six') m4 fun q h1 h2 h3=>by omega
 have m14:Mv S1 rho0 S4 ρ4 (fun q=>Ri q∨Rd q):=m13.trans (m4.mono fun q hq=>.inl hq)
 refine zdU hR4 wok_W0 (by decide) (hb1.imgB m14) (by omega) fun S5 hA5=>?_
 rw[ec] at hA5
 obtain⟨ρ5,D5,m5,hR5⟩:=hA5
 have h5:=h4.keep hw4 m5 fun q h1 h2 h3=>by unfold Rd at h3;omega
 have m15:=m14.trans (m5.mono (R':=fun q=>Ri q∨Rd q) fun q hq=>.inr hq)
 have hL6:=ziJ hw4 hs4 (m:=0) hk
 refine zhJ h5 hw4 hs4 hks4 hk fun S6 ρ6 D6 m6 h6=>?_
 obtain⟨hR6,hfin6⟩:=Ith.act m15 hw4 hL6.wk hR5 m6 h6
 have e4:((W0 30).made 0 2 4 2 xs).evB 0:=by
  have:=(zkY (f:=30)).create (s:=2) (q:=4) (p:=2) (img:=xs)
  rw[ec] at this;exact this
 refine zhh hR6 hw4 hk fun S7 hA7=>?_
 have b7:=hfin6 S7 hA7
 have e7:=e4.key (n:=0) (b:=key)
 refine zZ (fun J=>∀ S' W,Ith S1 S' i r W→W.evB 765→J S') (fun S8 W8 b8 e8=>?_) fun J hJ=>?_
 ·rw[if_pos rfl]
  exact zkB b8 e8 (by decide) fun S9 hk9=>⟨rfl,hk1.trans (b8.keeps0.trans hk9)⟩
 have est:IntKind.i64.wrap steps=steps:=w64 (by omega) (by omega)
 rw[est]
 have hf7:=hL6.f
 have hf4:((W0 30).made 0 2 4 2 xs).free=23:=rfl
 have hf4':((W0 30).made 0 ((2:Nat):Int) ((4:Nat):Int) ((2:Nat):Int) xs).free=23:=rfl
 refine qx (fun (z:Int) S'=>∃ (j:Nat) (W:Wd),z=(j:Int)∧(j:Int)≤steps∧Ith S1 S' i r W∧Sole W 0∧W.evB (3*j)∧20-(j:Int)≤W.free∧W.free≤26+(j:Int)) (fun z=>(steps-z).toNat) ?_ ⟨0,_,rfl,by omega,b7,hL6.so,e7,by omega,by omega⟩
 rintro X z S8 ⟨j,W,rfl,hi,b8,hs8,e8,hf8,hf8'⟩ ih
 by_cases hlt:(j:Int)<steps
 ·refine zZ (fun J=>J S8) ?_ fun J hJ=>by rw[if_pos hlt];exact hJ
  refine zlu b8 hs8 (by omega) e8 (by omega) fun S9 b9 hL9=>?_
  have hf9:=hL9.f
  rw[if_neg (fun h=>h rfl),w64 (by omega) (by omega)]
  exact ih _ _ ⟨j+1,_,by omega,by omega,b9,hL9.so,e8.run,by omega,by omega⟩ (by omega)
 ·refine zZ (fun _=>True) trivial fun J' _=>?_
  rw[if_neg hlt]
  exact hJ S8 W b8 (e8.mono (by omega))
end
end Go.Proofs.YtabdpmnhjlmnlaaGreatDoor
end
