/- Texts of this work,joined by program (pack.py): Xd,Rp,Xe,Xf,Rq,Xg,Xh,Ih,Ii,Ij,Xi. -/
import Derived.Test.YtabdpmnhjlmnlaaGreatDoorQLO
import Derived.Test.YtabdpmnhjlmnlaaGreatDoorQLJ
import Derived.Test.YtabdpmnhjlmnlaaGreatDoorQLM
import Derived.Test.YtabdpmnhjlmnlaaGreatDoorQLF
set_option linter.unusedVariables false
section
namespace Go.Proofs.YtabdpmnhjlmnlaaGreatDoor
open Go Go.Pt Go.Cr Go.Hp Go.Cr.Id
abbrev Ri (r:Nat):Prop:=600≤r∧r<900
def IAft (b:Nat) (D:Da) (S:Mem) (ρ:Rho) (W':Wd) (S':Mem):Prop:=∃ ρ' D',Mv S ρ S' ρ' Ri∧IdA S' ρ' b D' W'∧∀ i,(D'.x i).ss=(D.x i).ss
theorem zlr {D:Da} {n:Nat} {x':Vx} (e:x'.ss=(D.x n).ss):∀ i,((D.setX n x').x i).ss=(D.x i).ss:=fun i=>by
 show (upd D.x n x' i).ss=_
 by_cases h:i=n
 ·subst h;rw[zt,e]
 ·rw[zv h]
section
variable {S S':Mem} {ρ ρ':Rho} {R:Nat→Prop} {b:Nat} {D:Da} {W:Wd} {n:Nat}
theorem IAft.here (h:IdA S ρ b D W):IAft b D S ρ W S:=⟨ρ,D,Mv.refl h.rg,h,fun _=>rfl⟩
theorem _root_.Go.Cr.Id.IdA.aft {W':Wd} {D':Da} (h:IdA S' ρ' b D' W') (m:Mv S ρ S' ρ' R) (hR:∀ q,R q→600≤q∧q<900) (hss:∀ i,(D'.x i).ss=(D.x i).ss:=by first | exact fun _=>rfl | exact zlr rfl):IAft b D S ρ W' S':=⟨ρ',D',m.mono hR,h,hss⟩
theorem IAft.trans {S1:Mem} {W':Wd} (m:Mv S ρ S1 ρ' R) (hR:∀ q,R q→600≤q∧q<900) (h:IAft b D S1 ρ' W' S'):IAft b D S ρ W' S':=by
 obtain⟨ρ2,D2,m2,h2,e2⟩:=h
 exact⟨ρ2,D2,(m.mono hR).trans m2,h2,e2⟩
theorem jb (h:IdA S ρ b D W) {n:Int} {Q:Bool→Mem→Prop} (hQ:Q (decide (W.there n)) S):qT S (some (b,0)) n Q:=by
 apply fc
 unfold we
 rw[if_pos (by simp)]
 by_cases h0:0≤n
 ·rw[if_pos h0]
  by_cases h6:n<6
  ·rw[if_pos h6,qY]
   refine⟨h0,h6,?_⟩
   rw[zav (h.on_ (n:=n.toNat) (by omega) (by omega))]
   have:decide (W.there n)=(W.vm n.toNat).on:=by
    by_cases hb:(W.vm n.toNat).on=true
    ·rw[hb];exact decide_eq_true ⟨h0,h6,hb⟩
    ·rw[Bool.not_eq_true] at hb
     rw[hb];exact decide_eq_false fun h=>by rw[h.2.2] at hb;cases hb
   rw[this] at hQ;exact hQ
  ·rw[if_neg h6]
   rw[decide_eq_false fun h=>h6 h.2.1] at hQ;exact hQ
 ·rw[if_neg h0]
  rw[decide_eq_false fun h=>h0 h.1] at hQ;exact hQ
theorem zaN (h:IdA S ρ b D W) (hwk:WOk W) (hn:n<6) (hl:(W.ev n).length≤1000000000) {e:Evt} {Q:Mem→Prop} (hQ:∀ S',IAft b D S ρ (W.tell n e) S'→Q S'):yK S (some (b,0)) n (evL e) Q:=by
 apply fW
 unfold wC
 have hrow:=h.ev n hn
 have hsn:=hrow.n (by decide) (zbc zbd _)
 refine⟨rfl,?_⟩
 rw[qY]
 refine⟨by omega,by omega,?_⟩
 rw[Int.toNat_natCast,vP (h.ecell hn (by omega))]
 refine⟨rfl,?_⟩
 refine zkh (R:=fun q=>q=640+n) (Mv.refl h.rg) rfl hrow rfl (by decide) rfl (by omega) fun s' S1 ρ1 m1 m1' h1 _=>?_
 refine⟨by omega,by omega,?_⟩
 refine Bl.ptN (h.hd.keep m1' (by omega)) m1.rg (i:=753+n) (vs:=[eL s']) rfl (by rw[Ic0.len];simp;omega) (by omega) fun S2 m2 h2=>?_
 rw[Ic0.sete (c:=D.c W) hn rfl] at h2
 have mm:Mv S ρ S2 ρ1 (fun q=>q=600∨q=640+n):=(m1.mono fun q hq=>.inr hq).trans (m2.mono fun q hq=>.inl hq)
 refine hQ S2 ⟨ρ1,{ D with es:=upd D.es n s' },mm.mono fun q hq=>by omega,⟨mm.rg,zjj h.gl mm h.g0,zji h.gl mm h.g0,h2,fun i hi=>(h.se i hi).keep mm (by omega),fun i hi=>(h.ke i hi).keep mm (by omega),fun i hi ho j hj=>(h.di i hi ho j hj).keep mm (by omega),fun i p l hl=>?_,fun i hi=>?_,h.ck.keep mm (by omega),h.now,h.time⟩,fun _=>rfl⟩
 ·have:=hwk.six' (W:=W) (n:=i) (p:=p) (l:=l) hl
  exact (h.pg i p l hl).keep mm (by omega)
 ·show Rw S2 ρ1 (640+i) 4 (upd D.es n s' i) ((upd W.ev n (W.ev n++[e]) i).flatMap evL)
  by_cases e1:i=n
  ·subst e1
   rw[zt,zt,List.flatMap_append]
   have e3:[e].flatMap evL=evL e:=by simp
   rw[e3]
   exact h1.keep m2 (by omega)
  ·rw[zv e1,zv e1]
   exact (h.ev i hi).keep mm (by omega)
theorem zeU (h:IdA S ρ b D W) (hn:n<6) {Q:Int→Mem→Prop} (hQ:Q (W.pages n) S):wW S (some (b,0)) n Q:=by
 apply fd
 unfold wg
 simp only[jn]
 rw[qY]
 refine⟨by omega,by omega,?_⟩
 rw[Int.toNat_natCast,zbk (h.slots hn (by omega))]
 refine qx (fun (z:Int×Int) S'=>∃ i:Nat,z=(((count (fun p=>(W.own n p).isSome) i:Nat):Int),(i:Int))∧i≤32∧S'=S) (fun z=>32-z.2.toNat) ?_ ⟨0,rfl,by decide,rfl⟩
 rintro X z S' ⟨i,rfl,hi,hS⟩ ih
 subst hS
 dsimp only at ih ⊢
 have hc:=zdv (fun p=>(W.own n p).isSome) i
 by_cases hlt:(i:Int)<32
 ·rw[if_pos hlt]
  refine⟨by omega,hlt,?_⟩
  have hp:lpart (cF 32 fun p=>slL (D.A (32*n+p)) (W.own n p).isSome) ((i:Int).toNat*3) 3=some (slL (D.A (32*n+i)) (W.own n i).isSome):=by
   have:=zbZ (w:=3) (k:=0) (m:=3) (n:=32) (f:=fun p=>slL (D.A (32*n+p)) (W.own n p).isSome) (fun _ _=>rfl) (i:=i) (by omega) (by decide)
   rw[Int.toNat_natCast]
   rw[Nat.add_zero] at this
   rw[this];rfl
  rw[zbk hp]
  refine⟨by cases (W.own n i).isSome <;> rfl,?_⟩
  rw[zav (show nthL (slL (D.A (32*n+i)) (W.own n i).isSome) 1=some (.bool (W.own n i).isSome) from rfl)]
  have e:=yn (fun p=>(W.own n p).isSome) i
  cases ho:(W.own n i).isSome with
  | true=>
   rw[if_pos rfl,w64 (by omega) (by omega),w64 (by omega) (by omega)]
   refine ih _ _ ⟨i+1,?_,by omega,rfl⟩ (by dsimp only;omega)
   rw[e,ho];rfl
  | false=>
   rw[if_neg (by decide),w64 (by omega) (by omega)]
   refine ih _ _ ⟨i+1,?_,by omega,rfl⟩ (by dsimp only;omega)
   rw[e,ho];rfl
 ·rw[if_neg hlt]
  have:i=32:=by omega
  subst this
  exact hQ
theorem zcI (h:IdA S ρ b D W) (hs:Sole W n) (hn:n<6) {p:Int} {Q:Pt→Int→Mem→Prop} (hY:W.mine n p=0→0≤p→p<32→Q (some (b,2+n*109+12+p.toNat*3)) 0 S) (hN:W.mine n p≠0→Q none (W.mine n p) S):xW S (some (b,0)) n p Q:=by
 apply zaa
 unfold wG
 simp only[jn]
 by_cases h0:p<0
 ·have e:W.mine n p=11:=by unfold Wd.mine;rw[if_pos (.inl h0)]
  rw[e] at hN
  rw[if_pos h0];exact hN (by decide)
 rw[if_neg h0]
 by_cases h1:32≤p
 ·have e:W.mine n p=11:=by unfold Wd.mine;rw[if_pos (.inr (.inl (by omega)))]
  rw[e] at hN
  rw[if_pos h1];exact hN (by decide)
 rw[if_neg h1,qY]
 refine⟨by omega,by omega,by omega,by omega,?_⟩
 rw[Int.toNat_natCast,zbT (zdM h hn (p:=p.toNat) (by omega) (by omega))]
 cases ho:(W.own n p.toNat).isSome with
 | true=>
  have e:W.mine n p=0:=by
   unfold Wd.mine
   rw[hs.where_,ho,if_pos rfl,if_neg (by simp;omega),if_pos rfl]
  rw[if_pos rfl,if_neg (by simp),qY]
  refine⟨by omega,by omega,by omega,by omega,?_⟩
  rw[zav (zkx h hn (p:=p.toNat) (by omega) (by omega)),ho,if_pos rfl]
  refine⟨by omega,by omega,by omega,by omega,?_⟩
  have:=hY e (by omega) (by omega)
  rw[Nat.zero_add];exact this
 | false=>
  have e:W.mine n p=11:=by
   unfold Wd.mine
   rw[hs.where_,ho,if_pos (.inr (.inr (by rfl)))]
  rw[e] at hN
  rw[if_pos (by rfl)]
  exact hN (by decide)
theorem zhE (h:IdA S ρ b D W) (hwk:WOk W) {k:Nat} (hn:n<6) (hk:k<3) {tm:Int} {Q:Int→Mem→Prop} (hQ:∀ S',IAft b D S ρ W S'→(∀ i,i<6→S'.cell b (0+2+i*109+108)=some (.int .u64 (D.be i)))→Q 0 S'):wM S (some (b,752)) n k tm Q:=by
 obtain⟨l,alm,h1,h2,h3⟩:=h.ck.ex
 have hlen:=h3.len
 have hck:Hk.Ck S b 752 129 (D.c W).L D.cl l:=⟨h.hd.at_,Ic0.getcl (c:=D.c W),h1,fun c hc e=>(by
  have r1:=h.ck.rol c hc
  rw[←e,h.hd.rol] at r1;cases r1),h2,by omega⟩
 refine Hk.set_spec hck (by omega) (by omega) (by omega) (by omega) (by omega) fun S' s' l' hp hL=>?_
 have hal:AlmOf l' (upd alm n (upd (alm n) k (some tm))):=by
  refine AlmOf.perm ?_ hp
  refine⟨List.nodup_cons.2 ⟨fun hm=>?_,List.Pairwise.filter _ h3.nd⟩,fun a hm=>?_,fun m j t e=>?_⟩
  ·have:=(List.mem_filter.1 hm).2
   simp at this
  ·rcases List.mem_cons.1 hm with e | e
   ·subst e
    refine⟨by simp only;omega,by simp only;omega,by simp only;omega,by simp only;omega,?_⟩
    simp only[Int.toNat_natCast]
    rw[zt,zt]
   ·have g1:=h3.of a (List.mem_filter.1 e).1
    have g2:=(List.mem_filter.1 e).2
    refine⟨g1.1,g1.2.1,g1.2.2.1,g1.2.2.2.1,?_⟩
    by_cases e1:a.vm.toNat=n
    ·have e2:a.seat.toNat≠k:=fun e2=>by
      have:a.vm=n∧a.seat=k:=by omega
      simp[this.1,this.2] at g2
     rw[e1,zt,zv e2,←e1];exact g1.2.2.2.2
    ·rw[zv e1];exact g1.2.2.2.2
  ·by_cases e1:m=n
   ·subst e1
    rw[zt] at e
    by_cases e2:j=k
    ·subst e2
     rw[zt] at e
     cases e;simp
    ·rw[zv e2] at e
     refine List.mem_cons_of_mem _ (List.mem_filter.2 ⟨h3.to m j t e,?_⟩)
     simp;omega
   ·rw[zv e1] at e
    refine List.mem_cons_of_mem _ (List.mem_filter.2 ⟨h3.to m j t e,?_⟩)
    have:¬((m:Int)=n):=by omega
    simp[this]
 have hck2:=hL.ck
 rw[Ic0.setc (c:=D.c W)] at hck2
 obtain⟨ρ',m,h5⟩:=ziE (rb:=600) (rr:=630) h.rg hL.keep h.hd.rol h.ck.rol zjE hL.fresh hL.al fun x hx=>by
  obtain⟨k,hk⟩:=Hk.own_row hck2.row hx;rw[hk];simp
 have hI:IdA S' ρ' b { D with cl:=s' } W:=⟨m.rg,zjj h.gl m h.g0,zji h.gl m h.g0,⟨hck2.blk,m.ext b 600 h.hd.rol⟩,fun i hi=>(h.se i hi).keep m (by omega),fun i hi=>(h.ke i hi).keep m (by omega),fun i hi ho j hj=>(h.di i hi ho j hj).keep m (by omega),fun i p l hl=>by
  have:=hwk.six' hl
  exact (h.pg i p l hl).keep m (by omega),fun i hi=>(h.ev i hi).keep m (by omega),⟨⟨l',_,hck2.row,hck2.heap,hal⟩,h5⟩,h.now,h.time⟩
 exact hQ S' (hI.aft m fun q hq=>by omega) fun i hi=>hI.vbe hi (by omega)
end
end Go.Proofs.YtabdpmnhjlmnlaaGreatDoor
end
section
namespace Go.Cr
open Go Go.Pt
theorem zdW {S:Mem} {b o m:Nat} {v:Value} {vs:List Value} (h:S.part b o (m+1)=some (v :: vs)):S.part b (o+1) m=some vs∧S.cell b o=some v∧S.part b o 0=some []:=by
 obtain⟨k,e1,e2⟩:=zcz h
 obtain⟨h1,h2,_⟩:=qV e2
 have e3:k.cs.drop o=k.cs[o] :: k.cs.drop (o+1):=List.drop_eq_getElem_cons (by omega)
 rw[e3,List.take_succ_cons] at h2
 refine⟨?_,?_,?_⟩
 ·rw[xG e1,qR (by omega)]
  rw[(List.cons.inj h2).2]
 ·rw[qK e1,qi,List.getElem?_eq_getElem (by omega),(List.cons.inj h2).1]
 ·rw[xG e1,qR (by omega)];rfl
end Go.Cr
namespace Go.Proofs.YtabdpmnhjlmnlaaGreatDoor
open Go Go.Pt Go.Cr Go.Hp
section
variable {S S':Mem} {ρ ρ':Rho} {R:Nat→Prop} {r:Nat} {D:Ra} {W:Wd} {n:Nat}
set_option maxHeartbeats 4000000 in
set_option maxRecDepth 20000 in
theorem zge (h:RefA S ρ r D W) (hwk:WOk W) (hs:Sole W n) {k:Nat} (hk:k<(W.vm n).seats.length) (hl:(W.ev n).length≤900000000) (hf : -100000≤W.free∧W.free≤100000) {c w1 w2 w3:Int} (h1:W64 w1) (h2:W64 w2) {Q:Int→Int→Mem→Prop}
  (hQ:∀ S',RAft r S ρ (W.call n k c w1 w2 w3).2.2 S'→Q (W.call n k c w1 w2 w3).1 (W.call n k c w1 w2 w3).2.1 S'):xH S (some (r,0)) n k c w1 w2 w3 Q:=by
 have hn:=hwk.on6 hs.on
 have h3:=hwk.seats n hs.on
 obtain⟨mb,e1,hme⟩:=h.me n hn hs.on
 have hv:=h.vs n hn
 have g15:∀ {y:Option Value},y=some (eP (D.x n).mb)→y=some (eP (some (mb,0))):=fun e=>by rw[e,e1]
 have hm15:nthL (rvL (D.x n) (W.vm n) (fun p=>(W.own n p).isSome) fun k=>(W.alarm n k).isSome) 15=some (eP (some (mb,0))):=g15 rvL_m
 apply jE
 unfold yU
 refine zbH h1 ?_
 refine zbH h2 ?_
 rw[qY]
 refine⟨by omega,by omega,?_⟩
 rw[Int.toNat_natCast,zbk (h.vpart hn (by omega))]
 refine⟨zhc,?_⟩
 unfold Wd.call at hQ
 by_cases c0:c=0
 ·subst c0
  simp only[jn,Int.reduceEq,↓reduceIte]
  rw[if_pos rfl] at hQ
  rw[Int.tmod_eq_emod_of_nonneg h1.1]
  exact kC h hwk hn (by omega) fun S1 hA=>hQ S1 hA
 rw[if_neg c0] at hQ
 by_cases c1:c=1
 ·subst c1
  simp only[jn,Int.reduceEq,↓reduceIte]
  rw[if_pos rfl] at hQ
  have hks:nthL (rvL (D.x n) (W.vm n) (fun p=>(W.own n p).isSome) fun k=>(W.alarm n k).isSome) 4=some (eL (D.x n).ks):=rfl
  have hke:=hv.ke
  have hkl:=hke.len
  have hcap:=hke.cap
  have h64:=hwk.keys n
  unfold Wd.nextKey at hQ
  rw[vP hks]
  cases hkk:(W.vm n).keys with
  | nil=>
   rw[hkk] at hQ hkl
   rw[if_pos (by rw[←hkl];rfl)]
   exact hQ S (RAft.here h)
  | cons x l=>
   rw[hkk] at hQ hkl h64
   simp only[List.length_cons] at hkl h64
   have hbx:=h64.2 x (by simp)
   rw[if_neg (by omega),vP hks]
   refine⟨by decide,by omega,by omega,?_⟩
   rcases hke.lie with ⟨_,h0⟩ | ⟨b,o,hp,hpart,hρ,hb⟩
   ·rw[hkk] at h0;cases h0
   rw[hkk] at hpart
   obtain⟨t1,t2,t3⟩:=zdW (m:=l.length) (v:=.int .u8 x) (vs:=bL l) hpart
   have hkr:Kr S ρ (220+n) (slc 1 (D.x n).ks 1 ((D.x n).ks.n:Int)) l:=by
    refine⟨?_,?_,.inr ?_⟩
    ·show l.length=(((D.x n).ks.n:Int)-1).toNat
     omega
    ·show (((D.x n).ks.n:Int)-1).toNat≤(D.x n).ks.c-(1:Int).toNat
     rw[show (1:Int).toNat=1 from rfl]
     omega
    ·by_cases hc:(D.x n).ks.c=1
     ·have hl0:l=[]:=List.length_eq_zero_iff.1 (by omega)
      subst hl0
      refine⟨b,o,?_,t3,hρ,hb⟩
      show (if (D.x n).ks.c=(1:Int).toNat then (D.x n).ks.p else _)=_
      rw[if_pos (by rw[hc];rfl),hp]
     ·refine⟨b,o+1,?_,t1,hρ,hb⟩
      show (if (D.x n).ks.c=(1:Int).toNat then (D.x n).ks.p else (D.x n).ks.p.map fun q=>(q.1,q.2+(1:Int).toNat*1))=_
      rw[if_neg (by rw[show (1:Int).toNat=1 from rfl];exact hc),hp];rfl
   show _∧_∧_
   refine⟨by omega,by omega,?_⟩
   refine h.putV (n:=n) (j:=4) (vs:=[eL (slc 1 (D.x n).ks 1 ((D.x n).ks.n:Int))]) (x':={ D.x n with ks:=slc 1 (D.x n).ks 1 ((D.x n).ks.n:Int) }) (v':=(W.vm n).setKeys l) hn rfl (by simp) (by omega) rfl fun S1 m1 hd1=>?_
   have hA:=h.setV hwk hn m1 (fun q hq=>.inl hq) hd1 ⟨hv.se.keep m1 (by omega),hkr.keep m1 (by omega),fun _ j hj=>by
    obtain⟨b,h1,h2⟩:=hv.di hs.on j hj
    exact⟨b,h1,h2.keep m1 (by omega)⟩,fun ho=>by
    have ho':(W.vm n).on=false:=ho
    rw[hs.on] at ho';cases ho'⟩ rfl rfl rfl rfl
   rw[vP hks]
   have hsl:(D.x n).ks=⟨some (b,o),(D.x n).ks.n,(D.x n).ks.c⟩:=by rw[←hp]
   rw[show sl (D.x n).ks=sl ⟨some (b,o),(D.x n).ks.n,(D.x n).ks.c⟩ by rw[←hsl],zah]
   refine⟨by omega,?_⟩
   have hcell:S1.cell b o=some (.int .u8 x):=by
    have e:S1 b=S b:=m1.kp b hb fun q e=>by rw[hρ] at e;cases e;omega
    simp only[Mem.cell,e] at t2 ⊢;exact t2
   rw[zW hcell,wu64 (by omega) (by omega)]
   exact hQ S1 (hA.aft m1 fun q hq=>by omega)
 rw[if_neg c1] at hQ
 by_cases c2:c=2
 ·subst c2
  simp only[jn,Int.reduceEq,↓reduceIte]
  have er:W.ring n (small w1) (small w2)=(2,W):=by unfold Wd.ring;rw[if_pos (hs.noB hwk)]
  rw[if_pos rfl,er] at hQ
  refine kY h ?_
  by_cases ht:W.there (small w1)
  ·rw[decide_eq_true ht,if_pos rfl]
   refine⟨ht.1,ht.2.1,?_⟩
   rw[zav ((show 9+(small w1).toNat*1=9+(small w1).toNat by omega) ▸ zir (j:=(small w1).toNat) (by have:=ht.2.1;have:=ht.1;omega)),hs.bell hwk,if_neg (by decide)]
   exact hQ S (RAft.here h)
  ·rw[decide_eq_false ht,if_neg (by decide)]
   exact hQ S (RAft.here h)
 rw[if_neg c2] at hQ
 by_cases c3:c=3
 ·subst c3
  simp only[jn,Int.reduceEq,↓reduceIte]
  rw[if_pos rfl] at hQ
  refine⟨by omega,by omega,by omega,by omega,?_⟩
  rw[Int.toNat_natCast]
  refine h.put (i:=2+(n*54+(48+k))) (vs:=[.bool true]) rfl (by simp;omega) (by omega) fun S1 m1 hd1=>?_
  refine⟨by omega,by omega,by omega,by omega,?_⟩
  refine hd1.pt m1.rg (vs:=[.int .u64 w1]) (2+(n*54+(51+k))) rfl (by rw[qj (by rw[Rc0.len];simp;omega),Rc0.len];simp;omega) (by omega) fun S2 m2 hd2=>?_
  rw[zkb hn (by omega)] at hd2
  have m12:=m1.trans m2
  exact hQ S2 ((h.alarm hwk hn m12 hd2 hs.on).aft m12 fun q hq=>by omega)
 rw[if_neg c3] at hQ
 by_cases c4:c=4
 ·subst c4
  simp only[jn,Int.reduceEq,↓reduceIte]
  rw[if_pos rfl] at hQ
  unfold Wd.offer at hQ
  refine zcv h hs hn ?_
  by_cases e:W.mine n (small w1)≠0
  ·rw[if_pos e] at hQ ⊢
   exact hQ S (RAft.here h)
  rw[if_neg e] at hQ ⊢
  refine kY h ?_
  by_cases ht:W.there (small w2)
  ·rw[if_neg (fun h=>h ht)] at hQ
   have:=hs.there ht
   rw[if_pos this.symm] at hQ
   rw[decide_eq_true ht,if_pos rfl,if_pos this]
   exact hQ S (RAft.here h)
  ·rw[if_pos ht] at hQ
   rw[decide_eq_false ht,if_neg (by decide)]
   exact hQ S (RAft.here h)
 rw[if_neg c4] at hQ
 by_cases c57:5≤c∧c≤7
 ·have el:W.lease n c (small w1) (small w2)=(2,W):=by
   unfold Wd.lease
   rw[if_pos (.inr (.inr (hs.ls _)))]
  rw[if_pos c57,el] at hQ
  have c567:c=5∨c=6∨c=7:=by omega
  rcases c567 with c | c | c <;> subst c <;> simp only[jn,Int.reduceEq,↓reduceIte] <;> exact zeL h hs (hQ S (RAft.here h))
 rw[if_neg c57] at hQ
 by_cases c8:c=8
 ·subst c8
  simp only[jn,Int.reduceEq,↓reduceIte,Bool.false_eq_true]
  rw[if_pos rfl] at hQ
  unfold Wd.give at hQ
  refine zcv h hs hn ?_
  by_cases e:W.mine n (small w1)≠0
  ·rw[if_pos e] at hQ ⊢
   exact hQ S (RAft.here h)
  rw[if_neg e] at hQ ⊢
  have hlent:lentL W.ls n (small w1)=false:=by
   unfold lentL
   rw[List.any_eq_false]
   intro i _
   rw[hs.ls i];simp
  rw[if_neg (by rw[hlent];decide)] at hQ
  have hp:0≤small w1∧small w1<32:=by
   unfold Wd.mine at e
   split at e
   ·exact absurd (by decide) e
   ·rename_i hh;omega
  obtain⟨p,hpe⟩:∃ p:Nat,small w1=p:=⟨(small w1).toNat,by omega⟩
  rw[hpe] at hQ ⊢
  rw[Int.toNat_natCast] at hQ
  refine qx (fun (z:Int) S'=>∃ i:Nat,z=(i:Int)∧i≤16∧S'=S) (fun z=>16-z.toNat) ?_ ⟨0,rfl,by decide,rfl⟩
  rintro X z S1 ⟨i,rfl,hi,hS⟩ ih
  subst hS
  by_cases hlt:(i:Int)<16
  ·rw[if_pos hlt]
   refine⟨by omega,hlt,?_⟩
   rw[zav (h.lcell (i:=i) (j:=0) (by omega) (by decide) (by omega)),hs.ls,if_neg (by decide),w64 (by omega) (by omega)]
   exact ih _ _ ⟨i+1,by omega,by omega,rfl⟩ (by omega)
  ·rw[if_neg hlt]
   refine zgd h hwk hs (by omega) fun S2 mb2 m2 e2 hd2 hme2=>?_
   have hfree:S2.cell r (0+1)=some (.int .i64 W.free):=by
    rw[hd2.cell 1 (by rw[qj (by rw[Rc0.len];simp;omega),Rc0.len];decide) rfl]
    have:=h.c1
    rw[h.hd.cell 1 (by rw[Rc0.len];decide) rfl] at this
    rw[qi] at this ⊢
    rw[xF _ _ _ (by rw[Rc0.len];omega),List.append_assoc,List.getElem?_append_left (by rw[List.length_take,Rc0.len];omega),List.getElem?_take,if_pos (by omega)]
    exact this
   rw[zW hfree,wneg (by omega)]
   refine hd2.pt m2.rg (vs:=[.int .i64 (W.free+1)]) 1 rfl (by rw[qj (by rw[Rc0.len];simp;omega),Rc0.len];simp) rfl fun S3 m3 hd3=>?_
   have mm:Mv S1 ρ S3 ρ (fun q=>q=200∨q=230+n):=m2.trans (m3.mono fun q hq=>.inl hq)
   have e5:=zhY (D:=D) (W:=W) (n:=n) (p:=p) (o:=none) (f:=W.free+1) (A':=D.A) hn (by omega)
   rw[show (none:Option (List Int)).isSome=false from rfl] at e5
   rw[e5] at hd3
   have hfin:=h.own (o:=none) (f:=W.free+1) (A':=D.A) hwk hs (by omega) (fun _ _=>rfl) mm (fun q hq=>by omega) e2 hd3 (hme2.keep m3 (by omega)) (fun l hl=>by cases hl)
   exact hQ S3 (hfin.aft mm fun q hq=>by omega)
 rw[if_neg c8] at hQ
 by_cases c9:c=9
 ·subst c9
  simp only[jn,Int.reduceEq,↓reduceIte,Bool.false_eq_true]
  rw[if_pos rfl] at hQ
  unfold Wd.get at hQ
  by_cases p0:small w1<0
  ·rw[if_pos (.inl p0)] at hQ
   rw[if_pos p0];exact hQ S (RAft.here h)
  rw[if_neg p0]
  by_cases p1:31<small w1
  ·rw[if_pos (.inr p1)] at hQ
   rw[if_pos p1];exact hQ S (RAft.here h)
  rw[if_neg p1]
  rw[if_neg (by omega)] at hQ
  obtain⟨p,hpe⟩:∃ p:Nat,small w1=p:=⟨(small w1).toNat,by omega⟩
  rw[hpe] at hQ ⊢
  have hp:p<32:=by omega
  rw[Int.toNat_natCast] at hQ ⊢
  rw[zbT hm15,qY]
  refine⟨by omega,by omega,?_⟩
  rw[vP ((hme.cell p (by rw[yu];omega) (by omega)).trans (zba hp)),zfv,hs.map hp]
  rw[hs.where_] at hQ
  cases ho:(W.own n p).isSome with
  | true=>
   rw[ho] at hQ
   rw[if_pos (by simp)] at hQ
   rw[if_pos (by simp)]
   exact hQ S (RAft.here h)
  | false=>
   rw[ho] at hQ
   rw[if_neg (by simp)] at hQ
   rw[if_neg (by simp),zW (show nthL (rvL (D.x n) (W.vm n) (fun p=>(W.own n p).isSome) fun k=>(W.alarm n k).isSome) 2=some (.int .i64 (W.vm n).quota) from rfl)]
   refine zeK h hn ?_
   by_cases hq:(W.vm n).quota≤W.pages n
   ·rw[if_pos hq] at hQ ⊢
    exact hQ S (RAft.here h)
   rw[if_neg hq] at hQ ⊢
   rw[zW h.c1]
   by_cases hz:W.free=0
   ·rw[if_pos hz] at hQ ⊢
    exact hQ S (RAft.here h)
   rw[if_neg hz] at hQ ⊢
   have hgf:=zhi h hwk hs hf hp e1 (Q:=Q) fun S1 hA=>hQ S1 hA
   rw[zW h.c1] at hgf ⊢
   obtain⟨r1,r2⟩:=hgf
   refine⟨r1,?_⟩
   dsimp only at r2 ⊢
   simp only[zbT hm15,qY]
   exact r2
 rw[if_neg c9] at hQ
 by_cases c10:c=10
 ·subst c10
  simp only[jn,Int.reduceEq,↓reduceIte,Bool.false_eq_true]
  rw[if_pos rfl] at hQ
  unfold Wd.load at hQ
  by_cases p0:small w1<0
  ·rw[if_pos (.inl p0)] at hQ
   rw[if_pos p0];exact hQ S (RAft.here h)
  rw[if_neg p0]
  by_cases p1:3<small w1
  ·rw[if_pos (.inr p1)] at hQ
   rw[if_pos p1];exact hQ S (RAft.here h)
  rw[if_neg p1]
  rw[if_neg (by omega)] at hQ
  by_cases q0:small w2<0
  ·rw[if_pos (.inl q0)] at hQ
   rw[if_pos q0];exact hQ S (RAft.here h)
  rw[if_neg q0]
  by_cases q1:31<small w2
  ·rw[if_pos (.inr q1)] at hQ
   rw[if_pos q1];exact hQ S (RAft.here h)
  rw[if_neg q1]
  rw[if_neg (by omega)] at hQ
  obtain⟨sec,hse⟩:∃ p:Nat,small w1=p:=⟨(small w1).toNat,by omega⟩
  obtain⟨p,hpe⟩:∃ p:Nat,small w2=p:=⟨(small w2).toNat,by omega⟩
  rw[hpe,hse] at hQ ⊢
  have hp:p<32:=by omega
  have hsec:sec<4:=by omega
  rw[Int.toNat_natCast,Int.toNat_natCast] at hQ ⊢
  rw[zbT hm15,qY]
  refine⟨by omega,by omega,?_⟩
  rw[vP ((hme.cell p (by rw[yu];omega) (by omega)).trans (zba hp)),zfv,hs.map hp]
  rw[hs.where_] at hQ
  cases ho:W.own n p with
  | none=>
   rw[ho] at hQ
   rw[if_pos (by simp)]
   exact hQ S (RAft.here h)
  | some l=>
   rw[ho] at hQ
   rw[if_neg (by simp),zbT hm15,qY]
   refine⟨by omega,by omega,?_⟩
   rw[zav ((hme.cell (32+p) (by rw[yu];omega) (by omega)).trans (zkM hp)),hs.map hp,ho]
   rw[if_pos (by rfl)]
   obtain⟨db,e2,hdb⟩:=h.sec hn hs.on hsec
   have hloop:=zfZ h hwk hs hp hsec ho e1 e2 (K:=fun Sx=>Q 0 0 Sx) fun S1 m1 hA=>hQ S1 (hA.aft m1 fun q hq=>by omega)
   have hd5:nthL (rvL (D.x n) (W.vm n) (fun p=>(W.own n p).isSome) fun k=>(W.alarm n k).isSome) (5+sec*1)=some (eL (pgS db)):=by
    rw[Nat.mul_one,zkH hsec,e2]
   simp only[zbT hm15,qY,vP hd5]
   refine lp_imp (fun X i S1 hh=>?_) hloop
   by_cases hlt:i<256
   ·rw[if_pos hlt] at hh ⊢
    obtain⟨u1,u2,u3⟩:=hh
    refine⟨u1,u2,?_⟩
    obtain⟨s1,u4,u5⟩:=u3
    exact⟨s1,u4,by omega,by omega,u5⟩
   ·rw[if_neg hlt] at hh ⊢;exact hh
 rw[if_neg c10] at hQ
 by_cases c11:c=11
 ·subst c11
  simp only[jn,Int.reduceEq,↓reduceIte,Bool.false_eq_true]
  rw[if_pos rfl] at hQ
  unfold Wd.save at hQ
  by_cases p0:small w1<0
  ·rw[if_pos (.inl p0)] at hQ
   rw[if_pos p0];exact hQ S (RAft.here h)
  rw[if_neg p0]
  by_cases p1:3<small w1
  ·rw[if_pos (.inr p1)] at hQ
   rw[if_pos p1];exact hQ S (RAft.here h)
  rw[if_neg p1]
  rw[if_neg (by omega)] at hQ
  by_cases q0:small w2<0
  ·rw[if_pos (.inl q0)] at hQ
   rw[if_pos q0];exact hQ S (RAft.here h)
  rw[if_neg q0]
  by_cases q1:31<small w2
  ·rw[if_pos (.inr q1)] at hQ
   rw[if_pos q1];exact hQ S (RAft.here h)
  rw[if_neg q1]
  rw[if_neg (by omega)] at hQ
  obtain⟨sec,hse⟩:∃ p:Nat,small w1=p:=⟨(small w1).toNat,by omega⟩
  obtain⟨p,hpe⟩:∃ p:Nat,small w2=p:=⟨(small w2).toNat,by omega⟩
  rw[hpe,hse] at hQ ⊢
  have hp:p<32:=by omega
  have hsec:sec<4:=by omega
  rw[Int.toNat_natCast,Int.toNat_natCast] at hQ ⊢
  rw[zbT hm15,qY]
  refine⟨by omega,by omega,?_⟩
  rw[vP ((hme.cell p (by rw[yu];omega) (by omega)).trans (zba hp)),zfv,hs.map hp]
  rw[hs.where_] at hQ
  cases ho:W.own n p with
  | none=>
   rw[ho] at hQ
   rw[if_pos (by simp)]
   exact hQ S (RAft.here h)
  | some l=>
   rw[ho] at hQ
   rw[if_neg (by simp)]
   obtain⟨db,e2,hdb⟩:=h.sec hn hs.on hsec
   have hQ':∀ S',RAft r S ρ (W.setV n ((W.vm n).setDisk sec l)) S'→Q 0 0 S':=fun S' hA=>by
    have:=hQ S'
    simp only[Option.isSome_some,↓reduceIte] at this
    rw[ho] at this
    exact this hA
   have hloop:=zfY h hwk hs hp hsec ho e1 e2 (K:=fun Sx=>Q 0 0 Sx) fun S1 m1 hA=>hQ' S1 (hA.aft m1 fun q hq=>by omega)
   have hd5:nthL (rvL (D.x n) (W.vm n) (fun p=>(W.own n p).isSome) fun k=>(W.alarm n k).isSome) (5+sec*1)=some (eL (pgS db)):=by
    rw[Nat.mul_one,zkH hsec,e2]
   simp only[zbT hm15,qY,vP hd5]
   refine lp_imp (fun X i S1 hh=>?_) hloop
   by_cases hlt:i<256
   ·rw[if_pos hlt] at hh ⊢
    exact⟨by omega,by omega,hh⟩
   ·rw[if_neg hlt] at hh ⊢;exact hh
 rw[if_neg c11] at hQ
 by_cases c12:c=12
 ·subst c12
  simp only[jn,Int.reduceEq,↓reduceIte,Bool.false_eq_true]
  rw[if_pos rfl] at hQ
  rw[wu64 (by omega) (by omega)]
  exact hQ S (RAft.here h)
 rw[if_neg c12] at hQ
 by_cases c13:c=13
 ·subst c13
  simp only[jn,Int.reduceEq,↓reduceIte,Bool.false_eq_true]
  rw[if_pos rfl] at hQ
  refine⟨by omega,by omega,?_⟩
  obtain⟨hl',cc,ec,hp,hok,_,hput⟩:=xV hv.se h.rg (hwk.ok n) hk
  rw[vP (h.vss hn (by omega)),show sl (D.x n).ss=sl ⟨some (cc,0),(D.x n).ss.n,(D.x n).ss.c⟩ by rw[←ec],zah]
  refine⟨by omega,by omega,?_⟩
  rw[Int.toNat_natCast]
  refine hput (i:=23) (s:=((W.vm n).seat k).die) (by decide) rfl (Seat.s23 hok.len 2) fun S1 m1 hs1=>?_
  exact hQ S1 ((h.seats hwk hn hs.on m1 hs1).aft m1 fun q hq=>by omega)
 rw[if_neg c13] at hQ
 simp only[jn,if_neg c0,if_neg c1,if_neg c2,if_neg c3,if_neg c4,if_neg (show ¬c=5 by omega),if_neg (show ¬c=6 by omega),if_neg (show ¬c=7 by omega),if_neg c8,if_neg c9,if_neg c10,if_neg c11,if_neg c12,if_neg c13,Bool.false_eq_true,↓reduceIte]
 exact hQ S (RAft.here h)
end
end Go.Proofs.YtabdpmnhjlmnlaaGreatDoor
end
section
namespace Go.Cr.Id
open Go Go.Pt Go.Hp
section
variable {S S':Mem} {ρ ρ':Rho} {R:Nat→Prop} {b:Nat} {D:Da} {W:Wd} {n:Nat}
theorem zlp {A:Nat→Nat} {n p a:Nat}:(fun q=>upd A (32*n+p) a (32*n+q))=upd (fun q=>A (32*n+q)) p a:=by
 funext q
 by_cases e:q=p
 ·subst e;rw[zt,zt]
 ·rw[zv e,zv (by omega)]
theorem zhX {f:Int} (hn:n<6) {p:Nat} (hp:p<32) {o:Option (List Int)} {a:Nat}:spl ({ D.c W with free:=f }:Ic0).L (2+(n*109+(12+p*3))) (slL a o.isSome)=(({ D with A:=upd D.A (32*n+p) a }:Da).c (W.setOF n p o f)).L:=by
 have he:spl (imL (D.x n) (W.vm n) (fun q=>D.A (32*n+q)) (fun p=>(W.own n p).isSome) (D.be n)) (12+p*3) (slL a o.isSome)=imL (D.x n) (W.vm n) (fun q=>upd D.A (32*n+p) a (32*n+q)) (upd (fun p=>(W.own n p).isSome) p o.isSome) (D.be n):=by rw[zjP hp,zlp]
 have hset:=Ic0.set (c:={ D.c W with free:=f }) (n:=n) (j:=12+p*3) (vs:=slL a o.isSome) (x':=D.x n) (v':=W.vm n) (A':=upd D.A (32*n+p) a) (ow':=upd (fun p=>(W.own n p).isSome) p o.isSome) (b':=D.be n) hn (by show 12+p*3+3≤109;omega) rfl he fun g hg=>zv (by omega)
 rw[hset]
 have e1:upd D.x n (D.x n)=D.x:=yg
 have e2:upd W.vm n (W.vm n)=W.vm:=yg
 have e3:upd D.be n (D.be n)=D.be:=yg
 have e4:upd (fun i q=>(W.own i q).isSome) n (upd (fun p=>(W.own n p).isSome) p o.isSome)=fun i q=>((W.setOF n p o f).own i q).isSome:=by
  funext i q
  show _=((W.setO n p o).own i q).isSome
  rw[yJ]
  by_cases e:i=n
  ·subst e
   rw[zt]
   by_cases e2:q=p
   ·subst e2;rw[zt,if_pos ⟨rfl,rfl⟩]
   ·rw[zv e2,if_neg fun h=>e2 h.2]
  ·rw[zv e,if_neg fun h=>e h.1]
 unfold Da.c
 dsimp only
 rw[e1,e2,e3,e4];rfl
theorem IdA.own (h:IdA S ρ b D W) (hwk:WOk W) {p:Nat} {o:Option (List Int)} {f:Int} {A':Nat→Nat} (hn:n<6) (hp:p<32) (hA:∀ f,f≠32*n+p→A' f=D.A f) (m:Mv S ρ S' ρ' R) (hR:∀ q,R q→q=600∨q=700+(32*n+p))
  (hd:Bl S' ρ' 600 b (bw 129 (({ D with A:=A' }:Da).c (W.setOF n p o f)).L)) (hpg:∀ l,o=some l→Bl S' ρ' (700+(32*n+p)) (A' (32*n+p)) (bw 145 (bL l))):IdA S' ρ' b { D with A:=A' } (W.setOF n p o f):=by
 have hno:∀ q,q≠600→q≠700+(32*n+p)→¬R q:=fun q h1 h2 h3=>by have:=hR q h3;omega
 refine⟨m.rg,zjj h.gl m h.g0,zji h.gl m h.g0,hd,fun i hi=>(h.se i hi).keep m (hno _ (by omega) (by omega)),fun i hi=>(h.ke i hi).keep m (hno _ (by omega) (by omega)),fun i hi ho j hj=>(h.di i hi ho j hj).keep m (hno _ (by omega) (by omega)),fun i q l hl=>?_,fun i hi=>(h.ev i hi).keep m (hno _ (by omega) (by omega)),h.ck.keep m (hno _ (by omega) (by omega)),h.now,h.time⟩
 have hl2:(W.setO n p o).own i q=some l:=hl
 rw[yJ] at hl2
 by_cases e:i=n∧q=p
 ·rw[if_pos e] at hl2
  obtain⟨rfl,rfl⟩:=e
  exact hpg l hl2
 ·rw[if_neg e] at hl2
  have h6:=hwk.six' hl2
  have hne:32*i+q≠32*n+p:=fun he=>e ⟨by omega,by omega⟩
  show Bl S' ρ' (700+(32*i+q)) (A' (32*i+q)) _
  rw[hA _ hne]
  exact (h.pg i q l hl2).keep m (hno _ (by omega) (by omega))
theorem zgD:Go.Proofs.YtabdpmnhjlmnlaaGreatDoor.z145=bL noughts:=by kernel_rfl
theorem zjy {l v:List Int} (h:v.length=l.length):spB l 0 v=v:=by
 unfold spB
 rw[List.take_zero,List.nil_append,List.drop_of_length_le (by omega),List.append_nil]
end
end Go.Cr.Id
namespace Go.Proofs.YtabdpmnhjlmnlaaGreatDoor
open Go Go.Pt Go.Cr Go.Hp Go.Cr.Id
section
variable {S S':Mem} {ρ ρ':Rho} {R:Nat→Prop} {b:Nat} {D:Da} {W:Wd} {n k:Nat} {s:Seat} {Q:Int→Int→Mem→Prop}
theorem ioS (h:IdA S ρ b D W) (hwk:WOk W) (hn:n<6) (hok:s.Ok) (hl:(W.ev n).length≤900000000) (hQ:∀ S',IAft b D S ρ (W.tell n ⟨3,k,s.r 1%256,0⟩) S'→Q 0 0 S'):gg S (some (b,0)) n k s.L Q:=by
 apply zaE
 unfold va
 refine⟨Seat.L_len hok.len,?_⟩
 rw[zW (Seat.L_r hok.len (i:=1) (by decide))]
 have e:iand .u64 (s.R.getD 1 0) 255=s.r 1%256:=and255 (Go.Cr.Seat.r_w hok 1)
 rw[e]
 exact zaN (e:=⟨3,k,s.r 1%256,0⟩) h hwk hn (by omega) fun S' hA=>hQ S' hA
theorem ikS (h:IdA S ρ b D W) (hwk:WOk W) (hs:Sole W n) (hok:s.Ok) (hQ:∀ S',IAft b D S ρ (W.nextKey n).2.2 S'→Q (W.nextKey n).1 (W.nextKey n).2.1 S'):gh S (some (b,0)) n k s.L Q:=by
 have hn:=hwk.on6 hs.on
 apply zaF
 unfold vb
 refine⟨Seat.L_len hok.len,?_⟩
 simp only[jn]
 rw[qY]
 refine⟨by omega,by omega,?_⟩
 rw[Int.toNat_natCast,vP (h.ks hn (by omega))]
 have hke:=h.ke n hn
 have hkl:=hke.len
 have hcap:=hke.cap
 have h64:=hwk.keys n
 unfold Wd.nextKey at hQ
 cases hkk:(W.vm n).keys with
 | nil=>
  rw[hkk] at hQ hkl
  rw[if_pos (by rw[←hkl];rfl)]
  exact hQ S (IAft.here h)
 | cons x l=>
  rw[hkk] at hQ hkl h64
  simp only[List.length_cons] at hkl h64
  have hbx:=h64.2 x (by simp)
  rw[if_neg (by omega),vP (h.ks hn (by omega))]
  rcases hke.lie with ⟨_,h0⟩ | ⟨c,o,hp,hpart,hρ,hb⟩
  ·rw[hkk] at h0;cases h0
  rw[hkk] at hpart
  obtain⟨t1,t2,t3⟩:=zdW (m:=l.length) (v:=.int .u8 x) (vs:=bL l) hpart
  have hkr:Kr S ρ (620+n) (slc 1 (D.x n).ks 1 ((D.x n).ks.n:Int)) l:=by
   refine⟨?_,?_,.inr ?_⟩
   ·show l.length=(((D.x n).ks.n:Int)-1).toNat
    omega
   ·show (((D.x n).ks.n:Int)-1).toNat≤(D.x n).ks.c-(1:Int).toNat
    rw[show (1:Int).toNat=1 from rfl]
    omega
   ·by_cases hc:(D.x n).ks.c=1
    ·have hl0:l=[]:=List.length_eq_zero_iff.1 (by omega)
     subst hl0
     refine⟨c,o,?_,t3,hρ,hb⟩
     show (if (D.x n).ks.c=(1:Int).toNat then (D.x n).ks.p else _)=_
     rw[if_pos (by rw[hc];rfl),hp]
    ·refine⟨c,o+1,?_,t1,hρ,hb⟩
     show (if (D.x n).ks.c=(1:Int).toNat then (D.x n).ks.p else (D.x n).ks.p.map fun q=>(q.1,q.2+(1:Int).toNat*1))=_
     rw[if_neg (by rw[show (1:Int).toNat=1 from rfl];exact hc),hp];rfl
  have hsl:(D.x n).ks=⟨some (c,o),(D.x n).ks.n,(D.x n).ks.c⟩:=by rw[←hp]
  rw[show sl (D.x n).ks=sl ⟨some (c,o),(D.x n).ks.n,(D.x n).ks.c⟩ by rw[←hsl],zah]
  refine⟨by omega,?_⟩
  rw[zW t2,vP (h.ks hn (by omega))]
  refine⟨by decide,by omega,by omega,?_⟩
  show pt _ _ _ _ _ _
  refine h.putV (n:=n) (j:=6) (vs:=[eL (slc 1 (D.x n).ks 1 ((D.x n).ks.n:Int))]) (x':={ D.x n with ks:=slc 1 (D.x n).ks 1 ((D.x n).ks.n:Int) }) (v':=(W.vm n).setKeys l) hn rfl (by simp) (by omega) rfl fun S1 m1 hd1=>?_
  have hA:=h.setV hwk hn m1 (fun q hq=>.inl hq) hd1 ((h.se n hn).keep m1 (by omega)) (hkr.keep m1 (by omega)) (fun ho j hj=>(h.di n hn hs.on j hj).keep m1 (by omega)) rfl
  rw[wu64 (by omega) (by omega)]
  exact hQ S1 (hA.aft m1 fun q hq=>by omega)
theorem irS (h:IdA S ρ b D W) (hwk:WOk W) (hs:Sole W n) (hok:s.Ok) (hQ:∀ S',IAft b D S ρ W S'→Q 0 2 S'):jr S (some (b,0)) n k s.L Q:=by
 have hn:=hwk.on6 hs.on
 apply fY
 unfold wE
 refine⟨Seat.L_len hok.len,?_⟩
 rw[zW (Seat.L_r hok.len (i:=1) (by decide))]
 refine qQ (Go.Cr.Seat.r_w hok 1) ?_
 refine zZ (fun _=>True) trivial fun J _=>?_
 refine jb h ?_
 by_cases ht:W.there (small (s.r 1))
 ·rw[decide_eq_true ht,if_pos rfl,qY]
  refine⟨by omega,by omega,?_⟩
  rw[Int.toNat_natCast,zW (h.bel hn (by omega))]
  have ht1:=ht.1
  have ht2:=ht.2.1
  refine⟨ht1,?_⟩
  have hb0:bI (W.vm n).bells=0:=by unfold bI;simp[hs.bell hwk]
  have hz:iand .u32 (ishr .u32 (bI (W.vm n).bells:Int) (small (s.r 1))) 1=0:=by
   rw[hb0]
   obtain⟨t,ht⟩:∃ t:Fin 6,small (s.r 1)=(t.1:Int):=⟨⟨(small (s.r 1)).toNat,by omega⟩,(Int.toNat_of_nonneg ht1).symm⟩
   rw[ht]
   exact (show ∀ t:Fin 6,iand .u32 (ishr .u32 ((0:Nat):Int) (t.1:Int)) 1=0 by decide) t
  rw[if_pos hz]
  exact hQ S (IAft.here h)
 ·rw[decide_eq_false ht,if_neg (by decide)]
  exact hQ S (IAft.here h)
theorem iaS (h:IdA S ρ b D W) (hwk:WOk W) (hs:Sole W n) (hok:s.Ok) (hk:k<3) (hQ:∀ S',IAft b D S ρ (W.setAlarm n k (s.r 1)) S'→Q 0 0 S'):kI S (some (b,0)) n k s.L Q:=by
 have hn:=hwk.on6 hs.on
 apply fh
 unfold wo
 refine⟨Seat.L_len hok.len,?_⟩
 have g1:nthL s.L 1=some (.int .u64 (s.R.getD 1 0)):=Seat.L_r hok.len (i:=1) (by decide)
 rw[qY,zW g1]
 refine⟨by omega,by omega,?_⟩
 rw[Int.toNat_natCast,zW (h.vbe hn (by omega)),zW g1]
 refine zhE h hwk hn hk fun S1 hA hbe=>?_
 refine⟨hbe n hn,hQ S1 ?_⟩
 obtain⟨ρ1,D1,m1,h1,ess⟩:=hA
 exact⟨ρ1,D1,m1,⟨h1.rg,h1.g0,h1.gl,h1.hd,h1.se,h1.ke,h1.di,h1.pg,h1.ev,h1.ck,h1.now,h1.time⟩,ess⟩
theorem ifS (h:IdA S ρ b D W) (hwk:WOk W) (hs:Sole W n) (hok:s.Ok) (hQ:∀ S',IAft b D S ρ W S'→Q 0 (W.offer n (small (s.r 1)) (small (s.r 2)) (decide (s.r 3≠0))).2.1 S'):kF S (some (b,0)) n k s.L Q:=by
 have hn:=hwk.on6 hs.on
 apply fe
 unfold wh
 refine⟨Seat.L_len hok.len,?_⟩
 rw[zW (Seat.L_r hok.len (i:=1) (by decide)),zW (Seat.L_r hok.len (i:=2) (by decide))]
 refine qQ (Go.Cr.Seat.r_w hok 1) ?_
 refine qQ (Go.Cr.Seat.r_w hok 2) ?_
 unfold Wd.offer at hQ
 refine zZ (fun J=>W.mine n (small (s.r 1))=0→0≤small (s.r 1)→small (s.r 1)<32→J S) (fun em p0 p1=>?_) fun J hJ=>?_
 ·rw[if_neg (by rw[em];decide)] at hQ
  refine zZ (fun J=>W.there (small (s.r 2))→J S) (fun ht=>?_) fun J hJ=>?_
  ·have hto:=hs.there ht
   rw[if_neg (fun h=>h ht),if_pos hto.symm] at hQ
   rw[qY,zbk (h.lss (by omega)),zW (Seat.L_r hok.len (i:=3) (by decide))]
   obtain⟨p,hp⟩:∃ p:Nat,small (s.r 1)=p:=⟨(small (s.r 1)).toNat,by omega⟩
   rw[hto,hp]
   refine zeR hn hn (by omega) (fun _=>?_) (fun e=>absurd rfl e) fun i e=>absurd rfl e
   refine⟨ym,?_⟩
   simp only[jn]
   rw[if_neg (by decide)]
   exact hQ S (IAft.here h)
  ·refine jb h ?_
   by_cases ht:W.there (small (s.r 2))
   ·rw[decide_eq_true ht,if_pos rfl];exact hJ ht
   ·rw[if_pos ht] at hQ
    rw[decide_eq_false ht,if_neg (by decide)]
    exact hQ S (IAft.here h)
 ·refine zcI h hs hn (fun em p0 p1=>?_) fun em=>?_
  ·rw[if_neg (by decide)];exact hJ em p0 p1
  ·rw[if_pos em] at hQ ⊢
   exact hQ S (IAft.here h)
theorem icS (h:IdA S ρ b D W) (hwk:WOk W) (hs:Sole W n) (hok:s.Ok) (hQ:∀ S',IAft b D S ρ W S'→Q 0 2 S'):kd S (some (b,0)) n k s.L Q:=by
 have hn:=hwk.on6 hs.on
 apply gK
 unfold xO
 refine⟨Seat.L_len hok.len,?_⟩
 rw[zW (Seat.L_r hok.len (i:=1) (by decide)),zW (Seat.L_r hok.len (i:=2) (by decide))]
 refine qQ (Go.Cr.Seat.r_w hok 1) ?_
 refine qQ (Go.Cr.Seat.r_w hok 2) ?_
 rw[qY,zbk (h.lss (by omega))]
 have hbad:∀ {i:Nat},(W.ls i).on=true→False:=fun hh=>by rw[hs.ls] at hh;cases hh
 refine zdZ ⟨by omega,by omega⟩ (fun _=>⟨ym,?_⟩) (fun _ _ e=>(hbad e).elim) (fun _ _ e=>(hbad e).elim) (fun _ _ e=>(hbad e).elim) fun _ _ e=>(hbad e).elim
 refine zZ (fun _=>True) trivial fun J _=>?_
 rw[if_pos (by decide)]
 exact hQ S (IAft.here h)
theorem ilS (h:IdA S ρ b D W) (hwk:WOk W) (hs:Sole W n) (hok:s.Ok) (hQ:∀ S',IAft b D S ρ W S'→Q 0 2 S'):kG S (some (b,0)) n k s.L Q:=by
 have hn:=hwk.on6 hs.on
 apply ff
 unfold wj
 refine⟨Seat.L_len hok.len,?_⟩
 have hbad:∀ {i:Nat},(W.ls i).on=true→False:=fun hh=>by rw[hs.ls] at hh;cases hh
 have g1:nthL s.L 1=some (.int .u64 (s.R.getD 1 0)):=Seat.L_r hok.len (i:=1) (by decide)
 rw[qY,zbk (h.lss (by omega)),zW g1]
 refine qQ (Go.Cr.Seat.r_w hok 1) ?_
 refine⟨h.lss (by omega),?_⟩
 refine zas (fun _ _ e=>(hbad e).elim) fun _=>?_
 refine⟨rfl,?_⟩
 rw[zbk (h.lss (by omega)),zW g1]
 refine qQ (Go.Cr.Seat.r_w hok 1) ?_
 refine⟨h.lss (by omega),?_⟩
 refine zeS (fun _=>⟨ym,?_⟩) (fun _ _ e=>(hbad e).elim) (fun _ _ e=>(hbad e).elim) fun _ _ e=>(hbad e).elim
 rw[if_neg (by decide)]
 exact hQ S (IAft.here h)
theorem iwS (h:IdA S ρ b D W) (hwk:WOk W) (hs:Sole W n) (hok:s.Ok) (hQ:∀ S',IAft b D S ρ W S'→Q 0 2 S'):vy S (some (b,0)) n k s.L Q:=by
 have hn:=hwk.on6 hs.on
 apply jA
 unfold yP
 refine⟨Seat.L_len hok.len,?_⟩
 have hbad:∀ {i:Nat},(W.ls i).on=true→False:=fun hh=>by rw[hs.ls] at hh;cases hh
 rw[qY,zbk (h.lss (by omega)),zW (Seat.L_r hok.len (i:=1) (by decide))]
 refine qQ (Go.Cr.Seat.r_w hok 1) ?_
 refine⟨h.lss (by omega),?_⟩
 refine zcm (fun _=>⟨ym,?_⟩) (fun _ _ e=>(hbad e).elim) (fun _ _ e=>(hbad e).elim) fun _ _ e=>(hbad e).elim
 rw[if_neg (by decide)]
 exact hQ S (IAft.here h)
end
end Go.Proofs.YtabdpmnhjlmnlaaGreatDoor
end
section
namespace Go.Proofs.YtabdpmnhjlmnlaaGreatDoor
open Go Go.Pt Go.Cr Go.Hp Go.Cr.Id
section
variable {S S':Mem} {ρ ρ':Rho} {R:Nat→Prop} {b:Nat} {D:Da} {W:Wd} {n k:Nat} {s:Seat} {Q:Int→Int→Mem→Prop}
theorem igS (h:IdA S ρ b D W) (hwk:WOk W) (hs:Sole W n) (hok:s.Ok) (hf : -100000≤W.free∧W.free≤100000) (hQ:∀ S',IAft b D S ρ (W.give n (small (s.r 1))).2 S'→Q 0 (W.give n (small (s.r 1))).1 S'):jt S (some (b,0)) n k s.L Q:=by
 have hn:=hwk.on6 hs.on
 apply zab
 unfold wH
 refine⟨Seat.L_len hok.len,?_⟩
 rw[zW (Seat.L_r hok.len (i:=1) (by decide))]
 refine qQ (Go.Cr.Seat.r_w hok 1) ?_
 unfold Wd.give at hQ
 have hlent:lentL W.ls n (small (s.r 1))=false:=by
  unfold lentL
  rw[List.any_eq_false]
  intro i _
  rw[hs.ls i];simp
 refine zcI h hs hn (fun em p0 p1=>?_) fun em=>?_
 ·rw[if_neg (by rw[em];decide),if_neg (by rw[hlent];decide)] at hQ
  simp only[jn]
  rw[if_neg (by decide),qY,zbk (h.lss (by omega))]
  refine zgl ?_
  rw[hlent,if_neg (by decide),qY]
  obtain⟨p,hp⟩:∃ p:Nat,small (s.r 1)=p:=⟨(small (s.r 1)).toNat,by omega⟩
  rw[hp] at hQ p1 ⊢
  rw[Int.toNat_natCast] at hQ ⊢
  refine h.put (2+(n*109+(12+p*3))) (vs:=slL 0 false) rfl (by show _+3≤759;omega) (by omega) fun S1 m1 h1=>?_
  have e1:=zhX (D:=D) (W:=W) (f:=W.free) hn (p:=p) (by omega) (o:=none) (a:=0)
  rw[show (({ D.c W with free:=W.free }:Ic0))=D.c W from rfl] at e1
  rw[show slL 0 (none:Option (List Int)).isSome=slL 0 false from rfl] at e1
  rw[e1] at h1
  rw[qY,zW ((qK h1.at_).trans (show _=some (Value.int .i64 W.free) from rfl)),wneg (by omega)]
  refine Bl.ptN h1 m1.rg (i:=1) (vs:=[.int .i64 (W.free+1)]) rfl (by rw[Ic0.len];simp) rfl fun S2 m2 h2=>?_
  rw[Ic0.setf] at h2
  have mm:=m1.trans m2
  have hfin:=h.own (o:=none) (f:=W.free+1) (A':=upd D.A (32*n+p) 0) hwk hn (by omega) (fun f e=>zv e) mm (fun q hq=>.inl hq) h2 (fun l hl=>by cases hl)
  exact hQ S2 (hfin.aft mm fun q hq=>by omega)
 ·rw[if_pos em] at hQ
  refine zZ (fun _=>True) trivial fun J _=>?_
  rw[if_pos em]
  exact hQ S (IAft.here h)
theorem itS (h:IdA S ρ b D W) (hwk:WOk W) (hs:Sole W n) (hok:s.Ok) (hf : -100000≤W.free∧W.free≤100000) (hQ:∀ S',IAft b D S ρ (W.get n (small (s.r 1))).2 S'→Q 0 (W.get n (small (s.r 1))).1 S'):gi S (some (b,0)) n k s.L Q:=by
 have hn:=hwk.on6 hs.on
 apply zaG
 unfold vc
 refine⟨Seat.L_len hok.len,?_⟩
 rw[zW (Seat.L_r hok.len (i:=1) (by decide))]
 refine qQ (Go.Cr.Seat.r_w hok 1) ?_
 simp only[jn]
 unfold Wd.get at hQ
 by_cases p0:small (s.r 1)<0
 ·rw[if_pos (.inl p0)] at hQ
  rw[if_pos p0];exact hQ S (IAft.here h)
 rw[if_neg p0]
 by_cases p1:32≤small (s.r 1)
 ·rw[if_pos (.inr (by omega))] at hQ
  rw[if_pos p1];exact hQ S (IAft.here h)
 rw[if_neg p1]
 rw[if_neg (by omega)] at hQ
 obtain⟨p,hp⟩:∃ p:Nat,small (s.r 1)=p:=⟨(small (s.r 1)).toNat,by omega⟩
 rw[hp] at hQ p1 ⊢
 have hp':p<32:=by omega
 rw[Int.toNat_natCast] at hQ
 rw[qY]
 refine⟨by omega,by omega,by omega,by omega,?_⟩
 rw[Int.toNat_natCast,Int.toNat_natCast,zbT (zdM h hn hp' (by omega))]
 rw[hs.where_] at hQ
 cases ho:(W.own n p).isSome with
 | true=>
  rw[ho] at hQ
  rw[if_pos (by simp)] at hQ
  rw[if_pos (by simp)]
  exact hQ S (IAft.here h)
 | false=>
  rw[ho] at hQ
  rw[if_neg (by simp)] at hQ
  rw[if_neg (by simp)]
  refine⟨by omega,by omega,?_⟩
  rw[zW (h.quo hn (by omega))]
  refine zeU h hn ?_
  refine⟨h.quo hn (by omega),?_⟩
  by_cases hq:(W.vm n).quota≤W.pages n
  ·rw[if_pos hq] at hQ ⊢
   exact hQ S (IAft.here h)
  rw[if_neg hq] at hQ ⊢
  rw[zW h.c1]
  by_cases hz:W.free=0
  ·rw[if_pos hz] at hQ ⊢
   exact hQ S (IAft.here h)
  rw[if_neg hz] at hQ ⊢
  rw[qY,zW h.c1,wneg (by omega)]
  refine h.put 1 (vs:=[.int .i64 (W.free-1)]) rfl (by simp) rfl fun S1 m1 h1=>?_
  rw[Ic0.setf] at h1
  intro c hc
  rw[zgD]
  have mA:Mv S ρ (S1.set c (bw 145 (bL noughts))) (ρ.upd c (700+(32*n+p))) (fun q=>q=600):=m1.new hc _ _
  have m2:Mv S1 ρ (S1.set c (bw 145 (bL noughts))) (ρ.upd c (700+(32*n+p))) (fun _=>False):=(Mv.refl m1.rg).new hc _ _
  have hbl:Bl (S1.set c (bw 145 (bL noughts))) (ρ.upd c (700+(32*n+p))) (700+(32*n+p)) c (bw 145 (bL noughts)):=⟨qf,yt⟩
  refine⟨by omega,by omega,by omega,by omega,?_⟩
  refine Bl.ptN (h1.keep m2 fun h=>h) m2.rg (i:=2+(n*109+(12+p*3))) (vs:=slL c true) rfl (by rw[Ic0.len];show _+3≤759;omega) (by omega) fun S3 m3 h3=>?_
  have e1:=zhX (D:=D) (W:=W) (f:=W.free-1) hn (p:=p) (by omega) (o:=some noughts) (a:=c)
  rw[show slL c (some noughts).isSome=slL c true from rfl] at e1
  rw[e1] at h3
  have mm:Mv S ρ S3 (ρ.upd c (700+(32*n+p))) (fun q=>q=600):=mA.trans m3
  have hfin:=h.own (o:=some noughts) (f:=W.free-1) (A':=upd D.A (32*n+p) c) hwk hn (by omega) (fun f e=>zv e) mm (fun q hq=>.inl hq) h3 (fun l hl=>by
   cases hl
   rw[zt]
   exact hbl.keep m3 (by omega))
  exact hQ S3 (hfin.aft mm fun q hq=>by omega)
theorem imS (h:IdA S ρ b D W) (hn:n<6) (hok:s.Ok) (hQ:∀ S',IAft b D S ρ W S'→Q n 0 S'):gW S (some (b,0)) n k s.L Q:=by
 apply zbg
 unfold vr
 refine⟨Seat.L_len hok.len,?_⟩
 rw[wu64 (by omega) (by omega)]
 exact hQ S (IAft.here h)
theorem isS (h:IdA S ρ b D W) (hwk:WOk W) (hs:Sole W n) (hok:s.Ok) (hk:k<(W.vm n).seats.length) (hQ:∀ S',IAft b D S ρ (W.setV n ((W.vm n).setSeat k ((W.vm n).seat k).die)) S'→Q 0 0 S'):jq S (some (b,0)) n k s.L Q:=by
 have hn:=hwk.on6 hs.on
 apply fX
 unfold wD
 refine⟨Seat.L_len hok.len,?_⟩
 rw[qY]
 refine⟨by omega,by omega,?_⟩
 obtain⟨hl',cc,ec,hp,hok,_,hput⟩:=xV (h.se n hn) h.rg (hwk.ok n) hk
 rw[Int.toNat_natCast,vP (h.ss hn (by omega)),show sl (D.x n).ss=sl ⟨some (cc,0),(D.x n).ss.n,(D.x n).ss.c⟩ by rw[←ec],zah]
 refine⟨by omega,by omega,?_⟩
 rw[Int.toNat_natCast]
 refine hput (i:=23) (s:=((W.vm n).seat k).die) (by decide) rfl (Seat.s23 hok.len 2) fun S1 m1 hs1=>?_
 exact hQ S1 ((h.seats hwk hn hs.on m1 hs1).aft m1 fun q hq=>by omega)
theorem idS (h:IdA S ρ b D W) (hwk:WOk W) (hs:Sole W n) (hok:s.Ok) (hQ:∀ S',IAft b D S ρ (W.load n (small (s.r 1)) (small (s.r 2))).2 S'→Q 0 (W.load n (small (s.r 1)) (small (s.r 2))).1 S'):js S (some (b,0)) n k s.L Q:=by
 have hn:=hwk.on6 hs.on
 apply fZ
 unfold wF
 refine⟨Seat.L_len hok.len,?_⟩
 rw[zW (Seat.L_r hok.len (i:=1) (by decide)),zW (Seat.L_r hok.len (i:=2) (by decide))]
 refine qQ (Go.Cr.Seat.r_w hok 1) ?_
 refine qQ (Go.Cr.Seat.r_w hok 2) ?_
 simp only[jn]
 unfold Wd.load at hQ
 by_cases p0:small (s.r 1)<0
 ·rw[if_pos (.inl p0)] at hQ
  rw[if_pos p0];exact hQ S (IAft.here h)
 rw[if_neg p0]
 by_cases p1:4≤small (s.r 1)
 ·rw[if_pos (.inr (by omega))] at hQ
  rw[if_pos p1];exact hQ S (IAft.here h)
 rw[if_neg p1]
 rw[if_neg (by omega)] at hQ
 obtain⟨sec,hse⟩:∃ p:Nat,small (s.r 1)=p:=⟨(small (s.r 1)).toNat,by omega⟩
 rw[hse] at hQ p1 ⊢
 have hsec:sec<4:=by omega
 rw[Int.toNat_natCast] at hQ
 rw[qY]
 refine⟨by omega,by omega,by omega,by omega,by omega,by omega,?_⟩
 rw[Int.toNat_natCast,Int.toNat_natCast,vP (h.dsk hn hsec (by omega))]
 have hd:=hwk.disk n sec hs.on
 have hdi:=h.di n hn hs.on sec hsec
 obtain⟨cb,co,hpp,hpart,_,_⟩:∃ c o,((D.x n).d sec).p=some (c,o)∧S.part c o ((W.vm n).disk sec).length=some (bL ((W.vm n).disk sec))∧True∧True:=by
  rcases hdi.lie with ⟨_,h0⟩ | ⟨c,o,h1,h2,_,_⟩
  ·rw[h0] at hd;simp at hd
  ·exact⟨c,o,h1,h2,trivial,trivial⟩
 rw[show (0:Int)=((0:Nat):Int) from rfl,show (0:Nat)+2+n*109=2+n*109 by omega]
 refine zcq h hwk hn (off:=0) (v:=(W.vm n).disk sec) ⟨cb,co,hpp,by rw[Nat.mul_one];exact hpart⟩ hdi.len (fun e=>by rw[e] at hd;simp at hd) (by omega) (fun p l S1 hpe hp hown m1 h1=>?_) fun hbad=>?_
 ·rw[hpe] at hQ
  rw[if_neg (by omega),Int.toNat_natCast,hs.where_,hown] at hQ
  have hl:=(hwk.pg n p l hown).2.2
  rw[zjy (by omega)] at h1
  exact hQ S1 (h1.aft m1 fun q hq=>by omega)
 ·by_cases q0:small (s.r 2)<0∨31<small (s.r 2)
  ·rw[if_pos q0] at hQ
   exact hQ S (IAft.here h)
  ·rw[if_neg q0] at hQ
   have e:W.own n (small (s.r 2)).toNat=none:=by
    rcases hbad with h1 | h1 | h1
    ·exact absurd (.inl h1) q0
    ·exact absurd (.inr h1) q0
    ·exact h1
   rw[hs.where_,e] at hQ
   exact hQ S (IAft.here h)
theorem iuS (h:IdA S ρ b D W) (hwk:WOk W) (hs:Sole W n) (hok:s.Ok) (hQ:∀ S',IAft b D S ρ (W.save n (small (s.r 1)) (small (s.r 2))).2 S'→Q 0 (W.save n (small (s.r 1)) (small (s.r 2))).1 S'):kE S (some (b,0)) n k s.L Q:=by
 have hn:=hwk.on6 hs.on
 apply fb
 unfold wd
 refine⟨Seat.L_len hok.len,?_⟩
 rw[zW (Seat.L_r hok.len (i:=1) (by decide)),zW (Seat.L_r hok.len (i:=2) (by decide))]
 refine qQ (Go.Cr.Seat.r_w hok 1) ?_
 refine qQ (Go.Cr.Seat.r_w hok 2) ?_
 simp only[jn]
 unfold Wd.save at hQ
 by_cases p0:small (s.r 1)<0
 ·rw[if_pos (.inl p0)] at hQ
  rw[if_pos p0];exact hQ S (IAft.here h)
 rw[if_neg p0]
 by_cases p1:4≤small (s.r 1)
 ·rw[if_pos (.inr (by omega))] at hQ
  rw[if_pos p1];exact hQ S (IAft.here h)
 rw[if_neg p1]
 rw[if_neg (by omega)] at hQ
 obtain⟨sec,hse⟩:∃ p:Nat,small (s.r 1)=p:=⟨(small (s.r 1)).toNat,by omega⟩
 rw[hse] at hQ p1 ⊢
 have hsec:sec<4:=by omega
 rw[Int.toNat_natCast] at hQ
 rw[qY]
 refine⟨by omega,by omega,?_⟩
 rw[Int.toNat_natCast,show (0:Nat)+2+n*109=2+n*109 by omega]
 refine zcr h hwk hn (off:=0) (k:=256) (by decide) (by decide) (fun p l t S1 hpe hp hown hk1 hrow hfr=>?_) fun hbad=>?_
 ·rw[hpe] at hQ
  rw[if_neg (by omega),Int.toNat_natCast,hs.where_,hown] at hQ
  have hl:=(hwk.pg n p l hown).2.2
  have hrd:rdB l 0 256=l:=by
   unfold rdB
   rw[List.drop_zero,List.take_of_length_le (by omega)]
  rw[hrd] at hrow
  rw[if_pos rfl]
  refine⟨by omega,by omega,by omega,by omega,?_⟩
  rw[Int.toNat_natCast]
  have hQ':∀ S',IAft b D S ρ (W.setV n ((W.vm n).setDisk sec l)) S'→Q 0 0 S':=fun S' hA=>by
   have:=hQ S'
   simp only[Option.isSome_some,↓reduceIte] at this
   rw[hown] at this
   exact this hA
  have hlb:(bL l).length=256:=by unfold bL;rw[List.length_map];omega
  have htn:t.n=256:=by
   have:=hrow.len
   omega
  rcases hrow.lie with ⟨_,h0⟩ | ⟨c,kb,e1,e2,_⟩
  ·have:=hrow.cap;omega
  have mc:Mv S ρ S1 (ρ.upd c (650+(4*n+sec))) (fun _=>False):=Mv.claim h.rg hk1 (hfr c 0 e1) (by rw[e2];simp)
  have h2:=h.keep hwk mc fun _ _ _ h=>h
  have hkr:Kr S1 (ρ.upd c (650+(4*n+sec))) (650+(4*n+sec)) t l:=by
   refine⟨by omega,hrow.cap,.inr ⟨c,0,e1,?_,yt,by rw[e2];simp⟩⟩
   have:=hrow.part e1
   rw[htn,Nat.mul_one] at this
   rw[hl.1];exact this
  refine h2.putV (n:=n) (j:=7+sec) (vs:=[eL t]) (x':={ D.x n with d:=upd (D.x n).d sec t }) (v':=(W.vm n).setDisk sec l) hn rfl (by simp;omega) (by omega) (by
   have:sec=0∨sec=1∨sec=2∨sec=3:=by omega
   rcases this with e | e | e | e <;> subst e <;> rfl) fun S3 m3 h3=>?_
  have mm:Mv S ρ S3 (ρ.upd c (650+(4*n+sec))) (· = 600):=(mc.mono fun _ h=>h.elim).trans m3
  have hA:=h2.setV hwk hn m3 (fun q hq=>.inl hq) h3 ((h2.se n hn).keep m3 (by omega)) ((h2.ke n hn).keep m3 (by omega)) (fun ho j hj=>by
   show Kr S3 _ _ (upd (D.x n).d sec t j) (upd (W.vm n).disk sec l j)
   by_cases e:j=sec
   ·subst e
    rw[zt,zt]
    exact hkr.keep m3 (by omega)
   ·rw[zv e,zv e]
    exact (h2.di n hn hs.on j hj).keep m3 (by omega)) rfl
  exact hQ' S3 (hA.aft mm fun q hq=>by omega)
 ·rw[if_neg (by decide)]
  by_cases q0:small (s.r 2)<0∨31<small (s.r 2)
  ·rw[if_pos q0] at hQ
   exact hQ S (IAft.here h)
  ·rw[if_neg q0] at hQ
   have e:W.own n (small (s.r 2)).toNat=none:=by
    rcases hbad with h1 | h1 | h1
    ·exact absurd (.inl h1) q0
    ·exact absurd (.inr h1) q0
    ·exact h1
   rw[hs.where_,e] at hQ
   exact hQ S (IAft.here h)
end
end Go.Proofs.YtabdpmnhjlmnlaaGreatDoor
end
section
namespace Go.Proofs.YtabdpmnhjlmnlaaGreatDoor
open Go Go.Pt Go.Cr Go.Hp
section
variable {S S':Mem} {ρ ρ':Rho} {R:Nat→Prop} {r:Nat} {D:Ra} {W:Wd} {n:Nat}
theorem _root_.Go.Cr.Seat.rW {s:Seat} (h:s.Ok) {i:Nat} (hi:i<16):W64 (s.r i):=Go.Cr.Seat.r_w h i
theorem _root_.Go.Cr.Seat.setrOk {s:Seat} (h:s.Ok) {i v:Int} (hv:W64 v):(s.setr i v).Ok:={ h with
 len:=by show (s.R.set i.toNat v).length=16;rw[List.length_set];exact h.len
 r:=fun x hx=>by
  have hx':x∈s.R.set i.toNat v:=hx
  rcases List.mem_or_eq_of_mem_set hx' with e | e
  ·exact h.r x e
  ·rw[e];exact hv }
set_option maxHeartbeats 4000000 in
theorem zhe (h:RefA S ρ r D W) (hwk:WOk W) {m0:Nat} (hs:Sole W m0) {n k:Int} (hl:∀ i,(W.ev i).length≤800000000) (hf : -90000≤W.free∧W.free≤90000) {Q:Int→Mem→Prop}
  (hQ:∀ S',RAft r S ρ (W.run n k).2 S'→Lft m0 W (W.run n k).2→Q (W.run n k).1 S'):yv S (some (r,0)) n k Q:=by
 apply jS
 unfold xr
 unfold Wd.run at hQ
 refine zZ (fun J=>W.there n→0≤k→k<(W.vm n.toNat).seats.length→J S) ?_ fun J hJ=>?_
 rotate_left
 ·refine kY h ?_
  by_cases ht:¬W.there n
  ·rw[if_pos (.inl ht)] at hQ
   rw[decide_eq_false ht,if_neg (by decide)]
   exact hQ S (RAft.here h) (Lft.refl hwk hs)
  have ht:=Decidable.not_not.1 ht
  have hn:n.toNat<6:=by have:=ht.2.1;have:=ht.1;omega
  rw[decide_eq_true ht,if_pos rfl]
  by_cases hk:k<0
  ·rw[if_pos (.inr (.inl hk))] at hQ
   rw[if_pos hk];exact hQ S (RAft.here h) (Lft.refl hwk hs)
  rw[if_neg hk,qY]
  refine⟨ht.1,ht.2.1,?_⟩
  rw[vP (h.vss hn (by omega))]
  have hss:=(h.vs n.toNat hn).se.n (by decide) (gb (hwk.ok n.toNat))
  by_cases hk2:(W.vm n.toNat).seats.length≤k
  ·rw[if_pos (.inr (.inr hk2))] at hQ
   rw[if_pos (by omega)];exact hQ S (RAft.here h) (Lft.refl hwk hs)
  ·rw[if_neg (by omega)]
   exact hJ ht (by omega) (by omega)
 intro ht hk0 hkl
 obtain⟨n,rfl⟩:∃ m:Nat,n=m:=⟨n.toNat,by have:=ht.1;omega⟩
 obtain⟨k,rfl⟩:∃ m:Nat,k=m:=⟨k.toNat,by omega⟩
 rw[Int.toNat_natCast] at hkl
 have hnm:n=m0:=by have:=hs.there ht;omega
 subst hnm
 have hon:=hs.on
 have hn:=hwk.on6 hon
 have hk:k<(W.vm n).seats.length:=by omega
 have h3:=hwk.seats n hon
 rw[if_neg (fun h=>h.elim (fun h=>h ht) (fun h=>by rw[Int.toNat_natCast] at h;omega))] at hQ
 simp only[Int.toNat_natCast] at hQ ⊢
 have hv:=h.vs n hn
 obtain⟨hsn,cb,ess,hpart,hok,_,_⟩:=xV hv.se h.rg (hwk.ok n) hk
 have esk:(W.vm n).seats.getD k seat0=(W.vm n).seat k:=rfl
 rw[esk] at hpart hok
 have slx:∀ {K:Nat→Nat→Nat→Nat→Prop},sl ⟨some (cb,0),(D.x n).ss.n,(D.x n).ss.c⟩ K→sl (D.x n).ss K:=fun hh=>by rw[ess];exact hh
 rw[qY]
 refine⟨by omega,by omega,?_⟩
 rw[vP (h.vss hn (by omega))]
 refine slx ?_
 rw[zah]
 refine⟨by omega,by omega,?_⟩
 rw[zbk hpart]
 refine⟨Seat.L_one _,by omega,by omega,?_⟩
 obtain⟨mb,e1,hme⟩:=h.me n hn hon
 rw[zbT ((h.vmb hn (by omega)).trans (by rw[e1])),zW h.c0]
 refine⟨by omega,by omega,?_⟩
 rw[zW (h.vbe hn (by omega))]
 have htm:=h.time n hon
 have hnow:=h.now
 rw[wu64 (by omega) (by omega),←htm.2.2]
 have hW:=fun m q l h=>((hwk.pg m q l h).2.1:q<32)
 have hB:=zjD (r:=r) (D:=D) (W:=W) hn hon e1
 have hI:RI r n D W S ρ (W.gm n):=⟨(W.gm n).dat,by rw[yd hW];exact h,by rw[yd hW];exact hwk,by rw[yd hW]⟩
 refine zfX hB hI hok ⟨by omega,by omega⟩ ⟨by omega,by omega⟩ fun S1 ρ1 m1 hI1=>?_
 obtain⟨d1,h1,hw1,hg1⟩:=hI1
 have hstep:=zgT (hwk.gm n) hok (time:=W.time n) (me:=k) ⟨by omega,by omega⟩ ⟨by omega,by omega⟩
 have hidle:(stepM ((W.vm n).seat k) (W.gm n) (W.time n) k).k=5→(stepM ((W.vm n).seat k) (W.gm n) (W.time n) k).s=(W.vm n).seat k∧(stepM ((W.vm n).seat k) (W.gm n) (W.time n) k).g=W.gm n:=fun h=>zdJ h
 generalize stepM ((W.vm n).seat k) (W.gm n) (W.time n) k=o at hQ hg1 hstep hidle ⊢
 have hdat:W.setDat o.g.dat=W.setDat d1:=by rw[hg1];exact zdP hW
 have hon1:((W.setDat d1).vm n).on=true:=hon
 have hs1:Sole (W.setDat d1) n:=⟨hs.on,hs.off,hs.ls⟩
 refine⟨h1.vbe hn (by omega),h1.c0,Seat.L_one _,?_⟩
 refine zZ (fun J=>o.k≠5→J S1) ?_ fun J hJ=>?_
 rotate_left
 ·by_cases h5:o.k=5
  ·rw[if_pos h5] at hQ ⊢
   obtain⟨_,e2⟩:=hidle h5
   have e3:W.setDat d1=W:=by rw[←hdat,e2,yd hW]
   rw[e3] at h1
   exact hQ S1 (h1.aft m1 fun q hq=>by omega) (Lft.refl hwk hs)
  ·rw[if_neg h5];exact hJ h5
 intro h5
 rw[if_neg h5,hdat] at hQ
 refine⟨by omega,by omega,?_⟩
 rw[vP (h1.vss hn (by omega))]
 refine slx ?_
 rw[zah]
 refine⟨by omega,by omega,Seat.L_one _,?_⟩
 have hv1:=h1.vs n hn
 obtain⟨_,cb1,ess1,_,_,hput,_⟩:=xV hv1.se h1.rg (hw1.ok n) (k:=k) hk
 have ecb:cb1=cb:=by rw[ess] at ess1;cases ess1;rfl
 subst ecb
 refine hput hstep fun S2 m2 hs2=>?_
 have h2:=h1.seats hw1 hn hon1 m2 hs2
 rw[←vC] at h2
 have hw2:WOk ((W.setDat d1).putSeat n k o.s):=hw1.putSeat hon1 hstep
 have hso2:Sole ((W.setDat d1).putSeat n k o.s) n:=hs1.putSeat
 have hev2:((W.setDat d1).putSeat n k o.s).ev=W.ev:=rfl
 have m12:Mv S ρ S2 ρ1 Rd:=(m1.mono fun q hq=>by omega).trans (m2.mono fun q hq=>by omega)
 generalize hW2:((W.setDat d1).putSeat n k o.s).tell n (told o.k o.n k ((W.vm n).seat k).pc o.s)=W2 at hQ
 have hw3:WOk W2:=by rw[←hW2];exact hw2.tell
 have hso3:Sole W2 n:=by rw[←hW2];exact⟨hso2.on,hso2.off,hso2.ls⟩
 have hlen3:(W2.vm n).seats.length=(W.vm n).seats.length:=by
  rw[←hW2]
  show (upd (W.setDat d1).vm n _ n).seats.length=_
  rw[zt]
  show ((W.vm n).seats.set k o.s).length=_
  rw[List.length_set]
 have hev3:(W2.ev n).length≤800000001:=by
  rw[←hW2]
  show (upd W.ev n (W.ev n++[_]) n).length≤_
  rw[zt,List.length_append]
  have:=hl n
  simp;omega
 have hfr3:W2.free=W.free:=by rw[←hW2];rfl
 refine zZ (fun J=>∀ S3,RAft r S2 ρ1 W2 S3→J S3) ?_ fun J hJ=>?_
 rotate_left
 ·have gpc:nthL ((W.vm n).seat k).L 16=some (.int .u64 ((W.vm n).seat k).pc):=Seat.g16 hok.len
  have hlv:(((W.setDat d1).putSeat n k o.s).ev n).length≤1000000000:=by rw[hev2];have:=hl n;omega
  unfold told at hW2
  by_cases x1:o.k=1
  ·rw[if_pos x1] at hW2
   rw[if_pos x1,zW gpc]
   exact kC h2 hw2 hn hlv fun S3 hA=>hJ S3 (by rw[hW2] at hA;exact hA)
  rw[if_neg x1] at hW2
  rw[if_neg x1]
  by_cases x4:o.k=4
  ·rw[if_pos x4] at hW2
   rw[if_pos x4,zW gpc]
   exact kC h2 hw2 hn hlv fun S3 hA=>hJ S3 (by rw[hW2] at hA;exact hA)
  rw[if_neg x4] at hW2
  rw[if_neg x4,zW gpc]
  refine zeM hstep fun S2' hk2=>?_
  have h2':=h2.keeps hw2 hk2
  exact kC h2' hw2 hn hlv fun S3 hA=>hJ S3 (by rw[hW2] at hA;exact RAft.trans (Mv.keeps (R:=fun _=>False) h2.rg hk2) (fun q hq=>hq.elim) hA)
 intro S3 hA3
 obtain⟨ρ3,D3,m3,h3'⟩:=hA3
 have m13:=m12.trans m3
 by_cases x2:o.k=2
 ·rw[if_pos x2] at hQ ⊢
  rw[zW (Seat.L_r hstep.len (i:=1) (by decide)),zW (Seat.L_r hstep.len (i:=2) (by decide)),zW (Seat.L_r hstep.len (i:=3) (by decide))]
  have r1:W64 (o.s.r 1):=Seat.rW hstep (by decide)
  have r2:W64 (o.s.r 2):=Seat.rW hstep (by decide)
  have hans:=zfG (c:=o.n) (w1:=o.s.r 1) (w2:=o.s.r 2) (w3:=o.s.r 3) hw3 (k:=k) hn
  have hleft:=zem hw3 hso3 (k:=k) (by rw[hlen3];exact hk) (c:=o.n) (w1:=o.s.r 1) (w2:=o.s.r 2) (w3:=o.s.r 3) r1
  have hv0:=zjY hso3 hw3 (k:=k) (c:=o.n) (w1:=o.s.r 1) (w2:=o.s.r 2) (w3:=o.s.r 3)
  unfold Wd.hyper at hQ
  dsimp only at hQ
  refine zge (w3:=o.s.r 3) h3' hw3 hso3 (by rw[hlen3];exact hk) (by omega) (by omega) r1 r2 fun S5 hA5=>?_
  generalize W2.call n k o.n (o.s.r 1) (o.s.r 2) (o.s.r 3)=rr at hQ hA5 hans hleft hv0 ⊢
  obtain⟨v,e,W5⟩:=rr
  dsimp only at hQ hA5 hans hleft hv0 ⊢
  obtain⟨ρ5,D5,m5,h5'⟩:=hA5
  have m15:=m13.trans m5
  have hvb:=hans.v
  have heb:=hans.e
  dsimp only at hvb heb
  have hlen5:k<(W5.vm n).seats.length:=by rw[hans.s.len,hlen3];exact hk
  have hlv5:(W5.ev n).length≤900000000:=by have:=hans.s.ev n;dsimp only at this;omega
  refine zZ (fun J=>J v S5) ?_ fun J hJ=>?_
  rotate_left
  ·by_cases he:e≠0
   ·rw[if_pos he]
    have:=hv0 he
    rw[this] at hJ;exact hJ
   ·rw[if_neg he];exact hJ
  show _∧_∧_
  refine⟨by omega,by omega,?_⟩
  have hw5:=hleft.wk
  obtain⟨hsn5,c5,ess5,hp5,hok5,_,hput5⟩:=xV (h5'.vs n hn).se h5'.rg (hw5.ok n) hlen5
  have es5:(W5.vm n).seats.getD k seat0=(W5.vm n).seat k:=rfl
  rw[es5] at hok5 hput5
  rw[vP (h5'.vss hn (by omega))]
  have slx5:∀ {K:Nat→Nat→Nat→Nat→Prop},sl ⟨some (c5,0),(D5.x n).ss.n,(D5.x n).ss.c⟩ K→sl (D5.x n).ss K:=fun hh=>by rw[ess5];exact hh
  refine slx5 ?_
  rw[zah]
  refine⟨by omega,by omega,?_⟩
  have ew:IntKind.u64.wrap e=e:=wu64 (by omega) (by omega)
  rw[ew]
  refine hput5 (i:=0) (s:=((W5.vm n).seat k).setr 0 e) (by decide) (by omega) (Seat.set_r hok5.len (by decide) e) fun S6 m6 hs6=>?_
  have h6:=h5'.seats hw5 hn hleft.so.on m6 hs6
  rw[←vC] at h6
  have hok6:(((W5.vm n).seat k).setr 0 e).Ok:=Seat.setrOk hok5 ⟨by omega,by omega⟩
  have hw6:WOk (W5.putSeat n k (((W5.vm n).seat k).setr 0 e)):=hw5.putSeat hleft.so.on hok6
  have hso6:Sole (W5.putSeat n k (((W5.vm n).seat k).setr 0 e)) n:=hleft.so.putSeat
  have hlen6:k<((W5.putSeat n k (((W5.vm n).seat k).setr 0 e)).vm n).seats.length:=by
   show k<(upd W5.vm n _ n).seats.length
   rw[zt]
   show k<((W5.vm n).seats.set k _).length
   rw[List.length_set];exact hlen5
  have hsk6:((W5.putSeat n k (((W5.vm n).seat k).setr 0 e)).vm n).seats.getD k seat0=((W5.vm n).seat k).setr 0 e:=by
   show (upd W5.vm n _ n).seats.getD k seat0=_
   rw[zt]
   show ((W5.vm n).seats.set k _).getD k seat0=_
   rw[List.getD_eq_getElem?_getD,List.getElem?_set_self hlen5];rfl
  obtain⟨_,c6,ess6,_,_,_,hput6⟩:=xV (h6.vs n hn).se h6.rg (hw6.ok n) hlen6
  have ec6:c6=c5:=by rw[ess5] at ess6;cases ess6;rfl
  subst ec6
  rw[hsk6] at hput6
  refine⟨by omega,by omega,?_⟩
  rw[vP (h6.vss hn (by omega))]
  refine slx5 ?_
  rw[zah]
  refine⟨by omega,by omega,?_⟩
  refine hput6 (i:=1) (s:=((W5.vm n).seat k).answer e v) (by decide) (by omega) (Seat.set_r hok6.len (by decide) v) fun S7 m7 hs7=>?_
  have h7:=h6.seats hw6 hn hso6.on m7 hs7
  rw[←vC] at h7
  have e7:(W5.putSeat n k (((W5.vm n).seat k).setr 0 e)).putSeat n k (((W5.vm n).seat k).answer e v)=W5.putSeat n k (((W5.vm n).seat k).answer e v):=by
   show ({ W5 with vm:=upd (upd W5.vm n ((W5.vm n).setSeat k (((W5.vm n).seat k).setr 0 e))) n ((upd W5.vm n ((W5.vm n).setSeat k (((W5.vm n).seat k).setr 0 e)) n).setSeat k (((W5.vm n).seat k).answer e v)) }:Wd) = { W5 with vm:=upd W5.vm n ((W5.vm n).setSeat k (((W5.vm n).seat k).answer e v)) }
   rw[jQ,zt]
   unfold Bv.setSeat
   dsimp only
   rw[List.set_set]
  rw[e7] at h7
  have hok7:(((W5.vm n).seat k).answer e v).Ok:=Seat.setrOk hok6 ⟨by omega,by omega⟩
  have hw7:WOk (W5.putSeat n k (((W5.vm n).seat k).answer e v)):=hw5.putSeat hleft.so.on hok7
  refine kC h7 hw7 hn (by show (W5.ev n).length≤_;omega) fun S8 hA8=>hQ S8 ?_ ⟨hw7.tell,⟨hleft.so.putSeat.on,hleft.so.putSeat.off,hleft.so.ls⟩,by
   have:=hleft.f
   rw[hfr3] at this
   exact this⟩
  exact RAft.trans (m15.trans ((m6.mono fun q hq=>by omega).trans (m7.mono fun q hq=>by omega))) (fun q hq=>hq) hA8
 ·rw[if_neg x2] at hQ ⊢
  exact hQ S3 ⟨ρ3,D3,m13,h3'⟩ ⟨hw3,hso3,by rw[hfr3];omega⟩
end
end Go.Proofs.YtabdpmnhjlmnlaaGreatDoor
end
section
namespace Go.Proofs.YtabdpmnhjlmnlaaGreatDoor
open Go Go.Pt Go.Cr Go.Hp Go.Cr.Id
section
variable {S S':Mem} {ρ ρ':Rho} {R:Nat→Prop} {b:Nat} {D:Da} {W:Wd} {n k:Nat} {s:Seat}
theorem zfE {P:Program} {f:Nat} {x:Value} {args:List Value} {K K':Value→Mem→Prop} [hc:CallT P f] (h:Tr P f S (x :: args) K) (hk:∀ v S',K v S'→K' v S'):cv P S (.func (.func f) #[x] #[]) args K':=
 ⟨f,[x],[],rfl,hc,Tr.mono (by simpa using h) hk⟩
theorem zgg (hs:Sole W n) {p to:Int} {w:Bool}:W.offer n p to w=(0,(W.offer n p to w).2.1,W):=by
 unfold Wd.offer
 by_cases e:W.mine n p≠0
 ·rw[if_pos e]
 rw[if_neg e]
 by_cases ht:W.there to
 ·rw[if_neg (fun h=>h ht),if_pos (hs.there ht).symm]
 ·rw[if_pos ht]
def cFn (c:Nat) (b:Nat):Value:=.func (.func (181+c)) #[eP (some (b,0))] #[]
set_option maxHeartbeats 1000000 in
theorem ziO (h:IdA S ρ b D W) (hwk:WOk W) (hs:Sole W n) (hok:s.Ok) (hk:k<(W.vm n).seats.length) (hl:(W.ev n).length≤900000000) (hf : -100000≤W.free∧W.free≤100000) {c:Int} (h0:0≤c) (h14:c<14) {K:Int→Int→Mem→Prop}
  (hQ:∀ S',IAft b D S ρ (W.call n k c (s.r 1) (s.r 2) (s.r 3)).2.2 S'→K (W.call n k c (s.r 1) (s.r 2) (s.r 3)).1 (W.call n k c (s.r 1) (s.r 2) (s.r 3)).2.1 S') :
  cv Tryz.prog S (cFn c.toNat b) [.int .i64 n,.int .i64 k,valL s.L] fun rv S'=>∃ t_4:Int,∃ t_5:Int,rv=.tuple #[.int .u64 t_4,.int .i64 t_5]∧K t_4 t_5 S':=by
 have hn:=hwk.on6 hs.on
 have h3:=hwk.seats n hs.on
 unfold Wd.call at hQ
 have hc:c=0∨c=1∨c=2∨c=3∨c=4∨c=5∨c=6∨c=7∨c=8∨c=9∨c=10∨c=11∨c=12∨c=13:=by omega
 have el:∀ c p q,W.lease n c p q=(2,W):=fun c p q=>by
  unfold Wd.lease
  rw[if_pos (.inr (.inr (hs.ls _)))]
 have er:W.ring n (small (s.r 1)) (small (s.r 2))=(2,W):=by unfold Wd.ring;rw[if_pos (hs.noB hwk)]
 rcases hc with c | c | c | c | c | c | c | c | c | c | c | c | c | c <;> subst c <;> simp only[Int.reduceEq,Int.reduceLE,and_self,and_false,false_and,↓reduceIte] at hQ
 ·exact zfE (f:=181) (ioS (Q:=K) h hwk hn hok hl hQ) fun _ _ hh=>hh
 ·exact zfE (f:=182) (ikS (k:=k) (Q:=K) h hwk hs hok hQ) fun _ _ hh=>hh
 ·rw[er] at hQ
  exact zfE (f:=183) (irS (k:=k) (Q:=K) h hwk hs hok hQ) fun _ _ hh=>hh
 ·exact zfE (f:=184) (iaS (Q:=K) h hwk hs hok (by omega) hQ) fun _ _ hh=>hh
 ·rw[zgg hs] at hQ
  exact zfE (f:=185) (ifS (k:=k) (Q:=K) h hwk hs hok hQ) fun _ _ hh=>hh
 ·rw[el] at hQ
  exact zfE (f:=186) (icS (k:=k) (Q:=K) h hwk hs hok hQ) fun _ _ hh=>hh
 ·rw[el] at hQ
  exact zfE (f:=187) (ilS (k:=k) (Q:=K) h hwk hs hok hQ) fun _ _ hh=>hh
 ·rw[el] at hQ
  exact zfE (f:=188) (iwS (k:=k) (Q:=K) h hwk hs hok hQ) fun _ _ hh=>hh
 ·exact zfE (f:=189) (igS (k:=k) (Q:=K) h hwk hs hok hf hQ) fun _ _ hh=>hh
 ·exact zfE (f:=190) (itS (k:=k) (Q:=K) h hwk hs hok hf hQ) fun _ _ hh=>hh
 ·exact zfE (f:=191) (idS (k:=k) (Q:=K) h hwk hs hok hQ) fun _ _ hh=>hh
 ·exact zfE (f:=192) (iuS (k:=k) (Q:=K) h hwk hs hok hQ) fun _ _ hh=>hh
 ·exact zfE (f:=193) (imS (k:=k) (Q:=K) h hn hok hQ) fun _ _ hh=>hh
 ·exact zfE (f:=194) (isS (Q:=K) h hwk hs hok hk hQ) fun _ _ hh=>hh
theorem zgp (h:IdA S ρ b D W) (hwk:WOk W) (hs:Sole W n) (hk:k<(W.vm n).seats.length) (hl:(W.ev n).length≤800000001) (hf : -100000≤W.free∧W.free≤100000) {c:Int} (h0:0≤c) {Q:Mem→Prop}
  (hQ:∀ S',IAft b D S ρ (W.hyper n k c ((W.vm n).seat k)) S'→Lft n W (W.hyper n k c ((W.vm n).seat k))→Q S'):vp S (some (b,0)) n k c Q:=by
 have hn:=hwk.on6 hs.on
 have h3:=hwk.seats n hs.on
 apply zac
 unfold wI
 obtain⟨hsn,cb,ess,hpart,hok,_,_⟩:=xV (h.se n hn) h.rg (hwk.ok n) hk
 have esk:(W.vm n).seats.getD k seat0=(W.vm n).seat k:=rfl
 rw[esk] at hpart hok
 have slx:∀ {K:Nat→Nat→Nat→Nat→Prop},sl ⟨some (cb,0),(D.x n).ss.n,(D.x n).ss.c⟩ K→sl (D.x n).ss K:=fun hh=>by rw[ess];exact hh
 rw[qY]
 refine⟨by omega,by omega,?_⟩
 rw[Int.toNat_natCast,vP (h.ss hn (by omega))]
 refine slx ?_
 rw[zah]
 refine⟨by omega,by omega,?_⟩
 rw[Int.toNat_natCast]
 have r1:W64 (((W.vm n).seat k).r 1):=Seat.rW hok (by decide)
 have hans:=zfG (c:=c) (w1:=((W.vm n).seat k).r 1) (w2:=((W.vm n).seat k).r 2) (w3:=((W.vm n).seat k).r 3) hwk (k:=k) hn
 have hleft:=zem hwk hs hk (c:=c) (w1:=((W.vm n).seat k).r 1) (w2:=((W.vm n).seat k).r 2) (w3:=((W.vm n).seat k).r 3) r1
 unfold Wd.hyper at hQ
 dsimp only at hQ
 refine zZ (fun J=>∀ S5,IAft b D S ρ (W.call n k c (((W.vm n).seat k).r 1) (((W.vm n).seat k).r 2) (((W.vm n).seat k).r 3)).2.2 S5→J (W.call n k c (((W.vm n).seat k).r 1) (((W.vm n).seat k).r 2) (((W.vm n).seat k).r 3)).1 (W.call n k c (((W.vm n).seat k).r 1) (((W.vm n).seat k).r 2) (((W.vm n).seat k).r 3)).2.1 S5) ?_ fun J hJ=>?_
 rotate_left
 ·apply fg
  unfold wl
  by_cases h14:14≤c
  ·rw[if_pos h14]
   dsimp only
   rw[if_neg (by decide)]
   have e:W.call n k c (((W.vm n).seat k).r 1) (((W.vm n).seat k).r 2) (((W.vm n).seat k).r 3)=(0,1,W):=by
    unfold Wd.call
    rw[if_neg (by omega),if_neg (by omega),if_neg (by omega),if_neg (by omega),if_neg (by omega),if_neg (by omega),if_neg (by omega),if_neg (by omega),if_neg (by omega),if_neg (by omega),if_neg (by omega),if_neg (by omega)]
   rw[e] at hJ
   exact hJ S (IAft.here h)
  ·rw[if_neg h14]
   refine⟨h0,by omega,?_⟩
   have hv:=ziO (K:=J) h hwk hs hok hk (by omega) hf h0 (c:=c) (by omega) hJ
   refine⟨cFn c.toNat b,?_,?_⟩
   ·have hc:c=0∨c=1∨c=2∨c=3∨c=4∨c=5∨c=6∨c=7∨c=8∨c=9∨c=10∨c=11∨c=12∨c=13:=by omega
    rcases hc with c | c | c | c | c | c | c | c | c | c | c | c | c | c <;> subst c <;> rfl
   ·dsimp only
    rw[if_pos rfl,zbk hpart]
    exact hv
 intro S5 hA5
 generalize W.call n k c (((W.vm n).seat k).r 1) (((W.vm n).seat k).r 2) (((W.vm n).seat k).r 3)=rr at hQ hA5 hans hleft ⊢
 obtain⟨v,e,W5⟩:=rr
 dsimp only at hQ hA5 hans hleft ⊢
 obtain⟨ρ5,D5,m5,h5',hss5⟩:=hA5
 have hvb:=hans.v
 have heb:=hans.e
 dsimp only at hvb heb
 have hlen5:k<(W5.vm n).seats.length:=by rw[hans.s.len];exact hk
 have hlv5:(W5.ev n).length≤900000000:=by have:=hans.s.ev n;dsimp only at this;omega
 have hw5:=hleft.wk
 obtain⟨hsn5,c5,ess5,hp5,hok5,_,hput5⟩:=xV (h5'.se n hn) h5'.rg (hw5.ok n) hlen5
 have es5:(W5.vm n).seats.getD k seat0=(W5.vm n).seat k:=rfl
 rw[es5] at hok5 hput5
 have ec5:c5=cb:=by rw[hss5,ess] at ess5;cases ess5;rfl
 subst ec5
 have ew:IntKind.u64.wrap e=e:=wu64 (by omega) (by omega)
 rw[ew]
 refine hput5 (i:=0) (s:=((W5.vm n).seat k).setr 0 e) (by decide) (by omega) (Seat.set_r hok5.len (by decide) e) fun S6 m6 hs6=>?_
 have h6:=h5'.seats hw5 hn hleft.so.on m6 hs6
 rw[←vC] at h6
 have hok6:(((W5.vm n).seat k).setr 0 e).Ok:=Seat.setrOk hok5 ⟨by omega,by omega⟩
 have hw6:WOk (W5.putSeat n k (((W5.vm n).seat k).setr 0 e)):=hw5.putSeat hleft.so.on hok6
 have hso6:Sole (W5.putSeat n k (((W5.vm n).seat k).setr 0 e)) n:=hleft.so.putSeat
 have hlen6:k<((W5.putSeat n k (((W5.vm n).seat k).setr 0 e)).vm n).seats.length:=by
  show k<(upd W5.vm n _ n).seats.length
  rw[zt]
  show k<((W5.vm n).seats.set k _).length
  rw[List.length_set];exact hlen5
 have hsk6:((W5.putSeat n k (((W5.vm n).seat k).setr 0 e)).vm n).seats.getD k seat0=((W5.vm n).seat k).setr 0 e:=by
  show (upd W5.vm n _ n).seats.getD k seat0=_
  rw[zt]
  show ((W5.vm n).seats.set k _).getD k seat0=_
  rw[List.getD_eq_getElem?_getD,List.getElem?_set_self hlen5];rfl
 obtain⟨_,c6,ess6,_,_,_,hput6⟩:=xV (h6.se n hn) h6.rg (hw6.ok n) hlen6
 have ec6:c6=c5:=by rw[ess5] at ess6;cases ess6;rfl
 subst ec6
 rw[hsk6] at hput6
 refine hput6 (i:=1) (s:=((W5.vm n).seat k).answer e v) (by decide) (by omega) (Seat.set_r hok6.len (by decide) v) fun S7 m7 hs7=>?_
 have h7:=h6.seats hw6 hn hso6.on m7 hs7
 rw[←vC] at h7
 have e7:(W5.putSeat n k (((W5.vm n).seat k).setr 0 e)).putSeat n k (((W5.vm n).seat k).answer e v)=W5.putSeat n k (((W5.vm n).seat k).answer e v):=by
  show ({ W5 with vm:=upd (upd W5.vm n ((W5.vm n).setSeat k (((W5.vm n).seat k).setr 0 e))) n ((upd W5.vm n ((W5.vm n).setSeat k (((W5.vm n).seat k).setr 0 e)) n).setSeat k (((W5.vm n).seat k).answer e v)) }:Wd) = { W5 with vm:=upd W5.vm n ((W5.vm n).setSeat k (((W5.vm n).seat k).answer e v)) }
  rw[jQ,zt]
  unfold Bv.setSeat
  dsimp only
  rw[List.set_set]
 rw[e7] at h7
 have hok7:(((W5.vm n).seat k).answer e v).Ok:=Seat.setrOk hok6 ⟨by omega,by omega⟩
 have hw7:WOk (W5.putSeat n k (((W5.vm n).seat k).answer e v)):=hw5.putSeat hleft.so.on hok7
 have es:ishl .u64 c 8=x64 (c*256):=rfl
 rw[es]
 refine zaN (e:=⟨2,k,ior .u64 (x64 (c*256)) e,v⟩) h7 hw7 hn (by show (W5.ev n).length≤_;omega) fun S8 hA8=>hQ S8 ?_ ⟨hw7.tell,⟨hleft.so.putSeat.on,hleft.so.putSeat.off,hleft.so.ls⟩,hleft.f⟩
 obtain⟨ρ8,D8,m8,h8,hss8⟩:=hA8
 exact⟨ρ8,D8,(m5.trans ((m6.mono fun q hq=>by omega).trans (m7.mono fun q hq=>by omega))).trans m8,h8,fun i=>(hss8 i).trans (hss5 i)⟩
end
end Go.Proofs.YtabdpmnhjlmnlaaGreatDoor
end
section
namespace Go.Proofs.YtabdpmnhjlmnlaaGreatDoor
open Go Go.Pt Go.Cr Go.Hp Go.Cr.Id
section
variable {S S':Mem} {ρ ρ':Rho} {R:Nat→Prop} {b:Nat} {D:Da} {W:Wd} {n k:Nat} {s:Seat}
theorem zfy (h:IdA S ρ b D W) (hwk:WOk W) (hn:n<6) (hk:k<(W.vm n).seats.length) {c:Nat} (hs:(D.x n).ss.p=some (c,0)):At S c (k*26) ((W.vm n).seat k).L∧((W.vm n).seat k).Ok∧ρ c=some (610+n):=by
 have hv:=h.se n hn
 have e:(W.vm n).seat k=(W.vm n).seats[k]:=ziq hk
 rw[e]
 exact⟨hv.sub hs (zeG (hwk.ok n) hk),hwk.ok n _ (List.getElem_mem hk),hv.rol c 0 hs⟩
theorem zfz (h:IdA S ρ b D W) (hwk:WOk W) (hn:n<6) (hon:(W.vm n).on=true) (hk:k<(W.vm n).seats.length) {c:Nat} (hs:(D.x n).ss.p=some (c,0)) {s:Seat} (ho:s.Ok) :
  Mv S ρ (S.put c (k*26) s.L) ρ (· = 610+n)∧IdA (S.put c (k*26) s.L) ρ b D (W.putSeat n k s):=by
 have hk26:k*26+26≤(W.vm n).seats.length*26:=by
  have:=Nat.mul_le_mul_right 26 (show k+1≤(W.vm n).seats.length by omega)
  omega
 obtain⟨m,h1⟩:=(h.se n hn).put h.rg hs (vs:=s.L) (i:=k*26) (by rw[gb (hwk.ok n),Seat.L_len ho.len];exact hk26)
 refine⟨m,?_⟩
 rw[zha (hwk.ok n) hk ho] at h1
 have h2:=h.seats hwk hn hon m h1
 rw[←vC] at h2
 exact h2
def NN (o:Out):Prop:=o.k=2→0≤o.n
theorem zkK {c:Prop} [Decidable c] {x y:Out} (hx:NN x) (hy:NN y):NN (if c then x else y):=by
 by_cases h:c
 ·rw[if_pos h];exact hx
 ·rw[if_neg h];exact hy
theorem zku {s:Seat} {g:GM} {time me:Int} (h:(stepM s g time me).k=2):0≤(stepM s g time me).n:=by
 have tr:∀ (s:Seat) (g:GM) c a,(trapM s g c a).k≠2:=fun s g c a=>by unfold trapM;dsimp only;split <;> decide
 have hd:∀ k a b c n,NN (doM s g time me k a b c n):=by
  intro k a b c n
  unfold doM
  dsimp only
  repeat' apply zkK
  all_goals first | exact fun _=>Int.le_refl 0 | exact fun _=>(wv _).1 | (split <;> first | exact fun h=>absurd h (tr _ _ _ _) | exact fun _=>Int.le_refl 0)
 unfold stepM at h ⊢
 by_cases h0:s.st≠0
 ·rw[if_pos h0];exact Int.le_refl _
 rw[if_neg h0] at h ⊢
 cases hn:nextL s with
 | some n=>rw[hn] at h;exact absurd h (tr _ _ _ _)
 | none=>
  rw[hn] at h
  dsimp only at h ⊢
  cases hw:getW s g s.pc 4 with
  | none=>rw[hw] at h;exact absurd h (tr _ _ _ _)
  | some w=>
   rw[hw] at h
   dsimp only at h ⊢
   split at h
   ·rename_i hh;rw[if_pos hh];exact hd _ _ _ _ _ h
   ·exact absurd h (tr _ _ _ _)
set_option maxHeartbeats 4000000 in
theorem zhF (h:IdA S ρ b D W) (hwk:WOk W) {m0:Nat} (hs:Sole W m0) {n k:Int} (hl:∀ i,(W.ev i).length≤800000000) (hf : -90000≤W.free∧W.free≤90000) {Q:Int→Mem→Prop}
  (hQ:∀ S',IAft b D S ρ (W.run n k).2 S'→Lft m0 W (W.run n k).2→Q (W.run n k).1 S'):wy S (some (b,0)) n k Q:=by
 apply zaH
 unfold vd
 unfold Wd.run at hQ
 refine zZ (fun J=>W.there n→0≤k→k<(W.vm n.toNat).seats.length→J S) ?_ fun J hJ=>?_
 rotate_left
 ·refine jb h ?_
  by_cases ht:¬W.there n
  ·rw[if_pos (.inl ht)] at hQ
   rw[decide_eq_false ht,if_neg (by decide)]
   exact hQ S (IAft.here h) (Lft.refl hwk hs)
  have ht:=Decidable.not_not.1 ht
  have hn:n.toNat<6:=by have:=ht.2.1;have:=ht.1;omega
  rw[decide_eq_true ht,if_pos rfl]
  by_cases hk:k<0
  ·rw[if_pos (.inr (.inl hk))] at hQ
   rw[if_pos hk];exact hQ S (IAft.here h) (Lft.refl hwk hs)
  rw[if_neg hk,qY]
  refine⟨ht.1,ht.2.1,?_⟩
  rw[vP (h.ss hn (by omega))]
  have hss:=(h.se n.toNat hn).n (by decide) (gb (hwk.ok n.toNat))
  by_cases hk2:(W.vm n.toNat).seats.length≤k
  ·rw[if_pos (.inr (.inr hk2))] at hQ
   rw[if_pos (by omega)];exact hQ S (IAft.here h) (Lft.refl hwk hs)
  ·rw[if_neg (by omega)]
   exact hJ ht (by omega) (by omega)
 intro ht hk0 hkl
 obtain⟨n,rfl⟩:∃ m:Nat,n=m:=⟨n.toNat,by have:=ht.1;omega⟩
 obtain⟨k,rfl⟩:∃ m:Nat,k=m:=⟨k.toNat,by omega⟩
 rw[Int.toNat_natCast] at hkl
 have hnm:n=m0:=by have:=hs.there ht;omega
 subst hnm
 have hon:=hs.on
 have hn:=hwk.on6 hon
 have hk:k<(W.vm n).seats.length:=by omega
 have h3:=hwk.seats n hon
 rw[if_neg (fun h=>h.elim (fun h=>h ht) (fun h=>by rw[Int.toNat_natCast] at h;omega))] at hQ
 simp only[Int.toNat_natCast] at hQ ⊢
 obtain⟨hsn,cb,ess,_,_,_,_⟩:=xV (h.se n hn) h.rg (hwk.ok n) hk
 have hsp:(D.x n).ss.p=some (cb,0):=by rw[ess]
 obtain⟨hA,hok,hrol⟩:=zfy h hwk hn hk hsp
 have slx:∀ {K:Nat→Nat→Nat→Nat→Prop},sl ⟨some (cb,0),(D.x n).ss.n,(D.x n).ss.c⟩ K→sl (D.x n).ss K:=fun hh=>by rw[ess];exact hh
 rw[qY]
 refine⟨by omega,by omega,?_⟩
 rw[vP (h.ss hn (by omega))]
 refine slx ?_
 rw[zah]
 refine⟨by omega,by omega,?_⟩
 have g16:S.cell cb (k*26+16)=some (.int .u64 ((W.vm n).seat k).pc):=(hA.cell (i:=16) (by rw[Seat.L_len hok.len];decide)).trans (Seat.g16 hok.len)
 rw[Nat.zero_add,Nat.zero_add,zW g16]
 refine⟨by omega,by omega,?_⟩
 rw[zW h.c0]
 refine⟨by omega,by omega,?_⟩
 rw[zW (h.vbe hn (by omega))]
 have htm:=h.time n hon
 have hnow:=h.now
 rw[wu64 (by omega) (by omega),←htm.2.2]
 have hW:=fun m q l h=>((hwk.pg m q l h).2.1:q<32)
 have hB:=zhK (b:=b) (D:=D) (W:=W) hs hn
 have hI:II b n D W S ρ (W.gm n):=⟨(W.gm n).dat,by rw[yd hW];exact h,by rw[yd hW];exact hwk,by rw[yd hW]⟩
 have hx:Cx (II b n D W) (fun q=>700≤q∧q<900) S ρ (W.gm n) cb (k*26) ((W.vm n).seat k):=⟨hI,hA,610+n,hrol,by omega⟩
 refine zgS hB hx hok ⟨by omega,by omega⟩ ⟨by omega,by omega⟩ fun S1 ρ1 m1 hI1 hA1=>?_
 obtain⟨d1,h1,hw1,hg1⟩:=hI1
 have hstep:=zgT (hwk.gm n) hok (time:=W.time n) (me:=k) ⟨by omega,by omega⟩ ⟨by omega,by omega⟩
 have hidle:(stepM ((W.vm n).seat k) (W.gm n) (W.time n) k).k=5→(stepM ((W.vm n).seat k) (W.gm n) (W.time n) k).s=(W.vm n).seat k∧(stepM ((W.vm n).seat k) (W.gm n) (W.time n) k).g=W.gm n:=fun h=>zdJ h
 have hsn2:(stepM ((W.vm n).seat k) (W.gm n) (W.time n) k).k=2→0≤(stepM ((W.vm n).seat k) (W.gm n) (W.time n) k).n:=zku
 generalize stepM ((W.vm n).seat k) (W.gm n) (W.time n) k=o at hQ hg1 hstep hidle hsn2 ⊢
 have hdat:W.setDat o.g.dat=W.setDat d1:=by rw[hg1];exact zdP hW
 have hon1:((W.setDat d1).vm n).on=true:=hon
 have hs1:Sole (W.setDat d1) n:=⟨hs.on,hs.off,hs.ls⟩
 obtain⟨m2,h2⟩:=zfz h1 hw1 hn hon1 (k:=k) hk hsp hstep
 refine⟨h2.vbe hn (by omega),h2.c0,rfl,?_⟩
 have hw2:WOk ((W.setDat d1).putSeat n k o.s):=hw1.putSeat hon1 hstep
 have hso2:Sole ((W.setDat d1).putSeat n k o.s) n:=hs1.putSeat
 have m12:Mv S ρ (S1.put cb (k*26) o.s.L) ρ1 Ri:=(m1.mono fun q hq=>by omega).trans (m2.mono fun q hq=>by omega)
 refine zZ (fun J=>o.k≠5→J (S1.put cb (k*26) o.s.L)) ?_ fun J hJ=>?_
 rotate_left
 ·rw[zW (show nthL (exL o.k o.n) 0=some (.int .u8 o.k) from rfl)]
  by_cases h5:o.k=5
  ·rw[if_pos h5] at hQ ⊢
   obtain⟨e1,e2⟩:=hidle h5
   have e3:W.setDat d1=W:=by rw[←hdat,e2,yd hW]
   rw[e1,hA1.self]
   rw[e3] at h1
   exact hQ S1 (h1.aft m1 fun q hq=>by omega) (Lft.refl hwk hs)
  ·rw[if_neg h5];exact hJ h5
 intro h5
 rw[if_neg h5,hdat] at hQ
 have hpl:=Pl.of hA1 hok.len
 rw[zbk (hpl.all hstep.len)]
 refine zgL hstep fun S3 hk3=>?_
 have h3':=h2.keeps hw2 hk3
 have m13:Mv S ρ S3 ρ1 Ri:=m12.trans (Mv.keeps h2.rg hk3)
 have hev2:((W.setDat d1).putSeat n k o.s).ev=W.ev:=rfl
 refine zaN h3' hw2 hn (by rw[hev2];have:=hl n;omega) fun S4 hA4=>?_
 generalize hW2:((W.setDat d1).putSeat n k o.s).tell n (told o.k o.n k ((W.vm n).seat k).pc o.s)=W2 at hQ hA4
 have hw4:WOk W2:=by rw[←hW2];exact hw2.tell
 have hso4:Sole W2 n:=by rw[←hW2];exact⟨hso2.on,hso2.off,hso2.ls⟩
 have hlen4:(W2.vm n).seats.length=(W.vm n).seats.length:=by
  rw[←hW2]
  show (upd (W.setDat d1).vm n _ n).seats.length=_
  rw[zt]
  show ((W.vm n).seats.set k o.s).length=_
  rw[List.length_set]
 have hev4:(W2.ev n).length≤800000001:=by
  rw[←hW2]
  show (upd W.ev n (W.ev n++[_]) n).length≤_
  rw[zt,List.length_append]
  have:=hl n
  simp;omega
 have hfr4:W2.free=W.free:=by rw[←hW2];rfl
 have hseat4:(W2.vm n).seat k=o.s:=by
  rw[←hW2]
  show (upd (W.setDat d1).vm n _ n).seats.getD k seat0=_
  rw[zt]
  show ((W.vm n).seats.set k o.s).getD k seat0=_
  rw[List.getD_eq_getElem?_getD,List.getElem?_set_self hk];rfl
 obtain⟨ρ4,D4,m4,h4,hss4⟩:=hA4
 rw[zW (show nthL (exL o.k o.n) 0=some (.int .u8 o.k) from rfl)]
 by_cases x2:o.k=2
 ·rw[if_pos x2] at hQ ⊢
  rw[zW (show nthL (exL o.k o.n) 1=some (.int .u64 o.n) from rfl)]
  refine zgp h4 hw4 hso4 (by rw[hlen4];exact hk) hev4 (by omega) (hsn2 x2) fun S5 hA5 hL5=>?_
  rw[hseat4] at hA5 hL5
  refine hQ S5 ?_ ⟨hL5.wk,hL5.so,by have:=hL5.f;rw[hfr4] at this;exact this⟩
  obtain⟨ρ5,D5,m5,h5',hss5⟩:=hA5
  exact⟨ρ5,D5,(m13.trans m4).trans m5,h5',fun i=>(hss5 i).trans (hss4 i)⟩
 ·rw[if_neg x2] at hQ ⊢
  exact hQ S4 ⟨ρ4,D4,m13.trans m4,h4,hss4⟩ ⟨hw4,hso4,by rw[hfr4];omega⟩
end
end Go.Proofs.YtabdpmnhjlmnlaaGreatDoor
end
section
namespace Go.Proofs.YtabdpmnhjlmnlaaGreatDoor
open Go Go.Pt Go.Cr Go.Hp
structure Kc (C C':Cst):Prop where
 N:C'.N=C.N
 form:C'.form=C.form
 region:C'.region=C.region
 turns:C'.turns=C.turns
 now:C'.now=C.now
theorem Kc.refl {C:Cst}:Kc C C:=⟨rfl,rfl,rfl,rfl,rfl⟩
theorem Kc.trans {C C' C'':Cst} (h:Kc C C') (k:Kc C' C''):Kc C C'':=⟨k.N.trans h.N,k.form.trans h.form,k.region.trans h.region,k.turns.trans h.turns,k.now.trans h.now⟩
theorem Kp.kc {C C':Cst} (h:Kp C C'):Kc C C':=⟨h.N,h.form,h.region,h.turns,h.now⟩
def Aft (h:Nat) (C:Cst) (S:Mem) (ρ:Rho) (W':Wd) (S':Mem):Prop:=∃ ρ' A' C' φ',Mv S ρ S' ρ' Rc∧CrabA S' ρ' h A' C'∧Rel C' W' φ'∧Kc C C'
section
variable {S S':Mem} {ρ ρ':Rho} {R:Nat→Prop} {h:Nat} {A:Ad} {C:Cst} {W:Wd} {φ:Nat→Nat→Nat}
theorem After.aft {W':Wd} (hA:After h A C S ρ W' S'):Aft h C S ρ W' S':=by
 obtain⟨ρ',A',C',φ',m,hc,hr,kp,_⟩:=hA
 exact⟨ρ',A',C',φ',m,hc,hr,kp.kc⟩
end
end Go.Proofs.YtabdpmnhjlmnlaaGreatDoor
end
section
namespace Go.Cr
open Go Go.Pt
def kn0 (form:Int):Kn:=⟨form,0,fun _=>bv0,fun _=>0,fun _=>0,fun _=>[],fun _=>ls0,fun _=>0⟩
def cst0 (form:Int) (N:Nat):Cst:={ toKn:=kn0 form,N:=N,dat:=fun _=>noughts,used:=fun _=>false,left:=-1,cache:=[],own:=fun _=>ow0,alm:=fun _ _=>none,region:=[],ev:=fun _=>[] }
end Go.Cr
namespace Go.Proofs.YtabdpmnhjlmnlaaGreatDoor
open Go Go.Pt Go.Cr Go.Hp
section
variable {S S':Mem} {ρ ρ':Rho} {R:Nat→Prop}
def iL (n:Nat):List Int:=(List.range n).map fun (i:Nat)=>(i:Int)
end
end Go.Proofs.YtabdpmnhjlmnlaaGreatDoor
end
section
namespace Go.Cr
open Go Go.Pt
def ownL (l:List Nat):Nat→Ow:=fun f=>if f∈l then ⟨1,0,0,0⟩ else ow0
def cstN (form:Int) (N:Nat) (l:List Nat) (u:Nat→Bool):Cst:={ toKn:=kn0 form,N:=N,dat:=fun _=>noughts,used:=u,left:=-1,cache:=[],own:=ownL l,alm:=fun _ _=>none,region:=l,ev:=fun _=>[] }
def cstA (form:Int) (N:Nat) (l:List Nat) (u:Nat→Bool) (o:Nat→Ow):Cst:={ toKn:=kn0 form,N:=N,dat:=fun _=>noughts,used:=u,left:=-1,cache:=[],own:=o,alm:=fun _ _=>none,region:=l,ev:=fun _=>[] }
theorem wok_W0 {free:Int}:WOk (W0 free):=by
 refine⟨fun n _=>⟨rfl,fun _=>rfl,fun _=>rfl⟩,fun n _=>rfl,fun n h=>(by cases h),fun n s h=>(by cases h),fun n=>⟨Nat.zero_le 64,fun x h=>by cases h⟩,fun n j h=>(by cases h),fun n=>⟨Int.le_refl 0,(by decide:(0:Int)≤32)⟩,fun n k h=>(by cases h),fun n p l h=>(by cases h),fun n=>?_,fun i h=>(by cases h),fun i _=>rfl,fun i h=>(by cases h),fun i j h=>(by cases h),fun n k w h=>(by cases h)⟩
 have:(W0 free).pages n=0:=vE fun _ _=>rfl
 rw[this];exact Int.le_refl _
end Go.Cr
namespace Go.Proofs.YtabdpmnhjlmnlaaGreatDoor
open Go Go.Pt Go.Cr Go.Hp
section
variable {S S':Mem} {ρ ρ':Rho} {R:Nat→Prop}
def badNew (form frames region:Int):Prop:=frames<1∨512<frames∨region<1∨frames<region∨(form≠1∧form≠2)
instance (form frames region:Int):Decidable (badNew form frames region):=inferInstanceAs (Decidable (_∨_))
end
end Go.Proofs.YtabdpmnhjlmnlaaGreatDoor
namespace Go.Cr
end Go.Cr
end
section
namespace Go.Cr.Id
open Go Go.Pt Go.Hp
def vx0:Vx:=⟨nilL,nilL,nilL,fun _=>nilL⟩
def da0:Da:=⟨0,fun _=>vx0,fun _=>0,fun _=>0,nilL,fun _=>nilL⟩
theorem zjr:Go.Proofs.YtabdpmnhjlmnlaaGreatDoor.z129=(da0.c (W0 0)).L:=by kernel_rfl
theorem zjs:Go.Proofs.YtabdpmnhjlmnlaaGreatDoor.z122=imL vx0 bv0 (fun _=>0) (fun _=>false) 0:=by kernel_rfl
section
variable {x:Vx} {v:Bv} {A:Nat→Nat} {ow:Nat→Bool} {begun:Int}
theorem zkS {t:Int}:spl (imL x v A ow begun) 108 [.int .u64 t]=imL x v A ow t:=by
 unfold imL
 rw[show 108=12+96 by omega,zU (n:=12) (j:=96) vI,show 96=96+0 by omega,zU (n:=96) (j:=0) zbB];rfl
theorem ziN {A':Nat→Nat}:imL x v A (fun _=>false) begun=imL x v A' (fun _=>false) begun:=by
 unfold imL
 rw[yk (n:=32) (f:=fun p=>slL (A p) false) (g:=fun p=>slL (A' p) false) fun _ _=>rfl]
end
def pgsI (f F:Int) (sn qn:Nat) (xs:List Int):Nat→Wd
 | 0=>{ (W0 f).newV 0 sn qn with free:=F }
 | i+1=>(pgsI f F sn qn xs i).setOF 0 i (some (pageB xs i)) F
section
variable {f F:Int} {sn qn:Nat} {xs:List Int}
theorem pgsI_own (i m p:Nat):(pgsI f F sn qn xs i).own m p=if m=0∧p<i then some (pageB xs p) else none:=by
 induction i with
 | zero=>rw[if_neg (by omega)];rfl
 | succ i ih=>
  show (Wd.setO _ 0 i _).own m p=_
  rw[yJ,ih]
  by_cases e:m=0∧p=i
  ·rw[if_pos e,if_pos ⟨e.1,by omega⟩,e.2]
  ·rw[if_neg e]
   by_cases e2:m=0∧p<i
   ·rw[if_pos e2,if_pos ⟨e2.1,by omega⟩]
   ·rw[if_neg e2,if_neg (by omega)]
theorem zeP (i:Nat):pgsI f F sn qn xs i = { (W0 f).newV 0 sn qn with free:=F,own:=fun m p=>if m=0∧p<i then some (pageB xs p) else none }:=by
 have h:∀ i,∃ o,pgsI f F sn qn xs i = { (W0 f).newV 0 sn qn with free:=F,own:=o }:=fun i=>by
  induction i with
  | zero=>exact⟨_,rfl⟩
  | succ i ih=>
   obtain⟨o,ho⟩:=ih
   refine⟨upd o 0 (upd (o 0) i (some (pageB xs i))),?_⟩
   show (pgsI f F sn qn xs i).setOF 0 i (some (pageB xs i)) F=_
   rw[ho];rfl
 obtain⟨o,ho⟩:=h i
 have e:o=fun m p=>if m=0∧p<i then some (pageB xs p) else none:=by
  funext m p
  rw[←pgsI_own (f:=f) (F:=F) (sn:=sn) (qn:=qn),ho]
 rw[ho,e]
theorem zdV {pn:Nat} (hF:F=f-(5+pn)):pgsI f F sn qn xs pn=(W0 f).made 0 sn qn pn xs:=by
 rw[zeP,hF]
 unfold Wd.made Wd.newV
 have e:(fun m p=>if m=0∧p<pn then some (pageB xs p) else none)=upd (W0 f).own 0 fun p=>if (p:Int)<(pn:Int) then some (pageB xs p) else none:=by
  funext m p
  by_cases e:m=0
  ·subst e
   rw[zt]
   by_cases e2:p<pn
   ·rw[if_pos ⟨rfl,e2⟩,if_pos (by omega)]
   ·rw[if_neg (by omega),if_neg (by omega)]
  ·rw[zv e,if_neg (by omega)];rfl
 rw[e];rfl
theorem zeO (hs:1≤sn∧sn≤3) (hq:1≤qn∧qn≤32) (hx:Byt xs):∀ {i:Nat},i≤qn→WOk (pgsI f F sn qn xs i)∧Sole (pgsI f F sn qn xs i) 0∧(pgsI f F sn qn xs i).pages 0≤i
 | 0,_=>by
  have h1:=zhs (W:=W0 f) wok_W0 (n:=0) (by decide) rfl (seats:=sn) (quota:=qn) (by omega) (by omega)
  have h2:WOk (pgsI f F sn qn xs 0):=⟨h1.off,h1.six,h1.seats,h1.ok,h1.keys,h1.disk,h1.quota,h1.bells,h1.pg,h1.most,h1.lsr,h1.lso,h1.lsa,h1.lsu,h1.alarm⟩
  refine⟨h2,⟨rfl,fun m hm=>?_,fun _=>rfl⟩,?_⟩
  ·show (upd (W0 f).vm 0 _ m).on=false
   rw[zv hm];rfl
  ·have:(pgsI f F sn qn xs 0).pages 0=0:=vE fun _ _=>rfl
   omega
 | i+1,hi=>by
  obtain⟨h1,h2,h3⟩:=zeO hs hq hx (i:=i) (by omega)
  have hp:=fk (W:=pgsI f F sn qn xs i) (n:=0) (p:=i) (by omega) (o:=some (pageB xs i)) (f:=F)
  have e0:((pgsI f F sn qn xs i).own 0 i).isSome=false:=by rw[pgsI_own,if_neg (by omega)];rfl
  rw[e0] at hp
  have hq2:((pgsI f F sn qn xs i).vm 0).quota=qn:=by rw[zeP];rfl
  have hp2:(pgsI f F sn qn xs (i+1)).pages 0≤i+1:=by
   show ((pgsI f F sn qn xs i).setOF 0 i (some (pageB xs i)) F).pages 0≤i+1
   simp only[Option.isSome_some,Bool.toNat_true,Bool.toNat_false] at hp
   omega
  refine⟨h1.setOF h2 (by omega) (fun l hl=>by cases hl;exact⟨zdX i,zho hx i⟩) (by
   have:(((pgsI f F sn qn xs i).setOF 0 i (some (pageB xs i)) F).vm 0).quota=qn:=hq2
   rw[hq2]
   have e:((pgsI f F sn qn xs i).setOF 0 i (some (pageB xs i)) F).pages 0≤i+1:=hp2
   omega),h2.setOF,hp2⟩
end
end Go.Cr.Id
namespace Go.Proofs.YtabdpmnhjlmnlaaGreatDoor
open Go Go.Pt Go.Cr Go.Hp Go.Cr.Id
section
variable {S S':Mem} {ρ ρ':Rho} {R:Nat→Prop} {b:Nat} {D:Da} {W:Wd} {n k:Nat} {s:Seat}
theorem zec (hg:∀ b r,ρ b=some r→S b≠none) (hgl:Gl S) (h0:ρ 0=none) {f:Int} {Q:Pt→Mem→Prop} (hQ:∀ r ρ' S',Mv S ρ S' ρ' (fun _=>False)→IdA S' ρ' r da0 (W0 f)→Q (some (r,0)) S'):zat S f Q:=by
 apply zez
 unfold fP
 intro b hb
 have m:Mv S ρ (S.set b (bw 129 (spl z129 1 [.int .i64 f]))) (ρ.upd b 600) (fun _=>False):=(Mv.refl hg).new hb _ 600
 have e:spl z129 1 [.int .i64 f]=(da0.c (W0 f)).L:=by rw[zjr,Ic0.setf];rfl
 refine hQ b _ _ m ⟨m.rg,zjj hgl m h0,zji hgl m h0,⟨by rw[qf,e],yt⟩,fun n _=>Rw.nil,fun n _=>Kr.nil,fun n _ h=>(by cases h),fun n p l h=>(by cases h),fun n _=>Rw.nil,⟨⟨[],fun _ _=>none,Row.nil,?_,List.nodup_nil,fun a h=>(by cases h),fun n k t h=>(by cases h)⟩,fun x hx=>(by cases hx)⟩,by decide,fun n h=>(by cases h)⟩
 intro i _ hi
 exact absurd hi (by simp)
theorem give5 {w1:Nat} {ss:Sl} {b0 b1 b2 b3:Nat} {L1:List Value} {q:Nat} {d:Nat→Nat} (m:Mv S ρ S' ρ' R) (h0:S 0≠none) (hs:Row S' w1 ss L1) (hsf:∀ b o,ss.p=some (b,o)→S b=none∧ρ' b=none)
  (hb:∀ b∈[b0,b1,b2,b3],S b=none∧ρ' b=none∧S' b=some (bw 5 (bL noughts))) (hnd:[b0,b1,b2,b3].Nodup) (hsb:∀ b o,ss.p=some (b,o)→b∉[b0,b1,b2,b3]) :
  ∃ ρ'',Mv S ρ S' ρ'' R∧Rw S' ρ'' q w1 ss L1∧Rw S' ρ'' (d 0) 1 (pg b0) (bL noughts)∧Rw S' ρ'' (d 1) 1 (pg b1) (bL noughts)∧Rw S' ρ'' (d 2) 1 (pg b2) (bL noughts)∧Rw S' ρ'' (d 3) 1 (pg b3) (bL noughts):=by
 simp only[List.nodup_cons,List.mem_cons,List.not_mem_nil,or_false,not_or,not_false_eq_true,List.nodup_nil,and_true] at hnd
 obtain⟨⟨n01,n02,n03⟩,⟨n12,n13⟩,n23⟩:=hnd
 have B0:=hb b0 (by simp)
 have B1:=hb b1 (by simp)
 have B2:=hb b2 (by simp)
 have B3:=hb b3 (by simp)
 have pgne:∀ {a b:Nat},a≠b→∀ o,(pg a).p≠some (b,o):=fun h o e=>by cases e;exact h rfl
 obtain⟨ρ1,m1,w1',r1,k1⟩:=kK (r:=d 0) m (zfp B0.2.2) (fun b o e=>by cases e;exact⟨B0.1,B0.2.1⟩) h0
 obtain⟨ρ2,m2,w2,r2,k2⟩:=kK (r:=d 1) m1 (zfp B1.2.2) (fun b o e=>by cases e;exact⟨B1.1,by rw[k1 _ (pgne n01)];exact B1.2.1⟩) h0
 obtain⟨ρ3,m3,w3,r3,k3⟩:=kK (r:=d 2) m2 (zfp B2.2.2) (fun b o e=>by cases e;exact⟨B2.1,by rw[k2 _ (pgne n12),k1 _ (pgne n02)];exact B2.2.1⟩) h0
 obtain⟨ρ4,m4,w4,r4,k4⟩:=kK (r:=d 3) m3 (zfp B3.2.2) (fun b o e=>by cases e;exact⟨B3.1,by rw[k3 _ (pgne n23),k2 _ (pgne n13),k1 _ (pgne n03)];exact B3.2.1⟩) h0
 have kk:∀ x,x∉[b0,b1,b2,b3]→ρ4 x=ρ' x:=fun x hx=>by
  simp only[List.mem_cons,List.not_mem_nil,or_false,not_or] at hx
  rw[k4 _ (pgne (Ne.symm hx.2.2.2)),k3 _ (pgne (Ne.symm hx.2.2.1)),k2 _ (pgne (Ne.symm hx.2.1)),k1 _ (pgne (Ne.symm hx.1))]
 obtain⟨ρ5,m5,w5,r5,k5⟩:=kK (r:=q) m4 hs (fun b o e=>⟨(hsf b o e).1,by rw[kk b (hsb b o e)];exact (hsf b o e).2⟩) h0
 have w45:=Wide.trans w4 w5
 have w35:=Wide.trans w3 w45
 exact⟨ρ5,m5,r5,wRw (Wide.trans w2 w35) r1,wRw w35 r2,wRw w45 r3,wRw w5 r4⟩
theorem zfw {r c:Nat} (h:Rw S ρ r 1 (Go.Proofs.YtabdpmnhjlmnlaaGreatDoor.pg c) (bL noughts)) (hc:S c≠none):Kr S ρ r (Go.Proofs.YtabdpmnhjlmnlaaGreatDoor.pg c) noughts:=by
 have hl:(bL noughts).length=256:=by unfold bL;rw[List.length_map];exact qJ
 refine⟨qJ,Nat.le_refl _,.inr ⟨c,0,rfl,?_,h.rol c 0 rfl,hc⟩⟩
 have:=h.row.part (b:=c) rfl
 rw[qJ];exact this
end
end Go.Proofs.YtabdpmnhjlmnlaaGreatDoor
end
