/- Texts of this work,joined by program (pack.py). -/
import Derived.Test.YtabdpmnhjlmnlaaGreatDoorQBL
import Derived.Test.YtabdpmnhjlmnlaaGreatDoorQBK
import Derived.Test.YtabdpmnhjlmnlaaGreatDoorQBI
import Derived.Test.YtabdpmnhjlmnlaaGreatDoorQBD
set_option linter.unusedVariables false
namespace Go.Proofs.YtabdpmnhjlmnlaaGreatDoor
section
open Go Go.Pt Go.Cr Go.Hp
theorem zmC {S:Mem} {e size bytes m:Nat} {z vs:List Value} {K:Sl→Mem→Prop} (hv:vs.length=m*size) (hz:z.length=size) (lim:(2*(0+m)+1024)*bytes≤281474976710656)
  (hK:∀ (s':Sl) (S':Mem),s'.n=m→Row S' size s' vs→Keeps S S' []→(∀ x o,s'.p=some (x,o)→S x=none)→K s' S'):ap S e size bytes z ⟨none,0,0⟩ m vs K:=by
 by_cases h0:m=0
 ·subst h0
  have:vs=[]:=List.length_eq_zero_iff.1 (by simpa using hv)
  subst this
  exact⟨lim,fun _=>.inl ⟨rfl,rfl,hK _ _ rfl Row.nil Keeps.refl fun x o h=>by cases h⟩,fun h=>by simp at h⟩
 ·refine jR Row.nil hv (by omega) hz lim fun s' S' b k hn hp hor hS hrow=>?_
  have hb:S b=none:=by
   rcases hor with e | e
   ·cases e
   ·exact e
  refine hK s' S' (by simpa using hn) (by simpa using hrow) (by rw[hS];exact Keeps.refl.fresh hb) fun x o h=>?_
  rw[hp] at h;cases h;exact hb
section
variable {S S':Mem} {ρ ρ':Rho} {h:Nat} {A:Ad} {C:Cst}
structure Wide (S:Mem) (ρ ρ':Rho):Prop where
 ext:∀ b r,ρ b=some r→ρ' b=some r
 rg:∀ b r,ρ' b=some r→S b≠none
 g0:ρ 0=none→ρ' 0=none
variable (w:Wide S ρ ρ')
include w
theorem wPc {r b:Nat} {l:List Value} (h:Pc S ρ r b l):Pc S ρ' r b l:=⟨h.at_,w.ext b r h.rol⟩
theorem wRw {r n:Nat} {s:Sl} {l:List Value} (h:Rw S ρ r n s l):Rw S ρ' r n s l:=⟨h.row,fun b o e=>w.ext b r (h.rol b o e)⟩
theorem wVm {i:Nat} {x:Vx} {v:Bv} {fr:List Nat} (h:VmP S ρ i x v fr):VmP S ρ' i x v fr:=⟨wRw w h.se,h.r,wRw w h.fr,wRw w h.ke,fun j hj=>wRw w (h.di j hj)⟩
theorem CrabA.wide (hc:CrabA S ρ h A C):CrabA S ρ' h A C:=
 ⟨w.rg,w.g0 hc.g0,hc.gl,wPc w hc.hd,⟨by obtain⟨B,h1,h2⟩:=hc.st.ex;exact⟨B,h1,w.ext _ _ h2⟩,w.ext _ _ hc.st.rol,hc.st.len,hc.st.byt⟩,
  ⟨by obtain⟨tb,fs,us,F,h1,h2,h3,h4⟩:=hc.pl.ex;exact⟨tb,fs,us,F,h1,fun x hx=>w.ext _ _ (h2 x hx),wRw w h3,h4⟩,w.ext _ _ hc.pl.rol,hc.pl.lim⟩,
  wRw w hc.ca,wPc w hc.tt,by obtain⟨rs,h1,h2⟩:=hc.ow.ex;exact⟨rs,wPc w h1,wRw w h2⟩,⟨by obtain⟨tb,s,l,h1,h2,h3⟩:=hc.ck.ex;exact⟨tb,s,l,h1,fun x hx=>w.ext _ _ (h2 x hx),h3⟩,w.ext _ _ hc.ck.rol⟩,
  wRw w hc.gs,fun i hi=>wRw w (hc.ev i hi),fun i hi=>wVm w (hc.vs i hi)⟩
omit w
theorem zmk {R:Nat→Prop} {r size:Nat} {t:Sl} {l:List Value} (m:Mv S ρ S' ρ' R) (hrow:Row S' size t l) (hf:∀ b o,t.p=some (b,o)→S b=none∧ρ' b=none) (h0:S 0≠none):∃ ρ'',Mv S ρ S' ρ'' R∧Wide S' ρ' ρ''∧Rw S' ρ'' r size t l:=by
 rcases hrow.lie with ⟨h1,_⟩ | ⟨b,k,h1,h2,_⟩
 ·exact⟨ρ',m,⟨fun _ _ h=>h,m.rg,fun h=>h⟩,hrow,fun b o h=>by rw[h1] at h;cases h⟩
 ·obtain⟨hb,hb2⟩:=hf b 0 h1
  have hs:S' b≠none:=by rw[h2];simp
  refine⟨ρ'.upd b r,⟨fun x q e=>?_,fun x q e hx=>?_,m.kp,m.al,fun x q e=>?_⟩,⟨fun x q e=>?_,fun x q e=>?_,fun e=>?_⟩,hrow,fun b' o h=>by rw[h1] at h;cases h;exact qO⟩
  ·rw[yp (fun e2=>by have:=m.ext x q e;rw[e2,hb2] at this;cases this)];exact m.ext x q e
  ·rw[yp (fun e2=>hx (by rw[e2];exact hb))] at e;exact m.old x q e hx
  ·by_cases e2:x=b
   ·rw[e2];exact hs
   ·rw[yp e2] at e;exact m.rg x q e
  ·rw[yp (fun e2=>by rw[e2,hb2] at e;cases e)];exact e
  ·by_cases e2:x=b
   ·rw[e2];exact hs
   ·rw[yp e2] at e;exact m.rg x q e
  ·rw[yp (fun e2=>h0 (by rw[e2];exact hb))];exact e
theorem ziW (hc:CrabA S ρ h A C) {n j m x:Nat} (hn:n<6) {vs:List Value} {x':Vx} {v':Bv} {tf' late':Int} {fr':List Nat} (hx:x=2+n*12+j) (hm:m=vs.length) (hj:j+vs.length≤12) (he:spl (vmC (A.x n) (C.vm n) (C.tf n) (C.late n)) j vs=vmC x' v' tf' late') (hv:VmP S ρ n x' v' fr') {K:Mem→Prop}
  (hK:∀ S',Mv S ρ S' ρ (· = 7)→CrabA S' ρ h { A with x:=upd A.x n x' } { C with vm:=upd C.vm n v',tf:=upd C.tf n tf',late:=upd C.late n late',fr:=upd C.fr n fr' }→K S'):pt S A.t x m vs K:=by
 refine hc.tt.pt hc.rg (2+(n*12+j)) hm (by rw[jg];omega) (by omega) fun S1 m1 h1=>?_
 rw[zmb (fr':=fr') hn hj he] at h1
 refine hK S1 m1 (hc.setKn (k:={ C.toKn with vm:=upd C.vm n v',tf:=upd C.tf n tf',late:=upd C.late n late',fr:=upd C.fr n fr' }) (x:=upd A.x n x') m1 h1 fun i hi=>?_)
 show VmP S1 ρ i (upd A.x n x' i) (upd C.vm n v' i) (upd C.fr n fr' i)
 by_cases e:i=n
 ·subst e
  rw[zi,zi,zi]
  exact hv.keep m1 hi fun r h1 h2=>by omega
 ·rw[zk e,zk e,zk e]
  exact (hc.vs i hi).keep m1 hi fun r h1 h2=>by omega
theorem zhb {C:Cst} {n:Nat} {v':Bv}:({ C with vm:=upd C.vm n v',tf:=upd C.tf n (C.tf n),late:=upd C.late n (C.late n),fr:=upd C.fr n (C.fr n) }:Cst) = { C with vm:=upd C.vm n v' }:=by
 rw[xY,xY,xY]
theorem znf {b:Nat} {os os':List Nat} {rb rr:Nat} (hg:∀ b r,ρ b=some r→S b≠none) (hk:Keeps S S' (b :: os)) (hb:ρ b=some rb) (ho:∀ x∈os,ρ x=some rr) (hone:∀ x∈os',∀ y∈os',x=y) (hf:∀ x∈os',x∈os∨S x=none) (hal:Grows S S') (hs':∀ x∈os',S' x≠none) :
  ∃ ρ',Mv S ρ S' ρ' (fun r=>r=rb∨r=rr)∧∀ x∈os',ρ' x=some rr:=by
 have m0:Mv S ρ S' ρ (fun r=>r=rb∨r=rr):=Mv.keepsW hg hk fun w hw=>by
  rcases List.mem_cons.1 hw with e | e
  ·subst e;exact⟨hal w (hg w rb hb),rb,hb,.inl rfl⟩
  ·exact⟨hal w (hg w rr (ho w e)),rr,ho w e,.inr rfl⟩
 by_cases hex:∃ c,c∈os'∧S c=none
 ·obtain⟨c,hc,hcn⟩:=hex
  refine⟨ρ.upd c rr,⟨fun x r e=>?_,fun x r e hx=>?_,m0.kp,m0.al,fun x r e=>?_⟩,fun x hx=>by rw[hone x hx c hc];exact qO⟩
  ·rw[yp (fun e2=>hg x r e (by rw[e2];exact hcn))];exact e
  ·rw[yp (fun e2=>hx (by rw[e2];exact hcn))] at e;exact e
  ·by_cases e2:x=c
   ·rw[e2];exact hs' c hc
   ·rw[yp e2] at e;exact m0.rg x r e
 ·refine⟨ρ,m0,fun x hx=>?_⟩
  rcases hf x hx with e | e
  ·exact ho x e
  ·exact absurd ⟨x,hx,e⟩ hex
theorem zoC {s:Sl}:∀ x∈Hk.own s,∀ y∈Hk.own s,x=y:=by
 intro x hx y hy
 unfold Hk.own at hx hy
 cases hp:s.p with
 | none=>rw[hp] at hx;simp at hx
 | some q=>rw[hp] at hx hy;simp at hx hy;rw[hx,hy]
theorem znA {kb:Nat} {tb:TypeId} {s s':Sl} {l':List Hk.Al} {alm':Nat→Nat→Option Int} (hg:∀ b r,ρ b=some r→S b≠none) (hr:ρ kb=some 10) (ho:∀ x∈Hk.own s,ρ x=some 11) (hL:Hk.Left' S S' kb 0 tb [eL s] s s' l') (ha:AlmOf l' alm') :
  ∃ ρ',Mv S ρ S' ρ' (fun r=>r=10∨r=11)∧ClkP S' ρ' kb alm':=by
 have e1:spl [eL s] 0 [eL s']=[eL s']:=rfl
 have hck:=hL.ck
 rw[e1] at hck
 obtain⟨ρ',m,h2⟩:=znf (rb:=10) (rr:=11) hg hL.keep hr ho zoC hL.fresh hL.al fun x hx=>by
  obtain⟨k,hk⟩:=Hk.own_row hck.row hx;rw[hk];simp
 exact⟨ρ',m,⟨tb,s',l',hck,h2,ha⟩,m.ext kb 10 hr⟩
theorem zmB {kb:Nat} {alm:Nat→Nat→Option Int} (h:ClkP S ρ kb alm) (hg:∀ b r,ρ b=some r→S b≠none) {n k:Nat} (hn:n<6) (hk:k<3) {tm:Int} {Q:Int→Mem→Prop}
  (hQ:∀ S' ρ',Mv S ρ S' ρ' (fun r=>r=10∨r=11)→ClkP S' ρ' kb (upd alm n (upd (alm n) k (some tm)))→Q 0 S'):vt S (some (kb,0)) n k tm Q:=by
 obtain⟨tb,s,l,hck,ho,ha⟩:=h.ex
 have hlen:=ha.len
 refine Hk.set_spec hck (by omega) (by omega) (by omega) (by omega) (by omega) fun S' s' l' hp hL=>?_
 have hal:AlmOf l' (upd alm n (upd (alm n) k (some tm))):=by
  refine AlmOf.perm ?_ hp
  refine⟨List.nodup_cons.2 ⟨fun hm=>?_,List.Pairwise.filter _ ha.nd⟩,fun a hm=>?_,fun m j t e=>?_⟩
  ·have:=(List.mem_filter.1 hm).2
   simp at this
  ·rcases List.mem_cons.1 hm with e | e
   ·subst e
    refine⟨by simp only;omega,by simp only;omega,by simp only;omega,by simp only;omega,?_⟩
    simp only[Int.toNat_natCast]
    rw[zi,zi]
   ·have h1:=ha.of a (List.mem_filter.1 e).1
    have h2:=(List.mem_filter.1 e).2
    refine⟨h1.1,h1.2.1,h1.2.2.1,h1.2.2.2.1,?_⟩
    by_cases e1:a.vm.toNat=n
    ·have e2:a.seat.toNat≠k:=fun e2=>by
      have:a.vm=n∧a.seat=k:=by omega
      simp[this.1,this.2] at h2
     rw[e1,zi,zk e2,←e1];exact h1.2.2.2.2
    ·rw[zk e1];exact h1.2.2.2.2
  ·by_cases e1:m=n
   ·subst e1
    rw[zi] at e
    by_cases e2:j=k
    ·subst e2
     rw[zi] at e
     cases e;simp
    ·rw[zk e2] at e
     refine List.mem_cons_of_mem _ (List.mem_filter.2 ⟨ha.to m j t e,?_⟩)
     simp;omega
   ·rw[zk e1] at e
    refine List.mem_cons_of_mem _ (List.mem_filter.2 ⟨ha.to m j t e,?_⟩)
    have:¬((m:Int)=n):=by omega
    simp[this]
 obtain⟨ρ',m,h2⟩:=znA hg h.rol ho hL hal
 exact hQ S' ρ' m h2
end
end
section
open Go Go.Pt Go.Cr Go.Hp
section
variable {S S':Mem} {ρ ρ':Rho} {h:Nat} {A:Ad} {C:Cst} {W:Wd} {φ:Nat→Nat→Nat}
theorem zfV {w:Int} (hw:W64 w) {Q:Int→Mem→Prop} (hQ:Q (small w) S):zba S w Q:=by
 have h1:=hw.1
 apply zhr
 unfold zaL
 unfold small at hQ
 by_cases h:65536≤w
 ·rw[if_pos (by omega)] at hQ
  rw[if_pos h];exact hQ
 ·rw[if_neg (by omega)] at hQ
  rw[if_neg h,w64 (by omega) (by omega)];exact hQ
theorem zhK (hc:CrabA S ρ h A C) (hr:Rel C W φ) {n:Nat} (hn:n<6) (hon:(W.vm n).on=true) {Q:Int→Int→Mem→Prop} (hQ:∀ S',After h A C S ρ (W.nextKey n).2.2 S'→Q (W.nextKey n).1 (W.nextKey n).2.1 S') :
  (gL (S.cell A.t (0+2+n*12+6)) fun t_7=>if (t_7.n:Int)=0 then Q 0 2 S else
   gL (S.cell A.t (0+2+n*12+6)) fun t_2=>sl t_2 fun b_3 o_2 n_1 n_2=>(0:Int)<(n_1:Nat)∧gI (S.cell b_3 o_2) .u8 fun t_3=>
   gL (S.cell A.t (0+2+n*12+6)) fun t_4=>(0:Int)≤1∧(1:Int)≤(t_4.n:Int)∧(t_4.n:Int)≤(t_4.c:Int)∧lt (slc 1 t_4 1 (t_4.n:Int)) fun t_5=>
   sp S t_5 1 fun vs=>ap S 5 1 1 [.int .u8 0] (⟨none,0,0⟩) t_5.n vs fun t_6 Sx_4=>pt Sx_4 A.t (0+2+n*12+6) 1 ([eL t_6]) fun Sx_5=>Q (IntKind.u64.wrap t_3) 0 Sx_5):=by
 have hv:=hc.vs n hn
 have hcell:S.cell A.t (0+2+n*12+6)=some (eL (A.x n).ks):=hc.vcell (n:=n) (j:=6) hn (by decide) (by omega)
 have hke:=hv.ke
 rw[hr.vm] at hke
 have hlen:(bL (W.vm n).keys).length=(W.vm n).keys.length*1:=by simp[bL]
 have hkn:=hke.n (by decide) hlen
 have hcap:=hke.row.cap
 have h64:=hr.wk.keys n
 unfold Wd.nextKey at hQ
 rw[wc hcell]
 cases hks:(W.vm n).keys with
 | nil=>
  rw[hks] at hQ hkn
  rw[if_pos (by rw[hkn];rfl)]
  exact hQ S (After.here hc hr)
 | cons x l=>
  rw[hks] at hQ hkn hke h64
  simp only[List.length_cons] at hkn h64
  have hbx:=h64.2 x (by simp)
  obtain⟨c,e1,e2⟩:=hke.sl (by simp[bL])
  rw[if_neg (by omega),wc hcell]
  have hc0:S.cell c 0=some (.int .u8 x):=hke.cell e2 0 (by simp[bL]) rfl
  rw[show sl (A.x n).ks=sl ⟨some (c,0),(A.x n).ks.n,(A.x n).ks.c⟩ by rw[←e1],jH]
  refine⟨by omega,?_⟩
  rw[zB hc0,wc hcell]
  refine⟨by decide,by omega,by omega,?_⟩
  have es:slc 1 (A.x n).ks 1 ((A.x n).ks.n:Int)=if (A.x n).ks.c=1 then ⟨some (c,0),l.length,(A.x n).ks.c-1⟩ else ⟨some (c,1),l.length,(A.x n).ks.c-1⟩:=by
   unfold slc
   rw[e2]
   have e3:(1:Int).toNat=1:=rfl
   have e4:(((A.x n).ks.n:Int)-1).toNat=l.length:=by omega
   rw[e3,e4]
   split <;> rfl
  have hpart:S.part c 1 (l.length*1)=some (bL l):=by
   rw[hke.part e2 1 (by simp[bL];omega) rfl]
   have e3:=xZ (A:=[Value.int .u8 x]) (B:=bL l) (n:=1) (j:=0) (m:=l.length*1) rfl
   have e4:bL (x :: l)=[Value.int .u8 x]++bL l:=rfl
   rw[e4]
   rw[Nat.add_zero] at e3
   rw[e3]
   have e5:l.length*1=(bL l).length:=by simp[bL]
   rw[e5,ze rfl]
  show sp S (slc 1 (A.x n).ks 1 ((A.x n).ks.n:Int)) 1 _
  refine⟨bL l,?_,zmz _,?_⟩
  ·rw[es]
   by_cases h1:(A.x n).ks.c=1
   ·rw[if_pos h1]
    have:l=[]:=List.length_eq_zero_iff.1 (by omega)
    subst this
    right
    refine⟨c,0,rfl,?_⟩
    show S.part c 0 0=some []
    obtain⟨k,hk,_⟩:=zgs hc0
    rw[yh hk,qA (by omega)];rfl
   ·rw[if_neg h1]
    exact .inr ⟨c,1,rfl,hpart⟩
  ·have en:(slc 1 (A.x n).ks 1 ((A.x n).ks.n:Int)).n=l.length:=by rw[es];split <;> rfl
   show ap S 5 1 1 [.int .u8 0] ⟨none,0,0⟩ (slc 1 (A.x n).ks 1 ((A.x n).ks.n:Int)).n (bL l) _
   rw[en]
   refine zmC (by simp[bL]) rfl (by omega) fun s' S1 hn1 hrow hk hfr=>?_
   obtain⟨ρ1,m1,h3⟩:=Rw.claim (R:=fun _=>False) (r:=50+n) hc.rg hk hrow hfr
   have hc1:=hc.keep m1 fun _ _ h=>h
   have hv1:=hc1.vs n hn
   have hvn:VmP S1 ρ1 n { A.x n with ks:=s' } ((C.vm n).setKeys l) (C.fr n):=⟨hv1.se,hv1.r,hv1.fr,h3,hv1.di⟩
   refine ziW hc1 (j:=6) (vs:=[eL s']) hn (by omega) rfl (by simp) (he:=rfl) hvn fun S2 m2 hc2=>?_
   rw[zhb] at hc2
   rw[wu64 (by omega) (by omega)]
   have hw:WOk (W.setV n ((W.vm n).setKeys l)):=hr.wk.setV hon hon rfl (hr.wk.ok n) ⟨by show l.length≤64;omega,fun y hy=>h64.2 y (List.mem_cons_of_mem _ hy)⟩ (fun j=>hr.wk.disk n j hon) rfl rfl
   have hrel:=hr.setV (v:=(W.vm n).setKeys l) hon hon hw
   refine hQ S2 ⟨ρ1,_,_,φ,(m1.mono fun _ h=>h.elim).trans (m2.mono fun r hr=>by unfold Rc;omega),hc2,?_,kp1,rfl,fun i=>?_⟩
   ·rw[hr.vm] at hrel ⊢;exact hrel
   ·show (upd A.x n { A.x n with ks:=s' } i).ss=(A.x i).ss
    by_cases e:i=n
    ·rw[e,zi]
    ·rw[zk e]
theorem zmo (hc:CrabA S ρ h A C) {n j:Nat} (hn:n<6) (hj:j<4):S.cell A.t (0+2+n*12+7+j*1)=some (eL ((A.x n).d j)):=by
 rw[hc.vcell (n:=n) (j:=7+j) hn (by omega) (by omega)]
 match j,hj with
 | 0,_=>rfl
 | 1,_=>rfl
 | 2,_=>rfl
 | 3,_=>rfl
theorem zkK (hc:CrabA S ρ h A C) (hr:Rel C W φ) {n:Nat} (hn:n<6) (hon:(W.vm n).on=true) {sec p:Int} {Q:Int→Mem→Prop} (hQ:∀ S',After h A C S ρ (W.load n sec p).2 S'→Q (W.load n sec p).1 S'):ga S (some (h,0)) n sec p Q:=by
 unfold Wd.load at hQ
 apply zee
 unfold kJ
 simp only[jn]
 by_cases h0:sec<0
 ·rw[if_pos (.inl h0)] at hQ
  rw[if_pos h0];exact hQ S (After.here hc hr)
 rw[if_neg h0]
 by_cases h1:4≤sec
 ·rw[if_pos (.inr (by omega))] at hQ
  rw[if_pos h1];exact hQ S (After.here hc hr)
 rw[if_neg h1,zV,qQ hc.c3,zV]
 rw[if_neg (by omega)] at hQ
 refine⟨by omega,by omega,by omega,by omega,?_⟩
 have hj:sec.toNat<4:=by omega
 have hdk:=hr.wk.disk n sec.toNat hon
 have hdi:=(hc.vs n hn).di sec.toNat hj
 rw[hr.vm] at hdi
 have hdl:(bL ((W.vm n).disk sec.toNat)).length=256:=by simp only[bL,List.length_map];exact hdk.1
 have hdn:=hdi.n (by decide) (m:=256) (by rw[hdl])
 obtain⟨c,e1,e2⟩:=hdi.sl (by rw[hdl];decide)
 rw[Int.toNat_natCast,wc (zmo hc hn hj)]
 have hpart:S.part c 0 (((W.vm n).disk sec.toNat).length*1)=some (bL ((W.vm n).disk sec.toNat)):=by
  rw[hdi.part e2 0 (by rw[hdl,hdk.1];decide) rfl]
  have e5:((W.vm n).disk sec.toNat).length*1=(bL ((W.vm n).disk sec.toNat)).length:=by simp[bL]
  rw[e5,ze rfl]
 refine zdM hc hr hn hon (off:=0) (v:=(W.vm n).disk sec.toNat) ⟨c,0,e2,hpart,fun r e=>by rw[hdi.rol c 0 e2] at e;cases e;omega⟩ (by rw[hdk.1,hdn]) (fun e=>by rw[e] at hdk;have:=hdk.1;simp at this) (by rw[hdk.1];decide) hdk.2 (fun m q l S' ρ' A' ca p0 p1 h2 h3 m1 hc1 hr1 ht hx=>?_) fun e S' ρ' A' ca hbad he m1 hc1 hr1 ht hx=>?_
 ·rw[if_neg (by decide)]
  rw[if_neg (by omega),h2] at hQ
  have hll:=(hr.wk.pg m q l h3).2.2.1
  have e:spB l 0 ((W.vm n).disk sec.toNat)=(W.vm n).disk sec.toNat:=by
   unfold spB
   rw[List.take_zero,List.nil_append,List.drop_of_length_le (by omega),List.append_nil]
  rw[e] at hc1 hr1
  exact hQ S' ⟨ρ',A',_,φ,m1.mono fun r hr=>by unfold Rc;omega,hc1,hr1,kp1,ht,fun i=>by rw[hx]⟩
 ·rw[if_pos he]
  have hA:After h A C S ρ W S':=⟨ρ',A',_,φ,m1.mono fun r hr=>by unfold Rc;omega,hc1,hr1,kp1,ht,fun i=>by rw[hx]⟩
  by_cases hp:p<0∨31<p
  ·rw[if_pos hp] at hQ;exact hQ S' hA
  ·rw[if_neg hp] at hQ
   rcases hbad with h2 | h2 | h2 | ⟨m,q,h2⟩
   ·exact absurd (.inl h2) hp
   ·exact absurd (.inr h2) hp
   ·rw[h2] at hQ;exact hQ S' hA
   ·rw[h2] at hQ;exact hQ S' hA
theorem zkG (hc:CrabA S ρ h A C) (hr:Rel C W φ) {n:Nat} (hn:n<6) (hon:(W.vm n).on=true) {sec p:Int} {Q:Int→Mem→Prop} (hQ:∀ S',After h A C S ρ (W.save n sec p).2 S'→Q (W.save n sec p).1 S'):jY S (some (h,0)) n sec p Q:=by
 unfold Wd.save at hQ
 apply zeb
 unfold kG
 simp only[jn]
 by_cases h0:sec<0
 ·rw[if_pos (.inl h0)] at hQ
  rw[if_pos h0];exact hQ S (After.here hc hr)
 rw[if_neg h0]
 by_cases h1:4≤sec
 ·rw[if_pos (.inr (by omega))] at hQ
  rw[if_pos h1];exact hQ S (After.here hc hr)
 rw[if_neg h1]
 rw[if_neg (by omega)] at hQ
 have hj:sec.toNat<4:=by omega
 have hb:([eP (some (h,0)),.int .i64 n]:List Value)=busL h n:=rfl
 rw[hb]
 refine zdN hc hr hn hon (off:=0) (k:=256) (by decide) (by decide) (fun m q w l t S1 ρ1 A1 ca p0 p1 h2 h3 m1 hc1 hr1 ht hx hrow hfr=>?_) fun e S1 hbad he hk=>?_
 ·rw[if_neg (by omega),h2] at hQ
  rw[if_neg (by decide),zV,qQ hc1.c3,zV]
  refine⟨by omega,by omega,by omega,by omega,?_⟩
  have hll:=hr.wk.pg m q l h3
  have e:rdB l 0 256=l:=by
   unfold rdB
   rw[List.drop_zero,List.take_of_length_le (by omega)]
  rw[e] at hrow
  dsimp only at hQ
  rw[h3,Option.getD_some] at hQ
  obtain⟨ρ2,m2,hw,h4⟩:=zmk (r:=60+4*n+sec.toNat) m1 hrow hfr (zdm hc.gl)
  have hc2:=CrabA.wide hw hc1
  have hv2:=hc2.vs n hn
  have hdisk:∀ j,j<4→Rw S1 ρ2 (60+4*n+j) 1 (upd (A1.x n).d sec.toNat t j) (bL (((C.vm n).setDisk sec.toNat l).disk j)):=fun j hj4=>by
   show Rw S1 ρ2 _ 1 _ (bL (upd (C.vm n).disk sec.toNat l j))
   by_cases e:j=sec.toNat
   ·rw[e,zi,zi];exact h4
   ·rw[zk e,zk e];exact hv2.di j hj4
  have hvn:VmP S1 ρ2 n { A1.x n with d:=upd (A1.x n).d sec.toNat t } ((C.vm n).setDisk sec.toNat l) (C.fr n):=⟨hv2.se,hv2.r,hv2.fr,hv2.ke,hdisk⟩
  have he:∀ j,j<4→spl (vmC (A1.x n) (C.vm n) (C.tf n) (C.late n)) (7+j) [eL t]=vmC { A1.x n with d:=upd (A1.x n).d j t } ((C.vm n).setDisk j l) (C.tf n) (C.late n):=fun j hj4=>by
   match j,hj4 with
   | 0,_=>rfl
   | 1,_=>rfl
   | 2,_=>rfl
   | 3,_=>rfl
  rw[Int.toNat_natCast]
  refine ziW hc2 (j:=7+sec.toNat) hn (by omega) rfl (by simp;omega) (he sec.toNat hj) hvn fun S2 m3 hc3=>?_
  have hsame:=zhb (C:={ C with cache:=ca }) (n:=n) (v':=(C.vm n).setDisk sec.toNat l)
  have hc3':CrabA S2 ρ2 h { A1 with x:=upd A1.x n { A1.x n with d:=upd (A1.x n).d sec.toNat t } } { C with cache:=ca,vm:=upd C.vm n ((C.vm n).setDisk sec.toNat l) }:=by
   have:=hc3
   rw[hsame] at this
   exact this
  have hwo:WOk (W.setV n ((W.vm n).setDisk sec.toNat l)):=hr.wk.setV hon hon rfl (hr.wk.ok n) (hr.wk.keys n) (fun j=>by
   show ((upd (W.vm n).disk sec.toNat l) j).length=256∧Byt ((upd (W.vm n).disk sec.toNat l) j)
   by_cases e:j=sec.toNat
   ·rw[e,zi];exact hll.2.2
   ·rw[zk e];exact hr.wk.disk n j hon) rfl rfl
  have hrel:=hr1.setV (v:=(W.vm n).setDisk sec.toNat l) hon hon hwo
  refine hQ S2 ⟨ρ2,_,_,φ,(m2.mono fun r hr=>by unfold Rc;omega).trans (m3.mono fun r hr=>by unfold Rc;omega),hc3',?_,kp1,ht,fun i=>?_⟩
  ·have e2:=hr.vm
   rw[e2] at hrel ⊢;exact hrel
  ·show (upd A1.x n { A1.x n with d:=upd (A1.x n).d sec.toNat t } i).ss=(A.x i).ss
   rw[hx]
   by_cases e:i=n
   ·rw[e,zi]
   ·rw[zk e]
 ·rw[if_pos he]
  have hA:=After.keeps hc hr hk
  by_cases hp:p<0∨31<p
  ·rw[if_pos hp] at hQ;exact hQ S1 hA
  ·rw[if_neg hp] at hQ
   rcases hbad with h2 | h2 | h2
   ·exact absurd (.inl h2) hp
   ·exact absurd (.inr h2) hp
   ·rw[h2] at hQ;exact hQ S1 hA
end
end
end Go.Proofs.YtabdpmnhjlmnlaaGreatDoor
namespace Go.Cr
section
open Go Go.Pt
structure Sam (W W':Wd):Prop where
 on:∀ i,(W'.vm i).on=(W.vm i).on
 len:∀ i,(W'.vm i).seats.length=(W.vm i).seats.length
 ev:∀ i,(W'.ev i).length≤(W.ev i).length+1
 time:W'.time=W.time
section
variable {W:Wd}
theorem Sam.refl:Sam W W:=⟨fun _=>rfl,fun _=>rfl,fun _=>Nat.le_succ _,rfl⟩
theorem Sam.setV {n:Nat} {v:Bv} (h1:v.on=(W.vm n).on) (h2:v.seats.length=(W.vm n).seats.length):Sam W (W.setV n v):=by
 refine⟨fun i=>?_,fun i=>?_,fun _=>Nat.le_succ _,rfl⟩
 ·show (upd W.vm n v i).on=_
  by_cases e:i=n
  ·subst e;rw[zi,h1]
  ·rw[zk e]
 ·show (upd W.vm n v i).seats.length=_
  by_cases e:i=n
  ·subst e;rw[zi,h2]
  ·rw[zk e]
theorem Sam.tell {n:Nat} {e:Evt}:Sam W (W.tell n e):=by
 refine⟨fun _=>rfl,fun _=>rfl,fun i=>?_,rfl⟩
 show (upd W.ev n (W.ev n++[e]) i).length≤_
 by_cases h:i=n
 ·subst h;rw[zi];simp
 ·rw[zk h];omega
structure Ans (W:Wd) (r:Int×Int×Wd):Prop where
 v:0≤r.1∧r.1≤255
 e:0≤r.2.1∧r.2.1≤13
 s:Sam W r.2.2
theorem Ans.err {v e:Int} (hv:0≤v∧v≤255) (he:0≤e∧e≤13):Ans W (v,e,W):=⟨hv,he,Sam.refl⟩
theorem zlD {n k i:Nat}:Ans W (0,W.raise n k i):=by
 unfold Wd.raise
 split
 ·exact Ans.err (by decide) (by decide)
 ·exact⟨show (0:Int)≤0∧(0:Int)≤255 by decide,show (0:Int)≤0∧(0:Int)≤13 by decide,Sam.setV rfl (by show ((W.vm n).seats.set k _).length=_;rw[List.length_set])⟩
theorem zlQ {n:Nat} {p:Int}:0≤W.mine n p∧W.mine n p≤13:=by
 unfold Wd.mine
 split
 ·decide
 ·split <;> decide
theorem zjH (h:WOk W) {n k:Nat} (hn:n<6) {c w1 w2 w3:Int}:Ans W (W.call n k c w1 w2 w3):=by
 have z:(0:Int)≤0∧(0:Int)≤255:=by decide
 have z2:(0:Int)≤0∧(0:Int)≤13:=by decide
 unfold Wd.call
 by_cases h1:c=0
 ·rw[if_pos h1]
  exact⟨z,z2,Sam.tell⟩
 rw[if_neg h1]
 by_cases h2:c=1
 ·rw[if_pos h2]
  unfold Wd.nextKey
  cases hk:(W.vm n).keys with
  | nil=>exact Ans.err z (by decide)
  | cons x l=>
   have:=(h.keys n).2 x (by rw[hk];simp)
   exact⟨this,z2,Sam.setV rfl rfl⟩
 rw[if_neg h2]
 by_cases h3:c=2
 ·rw[if_pos h3]
  unfold Wd.ring
  split
  ·exact Ans.err z (by decide)
  split
  ·exact Ans.err z (by decide)
  ·exact zlD
 rw[if_neg h3]
 by_cases h4:c=3
 ·rw[if_pos h4]
  exact⟨z,z2,⟨fun _=>rfl,fun _=>rfl,fun _=>Nat.le_succ _,rfl⟩⟩
 rw[if_neg h4]
 by_cases h5:c=4
 ·rw[if_pos h5]
  unfold Wd.offer
  split
  ·exact Ans.err z zlQ
  split
  ·exact Ans.err z (by decide)
  split
  ·exact Ans.err z (by decide)
  cases hf:firstOff (fun i=>(W.ls i).on) 16 with
  | none=>exact Ans.err z (by decide)
  | some i=>
   have:=(zZ hf).1
   exact⟨show (0:Int)≤(i:Int)∧(i:Int)≤255 by omega,z2,⟨fun _=>rfl,fun _=>rfl,fun _=>Nat.le_succ _,rfl⟩⟩
 rw[if_neg h5]
 by_cases h6:5≤c∧c≤7
 ·rw[if_pos h6]
  unfold Wd.lease
  have q:∀ i l,Ans W (0,0,W.setL i l):=fun i l=>⟨z,z2,⟨fun _=>rfl,fun _=>rfl,fun _=>Nat.le_succ _,rfl⟩⟩
  split
  ·exact Ans.err z (by decide)
  split
  ·exact Ans.err z (by decide)
  split
  ·split
   ·exact Ans.err z (by decide)
   ·exact q _ _
  split
  ·exact Ans.err z (by decide)
  split
  ·exact q _ _
  split
  ·exact Ans.err z (by decide)
  split
  ·exact Ans.err z (by decide)
  ·exact q _ _
 rw[if_neg h6]
 have q:∀ (W':Wd),W'.vm=W.vm→W'.ev=W.ev→W'.time=W.time→Ans W (0,0,W'):=fun W' h1 h2 h3=>⟨z,z2,⟨fun i=>by rw[h1],fun i=>by rw[h1],fun i=>by show (W'.ev i).length≤_;rw[h2];omega,h3⟩⟩
 by_cases h7:c=8
 ·rw[if_pos h7]
  unfold Wd.give
  split
  ·exact Ans.err z zlQ
  split
  ·exact Ans.err z (by decide)
  ·exact q _ rfl rfl rfl
 rw[if_neg h7]
 by_cases h8:c=9
 ·rw[if_pos h8]
  unfold Wd.get
  split
  ·exact Ans.err z (by decide)
  split
  ·exact Ans.err z (by decide)
  split
  ·exact Ans.err z (by decide)
  split
  ·exact Ans.err z (by decide)
  ·exact q _ rfl rfl rfl
 rw[if_neg h8]
 by_cases h9:c=10
 ·rw[if_pos h9]
  unfold Wd.load
  split
  ·exact Ans.err z (by decide)
  split
  ·exact Ans.err z (by decide)
  cases hw:W.where_ n (small w2).toNat with
  | none=>exact Ans.err z (by decide)
  | some x=>
   obtain⟨m,q',b⟩:=x
   cases b with
   | false=>exact Ans.err z (by decide)
   | true=>exact q _ rfl rfl rfl
 rw[if_neg h9]
 by_cases h10:c=11
 ·rw[if_pos h10]
  unfold Wd.save
  split
  ·exact Ans.err z (by decide)
  split
  ·exact Ans.err z (by decide)
  cases hw:W.where_ n (small w2).toNat with
  | none=>exact Ans.err z (by decide)
  | some x=>exact⟨z,z2,Sam.setV rfl rfl⟩
 rw[if_neg h10]
 by_cases h11:c=12
 ·rw[if_pos h11]
  exact Ans.err (by omega) z2
 rw[if_neg h11]
 by_cases h12:c=13
 ·rw[if_pos h12]
  exact⟨z,z2,Sam.setV rfl (by show ((W.vm n).seats.set k _).length=_;rw[List.length_set])⟩
 rw[if_neg h12]
 exact Ans.err z (by decide)
end
end
section
open Go Go.Pt
open Go.Proofs.YtabdpmnhjlmnlaaGreatDoor
theorem wrapu (n:Int):IntKind.u64.wrap n=n%18446744073709551616:=by simp[IntKind.wrap,IntKind.bits,IntKind.signed]
theorem zqa (n:Int):W64 (IntKind.u64.wrap n):=by rw[wrapu];exact⟨by omega,by omega⟩
theorem zqF {x:Int} (h:W64 x) (k:Int):W64 (ishr .u64 x k):=by
 unfold ishr
 obtain⟨m,rfl⟩:∃ m:Nat,x=m:=⟨x.toNat,by have:=h.1;omega⟩
 have e:Int.fdiv (m:Int) (2 ^ min k.toNat IntKind.u64.bits)=((m/2 ^ min k.toNat IntKind.u64.bits:Nat):Int):=by
  rw[Int.fdiv_eq_ediv_of_nonneg _ (by exact Int.pow_nonneg (by decide))]
  rw[Int.natCast_ediv,Int.natCast_pow];rfl
 rw[e]
 have:=Nat.div_le_self m (2 ^ min k.toNat IntKind.u64.bits)
 have h2:=h.2
 generalize m/2 ^ min k.toNat IntKind.u64.bits=q at *
 exact⟨by omega,by omega⟩
theorem zrg {k b c:Int} (hb:W64 b):W64 (sumM k b c):=by
 unfold sumM
 repeat' split
 all_goals first | exact wQ _ | exact zqa _ | exact zqF hb _
theorem zrr {s:Seat} (h:s.Ok) {time me n:Int} (ht:W64 time) (hm:0≤me∧me≤2):W64 (getR s time me n):=by
 have hk:=h.mask
 unfold getR
 split
 ·exact h.base
 split
 ·exact h.vec
 split
 ·exact h.epc
 split
 ·exact h.cause
 split
 ·exact h.addr
 split
 ·exact⟨by omega,by omega⟩
 split
 ·split <;> exact⟨by decide,by decide⟩
 split
 ·exact ht
 ·exact⟨by omega,by omega⟩
theorem zqj {s t:Seat} (h:s.Ok) {n v:Int} (hv:W64 v) (he:setR s n v=some t):t.Ok:=by
 unfold setR at he
 split at he
 ·cases he;exact { h with base:=hv }
 split at he
 ·cases he;exact { h with vec:=hv }
 split at he
 ·cases he;exact { h with epc:=hv }
 split at he
 ·cases he;exact { h with cause:=hv }
 split at he
 ·cases he;exact { h with addr:=hv }
 split at he
 ·cases he;exact { h with mask:=⟨by show 0≤v%256;omega,by show v%256≤255;omega⟩ }
 split at he
 ·cases he;exact { h with }
 ·cases he
theorem r_w {s:Seat} (h:s.Ok) {i:Int}:W64 (s.r i):=by
 unfold Seat.r
 rw[List.getD_eq_getElem?_getD]
 cases hq:s.R[i.toNat]? with
 | none=>exact⟨by decide,by decide⟩
 | some x=>exact h.r x (List.mem_of_getElem? hq)
theorem setr_ok {s:Seat} (h:s.Ok) {i v:Int} (hv:W64 v):(s.setr i v).Ok:={ h with
 len:=by show (s.R.set i.toNat v).length=16;rw[List.length_set];exact h.len
 r:=fun x hx=>by
  rcases List.mem_or_eq_of_mem_set hx with e | e
  ·exact h.r x e
  ·rw[e];exact hv }
theorem zbj {s:Seat} (h:s.Ok) {v:Int} (hv:W64 v):({ s with pc:=v }:Seat).Ok:={ h with pc:=hv }
theorem zaS {s:Seat} {g:GM} (h:s.Ok) {c a:Int} (hc:W64 c) (ha:W64 a):(trapM s g c a).s.Ok:=Seat.trap_ok h hc ha
set_option maxHeartbeats 1000000 in
theorem zrt {s:Seat} {g:GM} (hg:g.Ok) (h:s.Ok) {time me k a b c n:Int} (ht:W64 time) (hm:0≤me∧me≤2):(doM s g time me k a b c n).s.Ok:=by
 have w3:W64 3:=⟨by decide,by decide⟩
 have w4:W64 4:=⟨by decide,by decide⟩
 have w1:W64 1:=⟨by decide,by decide⟩
 unfold doM
 dsimp only
 by_cases h1:k=1
 ·rw[if_pos h1];exact zbj (setr_ok h (wQ _)) (wQ _)
 rw[if_neg h1]
 by_cases h2:k=2
 ·rw[if_pos h2];exact zbj (setr_ok h (wQ _)) (wQ _)
 rw[if_neg h2]
 by_cases h11:k=11
 ·rw[if_pos h11];exact zbj (setr_ok h (wQ _)) (wQ _)
 rw[if_neg h11]
 by_cases h12:k=12
 ·rw[if_pos h12]
  cases hw:getW s g (x64 (s.r b+x64 n)) 8 with
  | none=>exact zaS h w3 (wQ _)
  | some v=>
   have:=zgX hg (wQ _) (.inr rfl) hw
   exact zbj (setr_ok h (by first | exact this | exact⟨this.1,by omega⟩)) (wQ _)
 rw[if_neg h12]
 by_cases h13:k=13
 ·rw[if_pos h13]
  cases hw:putW s g (x64 (s.r b+x64 n)) (s.r a) with
  | none=>exact zaS h w4 (wQ _)
  | some v=>exact zbj h (wQ _)
 rw[if_neg h13]
 by_cases h14:k=14
 ·rw[if_pos h14];refine zbj h ?_;split <;> exact wQ _
 rw[if_neg h14]
 by_cases h15:k=15
 ·rw[if_pos h15];refine zbj h ?_;split <;> exact wQ _
 rw[if_neg h15]
 by_cases h16:k=16
 ·rw[if_pos h16];refine zbj h ?_;split <;> exact wQ _
 rw[if_neg h16]
 by_cases h17:k=17
 ·rw[if_pos h17];exact zbj (setr_ok h (wQ _)) (wQ _)
 rw[if_neg h17]
 by_cases h18:k=18
 ·rw[if_pos h18];exact zbj (setr_ok h (zrr h ht hm)) (wQ _)
 rw[if_neg h18]
 by_cases h19:k=19
 ·rw[if_pos h19]
  cases hs:setR s n (s.r a) with
  | none=>exact zaS h w1 h.pc
  | some t=>exact zbj (zqj h (r_w h) hs) (wQ _)
 rw[if_neg h19]
 by_cases h20:k=20
 ·rw[if_pos h20];exact zbj h (wQ _)
 rw[if_neg h20]
 by_cases h21:k=21
 ·rw[if_pos h21]
  split
  ·exact { zbj h (wQ (s.pc+4)) with st:=⟨show (0:Int)≤1 by decide,show (1:Int)≤2 by decide⟩ }
  ·exact zbj h (wQ _)
 rw[if_neg h21]
 by_cases h22:k=22
 ·rw[if_pos h22];exact Seat.back_ok h
 rw[if_neg h22]
 by_cases h3:3≤k
 ·rw[if_pos h3];exact zbj (setr_ok h (zrg (r_w h))) (wQ _)
 ·rw[if_neg h3];exact zbj h (wQ _)
theorem zlj {s:Seat} {g:GM} (hg:g.Ok) (h:s.Ok) {time me:Int} (ht:W64 time) (hm:0≤me∧me≤2):(stepM s g time me).s.Ok:=by
 unfold stepM
 by_cases h0:s.st≠0
 ·rw[if_pos h0];exact h
 rw[if_neg h0]
 cases hn:nextL s with
 | some n=>
  obtain⟨h8,_,_,hge⟩:=zep h hn
  have hp:=h.pend
  dsimp only
  have hpos:(0:Int)<2 ^ n:=Int.pow_pos (by decide)
  exact zaS (s:={ s with pend:=s.pend-2 ^ n }) { h with pend:=⟨by show 0≤s.pend-2 ^ n;omega,by show s.pend-2 ^ n≤255;omega⟩ } ⟨by omega,by omega⟩ ⟨by decide,by decide⟩
 | none=>
  dsimp only
  cases hw:getW s g s.pc 4 with
  | none=>exact zaS h ⟨by decide,by decide⟩ h.pc
  | some w=>
   dsimp only
   have:=zgX hg h.pc (.inl rfl) hw
   split
   ·exact zrt hg h ht hm
   ·exact zaS h ⟨by decide,by decide⟩ ⟨by omega,by omega⟩
theorem zhv {s:Seat} {g:GM} {time me:Int} (h:(stepM s g time me).k=5):(stepM s g time me).s=s∧(stepM s g time me).g=g:=by
 have tr:∀ (s:Seat) (g:GM) c a,(trapM s g c a).k≠5:=fun s g c a=>by unfold trapM;dsimp only;split <;> decide
 unfold stepM at h ⊢
 by_cases h0:s.st≠0
 ·rw[if_pos h0];exact⟨rfl,rfl⟩
 rw[if_neg h0] at h
 exfalso
 cases hn:nextL s with
 | some n=>rw[hn] at h;exact tr _ _ _ _ h
 | none=>
  rw[hn] at h
  dsimp only at h
  cases hw:getW s g s.pc 4 with
  | none=>rw[hw] at h;exact tr _ _ _ _ h
  | some w=>
   rw[hw] at h
   dsimp only at h
   split at h
   ·have key:∀ k a b c n,(doM s g time me k a b c n).k≠5:=by
     intro k a b c n
     have t0:(0:Int)≠5:=by decide
     unfold doM
     dsimp only
     by_cases h1:k=1
     ·rw[if_pos h1];exact t0
     rw[if_neg h1]
     by_cases h2:k=2
     ·rw[if_pos h2];exact t0
     rw[if_neg h2]
     by_cases h11:k=11
     ·rw[if_pos h11];exact t0
     rw[if_neg h11]
     by_cases h12:k=12
     ·rw[if_pos h12]
      cases getW s g (x64 (s.r b+x64 n)) 8 with
      | none=>exact tr _ _ _ _
      | some v=>exact t0
     rw[if_neg h12]
     by_cases h13:k=13
     ·rw[if_pos h13]
      cases putW s g (x64 (s.r b+x64 n)) (s.r a) with
      | none=>exact tr _ _ _ _
      | some v=>exact t0
     rw[if_neg h13]
     by_cases h14:k=14
     ·rw[if_pos h14];exact t0
     rw[if_neg h14]
     by_cases h15:k=15
     ·rw[if_pos h15];exact t0
     rw[if_neg h15]
     by_cases h16:k=16
     ·rw[if_pos h16];exact t0
     rw[if_neg h16]
     by_cases h17:k=17
     ·rw[if_pos h17];exact t0
     rw[if_neg h17]
     by_cases h18:k=18
     ·rw[if_pos h18];exact t0
     rw[if_neg h18]
     by_cases h19:k=19
     ·rw[if_pos h19]
      cases setR s n (s.r a) with
      | none=>exact tr _ _ _ _
      | some t=>exact t0
     rw[if_neg h19]
     by_cases h20:k=20
     ·rw[if_pos h20];exact show (2:Int)≠5 by decide
     rw[if_neg h20]
     by_cases h21:k=21
     ·rw[if_pos h21]
      split
      ·exact show (3:Int)≠5 by decide
      ·exact t0
     rw[if_neg h21]
     by_cases h22:k=22
     ·rw[if_pos h22];exact t0
     rw[if_neg h22]
     by_cases h3:3≤k
     ·rw[if_pos h3];exact t0
     ·rw[if_neg h3];exact t0
    exact key _ _ _ _ _ h
   ·exact tr _ _ _ _ h
end
end Go.Cr
section
namespace Go.Proofs.YtabdpmnhjlmnlaaGreatDoor
open Go Go.Pt Go.Cr Go.Hp
section
variable {S S':Mem} {ρ ρ':Rho} {h:Nat} {A:Ad} {C:Cst} {W:Wd} {φ:Nat→Nat→Nat}
theorem and255 {w:Int} (hw:W64 w):iand .u64 w 255=w%256:=by
 obtain⟨n,rfl⟩:∃ n:Nat,w=n:=⟨w.toNat,by have:=hw.1;omega⟩
 have hn:n<18446744073709551616:=by have:=hw.2;omega
 have:=yE (a:=n) (b:=255) hn (by decide)
 have e:n &&& 255=n%256:=Nat.and_two_pow_sub_one_eq_mod n 8
 rw[e] at this
 have e3:((255:Nat):Int)=255:=rfl
 rw[e3] at this
 rw[this];omega
theorem zqG {w:Int} (hw:W64 w):ineg .u64 w=18446744073709551615-w:=by
 obtain⟨n,rfl⟩:∃ n:Nat,w=n:=⟨w.toNat,by have:=hw.1;omega⟩
 have hn:n<18446744073709551616:=by have:=hw.2;omega
 rw[zgT hn];omega
theorem After.tell (hc:CrabA S ρ h A C) (hr:Rel C W φ) {n:Nat} (hn:n<6) (hl:(W.ev n).length≤1000000000) {e:Evt} {Q:Mem→Prop} (hQ:∀ S',After h A C S ρ (W.tell n e) S'→Q S'):xd S (some (h,0)) n (evL e) Q:=by
 refine zld hc hn (by rw[hr.ev];exact hl) fun S1 ρ1 A1 m1 hc1 ht hx=>hQ S1 ⟨ρ1,A1,_,φ,m1.mono fun r hr=>by unfold Rc;omega,hc1,hr.tell n e,kp1,ht,fun i=>by rw[hx]⟩
theorem znC (hc:CrabA S ρ h A C) (hr:Rel C W φ) {n k:Nat} (hn:n<6) (hon:(W.vm n).on=true) (hk:k<(W.vm n).seats.length) (hl:(W.ev n).length≤1000000000) {c w1 w2 w3:Int} (h1:W64 w1) {Q:Int→Int→Mem→Prop}
  (hQ:∀ S',After h A C S ρ (W.call n k c w1 w2 w3).2.2 S'→Q (W.call n k c w1 w2 w3).1 (W.call n k c w1 w2 w3).2.1 S'):zaC S (some (h,0)) n k c w1 (small w2) (decide (w3≠0)) Q:=by
 have h3:=hr.wk.seats n hon
 apply zfH
 unfold ge
 refine zfV h1 ?_
 rw[zV,qQ hc.c3,zV]
 refine⟨by omega,by omega,?_⟩
 simp only[jn]
 rw[Int.toNat_natCast]
 unfold Wd.call at hQ
 by_cases c0:c=0
 ·rw[if_pos c0] at hQ ⊢
  rw[and255 h1]
  exact After.tell hc hr hn hl (e:=⟨3,k,w1%256,0⟩) hQ
 rw[if_neg c0] at hQ ⊢
 by_cases c1:c=1
 ·rw[if_pos c1] at hQ ⊢
  exact zhK hc hr hn hon hQ
 rw[if_neg c1] at hQ ⊢
 by_cases c2:c=2
 ·rw[if_pos c2] at hQ ⊢
  exact zkH hc hr hn hon hQ
 rw[if_neg c2] at hQ ⊢
 by_cases c3:c=3
 ·rw[if_pos c3] at hQ ⊢
  have hlate:=hr.time n hon
  have hnow:=hr.now
  have hlc:S.cell A.t (0+2+n*12+5)=some (.int .u64 (C.late n)):=hc.vcell (n:=n) (j:=5) hn (by decide) (by omega)
  have hw1:=h1.1
  have hw2:=h1.2
  rw[qQ hc.c3,zV,qQ hc.t171,zB hlc,zqG h1]
  have e:IntKind.u64.wrap (w1+if 18446744073709551615-w1<C.late n then 18446744073709551615-w1 else C.late n)=min (w1+C.late n) most64:=by
   unfold most64
   split
   ·rw[wu64 (by omega) (by omega)];omega
   ·rw[wu64 (by omega) (by omega)];omega
  rw[e]
  refine zmB hc.ck hc.rg hn (by omega) fun S1 ρ1 m1 hk1=>?_
  have hc1:=hc.setClk m1 (fun r hr=>by omega) hk1
  refine⟨hc1.vcell (n:=n) (j:=5) hn (by decide) (by omega),hc1.c3,?_⟩
  exact hQ S1 ⟨ρ1,A,_,φ,m1.mono fun r hr=>by unfold Rc;omega,hc1,hr.setAlarm hk h1,kp1,rfl,fun _=>rfl⟩
 rw[if_neg c3] at hQ ⊢
 by_cases c4:c=4
 ·rw[if_pos c4] at hQ ⊢
  exact ziY hc hr hn hon hQ
 rw[if_neg c4] at hQ ⊢
 by_cases c5:c=5
 ·subst c5
  rw[if_pos (by decide)] at hQ
  rw[if_pos rfl]
  exact zib hc hr hn hon hQ
 by_cases c6:c=6
 ·subst c6
  rw[if_pos (by decide)] at hQ
  rw[if_neg (by decide),if_pos rfl]
  exact ziZ hc hr hn hQ
 by_cases c7:c=7
 ·subst c7
  rw[if_pos (by decide)] at hQ
  rw[if_neg (by decide),if_neg (by decide),if_pos rfl]
  exact zfP hc hr hn hQ
 rw[if_neg (by omega)] at hQ
 rw[if_neg c5,if_neg c6,if_neg c7]
 by_cases c8:c=8
 ·rw[if_pos c8] at hQ ⊢
  exact zkL hc hr hn hon hQ
 rw[if_neg c8] at hQ ⊢
 by_cases c9:c=9
 ·rw[if_pos c9] at hQ ⊢
  exact zmt hc hr hn hon hQ
 rw[if_neg c9] at hQ ⊢
 by_cases c10:c=10
 ·rw[if_pos c10] at hQ ⊢
  exact zkK hc hr hn hon hQ
 rw[if_neg c10] at hQ ⊢
 by_cases c11:c=11
 ·rw[if_pos c11] at hQ ⊢
  exact zkG hc hr hn hon hQ
 rw[if_neg c11] at hQ ⊢
 by_cases c12:c=12
 ·rw[if_pos c12] at hQ ⊢
  rw[wu64 (by omega) (by omega)]
  exact hQ S (After.here hc hr)
 rw[if_neg c12] at hQ ⊢
 by_cases c13:c=13
 ·rw[if_pos c13] at hQ ⊢
  rw[qQ hc.c3]
  have hk':k<(C.vm n).seats.length:=by rw[hr.vm];exact hk
  refine kW hc (fun _ _ _ cb hs=>?_) fun hbad=>absurd ⟨(xB hr).2 ⟨by omega,by omega,by rw[Int.toNat_natCast];exact hon⟩,by omega,by rw[Int.toNat_natCast];omega⟩ hbad
  rw[Int.toNat_natCast] at hs
  obtain⟨hA,hok,hrol⟩:=zeS hc hn hk' hs
  have hok':((C.vm n).seat k).die.Ok:={ hok with st:=⟨show (0:Int)≤2 by decide,show (2:Int)≤2 by decide⟩ }
  obtain⟨m,hc1⟩:=fb hc hn hk' hs hok'
  rw[zV,Int.toNat_natCast,Nat.zero_add]
  refine hA.pt1 (s':=((C.vm n).seat k).die) hok.len (by decide) (Seat.s23 hok.len 2) ?_
  have hr1:=Rel.putSeat hr hon hk hok'
  have e:(C.vm n).seat k=(W.vm n).seat k:=by rw[hr.vm]
  refine hQ _ ⟨ρ,A,_,φ,m.mono fun r hr=>by unfold Rc;omega,hc1,?_,kp1,rfl,fun _=>rfl⟩
  rw[e] at hr1 ⊢
  exact hr1
 rw[if_neg c13] at hQ ⊢
 exact hQ S (After.here hc hr)
end
open Go Go.Pt Go.Cr Go.Hp
section
variable {S S':Mem} {ρ ρ':Rho} {h:Nat} {A:Ad} {C:Cst} {W:Wd} {φ:Nat→Nat→Nat}
theorem Seat.setr_ok {s:Seat} (h:s.Ok) {i v:Int} (hv:W64 v):(s.setr i v).Ok:={ h with
 len:=by show (s.R.set i.toNat v).length=16;rw[List.length_set];exact h.len
 r:=fun x hx=>by
  rcases List.mem_or_eq_of_mem_set hx with e | e
  ·exact h.r x e
  ·rw[e];exact hv }
theorem zic {W':Wd} {r:Int×Int×Wd} (h:Ans W' r):W64 r.1∧W64 r.2.1:=⟨⟨h.v.1,by have:=h.v.2;omega⟩,⟨h.e.1,by have:=h.e.2;omega⟩⟩
theorem zkM (hc:CrabA S ρ h A C) (hr:Rel C W φ) {n k:Nat} (hn:n<6) (hon:(W.vm n).on=true) (hk:k<(W.vm n).seats.length) (hl:(W.ev n).length≤900000000) {c:Int} {Q:Mem→Prop}
  (hQ:∀ S',After h A C S ρ (W.hyper n k c ((W.vm n).seat k)) S'→Q S'):gc S (some (h,0)) n k c Q:=by
 have hk':k<(C.vm n).seats.length:=by rw[hr.vm];exact hk
 have hth:thereV C.vm (n:Int):=(xB hr).2 ⟨by omega,by omega,by rw[Int.toNat_natCast];exact hon⟩
 apply zeg
 unfold kL
 rw[zV,qQ hc.c3]
 refine kW hc (fun _ _ _ cb hs=>?_) fun hbad=>absurd ⟨hth,by omega,by rw[Int.toNat_natCast];omega⟩ hbad
 rw[Int.toNat_natCast] at hs
 obtain⟨hA,hok,hrol⟩:=zeS hc hn hk' hs
 have e0:(C.vm n).seat k=(W.vm n).seat k:=by rw[hr.vm]
 rw[e0] at hA hok
 have g1:S.cell cb (k*26+1)=some (.int .u64 (((W.vm n).seat k).r 1)):=(hA.cell (i:=1) (by rw[Seat.L_len hok.len];decide)).trans (Seat.L_r hok.len (by decide))
 have g2:S.cell cb (k*26+2)=some (.int .u64 (((W.vm n).seat k).r 2)):=(hA.cell (i:=2) (by rw[Seat.L_len hok.len];decide)).trans (Seat.L_r hok.len (by decide))
 have g3:S.cell cb (k*26+3)=some (.int .u64 (((W.vm n).seat k).r 3)):=(hA.cell (i:=3) (by rw[Seat.L_len hok.len];decide)).trans (Seat.L_r hok.len (by decide))
 rw[zV,Int.toNat_natCast,Nat.zero_add,zB g1,zB g2,zB g3]
 refine zfV (Seat.r_w hok 2) ?_
 refine⟨g3,g1,?_⟩
 unfold Wd.hyper at hQ
 dsimp only at hQ
 have hans:=zjH (c:=c) (w1:=((W.vm n).seat k).r 1) (w2:=((W.vm n).seat k).r 2) (w3:=((W.vm n).seat k).r 3) hr.wk (k:=k) hn
 obtain⟨hv64,he64⟩:=zic hans
 have hsam:=hans.s
 refine znC hc hr hn hon hk (by omega) (Seat.r_w hok 1) fun S2 hA2=>?_
 generalize W.call n k c (((W.vm n).seat k).r 1) (((W.vm n).seat k).r 2) (((W.vm n).seat k).r 3)=r at hQ hA2 hv64 he64 hsam ⊢
 obtain⟨v,e,W'⟩:=r
 dsimp only at hQ hA2 hv64 he64 hsam ⊢
 obtain⟨ρ2,A2,C2,φ2,m2,hc2,hr2,kp2,ht2,hx2⟩:=hA2
 have hon2:(W'.vm n).on=true:=by rw[hsam.on];exact hon
 have hk2:k<(W'.vm n).seats.length:=by rw[hsam.len];exact hk
 have hk2':k<(C2.vm n).seats.length:=by rw[hr2.vm];exact hk2
 have hs2:(A2.x n).ss.p=some (cb,0):=by rw[hx2];exact hs
 obtain⟨hA3,hok3,hrol3⟩:=zeS hc2 hn hk2' hs2
 rw[wu64 he64.1 he64.2]
 have hl3:=hok3.len
 have hok4:=Seat.setr_ok hok3 (i:=0) he64
 have hok5:(((C2.vm n).seat k).answer e v).Ok:=Seat.setr_ok hok4 (i:=1) hv64
 refine hA3.pt1 (i:=0) (s':=((C2.vm n).seat k).setr 0 e) hl3 (by decide) (Seat.set_r hl3 (by decide) e) ?_
 have hp3:=Pl.of hA3 hl3
 refine hp3.pt hok4.len (i:=1) (s':=((C2.vm n).seat k).answer e v) (by decide) (Seat.set_r hok4.len (by decide) v) ?_
 obtain⟨m4,hc4⟩:=fb hc2 hn hk2' hs2 hok5
 have e2:(C2.vm n).seat k=(W'.vm n).seat k:=by rw[hr2.vm]
 have hr4:=Rel.putSeat hr2 hon2 hk2 hok5
 rw[e2] at hr4 hc4 ⊢
 have es:ishl .u64 c 8=x64 (c*256):=rfl
 rw[es]
 have hl4:((W'.putSeat n k (((W'.vm n).seat k).answer e v)).ev n).length≤1000000000:=by
  have:=hsam.ev n
  show (W'.ev n).length≤_
  omega
 rw[e2] at m4
 refine After.tell (e:=⟨2,k,ior .u64 (x64 (c*256)) e,v⟩) hc4 hr4 hn hl4 fun S6 hA6=>hQ S6 ?_
 obtain⟨ρ6,A6,C6,φ6,m6,hc6,hr6,kp6,ht6,hx6⟩:=hA6
 exact⟨ρ6,A6,C6,φ6,m2.trans ((m4.mono fun r hr=>by unfold Rc;omega).trans m6),hc6,hr6,kp2.trans ((show Kp C2 { C2 with vm:=_ } from kp1).trans kp6),ht6.trans ht2,fun i=>(hx6 i).trans (hx2 i)⟩
theorem zlb {x n:Int} {k:Int} {pc:Int} {s:Seat} (hs:s.Ok) {Q:List Value→Mem→Prop} (hQ:∀ S',Keeps S S' []→Q (evL (told x n k pc s)) S'):zfx S (exL x n) k pc s.L Q:=by
 apply zit
 unfold zbY
 refine⟨rfl,Seat.L_len hs.len,?_⟩
 simp only[jn]
 unfold told at hQ
 rw[zB (show nthL (exL x n) 0=some (.int .u8 x) from rfl)]
 by_cases h1:x=1
 ·rw[if_pos h1] at hQ ⊢
  rw[zB (show nthL (exL x n) 1=some (.int .u64 n) from rfl)]
  exact hQ S Keeps.refl
 rw[if_neg h1] at hQ ⊢
 by_cases h4:x=4
 ·rw[if_pos h4] at hQ ⊢
  rw[zB (show nthL (exL x n) 1=some (.int .u64 n) from rfl)]
  exact hQ S Keeps.refl
 rw[if_neg h4] at hQ ⊢
 refine⟨rfl,?_⟩
 exact zlh hs fun S' hk=>hQ S' hk
theorem zkb {d:Nat→List Int} {f:Nat→List Int} {ca:List Cw} {n:Nat} (hr:Rel { C with cache:=ca,dat:=f } (W.setDat d) φ) {g:GM} (hg:g=(W.setDat d).gm n) (hW:WOk W):Rel { C with cache:=ca,dat:=f } (W.setDat g.dat) φ:=by
 rw[hg,zhC fun m q l h=>(hW.pg m q l h).2.1]
 exact hr
set_option maxHeartbeats 1000000 in
theorem zhZ (hc:CrabA S ρ h A C) (hr:Rel C W φ) {n k:Int} (hl:∀ i,(W.ev i).length≤800000000) {Q:Int→Mem→Prop}
  (hQ:∀ S',After h A C S ρ (W.run n k).2 S'→Q (W.run n k).1 S'):yK S (some (h,0)) n k Q:=by
 apply zeK
 unfold jC
 simp only[jn]
 rw[if_neg (by simp),zV,qQ hc.c3]
 unfold Wd.run at hQ
 refine kW hc (fun hth hk0 hkl cb hs=>?_) fun hbad=>?_
 rotate_left
 ·rw[if_pos rfl]
  rw[if_pos] at hQ
  ·exact hQ S (After.here hc hr)
  ·by_cases ht:W.there n
   ·right
    apply Classical.byContradiction
    intro hh
    exact hbad ⟨(xB hr).2 ht,by omega,by rw[hr.vm];omega⟩
   ·exact .inl ht
 have ht:W.there n:=(xB hr).1 hth
 obtain⟨n,rfl⟩:∃ m:Nat,n=m:=⟨n.toNat,by have:=ht.1;omega⟩
 obtain⟨k,rfl⟩:∃ m:Nat,k=m:=⟨k.toNat,by omega⟩
 rw[Int.toNat_natCast] at hs hkl
 have hon:(W.vm n).on=true:=by have:=ht.2.2;rwa [Int.toNat_natCast] at this
 have hn:n<6:=by have:=ht.2.1;omega
 have hk':k<(C.vm n).seats.length:=by omega
 have hk:k<(W.vm n).seats.length:=by rw[←hr.vm];exact hk'
 have h3:=hr.wk.seats n hon
 rw[if_neg (fun h=>h.elim (fun h=>h ht) (fun h=>by rw[Int.toNat_natCast] at h;omega))] at hQ
 simp only[Int.toNat_natCast] at hQ
 rw[if_neg (by simp),zV,qQ hc.c3]
 refine kW hc (fun _ _ _ cb' hs'=>?_) fun hbad=>absurd ⟨hth,by omega,by rw[Int.toNat_natCast];omega⟩ hbad
 rw[Int.toNat_natCast] at hs'
 have ecb:cb'=cb:=by rw[hs] at hs';cases hs';rfl
 subst ecb
 obtain⟨hA,hok,hrol⟩:=zeS hc hn hk' hs
 have e0:(C.vm n).seat k=(W.vm n).seat k:=by rw[hr.vm]
 rw[e0] at hA hok
 have g16:S.cell cb' (k*26+16)=some (.int .u64 ((W.vm n).seat k).pc):=(hA.cell (i:=16) (by rw[Seat.L_len hok.len];decide)).trans (Seat.g16 hok.len)
 rw[zV,Int.toNat_natCast,Nat.zero_add,zB g16,qQ hc.c3]
 refine zlc hc hn ?_
 have htm:=hr.time n hon
 have hnow:=hr.now
 rw[wu64 (by omega) (by omega),←htm.2.2]
 have hbus:(.iface 173 (valL ([.pointer (some ⟨h,0,none⟩),.int .i64 n])):Value)=.iface 173 (valL (busL h n)):=rfl
 rw[hbus]
 have hW:=fun m q l h=>((hr.wk.pg m q l h).2.1:q<32)
 have hB:=znz (C:=C) (φ:=φ) (h:=h) hn hon hr.wk A.t A.x
 have hI:BI h n C W φ A.t A.x S ρ (W.gm n):=⟨A,(W.gm n).dat,C.cache,C.dat,hc,by rw[yz hW];exact hr,by rw[yz hW],rfl,rfl⟩
 have hx:Cx (BI h n C W φ A.t A.x) R026 S ρ (W.gm n) cb' (k*26) ((W.vm n).seat k):=⟨hI,hA,30+n,hrol,by unfold R026;omega⟩
 refine zli hB hx hok ⟨by omega,by omega⟩ ⟨by omega,by omega⟩ fun S1 ρ1 m1 hI1 hA1=>?_
 obtain⟨A1,d1,ca1,dt1,hc1,hr1,hg1,ht1,hx1⟩:=hI1
 have hr1':=zkb hr1 hg1 hr.wk
 have hstep:=zlj (hr.wk.gm n) hok (time:=W.time n) (me:=k) ⟨by omega,by omega⟩ ⟨by omega,by omega⟩
 have hidle:(stepM ((W.vm n).seat k) (W.gm n) (W.time n) k).k=5→(stepM ((W.vm n).seat k) (W.gm n) (W.time n) k).s=(W.vm n).seat k∧(stepM ((W.vm n).seat k) (W.gm n) (W.time n) k).g=W.gm n:=fun h=>zhv h
 generalize stepM ((W.vm n).seat k) (W.gm n) (W.time n) k=o at hQ hg1 hr1' hstep hidle ⊢
 refine⟨rfl,?_⟩
 rw[zB (show nthL (exL o.k o.n) 0=some (.int .u8 o.k) from rfl)]
 have hs1:(A1.x n).ss.p=some (cb',0):=by rw[hx1];exact hs
 have hk1:k<(({ C with cache:=ca1,dat:=dt1 }:Cst).vm n).seats.length:=hk'
 obtain⟨m2,hc2⟩:=fb hc1 hn hk1 hs1 hstep
 have hm12:Mv S ρ (S1.put cb' (k*26) o.s.L) ρ1 Rc:=(m1.mono fun r hr=>by unfold R026 at hr;unfold Rc;omega).trans (m2.mono fun r hr=>by unfold Rc;omega)
 by_cases h5:o.k=5
 ·rw[if_pos h5] at hQ ⊢
  obtain⟨e1,e2⟩:=hidle h5
  rw[e1,hA1.self]
  rw[e2,yz hW] at hr1'
  exact hQ S1 ⟨ρ1,A1,_,φ,m1.mono fun r hr=>by unfold R026 at hr;unfold Rc;omega,hc1,hr1',kp1,ht1,fun i=>by rw[hx1]⟩
 ·rw[if_neg h5] at hQ ⊢
  have hl1:((W.setDat o.g.dat).putSeat n k o.s).ev=W.ev:=rfl
  have hr2:=Rel.putSeat (k:=k) (n:=n) (s:=o.s) hr1' hon hk hstep
  have hpl:=Pl.of hA1 hok.len
  rw[gD (hpl.all hstep.len)]
  refine zlb hstep fun S3 hk3=>?_
  have hc3:=hc2.keeps hk3
  have hm3:Mv S ρ S3 ρ1 Rc:=hm12.trans (Mv.keeps hc2.rg hk3)
  refine After.tell hc3 hr2 hn (by rw[hl1];have:=hl n;omega) fun S4 hA4=>?_
  obtain⟨ρ4,A4,C4,φ4,m4,hc4,hr4,kp4,ht4,hx4⟩:=hA4
  have kp04:Kp C C4:=(show Kp C { C with cache:=ca1,dat:=dt1,vm:=_ } from kp1).trans kp4
  rw[zB (show nthL (exL o.k o.n) 0=some (.int .u8 o.k) from rfl)]
  by_cases h2:o.k=2
  ·simp only[if_pos h2] at hQ
   rw[if_pos h2,zB (show nthL (exL o.k o.n) 1=some (.int .u64 o.n) from rfl)]
   generalize hW2:(((W.setDat o.g.dat).putSeat n k o.s).tell n (told o.k o.n k ((W.vm n).seat k).pc o.s))=W2 at hQ hr4
   have v2:W2.vm n=(W.vm n).setSeat k o.s:=by rw[←hW2];show upd W.vm n _ n=_;rw[zi];rfl
   have ev2:(W2.ev n).length≤900000000:=by
    rw[←hW2]
    show (upd W.ev n _ n).length≤_
    rw[zi,List.length_append]
    have:=hl n
    show (W.ev n).length+1≤_
    omega
   have es:(W2.vm n).seat k=o.s:=by
    rw[v2]
    show ((W.vm n).seats.set k o.s).getD k seat0=o.s
    rw[List.getD_eq_getElem?_getD,List.getElem?_set_self hk];rfl
   refine zkM hc4 hr4 hn (by rw[v2];exact hon) (by rw[v2];show k<((W.vm n).seats.set k o.s).length;rw[List.length_set];exact hk) ev2 fun S5 hA5=>?_
   rw[es] at hA5
   obtain⟨ρ5,A5,C5,φ5,m5,hc5,hr5,kp5,ht5,hx5⟩:=hA5
   exact hQ S5 ⟨ρ5,A5,C5,φ5,hm3.trans (m4.trans m5),hc5,hr5,kp04.trans kp5,ht5.trans (ht4.trans ht1),fun i=>(hx5 i).trans ((hx4 i).trans (by rw[hx1]))⟩
  ·simp only[if_neg h2] at hQ
   rw[if_neg h2]
   exact hQ S4 ⟨ρ4,A4,C4,φ4,hm3.trans m4,hc4,hr4,kp04,ht4.trans ht1,fun i=>(hx4 i).trans (by rw[hx1])⟩
end
end Go.Proofs.YtabdpmnhjlmnlaaGreatDoor
end
namespace Go.Proofs.YtabdpmnhjlmnlaaGreatDoor
section
open Go Go.Pt Go.Cr Go.Hp
section
variable {S S':Mem} {ρ ρ':Rho} {h:Nat} {A:Ad} {C:Cst} {W:Wd} {φ:Nat→Nat→Nat}
theorem After.comp {A1:Ad} {C1:Cst} {S1 S2:Mem} {ρ1:Rho} {W2:Wd} (m:Mv S ρ S1 ρ1 Rc) (kp:Kp C C1) (ht:A1.t=A.t) (hx:∀ i,(A1.x i).ss=(A.x i).ss) (hA:After h A1 C1 S1 ρ1 W2 S2):After h A C S ρ W2 S2:=by
 obtain⟨ρ',A',C',φ',m',hc',hr',kp',ht',hx'⟩:=hA
 exact⟨ρ',A',C',φ',m.trans m',hc',hr',kp.trans kp',ht'.trans ht,fun i=>(hx' i).trans (hx i)⟩
theorem zqd {n:Nat} {x':Vx} (h:x'.ss=(A.x n).ss):∀ i,(upd A.x n x' i).ss=(A.x i).ss:=fun i=>by
 by_cases e:i=n
 ·rw[e,zi,h]
 ·rw[zk e]
theorem znp (hc:CrabA S ρ h A C) (hr:Rel C W φ) {n b:Int} (hb:0≤b∧b≤255) {Q:Int→Mem→Prop} (hQ:∀ S',After h A C S ρ (W.key n b).2 S'→Q (W.key n b).1 S'):kU S (some (h,0)) n b Q:=by
 unfold Wd.key at hQ
 apply zeL
 unfold jD
 simp only[jn]
 rw[if_neg (by simp),zV,qQ hc.c3]
 refine wN hc ?_
 by_cases ht:W.there n
 ·rw[if_neg (fun h=>h ht)] at hQ
  rw[decide_eq_true ((xB hr).2 ht),if_pos rfl]
  obtain⟨n,rfl⟩:∃ m:Nat,n=m:=⟨n.toNat,by have:=ht.1;omega⟩
  have hon:(W.vm n).on=true:=by have:=ht.2.2;rwa [Int.toNat_natCast] at this
  have hn:n<6:=by have:=ht.2.1;omega
  simp only[Int.toNat_natCast] at hQ ⊢
  have hv:=hc.vs n hn
  have hcell:S.cell A.t (0+2+n*12+6)=some (eL (A.x n).ks):=hc.vcell (n:=n) (j:=6) hn (by decide) (by omega)
  have hkl:(bL (C.vm n).keys).length=(C.vm n).keys.length*1:=by simp[bL]
  have hkn:=hv.ke.n (by decide) hkl
  have h64:=hr.wk.keys n
  rw[←hr.vm] at h64
  rw[qQ hc.c3,zV]
  refine⟨by omega,by omega,?_⟩
  rw[wc hcell]
  by_cases h6:64≤(W.vm n).keys.length
  ·rw[if_pos h6] at hQ
   rw[←hr.vm] at h6
   rw[if_pos (by omega)]
   exact hQ S (After.here hc hr)
  ·rw[if_neg h6] at hQ
   rw[←hr.vm] at h6
   rw[if_neg (by omega),zV,qQ hc.c3,qQ hc.c3,zV]
   refine⟨by omega,by omega,?_⟩
   rw[wc hcell,zV]
   refine zid (R:=(· = 50+n)) (Mv.refl hc.rg) rfl hv.ke rfl (by decide) rfl (by omega) fun s' S1 ρ1 m1 _ hrow _=>?_
   have hb':bL (C.vm n).keys++[.int .u8 b]=bL ((C.vm n).keys++[b]):=by simp[bL]
   rw[hb'] at hrow
   have kd:∀ r,r<90→r≠50+n→¬(r=50+n):=fun r _ h=>h
   have hd1:=hc.hd.keep m1 (by omega)
   have ht1:=hc.tt.keep m1 (by omega)
   have c3:S1.cell h (0+3)=some (eP (some (A.t,0))):=hd1.cell 3 (by rw[fe];decide) rfl
   refine⟨c3,c3,by omega,by omega,?_⟩
   have hvn:VmP S1 ρ1 n { A.x n with ks:=s' } ((C.vm n).setKeys ((C.vm n).keys++[b])) (C.fr n):=
    ⟨hv.se.keep m1 (by omega),hv.r,hv.fr.keep m1 (by omega),hrow,fun j hj=>(hv.di j hj).keep m1 (by omega)⟩
   have he:spl (vmC (A.x n) (C.vm n) (C.tf n) (C.late n)) 6 [eL s']=vmC { A.x n with ks:=s' } ((C.vm n).setKeys ((C.vm n).keys++[b])) (C.tf n) (C.late n):=rfl
   refine ht1.pt m1.rg (vs:=[eL s']) (2+(n*12+6)) rfl (by rw[jg];simp;omega) (by omega) fun S2 m2 h2=>?_
   rw[zmb (fr':=C.fr n) hn (by simp) he] at h2
   have m12:Mv S ρ S2 ρ1 (fun r=>r=7∨r=50+n):=(m1.mono fun r hr=>.inr hr).trans (m2.mono fun r hr=>.inl hr)
   have hc2:=hc.setVm (k:={ C.toKn with vm:=upd C.vm n ((C.vm n).setKeys ((C.vm n).keys++[b])),tf:=upd C.tf n (C.tf n),late:=upd C.late n (C.late n),fr:=upd C.fr n (C.fr n) }) (x:=upd A.x n { A.x n with ks:=s' }) m12 (fun r hr=>by omega) h2 fun i hi=>by
    show VmP S2 ρ1 i (upd A.x n _ i) (upd C.vm n _ i) (upd C.fr n (C.fr n) i)
    by_cases e:i=n
    ·subst e
     rw[zi,zi,zi]
     exact hvn.keep m2 hi fun r h1 h2=>by omega
    ·rw[zk e,zk e,zk e]
     have hvi:=hc.vs i hi
     exact⟨hvi.se.keep m12 (by omega),hvi.r,hvi.fr.keep m12 (by omega),hvi.ke.keep m12 (by omega),fun j hj=>(hvi.di j hj).keep m12 (by omega)⟩
   have hc2':CrabA S2 ρ1 h { A with x:=upd A.x n { A.x n with ks:=s' } } { C with vm:=upd C.vm n ((C.vm n).setKeys ((C.vm n).keys++[b])) }:=by
    have:=hc2
    have e:=zhb (C:=C) (n:=n) (v':=(C.vm n).setKeys ((C.vm n).keys++[b]))
    exact e ▸ this
   have hwo:WOk (W.setV n ((W.vm n).setKeys ((W.vm n).keys++[b]))):=hr.wk.setV hon hon rfl (hr.wk.ok n) ⟨by
    show ((W.vm n).keys++[b]).length≤64
    rw[List.length_append,←hr.vm];simp;omega,fun y hy=>by
    have hy':y∈(W.vm n).keys++[b]:=hy
    rcases List.mem_append.1 hy' with e | e
    ·exact (hr.wk.keys n).2 y e
    ·rw[List.mem_singleton] at e;rw[e];exact hb⟩ (fun j=>hr.wk.disk n j hon) rfl rfl
   have hr2:=hr.setV (v:=(W.vm n).setKeys ((W.vm n).keys++[b])) hon hon hwo
   have ev:(C.vm n).setKeys ((C.vm n).keys++[b])=(W.vm n).setKeys ((W.vm n).keys++[b]):=by rw[hr.vm]
   rw[ev] at hc2'
   rw[qQ hc2'.c3]
   have h3:=hr.wk.seats n hon
   have hxs:=zqd (A:=A) (n:=n) (x':={ A.x n with ks:=s' }) rfl
   generalize hW2:W.setV n ((W.vm n).setKeys ((W.vm n).keys++[b]))=W2 at hr2 hQ
   have v2:W2.vm n=(W.vm n).setKeys ((W.vm n).keys++[b]):=by rw[←hW2];exact zi
   have hon2:(W2.vm n).on=true:=by rw[v2];exact hon
   have hlen2:(W2.vm n).seats.length=(W.vm n).seats.length:=by rw[v2];rfl
   refine kW hc2' (fun _ _ _ c hs=>?_) fun hbad=>?_
   ·rw[Int.toNat_natCast] at hs
    have:=zfw hc2' hr2 hn hon2 (k:=0) (i:=6) (by omega) hs (by decide) (Q:=fun _ Sx=>Q 0 Sx) fun S3 hA3=>hQ S3 (After.comp (A:=A) (A1:={ A with x:=upd A.x n { A.x n with ks:=s' } }) (m12.mono fun r hr=>by unfold Rc;omega) kp1 rfl hxs hA3)
    exact this
   ·refine absurd ⟨⟨by omega,by omega,?_⟩,by decide,?_⟩ hbad
    ·rw[Int.toNat_natCast]
     show ((upd C.vm n _) n).on=true
     rw[zi];exact hon
    ·rw[Int.toNat_natCast]
     show (0:Int)<(((upd C.vm n _) n).seats.length:Nat)
     rw[zi]
     show (0:Int)<((W.vm n).seats.length:Nat)
     omega
 ·rw[if_pos ht] at hQ
  rw[decide_eq_false (fun h=>ht ((xB hr).1 h)),if_neg (by decide)]
  exact hQ S (After.here hc hr)
theorem zfq (hc:CrabA S ρ h A C) {n:Nat} (hn:n<6) (hl:(C.ev n).length≤1000000000) {Q:Sl→Mem→Prop}
  (hQ:∀ t S',Keeps S S' []→Row S' 4 t ((C.ev n).flatMap evL)→(∀ b o,t.p=some (b,o)→S b=none)→Q t S'):yZ S (some (h,0)) n Q:=by
 have hrow:=hc.ev n hn
 have hsn:=hrow.n (by decide) (wB fP _)
 apply zcn
 unfold vi
 simp only[jn]
 rw[if_neg (by simp),if_neg (by omega),if_neg (by omega),zV]
 refine⟨by omega,by omega,?_⟩
 rw[Int.toNat_natCast,wc (hc.cev hn (by omega))]
 have hfl:=wB fP (C.ev n)
 refine⟨(C.ev n).flatMap evL,?_,?_,?_⟩
 ·rcases hrow.row.lie with ⟨h1,h2⟩ | ⟨b,k,h1,_⟩
  ·left
   have h3:=hrow.row.cap
   have hz:(A.es n).n=0:=by omega
   have:C.ev n=[]:=List.length_eq_zero_iff.1 (by omega)
   exact⟨h1,hz,by rw[this];rfl⟩
  ·right
   exact⟨b,0,h1,hrow.row.part h1⟩
 ·rw[List.all_flatMap];exact List.all_eq_true.2 fun x _=>rfl
 ·exact zmC (by rw[hfl,hsn]) rfl (by omega) fun s' S1 _ hr hk hf=>hQ s' S1 hk hr hf
end
end
end Go.Proofs.YtabdpmnhjlmnlaaGreatDoor
namespace Go.Cr
section
open Go Go.Pt
def clrD (d:Nat→List Int) (fr:List Nat):Nat→List Int:=fr.foldl (fun d f=>upd d f noughts) d
def rootD (d:Nat→List Int) (form:Int) (r:Nat) (fr:List Nat):Nat→Nat→List Int
 | 0=>d
 | i+1=>wr (rootD d form r fr i) r (8*i) (bytes8 (pk form (fr.getD (i+1) 0) true))
def makeD (d:Nat→List Int) (form:Int) (fr:List Nat):Nat→List Int:=rootD (clrD d fr) form (fr.getD 0 0) fr 4
theorem zet:∀ {fr:List Nat} {d:Nat→List Int} {x:Nat},clrD d fr x=if x∈fr then noughts else d x
 | [],d,x=>by simp[clrD]
 | f :: fr,d,x=>by
  unfold clrD
  rw[List.foldl_cons]
  have:=zet (fr:=fr) (d:=upd d f noughts) (x:=x)
  unfold clrD at this
  rw[this]
  by_cases e:x∈fr
  ·rw[if_pos e,if_pos (List.mem_cons_of_mem _ e)]
  ·rw[if_neg e]
   by_cases e2:x=f
   ·subst e2;rw[zi,if_pos List.mem_cons_self]
   ·rw[zk e2,if_neg (by simp[e,e2])]
theorem fa {d:Nat→List Int} {form:Int} {r x:Nat} {fr:List Nat} (h:x≠r):∀ {i:Nat},rootD d form r fr i x=d x
 | 0=>rfl
 | i+1=>by rw[rootD,zqb h,fa h]
theorem zfa {d:Nat→List Int} {form:Int} {r:Nat} {fr:List Nat} (h:(d r).length=256∧Byt (d r)):∀ {i:Nat},i≤31→(rootD d form r fr i r).length=256∧Byt (rootD d form r fr i r)
 | 0,_=>h
 | i+1,hi=>by
  have ih:=zfa (form:=form) (fr:=fr) h (i:=i) (by omega)
  rw[rootD]
  exact⟨by rw[zji (by rw[ih.1,xe];omega)];exact ih.1,zjj (vF _) ih.2⟩
theorem zjq {d:Nat→List Int} {form:Int} {r:Nat} {fr:List Nat} (h:(d r).length=256∧Byt (d r)) (hf:∀ f∈fr,f≤65535):∀ {i j:Nat},i≤31→j<i→ld (rootD d form r fr i) r j=pk form (fr.getD (j+1) 0) true
 | 0,j,_,hj=>by omega
 | i+1,j,hi,hj=>by
  have ih:=zfa (form:=form) (fr:=fr) h (i:=i) (by omega)
  have h6:fr.getD (i+1) 0≤65535:=by
   rw[List.getD_eq_getElem?_getD]
   cases hq:fr[i+1]? with
   | none=>exact Nat.zero_le _
   | some x=>exact hf x (List.mem_of_getElem? hq)
  rw[rootD,zqC ih.1 (by omega) (by omega) (zpj h6).1]
  by_cases e:j=i
  ·rw[if_pos ⟨rfl,e⟩,e]
  ·rw[if_neg (fun h=>e h.2)]
   exact zjq h hf (by omega) (by omega)
theorem zky {d:Nat→List Int} {f i:Nat} (h:d f=noughts):ld d f i=0:=by
 unfold ld
 rw[h]
 have key:∀ l:List Int,(∀ x∈l,x=0)→num l=0:=by
  intro l
  induction l with
  | nil=>intro _;rfl
  | cons x l ih=>
   intro hl
   simp only[num]
   rw[hl x (by simp),ih fun y hy=>hl y (by simp[hy])];rfl
 exact key _ fun x hx=>zff (List.mem_of_mem_drop (List.mem_of_mem_take hx))
def keepL (own:Nat→Ow) (n:Nat) (l:List Nat):Nat→Ow:=l.foldl (fun o f=>keepC o f n) own
theorem zhQ {n:Nat}:∀ {l:List Nat} {own:Nat→Ow} {x:Nat},(∀ f∈l,(own f).kind=0)→l.Nodup→keepL own n l x=if x∈l then ⟨2,n,0,0⟩ else own x
 | [],own,x,_,_=>by simp[keepL]
 | f :: l,own,x,h,hn=>by
  obtain⟨h1,h2⟩:=List.nodup_cons.1 hn
  have e0:keepC own f n=upd own f ⟨2,n,0,0⟩:=by
   unfold keepC
   rw[if_pos (h f (by simp)),if_pos (by omega)]
  have ih:=zhQ (n:=n) (l:=l) (own:=keepC own f n) (x:=x) (fun g hg=>by
   rw[e0,zk (fun e=>by subst e;exact h1 hg)];exact h g (by simp[hg])) h2
  unfold keepL at ih ⊢
  rw[List.foldl_cons,ih]
  by_cases e:x∈l
  ·rw[if_pos e,if_pos (List.mem_cons_of_mem _ e)]
  ·rw[if_neg e,e0]
   by_cases e2:x=f
   ·subst e2;rw[zi,if_pos List.mem_cons_self]
   ·rw[zk e2,if_neg (by simp[e,e2])]
def Wd.newV (W:Wd) (n:Nat) (seats quota:Int):Wd:=
 { W with free:=W.free-5,vm:=upd W.vm n (mkV seats quota),time:=upd W.time n 0,ev:=upd W.ev n [] }
section
variable {C:Cst} {W:Wd} {φ:Nat→Nat→Nat}
theorem zoF (h:WOk W) {n:Nat} (hn:n<6) (hoff:(W.vm n).on=false) {seats quota:Int} (hs:1≤seats∧seats≤3) (hq:1≤quota∧quota≤32):WOk (W.newV n seats quota):=by
 have vn:(W.newV n seats quota).vm n=mkV seats quota:=zi
 have vo:∀ i,i≠n→(W.newV n seats quota).vm i=W.vm i:=fun i e=>zk e
 have h0:=h.off n hoff
 have on_of:∀ i,(W.vm i).on=true→i≠n:=fun i hi e=>by subst e;rw[hoff] at hi;cases hi
 refine { h with off:=fun i hi=>?_,six:=fun i hi=>?_,seats:=fun i hi=>?_,ok:=fun i s hs'=>?_,keys:=fun i=>?_,disk:=fun i j hi=>?_,quota:=fun i=>?_,bells:=fun i k hk=>?_,pg:=fun i p l hl=>?_,most:=fun i=>?_,lsr:=fun i hi=>?_,alarm:=fun i k w hw=>?_ }
 ·have e:i≠n:=fun e=>by subst e;rw[vn] at hi;cases hi
  rw[vo i e] at hi ⊢;exact h.off i hi
 ·rw[vo i (by omega)];exact h.six i hi
 ·by_cases e:i=n
  ·subst e;rw[vn]
   show 1≤(List.replicate seats.toNat seat0).length∧_
   rw[List.length_replicate]
   exact⟨by omega,by show (List.replicate seats.toNat seat0).length≤3;rw[List.length_replicate];omega⟩
  ·rw[vo i e] at hi ⊢;exact h.seats i hi
 ·by_cases e:i=n
  ·subst e;rw[vn] at hs'
   rw[List.eq_of_mem_replicate hs'];exact zjn
  ·rw[vo i e] at hs';exact h.ok i s hs'
 ·by_cases e:i=n
  ·subst e;rw[vn];exact⟨Nat.zero_le _,fun x hx=>by cases hx⟩
  ·rw[vo i e];exact h.keys i
 ·by_cases e:i=n
  ·subst e;rw[vn];exact⟨qz,fun x hx=>xF hx⟩
  ·rw[vo i e] at hi ⊢;exact h.disk i j hi
 ·by_cases e:i=n
  ·subst e;rw[vn];exact⟨show 0≤quota by omega,hq.2⟩
  ·rw[vo i e];exact h.quota i
 ·by_cases e:i=n
  ·subst e;rw[vn] at hk;cases hk
  ·rw[vo i e] at hk
   obtain⟨a,b,c,d⟩:=h.bells i k hk
   have hkn:=on_of k b
   rw[vo i e,vo k hkn];exact⟨a,b,c,d⟩
 ·obtain⟨a,b⟩:=h.pg i p l hl
  rw[vo i (on_of i a)];exact⟨a,b⟩
 ·by_cases e:i=n
  ·subst e
   have:(W.newV i seats quota).pages i=0:=vE fun p _=>by
    show (W.own i p).isSome=false
    rw[h0.2.1];rfl
   rw[this,vn];show (0:Int)≤quota;omega
  ·rw[vo i e];exact h.most i
 ·obtain⟨a,b,c,d⟩:=h.lsr i hi
  have e1:(W.newV n seats quota).ls i=W.ls i:=rfl
  rw[e1,vo _ (on_of _ b),vo _ (on_of _ c)];exact⟨a,b,c,d⟩
 ·have hw':W.alarm i k=some w:=hw
  have e:i≠n:=fun e=>by subst e;rw[h0.2.2] at hw';cases hw'
  rw[vo i e];exact h.alarm i k w hw'
theorem Rel.newV (h:Rel C W φ) {n:Nat} (hn:n<6) (hoff:(W.vm n).on=false) {seats quota:Int} (hs:1≤seats∧seats≤3) (hq:1≤quota∧quota≤32) {l:List Nat} {u:Nat→Bool} (ht:takeN C.N 5 C.used=some (l,u)) :
  Rel { C with used:=u,own:=keepL C.own n l,dat:=makeD C.dat C.form l,vm:=upd C.vm n (mkV seats quota),tf:=upd C.tf n C.form,fr:=upd C.fr n l,late:=upd C.late n C.now,ev:=upd C.ev n [] } (W.newV n seats quota) φ:=by
 obtain⟨hl5,hnd,hfree,hu,hcnt⟩:=wO ht
 have hk0:∀ f∈l,(C.own f).kind=0:=fun f hf=>by
  have h1:=hfree f hf
  have:=h.used f h1.1
  rw[h1.2] at this
  have h2:=of_decide_eq_false this.symm
  exact Classical.byContradiction fun h3=>h2 h3
 have hown:∀ x,keepL C.own n l x=if x∈l then ⟨2,n,0,0⟩ else C.own x:=fun x=>zhQ hk0 hnd
 have hN:=h.N
 have hmem:∀ j,j<5→l.getD j 0∈l:=fun j hj=>zgY (by omega)
 have h0:=h.wk.off n hoff
 have ht0:=h.off n hoff
 have vo:∀ i,i≠n→(W.newV n seats quota).vm i=W.vm i:=fun i e=>zk e
 have vn:(W.newV n seats quota).vm n=mkV seats quota:=zi
 have hr:l.getD 0 0∈l:=hmem 0 (by decide)
 have hinj:∀ j,j<5→j≠0→l.getD j 0≠l.getD 0 0:=fun j hj hj0 e=>by
  rw[List.getD_eq_getElem?_getD,List.getD_eq_getElem?_getD,List.getElem?_eq_getElem (by omega),List.getElem?_eq_getElem (by omega)] at e
  exact hj0 ((List.getElem_inj hnd).1 e)
 have hclr:∀ x,x∈l→clrD C.dat l x=noughts:=fun x hx=>by rw[zet,if_pos hx]
 have hnb:noughts.length=256∧Byt noughts:=⟨qz,fun x hx=>xF hx⟩
 have hdn:∀ x,x∉l→makeD C.dat C.form l x=C.dat x:=fun x hx=>by
  unfold makeD
  rw[fa (fun e=>hx (by rw[e];exact hr)),zet,if_neg hx]
 have hlen:∀ f,f<C.N→(makeD C.dat C.form l f).length=256∧Byt (makeD C.dat C.form l f):=fun f hf=>by
  by_cases e:f=l.getD 0 0
  ·unfold makeD
   rw[e]
   exact zfa (by rw[hclr _ hr];exact hnb) (by decide)
  ·unfold makeD
   rw[fa e,zet]
   split
   ·exact hnb
   ·exact h.len f hf
 have hnl:∀ f,(C.own f).kind≠0→f∉l:=fun f hf hm=>hf (hk0 f hm)
 have fr_of:∀ m j,(W.vm m).on=true→j<5→(C.fr m).getD j 0∉l:=fun m j hm hj=>hnl _ (by rw[(h.frN hm hj).2];exact show (2:Int)≠0 by decide)
 have on_of:∀ i,(W.vm i).on=true→i≠n:=fun i hi e=>by subst e;rw[hoff] at hi;cases hi
 have ldn:∀ x i,x∉l→ld (makeD C.dat C.form l) x i=ld C.dat x i:=fun x i hx=>by unfold ld;rw[hdn x hx]
 have hroot:∀ m j,((W.newV n seats quota).vm m).on=true→j<4→unp C.form (ld (makeD C.dat C.form l) ((upd C.fr n l m).getD 0 0) j)=some ((upd C.fr n l m).getD (j+1) 0,true):=fun m j hm hj=>by
  by_cases e:m=n
  ·subst e
   rw[zi]
   have e1:ld (makeD C.dat C.form l) (l.getD 0 0) j=pk C.form (l.getD (j+1) 0) true:=zjq (by rw[hclr _ hr];exact hnb) (fun f hf=>by have:=(hfree f hf).1;omega) (by decide) hj
   rw[e1,zkZ (by have:=(hfree _ (hmem (j+1) (by omega))).1;omega)]
  ·rw[vo m e] at hm
   rw[zk e,ldn _ _ (fr_of m 0 hm (by decide))]
   exact h.root m j hm hj
 have hwhere:∀ m p,(W.newV n seats quota).where_ m p=W.where_ m p:=fun m p=>rfl
 have hwn:∀ p,W.where_ n p=none:=fun p=>by
  unfold Wd.where_
  rw[h0.2.1]
  cases hf:leaseAt W.ls n p with
  | none=>rfl
  | some j=>
   obtain⟨_,h1,h2,_⟩:=yb hf
   have:=(h.wk.lsr j h1).2.2.1
   rw[h2,hoff] at this;cases this
 have hleaf:∀ m p,((W.newV n seats quota).vm m).on=true→p<32→unp C.form (ld (makeD C.dat C.form l) ((upd C.fr n l m).getD (p/8+1) 0) (p%8))=(W.where_ m p).map fun q=>(φ q.1 q.2.1,q.2.2):=fun m p hm hp=>by
  by_cases e:m=n
  ·subst e
   rw[zi,hwn]
   have e1:makeD C.dat C.form l (l.getD (p/8+1) 0)=noughts:=by
    unfold makeD
    rw[fa (hinj _ (by omega) (by omega)),hclr _ (hmem _ (by omega))]
   rw[zky e1,zcc];rfl
  ·rw[vo m e] at hm
   rw[zk e,ldn _ _ (fr_of m _ hm (by omega))]
   exact h.leaf m p hm hp
 exact { h with
  wk:=zoF h.wk hn hoff hs hq
  vm:=by show upd C.vm n _=upd W.vm n _;rw[h.vm]
  ev:=by show upd C.ev n _=upd W.ev n _;rw[h.ev]
  time:=fun i hi=>by
   show 0≤upd C.late n C.now i∧upd C.late n C.now i≤C.now∧upd W.time n 0 i=C.now-upd C.late n C.now i
   have hnow:=h.now
   by_cases e:i=n
   ·subst e;rw[zi,zi];omega
   ·rw[vo i e] at hi
    rw[zk e,zk e];exact h.time i hi
  alm:=fun i k=>by
   show C.alm i k=(W.alarm i k).map fun w=>min (w+upd C.late n C.now i) most64
   by_cases e:i=n
   ·subst e
    rw[h.alm i k,h0.2.2];rfl
   ·rw[zk e];exact h.alm i k
  free:=by
   show W.free-5=(count (fun f=>! u f) C.N:Int)
   have:=h.free
   omega
  used:=fun f hf=>by
   show u f=decide ((keepL C.own n l f).kind≠0)
   rw[hu,hown]
   by_cases e:f∈l
   ·rw[if_pos e];simp[e]
   ·rw[if_neg e,h.used f hf];simp[e]
  own0:=fun f hf hk=>by
   have hk':(keepL C.own n l f).kind=0:=hk
   show keepL C.own n l f=ow0
   rw[hown] at hk' ⊢
   by_cases e:f∈l
   ·rw[if_pos e] at hk';cases hk'
   ·rw[if_neg e] at hk' ⊢;exact h.own0 f hf hk'
  kind:=fun f hf=>by
   show 0≤(keepL C.own n l f).kind∧(keepL C.own n l f).kind≤3
   rw[hown]
   split
   ·exact⟨show (0:Int)≤2 by decide,show (2:Int)≤3 by decide⟩
   ·exact h.kind f hf
  len:=hlen
  off:=fun i hi=>by
   have e:i≠n:=fun e=>by subst e;rw[vn] at hi;cases hi
   rw[vo i e] at hi
   show upd C.fr n l i=[]∧upd C.tf n C.form i=0∧upd C.late n C.now i=0
   rw[zk e,zk e,zk e];exact h.off i hi
  tab:=fun i hi=>by
   show upd C.tf n C.form i=C.form∧(upd C.fr n l i).length=5∧(upd C.fr n l i).Nodup
   by_cases e:i=n
   ·subst e;rw[zi,zi];exact⟨rfl,hl5,hnd⟩
   ·rw[vo i e] at hi
    rw[zk e,zk e];exact h.tab i hi
  tabf:=fun m f hm=>by
   have hm':f∈upd C.fr n l m:=hm
   show f<C.N∧keepL C.own n l f=⟨2,m,0,0⟩
   rw[hown]
   by_cases e:m=n
   ·subst e
    rw[zi] at hm'
    rw[if_pos hm'];exact⟨(hfree f hm').1,rfl⟩
   ·rw[zk e] at hm'
    have:=h.tabf m f hm'
    rw[if_neg (hnl f (by rw[this.2];exact show (2:Int)≠0 by decide))];exact this
  tabk:=fun f hf h2=>by
   have h2':(keepL C.own n l f).kind=2:=h2
   rw[hown] at h2'
   by_cases e:f∈l
   ·exact⟨n,by show f∈upd C.fr n l n;rw[zi];exact e⟩
   ·rw[if_neg e] at h2'
    obtain⟨m,hm⟩:=h.tabk f hf h2'
    have hmn:m≠n:=fun e2=>by subst e2;rw[ht0.1] at hm;cases hm
    exact⟨m,by show f∈upd C.fr n l m;rw[zk hmn];exact hm⟩
  root:=hroot
  leaf:=hleaf
  pg:=fun m p l2 hl2=>by
   have h3:=h.pg m p l2 hl2
   have hnm:φ m p∉l:=hnl _ (by rw[h3.2.1];exact show (3:Int)≠0 by decide)
   refine⟨h3.1,?_,?_⟩
   ·show keepL C.own n l (φ m p)=_
    rw[hown,if_neg hnm];exact h3.2.1
   ·show makeD C.dat C.form l (φ m p)=l2
    rw[hdn _ hnm];exact h3.2.2
  pgk:=fun f hf h3=>by
   have h3':(keepL C.own n l f).kind=3:=h3
   rw[hown] at h3'
   by_cases e:f∈l
   ·rw[if_pos e] at h3';cases h3'
   ·rw[if_neg e] at h3';exact h.pgk f hf h3'
  hyp:=⟨h.hyp.1,fun f=>by
   show _↔f<C.N∧(keepL C.own n l f).kind=1
   rw[hown]
   by_cases e:f∈l
   ·rw[if_pos e,h.hyp.2 f,hk0 f e]
    exact⟨fun h=>(by cases h.2),fun h=>(by cases h.2)⟩
   ·rw[if_neg e];exact h.hyp.2 f⟩
  cache:=fun r hr'=>by
   obtain⟨m,h1,h2,h3⟩:=h.cache r hr'
   have hmn:=on_of m h2
   refine⟨m,h1,by rw[vo m hmn];exact h2,?_⟩
   show walkC (makeD C.dat C.form l) C.N (upd C.tf n C.form m) (upd C.fr n l m) r.page=_
   rw[zk hmn,zk hmn,←h3]
   by_cases hp:r.page<0∨31<r.page
   ·rw[zel hp]
    unfold walkC Go.Cr.leafC
    rw[if_pos hp]
   ·obtain⟨q,hq⟩:∃ q:Nat,r.page=q:=⟨r.page.toNat,by omega⟩
    have hf:=(h.tab m h2).1
    have hr2:=fun j hj=>hroot m j (by rw[vo m hmn];exact h2) hj
    simp only[zk hmn] at hr2
    have hl2:=hleaf m q (by rw[vo m hmn];exact h2) (by omega)
    rw[zk hmn] at hl2
    rw[hq,zkY (h.tab m h2).2.1 (fun j hj=>(h.frN h2 hj).1) (fun j hj=>by rw[hf];exact hr2 j hj) (by omega),hf,hl2,h.walk h2 (by omega)] }
def partB (img:List Int) (p:Nat):List Int:=(img.drop (256*p)).take 256
theorem zgd (img:List Int) (p:Nat):spB noughts 0 (partB img p)=pageB img p:=by
 unfold spB pageB fit256 partB
 rw[List.take_zero,List.nil_append,Nat.zero_add]
 congr 1
 unfold noughts
 rw[List.drop_replicate]
 congr 1
 rw[List.length_take];omega
theorem zko {img:List Int} {p:Nat} (h:img.length≤256*p):pageB img p=noughts:=by
 unfold pageB fit256
 rw[List.drop_of_length_le h];rfl
theorem zna {img:List Int} (hb:Byt img) (p:Nat):(pageB img p).length=256∧Byt (pageB img p):=by
 refine⟨zgm _,fun x hx=>?_⟩
 unfold pageB fit256 at hx
 rcases List.mem_append.1 hx with h | h
 ·exact hb x (List.mem_of_mem_drop (List.mem_of_mem_take h))
 ·rw[List.eq_of_mem_replicate h];decide
theorem zlm {n p:Nat} {o o':Option (List Int)}:(W.setO n p o).setO n p o'=W.setO n p o':=by
 have e:upd (W.setO n p o).own n (upd ((W.setO n p o).own n) p o')=upd W.own n (upd (W.own n) p o'):=by
  show upd (upd W.own n (upd (W.own n) p o)) n (upd ((upd W.own n (upd (W.own n) p o)) n) p o')=_
  rw[gG,zi,gG]
 exact congrArg (fun x=>({ W with own:=x }:Wd)) e
theorem Rel.page (h:Rel C W φ) {n p f:Nat} {img:List Int} (hb:Byt img) (hon:(W.vm n).on=true) (hp:p<32) (hno:W.where_ n p=none) (hq:(W.pages n:Int)<(W.vm n).quota) (hf:firstOff C.used C.N=some f) :
  Rel { C with dat:=(if 256*p<img.length then wr (setC (upd C.dat f noughts) C.N (C.tf n) (C.fr n) p (pk (C.tf n) f true)) f 0 (partB img p) else setC (upd C.dat f noughts) C.N (C.tf n) (C.fr n) p (pk (C.tf n) f true)),cache:=dropC C.cache n p,own:=donC C.own f n p,used:=upd C.used f true } { W.setO n p (some (pageB img p)) with free:=W.free-1 } (upφ φ n p f):=by
 have hg:=h.get (l:=noughts) ⟨qz,fun x hx=>xF hx⟩ hon hp hno hq hf true rfl
 by_cases hl:256*p<img.length
 ·rw[if_pos hl]
  have ho:({ W.setO n p (some noughts) with free:=W.free-1 }:Wd).own n p=some noughts:=by
   show (W.setO n p (some noughts)).own n p=_
   rw[setO_own,if_pos ⟨rfl,rfl⟩]
  have h2:=hg.setO (l':=spB noughts 0 (partB img p)) ho (by rw[zgd];exact zna hb p)
  have hpg:=hg.pg n p noughts ho
  have eφ:upφ φ n p f n p=f:=by unfold upφ;rw[if_pos ⟨rfl,rfl⟩]
  rw[eφ] at h2 hpg
  have ed:(setC (upd C.dat f noughts) C.N (C.tf n) (C.fr n) p (pk (C.tf n) f true)) f=noughts:=hpg.2.2
  have ew:wr (setC (upd C.dat f noughts) C.N (C.tf n) (C.fr n) p (pk (C.tf n) f true)) f 0 (partB img p)=upd (setC (upd C.dat f noughts) C.N (C.tf n) (C.fr n) p (pk (C.tf n) f true)) f (spB noughts 0 (partB img p)):=by unfold wr;rw[ed]
  rw[ew]
  have eo:({ W.setO n p (some noughts) with free:=W.free-1 }:Wd).setO n p (some (spB noughts 0 (partB img p))) = { W.setO n p (some (pageB img p)) with free:=W.free-1 }:=by
   have:=zlm (W:=W) (n:=n) (p:=p) (o:=some noughts) (o':=some (spB noughts 0 (partB img p)))
   rw[zgd] at this ⊢
   exact congrArg (fun w=>({ w with free:=W.free-1 }:Wd)) this
  rw[eo] at h2
  exact h2
 ·rw[if_neg hl,zko (by omega)]
  exact hg
def Wd.newP (W:Wd) (n:Nat) (seats quota:Int) (img:List Int) (i:Nat):Wd:=
 { W.newV n seats quota with free:=W.free-5-i,own:=upd W.own n fun p=>if p<i then some (pageB img p) else W.own n p }
theorem zlL {n:Nat} {seats quota:Int} {img:List Int}:W.newP n seats quota img 0=W.newV n seats quota:=by
 have e:upd W.own n (fun p=>if p<0 then some (pageB img p) else W.own n p)=W.own:=by
  have:(fun p=>if p<0 then some (pageB img p) else W.own n p)=W.own n:=by funext p;rw[if_neg (by omega)]
  rw[this,xY]
 unfold Wd.newP
 rw[e]
 show ({ W.newV n seats quota with free:=W.free-5-((0:Nat):Int),own:=W.own }:Wd)=_
 have:W.free-5-((0:Nat):Int)=W.free-5:=by omega
 rw[this];rfl
theorem zlM {n:Nat} {seats quota:Int} {img:List Int} {i:Nat}:({ (W.newP n seats quota img i).setO n i (some (pageB img i)) with free:=(W.newP n seats quota img i).free-1 }:Wd)=W.newP n seats quota img (i+1):=by
 have e:upd (W.newP n seats quota img i).own n (upd ((W.newP n seats quota img i).own n) i (some (pageB img i)))=(W.newP n seats quota img (i+1)).own:=by
  show upd (upd W.own n _) n (upd ((upd W.own n _) n) i (some (pageB img i)))=upd W.own n _
  rw[gG,zi]
  congr 1
  funext p
  unfold upd
  by_cases h1:p=i
  ·rw[if_pos h1,if_pos (by omega),h1]
  ·rw[if_neg h1]
   show (if p<i then some (pageB img p) else W.own n p)=_
   by_cases h2:p<i
   ·rw[if_pos h2,if_pos (by omega)]
   ·rw[if_neg h2,if_neg (by omega)]
 have ef:(W.newP n seats quota img i).free-1=(W.newP n seats quota img (i+1)).free:=by
  show W.free-5-(i:Int)-1=W.free-5-((i+1:Nat):Int)
  omega
 have key:∀ (a b:Int) (o o':Nat→Nat→Option (List Int)),a=b→o=o'→({ W.newV n seats quota with free:=a,own:=o }:Wd) = { W.newV n seats quota with free:=b,own:=o' }:=by
  rintro a b o o' rfl rfl;rfl
 exact key _ _ _ _ ef e
theorem zks (h:WOk W) {n:Nat} (hoff:(W.vm n).on=false) {seats quota:Int} {img:List Int} {i p:Nat} (hp:i≤p):(W.newP n seats quota img i).where_ n p=none:=by
 have h0:=h.off n hoff
 apply zbo
 ·show upd W.own n _ n p=none
  rw[zi,if_neg (by omega)];exact h0.2.1 p
 ·show leaseAt W.ls n p=none
  cases hf:leaseAt W.ls n p with
  | none=>rfl
  | some j=>
   obtain⟨_,h1,h2,_⟩:=yb hf
   have:=(h.lsr j h1).2.2.1
   rw[h2,hoff] at this;cases this
theorem zkt (h:WOk W) {n:Nat} (hoff:(W.vm n).on=false) {seats quota:Int} {img:List Int} {i:Nat}:(W.newP n seats quota img i).pages n≤i:=by
 have h0:=h.off n hoff
 have key:∀ m,count (fun p=>((W.newP n seats quota img i).own n p).isSome) m≤min i m:=by
  intro m
  induction m with
  | zero=>simp[count]
  | succ m ih=>
   rw[qW]
   by_cases e:m<i
   ·have:(((W.newP n seats quota img i).own n m).isSome).toNat≤1:=Bool.toNat_le _
    omega
   ·have:((W.newP n seats quota img i).own n m).isSome=false:=by
     show (upd W.own n _ n m).isSome=false
     rw[zi,if_neg e,h0.2.1];rfl
    rw[this]
    have:Bool.toNat false=0:=rfl
    omega
 have:=key 32
 exact Nat.le_trans this (Nat.min_le_left _ _)
end
end
end Go.Cr
namespace Go.Proofs.YtabdpmnhjlmnlaaGreatDoor
section
open Go Go.Pt Go.Cr Go.Hp
abbrev pg (b:Nat):Sl:=⟨some (b,0),256,256⟩
structure Pages (S S':Mem) (bs:List Nat):Prop where
 nodup:bs.Nodup
 at_:∀ b∈bs,S b=none∧S' b=some (bw 5 (bL noughts))
 keep:Keeps S S' []
def nilS:Value:=.slice none 0 0
theorem znU:zrep 256 [Value.int .u8 0]=bL noughts:=by
 rw[zgu];rfl
section
variable {S:Mem}
theorem zkO {Q:List Value→Mem→Prop} (hQ:∀ b0 b1 b2 b3 S',Pages S S' [b0,b1,b2,b3]→Q [eL (pg b0),eL (pg b1),eL (pg b2),eL (pg b3)] S'):zbI S Q:=by
 apply zgz
 unfold fH
 simp only[jn]
 refine zM (fun (z:Int×List Value) S'=>∃ bs:List Nat,z=((bs.length:Int),bs.map (fun b=>eL (pg b))++List.replicate (4-bs.length) nilS)∧bs.length≤4∧Pages S S' bs) (fun z=>(4-z.1).toNat) ?_ ⟨[],rfl,by simp,by simp,by simp,Keeps.refl⟩
 rintro X z S' ⟨bs,rfl,hl,hP⟩ ih
 dsimp only at ih ⊢
 have hlen:(bs.map (fun b=>eL (pg b))++List.replicate (4-bs.length) nilS).length=4:=by simp;omega
 refine⟨hlen,?_⟩
 by_cases hlt:(bs.length:Int)<4
 ·rw[if_pos hlt]
  intro b hb
  refine⟨by omega,hlt,?_⟩
  rw[w64 (by omega) (by omega),znU]
  have hbS:=zgZ hP.keep hb
  have hnb:b∉bs:=fun h=>by have:=(hP.at_ b h).2;rw[hb] at this;cases this
  refine ih _ _ ⟨bs++[b],?_,by simp;omega,⟨?_,?_,hP.keep.new hb⟩⟩ (by simp only;omega)
  ·have e:spl (bs.map (fun b=>eL (pg b))++List.replicate (4-bs.length) nilS) (0+(bs.length:Int).toNat*1) [.slice (some ⟨b,0,none⟩) 256 256]=(bs++[b]).map (fun b=>eL (pg b))++List.replicate (4-(bs++[b]).length) nilS:=by
    rw[show 0+(bs.length:Int).toNat*1=bs.length by omega,xD _ _ _ (by rw[hlen];omega)]
    rw[List.take_left' (by simp),←List.drop_drop,List.drop_left' (by simp),show 4-bs.length=(4-(bs++[b]).length)+1 by simp;omega,List.replicate_succ]
    simp
    rfl
   rw[e];simp
  ·rw[List.nodup_append]
   exact⟨hP.nodup,by simp,fun x hx y hy e=>by simp at hy;subst hy;subst e;exact hnb hx⟩
  ·intro x hx
   rcases List.mem_append.1 hx with hx | hx
   ·have hxb:x≠b:=fun e=>hnb (e ▸ hx)
    exact⟨(hP.at_ x hx).1,by rw[qe hxb];exact (hP.at_ x hx).2⟩
   ·rw[List.mem_singleton] at hx;subst hx;exact⟨hbS,zy⟩
 ·rw[if_neg hlt]
  have h4:bs.length=4:=by omega
  match bs,h4 with
  | [b0,b1,b2,b3],_=>exact⟨rfl,rfl,hQ b0 b1 b2 b3 S' hP⟩
structure Made (S S':Mem) (n:Nat) (ss:Sl) (bs:List Nat):Prop where
 pages:Pages S S' bs
 row:Row S' 26 ss ((List.replicate n seat0).flatMap Seat.L)
 fresh:∀ x o,ss.p=some (x,o)→S x=none∧x∉bs
def mk12 (ss:Sl) (quota:Int) (b0 b1 b2 b3:Nat):List Value:=[.bool true,eL ss,.int .i64 0,.slice none 0 0,.int .i64 quota,.int .u64 0,.slice none 0 0,eL (pg b0),eL (pg b1),eL (pg b2),eL (pg b3),.int .u32 0]
theorem zou:∀ n,∀ s∈List.replicate n seat0,s.Ok:=fun n s hs=>by rw[List.eq_of_mem_replicate hs];exact zjn
theorem zqp (n:Nat):((List.replicate n seat0).flatMap Seat.L).length=n*26:=by rw[fL (zou n),List.length_replicate]
theorem zlR {n:Nat} {quota:Int} (h1:1≤n) (h2:n≤3) (h3:1≤quota) (h4:quota≤32) {Q:List Value→Int→Mem→Prop}
  (hQ:∀ ss b0 b1 b2 b3 S',Made S S' n ss [b0,b1,b2,b3]→Q (mk12 ss quota b0 b1 b2 b3) 0 S'):zaZ S n quota Q:=by
 apply zdI
 unfold jQ
 simp only[jn]
 rw[if_neg (by omega),if_neg (by omega),if_neg (by omega),if_neg (by omega)]
 refine⟨rfl,zkO fun b0 b1 b2 b3 S1 hP=>⟨rfl,?_⟩⟩
 refine zM (fun (z:Int×List Value) S'=>∃ (k:Nat) (ss:Sl),z=((k:Int),mk12 ss quota b0 b1 b2 b3)∧k≤n∧Made S S' k ss [b0,b1,b2,b3]) (fun z=>(n-z.1).toNat) ?_
  ⟨0,⟨none,0,0⟩,rfl,by omega,hP,Row.nil,fun x o h=>by cases h⟩
 rintro X z S2 ⟨k,ss,rfl,hk,hM⟩ ih
 dsimp only at ih ⊢
 refine⟨rfl,?_⟩
 by_cases hlt:(k:Int)<(n:Int)
 ·rw[if_pos hlt,wc (show nthL (mk12 ss quota b0 b1 b2 b3) 1=some (eL ss) from rfl)]
  apply zjR
  unfold zdy
  refine⟨rfl,?_⟩
  have hsn:ss.n=k:=by
   have:=hM.row.len
   rw[zqp] at this;omega
  refine jR hM.row rfl (by decide) (by kernel_rfl) (by omega) fun s' S3 b q e1 e2 e3 e4 e5=>?_
  have hb:S b=none∧b∉[b0,b1,b2,b3]:=by
   rcases e3 with e3 | e3
   ·exact hM.fresh b 0 e3
   ·refine⟨zgZ hM.pages.keep e3,fun hm=>?_⟩
    have:=(hM.pages.at_ b hm).2
    rw[e3] at this;cases this
  rw[w64 (by omega) (by omega)]
  refine ih _ _ ⟨k+1,s',?_,by omega,⟨⟨hM.pages.nodup,fun x hx=>⟨(hM.pages.at_ x hx).1,?_⟩,?_⟩,?_,?_⟩⟩ (by simp only;omega)
  ·have:spl (mk12 ss quota b0 b1 b2 b3) 1 [eL s']=mk12 s' quota b0 b1 b2 b3:=rfl
   rw[this];simp
  ·rw[e4,qe (fun e=>by subst e;exact hb.2 hx)];exact (hM.pages.at_ x hx).2
  ·rw[e4];exact hM.pages.keep.fresh hb.1
  ·have e:(List.replicate (k+1) seat0).flatMap Seat.L=(List.replicate k seat0).flatMap Seat.L++seat0.L:=by
    rw[List.replicate_succ',List.flatMap_append];simp
   rw[e];exact e5
  ·intro x o hx;rw[e2] at hx;cases hx;exact hb
 ·rw[if_neg hlt]
  have:k=n:=by omega
  subst this
  exact⟨rfl,rfl,hQ ss b0 b1 b2 b3 S2 hM⟩
theorem znj {seats quota:Int} (h:seats<1∨3<seats∨quota<1∨32<quota) {Q:List Value→Int→Mem→Prop} (hQ:∀ t,t.all (·.oneCell')=true→Q t 1 S):zaZ S seats quota Q:=by
 apply zdI
 unfold jQ
 simp only[jn]
 by_cases h1:seats<1
 ·rw[if_pos h1];exact hQ _ rfl
 rw[if_neg h1]
 by_cases h2:3<seats
 ·rw[if_pos h2];exact hQ _ rfl
 rw[if_neg h2]
 by_cases h3:quota<1
 ·rw[if_pos h3];exact hQ _ rfl
 rw[if_neg h3,if_pos (by omega)]
 exact hQ _ rfl
variable {ρ:Rho} {m N:Nat} {d:Nat→List Int}
theorem zkv (h:StoreD S ρ m N d) (hg:∀ b r,ρ b=some r→S b≠none) {form:Int} (hform:form=1∨form=2) {l:List Nat} {t:Sl} {r c:Nat} (hr:r≠2) (hrow:Rw S ρ r 1 t (nL l)) (hc:t.p=some (c,0)) (h5:5≤l.length) (hl:∀ f∈l,f<N) {Q:List Value→Int→Mem→Prop}
  (hQ:∀ t' S',Mv S ρ S' ρ (· = 2)→StoreD S' ρ m N (makeD d form (l.take 5))→Row S' 1 t' (nL (l.take 5))→(∀ b o,t'.p=some (b,o)→S b=none∧ρ b=none)→Q (tbL form t') 0 S'):zaT S (some (m,0)) form ⟨some (c,0),5,t.c⟩ Q:=by
 have hN:=h.lim
 have htn:=hrow.n (by decide) (gy l)
 have hcap:=hrow.row.cap
 have hget:∀ {S':Mem},Rw S' ρ r 1 t (nL l)→∀ i (hi:i<l.length) {x:Nat},x=i→S'.cell c x=some (.int .i64 (l[i]:Nat)):=fun hr i hi x hx=>by
  rw[hr.cell hc i (by rw[gy];omega) hx];exact zjw hi
 apply zho
 unfold zaI
 refine zI (fun J=>J [.int .i64 0,.slice none 0 0] S) ?_ fun J hJ=>?_
 rotate_left
 ·rw[if_neg (by simp)]
  by_cases h1:form=1
  ·rw[if_neg (fun h=>h h1)];exact hJ
  ·rw[if_pos h1,if_neg (by omega)];exact hJ
 refine⟨rfl,?_⟩
 simp only[jn]
 refine zM (fun (z:Int×List Value) S'=>∃ (i:Nat) (v:List Value),z=((i:Int),v)∧v.length=2∧i≤5∧Mv S ρ S' ρ (· = 2)∧StoreD S' ρ m N (clrD d (l.take i))∧Rw S' ρ r 1 t (nL l)) (fun z=>5-z.1.toNat) ?_ ⟨0,_,rfl,rfl,by omega,Mv.refl hg,h,hrow⟩
 rintro X z S1 ⟨i,v,rfl,hv,hi,m1,hs1,hr1⟩ ih
 dsimp only at ih ⊢
 refine⟨hv,?_⟩
 by_cases hlt:(i:Int)<((5:Nat):Int)
 ·rw[if_pos hlt,jH]
  refine⟨by omega,hlt,?_⟩
  have hil:i<l.length:=by omega
  rw[Int.toNat_natCast,zB (hget hr1 i hil (by omega))]
  refine clearD hs1 m1.rg (hl _ (List.getElem_mem hil)) fun S2 m2 hs2=>?_
  rw[if_neg (by decide),w64 (by omega) (by omega)]
  refine ih _ S2 ⟨i+1,v,rfl,hv,by omega,m1.trans m2,?_,hr1.keep m2 hr⟩ (by dsimp only;omega)
  have e:clrD d (l.take (i+1))=upd (clrD d (l.take i)) l[i] noughts:=by
   unfold clrD
   rw[List.take_succ_eq_append_getElem hil,List.foldl_append];rfl
  rw[e];exact hs2
 ·rw[if_neg hlt]
  have h5i:i=5:=by omega
  subst h5i
  refine⟨hv,by decide,by decide,by show ((5:Nat):Int)≤(t.c:Int);omega,?_⟩
  have es:slc 1 ⟨some (c,0),5,t.c⟩ 1 ((5:Nat):Int)=⟨some (c,1),4,t.c-1⟩:=by
   unfold slc
   have e1:(1:Int).toNat=1:=rfl
   simp only[e1]
   rw[if_neg (by omega)];rfl
  show lp _ 0 S1
  refine zM (fun (z:Int) S'=>∃ i:Nat,z=(i:Int)∧i≤4∧Mv S ρ S' ρ (· = 2)∧StoreD S' ρ m N (rootD (clrD d (l.take 5)) form ((l.take 5).getD 0 0) (l.take 5) i)∧Rw S' ρ r 1 t (nL l)) (fun z=>4-z.toNat) ?_ ⟨0,rfl,by omega,m1,hs1,hr1⟩
  rintro Y z S2 ⟨j,rfl,hj,m2,hs2,hr2⟩ ih2
  rw[es]
  have e0:(l.take 5).getD 0 0=l[0]:=by rw[List.getD_eq_getElem?_getD,List.getElem?_take,if_pos (by decide),List.getElem?_eq_getElem (by omega)];rfl
  by_cases hlt2:(j:Int)<((4:Nat):Int)
  ·rw[if_pos hlt2,jH]
   have hjl:j+1<l.length:=by omega
   refine⟨by omega,hlt2,?_⟩
   rw[Int.toNat_natCast,zB (hget hr2 (j+1) hjl (by omega)),jH]
   refine⟨by decide,?_⟩
   rw[zB (hget hr2 0 (by omega) rfl)]
   have hf1:=hl _ (List.getElem_mem hjl)
   have hf0:=hl _ (List.getElem_mem (show 0<l.length by omega))
   refine zdc (by omega) ?_
   refine⟨hget hr2 0 (by omega) rfl,?_⟩
   refine saveD hs2 m2.rg (by omega) (zpj (by omega)).1 fun e S3 m3 hs3=>?_
   rw[if_pos hf0] at hs3
   rw[w64 (by omega) (by omega)]
   refine ih2 _ S3 ⟨j+1,rfl,by omega,m2.trans m3,?_,hr2.keep m3 hr⟩ (by omega)
   have e1:(l.take 5).getD (j+1) 0=l[j+1]:=by rw[List.getD_eq_getElem?_getD,List.getElem?_take,if_pos (by omega),List.getElem?_eq_getElem (by omega)];rfl
   rw[rootD,e1,e0]
   rw[e0] at hs3
   exact hs3
  ·rw[if_neg hlt2]
   have:j=4:=by omega
   subst this
   have hnl5:(nL (l.take 5)).length=5:=by rw[gy,List.length_take];omega
   refine⟨nL (l.take 5),.inr ⟨c,0,rfl,?_⟩,?_,?_⟩
   ·show S2.part c 0 (5*1)=_
    rw[hr2.part hc 0 (by rw[gy];omega) rfl]
    have e:nL l=nL (l.take 5)++nL (l.drop 5):=by unfold nL;rw[←List.map_append,List.take_append_drop]
    have e2:5*1=(nL (l.take 5)).length:=by rw[hnl5]
    rw[e,e2,kX (by omega),ze rfl]
   ·unfold nL;rw[List.all_map];exact List.all_eq_true.2 fun x _=>rfl
   ·refine zmC (m:=5) (by rw[hnl5]) rfl (by decide) fun t' S3 _ hrow3 hk3 hf3=>?_
    refine hQ t' S3 (m2.trans (Mv.keeps m2.rg hk3)) (hs2.keeps hk3) hrow3 fun b o hb=>?_
    have hb2:=hf3 b o hb
    refine⟨?_,?_⟩
    ·cases hs:S b with
     | none=>rfl
     | some k=>exact absurd hb2 (m2.al b (by rw[hs];simp))
    ·cases hq:ρ b with
     | none=>rfl
     | some q=>exact absurd hb2 (m2.rg b q hq)
end
end
end Go.Proofs.YtabdpmnhjlmnlaaGreatDoor
