/- Texts of this work,joined by program (pack.py): Cn,PsH,PsF,Ta,Ci,Su,Cb,Pn,PsG,Ow,Hv,Ry,Cj,Ct,Hw,Hx,PsL,Lz,Cl. -/
import Derived.Test.YtabdpmnhjlmnlaaGreatDoorQXD
import Derived.Test.YtabdpmnhjlmnlaaGreatDoorQXB
import Derived.Test.YtabdpmnhjlmnlaaGreatDoorQXC
set_option linter.unusedVariables false
section
namespace Go.Cr
open Go Go.Pt
theorem qb (g:Nat→Bool) (n:Nat):count g (n+1)=count g n+(g n).toNat:=by
 unfold count
 rw[List.range_succ,List.filter_append,List.length_append]
 congr 1
 cases h:g n <;> simp[h]
theorem yL {g g':Nat→Bool}:∀ {n:Nat},(∀ i,i<n→g i=g' i)→count g n=count g' n
 | 0,_=>rfl
 | n+1,h=>by rw[qb,qb,yL fun i hi=>h i (by omega),h n (by omega)]
theorem jI (g:Nat→Bool):∀ n,count g n≤n
 | 0=>by simp[count]
 | n+1=>by
  have:=jI g n
  rw[qb]
  cases g n <;> simp <;> omega
theorem vS {g g':Nat→Bool}:∀ {n:Nat},(∀ i,i<n→g i=true→g' i=true)→count g n≤count g' n
 | 0,_=>by simp[count]
 | n+1,h=>by
  rw[qb,qb]
  have:=vS (n:=n) fun i hi=>h i (by omega)
  have h2:=h n (by omega)
  cases hg:g n
  ·simp;omega
  ·rw[h2 hg];simp;omega
theorem xn {g:Nat→Bool}:∀ {n:Nat},(∀ i,i<n→g i=false)→count g n=0
 | 0,_=>rfl
 | n+1,h=>by rw[qb,xn fun i hi=>h i (by omega),h n (by omega)];rfl
theorem fp {g:Nat→Bool} {n i:Nat} (hi:i<n) (h:g i=true):0<count g n:=by
 induction n with
 | zero=>omega
 | succ n ih=>
  rw[qb]
  by_cases e:i=n
  ·subst e;rw[h];simp
  ·have:=ih (by omega);omega
theorem vR {g:Nat→Bool} {n:Nat} (h:count g n=0):∀ i,i<n→g i=false:=fun i hi=>by
 cases hg:g i
 ·rfl
 ·have:=fp hi hg;omega
theorem yx {g:Nat→Bool} {n f:Nat} (hf:f<n) (b:Bool):count (upd g f b) n+(g f).toNat=count g n+b.toNat:=by
 induction n with
 | zero=>omega
 | succ n ih=>
  rw[qb,qb]
  by_cases e:f=n
  ·subst e
   rw[zi,yL (g:=upd g f b) (g':=g) fun i hi=>ze (by omega)]
   omega
  ·have:=ih (by omega)
   rw[ze (f:=g) (i:=f) (j:=n) (Ne.symm e)]
   omega
theorem zK {u:Nat→Bool} {N f:Nat} (h:firstOff u N=some f):f<N∧u f=false∧∀ g,g<f→u g=true:=by
 unfold firstOff at h
 induction N with
 | zero=>simp at h
 | succ N ih=>
  rw[List.range_succ,List.find?_append] at h
  cases h1:(List.range N).find? (fun i=>! u i) with
  | some x=>
   rw[h1] at h
   simp only[Option.some_or,Option.some.injEq] at h
   subst h
   have:=ih h1
   exact⟨by omega,this.2⟩
  | none=>
   rw[h1] at h
   rw[Option.none_or] at h
   cases hu:u N with
   | true=>simp[hu] at h
   | false=>
    simp[hu] at h
    subst h
    refine⟨by omega,hu,fun g hg=>?_⟩
    have:=List.find?_eq_none.1 h1 g (List.mem_range.2 hg)
    simpa using this
theorem yJ {u:Nat→Bool} {N:Nat} (h:firstOff u N=none):∀ f,f<N→u f=true:=fun f hf=>by
 have:=List.find?_eq_none.1 h f (List.mem_range.2 hf)
 simpa using this
theorem vj {u:Nat→Bool} {N f:Nat} (hf:f<N) (h0:u f=false) (h1:∀ g,g<f→u g=true):firstOff u N=some f:=by
 cases h:firstOff u N with
 | none=>have:=yJ h f hf;rw[h0] at this;cases this
 | some g=>
  obtain⟨_,h3,h4⟩:=zK h
  rcases Nat.lt_trichotomy f g with e | e | e
  ·have:=h4 f e;rw[h0] at this;cases this
  ·rw[e]
  ·have:=h1 g e;rw[h3] at this;cases this
theorem vE {u u':Nat→Bool} {N:Nat} (h:∀ i,i<N→u i=u' i):firstOff u N=firstOff u' N:=by
 cases h1:firstOff u N with
 | some f=>
  obtain⟨a,b,c⟩:=zK h1
  exact (vj a (by rw[←h f a];exact b) fun g hg=>by rw[←h g (by omega)];exact c g hg).symm
 | none=>
  cases h2:firstOff u' N with
  | none=>rfl
  | some f=>
   obtain⟨a,b,c⟩:=zK h2
   have:=yJ h1 f a
   rw[h f a,b] at this;cases this
theorem qz {u:Nat→Bool} {N:Nat}:firstOff u N=none↔count (fun f=>! u f) N=0:=by
 constructor
 ·intro h
  exact xn fun i hi=>by rw[yJ h i hi];rfl
 ·intro h
  cases h1:firstOff u N with
  | none=>rfl
  | some f=>
   obtain⟨a,b,_⟩:=zK h1
   have:=vR h f a
   rw[b] at this;cases this
theorem qY {N:Nat}:∀ {k:Nat} {u:Nat→Bool} {l:List Nat} {u':Nat→Bool},takeN N k u=some (l,u') →
  l.length=k∧l.Nodup∧(∀ f∈l,f<N∧u f=false)∧(∀ f,u' f=(u f || decide (f∈l)))∧count (fun f=>! u' f) N+k=count (fun f=>! u f) N
 | 0,u,l,u',h=>by
  simp only[takeN,Option.some.injEq,Prod.mk.injEq] at h
  obtain⟨rfl,rfl⟩:=h
  simp
 | k+1,u,l,u',h=>by
  simp only[takeN] at h
  cases h1:firstOff u N with
  | none=>rw[h1] at h;cases h
  | some f=>
   rw[h1] at h
   dsimp only at h
   cases h2:takeN N k (upd u f true) with
   | none=>rw[h2] at h;cases h
   | some q=>
    obtain⟨l2,u2⟩:=q
    rw[h2] at h
    simp only[Option.some.injEq,Prod.mk.injEq] at h
    obtain⟨rfl,rfl⟩:=h
    obtain⟨a,b,_⟩:=zK h1
    obtain⟨c1,c2,c3,c4,c5⟩:=qY h2
    have hnf:f∉l2:=fun hm=>by
     have:=(c3 f hm).2
     rw[zi] at this;cases this
    refine⟨by rw[List.length_cons,c1],List.nodup_cons.2 ⟨hnf,c2⟩,fun g hg=>?_,fun g=>?_,?_⟩
    ·rcases List.mem_cons.1 hg with e | e
     ·rw[e];exact⟨a,b⟩
     ·have h3:=c3 g e
      rw[ze (fun e2=>hnf (by rw[←e2];exact e))] at h3
      exact h3
    ·rw[c4 g]
     by_cases e:g=f
     ·subst e;rw[zi];simp
     ·rw[ze e];simp[e]
    ·have e1:(fun g=>! upd u f true g)=upd (fun g=>! u g) f false:=by
      funext g;unfold upd;split <;> rfl
     have:=yx (g:=fun g=>! u g) a false
     rw[←e1] at this
     simp only[b,Bool.not_false,Bool.toNat_true,Bool.toNat_false] at this
     omega
theorem we {N:Nat}:∀ {k:Nat} {u:Nat→Bool},takeN N k u=none↔count (fun f=>! u f) N<k
 | 0,u=>by simp[takeN]
 | k+1,u=>by
  simp only[takeN]
  cases h1:firstOff u N with
  | none=>
   have:=qz.1 h1
   exact⟨fun _=>by omega,fun _=>rfl⟩
  | some f=>
   obtain⟨a,b,_⟩:=zK h1
   have e1:(fun g=>! upd u f true g)=upd (fun g=>! u g) f false:=by
    funext g;unfold upd;split <;> rfl
   have:=yx (g:=fun g=>! u g) a false
   rw[←e1] at this
   simp only[b,Bool.not_false,Bool.toNat_true,Bool.toNat_false] at this
   have ih:=we (N:=N) (k:=k) (u:=upd u f true)
   dsimp only
   cases h2:takeN N k (upd u f true) with
   | none=>
    have h3:=ih.1 h2
    exact⟨fun _=>by omega,fun _=>rfl⟩
   | some q=>
    obtain⟨l2,u2⟩:=q
    have h3:¬count (fun g=>! upd u f true g) N<k:=fun h=>by
     have:=ih.2 h
     rw[h2] at this;cases this
    exact⟨fun h=>(by cases h),fun h=>(by omega)⟩
end Go.Cr
end
section
namespace Go.Proofs.YtabdpmnhjlmnlaaGreatDoor
open Go Go.Pt
attribute [local irreducible] Code.wp Back bodyPost wpList FR WL WC WQ WA AW Tr Yc HC AllC
set_option maxRecDepth 20000
set_option maxHeartbeats 4000000
set_option linter.unusedVariables false
end Go.Proofs.YtabdpmnhjlmnlaaGreatDoor
end
section
namespace Go.Proofs.YtabdpmnhjlmnlaaGreatDoor
open Go Go.Pt
attribute [local irreducible] Code.wp Back bodyPost wpList FR WL WC WQ WA AW Tr Yc HC AllC
set_option maxRecDepth 20000
set_option maxHeartbeats 4000000
set_option linter.unusedVariables false
end Go.Proofs.YtabdpmnhjlmnlaaGreatDoor
end
section
namespace Go.Proofs.YtabdpmnhjlmnlaaGreatDoor
open Go Go.Pt Go.Cr
section
variable {S:Mem}
def enL (f:Int) (wr:Bool):List Value:=[.bool true,.int .i64 f,.bool wr]
def noEn:List Value:=[.bool false,.int .i64 0,.bool false]
end
end Go.Proofs.YtabdpmnhjlmnlaaGreatDoor
end
section
namespace Go.Cr
open Go Go.Pt
theorem ge {w:Int} (h:W64 w):num (bytes8 w)=w:=by
 obtain⟨h1,h2⟩:=h
 have e:bytes8 w=[w/1%256,w/256%256,w/65536%256,w/16777216%256,w/4294967296%256,w/1099511627776%256,w/281474976710656%256,w/72057594037927936%256]:=rfl
 rw[e]
 simp only[num]
 omega
theorem zbq {d:Nat→List Int} {f g i j:Nat} {w:Int} (hl:(d f).length=256) (hi:i<32) (hj:j<32) (hw:W64 w):ld (wr d f (8*i) (bytes8 w)) g j=if g=f∧j=i then w else ld d g j:=by
 have h8:=wu w
 unfold ld wr
 by_cases hg:g=f
 ·subst hg
  rw[zi]
  by_cases e:j=i
  ·subst e
   rw[if_pos ⟨rfl,rfl⟩]
   have:=fR (d:=d g) (off:=8*j) (l:=bytes8 w) (by omega)
   rw[h8] at this
   rw[this,ge hw]
  ·rw[if_neg (fun h=>e h.2),gQ (by omega) (by omega)]
 ·rw[ze hg,if_neg (fun h=>hg h.1)]
theorem zak {d:Nat→List Int} {f off:Nat} {l:List Int} (hl:off+l.length≤(d f).length) (g:Nat):(wr d f off l g).length=(d g).length:=by
 unfold wr
 by_cases hg:g=f
 ·subst hg;rw[zi,zaC hl]
 ·rw[ze hg]
theorem zal {d:Nat→List Int} {f off:Nat} {l:List Int} (hb:Byt l) {g:Nat} (h:Byt (d g)):Byt (wr d f off l g):=by
 unfold wr
 by_cases hg:g=f
 ·subst hg;rw[zi];exact zaE h hb
 ·rw[ze hg];exact h
theorem zbf {d:Nat→List Int} {f g off:Nat} {l:List Int} (h:g≠f):wr d f off l g=d g:=ze h
def lentN (ls:Nat→Ls) (n p:Nat):Nat:=count (fun i=>(ls i).on && (decide ((ls i).fr=n) && decide ((ls i).pg=p))) 16
structure WOk (W:Wd):Prop where
 off:∀ n,(W.vm n).on=false→W.vm n=bv0∧(∀ p,W.own n p=none)∧∀ k,W.alarm n k=none
 six:∀ n,6≤n→(W.vm n).on=false
 seats:∀ n,(W.vm n).on=true→1≤(W.vm n).seats.length∧(W.vm n).seats.length≤3
 ok:∀ n,∀ s∈(W.vm n).seats,s.Ok
 keys:∀ n,(W.vm n).keys.length≤64∧Byt (W.vm n).keys
 disk:∀ n j,(W.vm n).on=true→((W.vm n).disk j).length=256∧Byt ((W.vm n).disk j)
 quota:∀ n,0≤(W.vm n).quota∧(W.vm n).quota≤32
 bells:∀ n k,(W.vm n).bells k=true→(W.vm n).on=true∧(W.vm k).on=true∧(W.vm k).bells n=true∧k≠n
 pg:∀ n p l,W.own n p=some l→(W.vm n).on=true∧p<32∧l.length=256∧Byt l
 most:∀ n,(W.pages n:Int)≤(W.vm n).quota
 lsr:∀ i,(W.ls i).on=true→i<16∧(W.vm (W.ls i).fr).on=true∧(W.vm (W.ls i).to).on=true∧(W.ls i).fr≠(W.ls i).to∧(W.own (W.ls i).fr (W.ls i).pg).isSome=true∧-1≤(W.ls i).at_∧(W.ls i).at_≤31
 lso:∀ i,(W.ls i).on=false→W.ls i=ls0
 lsa:∀ i,(W.ls i).on=true→∀ p:Nat,(W.ls i).at_=p→W.own (W.ls i).to p=none
 lsu:∀ i j,(W.ls i).on=true→(W.ls j).on=true→(W.ls i).to=(W.ls j).to→0≤(W.ls i).at_→(W.ls i).at_=(W.ls j).at_→i=j
 alarm:∀ n k w,W.alarm n k=some w→k<(W.vm n).seats.length∧W64 w
def most64:Int:=18446744073709551615
structure Rel (C:Cst) (W:Wd) (φ:Nat→Nat→Nat):Prop where
 wk:WOk W
 vm:C.vm=W.vm
 ls:C.ls=W.ls
 ev:C.ev=W.ev
 N:C.N≤512
 form:C.form=1∨C.form=2
 now:0≤C.now∧C.now≤4611686018427387904
 time:∀ n,(W.vm n).on=true→0≤C.late n∧C.late n≤C.now∧W.time n=C.now-C.late n
 alm:∀ n k,C.alm n k=(W.alarm n k).map fun w=>min (w+C.late n) most64
 free:W.free=count (fun f=>! C.used f) C.N
 left:C.left = -1
 used:∀ f,f<C.N→C.used f=decide ((C.own f).kind≠0)
 own0:∀ f,f<C.N→(C.own f).kind=0→C.own f=ow0
 kind:∀ f,f<C.N→0≤(C.own f).kind∧(C.own f).kind≤3
 len:∀ f,f<C.N→(C.dat f).length=256∧Byt (C.dat f)
 off:∀ n,(W.vm n).on=false→C.fr n=[]∧C.tf n=0∧C.late n=0
 tab:∀ n,(W.vm n).on=true→C.tf n=C.form∧(C.fr n).length=5∧(C.fr n).Nodup
 tabf:∀ n f,f∈C.fr n→f<C.N∧C.own f=⟨2,n,0,0⟩
 tabk:∀ f,f<C.N→(C.own f).kind=2→∃ n,f∈C.fr n
 root:∀ n j,(W.vm n).on=true→j<4→unp C.form (ld C.dat ((C.fr n).getD 0 0) j)=some ((C.fr n).getD (j+1) 0,true)
 leaf:∀ n p,(W.vm n).on=true→p<32→unp C.form (ld C.dat ((C.fr n).getD (p/8+1) 0) (p%8))=(W.where_ n p).map fun q=>(φ q.1 q.2.1,q.2.2)
 pg:∀ n p l,W.own n p=some l→φ n p<C.N∧C.own (φ n p)=⟨3,n,p,lentN W.ls n p⟩∧C.dat (φ n p)=l
 pgk:∀ f,f<C.N→(C.own f).kind=3→∃ n p,(W.own n p).isSome=true∧φ n p=f
 hyp:C.region.Nodup∧∀ f,f∈C.region↔f<C.N∧(C.own f).kind=1
 cache:∀ r∈C.cache,∃ n:Nat,r.vm=n∧(W.vm n).on=true∧C.walk n r.page=some (r.f,r.w)
 csize:C.cache.length≤8
section
variable {C:Cst} {W:Wd} {φ:Nat→Nat→Nat}
theorem ku {l:List Nat} {i:Nat} (h:i<l.length):l.getD i 0∈l:=by
 rw[List.getD_eq_getElem?_getD,List.getElem?_eq_getElem h];exact List.getElem_mem h
theorem Rel.frN (h:Rel C W φ) {n j:Nat} (hn:(W.vm n).on=true) (hj:j<5):(C.fr n).getD j 0<C.N∧C.own ((C.fr n).getD j 0)=⟨2,n,0,0⟩:=
 h.tabf n _ (ku (by rw[(h.tab n hn).2.1];exact hj))
theorem Rel.cons (h:Rel C W φ) {n:Nat} (hn:(W.vm n).on=true):∃ a b c d e,C.fr n=[a,b,c,d,e]:=by
 have hl:=(h.tab n hn).2.1
 match hf:C.fr n,hl with
 | [a,b,c,d,e],_=>exact⟨a,b,c,d,e,rfl⟩
theorem Rel.leafC (h:Rel C W φ) {n:Nat} (hn:(W.vm n).on=true) {p:Nat} (hp:p<32):Go.Cr.leafC C.dat C.N (C.tf n) (C.fr n) p=some ((C.fr n).getD (p/8+1) 0,p%8):=by
 have h1:=(h.tab n hn).1
 have hr:=h.root n (p/8) hn (by omega)
 have h0:=h.frN hn (j:=0) (by decide)
 obtain⟨a,b,c,d,e,hf⟩:=h.cons hn
 rw[hf] at hr h0 ⊢
 unfold Go.Cr.leafC
 rw[if_neg (by omega)]
 simp only[List.getD_cons_zero] at h0 hr
 dsimp only
 rw[if_pos h0.1,h1]
 have e1:((p:Int)/8).toNat=p/8:=by omega
 have e2:((p:Int)%8).toNat=p%8:=by omega
 rw[e1,e2,hr];rfl
theorem Rel.walk (h:Rel C W φ) {n:Nat} (hn:(W.vm n).on=true) {p:Nat} (hp:p<32):C.walk n p=(W.where_ n p).map fun q=>(φ q.1 q.2.1,q.2.2):=by
 unfold Cst.walk walkC
 rw[h.leafC hn hp]
 dsimp only
 rw[if_pos (h.frN hn (by omega)).1,(h.tab n hn).1]
 exact h.leaf n p hn hp
theorem vW {C:Cst} {n:Nat} {page:Int} (hp:page<0∨31<page):C.walk n page=none:=by
 unfold Cst.walk walkC Go.Cr.leafC
 rw[if_pos hp]
theorem Rel.ld_keep (h:Rel C W φ) {f:Nat} (hf:(C.own f).kind≠2) {l:List Int} {n j i:Nat} (hn:(W.vm n).on=true) (hj:j<5):ld (upd C.dat f l) ((C.fr n).getD j 0) i=ld C.dat ((C.fr n).getD j 0) i:=by
 have:=(h.frN hn hj).2
 unfold ld
 rw[ze]
 intro e
 rw[e] at this
 rw[this] at hf
 exact hf rfl
theorem Rel.inj (h:Rel C W φ) {n p m q:Nat} {l l':List Int} (h1:W.own n p=some l) (h2:W.own m q=some l') (e:φ n p=φ m q):n=m∧p=q:=by
 have e1:=(h.pg n p l h1).2.1
 have e2:=(h.pg m q l' h2).2.1
 rw[e,e2] at e1
 simp only[Ow.mk.injEq,Int.natCast_inj] at e1
 exact⟨e1.2.1.symm,e1.2.2.1.symm⟩
theorem WOk.where_own (h:WOk W) {n p:Nat} {q:Nat×Nat×Bool} (hq:W.where_ n p=some q):∃ l,W.own q.1 q.2.1=some l:=by
 unfold Wd.where_ at hq
 split at hq
 ·rename_i hs
  cases hq
  exact Option.isSome_iff_exists.1 hs
 ·cases hf:leaseAt W.ls n p with
  | none=>rw[hf] at hq;cases hq
  | some i=>
   rw[hf] at hq
   simp only[Option.map_some,Option.some.injEq] at hq
   subst hq
   have:=List.find?_some hf
   simp only[Bool.and_eq_true,decide_eq_true_eq] at this
   exact Option.isSome_iff_exists.1 (h.lsr i this.1).2.2.2.2.1
end
end Go.Cr
end
section
namespace Go.Cr
open Go Go.Pt
theorem _root_.Go.Pt.Rw.claim {S S':Mem} {ρ:Rho} {R:Nat→Prop} {r size:Nat} {t:Sl} {l:List Value} (hg:∀ b r,ρ b=some r→S b≠none) (hk:Keeps S S' []) (hrow:Row S' size t l) (hf:∀ b o,t.p=some (b,o)→S b=none) :
  ∃ ρ',Mv S ρ S' ρ' R∧Rw S' ρ' r size t l:=by
 rcases hrow.lie with ⟨h1,_⟩ | ⟨b,k,h1,h2,_⟩
 ·exact⟨ρ,Mv.keeps hg hk,hrow,fun b o h=>by rw[h1] at h;cases h⟩
 ·refine⟨ρ.upd b r,Mv.claim hg hk (hf b 0 h1) (by rw[h2];simp),hrow,fun b' o h=>?_⟩
  rw[h1] at h;cases h;exact qn
structure StoreD (S:Mem) (ρ:Rho) (m N:Nat) (d:Nat→List Int):Prop where
 ex:∃ B,StoreAt S m B N (cF N d)∧ρ B=some 2
 rol:ρ m=some 1
 len:∀ f,f<N→(d f).length=256
 byt:∀ f,f<N→Byt (d f)
section
variable {S S':Mem} {ρ ρ':Rho} {R:Nat→Prop} {m N:Nat} {d:Nat→List Int}
theorem StoreD.keep (h:StoreD S ρ m N d) (mv:Mv S ρ S' ρ' R) (h1:¬R 1) (h2:¬R 2):StoreD S' ρ' m N d:=by
 obtain⟨B,hB,hr⟩:=h.ex
 have e1:S' m=S m:=mv.kp m (by rw[hB.hd];simp) fun r e=>by rw[h.rol] at e;cases e;exact h1
 have e2:S' B=S B:=mv.kp B (by rw[hB.dt];simp) fun r e=>by rw[hr] at e;cases e;exact h2
 exact⟨⟨B,⟨by rw[e1];exact hB.hd,by rw[e2];exact hB.dt,hB.ne,hB.len,hB.byt,hB.lim⟩,mv.ext B 2 hr⟩,mv.ext m 1 h.rol,h.len,h.byt⟩
theorem StoreD.keeps (h:StoreD S ρ m N d) (hk:Keeps S S' []):StoreD S' ρ m N d:=by
 obtain⟨B,hB,hr⟩:=h.ex
 exact⟨⟨B,hB.keep hk,hr⟩,h.rol,h.len,h.byt⟩
theorem StoreD.lim (h:StoreD S ρ m N d):N≤512:=by obtain⟨B,hB,_⟩:=h.ex;exact hB.lim
end
end Go.Cr
namespace Go.Proofs.YtabdpmnhjlmnlaaGreatDoor
open Go Go.Pt Go.Cr
section
variable {S:Mem} {ρ:Rho} {m N:Nat} {d:Nat→List Int}
end
end Go.Proofs.YtabdpmnhjlmnlaaGreatDoor
namespace Go.Cr
open Go Go.Pt
open Go.Proofs.YtabdpmnhjlmnlaaGreatDoor (enL noEn)
def tbL (tf:Int) (fs:Sl):List Value:=[.int .i64 tf,eL fs]
end Go.Cr
namespace Go.Proofs.YtabdpmnhjlmnlaaGreatDoor
open Go Go.Pt Go.Cr
section
variable {S:Mem} {ρ:Rho} {m N:Nat} {d:Nat→List Int} {tf:Int} {fs:Sl} {fr:List Nat}
end
end Go.Proofs.YtabdpmnhjlmnlaaGreatDoor
end
section
namespace Go.Cr
open Go Go.Pt
theorem zar {α:Type} {f:α→List Value} {w:Nat} (h:∀ a,(f a).length=w):∀ l:List α,(l.flatMap f).length=l.length*w
 | []=>by simp
 | a :: l=>by rw[List.flatMap_cons,List.length_append,zar h l,h,List.length_cons,Nat.add_mul];omega
structure CaP (S:Mem) (ρ:Rho) (r0 h i:Nat) (L:Sl→List Value) (l:List Cw):Prop where
 ex:∃ cs,Pc S ρ r0 h (L cs)∧Rw S ρ 6 5 cs (l.flatMap cwL)
 get:∀ cs,nthL (L cs) i=some (eL cs)
 set:∀ cs cs',spl (L cs) i [eL cs']=L cs'
 ne:r0≠6
variable {S S':Mem} {ρ ρ':Rho} {R:Nat→Prop} {r0 h i:Nat} {L:Sl→List Value} {l:List Cw}
theorem CaP.keep (hc:CaP S ρ r0 h i L l) (m:Mv S ρ S' ρ' R) (h0:¬R r0) (h6:¬R 6):CaP S' ρ' r0 h i L l:=by
 obtain⟨cs,h1,h2⟩:=hc.ex
 exact⟨⟨cs,h1.keep m h0,h2.keep m h6⟩,hc.get,hc.set,hc.ne⟩
theorem CaP.keeps (hc:CaP S ρ r0 h i L l) (hk:Keeps S S' []):CaP S' ρ r0 h i L l:=by
 obtain⟨cs,h1,h2⟩:=hc.ex
 exact⟨⟨cs,h1.keeps hk,h2.keeps hk⟩,hc.get,hc.set,hc.ne⟩
end Go.Cr
namespace Go.Proofs.YtabdpmnhjlmnlaaGreatDoor
open Go Go.Pt Go.Cr
section
variable {S:Mem} {ρ:Rho} {r0 h i:Nat} {L:Sl→List Value} {l:List Cw}
def Wants (S:Mem) (fv:Value) (p:Cw→Bool):Prop:=∀ S' r (R:Value→Mem→Prop),Keeps S S' []→R (.bool (p r)) S'→cv Tryz.prog S' fv [valL (cwL r)] R
end
end Go.Proofs.YtabdpmnhjlmnlaaGreatDoor
end
section
namespace Go.Cr
open Go Go.Pt Go.Hp
def freeL (N:Nat) (used:Nat→Bool):List Int:=((List.range N).filter fun i=>! used i).map fun (n:Nat)=>(n:Int)
theorem qp {N:Nat} {used:Nat→Bool} {f:Int}:f∈freeL N used↔0≤f∧f<N∧used f.toNat=false:=by
 unfold freeL
 simp only[List.mem_map,List.mem_filter,List.mem_range,Bool.not_eq_true']
 constructor
 ·rintro⟨n,⟨h1,h2⟩,rfl⟩
  exact⟨by omega,by omega,by simpa using h2⟩
 ·rintro⟨h0,h1,h2⟩
  exact⟨f.toNat,⟨by omega,h2⟩,by omega⟩
theorem yI {N:Nat} {used:Nat→Bool}:(freeL N used).Nodup:=by
 unfold freeL List.Nodup
 rw[List.pairwise_map]
 exact (List.Pairwise.filter _ List.nodup_range).imp fun {a b} (h:a≠b)=>by omega
theorem kT {N:Nat} {used:Nat→Bool}:(freeL N used).length=count (fun i=>! used i) N:=by simp[freeL,count]
theorem gk {N:Nat} {used:Nat→Bool} {F F':List Int} {m:Int} (h:F.Perm (freeL N used)) (h2:F.Perm (m :: F')) (h3:∀ x∈F',¬x<m):∃ f:Nat,m=f∧firstOff used N=some f∧F'.Perm (freeL N (upd used f true)):=by
 have hm:m∈freeL N used:=h.subset (h2.symm.subset (by simp))
 have hp:(m :: F').Perm (freeL N used):=h2.symm.trans h
 have hnd:=hp.nodup_iff.2 yI
 obtain⟨h0,h1,hu⟩:=qp.1 hm
 refine⟨m.toNat,by omega,vj (by omega) hu fun g hg=>?_,?_⟩
 ·cases hgu:used g with
  | true=>rfl
  | false=>
   have:(g:Int)∈freeL N used:=qp.2 ⟨by omega,by omega,by simpa using hgu⟩
   have:=hp.symm.subset this
   rcases List.mem_cons.1 this with e | e
   ·omega
   ·have:=h3 _ e;omega
 ·rw[List.perm_ext_iff_of_nodup (List.nodup_cons.1 hnd).2 yI]
  intro a
  rw[qp]
  constructor
  ·intro ha
   have h4:=qp.1 (hp.subset (List.mem_cons_of_mem _ ha))
   have hne:a≠m:=fun e=>by rw[e] at ha;exact (List.nodup_cons.1 hnd).1 ha
   exact⟨h4.1,h4.2.1,by rw[ze (by omega)];exact h4.2.2⟩
  ·rintro⟨a0,a1,a2⟩
   have hne:a≠m:=fun e=>by rw[e,zi] at a2;cases a2
   rw[ze (by omega)] at a2
   rcases List.mem_cons.1 (hp.symm.subset (qp.2 ⟨a0,a1,a2⟩)) with e | e
   ·exact absurd e hne
   ·exact e
theorem gn {N:Nat} {used:Nat→Bool} {F:List Int} {f:Nat} (h:F.Perm (freeL N used)) (hf:f<N) (hu:used f=true):((f:Int) :: F).Perm (freeL N (upd used f false)):=by
 have hnd:=h.nodup_iff.2 yI
 have hn:(f:Int)∉F:=fun hm=>by
  have:=(qp.1 (h.subset hm)).2.2
  rw[Int.toNat_natCast,hu] at this;cases this
 rw[List.perm_ext_iff_of_nodup (List.nodup_cons.2 ⟨hn,hnd⟩) yI]
 intro a
 rw[qp,List.mem_cons]
 constructor
 ·rintro (rfl | ha)
  ·exact⟨by omega,by omega,by rw[Int.toNat_natCast,zi]⟩
  ·have h4:=qp.1 (h.subset ha)
   have hne:a≠f:=fun e=>hn (e ▸ ha)
   exact⟨h4.1,h4.2.1,by rw[ze (by omega)];exact h4.2.2⟩
 ·rintro⟨a0,a1,a2⟩
  by_cases e:a=f
  ·exact .inl e
  ·rw[ze (by omega)] at a2
   exact .inr (h.symm.subset (qp.2 ⟨a0,a1,a2⟩))
def uL (N:Nat) (used:Nat→Bool):List Value:=cF N fun i=>[Value.bool (used i)]
theorem wR {N:Nat} {used:Nat→Bool}:(uL N used).length=N*1:=xZ (w:=1) fun _ _=>rfl
theorem zbi {N f:Nat} {used:Nat→Bool} (hf:f<N):nthL (uL N used) f=some (.bool (used f)):=by
 have:=zat (w:=1) (k:=0) (n:=N) (f:=fun i=>[Value.bool (used i)]) (fun _ _=>rfl) hf (by decide)
 rw[Nat.mul_one] at this;exact this
theorem zbh {N f:Nat} {used:Nat→Bool} (hf:f<N) (b:Bool):spl (uL N used) f [.bool b]=uL N (upd used f b):=by
 have:=fw (w:=1) (k:=0) (n:=N) (vs:=[.bool b]) (f:=fun i=>[Value.bool (used i)]) (fun _ _=>rfl) hf (by simp)
 rw[Nat.mul_one] at this
 unfold uL
 rw[show f=f+0 by rfl,this]
 refine wc fun g _=>?_
 by_cases e:g=f
 ·subst e;simp only[zi,Nat.add_zero];rfl
 ·simp only[ze e,Nat.add_zero]
end Go.Cr
namespace Go.Proofs.YtabdpmnhjlmnlaaGreatDoor
open Go Go.Pt Go.Cr Go.Hp
structure PoolP (S:Mem) (ρ:Rho) (p N:Nat) (used:Nat→Bool) (left:Int):Prop where
 ex:∃ tb fs us F,Hq.Ck S p 0 tb [eL fs,eL us,.int .i64 left] fs F∧(∀ x∈Hq.own fs,ρ x=some 4)∧Rw S ρ 5 1 us (uL N used)∧F.Perm (freeL N used)
 rol:ρ p=some 3
 lim:N≤512
abbrev R345 (r:Nat):Prop:=r=3∨r=4∨r=5
section
variable {S S':Mem} {ρ ρ':Rho} {R:Nat→Prop} {p N:Nat} {used:Nat→Bool} {left:Int}
theorem xb {b r:Nat} (m:Mv S ρ S' ρ' R) (hb:S b≠none) (hr:ρ b=some r) (hR:¬R r):S' b=S b:=m.kp b hb fun r' e=>by rw[hr] at e;cases e;exact hR
theorem PoolP.keep (h:PoolP S ρ p N used left) (m:Mv S ρ S' ρ' R) (h3:¬R 3) (h4:¬R 4) (h5:¬R 5):PoolP S' ρ' p N used left:=by
 obtain⟨tb,fs,us,F,hck,ho,hus,hF⟩:=h.ex
 refine⟨⟨tb,fs,us,F,⟨?_,hck.cell,?_,hck.ne,hck.heap,hck.len⟩,fun x hx=>m.ext x 4 (ho x hx),hus.keep m h5,hF⟩,m.ext p 3 h.rol,h.lim⟩
 ·rw[xb m (by rw[hck.blk];simp) h.rol h3];exact hck.blk
 ·refine hck.row.keep fun b hb=>?_
  have hx:b∈Hq.own fs:=by simp[Hq.own,hb]
  obtain⟨k,hk⟩:=Hq.own_row hck.row hx
  exact xb m (by rw[hk];simp) (ho b hx) h4
theorem PoolP.keeps (h:PoolP S ρ p N used left) (hg:∀ b r,ρ b=some r→S b≠none) (hk:Keeps S S' []):PoolP S' ρ p N used left:=
 h.keep (Mv.keeps (R:=fun _=>False) hg hk) (fun h=>h) (fun h=>h) (fun h=>h)
theorem gY {b:Nat} {s s':Sl} {rb rr:Nat} (hg:∀ b r,ρ b=some r→S b≠none) (hk:Keeps S S' (b :: Hq.own s)) (hb:ρ b=some rb) (ho:∀ x∈Hq.own s,ρ x=some rr) (hf:∀ x∈Hq.own s',x∈Hq.own s∨S x=none) (hal:Grows S S') (hs':∀ x∈Hq.own s',S' x≠none) :
  ∃ ρ',Mv S ρ S' ρ' (fun r=>r=rb∨r=rr)∧∀ x∈Hq.own s',ρ' x=some rr:=by
 have m0:Mv S ρ S' ρ (fun r=>r=rb∨r=rr):=Mv.keepsW hg hk fun w hw=>by
  rcases List.mem_cons.1 hw with e | e
  ·subst e;exact⟨hal w (hg w rb hb),rb,hb,.inl rfl⟩
  ·exact⟨hal w (hg w rr (ho w e)),rr,ho w e,.inr rfl⟩
 by_cases hex:∃ c,c∈Hq.own s'∧S c=none
 ·obtain⟨c,hc,hcn⟩:=hex
  have hone:∀ x∈Hq.own s',x=c:=by
   intro x hx
   unfold Hq.own at hx hc
   cases hp:s'.p with
   | none=>rw[hp] at hc;simp at hc
   | some q=>rw[hp] at hx hc;simp at hx hc;rw[hx,hc]
  refine⟨ρ.upd c rr,⟨fun x r e=>?_,fun x r e hx=>?_,m0.kp,m0.al,fun x r e=>?_⟩,fun x hx=>by rw[hone x hx];exact qn⟩
  ·rw[yX (fun e2=>hg x r e (by rw[e2];exact hcn))];exact e
  ·rw[yX (fun e2=>hx (by rw[e2];exact hcn))] at e;exact e
  ·by_cases e2:x=c
   ·rw[e2];exact hs' c hc
   ·rw[yX e2] at e;exact m0.rg x r e
 ·refine⟨ρ,m0,fun x hx=>?_⟩
  rcases hf x hx with e | e
  ·exact ho x e
  ·exact absurd ⟨x,hx,e⟩ hex
theorem kO {tb:TypeId} {fs us:Sl} {F:List Int} (hg:∀ b r,ρ b=some r→S b≠none) (hp:ρ p=some 3) (hlim:N≤512) (hck:Hq.Ck S p 0 tb [eL fs,eL us,.int .i64 left] fs F) (ho:∀ x∈Hq.own fs,ρ x=some 4) (hus:Rw S ρ 5 1 us (uL N used)) {f x n:Nat} (hf:f<N) {b:Bool} {c:Nat} (hc:us.p=some (c,0)) (hx:x=f) (hn:n=1) {K:Mem→Prop}
  (hK:∀ S',Mv S ρ S' ρ (· = 5)→Hq.Ck S' p 0 tb [eL fs,eL us,.int .i64 left] fs F→Rw S' ρ 5 1 us (uL N (upd used f b))→K S'):pt S c x n [.bool b] K:=
 hus.pt hg hc f hn (by rw[wR];simp;omega) hx fun S' m h1=>by
  rw[zbh hf] at h1
  refine hK S' m ⟨?_,hck.cell,?_,hck.ne,hck.heap,hck.len⟩ h1
  ·rw[xb m (by rw[hck.blk];simp) hp (by decide)];exact hck.blk
  ·refine hck.row.keep fun b hb=>?_
   have hx:b∈Hq.own fs:=by simp[Hq.own,hb]
   obtain⟨k,hk⟩:=Hq.own_row hck.row hx
   exact xb m (by rw[hk];simp) (ho b hx) (by decide)
theorem gc (h:PoolP S ρ p N used left) (hg:∀ b r,ρ b=some r→S b≠none) (hl : -1≤left∧left≤4294967296) {Q:Int→Int→Mem→Prop}
  (hY:∀ f:Nat,left≠0→firstOff used N=some f→∀ S' ρ',Mv S ρ S' ρ' R345→PoolP S' ρ' p N (upd used f true) (if left-1 < -1 then -1 else left-1)→Q f 0 S')
  (hN:left=0∨firstOff used N=none→Q 0 3 S):yn S (some (p,0)) Q:=by
 obtain⟨tb,fs,us,F,hck,ho,hus,hF⟩:=h.ex
 have hn:fs.n=F.length:=by have:=hck.row.len;rw[Hq.fl_length] at this;omega
 have c0:S.cell p 0=some (eL fs):=hck.rd
 have c2:S.cell p (0+2)=some (.int .i64 left):=by rw[qq hck.blk];rfl
 have hlen:F.length=count (fun i=>! used i) N:=by rw[hF.length_eq,kT]
 apply wG
 unfold qO
 simp only[jn]
 rw[if_neg (by simp),wK,kS c2]
 by_cases h0:left=0
 ·rw[if_pos h0];exact hN (.inl h0)
 rw[if_neg h0,wA c0]
 by_cases h1:(fs.n:Int)=0
 ·rw[if_pos h1]
  exact hN (.inr (qz.2 (by omega)))
 rw[if_neg h1,wK,kS c2,w64 (by omega) (by omega)]
 refine zbb hck.blk (by simp) ?_
 have e0:spl [eL fs,eL us,.int .i64 left] (0+2) [.int .i64 (if left-1 < -1 then -1 else left-1)]=[eL fs,eL us,.int .i64 (if left-1 < -1 then -1 else left-1)]:=rfl
 rw[e0]
 have hpo:∀ x∈Hq.own fs,x≠p:=fun x hx e=>hck.ne x hx e.symm
 have hck1:Hq.Ck (S.set p (bw tb [eL fs,eL us,.int .i64 (if left-1 < -1 then -1 else left-1)])) p 0 tb [eL fs,eL us,.int .i64 (if left-1 < -1 then -1 else left-1)] fs F:=
  ⟨zk,rfl,hck.row.keep fun b hb=>zJ (hpo b (by simp[Hq.own,hb])),hck.ne,hck.heap,hck.len⟩
 have m1:Mv S ρ (S.set p (bw tb [eL fs,eL us,.int .i64 (if left-1 < -1 then -1 else left-1)])) ρ R345:=(Mv.refl hg).put h.rol (.inl rfl) _
 have m1':Mv S ρ (S.set p (bw tb [eL fs,eL us,.int .i64 (if left-1 < -1 then -1 else left-1)])) ρ (· = 3):=(Mv.refl (R:=(· = 3)) hg).put h.rol rfl _
 refine Hq.pop_spec hck1 (fun e=>h1 (by rw[hn,e];rfl)) fun S2 s2 m F2 hp hmin _ hown hL=>?_
 obtain⟨f,rfl,hff,hF2⟩:=gk hF hp fun x hx=>by have:=hmin x hx;simpa [Hq.bf] using this
 have hfN:=(zK hff).1
 have e1:spl [eL fs,eL us,.int .i64 (if left-1 < -1 then -1 else left-1)] 0 [eL s2]=[eL s2,eL us,.int .i64 (if left-1 < -1 then -1 else left-1)]:=rfl
 have hck2:=hL.ck
 rw[e1] at hck2
 obtain⟨ρ2,m2,ho2⟩:=gY (rb:=3) (rr:=4) m1.rg hL.keep h.rol (by exact ho) hL.fresh hL.al fun x hx=>by
  obtain⟨k,hk⟩:=Hq.own_row hck2.row hx;rw[hk];simp
 have m2':Mv (S.set p (bw tb [eL fs,eL us,.int .i64 (if left-1 < -1 then -1 else left-1)])) ρ S2 ρ2 R345:=m2.mono fun r hr=>by rcases hr with hr | hr <;> simp[hr,R345]
 have hus2:=(hus.keep m1' (by decide)).keep m2 (by decide)
 obtain⟨c,e2,e3⟩:=hus.sl (by rw[wR];omega)
 have hun:=hus.n (by decide) wR
 refine⟨f,rfl,?_⟩
 show gL (S2.cell p (0+1)) _
 rw[wA (n:=us) (by rw[qq hck2.blk];rfl),e2,jU]
 refine⟨by omega,by omega,?_⟩
 rw[Int.toNat_natCast]
 refine kO (f:=f) m2.rg (m2.ext p 3 h.rol) h.lim hck2 ho2 hus2 hfN e3 (by omega) rfl fun S3 m3 hck3 hus3=>?_
 have hm3:=(m1.trans m2').trans (m3.mono (R':=R345) fun r hr=>.inr (.inr hr))
 exact hY f h0 hff S3 ρ2 hm3 ⟨⟨tb,s2,us,F2,hck3,ho2,hus3,hF2⟩,hm3.ext p 3 h.rol,h.lim⟩
theorem fm (h:PoolP S ρ p N used left) (hg:∀ b r,ρ b=some r→S b≠none) {f:Nat} (hf:f<N) {Q:Int→Mem→Prop}
  (hY:used f=true→∀ S' ρ',Mv S ρ S' ρ' R345→PoolP S' ρ' p N (upd used f false) left→Q 0 S') (hN:used f=false→Q 8 S):yo S (some (p,0)) f Q:=by
 obtain⟨tb,fs,us,F,hck,ho,hus,hF⟩:=h.ex
 have hlim:=h.lim
 have hlen:F.length=count (fun i=>! used i) N:=by rw[hF.length_eq,kT]
 have hcl:=jI (fun i=>! used i) N
 have c1:S.cell p (0+1)=some (eL us):=by rw[qq hck.blk];rfl
 obtain⟨c,e2,e3⟩:=hus.sl (by rw[wR];omega)
 have hun:=hus.n (by decide) wR
 apply wI
 unfold qQ
 simp only[jn]
 rw[if_neg (by simp),if_neg (by omega),wK,wA c1,if_neg (by omega),wA c1,e2,jU]
 refine⟨by omega,by omega,?_⟩
 rw[Int.toNat_natCast,zbO (by rw[hus.cell e3 f (by rw[wR];omega) (by omega)];exact zbi hf)]
 cases hu:used f with
 | false=>rw[if_neg (by decide)];exact hN hu
 | true=>
  rw[if_pos rfl,wK,wA c1,e2,jU]
  refine⟨by omega,by omega,?_⟩
  refine kO (f:=f) hg h.rol h.lim hck ho hus hf e3 (by omega) rfl fun S1 m1 hck1 hus1=>?_
  refine Hq.push_spec hck1 (by omega) fun S2 s2 F2 hp hL=>?_
  have e1:spl [eL fs,eL us,.int .i64 left] 0 [eL s2]=[eL s2,eL us,.int .i64 left]:=rfl
  have hck2:=hL.ck
  rw[e1] at hck2
  obtain⟨ρ2,m2,ho2⟩:=gY (rb:=3) (rr:=4) m1.rg hL.keep h.rol (by exact ho) hL.fresh hL.al fun x hx=>by
   obtain⟨k,hk⟩:=Hq.own_row hck2.row hx;rw[hk];simp
  have hm:=(m1.mono (R':=R345) fun r hr=>.inr (.inr hr)).trans (m2.mono (R':=R345) fun r hr=>by rcases hr with hr | hr <;> simp[hr,R345])
  exact hY hu S2 ρ2 hm ⟨⟨tb,s2,us,F2,hck2,ho2,hus1.keep m2 (by decide),hp.trans ((hF.cons _).trans (by have:=gn (List.Perm.refl _) hf hu;exact this))⟩,hm.ext p 3 h.rol,h.lim⟩
end
end Go.Proofs.YtabdpmnhjlmnlaaGreatDoor
namespace Go.Cr
open Go Go.Pt
theorem vI {N:Nat}:∀ {i:Nat} {u u':Nat→Bool} {l:List Nat} {f:Nat},takeN N i u=some (l,u')→firstOff u' N=some f→takeN N (i+1) u=some (l++[f],upd u' f true)
 | 0,u,u',l,f,h,hf=>by
  simp only[takeN,Option.some.injEq,Prod.mk.injEq] at h
  obtain⟨rfl,rfl⟩:=h
  simp only[takeN,hf,List.nil_append]
 | i+1,u,u',l,f,h,hf=>by
  simp only[takeN] at h
  cases h1:firstOff u N with
  | none=>rw[h1] at h;cases h
  | some g=>
   rw[h1] at h
   dsimp only at h
   cases h2:takeN N i (upd u g true) with
   | none=>rw[h2] at h;cases h
   | some q=>
    obtain⟨l2,u2⟩:=q
    rw[h2] at h
    simp only[Option.some.injEq,Prod.mk.injEq] at h
    obtain⟨rfl,rfl⟩:=h
    have:=vI h2 hf
    have e:takeN N (i+1+1) u=(match firstOff u N with
     | none=>none
     | some f=>match takeN N (i+1) (upd u f true) with
      | none=>none
      | some (l,u')=>some (f :: l,u')):=rfl
    rw[e]
    simp only[h1,this]
    rfl
def leftN (left:Int) (i:Nat):Int:=if left<0 then -1 else left-i
def unmark (u:Nat→Bool) (l:List Nat):Nat→Bool:=l.foldl (fun u f=>upd u f false) u
theorem wd:∀ {l:List Nat} {u:Nat→Bool} {x:Nat},unmark u l x=(u x && ! decide (x∈l))
 | [],u,x=>by simp[unmark]
 | f :: l,u,x=>by
  unfold unmark
  rw[List.foldl_cons]
  have:=wd (l:=l) (u:=upd u f false) (x:=x)
  unfold unmark at this
  rw[this]
  by_cases e:x=f
  ·subst e;rw[zi];simp
  ·rw[ze e];simp[e]
end Go.Cr
namespace Go.Proofs.YtabdpmnhjlmnlaaGreatDoor
open Go Go.Pt Go.Cr Go.Hp
section
variable {S S':Mem} {ρ ρ':Rho} {R:Nat→Prop} {p N:Nat} {used:Nat→Bool} {left:Int}
theorem zbp (l:List Nat) (f:Nat):nL l++[.int .i64 (f:Int)]=nL (l++[f]):=by simp[nL]
theorem kM (l:List Nat):(nL l).length=l.length*1:=by simp[nL]
theorem zbo {l:List Nat} {i:Nat} (h:i<l.length):nthL (nL l) i=some (.int .i64 (l[i]:Nat)):=by
 rw[zv];simp[nL,List.getElem?_eq_getElem h]
theorem gJ (h:PoolP S ρ p N used left) (hg:∀ b r,ρ b=some r→S b≠none) (hl : -1≤left∧left≤4294967296) {n:Nat} (hn:n≤1000) {r:Nat} (hr:r≠3∧r≠4∧r≠5) {Q:Sl→Int→Mem→Prop}
  (hY:∀ l u',¬(0≤left∧left<n)→takeN N n used=some (l,u')→∀ s S' ρ',Mv S ρ S' ρ' (fun x=>R345 x∨x=r)→PoolP S' ρ' p N u' (leftN left n)→Rw S' ρ' r 1 s (nL l)→Q s 0 S')
  (hN:(0≤left∧left<n)∨takeN N n used=none→∀ S' ρ' left',Mv S ρ S' ρ' (fun x=>R345 x∨x=r)→(left = -1→left' = -1)→-1≤left'→PoolP S' ρ' p N used left'→Q ⟨none,0,0⟩ 3 S'):qD S (some (p,0)) n Q:=by
 have hlim:=h.lim
 apply wH
 unfold qP
 simp only[jn]
 rw[if_neg (by simp),if_neg (by omega)]
 refine qh (fun (z:Sl×Int) S'=>∃ (i:Nat) (l:List Nat) (u':Nat→Bool) (ρ':Rho),z.2=(i:Int)∧i≤n∧¬(0≤left∧left<i)∧takeN N i used=some (l,u')∧Mv S ρ S' ρ' (fun x=>R345 x∨x=r)∧PoolP S' ρ' p N u' (leftN left i)∧Rw S' ρ' r 1 z.1 (nL l)) (fun z=>n-z.2.toNat) ?_
  ⟨0,[],used,ρ,rfl,by omega,by omega,rfl,Mv.refl hg,by unfold leftN;split <;> (try (have:left = -1:=by omega)) <;> simp_all,Rw.nil⟩
 rintro X ⟨s,t⟩ S1 ⟨i,l,u',ρ1,rfl,hi,hli,ht,m1,hp1,hrow⟩ ih
 dsimp only at ih hrow hi ⊢
 obtain⟨hll,hnd,hfree,hu',_⟩:=qY ht
 by_cases hlt:(i:Int)<(n:Int)
 ·rw[if_pos hlt]
  have hlb : -1≤leftN left i∧leftN left i≤4294967296:=by unfold leftN;split <;> omega
  refine gc hp1 m1.rg hlb (fun f hl0 hff S2 ρ2 m2 hp2=>?_) fun hbad=>?_
  ·rw[if_neg (by decide)]
   have m2':Mv S1 ρ1 S2 ρ2 (fun x=>R345 x∨x=r):=m2.mono fun x hx=>.inl hx
   have hrow2:=hrow.keep m2 (by unfold R345;omega)
   have hsn:=hrow2.n (by decide) (kM l)
   refine zba (R:=fun x=>R345 x∨x=r) m2' (.inr rfl) hrow2 rfl (by decide) rfl (by omega) fun s' S3 ρ3 m3 m3' h3 _=>?_
   rw[zbp] at h3
   rw[w64 (by omega) (by omega)]
   refine ih _ S3 ⟨i+1,l++[f],_,ρ3,rfl,by omega,?_,vI ht hff,m1.trans m3,?_,h3⟩ (by dsimp only;omega)
   ·unfold leftN at hl0
    split at hl0 <;> omega
   ·have e:leftN left (i+1)=if leftN left i-1 < -1 then -1 else leftN left i-1:=by
     unfold leftN
     unfold leftN at hl0
     split at hl0 <;> split <;> split <;> omega
    rw[e]
    exact hp2.keep m3' (by omega) (by omega) (by omega)
  ·rw[if_pos (by decide)]
   have hfail:(0≤left∧left<n)∨takeN N n used=none:=by
    rcases hbad with e | e
    ·left
     unfold leftN at e
     split at e <;> omega
    ·right
     rw[we]
     have h1:=qz.1 e
     obtain⟨_,_,_,_,h5⟩:=qY ht
     omega
   refine qh (fun (z:Int) S'=>∃ (j:Nat) (ρ':Rho),z=(j:Int)∧j≤l.length∧Mv S1 ρ1 S' ρ' R345∧PoolP S' ρ' p N (unmark u' (l.take j)) (leftN left i)) (fun z=>l.length-z.toNat) ?_ ⟨0,ρ1,rfl,by omega,Mv.refl m1.rg,hp1⟩
   rintro Y z S2 ⟨j,ρ2,rfl,hj,m2,hp2⟩ ih2
   have hrow2:=hrow.keep m2 (by unfold R345;omega)
   have hsn:=hrow.n (by decide) (kM l)
   by_cases hlt2:(j:Int)<(s.n:Int)
   ·have hjl:j<l.length:=by omega
    obtain⟨c,e1,e2⟩:=hrow2.sl (by rw[kM];omega)
    rw[if_pos hlt2]
    rw[e1,jU]
    refine⟨by omega,by omega,?_⟩
    rw[Int.toNat_natCast,kS (by rw[hrow2.cell e2 j (by rw[kM];omega) (by omega)];exact zbo hjl)]
    have htk:l.take (j+1)=l.take j++[l[j]]:=List.take_succ_eq_append_getElem hjl
    have hmem:=hfree l[j] (List.getElem_mem hjl)
    have e5:unmark u' (l.take (j+1))=upd (unmark u' (l.take j)) l[j] false:=by
     unfold unmark;rw[htk,List.foldl_append];rfl
    refine fm hp2 m2.rg hmem.1 (fun _ S3 ρ3 m3 hp3=>?_) fun hf=>?_
    ·rw[w64 (by omega) (by omega)]
     refine ih2 _ S3 ⟨j+1,ρ3,rfl,by omega,m2.trans m3,?_⟩ (by omega)
     rw[e5];exact hp3
    ·exfalso
     rw[wd,hu'] at hf
     have hnt:l[j]∉l.take j:=by
      intro hm
      have h9:l=l.take j++(l[j] :: l.drop (j+1)):=by rw[List.getElem_cons_drop,List.take_append_drop]
      rw[h9] at hnd
      exact (List.nodup_append.1 hnd).2.2 _ hm _ List.mem_cons_self rfl
     simp[hnt] at hf
   ·rw[if_neg hlt2]
    have hjl:j=l.length:=by omega
    have eu:unmark u' (l.take j)=used:=by
     funext x
     rw[wd,hu',hjl,List.take_length]
     by_cases hx:x∈l
     ·simp[hx,(hfree x hx).2]
     ·simp[hx]
    rw[eu] at hp2
    exact hN hfail S2 ρ2 _ (m1.trans (m2.mono fun x hx=>.inl hx)) (fun e=>by unfold leftN;rw[if_pos (by omega)]) (by unfold leftN;split <;> omega) hp2
 ·rw[if_neg hlt]
  have:i=n:=by omega
  subst this
  exact hY l u' hli ht s S1 ρ1 m1 hp1 hrow
end
end Go.Proofs.YtabdpmnhjlmnlaaGreatDoor
end
section
namespace Go.Proofs.YtabdpmnhjlmnlaaGreatDoor
open Go Go.Pt
attribute [local irreducible] Code.wp Back bodyPost wpList FR WL WC WQ WA AW Tr Yc HC AllC
set_option maxRecDepth 20000
set_option maxHeartbeats 4000000
set_option linter.unusedVariables false
def qC (S:Mem) (b:Pt) (frame:Int) (n:Int) (Q:Int→Mem→Prop):Prop:=
 yp S b frame fun t t_1 Sx=>
 jn (fun (Sx_1:Mem)=>
 nn t fun b_1 o=>
 pt Sx_1 b_1 o 4 ([.int .u8 1,.int .i64 0,.int .i64 0,.int .i64 0]) fun Sx_2=>
 if 0≤n then
 pt Sx_2 b_1 o 4 ([.int .u8 2,.int .i64 n,.int .i64 0,.int .i64 0]) fun Sx_3=>
 Q 0 Sx_3
 else
 Q 0 Sx_2) fun Jx=>
 if t_1≠0 then
 Q t_1 Sx
 else
 if 6≤n then
 Q 1 Sx
 else
 nn t fun b_2 o_1=>
 gI (Sx.cell b_2 o_1) .u8 fun t_2=>
 if t_2≠0 then
 Q 8 Sx
 else
 Jx Sx
theorem wh {S:Mem} {b:Pt} {frame:Int} {n:Int} {Q:Int→Mem→Prop} (H:qC S b frame n Q):zZ S b frame n Q:=by
 unfold qC at H
 exact Tr.intro Tryz.func72 E Tryz.ntmps72 E fun w0=>csr<|gv E E<|nxr<|mv E E<|mv E E<|fO E E H fun t t_1 Sx H1=>mv E E<|s_p E (zI E E)<|s_p E (zI E E)<|gv E E<|gv E E<|nx<|zo H1 (fun (J:Mem→Prop) (z:Unit) S=>J S) (fun z=>⟨37,[(2,.int .i64 n),(7,eP t)]⟩) (fun z=>[]) (fun _ Sx_1 H2=>csr<|mv E E<|s_p E (qZ E E)<|by exact by obtain⟨b_1,o,rfl,H3⟩:=H2;exact s_p E (qF E)<|an H3 fun c H4=>yS E E E E E c E<|nx<|zF<|csr<|mv E E<|iteK H4 (fun c_1 H5=>s_p E (yT (wC E E) c_1)<|nx<|ctr E E<|mv E E<|mv E E<|s_p E (qZ E E)<|by exact s_p E (qF E)<|an H5 fun c_2 H6=>yS E E E E E c_2 E<|nxr<|gv E E<|nx<|zm<|zl Tryz.results72 (zd E zg) ⟨_,E,H6⟩) fun c_1 H5=>s_p E (yF (wC E E) c_1)<|nx<|cfs E E<|zr<|csr<|gv E E<|nx<|zm<|zl Tryz.results72 (zd E zg) ⟨_,E,H5⟩) (fun Jx hJx H7=>zq<|csr<|mv E E<|iteK H7 (fun c_3 H8=>s_p E (yT (qE E E) c_3)<|gv E E<|nx<|c_t E E<|csr<|mv E E<|gv E E<|nx<|zm<|zw<|zc<|zl Tryz.results72 (zd E zg) ⟨_,E,H8⟩) fun c_3 H8=>s_p E (yF (qE E E) c_3)<|gv E E<|nx<|c_f E E<|csr<|mv E E<|iteK H8 (fun c_4 H9=>s_p E (yT (wC E E) c_4)<|gv E E<|nx<|c_t E E<|csr<|gv E E<|nx<|zm<|zw<|zc<|zl Tryz.results72 (zd E zg) ⟨_,E,H9⟩) fun c_4 H9=>s_p E (yF (wC E E) c_4)<|gv E E<|nx<|c_f E E<|csr<|mv E E<|by obtain⟨b_2,o_1,rfl,H10⟩:=H9;exact s_p E (qF E)<|s_p E (zY E E)<|gx H10 fun t_2 ht_2 H11=>s_v E (qf E) (qJ ht_2)<|iteK H11 (fun c_5 H12=>s_p E (yT (qE E E) c_5)<|gv E E<|nx<|c_t E E<|csr<|gv E E<|nx<|zm<|zw<|zc<|zl Tryz.results72 (zd E zg) ⟨_,E,H12⟩) fun c_5 H12=>s_p E (yF (qE E E) c_5)<|gv E E<|nx<|cfs E E<|qm<|hJx () _ _ _ _ [] H12 E ⟨E,E,True.intro⟩ E)
def qR (S:Mem) (b:Pt) (frame:Int) (Q:Pt→Int→Mem→Prop):Prop:=
 jn (fun (Sx:Mem)=>
 nn b fun b_1 o=>
 gL (Sx.cell b_1 o) fun t=>
 sl t fun b_2 o_1 n n_1=>
 0≤frame∧frame<((n:Nat):Int) ∧
 Q (some (b_2,o_1+frame.toNat*4)) 0 Sx) fun Jx=>
 if b=none then
 Q none 1 S
 else
 if frame<0 then
 Q none 1 S
 else
 nn b fun b_3 o_2=>
 gL (S.cell b_3 o_2) fun t_1=>
 if (t_1.n:Int)≤frame then
 Q none 1 S
 else
 Jx S
theorem wJ {S:Mem} {b:Pt} {frame:Int} {Q:Pt→Int→Mem→Prop} (H:qR S b frame Q):yp S b frame Q:=by
 unfold qR at H
 exact Tr.intro Tryz.func82 E Tryz.ntmps82 E fun w0=>csr<|gv E E<|gv E E<|nx<|zo H (fun (J:Mem→Prop) (z:Unit) S=>J S) (fun z=>⟨27,[(0,eP b),(1,.int .i64 frame)]⟩) (fun z=>[]) (fun _ Sx H1=>csr<|mv E E<|by obtain⟨b_1,o,rfl,H2⟩:=H1;exact s_p E (qF E)<|s_p E (zY E E)<|gx H2 fun t ht H3=>s_v E (qf E) (qJ ht)<|mv E E<|by obtain⟨b_2,o_1,n,n_1,rfl,H4⟩:=H3;exact an2 H4 fun c c_1 H5=>s_p E (yi E E c c_1 E)<|gv E E<|gv E E<|nx<|zm<|zl Tryz.results82 (zd E (zd E zg)) ⟨_,_,E,H5⟩) (fun Jx hJx H6=>csr<|mv E E<|iteK H6 (fun c_2 H7=>s_p E (yT (zN (p:=b) E E) c_2)<|mv E E<|sk2 E E<|pk E E E<|mv E E<|sk4 E E E E<|sk2 E E<|zH E<|pk E E E<|nx<|c_t E E<|csr<|gv E E<|gv E E<|nx<|zm<|zc<|zl Tryz.results82 (zd E (zd E zg)) ⟨_,_,E,H7⟩) fun c_2 H7=>s_p E (yF (zN (p:=b) E E) c_2)<|mv E E<|mv E E<|iteK H7 (fun c_3 H8=>s_p E (yT (zR E E) c_3)<|pk E E E<|mv E E<|sk4 E E E E<|sk2 E E<|zH E<|pk E E E<|nx<|c_t E E<|csr<|gv E E<|gv E E<|nx<|zm<|zc<|zl Tryz.results82 (zd E (zd E zg)) ⟨_,_,E,H8⟩) fun c_3 H8=>s_p E (yF (zR E E) c_3)<|pk E E E<|mv E E<|mv E E<|mv E E<|by obtain⟨b_3,o_2,rfl,H9⟩:=H8;exact s_p E (qF E)<|s_p E (zY E E)<|gx H9 fun t_1 ht_1 H10=>s_v E (qf E) (qJ ht_1)<|s_p E (xw E)<|iteK H10 (fun c_4 H11=>s_p E (yT (wC E E) c_4)<|pk E E E<|nx<|c_t E E<|csr<|gv E E<|gv E E<|nx<|zm<|zc<|zl Tryz.results82 (zd E (zd E zg)) ⟨_,_,E,H11⟩) fun c_4 H11=>s_p E (yF (wC E E) c_4)<|pk E E E<|nx<|cfs E E<|hJx () _ _ _ _ [] H11 E ⟨E,E,True.intro⟩ E)
def xB (S:Mem) (frames:Int) (Q:Pt→Mem→Prop):Prop:=
 0≤(if 512<(if frames<0 then 0 else frames) then 512 else (if frames<0 then 0 else frames))∧(if 512<(if frames<0 then 0 else frames) then 512 else (if frames<0 then 0 else frames))≤(if 512<(if frames<0 then 0 else frames) then 512 else (if frames<0 then 0 else frames))∧(32:Int)*(if 512<(if frames<0 then 0 else frames) then 512 else (if frames<0 then 0 else frames))≤281474976710656∧(if 512<(if frames<0 then 0 else frames) then 512 else (if frames<0 then 0 else frames))≤9223372036854775807 ∧
 al S 91 (zrep (Int.toNat (if 512<(if frames<0 then 0 else frames) then 512 else (if frames<0 then 0 else frames))) [.int .u8 0,.int .i64 0,.int .i64 0,.int .i64 0]) fun b Sx=>
 al Sx 199 ([.slice (some ⟨b,0,none⟩) (Int.toNat (if 512<(if frames<0 then 0 else frames) then 512 else (if frames<0 then 0 else frames))) (Int.toNat (if 512<(if frames<0 then 0 else frames) then 512 else (if frames<0 then 0 else frames)))]) fun b_1 Sx_1=>
 Q (some (b_1,0)) Sx_1
theorem jb {S:Mem} {frames:Int} {Q:Pt→Mem→Prop} (H:xB S frames Q):wZ S frames Q:=by
 unfold xB at H
 exact Tr.intro Tryz.func138 E Tryz.ntmps138 E fun w0=>csr<|gv E E<|nxr<|mv E E<|s_p E (gz E E)<|s_p E (zaw E E)<|by obtain⟨c,c_1,c_2,c_3,H1⟩:=H;exact zbR E E E c c_1 c_2 c_3 fun b=>xy 0 E fun hb=>have H2:=H1 b hb;s_p E (qZ E E)<|by exact wj E E E fun b_1=>xy 0 E fun hb_1=>have H3:=H2 b_1 hb_1;gv E E<|nx<|zm<|zl Tryz.results138 (zd E zg) ⟨_,E,H3⟩
end Go.Proofs.YtabdpmnhjlmnlaaGreatDoor
end
section
namespace Go.Cr
open Go Go.Pt
def shC (own:Nat→Ow) (f:Nat) (n:Int):Nat→Ow:=if (own f).kind=3∧(own f).vm=n then upd own f { own f with sh:=(own f).sh+1 } else own
def unshC (own:Nat→Ow) (f:Nat) (n:Int):Nat→Ow:=if (own f).kind=3∧(own f).vm=n∧(own f).sh≠0 then upd own f { own f with sh:=(own f).sh-1 } else own
def recC (own:Nat→Ow) (f:Nat) (n:Int):Nat→Ow:=if (own f).kind=3∧(own f).vm=n∧(own f).sh≤0 then upd own f ow0 else own
def relC (own:Nat→Ow) (f:Nat):Nat→Ow:=if (own f).kind=3∨(own f).kind=0 then own else upd own f ow0
theorem zbl {own:Nat→Ow} {N f:Nat} (hf:f<N) {o:Ow} {j:Nat} {vs:List Value} (hj:j+vs.length≤4) (he:spl (owL (own f)) j vs=owL o):spl (cF N fun g=>owL (own g)) (f*4+j) vs=cF N fun g=>owL (upd own f o g):=by
 rw[fw (w:=4) (fun _ _=>rfl) hf hj,he]
 refine wc fun g _=>?_
 by_cases e:g=f
 ·subst e;simp only[zi]
 ·simp only[ze e]
theorem zbm {own:Nat→Ow} {N f j:Nat} (hf:f<N) (hj:j<4):nthL (cF N fun g=>owL (own g)) (f*4+j)=nthL (owL (own f)) j:=zat (w:=4) (fun _ _=>rfl) hf hj
end Go.Cr
namespace Go.Proofs.YtabdpmnhjlmnlaaGreatDoor
open Go Go.Pt Go.Cr
section
variable {S:Mem} {ρ:Rho} {ob N:Nat} {own:Nat→Ow}
theorem fQ (h:OwnP S ρ ob N own) {f:Nat} (hf:f<N) {Q:Pt→Int→Mem→Prop} (hQ:∀ rs rb,Pc S ρ 8 ob [eL rs]→Rw S ρ 9 4 rs (cF N fun f=>owL (own f))→rs.p=some (rb,0)→Q (some (rb,0+f*4)) 0 S):yp S (some (ob,0)) f Q:=by
 obtain⟨rs,h1,h2⟩:=h.ex
 have hn:=h2.n (by decide) xR
 obtain⟨rb,e1,e2⟩:=h2.sl (by rw[xR];omega)
 have hc:S.cell ob 0=some (eL rs):=h1.cell 0 (by simp) rfl
 apply wJ
 unfold qR
 simp only[jn]
 rw[if_neg (by simp),if_neg (by omega),wK,wA hc,if_neg (by omega),wK,wA hc,e1,jU]
 refine⟨by omega,by omega,?_⟩
 rw[Int.toNat_natCast]
 exact hQ rs rb h1 h2 e2
theorem wrow {rs:Sl} {rb f j n x:Nat} {vs:List Value} {o:Ow} (h1:Pc S ρ 8 ob [eL rs]) (h2:Rw S ρ 9 4 rs (cF N fun f=>owL (own f))) (hb:rs.p=some (rb,0)) (hg:∀ b r,ρ b=some r→S b≠none) (hf:f<N) (hn:n=vs.length) (hj:j+vs.length≤4) (hx:x=f*4+j) (he:spl (owL (own f)) j vs=owL o) {K:Mem→Prop}
  (hK:∀ S',Mv S ρ S' ρ (· = 9)→Pc S' ρ 8 ob [eL rs]→Rw S' ρ 9 4 rs (cF N fun g=>owL (upd own f o g))→K S'):pt S rb x n vs K:=
 h2.pt hg hb (f*4+j) hn (by rw[xR];omega) hx fun S' m h3=>hK S' m (h1.keep m (by decide)) (by rw[zbl hf hj he] at h3;exact h3)
theorem gj (h:OwnP S ρ ob N own) (hg:∀ b r,ρ b=some r→S b≠none) {f:Nat} {n:Int} (hf:f<N) (hn:n<6) {Q:Int→Mem→Prop} (hQ:∀ e S',Mv S ρ S' ρ (· = 9)→OwnP S' ρ ob N (keepC own f n)→Q e S'):zZ S (some (ob,0)) f n Q:=by
 apply wh
 unfold qC
 refine fQ h hf fun rs rb h1 h2 hb=>?_
 simp only[jn]
 rw[if_neg (by decide),if_neg (by omega),wK,kS (by rw[h2.cell hb (f*4) (by rw[xR];omega) (by omega)];exact zbm (j:=0) hf (by decide))]
 unfold keepC at hQ
 by_cases hk:(own f).kind=0
 ·rw[if_pos hk] at hQ
  rw[if_neg (fun h=>h hk),wK]
  refine wrow (j:=0) (o:=⟨1,0,0,0⟩) h1 h2 hb hg hf (by rfl) (by simp) (by omega) (by rfl) fun S' m h3 h4=>?_
  by_cases h0:0≤n
  ·rw[if_pos h0] at hQ
   rw[if_pos h0]
   refine wrow (j:=0) (o:=⟨2,n,0,0⟩) (vs:=[.int .u8 2,.int .i64 n,.int .i64 0,.int .i64 0]) h3 h4 hb m.rg hf rfl (by simp) (by omega) rfl fun S2 m2 h5 h6=>hQ _ S2 (m.trans m2) ⟨rs,h5,?_⟩
   rw[kZ] at h6;exact h6
  ·rw[if_neg h0] at hQ
   rw[if_neg h0]
   exact hQ _ S' m ⟨rs,h3,h4⟩
 ·rw[if_neg hk] at hQ
  rw[if_pos hk]
  exact hQ _ S (Mv.refl hg) ⟨rs,h1,h2⟩
end
end Go.Proofs.YtabdpmnhjlmnlaaGreatDoor
end
section
namespace Go.Proofs.YtabdpmnhjlmnlaaGreatDoor
open Go Go.Pt Go.Cr Go.Hp
structure AlmOf (l:List Hk.Al) (alm:Nat→Nat→Option Int):Prop where
 nd:l.Nodup
 of:∀ a∈l,0≤a.vm∧a.vm<6∧0≤a.seat∧a.seat<3∧alm a.vm.toNat a.seat.toNat=some a.tm
 to:∀ n k t,alm n k=some t→(⟨t,n,k⟩:Hk.Al)∈l
theorem AlmOf.eq {l:List Hk.Al} {alm:Nat→Nat→Option Int} (h:AlmOf l alm) {a b:Hk.Al} (ha:a∈l) (hb:b∈l) (e1:a.vm=b.vm) (e2:a.seat=b.seat):a=b:=by
 have h1:=(h.of a ha).2.2.2.2
 have h2:=(h.of b hb).2.2.2.2
 rw[e1,e2,h2] at h1
 obtain⟨t,v,s⟩:=a
 obtain⟨t',v',s'⟩:=b
 simp only at e1 e2 h1
 cases h1;subst e1;subst e2;rfl
theorem AlmOf.len {l:List Hk.Al} {alm:Nat→Nat→Option Int} (h:AlmOf l alm):l.length≤18:=by
 have hnd:(l.map fun a=>(3*a.vm+a.seat).toNat).Nodup:=by
  unfold List.Nodup
  rw[List.pairwise_map]
  have:=h.nd
  rw[List.Nodup,List.pairwise_iff_forall_sublist] at this
  rw[List.pairwise_iff_forall_sublist]
  intro a b hs he
  have ha:a∈l:=hs.subset (by simp)
  have hb:b∈l:=hs.subset (by simp)
  have h1:=h.of a ha
  have h2:=h.of b hb
  exact this hs (h.eq ha hb (by omega) (by omega))
 have:=hnd.length_le_of_subset (l₂:=List.range 18) fun x hx=>by
  obtain⟨a,ha,rfl⟩:=List.mem_map.1 hx
  have h1:=h.of a ha
  rw[List.mem_range];omega
 simpa using this
structure ClkP (S:Mem) (ρ:Rho) (kb:Nat) (alm:Nat→Nat→Option Int):Prop where
 ex:∃ tb s l,Hk.Ck S kb 0 tb [eL s] s l∧(∀ x∈Hk.own s,ρ x=some 11)∧AlmOf l alm
 rol:ρ kb=some 10
structure VmP (S:Mem) (ρ:Rho) (i:Nat) (x:Vx) (v:Bv) (fr:List Nat):Prop where
 se:Rw S ρ (30+i) 26 x.ss (v.seats.flatMap Seat.L)
 r:∀ s∈v.seats,s.Ok
 fr:Rw S ρ (40+i) 1 x.fs (nL fr)
 ke:Rw S ρ (50+i) 1 x.ks (bL v.keys)
 di:∀ j,j<4→Rw S ρ (60+4*i+j) 1 (x.d j) (bL (v.disk j))
structure Ad where
 m:Nat
 p:Nat
 t:Nat
 ob:Nat
 kb:Nat
 cs:Sl
 gs:Sl
 es:Nat→Sl
 x:Nat→Vx
def hdL (A:Ad):List Value:=[eP (some (A.m,0)),eP (some (A.p,0)),eL A.cs,eP (some (A.t,0)),eL A.gs]++cF 6 fun i=>[eL (A.es i)]
structure CrabA (S:Mem) (ρ:Rho) (h:Nat) (A:Ad) (C:Cst):Prop where
 rg:∀ b r,ρ b=some r→S b≠none
 g0:ρ 0=none
 gl:Gl S
 hd:Pc S ρ 0 h (hdL A)
 st:StoreD S ρ A.m C.N C.dat
 pl:PoolP S ρ A.p C.N C.used C.left
 ca:Rw S ρ 6 5 A.cs (C.cache.flatMap cwL)
 tt:Pc S ρ 7 A.t (knL C.toKn A.x A.ob A.kb)
 ow:OwnP S ρ A.ob C.N C.own
 ck:ClkP S ρ A.kb C.alm
 gs:Rw S ρ 12 1 A.gs (nL C.region)
 ev:∀ i,i<6→Rw S ρ (20+i) 4 (A.es i) ((C.ev i).flatMap evL)
 vs:∀ i,i<6→VmP S ρ i (A.x i) (C.vm i) (C.fr i)
abbrev Rc (r:Nat):Prop:=r<110
section
variable {S S':Mem} {ρ ρ':Rho} {R:Nat→Prop}
theorem ClkP.keep {kb:Nat} {alm:Nat→Nat→Option Int} (h:ClkP S ρ kb alm) (m:Mv S ρ S' ρ' R) (h1:¬R 10) (h2:¬R 11):ClkP S' ρ' kb alm:=by
 obtain⟨tb,s,l,hck,ho,ha⟩:=h.ex
 refine⟨⟨tb,s,l,⟨?_,hck.cell,?_,hck.ne,hck.heap,hck.len⟩,fun x hx=>m.ext x 11 (ho x hx),ha⟩,m.ext kb 10 h.rol⟩
 ·rw[xb m (by rw[hck.blk];simp) h.rol h1];exact hck.blk
 ·refine hck.row.keep fun b hb=>?_
  have hx:b∈Hk.own s:=by simp[Hk.own,hb]
  obtain⟨k,hk⟩:=Hk.own_row hck.row hx
  exact xb m (by rw[hk];simp) (ho b hx) h2
theorem VmP.keep {i:Nat} {x:Vx} {v:Bv} {fr:List Nat} (h:VmP S ρ i x v fr) (m:Mv S ρ S' ρ' R) (hi:i<6) (hR:∀ r,30≤r→r<90→¬R r):VmP S' ρ' i x v fr:=
 ⟨h.se.keep m (hR _ (by omega) (by omega)),h.r,h.fr.keep m (hR _ (by omega) (by omega)),h.ke.keep m (hR _ (by omega) (by omega)),fun j hj=>(h.di j hj).keep m (hR _ (by omega) (by omega))⟩
theorem fk (h:Gl S):S 0≠none:=by
 obtain⟨t,k,hl⟩:=h
 rw[hl];simp
theorem vg (h:Gl S) (m:Mv S ρ S' ρ' R) (h0:ρ 0=none):Gl S':=by
 exact h.keep (m.kp 0 (fk h) fun r e=>by rw[h0] at e;cases e)
theorem vh (h:Gl S) (m:Mv S ρ S' ρ' R) (h0:ρ 0=none):ρ' 0=none:=by
 cases e:ρ' 0 with
 | none=>rfl
 | some r=>
  have:=m.old 0 r e (fk h)
  rw[h0] at this;cases this
variable {h:Nat} {A:Ad} {C:Cst}
theorem CrabA.keep (hc:CrabA S ρ h A C) (m:Mv S ρ S' ρ' R) (hR:∀ r,r<90→¬R r):CrabA S' ρ' h A C:=
 ⟨m.rg,vh hc.gl m hc.g0,vg hc.gl m hc.g0,hc.hd.keep m (hR _ (by decide)),hc.st.keep m (hR _ (by decide)) (hR _ (by decide)),hc.pl.keep m (hR _ (by decide)) (hR _ (by decide)) (hR _ (by decide)),hc.ca.keep m (hR _ (by decide)),hc.tt.keep m (hR _ (by decide)),hc.ow.keep m (hR _ (by decide)) (hR _ (by decide)),hc.ck.keep m (hR _ (by decide)) (hR _ (by decide)),hc.gs.keep m (hR _ (by decide)),fun i hi=>(hc.ev i hi).keep m (hR _ (by omega)),fun i hi=>(hc.vs i hi).keep m hi fun r _ h2=>hR r h2⟩
theorem CrabA.keeps (hc:CrabA S ρ h A C) (hk:Keeps S S' []):CrabA S' ρ h A C:=hc.keep (Mv.keeps (R:=fun _=>False) hc.rg hk) fun _ _ h=>h
theorem CrabA.mv0 (hc:CrabA S ρ h A C) (hk:Keeps S S' []):Mv S ρ S' ρ Rc:=Mv.keeps hc.rg hk
theorem CrabA.setOwn (hc:CrabA S ρ h A C) (m:Mv S ρ S' ρ' (· = 9)) {o:Nat→Ow} (hs:OwnP S' ρ' A.ob C.N o):CrabA S' ρ' h A { C with own:=o }:=
 ⟨m.rg,vh hc.gl m hc.g0,vg hc.gl m hc.g0,hc.hd.keep m (by decide),hc.st.keep m (by decide) (by decide),hc.pl.keep m (by decide) (by decide) (by decide),hc.ca.keep m (by decide),hc.tt.keep m (by decide),hs,hc.ck.keep m (by decide) (by decide),hc.gs.keep m (by decide),fun i hi=>(hc.ev i hi).keep m (by omega),fun i hi=>(hc.vs i hi).keep m hi fun r h1 h2=>by omega⟩
theorem CrabA.setCache (hc:CrabA S ρ h A C) (m:Mv S ρ S' ρ' (fun r=>r=0∨r=6)) {cs:Sl} {l:List Cw} (hh:Pc S' ρ' 0 h (hdL { A with cs:=cs })) (hs:Rw S' ρ' 6 5 cs (l.flatMap cwL)):CrabA S' ρ' h { A with cs:=cs } { C with cache:=l }:=
 ⟨m.rg,vh hc.gl m hc.g0,vg hc.gl m hc.g0,hh,hc.st.keep m (by decide) (by decide),hc.pl.keep m (by decide) (by decide) (by decide),hs,hc.tt.keep m (by decide),hc.ow.keep m (by decide) (by decide),hc.ck.keep m (by decide) (by decide),hc.gs.keep m (by decide),fun i hi=>(hc.ev i hi).keep m (by omega),fun i hi=>(hc.vs i hi).keep m hi fun r h1 h2=>by omega⟩
theorem vf:(hdL A).length=11:=by
 unfold hdL
 rw[List.length_append,xZ (w:=1) fun _ _=>rfl];rfl
theorem CrabA.c0 (hc:CrabA S ρ h A C):S.cell h 0=some (eP (some (A.m,0))):=hc.hd.cell 0 (by rw[vf];decide) rfl
theorem CrabA.c1 (hc:CrabA S ρ h A C):S.cell h (0+1)=some (eP (some (A.p,0))):=hc.hd.cell 1 (by rw[vf];decide) rfl
theorem CrabA.c3 (hc:CrabA S ρ h A C):S.cell h (0+3)=some (eP (some (A.t,0))):=hc.hd.cell 3 (by rw[vf];decide) rfl
theorem CrabA.c4 (hc:CrabA S ρ h A C):S.cell h (0+4)=some (eL A.gs):=hc.hd.cell 4 (by rw[vf];decide) rfl
theorem CrabA.cap (hc:CrabA S ρ h A C):CaP S ρ 0 h 2 (fun cs=>hdL { A with cs:=cs }) C.cache:=⟨⟨A.cs,hc.hd,hc.ca⟩,fun _=>rfl,fun _ _=>rfl,by decide⟩
end
end Go.Proofs.YtabdpmnhjlmnlaaGreatDoor
end
section
namespace Go.Pt
open Go Go.RowKit Go.Cr
variable {S S':Mem} {ρ ρ':Rho} {r w:Nat} {s:Sl} {l:List Value}
theorem Rw.put (h:Rw S ρ r w s l) (hg:∀ b r,ρ b=Option.some r→S b≠none) {c:Nat} (hc:s.p=Option.some (c,0)) {vs:List Value} {i:Nat} (hi:i+vs.length≤l.length) :
  Mv S ρ (S.put c i vs) ρ (· = r)∧Rw (S.put c i vs) ρ r w s (spl l i vs):=by
 have hl:=h.row.len
 have hcap:=h.row.cap
 have hr:=h.rol c 0 hc
 rcases h.row.lie with ⟨h1,_⟩ | ⟨b,k,h1,h2,h3,h4,h5⟩
 ·rw[h1] at hc;cases hc
 ·rw[h1] at hc;cases hc
  have hm:s.n*w≤s.c*w:=Nat.mul_le_mul_right _ hcap
  rw[qT h2]
  refine⟨Mv.put (R:=(· = r)) (Mv.refl hg) hr rfl _,⟨by rw[zG hi];exact hl,hcap,.inr ⟨c,_,h1,zk,h3,?_,?_⟩⟩,h.rol⟩
  ·simp only;rw[zG (by omega)];exact h4
  ·simp only
   rw[←h5]
   have hkl:k.cs=k.cs.take (s.n*w)++k.cs.drop (s.n*w):=(List.take_append_drop _ _).symm
   have h6:(k.cs.take (s.n*w)).length=s.n*w:=by rw[List.length_take];omega
   have e:spl k.cs i vs=spl (k.cs.take (s.n*w)) i vs++k.cs.drop (s.n*w):=by
    conv=>lhs;rw[hkl]
    exact xL (by omega)
   rw[e,List.take_left' (by rw[zG (by omega)];exact h6)]
theorem Rw.sub (h:Rw S ρ r w s l) {c:Nat} (hc:s.p=Option.some (c,0)) {i:Nat} {v:List Value} (hv:lpart l i v.length=Option.some v):At S c i v:=by
 have hl:=h.row.len
 have hcap:=h.row.cap
 have hi:=(qH hv).1
 rcases h.row.lie with ⟨h1,_⟩ | ⟨b,k,h1,h2,h3,h4,h5⟩
 ·rw[h1] at hc;cases hc
 ·rw[h1] at hc;cases hc
  have hm:s.n*w≤s.c*w:=Nat.mul_le_mul_right _ hcap
  refine⟨k,h2,h3,?_⟩
  rw[zU (by omega)]
  rw[zU hi] at hv
  rw[←hv,←h5]
  congr 1
  apply List.ext_getElem?
  intro j
  simp only[List.getElem?_take,List.getElem?_drop]
  by_cases hj:j<v.length
  ·rw[if_pos hj,if_pos hj,if_pos (by omega)]
  ·rw[if_neg hj,if_neg hj]
end Go.Pt
end
section
namespace Go.Cr
open Go Go.Pt
section
variable {C:Cst} {W:Wd} {φ:Nat→Nat→Nat}
theorem Rel.tell (h:Rel C W φ) (n:Nat) (e:Evt):Rel { C with ev:=upd C.ev n (C.ev n++[e]) } (W.tell n e) φ:=
 { h with wk:={ h.wk with off:=h.wk.off },ev:=by show upd C.ev n (C.ev n++[e])=upd W.ev n (W.ev n++[e]);rw[h.ev] }
theorem WOk.setV (h:WOk W) {n:Nat} {v:Bv} (hon:(W.vm n).on=true) (h1:v.on=true) (h2:v.seats.length=(W.vm n).seats.length) (h3:∀ s∈v.seats,s.Ok) (h4:v.keys.length≤64∧Byt v.keys) (h5:∀ j,(v.disk j).length=256∧Byt (v.disk j)) (h6:v.quota=(W.vm n).quota) (h7:v.bells=(W.vm n).bells):WOk (W.setV n v):=by
 have on':∀ i,((W.setV n v).vm i).on=(W.vm i).on:=fun i=>by
  show (upd W.vm n v i).on=_
  by_cases e:i=n
  ·subst e;rw[zi,h1,hon]
  ·rw[ze e]
 have vm':∀ i,i≠n→(W.setV n v).vm i=W.vm i:=fun i e=>ze e
 have vn:(W.setV n v).vm n=v:=zi
 have be':∀ i,((W.setV n v).vm i).bells=(W.vm i).bells:=fun i=>by
  by_cases e:i=n
  ·subst e;rw[vn,h7]
  ·rw[vm' i e]
 have ql':∀ i,((W.setV n v).vm i).quota=(W.vm i).quota:=fun i=>by
  by_cases e:i=n
  ·subst e;rw[vn,h6]
  ·rw[vm' i e]
 have sl':∀ i,((W.setV n v).vm i).seats.length=(W.vm i).seats.length:=fun i=>by
  by_cases e:i=n
  ·subst e;rw[vn,h2]
  ·rw[vm' i e]
 refine { h with off:=fun i hi=>?_,six:=fun i hi=>by rw[on'];exact h.six i hi,seats:=fun i hi=>?_,ok:=fun i=>?_,keys:=fun i=>?_,disk:=fun i j hi=>?_,quota:=fun i=>by rw[ql'];exact h.quota i,bells:=fun i k=>?_,pg:=fun i p l hl=>?_,most:=fun i=>by rw[ql'];exact h.most i,lsr:=fun i hi=>?_,alarm:=fun i k w hw=>by rw[sl'];exact h.alarm i k w hw }
 ·rw[on'] at hi
  have:i≠n:=fun e=>by subst e;rw[hon] at hi;cases hi
  rw[vm' i this];exact h.off i hi
 ·rw[on'] at hi;rw[sl'];exact h.seats i hi
 ·by_cases e:i=n
  ·subst e;rw[vn];exact h3
  ·rw[vm' i e];exact h.ok i
 ·by_cases e:i=n
  ·subst e;rw[vn];exact h4
  ·rw[vm' i e];exact h.keys i
 ·by_cases e:i=n
  ·subst e;rw[vn];exact h5 j
  ·rw[on'] at hi
   rw[vm' i e];exact h.disk i j hi
 ·rw[be',be',on',on'];exact h.bells i k
 ·rw[on'];exact h.pg i p l hl
 ·rw[on',on'];exact h.lsr i hi
theorem Rel.setV (h:Rel C W φ) {n:Nat} {v:Bv} (hon:(W.vm n).on=true) (h1:v.on=true) (hk:WOk (W.setV n v)):Rel { C with vm:=upd C.vm n v } (W.setV n v) φ:=by
 have on':∀ i,((W.setV n v).vm i).on=(W.vm i).on:=fun i=>by
  show (upd W.vm n v i).on=_
  by_cases e:i=n
  ·subst e;rw[zi,h1,hon]
  ·rw[ze e]
 exact { h with
  wk:=hk
  vm:=by show upd C.vm n v=upd W.vm n v;rw[h.vm]
  time:=fun i hi=>by rw[on'] at hi;exact h.time i hi
  off:=fun i hi=>by rw[on'] at hi;exact h.off i hi
  tab:=fun i hi=>by rw[on'] at hi;exact h.tab i hi
  root:=fun i j hi=>by rw[on'] at hi;exact h.root i j hi
  leaf:=fun i p hi=>by rw[on'] at hi;exact h.leaf i p hi
  cache:=fun r hr=>by
   obtain⟨i,h1,h2,h3⟩:=h.cache r hr
   exact⟨i,h1,by rw[on'];exact h2,h3⟩ }
theorem Rel.setCache (h:Rel C W φ) {l:List Cw} (h1:∀ r∈l,∃ n:Nat,r.vm=n∧(W.vm n).on=true∧C.walk n r.page=some (r.f,r.w)) (h2:l.length≤8):Rel { C with cache:=l } W φ:=
 { h with cache:=h1,csize:=h2 }
theorem fb {l:List Cw} {vm page:Int} {q:Nat×Bool} (h:lookC l vm page=some q):∃ r∈l,r.vm=vm∧r.page=page∧(r.f,r.w)=q:=by
 unfold lookC at h
 cases hf:l.find? (fun r=>decide (r.vm=vm) && decide (r.page=page)) with
 | none=>rw[hf] at h;cases h
 | some r=>
  rw[hf] at h
  simp only[Option.map_some,Option.some.injEq] at h
  have:=List.find?_some hf
  simp only[Bool.and_eq_true,decide_eq_true_eq] at this
  exact⟨r,List.mem_of_find?_eq_some hf,this.1,this.2,h⟩
theorem vr {l:List Cw} {vm page:Int} {r:Cw} (h:r∈dropC l vm page):r∈l∧¬(r.vm=vm∧r.page=page):=by
 unfold dropC at h
 rw[List.mem_filter] at h
 exact⟨h.1,fun hh=>by have:=h.2;simp[hh.1,hh.2] at this⟩
theorem vt {l:List Cw} {vm page:Int}:(dropC l vm page).length≤l.length:=List.length_filter_le _ _
theorem fS {l:List Cw} {r x:Cw} (h:x∈putC l r):x∈l∨x=r:=by
 unfold putC at h
 rw[List.mem_append,List.mem_singleton] at h
 rcases h with h | h
 ·left
  split at h
  ·exact (vr (List.mem_of_mem_tail h)).1
  ·exact (vr h).1
 ·exact .inr h
theorem fT {l:List Cw} {r:Cw} (h:l.length≤8):(putC l r).length≤8:=by
 unfold putC
 have:=vt (l:=l) (vm:=r.vm) (page:=r.page)
 rw[List.length_append]
 split
 ·rw[List.length_tail];simp;omega
 ·simp;omega
theorem Rel.find (h:Rel C W φ) {n:Nat} (hn:(W.vm n).on=true) {page:Int} {q:Nat×Bool} (hl:lookC C.cache n page=some q):C.walk n page=some q:=by
 obtain⟨r,hr,h1,h2,h3⟩:=fb hl
 obtain⟨m,e1,e2,e3⟩:=h.cache r hr
 have:m=n:=by rw[h1] at e1;omega
 subst this
 rw[h2,h3] at e3;exact e3
theorem Rel.put (h:Rel C W φ) {n:Nat} (hn:(W.vm n).on=true) {page:Int} {f:Nat} {w:Bool} (hw:C.walk n page=some (f,w)):Rel { C with cache:=putC C.cache ⟨n,page,f,w⟩ } W φ:=
 h.setCache (fun r hr=>by
  rcases fS hr with e | e
  ·exact h.cache r e
  ·subst e;exact⟨n,rfl,hn,hw⟩) (fT h.csize)
theorem WOk.setO (h:WOk W) {m q:Nat} {l l':List Int} (ho:W.own m q=some l) (hl:l'.length=256∧Byt l'):WOk (W.setO m q (some l')):=by
 have is':∀ i p,((W.setO m q (some l')).own i p).isSome=(W.own i p).isSome:=fun i p=>by
  show (upd W.own m (upd (W.own m) q (some l')) i p).isSome=_
  by_cases e:i=m
  ·subst e
   rw[zi]
   by_cases e2:p=q
   ·subst e2;rw[zi,ho];rfl
   ·rw[ze e2]
  ·rw[ze e]
 have no':∀ i p,(W.setO m q (some l')).own i p=none↔W.own i p=none:=fun i p=>by
  rw[←Option.not_isSome_iff_eq_none,←Option.not_isSome_iff_eq_none,is']
 have hon:=(h.pg m q l ho)
 refine { h with off:=fun i hi=>⟨(h.off i hi).1,fun p=>(no' i p).2 ((h.off i hi).2.1 p),(h.off i hi).2.2⟩,pg:=fun i p l2 hl2=>?_,most:=fun i=>?_,lsr:=fun i hi=>?_,lsa:=fun i hi p hp=>(no' _ _).2 (h.lsa i hi p hp) }
 ·by_cases e:i=m∧p=q
  ·obtain⟨rfl,rfl⟩:=e
   have:l'=l2:=by
    have h2:(W.setO i p (some l')).own i p=some l':=by show upd W.own i (upd (W.own i) p (some l')) i p=_;rw[zi,zi]
    rw[h2] at hl2;exact Option.some.inj hl2
   subst this
   exact⟨hon.1,hon.2.1,hl⟩
  ·refine h.pg i p l2 ?_
   have:(W.setO m q (some l')).own i p=W.own i p:=by
    show upd W.own m (upd (W.own m) q (some l')) i p=_
    by_cases e1:i=m
    ·subst e1;rw[zi,ze (fun e2=>e ⟨rfl,e2⟩)]
    ·rw[ze e1]
   rw[this] at hl2;exact hl2
 ·have:(W.setO m q (some l')).pages i=W.pages i:=yL fun p _=>is' i p
  rw[this];exact h.most i
 ·rw[is'];exact h.lsr i hi
theorem jV {m q:Nat} {l l':List Int} (ho:W.own m q=some l) {n p:Nat}:(W.setO m q (some l')).where_ n p=W.where_ n p:=by
 unfold Wd.where_
 have:((W.setO m q (some l')).own n p).isSome=(W.own n p).isSome:=by
  show (upd W.own m (upd (W.own m) q (some l')) n p).isSome=_
  by_cases e:n=m
  ·subst e
   rw[zi]
   by_cases e2:p=q
   ·subst e2;rw[zi,ho];rfl
   ·rw[ze e2]
  ·rw[ze e]
 rw[this];rfl
theorem Rel.walk_keep (h:Rel C W φ) {f:Nat} (hf:(C.own f).kind≠2) {l:List Int} {n:Nat} (hn:(W.vm n).on=true) (page:Int):walkC (upd C.dat f l) C.N (C.tf n) (C.fr n) page=C.walk n page:=by
 by_cases hp:page<0∨31<page
 ·rw[vW hp]
  unfold walkC Go.Cr.leafC
  rw[if_pos hp]
 ·have e:page=((page.toNat:Nat):Int):=by omega
  have h32:page.toNat<32:=by omega
  have key:∀ j i,j<5→ld (upd C.dat f l) ((C.fr n).getD j 0) i=ld C.dat ((C.fr n).getD j 0) i:=fun j i hj=>h.ld_keep hf hn hj
  obtain⟨a,b,c,d,g,hfr⟩:=h.cons hn
  have k0:=key 0 (page/8).toNat (by decide)
  have hlf:=h.leafC hn h32
  rw[←e] at hlf
  unfold Cst.walk walkC
  have hlf2:Go.Cr.leafC (upd C.dat f l) C.N (C.tf n) (C.fr n) page=Go.Cr.leafC C.dat C.N (C.tf n) (C.fr n) page:=by
   unfold Go.Cr.leafC
   rw[if_neg hp,if_neg hp,hfr]
   rw[hfr,List.getD_cons_zero] at k0
   dsimp only
   rw[k0]
  rw[hlf2,hlf]
  dsimp only
  rw[key _ _ (by omega)]
theorem Rel.setO (h:Rel C W φ) {m q:Nat} {l l':List Int} (ho:W.own m q=some l) (hl:l'.length=256∧Byt l'):Rel { C with dat:=upd C.dat (φ m q) l' } (W.setO m q (some l')) φ:=by
 have hp:=h.pg m q l ho
 have hk:(C.own (φ m q)).kind≠2:=by rw[hp.2.1];exact (show (3:Int)≠2 by decide)
 exact { h with
  wk:=h.wk.setO ho hl
  len:=fun f hf=>by
   show (upd C.dat (φ m q) l' f).length=256∧Byt (upd C.dat (φ m q) l' f)
   by_cases e:f=φ m q
   ·rw[e,zi];exact hl
   ·rw[ze e];exact h.len f hf
  root:=fun n j hn hj=>by
   show unp C.form (ld (upd C.dat (φ m q) l') ((C.fr n).getD 0 0) j)=_
   rw[h.ld_keep hk hn (by decide)];exact h.root n j hn hj
  leaf:=fun n p hn hp'=>by
   show unp C.form (ld (upd C.dat (φ m q) l') ((C.fr n).getD (p/8+1) 0) (p%8))=_
   rw[h.ld_keep hk hn (by omega),jV ho];exact h.leaf n p hn hp'
  pg:=fun n p l2 hl2=>by
   show φ n p<C.N∧C.own (φ n p)=_∧upd C.dat (φ m q) l' (φ n p)=l2
   by_cases e:n=m∧p=q
   ·obtain⟨rfl,rfl⟩:=e
    have h2:(W.setO n p (some l')).own n p=some l':=by show upd W.own n (upd (W.own n) p (some l')) n p=_;rw[zi,zi]
    rw[h2] at hl2
    cases hl2
    exact⟨hp.1,hp.2.1,zi⟩
   ·have h2:(W.setO m q (some l')).own n p=W.own n p:=by
     show upd W.own m (upd (W.own m) q (some l')) n p=_
     by_cases e1:n=m
     ·subst e1;rw[zi,ze (fun e2=>e ⟨rfl,e2⟩)]
     ·rw[ze e1]
    rw[h2] at hl2
    have h3:=h.pg n p l2 hl2
    refine⟨h3.1,h3.2.1,?_⟩
    rw[ze (fun e2=>e (h.inj hl2 ho e2))];exact h3.2.2
  pgk:=fun f hf hk'=>by
   obtain⟨n,p,h1,h2⟩:=h.pgk f hf hk'
   refine⟨n,p,?_,h2⟩
   show (upd W.own m (upd (W.own m) q (some l')) n p).isSome=true
   by_cases e:n=m
   ·subst e
    rw[zi]
    by_cases e2:p=q
    ·subst e2;rw[zi];rfl
    ·rw[ze e2];exact h1
   ·rw[ze e];exact h1
  cache:=fun r hr=>by
   obtain⟨n,h1,h2,h3⟩:=h.cache r hr
   exact⟨n,h1,h2,by rw[←h3];exact h.walk_keep hk h2 r.page⟩ }
theorem Rel.setAlarm (h:Rel C W φ) {n k:Nat} (hk:k<(W.vm n).seats.length) {w:Int} (hw:W64 w):Rel { C with alm:=upd C.alm n (upd (C.alm n) k (some (min (w+C.late n) most64))) } (W.setAlarm n k w) φ:=by
 have hon:(W.vm n).on=true:=by
  cases e:(W.vm n).on with
  | true=>rfl
  | false=>rw[(h.wk.off n e).1] at hk;simp[bv0] at hk
 refine { h with wk:={ h.wk with off:=fun i hi=>⟨(h.wk.off i hi).1,(h.wk.off i hi).2.1,fun j=>?_⟩,alarm:=fun i j w' hw'=>?_ },alm:=fun i j=>?_ }
 ·show upd W.alarm n (upd (W.alarm n) k (some w)) i j=none
  have:i≠n:=fun e=>by subst e;have hi':(W.vm i).on=false:=hi;rw[hon] at hi';cases hi'
  rw[ze this];exact (h.wk.off i hi).2.2 j
 ·have hw'':upd W.alarm n (upd (W.alarm n) k (some w)) i j=some w':=hw'
  by_cases e:i=n
  ·subst e
   rw[zi] at hw''
   by_cases e2:j=k
   ·subst e2;rw[zi] at hw'';cases hw'';exact⟨hk,hw⟩
   ·rw[ze e2] at hw'';exact h.wk.alarm i j w' hw''
  ·rw[ze e] at hw'';exact h.wk.alarm i j w' hw''
 ·show upd C.alm n (upd (C.alm n) k (some (min (w+C.late n) most64))) i j=(upd W.alarm n (upd (W.alarm n) k (some w)) i j).map _
  by_cases e:i=n
  ·subst e
   rw[zi,zi]
   by_cases e2:j=k
   ·subst e2;rw[zi,zi];rfl
   ·rw[ze e2,ze e2];exact h.alm i j
  ·rw[ze e,ze e];exact h.alm i j
end
end Go.Cr
end
section
namespace Go.Cr
open Go Go.Pt
end Go.Cr
namespace Go.Proofs.YtabdpmnhjlmnlaaGreatDoor
open Go Go.Pt Go.Cr
section
variable {bus:Value} {I:Mem→Rho→GM→Prop} {R:Nat→Prop} {S:Mem} {ρ:Rho} {g:GM} {b o:Nat} {s:Seat} {time me:Int}
end
end Go.Proofs.YtabdpmnhjlmnlaaGreatDoor
end
section
namespace Go.Proofs.YtabdpmnhjlmnlaaGreatDoor
open Go Go.Pt Go.Cr Go.Hp
def thereV (vm:Nat→Bv) (n:Int):Prop:=0≤n∧n<6∧(vm n.toNat).on=true
instance (vm:Nat→Bv) (n:Int):Decidable (thereV vm n):=inferInstanceAs (Decidable (_∧_∧_))
theorem gM {l:List Seat} (h:∀ s∈l,s.Ok):(l.flatMap Seat.L).length=l.length*26:=by
 induction l with
 | nil=>simp
 | cons s l ih=>
  rw[List.flatMap_cons,List.length_append,ih fun x hx=>h x (by simp[hx]),Seat.L_len (h s (by simp)).len,List.length_cons,Nat.add_mul];omega
theorem fM {l:List Seat} (h:∀ s∈l,s.Ok) {j:Nat} (hj:j<l.length):∃ A B,A.length=j*26∧l.flatMap Seat.L=A++(l[j].L++B)∧∀ s,(l.set j s).flatMap Seat.L=A++(s.L++B):=by
 refine⟨(l.take j).flatMap Seat.L,(l.drop (j+1)).flatMap Seat.L,?_,?_,fun s=>?_⟩
 ·rw[gM fun s hs=>h s (List.mem_of_mem_take hs),List.length_take,Nat.min_eq_left (by omega)]
 ·have e:l=l.take j++(l[j] :: l.drop (j+1)):=by rw[List.getElem_cons_drop,List.take_append_drop]
  have e2:=congrArg (List.flatMap Seat.L) e
  rw[List.flatMap_append,List.flatMap_cons] at e2
  exact e2
 ·rw[List.set_eq_take_append_cons_drop,if_pos hj,List.flatMap_append,List.flatMap_cons]
theorem zaH {l:List Seat} (h:∀ s∈l,s.Ok) {j:Nat} (hj:j<l.length):lpart (l.flatMap Seat.L) (j*26) (l[j].L).length=some l[j].L:=by
 obtain⟨A,B,h1,h2,_⟩:=fM h hj
 rw[h2,show j*26=j*26+0 by omega,zT h1,wo (by omega),qa rfl]
section
variable {S S':Mem} {ρ ρ':Rho} {h:Nat} {A:Ad} {C:Cst}
variable {W:Wd} {φ:Nat→Nat→Nat}
def busL (h n:Nat):List Value:=[.pointer (some ⟨h,0,none⟩),.int .i64 n]
end
end Go.Proofs.YtabdpmnhjlmnlaaGreatDoor
end
section
namespace Go.Cr
open Go Go.Pt
variable {W:Wd}
theorem zbu {n p:Nat} (hp:p<32):(W.gm n).map p=(W.where_ n p).map fun q=>(32*q.1+q.2.1,q.2.2):=by
 show (if 32≤p then none else _)=_
 rw[if_neg (by omega)]
theorem zbv {n m q:Nat} (hq:q<32):(W.gm n).dat (32*m+q)=(W.own m q).getD []:=by
 show (W.own ((32*m+q)/32) ((32*m+q)%32)).getD []=_
 rw[show (32*m+q)/32=m by omega,show (32*m+q)%32=q by omega]
theorem WOk.gm (h:WOk W) (n:Nat):(W.gm n).Ok:=by
 have key:∀ p f w,(W.gm n).map p=some (f,w)→∃ l,(W.gm n).dat f=l∧l.length=256∧Byt l:=by
  intro p f w hm
  by_cases hp:p<32
  ·rw[zbu hp] at hm
   cases hq:W.where_ n p with
   | none=>rw[hq] at hm;cases hm
   | some q=>
    rw[hq] at hm
    simp only[Option.map_some,Option.some.injEq,Prod.mk.injEq] at hm
    obtain⟨l,hl⟩:=h.where_own hq
    have h2:=h.pg _ _ l hl
    refine⟨l,?_,h2.2.2⟩
    rw[←hm.1,zbv h2.2.1,hl];rfl
  ·have:(W.gm n).map p=none:=by show (if 32≤p then none else _)=none;rw[if_pos (by omega)]
   rw[this] at hm;cases hm
 refine⟨fun p hp=>by show (if 32≤p then none else _)=none;rw[if_pos hp],fun p f w hm=>?_,fun p f w hm=>?_⟩
 ·obtain⟨l,h1,h2,_⟩:=key p f w hm;rw[h1];exact h2
 ·obtain⟨l,h1,_,h2⟩:=key p f w hm;rw[h1];exact h2
theorem By.part {S:Mem} {p:Sl} {xs:List Int} (h:By S p xs) (h0:0<xs.length):∃ b o,p.p=some (b,o)∧S.part b o (xs.length*1)=some (bL xs):=by
 have hl:=h.len
 rcases h.lie with h1 | ⟨b,o,h1,h2⟩
 ·omega
 ·refine⟨b,o,h1,?_⟩
  obtain⟨k,hk,_⟩:=jJ (h2 0 h0)
  have hc:∀ i (hi:i<xs.length),nthL k.cs (o+i)=some (.int .u8 xs[i]):=fun i hi=>by have:=h2 i hi;rwa [qq hk] at this
  have hlast:=km (hc (xs.length-1) (by omega))
  rw[wl hk,zU (by omega)]
  congr 1
  apply List.ext_getElem?
  intro i
  rw[List.getElem?_take,List.getElem?_drop,Nat.mul_one]
  by_cases hi:i<xs.length
  ·rw[if_pos hi]
   have:=hc i hi
   rw[zv] at this
   rw[this]
   simp[bL,List.getElem?_eq_getElem hi]
  ·rw[if_neg hi,List.getElem?_eq_none (by simp[bL];omega)]
end Go.Cr
namespace Go.Proofs.YtabdpmnhjlmnlaaGreatDoor
open Go Go.Pt Go.Cr Go.Hp
section
variable {S S':Mem} {ρ ρ':Rho} {h:Nat} {A:Ad} {C:Cst} {W:Wd} {φ:Nat→Nat→Nat}
def BI (h n:Nat) (C:Cst) (W:Wd) (φ:Nat→Nat→Nat) (t:Nat) (x:Nat→Vx) (S:Mem) (ρ:Rho) (g:GM):Prop:=
 ∃ A d ca dt,CrabA S ρ h A { C with cache:=ca,dat:=dt }∧Rel { C with cache:=ca,dat:=dt } (W.setDat d) φ∧g=(W.setDat d).gm n∧A.t=t∧A.x=x
abbrev R026 (r:Nat):Prop:=r=0∨r=6∨r=2
end
end Go.Proofs.YtabdpmnhjlmnlaaGreatDoor
end
section
namespace Go.Proofs.YtabdpmnhjlmnlaaGreatDoor
open Go Go.Pt
attribute [local irreducible] Code.wp Back bodyPost wpList FR WL WC WQ WA AW Tr Yc HC AllC
set_option maxRecDepth 20000
set_option maxHeartbeats 4000000
set_option linter.unusedVariables false
end Go.Proofs.YtabdpmnhjlmnlaaGreatDoor
end
section
namespace Go.Cr
open Go Go.Pt
def lsC (ls:Nat→Ls):List Value:=cF 16 fun i=>lsL (ls i)
theorem jL {n:Nat} {f:Nat→List Value} (h:∀ i,i<n→(f i).all (·.oneCell')=true):(cF n f).all (·.oneCell')=true:=by
 rw[List.all_eq_true]
 intro x hx
 obtain⟨i,hi,h2⟩:=zas hx
 exact List.all_eq_true.1 (h i hi) x h2
end Go.Cr
namespace Go.Proofs.YtabdpmnhjlmnlaaGreatDoor
open Go Go.Pt Go.Cr
section
variable {S:Mem} {ls:Nat→Ls}
def z96:List Value:=[.bool false,.int .i64 0,.int .i64 0,.int .i64 0,.bool false,.int .i64 0]
end
end Go.Proofs.YtabdpmnhjlmnlaaGreatDoor
end
section
namespace Go.Cr
open Go Go.Pt
section
variable {C:Cst} {W:Wd} {φ:Nat→Nat→Nat}
theorem WOk.setL (h:WOk W) {i:Nat} {l:Ls} (hi:i<16)
  (h1:l.on=true→(W.vm l.fr).on=true∧(W.vm l.to).on=true∧l.fr≠l.to∧(W.own l.fr l.pg).isSome=true∧-1≤l.at_∧l.at_≤31) (h2:l.on=false→l=ls0) (h3:l.on=true→∀ p:Nat,l.at_=p→W.own l.to p=none)
  (h4:l.on=true→0≤l.at_→∀ j,j≠i→(W.ls j).on=true→(W.ls j).to=l.to→(W.ls j).at_≠l.at_):WOk (W.setL i l):=by
 have e0:(W.setL i l).ls i=l:=zi
 have e1:∀ j,j≠i→(W.setL i l).ls j=W.ls j:=fun j hj=>ze hj
 refine { h with lsr:=fun j hj=>?_,lso:=fun j hj=>?_,lsa:=fun j hj=>?_,lsu:=fun j k hj hk ht h0 ha=>?_ }
 ·by_cases e:j=i
  ·subst e;rw[e0] at hj ⊢;exact⟨hi,h1 hj⟩
  ·rw[e1 j e] at hj ⊢;exact h.lsr j hj
 ·by_cases e:j=i
  ·subst e;rw[e0] at hj ⊢;exact h2 hj
  ·rw[e1 j e] at hj ⊢;exact h.lso j hj
 ·by_cases e:j=i
  ·subst e;rw[e0] at hj ⊢;exact h3 hj
  ·rw[e1 j e] at hj ⊢;exact h.lsa j hj
 ·by_cases e:j=i
  ·by_cases e2:k=i
   ·rw[e,e2]
   ·subst e
    rw[e0] at hj h0 ht ha
    rw[e1 k e2] at hk ht ha
    exact absurd ha.symm (h4 hj h0 k e2 hk ht.symm)
  ·by_cases e2:k=i
   ·subst e2
    rw[e0] at hk ht ha
    rw[e1 j e] at hj ht h0 ha
    exact absurd ha (h4 hk (by omega) j e hj ht)
   ·rw[e1 j e] at hj ht h0 ha
    rw[e1 k e2] at hk ht ha
    exact h.lsu j k hj hk ht h0 ha
theorem gp {p q:Nat→Bool} {n:Nat} (h:∀ i,i<n→p i=q i):(List.range n).find? p=(List.range n).find? q:=by
 have:=vE (u:=fun i=>! p i) (u':=fun i=>! q i) (N:=n) fun i hi=>by rw[h i hi]
 simpa [firstOff] using this
theorem jm {ls:Nat→Ls} {i:Nat} {l:Ls} {m:Nat} {p:Int} (h1:¬((ls i).on=true∧(ls i).to=m∧(ls i).at_=p)) (h2:¬(l.on=true∧l.to=m∧l.at_=p)):leaseAt (upd ls i l) m p=leaseAt ls m p:=by
 unfold leaseAt
 apply gp
 intro j _
 by_cases e:j=i
 ·subst e
  rw[zi]
  rw[Bool.eq_iff_iff]
  simp only[Bool.and_eq_true,decide_eq_true_eq]
  exact⟨fun h=>absurd h h2,fun h=>absurd h h1⟩
 ·rw[ze e]
theorem yk {ls:Nat→Ls} {m i:Nat} {p:Int} (h:leaseAt ls m p=some i):i<16∧(ls i).on=true∧(ls i).to=m∧(ls i).at_=p:=by
 have h1:=List.find?_some h
 have h2:=List.mem_of_find?_eq_some h
 simp only[Bool.and_eq_true,decide_eq_true_eq] at h1
 exact⟨List.mem_range.1 h2,h1⟩
theorem gh (h:WOk W) {i:Nat} {p:Int} (hon:(W.ls i).on=true) (ha:(W.ls i).at_=p) (h0:0≤p):leaseAt W.ls (W.ls i).to p=some i:=by
 have hi:=(h.lsr i hon).1
 cases hf:leaseAt W.ls (W.ls i).to p with
 | none=>
  have:=List.find?_eq_none.1 hf i (List.mem_range.2 hi)
  simp[hon,ha] at this
 | some j=>
  obtain⟨_,h1,h2,h3⟩:=yk hf
  rw[h.lsu i j hon h1 h2.symm (by omega) (by rw[ha,h3])]
theorem fc {ls:Nat→Ls} {i:Nat} (hi:i<16) (l:Ls) (n p:Nat):lentN (upd ls i l) n p+((ls i).on && (decide ((ls i).fr=n) && decide ((ls i).pg=p))).toNat=lentN ls n p+(l.on && (decide (l.fr=n) && decide (l.pg=p))).toNat:=by
 unfold lentN
 have e:(fun j=>(upd ls i l j).on && (decide ((upd ls i l j).fr=n) && decide ((upd ls i l j).pg=p)))=upd (fun j=>(ls j).on && (decide ((ls j).fr=n) && decide ((ls j).pg=p))) i (l.on && (decide (l.fr=n) && decide (l.pg=p))):=by
  funext j
  unfold upd
  split <;> rfl
 rw[e]
 exact yx (g:=fun j=>(ls j).on && (decide ((ls j).fr=n) && decide ((ls j).pg=p))) hi _
theorem gD {d:Nat→List Int} {N:Nat} {tf:Int} {fr:List Nat} (hl:fr.length=5) (hN:∀ j,j<5→fr.getD j 0<N) (hr:∀ j,j<4→unp tf (ld d (fr.getD 0 0) j)=some (fr.getD (j+1) 0,true)) {p:Nat} (hp:p<32):walkC d N tf fr p=unp tf (ld d (fr.getD (p/8+1) 0) (p%8)):=by
 have h1:=hr (p/8) (by omega)
 have h2:=hN (p/8+1) (by omega)
 have h3:=hN 0 (by decide)
 match fr,hl with
 | [a,b,c,e,g],_=>
  unfold walkC leafC
  rw[if_neg (by omega)]
  dsimp only
  rw[List.getD_cons_zero] at h1 h3
  have e1:((p:Int)/8).toNat=p/8:=by omega
  have e2:((p:Int)%8).toNat=p%8:=by omega
  rw[if_pos h3,e1,e2,h1]
  dsimp only [Option.map_some]
  rw[if_pos h2]
structure Tu (C:Cst) (n p:Nat) (w:Int) (d:Nat→List Int):Prop where
 ld:∀ m j i,C.fr m≠[]→j<5→i<32→Go.Cr.ld d ((C.fr m).getD j 0) i=if m=n∧j=p/8+1∧i=p%8 then w else Go.Cr.ld C.dat ((C.fr m).getD j 0) i
 oth:∀ f,(C.own f).kind≠2→d f=C.dat f
 len:∀ f,f<C.N→(d f).length=256∧Byt (d f)
theorem Rel.tu (h:Rel C W φ) {n p:Nat} (hn:(W.vm n).on=true) (hp:p<32) {w:Int} (hw:W64 w):Tu C n p w (setC C.dat C.N (C.tf n) (C.fr n) p w):=by
 have e:setC C.dat C.N (C.tf n) (C.fr n) p w=wr C.dat ((C.fr n).getD (p/8+1) 0) (8*(p%8)) (bytes8 w):=by
  unfold setC
  rw[h.leafC hn hp]
  dsimp only
  rw[if_pos (h.frN hn (by omega)).1]
 have hf:=h.frN hn (j:=p/8+1) (by omega)
 have hl:=(h.len _ hf.1).1
 have h8:=wu w
 rw[e]
 refine⟨fun m j i hm hj hi=>?_,fun f hk=>zbf fun e2=>?_,fun f hf'=>⟨by rw[zak (by rw[hl,h8];omega)];exact (h.len f hf').1,zal (vT w) (h.len f hf').2⟩⟩
 ·rw[zbq hl (by omega) hi hw]
  have hmo:(W.vm m).on=true:=by
   cases hv:(W.vm m).on with
   | true=>rfl
   | false=>exact absurd (h.off m hv).1 hm
  have hmf:=h.frN hmo hj
  by_cases ee:m=n∧j=p/8+1∧i=p%8
  ·rw[if_pos ee,if_pos ⟨by rw[ee.1,ee.2.1],ee.2.2⟩]
  ·rw[if_neg ee,if_neg]
   rintro⟨e1,e2⟩
   apply ee
   have hmn:m=n:=by
    have:=hmf.2
    rw[e1,hf.2] at this
    simp only[Ow.mk.injEq] at this
    omega
   subst hmn
   refine⟨rfl,?_,e2⟩
   have hnd:=(h.tab m hmo).2.2
   have hlen:=(h.tab m hmo).2.1
   rw[List.getD_eq_getElem?_getD,List.getD_eq_getElem?_getD,List.getElem?_eq_getElem (by omega),List.getElem?_eq_getElem (by omega)] at e1
   exact (List.getElem_inj hnd).1 e1
 ·rw[e2,hf.2] at hk
  exact hk rfl
section
variable {n p:Nat} {w:Int} {d:Nat→List Int}
theorem Tu.root (t:Tu C n p w d) (h:Rel C W φ) {m j:Nat} (hm:(W.vm m).on=true) (hj:j<4):unp C.form (Go.Cr.ld d ((C.fr m).getD 0 0) j)=some ((C.fr m).getD (j+1) 0,true):=by
 have hne:C.fr m≠[]:=fun e=>by have:=(h.tab m hm).2.1;rw[e] at this;simp at this
 rw[t.ld m 0 j hne (by decide) (by omega),if_neg (by omega)]
 exact h.root m j hm hj
theorem Tu.leaf (t:Tu C n p w d) (h:Rel C W φ) {m q:Nat} (hm:(W.vm m).on=true) (hq:q<32):unp C.form (Go.Cr.ld d ((C.fr m).getD (q/8+1) 0) (q%8))=if m=n∧q=p then unp C.form w else (W.where_ m q).map fun x=>(φ x.1 x.2.1,x.2.2):=by
 have hne:C.fr m≠[]:=fun e=>by have:=(h.tab m hm).2.1;rw[e] at this;simp at this
 rw[t.ld m _ _ hne (by omega) (by omega)]
 by_cases e:m=n∧q=p
 ·rw[if_pos e,if_pos ⟨e.1,by rw[e.2],by rw[e.2]⟩]
 ·rw[if_neg e,if_neg (fun h=>e ⟨h.1,by omega⟩)]
  exact h.leaf m q hm hq
theorem Tu.walk (t:Tu C n p w d) (h:Rel C W φ) {m:Nat} (hm:(W.vm m).on=true) {page:Int} (hne:¬(m=n∧page=p)):walkC d C.N (C.tf m) (C.fr m) page=C.walk m page:=by
 by_cases hp:page<0∨31<page
 ·rw[vW hp]
  unfold walkC Go.Cr.leafC
  rw[if_pos hp]
 ·obtain⟨q,rfl⟩:∃ q:Nat,page=q:=⟨page.toNat,by omega⟩
  have hf:=(h.tab m hm).1
  rw[gD (h.tab m hm).2.1 (fun j hj=>(h.frN hm hj).1) (fun j hj=>by rw[hf];exact t.root h hm hj) (by omega),hf,t.leaf h hm (by omega),if_neg (by omega),h.walk hm (by omega)]
theorem Tu.cache (t:Tu C n p w d) (h:Rel C W φ):∀ r∈dropC C.cache n p,∃ m:Nat,r.vm=m∧(W.vm m).on=true∧walkC d C.N (C.tf m) (C.fr m) r.page=some (r.f,r.w):=fun r hr=>by
 obtain⟨h1,h2⟩:=vr hr
 obtain⟨m,e1,e2,e3⟩:=h.cache r h1
 refine⟨m,e1,e2,?_⟩
 rw[t.walk h e2 (fun e=>h2 ⟨by rw[e1,e.1],e.2⟩)]
 exact e3
end
theorem where_own {n p:Nat} {l:List Int} (h:W.own n p=some l):W.where_ n p=some (n,p,true):=by
 unfold Wd.where_
 rw[h];rfl
theorem Rel.offer (h:Rel C W φ) {n p to i:Nat} {w:Bool} (hon:(W.vm n).on=true) (hto:(W.vm to).on=true) (hne:n≠to) {l:List Int} (ho:W.own n p=some l) (hi:firstOff (fun i=>(W.ls i).on) 16=some i):Rel { C with ls:=upd C.ls i ⟨true,n,p,to,w,-1⟩,own:=shC C.own (φ n p) n } (W.setL i ⟨true,n,p,to,w,-1⟩) φ:=by
 obtain⟨hi16,hioff,_⟩:=zK hi
 have hpg:=h.pg n p l ho
 have hw:∀ m q,(W.setL i ⟨true,n,p,to,w,-1⟩).where_ m q=W.where_ m q:=fun m q=>by
  have e:=jm (ls:=W.ls) (i:=i) (l:=⟨true,n,p,to,w,-1⟩) (m:=m) (p:=q) (fun h=>by rw[hioff] at h;cases h.1) (fun h=>by have:=h.2.2;simp only at this;omega)
  unfold Wd.where_
  show (if (W.own m q).isSome=true then _ else (leaseAt (upd W.ls i _) m q).map _)=_
  split
  ·rfl
  ·rw[e]
   cases hf:leaseAt W.ls m q with
   | none=>rfl
   | some j=>
    obtain⟨_,hj,_⟩:=yk hf
    have:j≠i:=fun e=>by subst e;rw[hioff] at hj;cases hj
    simp only[Option.map_some]
    show some ((upd W.ls i _ j).fr,(upd W.ls i _ j).pg,(upd W.ls i _ j).wr)=_
    rw[ze this]
 have hown:shC C.own (φ n p) n=upd C.own (φ n p) ⟨3,n,p,lentN W.ls n p+1⟩:=by
  unfold shC
  rw[hpg.2.1,if_pos ⟨rfl,rfl⟩]
 have hk:∀ f,(upd C.own (φ n p) ⟨3,n,p,lentN W.ls n p+1⟩ f).kind=(C.own f).kind:=fun f=>by
  by_cases e:f=φ n p
  ·rw[e,zi,hpg.2.1]
  ·rw[ze e]
 have hoth:∀ f,(C.own f).kind≠3→upd C.own (φ n p) ⟨3,n,p,lentN W.ls n p+1⟩ f=C.own f:=fun f hf=>ze fun e=>by rw[e,hpg.2.1] at hf;exact hf rfl
 have hlent:∀ m q,lentN (upd W.ls i ⟨true,n,p,to,w,-1⟩) m q=lentN W.ls m q+(decide (n=m) && decide (p=q)).toNat:=fun m q=>by
  have:=fc (ls:=W.ls) hi16 ⟨true,n,p,to,w,-1⟩ m q
  rw[hioff] at this
  simpa using this
 rw[hown]
 exact { h with
  wk:=h.wk.setL hi16 (fun _=>⟨hon,hto,hne,by show (W.own n p).isSome=true;rw[ho];rfl,show (-1:Int)≤-1 by decide,show (-1:Int)≤31 by decide⟩) (fun h=>by cases h) (fun _ q hq=>by simp only at hq;omega) (fun _ h0=>by simp only at h0;omega)
  ls:=by show upd C.ls i _=upd W.ls i _;rw[h.ls]
  used:=fun f hf=>by show C.used f=decide ((upd C.own _ _ f).kind≠0);rw[hk];exact h.used f hf
  own0:=fun f hf h0=>by
   have h0':(upd C.own (φ n p) ⟨3,n,p,lentN W.ls n p+1⟩ f).kind=0:=h0
   rw[hk] at h0'
   show upd C.own _ _ f=ow0
   rw[hoth f (by rw[h0'];decide)];exact h.own0 f hf h0'
  kind:=fun f hf=>by show 0≤(upd C.own _ _ f).kind∧_;rw[hk];exact h.kind f hf
  tabf:=fun m f hm=>by
   have:=h.tabf m f hm
   refine⟨this.1,?_⟩
   show upd C.own _ _ f=_
   rw[hoth f (by rw[this.2];show (2:Int)≠3;decide)];exact this.2
  tabk:=fun f hf h2=>by
   have h2':(upd C.own (φ n p) ⟨3,n,p,lentN W.ls n p+1⟩ f).kind=2:=h2
   rw[hk] at h2';exact h.tabk f hf h2'
  leaf:=fun m q hm hq=>by rw[hw];exact h.leaf m q hm hq
  pg:=fun m q l2 hl2=>by
   have h3:=h.pg m q l2 hl2
   refine⟨h3.1,?_,h3.2.2⟩
   show upd C.own (φ n p) _ (φ m q)=⟨3,m,q,lentN (upd W.ls i _) m q⟩
   rw[hlent]
   by_cases e:n=m∧p=q
   ·obtain⟨rfl,rfl⟩:=e
    rw[zi];simp
   ·rw[ze (fun e2=>e (by have:=h.inj hl2 ho e2;exact⟨this.1.symm,this.2.symm⟩)),h3.2.1]
    have:(decide (n=m) && decide (p=q))=false:=by simpa using e
    rw[this];simp
  pgk:=fun f hf h3=>by
   have h3':(upd C.own (φ n p) ⟨3,n,p,lentN W.ls n p+1⟩ f).kind=3:=h3
   rw[hk] at h3';exact h.pgk f hf h3'
  hyp:=⟨h.hyp.1,fun f=>by
   show _↔f<C.N∧(upd C.own _ _ f).kind=1
   rw[hk];exact h.hyp.2 f⟩ }
theorem jP {n p:Nat} (h:W.where_ n p=none):W.own n p=none∧leaseAt W.ls n p=none:=by
 unfold Wd.where_ at h
 split at h
 ·cases h
 ·rename_i hs
  refine⟨by cases ho:W.own n p with | none=>rfl | some l=>rw[ho] at hs;simp at hs,?_⟩
  cases hf:leaseAt W.ls n p with
  | none=>rfl
  | some j=>rw[hf] at h;cases h
end
end Go.Cr
end
