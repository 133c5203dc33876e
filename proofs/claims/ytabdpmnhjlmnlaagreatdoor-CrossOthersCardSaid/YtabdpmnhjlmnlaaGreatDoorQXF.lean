/- Texts of this work,joined by program (pack.py): Co,Hy,Hz,Ia,Ib,Ya,Yb,Yc,PsN,Ic,Ce,Sk,Id,Ie,Ck,If,Ig,Ih,Ii. -/
import Derived.Test.YtabdpmnhjlmnlaaGreatDoorQXE
import Derived.Test.YtabdpmnhjlmnlaaGreatDoorQXC
import Derived.Test.YtabdpmnhjlmnlaaGreatDoorQXB
import Derived.Test.YtabdpmnhjlmnlaaGreatDoorQXD
set_option linter.unusedVariables false
section
namespace Go.Cr
open Go Go.Pt
section
variable {C:Cst} {W:Wd} {φ:Nat→Nat→Nat}
theorem vD {n p:Nat} (h1:W.own n p=none) (h2:leaseAt W.ls n p=none):W.where_ n p=none:=by
 unfold Wd.where_
 rw[h1,h2];rfl
theorem setO_own {n p:Nat} {o:Option (List Int)} {m q:Nat}:(W.setO n p o).own m q=if m=n∧q=p then o else W.own m q:=by
 show upd W.own n (upd (W.own n) p o) m q=_
 by_cases e:m=n
 ·subst e
  rw[zi]
  by_cases e2:q=p
  ·subst e2;rw[zi,if_pos ⟨rfl,rfl⟩]
  ·rw[ze e2,if_neg (fun h=>e2 h.2)]
 ·rw[ze e,if_neg (fun h=>e h.1)]
theorem Rel.clear (h:Rel C W φ) {f:Nat} (hf:(C.own f).kind=0) {l:List Int} (hl:l.length=256∧Byt l):Rel { C with dat:=upd C.dat f l } W φ:=by
 have hk:(C.own f).kind≠2:=by rw[hf];decide
 exact { h with
  len:=fun g hg=>by
   show (upd C.dat f l g).length=256∧Byt (upd C.dat f l g)
   by_cases e:g=f
   ·rw[e,zi];exact hl
   ·rw[ze e];exact h.len g hg
  root:=fun n j hn hj=>by
   show unp C.form (ld (upd C.dat f l) ((C.fr n).getD 0 0) j)=_
   rw[h.ld_keep hk hn (by decide)];exact h.root n j hn hj
  leaf:=fun n p hn hp'=>by
   show unp C.form (ld (upd C.dat f l) ((C.fr n).getD (p/8+1) 0) (p%8))=_
   rw[h.ld_keep hk hn (by omega)];exact h.leaf n p hn hp'
  pg:=fun n p l2 hl2=>by
   have h3:=h.pg n p l2 hl2
   refine⟨h3.1,h3.2.1,?_⟩
   show upd C.dat f l (φ n p)=l2
   rw[ze (fun e=>by have h4:=h3.2.1;rw[e] at h4;rw[h4] at hf;cases hf)]
   exact h3.2.2
  cache:=fun r hr=>by
   obtain⟨n,h1,h2,h3⟩:=h.cache r hr
   exact⟨n,h1,h2,by rw[←h3];exact h.walk_keep hk h2 r.page⟩ }
theorem fd {ls:Nat→Ls} {n p:Nat}:lentL ls n p=false↔lentN ls n p=0:=by
 unfold lentL lentN count
 rw[List.any_eq_false,List.length_eq_zero_iff,List.filter_eq_nil_iff]
 constructor
 ·intro h i hi
  have:=h i hi
  simp only[Bool.and_eq_true,decide_eq_true_eq,Int.natCast_inj] at this ⊢
  exact this
 ·intro h i hi
  have:=h i hi
  simp only[Bool.and_eq_true,decide_eq_true_eq,Int.natCast_inj] at this ⊢
  exact this
theorem Rel.give (h:Rel C W φ) {n p:Nat} {l:List Int} (ho:W.own n p=some l) (hl:lentL W.ls n p=false) :
  Rel { C with dat:=setC C.dat C.N (C.tf n) (C.fr n) p 0,cache:=dropC C.cache n p,own:=recC C.own (φ n p) n,used:=upd C.used (φ n p) false } { W.setO n p none with free:=W.free+1 } φ∧C.used (φ n p)=true:=by
 have hwp:=h.wk.pg n p l ho
 have hpg:=h.pg n p l ho
 have hon:=hwp.1
 have htf:=(h.tab n hon).1
 have ht:=h.tu hon hwp.2.1 (w:=0) ⟨by decide,by decide⟩
 have h0:=fd.1 hl
 have hused:C.used (φ n p)=true:=by rw[h.used _ hpg.1,hpg.2.1];rfl
 refine⟨?_,hused⟩
 have hown:recC C.own (φ n p) n=upd C.own (φ n p) ow0:=by
  unfold recC
  rw[hpg.2.1,if_pos ⟨rfl,rfl,by show ((lentN W.ls n p:Nat):Int)≤0;omega⟩]
 rw[hown]
 have hat:leaseAt W.ls n p=none:=by
  cases hf:leaseAt W.ls n p with
  | none=>rfl
  | some j=>
   obtain⟨_,h1,h2,h3⟩:=yk hf
   have:=h.wk.lsa j h1 p h3
   rw[h2,ho] at this;cases this
 have hw:∀ m q,({ W.setO n p none with free:=W.free+1 }:Wd).where_ m q=if m=n∧q=p then none else W.where_ m q:=fun m q=>by
  have e1:({ W.setO n p none with free:=W.free+1 }:Wd).where_ m q=(W.setO n p none).where_ m q:=rfl
  rw[e1]
  by_cases e:m=n∧q=p
  ·rw[if_pos e]
   obtain⟨rfl,rfl⟩:=e
   exact vD (by rw[setO_own,if_pos ⟨rfl,rfl⟩]) hat
  ·rw[if_neg e]
   unfold Wd.where_
   rw[setO_own,if_neg e];rfl
 have hnl:∀ i,(W.ls i).on=true→¬((W.ls i).fr=n∧(W.ls i).pg=p):=fun i hi e=>by
  have:=vR h0 i (h.wk.lsr i hi).1
  simp[hi,e.1,e.2] at this
 have hwk:WOk { W.setO n p none with free:=W.free+1 }:=by
  refine { h.wk with off:=fun i hi=>⟨(h.wk.off i hi).1,fun q=>?_,(h.wk.off i hi).2.2⟩,pg:=fun m q l2 hl2=>?_,most:=fun m=>?_,lsr:=fun i hi=>?_,lsa:=fun i hi q hq=>?_ }
  ·show (W.setO n p none).own i q=none
   rw[setO_own];split
   ·rfl
   ·exact (h.wk.off i hi).2.1 q
  ·have hl2':(W.setO n p none).own m q=some l2:=hl2
   rw[setO_own] at hl2'
   split at hl2'
   ·cases hl2'
   ·exact h.wk.pg m q l2 hl2'
  ·refine Int.le_trans ?_ (h.wk.most m)
   have:count (fun q=>((W.setO n p none).own m q).isSome) 32≤count (fun q=>(W.own m q).isSome) 32:=vS fun q _ hq=>by
    rw[setO_own] at hq
    split at hq
    ·cases hq
    ·exact hq
   exact Int.ofNat_le.2 this
  ·have hh:=h.wk.lsr i hi
   refine⟨hh.1,hh.2.1,hh.2.2.1,hh.2.2.2.1,?_,hh.2.2.2.2.2⟩
   show ((W.setO n p none).own (W.ls i).fr (W.ls i).pg).isSome=true
   rw[setO_own,if_neg (hnl i hi)];exact hh.2.2.2.2.1
  ·show (W.setO n p none).own (W.ls i).to q=none
   rw[setO_own];split
   ·rfl
   ·exact h.wk.lsa i hi q hq
 have hne:∀ m q l2,W.own m q=some l2→¬(m=n∧q=p)→φ m q≠φ n p:=fun m q l2 hl2 e e2=>e (h.inj hl2 ho e2)
 have hk:∀ f,f≠φ n p→upd C.own (φ n p) ow0 f=C.own f:=fun f e=>ze e
 exact { h with
  wk:=hwk
  free:=by
   show W.free+1=(count (fun f=>! upd C.used (φ n p) false f) C.N:Int)
   have e1:(fun f=>! upd C.used (φ n p) false f)=upd (fun f=>! C.used f) (φ n p) true:=by
    funext g;unfold upd;split <;> rfl
   have:=yx (g:=fun f=>! C.used f) hpg.1 true
   rw[←e1] at this
   simp only[hused,Bool.not_true,Bool.toNat_false,Bool.toNat_true] at this
   rw[h.free];omega
  used:=fun f hf=>by
   show upd C.used (φ n p) false f=decide ((upd C.own (φ n p) ow0 f).kind≠0)
   by_cases e:f=φ n p
   ·rw[e,zi,zi];rfl
   ·rw[ze e,ze e];exact h.used f hf
  own0:=fun f hf hk0=>by
   show upd C.own (φ n p) ow0 f=ow0
   by_cases e:f=φ n p
   ·rw[e,zi]
   ·have hk0':(upd C.own (φ n p) ow0 f).kind=0:=hk0
    rw[ze e] at hk0' ⊢;exact h.own0 f hf hk0'
  kind:=fun f hf=>by
   show 0≤(upd C.own (φ n p) ow0 f).kind∧(upd C.own (φ n p) ow0 f).kind≤3
   by_cases e:f=φ n p
   ·rw[e,zi];exact⟨show (0:Int)≤0 by decide,show (0:Int)≤3 by decide⟩
   ·rw[ze e];exact h.kind f hf
  len:=ht.len
  tabf:=fun m f hm=>by
   have:=h.tabf m f hm
   refine⟨this.1,?_⟩
   show upd C.own (φ n p) ow0 f=_
   rw[ze (fun e=>by rw[e,hpg.2.1] at this;cases this.2)];exact this.2
  tabk:=fun f hf h2=>by
   have h2':(upd C.own (φ n p) ow0 f).kind=2:=h2
   by_cases e:f=φ n p
   ·rw[e,zi] at h2';cases h2'
   ·rw[ze e] at h2';exact h.tabk f hf h2'
  root:=fun m j hm hj=>ht.root h hm hj
  leaf:=fun m q hm hq=>by
   show unp C.form (ld (setC C.dat C.N (C.tf n) (C.fr n) p 0) ((C.fr m).getD (q/8+1) 0) (q%8))=_
   rw[ht.leaf h hm hq,hw]
   split
   ·rw[jw];rfl
   ·rfl
  pg:=fun m q l2 hl2=>by
   have hl2':(W.setO n p none).own m q=some l2:=hl2
   rw[setO_own] at hl2'
   by_cases e:m=n∧q=p
   ·rw[if_pos e] at hl2';cases hl2'
   ·rw[if_neg e] at hl2'
    have h3:=h.pg m q l2 hl2'
    refine⟨h3.1,?_,?_⟩
    ·show upd C.own (φ n p) ow0 (φ m q)=_
     rw[ze (hne m q l2 hl2' e)];exact h3.2.1
    ·show setC C.dat C.N (C.tf n) (C.fr n) p _ (φ m q)=l2
     rw[ht.oth _ (by rw[h3.2.1];show (3:Int)≠2;decide)];exact h3.2.2
  pgk:=fun f hf h3=>by
   have h3':(upd C.own (φ n p) ow0 f).kind=3:=h3
   by_cases e:f=φ n p
   ·rw[e,zi] at h3';cases h3'
   ·rw[ze e] at h3'
    obtain⟨m,q,h4,h5⟩:=h.pgk f hf h3'
    refine⟨m,q,?_,h5⟩
    show ((W.setO n p none).own m q).isSome=true
    rw[setO_own,if_neg (fun e2=>e (by rw[←h5,e2.1,e2.2]))];exact h4
  hyp:=⟨h.hyp.1,fun f=>by
   show _↔f<C.N∧(upd C.own (φ n p) ow0 f).kind=1
   by_cases e:f=φ n p
   ·rw[e,zi,h.hyp.2 (φ n p),hpg.2.1]
    exact⟨fun h=>(by cases h.2),fun h=>(by cases h.2)⟩
   ·rw[ze e];exact h.hyp.2 f⟩
  cache:=ht.cache (W:=W) (φ:=φ) h
  csize:=Nat.le_trans vt h.csize }
def upφ (φ:Nat→Nat→Nat) (n p f:Nat):Nat→Nat→Nat:=fun m q=>if m=n∧q=p then f else φ m q
theorem Rel.get (h:Rel C W φ) {n p f:Nat} {l:List Int} (hl:l.length=256∧Byt l) (hon:(W.vm n).on=true) (hp:p<32) (hno:W.where_ n p=none) (hq:(W.pages n:Int)<(W.vm n).quota) (hf:firstOff C.used C.N=some f) (w:Bool) (hww:w=true) :
  Rel { C with dat:=setC (upd C.dat f l) C.N (C.tf n) (C.fr n) p (pk (C.tf n) f w),cache:=dropC C.cache n p,own:=donC C.own f n p,used:=upd C.used f true } { W.setO n p (some l) with free:=W.free-1 } (upφ φ n p f):=by
 subst hww
 obtain⟨hfN,hfu,_⟩:=zK hf
 have hN:=h.N
 have hk0:(C.own f).kind=0:=by
  have:=h.used f hfN
  rw[hfu] at this
  have h2:=of_decide_eq_false this.symm
  exact Classical.byContradiction fun h3=>h2 h3
 have h':=h.clear hk0 hl
 have htf:=(h.tab n hon).1
 have ht:=h'.tu hon hp (w:=pk (C.tf n) f true) (zbL (by omega)).1
 have hn1:=jP hno
 have hown:donC C.own f n p=upd C.own f ⟨3,n,p,0⟩:=by unfold donC;rw[if_pos hk0]
 rw[hown]
 have hw:∀ m q,({ W.setO n p (some l) with free:=W.free-1 }:Wd).where_ m q=if m=n∧q=p then some (n,p,true) else W.where_ m q:=fun m q=>by
  have e1:({ W.setO n p (some l) with free:=W.free-1 }:Wd).where_ m q=(W.setO n p (some l)).where_ m q:=rfl
  rw[e1]
  unfold Wd.where_
  rw[setO_own]
  by_cases e:m=n∧q=p
  ·rw[if_pos e,if_pos e,e.1,e.2];rfl
  ·rw[if_neg e,if_neg e];rfl
 have hφ:∀ m q l2,W.own m q=some l2→upφ φ n p f m q=φ m q:=fun m q l2 hl2=>by
  unfold upφ
  rw[if_neg]
  rintro⟨rfl,rfl⟩
  rw[hn1.1] at hl2;cases hl2
 have h0:lentN W.ls n p=0:=xn fun i hi=>by
  cases hb:((W.ls i).on && (decide ((W.ls i).fr=n) && decide ((W.ls i).pg=p))) with
  | false=>rfl
  | true=>
   simp only[Bool.and_eq_true,decide_eq_true_eq] at hb
   have:=(h.wk.lsr i hb.1).2.2.2.2.1
   rw[hb.2.1,hb.2.2,hn1.1] at this;cases this
 have hne:∀ m q l2,W.own m q=some l2→φ m q≠f:=fun m q l2 hl2 e=>by
  have:=(h.pg m q l2 hl2).2.1
  rw[e] at this;rw[this] at hk0;cases hk0
 have hwk:WOk { W.setO n p (some l) with free:=W.free-1 }:=by
  refine { h.wk with off:=fun i hi=>⟨(h.wk.off i hi).1,fun q=>?_,(h.wk.off i hi).2.2⟩,pg:=fun m q l2 hl2=>?_,most:=fun m=>?_,lsr:=fun i hi=>?_,lsa:=fun i hi q hq=>?_ }
  ·show (W.setO n p (some l)).own i q=none
   rw[setO_own,if_neg (fun e=>by rw[e.1] at hi;have:(W.vm n).on=false:=hi;rw[hon] at this;cases this)]
   exact (h.wk.off i hi).2.1 q
  ·have hl2':(W.setO n p (some l)).own m q=some l2:=hl2
   rw[setO_own] at hl2'
   split at hl2'
   ·rename_i e
    cases hl2'
    exact⟨by rw[e.1];exact hon,by rw[e.2];exact hp,hl⟩
   ·exact h.wk.pg m q l2 hl2'
  ·show ((count (fun q=>((W.setO n p (some l)).own m q).isSome) 32:Nat):Int)≤(W.vm m).quota
   by_cases e:m=n
   ·subst e
    have e1:(fun q=>((W.setO m p (some l)).own m q).isSome)=upd (fun q=>(W.own m q).isSome) p true:=by
     funext q
     rw[setO_own]
     by_cases e2:q=p
     ·subst e2;rw[if_pos ⟨rfl,rfl⟩,zi];rfl
     ·rw[if_neg (fun h=>e2 h.2),ze e2]
    have:=yx (g:=fun q=>(W.own m q).isSome) hp true
    rw[←e1] at this
    simp only[hn1.1,Option.isSome_none,Bool.toNat_false,Bool.toNat_true] at this
    have hq':((count (fun q=>(W.own m q).isSome) 32:Nat):Int)<(W.vm m).quota:=hq
    omega
   ·have:count (fun q=>((W.setO n p (some l)).own m q).isSome) 32=count (fun q=>(W.own m q).isSome) 32:=yL fun q _=>by rw[setO_own,if_neg (fun h=>e h.1)]
    rw[this];exact h.wk.most m
  ·have hh:=h.wk.lsr i hi
   refine⟨hh.1,hh.2.1,hh.2.2.1,hh.2.2.2.1,?_,hh.2.2.2.2.2⟩
   show ((W.setO n p (some l)).own (W.ls i).fr (W.ls i).pg).isSome=true
   rw[setO_own];split
   ·rfl
   ·exact hh.2.2.2.2.1
  ·show (W.setO n p (some l)).own (W.ls i).to q=none
   rw[setO_own,if_neg]
   ·exact h.wk.lsa i hi q hq
   ·rintro⟨e1,e2⟩
    have:=gh h.wk hi hq (by omega)
    rw[e1,e2,hn1.2] at this;cases this
 exact { h with
  wk:=hwk
  free:=by
   show W.free-1=(count (fun g=>! upd C.used f true g) C.N:Int)
   have e1:(fun g=>! upd C.used f true g)=upd (fun g=>! C.used g) f false:=by
    funext g;unfold upd;split <;> rfl
   have:=yx (g:=fun g=>! C.used g) hfN false
   rw[←e1] at this
   simp only[hfu,Bool.not_false,Bool.toNat_false,Bool.toNat_true] at this
   rw[h.free];omega
  used:=fun g hg=>by
   show upd C.used f true g=decide ((upd C.own f ⟨3,n,p,0⟩ g).kind≠0)
   by_cases e:g=f
   ·rw[e,zi,zi];rfl
   ·rw[ze e,ze e];exact h.used g hg
  own0:=fun g hg hk=>by
   have hk':(upd C.own f ⟨3,n,p,0⟩ g).kind=0:=hk
   show upd C.own f ⟨3,n,p,0⟩ g=ow0
   by_cases e:g=f
   ·rw[e,zi] at hk';cases hk'
   ·rw[ze e] at hk' ⊢;exact h.own0 g hg hk'
  kind:=fun g hg=>by
   show 0≤(upd C.own f ⟨3,n,p,0⟩ g).kind∧(upd C.own f ⟨3,n,p,0⟩ g).kind≤3
   by_cases e:g=f
   ·rw[e,zi];exact⟨show (0:Int)≤3 by decide,show (3:Int)≤3 by decide⟩
   ·rw[ze e];exact h.kind g hg
  len:=ht.len
  tabf:=fun m g hm=>by
   have:=h.tabf m g hm
   refine⟨this.1,?_⟩
   show upd C.own f ⟨3,n,p,0⟩ g=_
   rw[ze (fun e=>by rw[e] at this;rw[this.2] at hk0;cases hk0)];exact this.2
  tabk:=fun g hg h2=>by
   have h2':(upd C.own f ⟨3,n,p,0⟩ g).kind=2:=h2
   by_cases e:g=f
   ·rw[e,zi] at h2';cases h2'
   ·rw[ze e] at h2';exact h.tabk g hg h2'
  root:=fun m j hm hj=>ht.root h' hm hj
  leaf:=fun m q hm hq=>by
   show unp C.form (ld (setC (upd C.dat f l) C.N (C.tf n) (C.fr n) p _) ((C.fr m).getD (q/8+1) 0) (q%8))=_
   rw[ht.leaf h' hm hq,hw]
   by_cases e:m=n∧q=p
   ·rw[if_pos e,if_pos e,htf,zan (by omega),Option.map_some]
    unfold upφ
    rw[if_pos ⟨rfl,rfl⟩]
   ·rw[if_neg e,if_neg e]
    cases hwq:W.where_ m q with
    | none=>rfl
    | some x=>
     obtain⟨l2,hl2⟩:=h.wk.where_own hwq
     rw[Option.map_some,Option.map_some,hφ _ _ l2 hl2]
  pg:=fun m q l2 hl2=>by
   have hl2':(W.setO n p (some l)).own m q=some l2:=hl2
   rw[setO_own] at hl2'
   by_cases e:m=n∧q=p
   ·rw[if_pos e] at hl2'
    cases hl2'
    obtain⟨rfl,rfl⟩:=e
    have e1:upφ φ m q f m q=f:=by unfold upφ;rw[if_pos ⟨rfl,rfl⟩]
    rw[e1]
    refine⟨hfN,?_,?_⟩
    ·show upd C.own f ⟨3,m,q,0⟩ f=⟨3,m,q,lentN W.ls m q⟩
     rw[zi,h0];rfl
    ·show setC (upd C.dat f l) C.N (C.tf m) (C.fr m) q _ f=l
     rw[ht.oth f (by show (C.own f).kind≠2;rw[hk0];decide)]
     exact zi
   ·rw[if_neg e] at hl2'
    have h3:=h.pg m q l2 hl2'
    rw[hφ m q l2 hl2']
    refine⟨h3.1,?_,?_⟩
    ·show upd C.own f ⟨3,n,p,0⟩ (φ m q)=_
     rw[ze (hne m q l2 hl2')];exact h3.2.1
    ·show setC (upd C.dat f l) C.N (C.tf n) (C.fr n) p _ (φ m q)=l2
     rw[ht.oth _ (by show (C.own (φ m q)).kind≠2;rw[h3.2.1];show (3:Int)≠2;decide)]
     show upd C.dat f l (φ m q)=l2
     rw[ze (hne m q l2 hl2')];exact h3.2.2
  pgk:=fun g hg h3=>by
   have h3':(upd C.own f ⟨3,n,p,0⟩ g).kind=3:=h3
   by_cases e:g=f
   ·refine⟨n,p,?_,?_⟩
    ·show ((W.setO n p (some l)).own n p).isSome=true
     rw[setO_own,if_pos ⟨rfl,rfl⟩];rfl
    ·unfold upφ;rw[if_pos ⟨rfl,rfl⟩,e]
   ·rw[ze e] at h3'
    obtain⟨m,q,h4,h5⟩:=h.pgk g hg h3'
    obtain⟨l2,hl2⟩:=Option.isSome_iff_exists.1 h4
    refine⟨m,q,?_,by rw[hφ m q l2 hl2];exact h5⟩
    show ((W.setO n p (some l)).own m q).isSome=true
    rw[setO_own];split
    ·rfl
    ·exact h4
  hyp:=⟨h.hyp.1,fun g=>by
   show _↔g<C.N∧(upd C.own f ⟨3,n,p,0⟩ g).kind=1
   by_cases e:g=f
   ·rw[e,zi,h.hyp.2 f,hk0]
    exact⟨fun h=>(by cases h.2),fun h=>(by cases h.2)⟩
   ·rw[ze e];exact h.hyp.2 g⟩
  cache:=fun r hr=>ht.cache (W:=W) (φ:=φ) h' r hr
  csize:=Nat.le_trans vt h.csize }
end
end Go.Cr
end
section
namespace Go.Proofs.YtabdpmnhjlmnlaaGreatDoor
open Go Go.Pt Go.Cr Go.Hp
structure Kp (C C':Cst):Prop where
 N:C'.N=C.N
 form:C'.form=C.form
 region:C'.region=C.region
 turns:C'.turns=C.turns
 now:C'.now=C.now
 late:C'.late=C.late
 tf:C'.tf=C.tf
 fr:C'.fr=C.fr
theorem Kp.refl {C:Cst}:Kp C C:=⟨rfl,rfl,rfl,rfl,rfl,rfl,rfl,rfl⟩
theorem Kp.trans {C C' C'':Cst} (h:Kp C C') (k:Kp C' C''):Kp C C'':=⟨k.N.trans h.N,k.form.trans h.form,k.region.trans h.region,k.turns.trans h.turns,k.now.trans h.now,k.late.trans h.late,k.tf.trans h.tf,k.fr.trans h.fr⟩
def After (h:Nat) (A:Ad) (C:Cst) (S:Mem) (ρ:Rho) (W':Wd) (S':Mem):Prop:=
 ∃ ρ' A' C' φ',Mv S ρ S' ρ' Rc∧CrabA S' ρ' h A' C'∧Rel C' W' φ'∧Kp C C'∧A'.t=A.t∧∀ i,(A'.x i).ss=(A.x i).ss
section
variable {S S':Mem} {ρ ρ':Rho} {h:Nat} {A:Ad} {C:Cst} {W:Wd} {φ:Nat→Nat→Nat}
theorem After.keeps (hc:CrabA S ρ h A C) (hr:Rel C W φ) (hk:Keeps S S' []):After h A C S ρ W S':=⟨ρ,A,C,φ,hc.mv0 hk,hc.keeps hk,hr,Kp.refl,rfl,fun _=>rfl⟩
theorem Rel.putSeat (hr:Rel C W φ) {n k:Nat} (hon:(W.vm n).on=true) (hk:k<(W.vm n).seats.length) {s:Seat} (ho:s.Ok):Rel { C with vm:=upd C.vm n ((C.vm n).setSeat k s) } (W.putSeat n k s) φ:=by
 rw[hr.vm]
 have h1:=hr.setV (v:=(W.vm n).setSeat k s) hon hon (hr.wk.setV hon hon (by show ((W.vm n).seats.set k s).length=_;rw[List.length_set]) (fun s' hs'=>by
  rcases List.mem_or_eq_of_mem_set hs' with e | e
  ·exact hr.wk.ok n s' e
  ·rw[e];exact ho) (hr.wk.keys n) (fun j=>hr.wk.disk n j hon) rfl rfl)
 rw[hr.vm] at h1
 exact h1
end
end Go.Proofs.YtabdpmnhjlmnlaaGreatDoor
end
section
namespace Go.Proofs.YtabdpmnhjlmnlaaGreatDoor
open Go Go.Pt Go.Cr Go.Hp
section
variable {S S':Mem} {ρ ρ':Rho} {h:Nat} {A:Ad} {C:Cst} {W:Wd} {φ:Nat→Nat→Nat}
end
end Go.Proofs.YtabdpmnhjlmnlaaGreatDoor
end
section
namespace Go.Proofs.YtabdpmnhjlmnlaaGreatDoor
open Go Go.Pt Go.Cr Go.Hp
section
variable {S S':Mem} {ρ ρ':Rho} {h:Nat} {A:Ad} {C:Cst} {W:Wd} {φ:Nat→Nat→Nat}
end
end Go.Proofs.YtabdpmnhjlmnlaaGreatDoor
end
section
namespace Go.Proofs.YtabdpmnhjlmnlaaGreatDoor
open Go Go.Pt Go.Cr Go.Hp
theorem zbE {S:Mem} {e size bytes m:Nat} {z vs:List Value} {K:Sl→Mem→Prop} (hv:vs.length=m*size) (hz:z.length=size) (lim:(2*(0+m)+1024)*bytes≤281474976710656)
  (hK:∀ (s':Sl) (S':Mem),s'.n=m→Row S' size s' vs→Keeps S S' []→(∀ x o,s'.p=some (x,o)→S x=none)→K s' S'):ap S e size bytes z ⟨none,0,0⟩ m vs K:=by
 by_cases h0:m=0
 ·subst h0
  have:vs=[]:=List.length_eq_zero_iff.1 (by simpa using hv)
  subst this
  exact⟨lim,fun _=>.inl ⟨rfl,rfl,hK _ _ rfl Row.nil Keeps.refl fun x o h=>by cases h⟩,fun h=>by simp at h⟩
 ·refine jN Row.nil hv (by omega) hz lim fun s' S' b k hn hp hor hS hrow=>?_
  have hb:S b=none:=by
   rcases hor with e | e
   ·cases e
   ·exact e
  refine hK s' S' (by simpa using hn) (by simpa using hrow) (by rw[hS];exact Keeps.refl.fresh hb) fun x o h=>?_
  rw[hp] at h;cases h;exact hb
section
variable {S S':Mem} {ρ ρ':Rho} {h:Nat} {A:Ad} {C:Cst}
structure Wide (S:Mem) (ρ ρ':Rho):Prop where
 ext:∀ b r,ρ b=some r→ρ' b=some r
 rg:∀ b r,ρ' b=some r→S b≠none
 g0:ρ 0=none→ρ' 0=none
variable (w:Wide S ρ ρ')
include w
omit w
end
end Go.Proofs.YtabdpmnhjlmnlaaGreatDoor
end
section
namespace Go.Cr
open Go Go.Pt
structure VmR (S:Mem) (x:Vx) (v:Bv) (fr:List Nat):Prop where
 se:Row S 26 x.ss (v.seats.flatMap Seat.L)
 fr:Row S 1 x.fs (nL fr)
 ke:Row S 1 x.ks (bL v.keys)
 di:∀ j,j<4→Row S 1 (x.d j) (bL (v.disk j))
def VmL (x:Vx) (c:Nat):Prop:=x.ss.p=some (c,0)∨x.fs.p=some (c,0)∨x.ks.p=some (c,0)∨∃ j,j<4∧(x.d j).p=some (c,0)
structure VmS (x:Vx):Prop where
 se:x.ss.n≤1000000
 fr:x.fs.n≤1000000
 ke:x.ks.n≤1000000
 di:∀ j,j<4→(x.d j).n≤1000000
def HolR (S:Mem) (t n b:Nat) (l:List Value):Prop:=∃ s:Sl,b≠t∧S.cell b 0=some (eL s)∧Row S n s l∧∀ c,s.p=some (c,0)→c≠t
structure StR (S:Mem) (t:Nat) (k:Kn) (x:Nat→Vx) (ob kb:Nat) (ol ar:List Value):Prop where
 at_:At S t 0 (knL k x ob kb)
 vs:∀ i,i<6→VmR S (x i) (k.vm i) (k.fr i)∧VmS (x i)∧∀ c,VmL (x i) c→c≠t
 ow:HolR S t 4 ob ol
 ck:HolR S t 3 kb ar
section
variable {S S':Mem} {x:Vx} {v:Bv} {fr:List Nat} {k:Kn} {xs:Nat→Vx} {t ob kb:Nat} {ol ar:List Value}
theorem VmR.keep (h:VmR S x v fr) (hk:∀ c,VmL x c→S' c=S c):VmR S' x v fr:=
 ⟨h.se.keep fun c e=>hk c (.inl e),h.fr.keep fun c e=>hk c (.inr (.inl e)),h.ke.keep fun c e=>hk c (.inr (.inr (.inl e))),fun j hj=>(h.di j hj).keep fun c e=>hk c (.inr (.inr (.inr ⟨j,hj,e⟩)))⟩
theorem yD {size:Nat} {s:Sl} {l:List Value} (h:Row S size s l) {c:Nat} (e:s.p=some (c,0)):S c≠none:=by
 rcases h.lie with ⟨h1,_⟩ | ⟨b,k,h1,h2,_⟩
 ·rw[h1] at e;cases e
 ·rw[h1] at e;cases e;rw[h2];simp
theorem VmR.some (h:VmR S x v fr) {c:Nat} (hc:VmL x c):S c≠none:=by
 rcases hc with e | e | e | ⟨j,hj,e⟩
 ·exact yD h.se e
 ·exact yD h.fr e
 ·exact yD h.ke e
 ·exact yD (h.di j hj) e
theorem VmR.keeps (h:VmR S x v fr) (hk:Keeps S S' []):VmR S' x v fr:=h.keep fun c hc=>hk c (h.some hc) (by simp)
theorem zP {size:Nat} {s:Sl} {l:List Value} (h:Row S size s l) (hk:Keeps S S' []):Row S' size s l:=h.keep fun c e=>hk c (yD h e) (by simp)
theorem vw {b o:Nat} {v:Value} (h:S.cell b o=some v):S b≠none:=by
 intro e
 simp[Mem.cell,e] at h
theorem yy {b o:Nat} {v:Value} (h:S.cell b o=some v) (hk:Keeps S S' []):S'.cell b o=some v:=by
 have e:=hk b (vw h) (by simp)
 simp only[Mem.cell,e] at h ⊢;exact h
theorem HolR.keep {n b:Nat} {l:List Value} (h:HolR S t n b l) (hk:∀ c,c≠t→S c≠none→S' c=S c):HolR S' t n b l:=by
 obtain⟨s,h0,h1,h2,h3⟩:=h
 refine⟨s,h0,?_,h2.keep fun c e=>hk c (h3 c e) (yD h2 e),h3⟩
 have e:=hk b h0 (vw h1)
 simp only[Mem.cell,e] at h1 ⊢;exact h1
theorem StR.keeps (h:StR S t k xs ob kb ol ar) (hk:Keeps S S' []):StR S' t k xs ob kb ol ar:=
 ⟨h.at_.keep (hk t h.at_.some (by simp)),fun i hi=>⟨(h.vs i hi).1.keeps hk,(h.vs i hi).2⟩,h.ow.keep fun c _ hc=>hk c hc (by simp),h.ck.keep fun c _ hc=>hk c hc (by simp)⟩
theorem StR.pt (h:StR S t k xs ob kb ol ar) {j m y:Nat} {vs:List Value} (hm:m=vs.length) (hj:j+vs.length≤190) (hy:y=j) {k':Kn} {x':Nat→Vx} {ob' kb':Nat} (hl:(knL k xs ob kb).length=190) (he:spl (knL k xs ob kb) j vs=knL k' x' ob' kb')
  (hv:∀ i,i<6→VmR S (x' i) (k'.vm i) (k'.fr i)∧VmS (x' i)∧∀ c,VmL (x' i) c→c≠t) (how:HolR S t 4 ob' ol) (hck:HolR S t 3 kb' ar) {K:Mem→Prop} (hK:∀ S' kb0,S'=S.set t kb0→StR S' t k' x' ob' kb' ol ar→K S'):Go.Pt.pt S t y m vs K:=by
 subst hy
 rw[show Go.Pt.pt S t y m vs K=Go.Pt.pt S t (0+y) m vs K by rw[Nat.zero_add]]
 refine h.at_.pt hm (by rw[hl];exact hj) ?_
 obtain⟨kb0,e1,e2,e3⟩:=h.at_.ex
 have hlen:(spl (knL k xs ob kb) y vs).length=(knL k xs ob kb).length:=zG (by rw[hl];exact hj)
 have hat:=h.at_.put hlen
 rw[he] at hat ⊢
 rw[qT e1] at hat ⊢
 have hne:∀ c,c≠t→S c≠none→(S.set t ⟨kb0.ty,spl kb0.cs 0 (knL k' x' ob' kb'),kb0.fr⟩) c=S c:=fun c hc _=>zJ hc
 exact hK _ _ rfl ⟨hat,fun i hi=>⟨(hv i hi).1.keep fun c hc=>hne c ((hv i hi).2.2 c hc) ((hv i hi).1.some hc),(hv i hi).2⟩,how.keep hne,hck.keep hne⟩
theorem zaQ:(knL k xs ob kb).all (·.oneCell')=true:=by
 unfold knL
 simp only[List.all_append,Bool.and_eq_true]
 refine⟨rfl,jL fun i _=>rfl,rfl,jL fun i _=>rfl,rfl,jL fun i _=>rfl⟩
theorem zaa {ob':Nat}:spl (knL k xs ob kb) 74 [eP (some (ob',0))]=knL k xs ob' kb:=by
 unfold knL
 rw[show 74=2+(72+0) by rfl,qo (n:=2) rfl,qo (n:=72) yz,xL (by simp)];rfl
theorem zab {kb':Nat}:spl (knL k xs ob kb) 171 [eP (some (kb',0))]=knL k xs ob kb':=by
 unfold knL
 rw[show 171=2+(72+(1+(96+0))) by rfl,qo (n:=2) rfl,qo (n:=72) yz,qo (n:=1) rfl,qo (n:=96) wn,xL (by simp)];rfl
theorem zac {f:Int}:spl (knL k xs ob kb) 0 [.int .i64 f]=knL { k with form:=f } xs ob kb:=rfl
end
end Go.Cr
namespace Go.Proofs.YtabdpmnhjlmnlaaGreatDoor
open Go Go.Pt Go.Cr Go.Hp
section
variable {S S':Mem} {x:Vx} {v:Bv} {fr:List Nat} {k:Kn} {xs:Nat→Vx} {t ob kb:Nat} {ol ar:List Value}
theorem vv {e size bytes:Nat} {z l:List Value} {s:Sl} (h:Row S size s l) (hone:l.all (·.oneCell')=true) (hz:z.length=size) (lim:(2*s.n+1024)*bytes≤281474976710656) {Q:Sl→Mem→Prop}
  (hQ:∀ t S',Keeps S S' []→Row S' size t l→(∀ c,t.p=some (c,0)→S c=none)→Q t S') :
  if s.p=none then Q (⟨none,0,0⟩) S else al S e ([]) fun b Sx=>sp Sx s size fun vs=>ap Sx e size bytes z (⟨some (b,0),0,0⟩) s.n vs fun t Sx_1=>Q t Sx_1:=by
 rcases h.lie with ⟨h1,h2⟩ | ⟨b0,kb0,h1,h2,_⟩
 ·rw[if_pos h1]
  have hn:s.n=0:=by have:=h.cap;omega
  have hl:l=[]:=List.length_eq_zero_iff.1 (by rw[h.len,hn,Nat.zero_mul])
  subst hl
  exact hQ _ S Keeps.refl Row.nil fun c e=>by cases e
 ·rw[if_neg (by rw[h1];simp)]
  intro b hb
  have hne:b0≠b:=fun e=>by rw[e,hb] at h2;cases h2
  have hk1:Keeps S (S.set b (bw e [])) []:=Keeps.refl.new hb
  have hrow:=zP h hk1
  refine⟨l,.inr ⟨b0,0,h1,hrow.part h1⟩,hone,?_⟩
  have hb0:Row (S.set b (bw e [])) size ⟨some (b,0),0,0⟩ []:=⟨by simp,Nat.le_refl _,.inr ⟨b,_,rfl,zk,rfl,by simp,by simp⟩⟩
  by_cases hn:s.n=0
  ·have hl:l=[]:=List.length_eq_zero_iff.1 (by rw[h.len,hn,Nat.zero_mul])
   subst hl
   rw[hn]
   refine⟨Nat.le_trans (Nat.mul_le_mul_right bytes (by simp)) lim,fun _=>.inr ⟨b,0,rfl,⟨_,zk,rfl,by simp⟩,?_⟩,fun hc=>by simp at hc⟩
   have hput:(S.set b (bw e [])).put b (0+(⟨some (b,0),0,0⟩:Sl).n*size) []=S.set b (bw e []):=by
    rw[qT zk]
    funext c
    by_cases e2:c=b
    ·subst e2;rw[zk,zk]
     show some (⟨e,spl [] _ [],(0,0)⟩:Blk)=_
     congr 2
     simp[spl]
    ·rw[zJ e2]
   rw[hput]
   exact hQ _ _ hk1 hb0 fun c e=>by cases e;exact hb
  ·refine jN hb0 h.len (by omega) hz (by simp only[Nat.zero_add];exact lim) fun s' S' b' k' e1 e2 e3 e4 e5=>?_
   have hb':S b'=none:=by
    rcases e3 with e3 | e3
    ·cases e3;exact hb
    ·cases hs:S b' with
     | none=>rfl
     | some q=>rw[hk1 b' (by rw[hs];simp) (by simp),hs] at e3;cases e3
   exact hQ s' S' (by rw[e4];exact hk1.fresh hb') (by simpa using e5) fun c e=>by rw[e2] at e;cases e;exact hb'
theorem zau {l:List Int}:(bL l).all (·.oneCell')=true:=by unfold bL;rw[List.all_map];exact List.all_eq_true.2 fun _ _=>rfl
theorem zbn {l:List Nat}:(nL l).all (·.oneCell')=true:=by unfold nL;rw[List.all_map];exact List.all_eq_true.2 fun _ _=>rfl
theorem zaI {l:List Seat}:(l.flatMap Seat.L).all (·.oneCell')=true:=by rw[List.all_flatMap];exact List.all_eq_true.2 fun s _=>by unfold Seat.L;rw[List.all_append,List.all_map];exact Bool.and_eq_true_iff.2 ⟨List.all_eq_true.2 fun _ _=>rfl,rfl⟩
theorem fq (h:VmR S x v fr) (hs:VmS x) {tf late:Int} {Q:List Value→Mem→Prop}
  (hQ:∀ x' S',Keeps S S' []→VmR S' x' v fr→VmS x'→(∀ c,VmL x' c→S c=none)→Q (vmC x' v tf late) S'):ws S (vmC x v tf late) Q:=by
 apply kE
 unfold xi
 refine⟨rfl,?_⟩
 rw[wA (show nthL (vmC x v tf late) 1=some (eL x.ss) from rfl),wA (show nthL (vmC x v tf late) 6=some (eL x.ks) from rfl)]
 apply qw
 unfold zA
 refine vv h.se (bytes:=192) zaI rfl (by have:=hs.se;omega) fun s1 S1 hk1 hr1 hf1=>?_
 apply xJ
 unfold qX
 refine vv (bytes:=1) (zP h.ke hk1) zau rfl (by have:=hs.ke;omega) fun s2 S2 hk2 hr2 hf2=>?_
 have e1:spl (spl (vmC x v tf late) 1 [eL s1]) 6 [eL s2]=vmC { x with ss:=s1,ks:=s2 } v tf late:=rfl
 rw[e1,wA (show nthL (vmC { x with ss:=s1,ks:=s2 } v tf late) 3=some (eL x.fs) from rfl)]
 apply yQ
 unfold zW
 refine vv (bytes:=8) (zP h.fr (hk1.trans hk2)) zbn rfl (by have:=hs.fr;omega) fun s3 S3 hk3 hr3 hf3=>?_
 have e2:spl (vmC { x with ss:=s1,ks:=s2 } v tf late) 3 [eL s3]=vmC { x with ss:=s1,ks:=s2,fs:=s3 } v tf late:=rfl
 rw[e2]
 have hk03:=hk1.trans (hk2.trans hk3)
 have back:∀ {A B:Mem} {c:Nat},Keeps A B []→B c=none→A c=none:=fun {A B c} hk e=>by
  cases hs:A c with
  | none=>rfl
  | some q=>rw[hk c (by rw[hs];simp) (by simp),hs] at e;cases e
 have nn:∀ {s:Sl} {size:Nat} {l:List Value} {A:Mem},Row A size s l→0<size→s.n*size=l.length:=fun h _=>h.len.symm
 have hlen1:s1.n=x.ss.n:=by have:=hr1.len;have:=h.se.len;omega
 have hlen2:s2.n=x.ks.n:=by have:=hr2.len;have:=h.ke.len;omega
 have hlen3:s3.n=x.fs.n:=by have:=hr3.len;have:=h.fr.len;omega
 refine qk (fun J=>∀ S4 x4,Keeps S3 S4 []→x4.ss=s1→x4.ks=s2→x4.fs=s3→(∀ j,j<4→Row S4 1 (x4.d j) (bL (v.disk j))∧∀ c,(x4.d j).p=some (c,0)→S c=none)→J (vmC x4 v tf late) S4) (fun S4 x4 hk4 a1 a2 a3 hd=>?_) fun J hJ=>?_
 ·refine⟨rfl,rfl,hQ x4 S4 (hk03.trans hk4) ⟨by rw[a1];exact zP hr1 (hk2.trans (hk3.trans hk4)),by rw[a3];exact zP hr3 hk4,by rw[a2];exact zP hr2 (hk3.trans hk4),fun j hj=>(hd j hj).1⟩ ⟨by rw[a1,hlen1];exact hs.se,by rw[a3,hlen3];exact hs.fr,by rw[a2,hlen2];exact hs.ke,fun j hj=>?_⟩ fun c hc=>?_⟩
  ·have e1:=(hd j hj).1.len
   have e2:=(h.di j hj).len
   have:=hs.di j hj
   omega
  ·rcases hc with e | e | e | ⟨j,hj,e⟩
   ·rw[a1] at e;exact hf1 c e
   ·rw[a3] at e;exact back (hk1.trans hk2) (hf3 c e)
   ·rw[a2] at e;exact back hk1 (hf2 c e)
   ·exact (hd j hj).2 c e
 refine qh (fun (z:Int×List Value) S'=>∃ (i:Nat) (x4:Vx),z=((i:Int),vmC x4 v tf late)∧i≤4∧Keeps S3 S' []∧x4.ss=s1∧x4.ks=s2∧x4.fs=s3∧(∀ j,j<i→Row S' 1 (x4.d j) (bL (v.disk j))∧∀ c,(x4.d j).p=some (c,0)→S c=none)∧∀ j,i≤j→x4.d j=x.d j) (fun z=>4-z.1.toNat) ?_ ⟨0,_,rfl,by decide,Keeps.refl,rfl,rfl,rfl,fun j hj=>by omega,fun _ _=>rfl⟩
 rintro X z S4 ⟨i,x4,rfl,hi,hk4,a1,a2,a3,hd,ho⟩ ih
 dsimp only at ih ⊢
 refine⟨rfl,?_⟩
 by_cases hlt:(i:Int)<4
 ·rw[if_pos hlt]
  have hi4:i<4:=by omega
  refine⟨by omega,hlt,?_⟩
  have hcell:∀ (y:Vx),nthL (vmC y v tf late) (7+i)=some (eL (y.d i)):=fun y=>by
   have:i=0∨i=1∨i=2∨i=3:=by omega
   rcases this with e | e | e | e <;> subst e <;> rfl
  have hset:∀ (y:Vx) (s:Sl),spl (vmC y v tf late) (7+i) [eL s]=vmC { y with d:=upd y.d i s } v tf late:=fun y s=>by
   have:i=0∨i=1∨i=2∨i=3:=by omega
   rcases this with e | e | e | e <;> subst e <;> rfl
  rw[show 7+(i:Int).toNat*1=7+i by omega,wA (hcell x4),ho i (Nat.le_refl _)]
  apply xJ
  unfold qX
  refine vv (bytes:=1) (zP (h.di i hi4) (hk03.trans hk4)) zau rfl (by have:=hs.di i hi4;omega) fun s5 S5 hk5 hr5 hf5=>?_
  refine⟨by omega,hlt,?_⟩
  rw[hset,w64 (by omega) (by omega)]
  refine ih _ _ ⟨i+1,{ x4 with d:=upd x4.d i s5 },rfl,by omega,hk4.trans hk5,a1,a2,a3,fun j hj=>?_,fun j hj=>?_⟩ (by dsimp only;omega)
  ·show Row S5 1 (upd x4.d i s5 j) _∧∀ c,(upd x4.d i s5 j).p=some (c,0)→S c=none
   by_cases e:j=i
   ·subst e
    rw[zi]
    exact⟨hr5,fun c e=>back (hk03.trans hk4) (hf5 c e)⟩
   ·rw[ze e]
    obtain⟨b1,b2⟩:=hd j (by omega)
    exact⟨zP b1 hk5,b2⟩
  ·show upd x4.d i s5 j=_
   rw[ze (by omega)];exact ho j (by omega)
 ·rw[if_neg hlt]
  have:i=4:=by omega
  subst this
  exact hJ S4 x4 hk4 a1 a2 a3 hd
end
end Go.Proofs.YtabdpmnhjlmnlaaGreatDoor
end
section
namespace Go.Proofs.YtabdpmnhjlmnlaaGreatDoor
open Go Go.Pt Go.Cr Go.Hp
section
variable {S S':Mem} {x:Vx} {v:Bv} {fr:List Nat} {k:Kn} {xs:Nat→Vx} {t ob kb:Nat} {ol ar:List Value}
theorem back {A B:Mem} {c:Nat} (hk:Keeps A B []) (e:B c=none):A c=none:=by
 cases hs:A c with
 | none=>rfl
 | some q=>rw[hk c (by rw[hs];simp) (by simp),hs] at e;cases e
theorem gX {A:Mem} {c t:Nat} (h1:A c=none) (h2:A t≠none):c≠t:=fun e=>h2 (e ▸ h1)
theorem gE (h:StR S t k xs ob kb ol ar) (ho:ol.all (·.oneCell')=true) (hol:ol.length≤4000000) (ha:ar.all (·.oneCell')=true) (har:ar.length≤3000000) {Q:Pt→Mem→Prop}
  (hQ:∀ t' xs' ob' kb' S',Keeps S S' []→S t'=none→StR S' t' k xs' ob' kb' ol ar→Q (some (t',0)) S'):qK S (some (t,0)) Q:=by
 apply xI
 unfold qt
 refine qk (fun J=>J S) ?_ fun J hJ=>by rw[if_neg (by simp)];exact hJ
 rw[wK,gu (show S.part t (0+0) 190=some (knL k xs ob kb) from by
  have:=h.at_.all
  rw[zV] at this;exact this)]
 intro t' ht'
 refine⟨zaQ,?_⟩
 have hz:z77.length=190:=by kernel_rfl
 refine⟨⟨_,zk,rfl,by show 0+190≤z77.length;omega⟩,?_⟩
 have hput:(S.set t' (bw 77 z77)).put t' 0 (knL k xs ob kb)=S.set t' (bw 77 (knL k xs ob kb)):=by
  rw[qT zk]
  funext c
  by_cases e:c=t'
  ·subst e
   rw[zk,zk]
   show some (⟨77,spl z77 0 (knL k xs ob kb),(0,0)⟩:Blk)=_
   rw[jh (by rw[hz,zV])]
  ·rw[zJ e,zJ e,zJ e]
 rw[hput]
 have hk1:Keeps S (S.set t' (bw 77 (knL k xs ob kb))) []:=Keeps.refl.new ht'
 have hne:∀ c,S c≠none→c≠t':=fun c hc e=>hc (e ▸ ht')
 have hol1:∀ {n b:Nat} {l:List Value},HolR S t n b l→HolR (S.set t' (bw 77 (knL k xs ob kb))) t' n b l:=fun {n b l} hh=>by
  obtain⟨s,_,h1,h2,_⟩:=hh
  exact⟨s,hne _ (vw h1),yy h1 hk1,zP h2 hk1,fun c e=>hne c (yD h2 e)⟩
 have h1:StR (S.set t' (bw 77 (knL k xs ob kb))) t' k xs ob kb ol ar:=
  ⟨⟨_,zk,rfl,qa rfl⟩,fun i hi=>⟨(h.vs i hi).1.keeps hk1,(h.vs i hi).2.1,fun c hc=>hne c ((h.vs i hi).1.some hc)⟩,hol1 h.ow,hol1 h.ck⟩
 refine qk (fun J=>∀ S2 xs2,Keeps S S2 []→StR S2 t' k xs2 ob kb ol ar→J S2) (fun S2 xs2 hk2 h2=>?_) fun J hJ=>?_
 ·have ho2:=h.ow
  have ha2:=h.ck
  obtain⟨s,_,o1,o2,_⟩:=ho2
  obtain⟨s',_,a1,a2,_⟩:=ha2
  have hkn:=h.keeps hk2
  have gob:∀ {S3:Mem},Keeps S S3 []→S3.cell t (0+74)=some (eP (some (ob,0))):=fun hk=>by
   rw[(h.keeps hk).at_.cell (by rw[zV];decide)];exact fh
  have gkb:∀ {S3:Mem},Keeps S S3 []→S3.cell t (0+171)=some (eP (some (kb,0))):=fun hk=>by
   rw[(h.keeps hk).at_.cell (by rw[zV];decide)];exact zbr
  rw[zae (gob hk2),zae (gkb hk2)]
  apply wg
  unfold qB
  refine qk (fun J=>J S2) ?_ fun J hJ=>by rw[if_neg (by simp)];exact hJ
  have o1':=yy o1 hk2
  have o2':=zP o2 hk2
  have hsn:s.n*4=ol.length:=o2.len.symm
  rw[wK,wA o1']
  refine⟨ol,?_,ho,?_⟩
  ·rcases o2'.lie with ⟨h1,h2⟩ | ⟨b,k,h1,_⟩
   ·have h3:=o2'.cap
    have hz:s.n=0:=by omega
    have hnil:ol=[]:=List.length_eq_zero_iff.1 (by omega)
    exact .inl ⟨h1,hz,hnil⟩
   ·exact .inr ⟨b,0,h1,o2'.part h1⟩
  refine zbE (by rw[hsn]) rfl (by omega) fun s1 S3 _ hr3 hk3 hf3=>?_
  intro ob' hob'
  have hk4:Keeps S3 (S3.set ob' (bw 199 [eL s1])) []:=Keeps.refl.new hob'
  have hk04:=hk2.trans (hk3.trans hk4)
  refine⟨gkb hk04,?_⟩
  apply xK
  unfold qu
  refine qk (fun J=>J (S3.set ob' (bw 199 [eL s1]))) ?_ fun J hJ=>by rw[if_neg (by simp)];exact hJ
  rw[wK,wA (yy a1 hk04)]
  apply qe
  unfold zt
  have hsn':s'.n*3=ar.length:=a2.len.symm
  refine vv (bytes:=24) (zP a2 hk04) ha rfl (by omega) fun s2 S5 hk5 hr5 hf5=>?_
  intro kb' hkb'
  have hk6:Keeps S5 (S5.set kb' (bw 127 [eL s2])) []:=Keeps.refl.new hkb'
  have h6:=h2.keeps (hk3.trans (hk4.trans (hk5.trans hk6)))
  have ht2:S2 t'≠none:=h2.at_.some
  have ht3:S3 t'≠none:=by rw[hk3 t' ht2 (by simp)];exact ht2
  have ht4:(S3.set ob' (bw 199 [eL s1])) t'≠none:=by rw[hk4 t' ht3 (by simp)];exact ht3
  have ht5:S5 t'≠none:=by rw[hk5 t' ht4 (by simp)];exact ht4
  have how:HolR (S5.set kb' (bw 127 [eL s2])) t' 4 ob' ol:=⟨s1,gX hob' ht3,yy (yy (by rw[qq zk];rfl) hk5) hk6,zP hr3 (hk4.trans (hk5.trans hk6)),fun c e=>gX (hf3 c 0 e) ht2⟩
  have hck:HolR (S5.set kb' (bw 127 [eL s2])) t' 3 kb' ar:=⟨s2,gX hkb' ht5,by rw[qq zk];rfl,zP hr5 hk6,fun c e=>gX (hf5 c e) ht4⟩
  have hk06:=hk04.trans (hk5.trans hk6)
  refine h6.pt (j:=74) (vs:=[eP (some (ob',0))]) rfl (by simp) rfl zV zaa h6.vs how h6.ck fun S7 q7 e7 h7=>?_
  have hck7:HolR S7 t' 3 kb' ar:=hck.keep fun c hc _=>by rw[e7];exact zJ hc
  refine h7.pt (j:=171) (vs:=[eP (some (kb',0))]) rfl (by simp) rfl zV zab h7.vs h7.ow hck7 fun S8 q8 e8 h8=>?_
  exact hQ t' xs2 ob' kb' S8 (by rw[e8,e7];exact (hk06.fresh ht').fresh ht') ht' h8
 refine qh (fun (z:Int) S'=>∃ (i:Nat) (xs':Nat→Vx),z=(i:Int)∧i≤6∧Keeps S S' []∧StR S' t' k xs' ob kb ol ar) (fun z=>6-z.toNat) ?_ ⟨0,xs,rfl,by decide,hk1,h1⟩
 rintro X z S2 ⟨i,xs2,rfl,hi,hk2,h2⟩ ih
 by_cases hlt:(i:Int)<6
 ·rw[if_pos hlt]
  have hi6:i<6:=by omega
  refine⟨by omega,hlt,?_⟩
  have hp:S2.part t' (2+(i:Int).toNat*12) 12=some (vmC (xs2 i) (k.vm i) (k.tf i) (k.late i)):=by
   have:=h2.at_.part (i:=2+(i*12+0)) (n:=12) (by rw[zV];omega)
   rw[show 0+(2+(i*12+0))=2+(i:Int).toNat*12 by omega] at this
   rw[this,ff hi6 (by decide)];rfl
  rw[gu hp]
  refine fq (h2.vs i hi6).1 (h2.vs i hi6).2.1 fun x3 S3 hk3 hv3 hs3 hf3=>?_
  refine⟨by omega,hlt,rfl,?_⟩
  have h3:=h2.keeps hk3
  refine h3.pt (j:=2+(i*12+0)) (vs:=vmC x3 (k.vm i) (k.tf i) (k.late i)) (k':=k) (x':=upd xs2 i x3) rfl (by rw[vX];omega) (by omega) zV (by
   rw[fg (fr':=k.fr i) hi6 (by rw[vX];decide) (jh (by rw[vX,vX]))]
   simp only[vY]) (fun j hj=>?_) h3.ow h3.ck fun S4 q4 e4 h4=>?_
  ·by_cases e:j=i
   ·subst e
    rw[zi]
    exact⟨hv3,hs3,fun c hc=>gX (hf3 c hc) h2.at_.some⟩
   ·rw[ze e];exact h3.vs j hj
  ·rw[w64 (by omega) (by omega)]
   exact ih _ _ ⟨i+1,_,rfl,by omega,by rw[e4];exact (hk2.trans hk3).fresh ht',h4⟩ (by omega)
 ·rw[if_neg hlt]
  exact hJ S2 xs2 hk2 h2
def turnK (k:Kn) (f:Int):Kn:={ k with form:=f,tf:=fun i=>if i<6 then 0 else k.tf i,fr:=fun i=>if i<6 then [] else k.fr i }
def nofs (x:Vx):Vx:={ x with fs:=⟨none,0,0⟩ }
theorem wS (h:StR S t k xs ob kb ol ar) (ho:ol.all (·.oneCell')=true) (hol:ol.length≤4000000) (ha:ar.all (·.oneCell')=true) (har:ar.length≤3000000) {f:Int} {Q:Pt→Int→Mem→Prop}
  (hN:k.form≠f→Q none 10 S)
  (hQ:k.form=f→∀ t' xs' ob' kb' S',Keeps S S' []→S t'=none→StR S' t' (turnK k (if f=1 then 2 else 1)) xs' ob' kb' ol ar→Q (some (t',0)) 0 S'):ym S (some (t,0)) f Q:=by
 apply vB
 unfold yu
 refine qk (fun J=>k.form=f→J S) (fun hf=>?_) fun J hJ=>?_
 rotate_left
 ·rw[if_neg (by simp),wK,kS ((h.at_.cell0 (by rw[zV];decide)).trans ko)]
  by_cases hf:k.form=f
  ·rw[if_neg (fun e=>e hf)];exact hJ hf
  ·rw[if_pos hf];exact hN hf
 refine gE h ho hol ha har fun t' xs' ob' kb' S1 hk1 ht' h1=>?_
 apply qW
 unfold qc
 have hcut:∀ g:Int,g=(if f=1 then 2 else 1)→(nn (some (t',0)) fun b o=>pt S1 b o 1 ([.int .i64 g]) fun Sx_3=>jn (fun (Sx_4:Mem)=>Q (some (b,o)) 0 Sx_4) fun Jx=>
   lp (fun Xx (t_2:Int) (Sx_5:Mem)=>if t_2<6 then 0≤t_2∧t_2<6∧pt Sx_5 b (o+2+t_2.toNat*12+2) 2 ([.int .i64 0,.slice (none) 0 0]) fun Sx_6=>Xx (IntKind.i64.wrap (t_2+1)) Sx_6 else Jx Sx_5) 0 Sx_3):=fun g hg=>by
  rw[wK]
  refine h1.pt (j:=0) (vs:=[.int .i64 g]) (k':={ k with form:=g }) rfl (by simp) rfl zV zac h1.vs h1.ow h1.ck fun S2 q2 e2 h2=>?_
  refine qk (fun J=>∀ S' xs3,Keeps S S' []→StR S' t' (turnK k g) xs3 ob' kb' ol ar→J S') (fun S3 xs3 hk3 h3=>hQ hf t' xs3 ob' kb' S3 hk3 ht' (hg ▸ h3)) fun J hJ=>?_
  refine qh (fun (z:Int) S'=>∃ (i:Nat) (xs3:Nat→Vx),z=(i:Int)∧i≤6∧Keeps S S' []∧StR S' t' { k with form:=g,tf:=fun j=>if j<i then 0 else k.tf j,fr:=fun j=>if j<i then [] else k.fr j } xs3 ob' kb' ol ar) (fun z=>6-z.toNat) ?_ ⟨0,xs',rfl,by decide,by rw[e2];exact hk1.fresh ht',h2⟩
  rintro X z S3 ⟨i,xs3,rfl,hi,hk3,h3⟩ ih
  by_cases hlt:(i:Int)<6
  ·rw[if_pos hlt]
   have hi6:i<6:=by omega
   refine⟨by omega,hlt,?_⟩
   refine h3.pt (j:=2+(i*12+2)) (vs:=[.int .i64 0,.slice (none) 0 0]) (k':={ k with form:=g,tf:=fun j=>if j<i+1 then 0 else k.tf j,fr:=fun j=>if j<i+1 then [] else k.fr j }) (x':=upd xs3 i (nofs (xs3 i))) rfl (by simp;omega) (by omega) zV (by
    rw[fg (x':=nofs (xs3 i)) (v':=k.vm i) (tf':=0) (late':=k.late i) (fr':=[]) hi6 (by simp) rfl]
    simp only[vY]
    have e1:upd (fun j=>if j<i then (0:Int) else k.tf j) i 0=fun j=>if j<i+1 then 0 else k.tf j:=by
     funext j
     by_cases e:j=i
     ·subst e;rw[zi,if_pos (by omega)]
     ·rw[ze e]
      by_cases e3:j<i
      ·rw[if_pos e3,if_pos (by omega)]
      ·rw[if_neg e3,if_neg (by omega)]
    have e2:upd (fun j=>if j<i then ([]:List Nat) else k.fr j) i []=fun j=>if j<i+1 then [] else k.fr j:=by
     funext j
     by_cases e:j=i
     ·subst e;rw[zi,if_pos (by omega)]
     ·rw[ze e]
      by_cases e3:j<i
      ·rw[if_pos e3,if_pos (by omega)]
      ·rw[if_neg e3,if_neg (by omega)]
    rw[e1,e2]) (fun j hj=>?_) h3.ow h3.ck fun S4 q4 e4 h4=>?_
   ·obtain⟨v1,v2,v3⟩:=h3.vs j hj
    by_cases e:j=i
    ·subst e
     rw[zi]
     refine⟨⟨v1.se,?_,v1.ke,v1.di⟩,⟨v2.se,(by decide:(0:Nat)≤1000000),v2.ke,v2.di⟩,fun c hc=>v3 c ?_⟩
     ·show Row S3 1 ⟨none,0,0⟩ (nL (if j<j+1 then [] else k.fr j))
      rw[if_pos (by omega)];exact Row.nil
     ·rcases hc with e | e | e | e
      ·exact .inl e
      ·cases e
      ·exact .inr (.inr (.inl e))
      ·exact .inr (.inr (.inr e))
    ·rw[ze e]
     refine⟨⟨v1.se,?_,v1.ke,v1.di⟩,v2,v3⟩
     have:=v1.fr
     show Row S3 1 (xs3 j).fs (nL (if j<i+1 then [] else k.fr j))
     have e5:(if j<i+1 then [] else k.fr j)=if j<i then [] else k.fr j:=by
      by_cases e3:j<i
      ·rw[if_pos e3,if_pos (by omega)]
      ·rw[if_neg e3,if_neg (by omega)]
     rw[e5];exact this
   ·rw[w64 (by omega) (by omega)]
    exact ih _ _ ⟨i+1,_,rfl,by omega,by rw[e4];exact hk3.fresh ht',h4⟩ (by omega)
  ·rw[if_neg hlt]
   have:i=6:=by omega
   subst this
   exact hJ S3 xs3 hk3 h3
 by_cases h1f:f=1
 ·rw[if_pos h1f];exact hcut 2 (by rw[if_pos h1f])
 ·rw[if_neg h1f];exact hcut 1 (by rw[if_neg h1f])
end
end Go.Proofs.YtabdpmnhjlmnlaaGreatDoor
end
section
namespace Go.Cr
open Go Go.Pt
theorem jF {ks:List CK} {vs:List Value} (h:fits ks vs=true):∀ {l:List Int},fits (List.replicate l.length (.i .u64)++ks) (l.map (Value.int .u64)++vs)=true
 | []=>h
 | x :: l=>by
  have ih:=jF (l:=l) h
  show (fit1 (.i .u64) (.int .u64 x) && fits (List.replicate l.length (.i .u64)++ks) (l.map (Value.int .u64)++vs))=true
  rw[ih];rfl
theorem xW {s:Seat} (h:s.R.length=16):fits [.i .u64,.i .u64,.i .u64,.i .u64,.i .u64,.i .u64,.i .u64,.i .u64,.i .u64,.i .u64,.i .u64,.i .u64,.i .u64,.i .u64,.i .u64,.i .u64,.i .u64,.i .u64,.i .u64,.i .u64,.i .u64,.i .u64,.b,.i .u8,.i .u32,.i .u32] s.L=true:=by
 have:=jF (l:=s.R) (ks:=[.i .u64,.i .u64,.i .u64,.i .u64,.i .u64,.i .u64,.b,.i .u8,.i .u32,.i .u32]) (vs:=s.tail) rfl
 rw[h] at this;exact this
end Go.Cr
namespace Go.Proofs.YtabdpmnhjlmnlaaGreatDoor
open Go Go.Pt Go.Cr Go.Hp
section
variable {S S':Mem} {x x':Vx} {v:Bv} {fr fr':List Nat} {k k':Kn} {xs xs':Nat→Vx} {t t' ob kb ob' kb':Nat} {ol ar ar':List Value}
theorem kI {a b:Sl} {l:List Seat} (ok:∀ s∈l,s.Ok) (ha:Row S 26 a (l.flatMap Seat.L)) (hb:Row S 26 b (l.flatMap Seat.L)) (hl:l.length≤1000000) {Q:Bool→Mem→Prop} (hQ:Q true S):zE S a b Q:=by
 have hlen:=gM ok
 have wa:Rw S (fun _=>some 0) 0 26 a (l.flatMap Seat.L):=⟨ha,fun _ _ _=>rfl⟩
 have wb:Rw S (fun _=>some 0) 0 26 b (l.flatMap Seat.L):=⟨hb,fun _ _ _=>rfl⟩
 have na:=wa.n (by decide) hlen
 have nb:=wb.n (by decide) hlen
 apply qv
 unfold zz
 refine qk (fun J=>J S) ?_ fun J hJ=>by rw[if_neg (by rw[na,nb];simp)];exact hJ
 refine qk (fun J=>J S) hQ fun J hJ=>?_
 refine qh (fun (z:Int) S'=>∃ i:Nat,z=(i:Int)∧i≤l.length∧S'=S) (fun z=>l.length-z.toNat) ?_ ⟨0,rfl,Nat.zero_le _,rfl⟩
 rintro X z S1 ⟨i,rfl,hi,hS⟩ ih
 subst hS
 by_cases hlt:(i:Int)<(a.n:Int)
 ·rw[if_pos hlt]
  have hil:i<l.length:=by omega
  obtain⟨c,e1,e2⟩:=wa.sl (by rw[hlen];omega)
  obtain⟨c',e1',e2'⟩:=wb.sl (by rw[hlen];omega)
  have hpt:=zaH ok hil
  have hok:=ok _ (List.getElem_mem hil)
  rw[Seat.L_len hok.len] at hpt
  rw[show sl a=sl ⟨some (c,0),a.n,a.c⟩ by rw[←e1],jU]
  refine⟨by omega,by omega,?_⟩
  rw[gu ((wa.part e2 (i*26) (by rw[hlen];omega) (by omega)).trans hpt),show sl b=sl ⟨some (c',0),b.n,b.c⟩ by rw[←e1'],jU]
  refine⟨by omega,by omega,?_⟩
  rw[gu ((wb.part e2' (i*26) (by rw[hlen];omega) (by omega)).trans hpt)]
  refine⟨xW hok.len,xW hok.len,?_⟩
  rw[(vq (xW hok.len) (xW hok.len)).2 rfl,if_neg (by decide),w64 (by omega) (by omega)]
  exact ih _ _ ⟨i+1,by omega,by omega,rfl⟩ (by omega)
 ·rw[if_neg hlt];exact hJ
theorem wB {a b:Sl} {l:List Int} (ha:Row S 1 a (bL l)) (hb:Row S 1 b (bL l)) {Q:Bool→Mem→Prop} (hQ:Q true S):yM S a b Q:=by
 apply vZ
 unfold yN
 have key:∀ {s:Sl} {K:ByteArray→Prop},Row S 1 s (bL l)→K (strOfNums l)→bs S s K:=fun {s K} h hk=>by
  refine⟨l,?_,hk⟩
  have hl:l.length=s.n:=by have:=h.len;unfold bL at this;rw[List.length_map] at this;omega
  rcases h.lie with ⟨h1,h2⟩ | ⟨b,k,h1,_⟩
  ·have:=h.cap
   exact .inl ⟨h1,List.length_eq_zero_iff.1 (by omega)⟩
  ·have:=h.part h1
   rw[Nat.mul_one] at this
   exact .inr ⟨b,0,h1,hl,this⟩
 refine key ha (key hb ?_)
 rw[decide_eq_true rfl];exact hQ
theorem ji (h:VmR S x v fr) (h':VmR S x' v fr') (ok:∀ s∈v.seats,s.Ok) (hl:v.seats.length≤1000000) {tf late tf' late':Int} {Q:Bool→Mem→Prop} (hQ:Q true S):xe S (vmC x v tf late) (vmC x' v tf' late') Q:=by
 apply vA
 unfold yt
 refine⟨rfl,rfl,?_⟩
 refine qk (fun J=>J S) ?_ fun J hJ=>?_
 rotate_left
 ·rw[zbO (show nthL (vmC x v tf late) 0=some (.bool v.on) from rfl),zbO (show nthL (vmC x' v tf' late') 0=some (.bool v.on) from rfl),if_neg (fun h=>h rfl)]
  rw[kS (show nthL (vmC x v tf late) 4=some (.int .i64 v.quota) from rfl),kS (show nthL (vmC x' v tf' late') 4=some (.int .i64 v.quota) from rfl),if_neg (fun h=>h rfl)]
  rw[kS (show nthL (vmC x v tf late) 11=some (.int .u32 (bI v.bells)) from rfl),kS (show nthL (vmC x' v tf' late') 11=some (.int .u32 (bI v.bells)) from rfl),if_neg (fun h=>h rfl)]
  rw[wA (show nthL (vmC x v tf late) 1=some (eL x.ss) from rfl),wA (show nthL (vmC x' v tf' late') 1=some (eL x'.ss) from rfl)]
  refine kI ok h.se h'.se hl ?_
  rw[if_pos rfl,wA (show nthL (vmC x v tf late) 6=some (eL x.ks) from rfl),wA (show nthL (vmC x' v tf' late') 6=some (eL x'.ks) from rfl)]
  refine wB h.ke h'.ke ?_
  rw[if_pos rfl];exact hJ
 refine qk (fun J=>J S) hQ fun J hJ=>?_
 refine qh (fun (z:Int) S'=>∃ i:Nat,z=(i:Int)∧i≤4∧S'=S) (fun z=>4-z.toNat) ?_ ⟨0,rfl,by decide,rfl⟩
 rintro X z S1 ⟨i,rfl,hi,hS⟩ ih
 subst hS
 by_cases hlt:(i:Int)<4
 ·rw[if_pos hlt]
  have hi4:i<4:=by omega
  have hcell:∀ (y:Vx) (a b:Int),nthL (vmC y v a b) (7+(i:Int).toNat*1)=some (eL (y.d i)):=fun y a b=>by
   have:i=0∨i=1∨i=2∨i=3:=by omega
   rcases this with e | e | e | e <;> subst e <;> rfl
  refine⟨by omega,hlt,?_⟩
  rw[wA (hcell x tf late)]
  refine⟨by omega,hlt,?_⟩
  rw[wA (hcell x' tf' late')]
  refine wB (h.di i hi4) (h'.di i hi4) ?_
  rw[if_pos rfl,w64 (by omega) (by omega)]
  exact ih _ _ ⟨i+1,by omega,by omega,rfl⟩ (by omega)
 ·rw[if_neg hlt];exact hJ
theorem jZ {o:Ow} {Q:Bool→Mem→Prop} (hQ:Q true S):xT S (owL o) (owL o) Q:=by
 apply wV
 unfold yf
 refine⟨rfl,rfl,rfl,rfl,?_⟩
 rw[(vq (ks:=[.i .u8,.i .i64,.i .i64,.i .i64]) rfl rfl).2 rfl,if_pos rfl]
 exact hQ
theorem zaK (h:StR S t k xs ob kb ol ar) (h':StR S t' k' xs' ob' kb' ol ar') {N:Nat} {own:Nat→Ow} (hol:ol=cF N fun f=>owL (own f)) (hN:N≤1000000) (e1:k'.vm=k.vm) (e2:k'.ls=k.ls) (e3:k'.turns=k.turns) (ok:∀ i,∀ s∈(k.vm i).seats,s.Ok) (hl:∀ i,(k.vm i).seats.length≤1000000) {Q:Bool→Mem→Prop} (hQ:Q true S) :
  wq S (some (t,0)) (some (t',0)) Q:=by
 apply kD
 unfold xg
 refine qk (fun J=>J S) ?_ fun J hJ=>by rw[if_neg (by simp),if_neg (by simp)];exact hJ
 refine qk (fun J=>J S) ?_ fun J hJ=>?_
 rotate_left
 ·refine qh (fun (z:Int) S'=>∃ i:Nat,z=(i:Int)∧i≤6∧S'=S) (fun z=>6-z.toNat) ?_ ⟨0,rfl,by decide,rfl⟩
  rintro X z S1 ⟨i,rfl,hi,hS⟩ ih
  subst hS
  by_cases hlt:(i:Int)<6
  ·rw[if_pos hlt,wK]
   have hi6:i<6:=by omega
   refine⟨by omega,hlt,?_⟩
   have hp:∀ {t k xs ob kb ar},StR S1 t k xs ob kb ol ar→S1.part t (0+2+(i:Int).toNat*12) 12=some (vmC (xs i) (k.vm i) (k.tf i) (k.late i)):=fun {t k xs ob kb ar} h2=>by
    have:=h2.at_.part (i:=2+(i*12+0)) (n:=12) (by rw[zV];omega)
    rw[show 0+(2+(i*12+0))=0+2+(i:Int).toNat*12 by omega] at this
    rw[this,ff hi6 (by decide)];rfl
   rw[gu (hp h),wK]
   refine⟨by omega,hlt,?_⟩
   rw[gu (hp h')]
   have hv':=(h'.vs i hi6).1
   rw[e1] at hv' ⊢
   refine ji (h.vs i hi6).1 hv' (ok i) (hl i) ?_
   rw[if_pos rfl,w64 (by omega) (by omega)]
   exact ih _ _ ⟨i+1,by omega,by omega,rfl⟩ (by omega)
  ·rw[if_neg hlt];exact hJ
 have pl:∀ {t k xs ob kb ar},StR S t k xs ob kb ol ar→S.part t (0+75) 96=some (cF 16 fun i=>lsL (k.ls i)):=fun {t k xs ob kb ar} h2=>by
  rw[h2.at_.part (by rw[zV];decide)];exact zaR
 have pu:∀ {t k xs ob kb ar},StR S t k xs ob kb ol ar→S.part t (0+172) 18=some (cF 18 fun i=>[Value.int .i64 (k.turns i)]):=fun {t k xs ob kb ar} h2=>by
  rw[h2.at_.part (by rw[zV];decide)];exact zaP
 have po:∀ {t k xs ob kb ar},StR S t k xs ob kb ol ar→S.cell t (0+74)=some (eP (some (ob,0))):=fun {t k xs ob kb ar} h2=>by
  rw[h2.at_.cell (by rw[zV];decide)];exact fh
 have pl':=pl h'
 have pu':=pu h'
 rw[e2] at pl'
 rw[e3] at pu'
 rw[wK,gu (pl h),wK,gu pl']
 have f1:fits ck72 (cF 16 fun i=>lsL (k.ls i))=true:=by kernel_rfl
 have f2:fits [.i .i64,.i .i64,.i .i64,.i .i64,.i .i64,.i .i64,.i .i64,.i .i64,.i .i64,.i .i64,.i .i64,.i .i64,.i .i64,.i .i64,.i .i64,.i .i64,.i .i64,.i .i64] (cF 18 fun i=>[Value.int .i64 (k.turns i)])=true:=by kernel_rfl
 refine⟨f1,f1,?_⟩
 rw[(vq f1 f1).2 rfl,if_pos rfl,gu (pu h),gu pu']
 refine⟨f2,f2,?_⟩
 rw[(vq f2 f2).2 rfl,if_pos rfl,zae (po h),wK]
 obtain⟨s,_,o1,o2,_⟩:=h.ow
 obtain⟨s',_,o1',o2',_⟩:=h'.ow
 rw[wA o1,zae (po h'),wK,wA o1']
 apply zB
 unfold zj
 subst hol
 have wa:Rw S (fun _=>some 0) 0 4 s (cF N fun f=>owL (own f)):=⟨o2,fun _ _ _=>rfl⟩
 have wb:Rw S (fun _=>some 0) 0 4 s' (cF N fun f=>owL (own f)):=⟨o2',fun _ _ _=>rfl⟩
 have na:=wa.n (by decide) xR
 have nb:=wb.n (by decide) xR
 have hlen:=xR (own:=own) (N:=N)
 refine qk (fun J=>J S) ?_ fun J hJ=>by rw[if_neg (by rw[na,nb];simp)];exact hJ
 refine qk (fun J=>J S) ?_ fun J hJ=>?_
 ·exact⟨po h',po h,pu',pu h,pl',pl h,hQ⟩
 refine qh (fun (z:Int) S'=>∃ i:Nat,z=(i:Int)∧i≤N∧S'=S) (fun z=>N-z.toNat) ?_ ⟨0,rfl,Nat.zero_le _,rfl⟩
 rintro X z S1 ⟨i,rfl,hi,hS⟩ ih
 subst hS
 by_cases hlt:(i:Int)<(s.n:Int)
 ·rw[if_pos hlt]
  have hil:i<N:=by omega
  obtain⟨c,e1,e2⟩:=wa.sl (by rw[hlen];omega)
  obtain⟨c',e1',e2'⟩:=wb.sl (by rw[hlen];omega)
  have hpt:lpart (cF N fun f=>owL (own f)) (i*4) 4=some (owL (own i)):=by
   have:=fD (w:=4) (k:=0) (m:=4) (n:=N) (f:=fun f=>owL (own f)) (fun _ _=>rfl) (i:=i) hil (by decide)
   rw[Nat.add_zero] at this
   rw[this];rfl
  rw[show sl s=sl ⟨some (c,0),s.n,s.c⟩ by rw[←e1],jU]
  refine⟨by omega,by omega,?_⟩
  rw[gu ((wa.part e2 (i*4) (by rw[hlen];omega) (by omega)).trans hpt)]
  refine⟨rfl,?_⟩
  rw[show sl s'=sl ⟨some (c',0),s'.n,s'.c⟩ by rw[←e1'],jU]
  refine⟨by omega,by omega,?_⟩
  rw[gu ((wb.part e2' (i*4) (by rw[hlen];omega) (by omega)).trans hpt)]
  refine⟨rfl,?_⟩
  refine⟨114,[],[],rfl,inferInstance,?_⟩
  refine jZ (o:=own i) (Q:=fun t_3 Sx_3=>if t_3=true then X (IntKind.i64.wrap ((i:Int)+1)) Sx_3 else _) ?_
  rw[if_pos rfl,w64 (by omega) (by omega)]
  exact ih _ _ ⟨i+1,by omega,by omega,rfl⟩ (by omega)
 ·rw[if_neg hlt];exact hJ
end
end Go.Proofs.YtabdpmnhjlmnlaaGreatDoor
end
section
namespace Go.Proofs.YtabdpmnhjlmnlaaGreatDoor
open Go Go.Pt
attribute [local irreducible] Code.wp Back bodyPost wpList FR WL WC WQ WA AW Tr Yc HC AllC
set_option maxRecDepth 20000
set_option maxHeartbeats 4000000
set_option linter.unusedVariables false
def wy (S:Mem) (form:Int) (frames:Int) (region:Int) (Q:Pt→Int→Mem→Prop):Prop:=
 jn (fun (Sx:Mem)=>
 yY Sx frames fun t Sx_1=>
 xQ Sx_1 frames fun t_1 Sx_2=>
 xU Sx_2 form frames fun t_2 Sx_3=>
 al Sx_3 86 ([eP t,eP t_1,.slice (none) 0 0,eP t_2,.slice (none) 0 0,.slice (none) 0 0,.slice (none) 0 0,.slice (none) 0 0,.slice (none) 0 0,.slice (none) 0 0,.slice (none) 0 0]) fun b Sx_4=>
 gP (Sx_4.cell b 1) fun t_3=>
 qD Sx_4 t_3 region fun t_4 t_5 Sx_5=>
 pt Sx_5 b 4 1 ([eL t_4]) fun Sx_6=>
 jn (fun (Sx_7:Mem)=>
 Q (some (b,0)) 0 Sx_7) fun Jx=>
 gL (Sx_6.cell b 4) fun t_6=>
 lp (fun Xx (t_7:Int) (Sx_8:Mem)=>
 if t_7<(t_6.n:Int) then
 sl t_6 fun b_1 o n n_1=>
 0≤t_7∧t_7<((n:Nat):Int) ∧
 gI (Sx_8.cell b_1 (o+t_7.toNat*1)) .i64 fun t_8=>
 gP (Sx_8.cell b 3) fun t_9=>
 nn t_9 fun b_2 o_1=>
 gP (Sx_8.cell b_2 (o_1+74)) fun t_10=>
 zZ Sx_8 t_10 t_8 (-1) fun t_11 Sx_9=>
 Xx (IntKind.i64.wrap (t_7+1)) Sx_9
 else
 Jx Sx_8) 0 Sx_6) fun Jx_1=>
 if frames<1 then
 Q none 1 S
 else
 if 512<frames then
 Q none 1 S
 else
 if region<1 then
 Q none 1 S
 else
 if frames<region then
 Q none 1 S
 else
 if form≠1 then
 if form≠2 then
 Q none 1 S
 else
 Jx_1 S
 else
 Jx_1 S
theorem jT {S:Mem} {form:Int} {frames:Int} {region:Int} {Q:Pt→Int→Mem→Prop} (H:wy S form frames region Q):kz S form frames region Q:=by
 unfold wy at H
 exact Tr.intro Tryz.func28 E Tryz.ntmps28 E fun w0=>csr<|gv E E<|gv E E<|nx<|zo H (fun (J:Mem→Prop) (z:Unit) S=>J S) (fun z=>⟨75,[(0,.int .i64 form),(1,.int .i64 frames),(2,.int .i64 region)]⟩) (fun z=>[]) (fun _ Sx H1=>csr<|mv E E<|yZ E E H1 fun t Sx_1 H2=>mv E E<|yZ E E H2 fun t_1 Sx_2 H3=>mv E E<|mv E E<|yZ E E H3 fun t_2 Sx_3 H4=>s_p E (qZ E E)<|by exact wj E E E fun b=>xy 0 E fun hb=>have H5:=H4 b hb;gv E E<|nxr<|mv E E<|mv E E<|s_p E (qF E)<|s_p E (zY E E)<|gx H5 fun t_3 ht_3 H6=>s_v E (qf E) (qJ ht_3)<|mv E E<|fO E E H6 fun t_4 t_5 Sx_5 H7=>mv E E<|s_p E (zI E E)<|s_p E (zI E E)<|s_p E (qF E)<|s_p E (zY E E)<|an H7 fun c H8=>yS E E E E E c E<|nx<|zo H8 (fun (J:Mem→Prop) (z:Unit) S=>J S) (fun z=>⟨75,[(8,.pointer (some ⟨b,0,none⟩))]⟩) (fun z=>[]) (fun _ Sx_7 H9=>csr<|mv E E<|gv E E<|gv E E<|nx<|zm<|zl Tryz.results28 (zd E (zd E zg)) ⟨_,_,E,H9⟩) (fun Jx hJx H10=>csr<|mv E E<|s_p E (qF E)<|s_p E (zY E E)<|gx H10 fun t_6 ht_6 H11=>s_v E (qf E) (qJ ht_6)<|s_p E (xw E)<|mv E E<|nx<|zq<|qV (fun z=>⟨75,[(8,.pointer (some ⟨b,0,none⟩)),(58,eL t_6),(59,.int .i64 (t_6.n:Int)),(60,.int .i64 z)]⟩) (fun z=>[]) 0 (idx:=[]) H11 E ⟨E,E,E,E,True.intro⟩ E<|fun Xx hXx t_7 Sx_8 H12=>csr<|iteK H12 (fun c_1 H13=>s_p E (yT (zR E E) c_1)<|nx<|zF<|c_t E E<|qU<|zr<|zF<|zq<|zF<|by exact zn<|by obtain⟨b_1,o,n,n_1,rfl,H14⟩:=H13;exact an2 H14 fun c_2 c_3 H15=>s_p E (yi E E c_2 c_3 E)<|gx H15 fun t_8 ht_8 H16=>s_v E (qf E) (qJ ht_8)<|gv E E<|nx<|zn<|mv E E<|s_p E (qF E)<|s_p E (zY E E)<|gx H16 fun t_9 ht_9 H17=>s_v E (qf E) (qJ ht_9)<|by obtain⟨b_2,o_1,rfl,H18⟩:=H17;exact s_p E (qF E)<|s_p E (zY E E)<|gx H18 fun t_10 ht_10 H19=>s_v E (qf E) (qJ ht_10)<|mv E E<|yZ E E H19 fun t_11 Sx_9 H20=>zC<|qm<|zr<|zn<|s_p E (yP E E)<|mv E E<|zC<|hXx (IntKind.i64.wrap (t_7+1)) _ _ _ _ [] H20 E ⟨E,E,E,E,True.intro⟩ E) fun c_1 H13=>s_p E (yF (zR E E) c_1)<|nx<|zF<|c_f E E<|qr<|zf<|zf<|zx<|hJx () _ _ _ _ [] H13 E ⟨E,True.intro⟩ E)) (fun Jx_1 hJx_1 H21=>csr<|mv E E<|iteK H21 (fun c_4 H22=>s_p E (yT (zR E E) c_4)<|mv E E<|sk2 E E<|pk E E E<|mv E E<|sk2 E E<|pk E E E<|mv E E<|sk2 E E<|zH E<|pk E E E<|mv E E<|sk4 E E E E<|sk2 E E<|pk E E E<|nx<|c_t E E<|csr<|gv E E<|gv E E<|nx<|zm<|zc<|zl Tryz.results28 (zd E (zd E zg)) ⟨_,_,E,H22⟩) fun c_4 H22=>s_p E (yF (zR E E) c_4)<|mv E E<|mv E E<|iteK H22 (fun c_5 H23=>s_p E (yT (gC E E) c_5)<|pk E E E<|mv E E<|sk2 E E<|pk E E E<|mv E E<|sk2 E E<|zH E<|pk E E E<|mv E E<|sk4 E E E E<|sk2 E E<|pk E E E<|nx<|c_t E E<|csr<|gv E E<|gv E E<|nx<|zm<|zc<|zl Tryz.results28 (zd E (zd E zg)) ⟨_,_,E,H23⟩) fun c_5 H23=>s_p E (yF (gC E E) c_5)<|pk E E E<|mv E E<|mv E E<|iteK H23 (fun c_6 H24=>s_p E (yT (zR E E) c_6)<|pk E E E<|mv E E<|sk2 E E<|zH E<|pk E E E<|mv E E<|sk4 E E E E<|sk2 E E<|pk E E E<|nx<|c_t E E<|csr<|gv E E<|gv E E<|nx<|zm<|zc<|zl Tryz.results28 (zd E (zd E zg)) ⟨_,_,E,H24⟩) fun c_6 H24=>s_p E (yF (zR E E) c_6)<|pk E E E<|mv E E<|mv E E<|mv E E<|iteK H24 (fun c_7 H25=>s_p E (yT (gC E E) c_7)<|pk E E E<|mv E E<|sk4 E E E E<|sk2 E E<|pk E E E<|nx<|c_t E E<|csr<|gv E E<|gv E E<|nx<|zm<|zc<|zl Tryz.results28 (zd E (zd E zg)) ⟨_,_,E,H25⟩) fun c_7 H25=>s_p E (yF (gC E E) c_7)<|pk E E E<|mv E E<|mv E E<|iteK H25 (fun c_8 H26=>s_p E (yT (qE E E) c_8)<|mv E E<|mv E E<|iteK H26 (fun c_9 H27=>s_p E (yT (qE E E) c_9)<|pk E E E<|pk E E E<|nx<|c_t E E<|csr<|gv E E<|gv E E<|nx<|zm<|zc<|zl Tryz.results28 (zd E (zd E zg)) ⟨_,_,E,H27⟩) fun c_9 H27=>s_p E (yF (qE E E) c_9)<|pk E E E<|pk E E E<|nx<|cfs E E<|hJx_1 () _ _ _ _ [] H27 E ⟨E,E,E,True.intro⟩ E) fun c_8 H26=>s_p E (yF (qE E E) c_8)<|mv E E<|sk2 E E<|pk E E E<|pk E E E<|nx<|cfs E E<|hJx_1 () _ _ _ _ [] H26 E ⟨E,E,E,True.intro⟩ E)
def xF (S:Mem) (form:Int) (frames:Int) (Q:Pt→Mem→Prop):Prop:=
 wZ S frames fun t Sx=>
 al Sx 127 ([.slice (none) 0 0]) fun b Sx_1=>
 al Sx_1 77 (spl (spl (spl z77 0 [.int .i64 form]) 74 [eP t]) 171 [.pointer (some ⟨b,0,none⟩)]) fun b_1 Sx_2=>
 Q (some (b_1,0)) Sx_2
theorem jf {S:Mem} {form:Int} {frames:Int} {Q:Pt→Mem→Prop} (H:xF S form frames Q):xU S form frames Q:=by
 unfold xF at H
 exact Tr.intro Tryz.func70 E Tryz.ntmps70 E fun w0=>csr<|gv E E<|nxr<|mv E E<|mv E E<|yZ E E H fun t Sx H1=>s_p E (qZ E E)<|by exact wj E E E fun b=>xy 0 E fun hb=>have H2:=H1 b hb;s_p E (qZ E (vk (off:=0) (size:=1) E E (vi (n:=190) kY (by decide)) (vk (off:=74) (size:=1) E E (vi (n:=190) (gH (m:=1) kY E (by decide)) (by decide)) (vk (off:=171) (size:=1) E E (vi (n:=190) (gH (m:=1) (gH (m:=1) kY E (by decide)) E (by decide)) (by decide)) zaf))))<|by exact wj E E E fun b_1=>xy 0 E fun hb_1=>have H3:=H2 b_1 hb_1;gv E E<|nx<|zm<|zl Tryz.results70 (zd E zg) ⟨_,E,H3⟩
end Go.Proofs.YtabdpmnhjlmnlaaGreatDoor
end
section
namespace Go.Proofs.YtabdpmnhjlmnlaaGreatDoor
open Go Go.Pt Go.Cr Go.Hp
section
variable {S S':Mem} {ρ ρ':Rho} {h:Nat} {A:Ad} {C:Cst} {W:Wd} {φ:Nat→Nat→Nat}
end
end Go.Proofs.YtabdpmnhjlmnlaaGreatDoor
end
section
namespace Go.Cr
open Go Go.Pt
structure Sam (W W':Wd):Prop where
 on:∀ i,(W'.vm i).on=(W.vm i).on
 len:∀ i,(W'.vm i).seats.length=(W.vm i).seats.length
 ev:∀ i,(W'.ev i).length≤(W.ev i).length+1
 time:W'.time=W.time
section
variable {W:Wd}
theorem Sam.refl:Sam W W:=⟨fun _=>rfl,fun _=>rfl,fun _=>Nat.le_succ _,rfl⟩
theorem Sam.setV {n:Nat} {v:Bv} (h1:v.on=(W.vm n).on) (h2:v.seats.length=(W.vm n).seats.length):Sam W (W.setV n v):=by
 refine⟨fun i=>?_,fun i=>?_,fun _=>Nat.le_succ _,rfl⟩
 ·show (upd W.vm n v i).on=_
  by_cases e:i=n
  ·subst e;rw[zi,h1]
  ·rw[ze e]
 ·show (upd W.vm n v i).seats.length=_
  by_cases e:i=n
  ·subst e;rw[zi,h2]
  ·rw[ze e]
theorem Sam.tell {n:Nat} {e:Evt}:Sam W (W.tell n e):=by
 refine⟨fun _=>rfl,fun _=>rfl,fun i=>?_,rfl⟩
 show (upd W.ev n (W.ev n++[e]) i).length≤_
 by_cases h:i=n
 ·subst h;rw[zi];simp
 ·rw[ze h];omega
structure Ans (W:Wd) (r:Int×Int×Wd):Prop where
 v:0≤r.1∧r.1≤255
 e:0≤r.2.1∧r.2.1≤13
 s:Sam W r.2.2
end
end Go.Cr
end
section
namespace Go.Cr
open Go Go.Pt
open Go.Proofs.YtabdpmnhjlmnlaaGreatDoor
end Go.Cr
end
section
namespace Go.Proofs.YtabdpmnhjlmnlaaGreatDoor
open Go Go.Pt Go.Cr Go.Hp
section
variable {S S':Mem} {ρ ρ':Rho} {h:Nat} {A:Ad} {C:Cst} {W:Wd} {φ:Nat→Nat→Nat}
end
end Go.Proofs.YtabdpmnhjlmnlaaGreatDoor
namespace Go.Proofs.YtabdpmnhjlmnlaaGreatDoor
open Go Go.Pt Go.Cr Go.Hp
section
variable {S S':Mem} {ρ ρ':Rho} {h:Nat} {A:Ad} {C:Cst} {W:Wd} {φ:Nat→Nat→Nat}
end
end Go.Proofs.YtabdpmnhjlmnlaaGreatDoor
end
section
namespace Go.Proofs.YtabdpmnhjlmnlaaGreatDoor
open Go Go.Pt Go.Cr Go.Hp
section
variable {S S':Mem} {ρ ρ':Rho} {h:Nat} {A:Ad} {C:Cst} {W:Wd} {φ:Nat→Nat→Nat}
end
end Go.Proofs.YtabdpmnhjlmnlaaGreatDoor
end
section
namespace Go.Cr
open Go Go.Pt
def clrD (d:Nat→List Int) (fr:List Nat):Nat→List Int:=fr.foldl (fun d f=>upd d f noughts) d
def rootD (d:Nat→List Int) (form:Int) (r:Nat) (fr:List Nat):Nat→Nat→List Int
 | 0=>d
 | i+1=>wr (rootD d form r fr i) r (8*i) (bytes8 (pk form (fr.getD (i+1) 0) true))
def makeD (d:Nat→List Int) (form:Int) (fr:List Nat):Nat→List Int:=rootD (clrD d fr) form (fr.getD 0 0) fr 4
theorem wN:∀ {fr:List Nat} {d:Nat→List Int} {x:Nat},clrD d fr x=if x∈fr then noughts else d x
 | [],d,x=>by simp[clrD]
 | f :: fr,d,x=>by
  unfold clrD
  rw[List.foldl_cons]
  have:=wN (fr:=fr) (d:=upd d f noughts) (x:=x)
  unfold clrD at this
  rw[this]
  by_cases e:x∈fr
  ·rw[if_pos e,if_pos (List.mem_cons_of_mem _ e)]
  ·rw[if_neg e]
   by_cases e2:x=f
   ·subst e2;rw[zi,if_pos List.mem_cons_self]
   ·rw[ze e2,if_neg (by simp[e,e2])]
theorem yE {d:Nat→List Int} {form:Int} {r x:Nat} {fr:List Nat} (h:x≠r):∀ {i:Nat},rootD d form r fr i x=d x
 | 0=>rfl
 | i+1=>by rw[rootD,zbf h,yE h]
theorem wY {d:Nat→List Int} {form:Int} {r:Nat} {fr:List Nat} (h:(d r).length=256∧Byt (d r)):∀ {i:Nat},i≤31→(rootD d form r fr i r).length=256∧Byt (rootD d form r fr i r)
 | 0,_=>h
 | i+1,hi=>by
  have ih:=wY (form:=form) (fr:=fr) h (i:=i) (by omega)
  rw[rootD]
  exact⟨by rw[zak (by rw[ih.1,wu];omega)];exact ih.1,zal (vT _) ih.2⟩
theorem jB {d:Nat→List Int} {form:Int} {r:Nat} {fr:List Nat} (h:(d r).length=256∧Byt (d r)) (hf:∀ f∈fr,f≤65535):∀ {i j:Nat},i≤31→j<i→ld (rootD d form r fr i) r j=pk form (fr.getD (j+1) 0) true
 | 0,j,_,hj=>by omega
 | i+1,j,hi,hj=>by
  have ih:=wY (form:=form) (fr:=fr) h (i:=i) (by omega)
  have h6:fr.getD (i+1) 0≤65535:=by
   rw[List.getD_eq_getElem?_getD]
   cases hq:fr[i+1]? with
   | none=>exact Nat.zero_le _
   | some x=>exact hf x (List.mem_of_getElem? hq)
  rw[rootD,zbq ih.1 (by omega) (by omega) (zbL h6).1]
  by_cases e:j=i
  ·rw[if_pos ⟨rfl,e⟩,e]
  ·rw[if_neg (fun h=>e h.2)]
   exact jB h hf (by omega) (by omega)
theorem gi {d:Nat→List Int} {f i:Nat} (h:d f=noughts):ld d f i=0:=by
 unfold ld
 rw[h]
 have key:∀ l:List Int,(∀ x∈l,x=0)→num l=0:=by
  intro l
  induction l with
  | nil=>intro _;rfl
  | cons x l ih=>
   intro hl
   simp only[num]
   rw[hl x (by simp),ih fun y hy=>hl y (by simp[hy])];rfl
 exact key _ fun x hx=>va (List.mem_of_mem_drop (List.mem_of_mem_take hx))
def keepL (own:Nat→Ow) (n:Nat) (l:List Nat):Nat→Ow:=l.foldl (fun o f=>keepC o f n) own
theorem kQ {n:Nat}:∀ {l:List Nat} {own:Nat→Ow} {x:Nat},(∀ f∈l,(own f).kind=0)→l.Nodup→keepL own n l x=if x∈l then ⟨2,n,0,0⟩ else own x
 | [],own,x,_,_=>by simp[keepL]
 | f :: l,own,x,h,hn=>by
  obtain⟨h1,h2⟩:=List.nodup_cons.1 hn
  have e0:keepC own f n=upd own f ⟨2,n,0,0⟩:=by
   unfold keepC
   rw[if_pos (h f (by simp)),if_pos (by omega)]
  have ih:=kQ (n:=n) (l:=l) (own:=keepC own f n) (x:=x) (fun g hg=>by
   rw[e0,ze (fun e=>by subst e;exact h1 hg)];exact h g (by simp[hg])) h2
  unfold keepL at ih ⊢
  rw[List.foldl_cons,ih]
  by_cases e:x∈l
  ·rw[if_pos e,if_pos (List.mem_cons_of_mem _ e)]
  ·rw[if_neg e,e0]
   by_cases e2:x=f
   ·subst e2;rw[zi,if_pos List.mem_cons_self]
   ·rw[ze e2,if_neg (by simp[e,e2])]
def Wd.newV (W:Wd) (n:Nat) (seats quota:Int):Wd:=
 { W with free:=W.free-5,vm:=upd W.vm n (mkV seats quota),time:=upd W.time n 0,ev:=upd W.ev n [] }
section
variable {C:Cst} {W:Wd} {φ:Nat→Nat→Nat}
theorem zaM (h:WOk W) {n:Nat} (hn:n<6) (hoff:(W.vm n).on=false) {seats quota:Int} (hs:1≤seats∧seats≤3) (hq:1≤quota∧quota≤32):WOk (W.newV n seats quota):=by
 have vn:(W.newV n seats quota).vm n=mkV seats quota:=zi
 have vo:∀ i,i≠n→(W.newV n seats quota).vm i=W.vm i:=fun i e=>ze e
 have h0:=h.off n hoff
 have on_of:∀ i,(W.vm i).on=true→i≠n:=fun i hi e=>by subst e;rw[hoff] at hi;cases hi
 refine { h with off:=fun i hi=>?_,six:=fun i hi=>?_,seats:=fun i hi=>?_,ok:=fun i s hs'=>?_,keys:=fun i=>?_,disk:=fun i j hi=>?_,quota:=fun i=>?_,bells:=fun i k hk=>?_,pg:=fun i p l hl=>?_,most:=fun i=>?_,lsr:=fun i hi=>?_,alarm:=fun i k w hw=>?_ }
 ·have e:i≠n:=fun e=>by subst e;rw[vn] at hi;cases hi
  rw[vo i e] at hi ⊢;exact h.off i hi
 ·rw[vo i (by omega)];exact h.six i hi
 ·by_cases e:i=n
  ·subst e;rw[vn]
   show 1≤(List.replicate seats.toNat seat0).length∧_
   rw[List.length_replicate]
   exact⟨by omega,by show (List.replicate seats.toNat seat0).length≤3;rw[List.length_replicate];omega⟩
  ·rw[vo i e] at hi ⊢;exact h.seats i hi
 ·by_cases e:i=n
  ·subst e;rw[vn] at hs'
   rw[List.eq_of_mem_replicate hs'];exact fL
  ·rw[vo i e] at hs';exact h.ok i s hs'
 ·by_cases e:i=n
  ·subst e;rw[vn];exact⟨Nat.zero_le _,fun x hx=>by cases hx⟩
  ·rw[vo i e];exact h.keys i
 ·by_cases e:i=n
  ·subst e;rw[vn];exact⟨yG,fun x hx=>yH hx⟩
  ·rw[vo i e] at hi ⊢;exact h.disk i j hi
 ·by_cases e:i=n
  ·subst e;rw[vn];exact⟨show 0≤quota by omega,hq.2⟩
  ·rw[vo i e];exact h.quota i
 ·by_cases e:i=n
  ·subst e;rw[vn] at hk;cases hk
  ·rw[vo i e] at hk
   obtain⟨a,b,c,d⟩:=h.bells i k hk
   have hkn:=on_of k b
   rw[vo i e,vo k hkn];exact⟨a,b,c,d⟩
 ·obtain⟨a,b⟩:=h.pg i p l hl
  rw[vo i (on_of i a)];exact⟨a,b⟩
 ·by_cases e:i=n
  ·subst e
   have:(W.newV i seats quota).pages i=0:=xn fun p _=>by
    show (W.own i p).isSome=false
    rw[h0.2.1];rfl
   rw[this,vn];show (0:Int)≤quota;omega
  ·rw[vo i e];exact h.most i
 ·obtain⟨a,b,c,d⟩:=h.lsr i hi
  have e1:(W.newV n seats quota).ls i=W.ls i:=rfl
  rw[e1,vo _ (on_of _ b),vo _ (on_of _ c)];exact⟨a,b,c,d⟩
 ·have hw':W.alarm i k=some w:=hw
  have e:i≠n:=fun e=>by subst e;rw[h0.2.2] at hw';cases hw'
  rw[vo i e];exact h.alarm i k w hw'
theorem Rel.newV (h:Rel C W φ) {n:Nat} (hn:n<6) (hoff:(W.vm n).on=false) {seats quota:Int} (hs:1≤seats∧seats≤3) (hq:1≤quota∧quota≤32) {l:List Nat} {u:Nat→Bool} (ht:takeN C.N 5 C.used=some (l,u)) :
  Rel { C with used:=u,own:=keepL C.own n l,dat:=makeD C.dat C.form l,vm:=upd C.vm n (mkV seats quota),tf:=upd C.tf n C.form,fr:=upd C.fr n l,late:=upd C.late n C.now,ev:=upd C.ev n [] } (W.newV n seats quota) φ:=by
 obtain⟨hl5,hnd,hfree,hu,hcnt⟩:=qY ht
 have hk0:∀ f∈l,(C.own f).kind=0:=fun f hf=>by
  have h1:=hfree f hf
  have:=h.used f h1.1
  rw[h1.2] at this
  have h2:=of_decide_eq_false this.symm
  exact Classical.byContradiction fun h3=>h2 h3
 have hown:∀ x,keepL C.own n l x=if x∈l then ⟨2,n,0,0⟩ else C.own x:=fun x=>kQ hk0 hnd
 have hN:=h.N
 have hmem:∀ j,j<5→l.getD j 0∈l:=fun j hj=>ku (by omega)
 have h0:=h.wk.off n hoff
 have ht0:=h.off n hoff
 have vo:∀ i,i≠n→(W.newV n seats quota).vm i=W.vm i:=fun i e=>ze e
 have vn:(W.newV n seats quota).vm n=mkV seats quota:=zi
 have hr:l.getD 0 0∈l:=hmem 0 (by decide)
 have hinj:∀ j,j<5→j≠0→l.getD j 0≠l.getD 0 0:=fun j hj hj0 e=>by
  rw[List.getD_eq_getElem?_getD,List.getD_eq_getElem?_getD,List.getElem?_eq_getElem (by omega),List.getElem?_eq_getElem (by omega)] at e
  exact hj0 ((List.getElem_inj hnd).1 e)
 have hclr:∀ x,x∈l→clrD C.dat l x=noughts:=fun x hx=>by rw[wN,if_pos hx]
 have hnb:noughts.length=256∧Byt noughts:=⟨yG,fun x hx=>yH hx⟩
 have hdn:∀ x,x∉l→makeD C.dat C.form l x=C.dat x:=fun x hx=>by
  unfold makeD
  rw[yE (fun e=>hx (by rw[e];exact hr)),wN,if_neg hx]
 have hlen:∀ f,f<C.N→(makeD C.dat C.form l f).length=256∧Byt (makeD C.dat C.form l f):=fun f hf=>by
  by_cases e:f=l.getD 0 0
  ·unfold makeD
   rw[e]
   exact wY (by rw[hclr _ hr];exact hnb) (by decide)
  ·unfold makeD
   rw[yE e,wN]
   split
   ·exact hnb
   ·exact h.len f hf
 have hnl:∀ f,(C.own f).kind≠0→f∉l:=fun f hf hm=>hf (hk0 f hm)
 have fr_of:∀ m j,(W.vm m).on=true→j<5→(C.fr m).getD j 0∉l:=fun m j hm hj=>hnl _ (by rw[(h.frN hm hj).2];exact show (2:Int)≠0 by decide)
 have on_of:∀ i,(W.vm i).on=true→i≠n:=fun i hi e=>by subst e;rw[hoff] at hi;cases hi
 have ldn:∀ x i,x∉l→ld (makeD C.dat C.form l) x i=ld C.dat x i:=fun x i hx=>by unfold ld;rw[hdn x hx]
 have hroot:∀ m j,((W.newV n seats quota).vm m).on=true→j<4→unp C.form (ld (makeD C.dat C.form l) ((upd C.fr n l m).getD 0 0) j)=some ((upd C.fr n l m).getD (j+1) 0,true):=fun m j hm hj=>by
  by_cases e:m=n
  ·subst e
   rw[zi]
   have e1:ld (makeD C.dat C.form l) (l.getD 0 0) j=pk C.form (l.getD (j+1) 0) true:=jB (by rw[hclr _ hr];exact hnb) (fun f hf=>by have:=(hfree f hf).1;omega) (by decide) hj
   rw[e1,zan (by have:=(hfree _ (hmem (j+1) (by omega))).1;omega)]
  ·rw[vo m e] at hm
   rw[ze e,ldn _ _ (fr_of m 0 hm (by decide))]
   exact h.root m j hm hj
 have hwhere:∀ m p,(W.newV n seats quota).where_ m p=W.where_ m p:=fun m p=>rfl
 have hwn:∀ p,W.where_ n p=none:=fun p=>by
  unfold Wd.where_
  rw[h0.2.1]
  cases hf:leaseAt W.ls n p with
  | none=>rfl
  | some j=>
   obtain⟨_,h1,h2,_⟩:=yk hf
   have:=(h.wk.lsr j h1).2.2.1
   rw[h2,hoff] at this;cases this
 have hleaf:∀ m p,((W.newV n seats quota).vm m).on=true→p<32→unp C.form (ld (makeD C.dat C.form l) ((upd C.fr n l m).getD (p/8+1) 0) (p%8))=(W.where_ m p).map fun q=>(φ q.1 q.2.1,q.2.2):=fun m p hm hp=>by
  by_cases e:m=n
  ·subst e
   rw[zi,hwn]
   have e1:makeD C.dat C.form l (l.getD (p/8+1) 0)=noughts:=by
    unfold makeD
    rw[yE (hinj _ (by omega) (by omega)),hclr _ (hmem _ (by omega))]
   rw[gi e1,jw];rfl
  ·rw[vo m e] at hm
   rw[ze e,ldn _ _ (fr_of m _ hm (by omega))]
   exact h.leaf m p hm hp
 exact { h with
  wk:=zaM h.wk hn hoff hs hq
  vm:=by show upd C.vm n _=upd W.vm n _;rw[h.vm]
  ev:=by show upd C.ev n _=upd W.ev n _;rw[h.ev]
  time:=fun i hi=>by
   show 0≤upd C.late n C.now i∧upd C.late n C.now i≤C.now∧upd W.time n 0 i=C.now-upd C.late n C.now i
   have hnow:=h.now
   by_cases e:i=n
   ·subst e;rw[zi,zi];omega
   ·rw[vo i e] at hi
    rw[ze e,ze e];exact h.time i hi
  alm:=fun i k=>by
   show C.alm i k=(W.alarm i k).map fun w=>min (w+upd C.late n C.now i) most64
   by_cases e:i=n
   ·subst e
    rw[h.alm i k,h0.2.2];rfl
   ·rw[ze e];exact h.alm i k
  free:=by
   show W.free-5=(count (fun f=>! u f) C.N:Int)
   have:=h.free
   omega
  used:=fun f hf=>by
   show u f=decide ((keepL C.own n l f).kind≠0)
   rw[hu,hown]
   by_cases e:f∈l
   ·rw[if_pos e];simp[e]
   ·rw[if_neg e,h.used f hf];simp[e]
  own0:=fun f hf hk=>by
   have hk':(keepL C.own n l f).kind=0:=hk
   show keepL C.own n l f=ow0
   rw[hown] at hk' ⊢
   by_cases e:f∈l
   ·rw[if_pos e] at hk';cases hk'
   ·rw[if_neg e] at hk' ⊢;exact h.own0 f hf hk'
  kind:=fun f hf=>by
   show 0≤(keepL C.own n l f).kind∧(keepL C.own n l f).kind≤3
   rw[hown]
   split
   ·exact⟨show (0:Int)≤2 by decide,show (2:Int)≤3 by decide⟩
   ·exact h.kind f hf
  len:=hlen
  off:=fun i hi=>by
   have e:i≠n:=fun e=>by subst e;rw[vn] at hi;cases hi
   rw[vo i e] at hi
   show upd C.fr n l i=[]∧upd C.tf n C.form i=0∧upd C.late n C.now i=0
   rw[ze e,ze e,ze e];exact h.off i hi
  tab:=fun i hi=>by
   show upd C.tf n C.form i=C.form∧(upd C.fr n l i).length=5∧(upd C.fr n l i).Nodup
   by_cases e:i=n
   ·subst e;rw[zi,zi];exact⟨rfl,hl5,hnd⟩
   ·rw[vo i e] at hi
    rw[ze e,ze e];exact h.tab i hi
  tabf:=fun m f hm=>by
   have hm':f∈upd C.fr n l m:=hm
   show f<C.N∧keepL C.own n l f=⟨2,m,0,0⟩
   rw[hown]
   by_cases e:m=n
   ·subst e
    rw[zi] at hm'
    rw[if_pos hm'];exact⟨(hfree f hm').1,rfl⟩
   ·rw[ze e] at hm'
    have:=h.tabf m f hm'
    rw[if_neg (hnl f (by rw[this.2];exact show (2:Int)≠0 by decide))];exact this
  tabk:=fun f hf h2=>by
   have h2':(keepL C.own n l f).kind=2:=h2
   rw[hown] at h2'
   by_cases e:f∈l
   ·exact⟨n,by show f∈upd C.fr n l n;rw[zi];exact e⟩
   ·rw[if_neg e] at h2'
    obtain⟨m,hm⟩:=h.tabk f hf h2'
    have hmn:m≠n:=fun e2=>by subst e2;rw[ht0.1] at hm;cases hm
    exact⟨m,by show f∈upd C.fr n l m;rw[ze hmn];exact hm⟩
  root:=hroot
  leaf:=hleaf
  pg:=fun m p l2 hl2=>by
   have h3:=h.pg m p l2 hl2
   have hnm:φ m p∉l:=hnl _ (by rw[h3.2.1];exact show (3:Int)≠0 by decide)
   refine⟨h3.1,?_,?_⟩
   ·show keepL C.own n l (φ m p)=_
    rw[hown,if_neg hnm];exact h3.2.1
   ·show makeD C.dat C.form l (φ m p)=l2
    rw[hdn _ hnm];exact h3.2.2
  pgk:=fun f hf h3=>by
   have h3':(keepL C.own n l f).kind=3:=h3
   rw[hown] at h3'
   by_cases e:f∈l
   ·rw[if_pos e] at h3';cases h3'
   ·rw[if_neg e] at h3';exact h.pgk f hf h3'
  hyp:=⟨h.hyp.1,fun f=>by
   show _↔f<C.N∧(keepL C.own n l f).kind=1
   rw[hown]
   by_cases e:f∈l
   ·rw[if_pos e,h.hyp.2 f,hk0 f e]
    exact⟨fun h=>(by cases h.2),fun h=>(by cases h.2)⟩
   ·rw[if_neg e];exact h.hyp.2 f⟩
  cache:=fun r hr'=>by
   obtain⟨m,h1,h2,h3⟩:=h.cache r hr'
   have hmn:=on_of m h2
   refine⟨m,h1,by rw[vo m hmn];exact h2,?_⟩
   show walkC (makeD C.dat C.form l) C.N (upd C.tf n C.form m) (upd C.fr n l m) r.page=_
   rw[ze hmn,ze hmn,←h3]
   by_cases hp:r.page<0∨31<r.page
   ·rw[vW hp]
    unfold walkC Go.Cr.leafC
    rw[if_pos hp]
   ·obtain⟨q,hq⟩:∃ q:Nat,r.page=q:=⟨r.page.toNat,by omega⟩
    have hf:=(h.tab m h2).1
    have hr2:=fun j hj=>hroot m j (by rw[vo m hmn];exact h2) hj
    simp only[ze hmn] at hr2
    have hl2:=hleaf m q (by rw[vo m hmn];exact h2) (by omega)
    rw[ze hmn] at hl2
    rw[hq,gD (h.tab m h2).2.1 (fun j hj=>(h.frN h2 hj).1) (fun j hj=>by rw[hf];exact hr2 j hj) (by omega),hf,hl2,h.walk h2 (by omega)] }
def partB (img:List Int) (p:Nat):List Int:=(img.drop (256*p)).take 256
theorem vK (img:List Int) (p:Nat):spB noughts 0 (partB img p)=pageB img p:=by
 unfold spB pageB fit256 partB
 rw[List.take_zero,List.nil_append,Nat.zero_add]
 congr 1
 unfold noughts
 rw[List.drop_replicate]
 congr 1
 rw[List.length_take];omega
theorem gd {img:List Int} {p:Nat} (h:img.length≤256*p):pageB img p=noughts:=by
 unfold pageB fit256
 rw[List.drop_of_length_le h];rfl
theorem fU {img:List Int} (hb:Byt img) (p:Nat):(pageB img p).length=256∧Byt (pageB img p):=by
 refine⟨go _,fun x hx=>?_⟩
 unfold pageB fit256 at hx
 rcases List.mem_append.1 hx with h | h
 ·exact hb x (List.mem_of_mem_drop (List.mem_of_mem_take h))
 ·rw[List.eq_of_mem_replicate h];decide
theorem gK {n p:Nat} {o o':Option (List Int)}:(W.setO n p o).setO n p o'=W.setO n p o':=by
 have e:upd (W.setO n p o).own n (upd ((W.setO n p o).own n) p o')=upd W.own n (upd (W.own n) p o'):=by
  show upd (upd W.own n (upd (W.own n) p o)) n (upd ((upd W.own n (upd (W.own n) p o)) n) p o')=_
  rw[kZ,zi,kZ]
 exact congrArg (fun x=>({ W with own:=x }:Wd)) e
theorem Rel.page (h:Rel C W φ) {n p f:Nat} {img:List Int} (hb:Byt img) (hon:(W.vm n).on=true) (hp:p<32) (hno:W.where_ n p=none) (hq:(W.pages n:Int)<(W.vm n).quota) (hf:firstOff C.used C.N=some f) :
  Rel { C with dat:=(if 256*p<img.length then wr (setC (upd C.dat f noughts) C.N (C.tf n) (C.fr n) p (pk (C.tf n) f true)) f 0 (partB img p) else setC (upd C.dat f noughts) C.N (C.tf n) (C.fr n) p (pk (C.tf n) f true)),cache:=dropC C.cache n p,own:=donC C.own f n p,used:=upd C.used f true } { W.setO n p (some (pageB img p)) with free:=W.free-1 } (upφ φ n p f):=by
 have hg:=h.get (l:=noughts) ⟨yG,fun x hx=>yH hx⟩ hon hp hno hq hf true rfl
 by_cases hl:256*p<img.length
 ·rw[if_pos hl]
  have ho:({ W.setO n p (some noughts) with free:=W.free-1 }:Wd).own n p=some noughts:=by
   show (W.setO n p (some noughts)).own n p=_
   rw[setO_own,if_pos ⟨rfl,rfl⟩]
  have h2:=hg.setO (l':=spB noughts 0 (partB img p)) ho (by rw[vK];exact fU hb p)
  have hpg:=hg.pg n p noughts ho
  have eφ:upφ φ n p f n p=f:=by unfold upφ;rw[if_pos ⟨rfl,rfl⟩]
  rw[eφ] at h2 hpg
  have ed:(setC (upd C.dat f noughts) C.N (C.tf n) (C.fr n) p (pk (C.tf n) f true)) f=noughts:=hpg.2.2
  have ew:wr (setC (upd C.dat f noughts) C.N (C.tf n) (C.fr n) p (pk (C.tf n) f true)) f 0 (partB img p)=upd (setC (upd C.dat f noughts) C.N (C.tf n) (C.fr n) p (pk (C.tf n) f true)) f (spB noughts 0 (partB img p)):=by unfold wr;rw[ed]
  rw[ew]
  have eo:({ W.setO n p (some noughts) with free:=W.free-1 }:Wd).setO n p (some (spB noughts 0 (partB img p))) = { W.setO n p (some (pageB img p)) with free:=W.free-1 }:=by
   have:=gK (W:=W) (n:=n) (p:=p) (o:=some noughts) (o':=some (spB noughts 0 (partB img p)))
   rw[vK] at this ⊢
   exact congrArg (fun w=>({ w with free:=W.free-1 }:Wd)) this
  rw[eo] at h2
  exact h2
 ·rw[if_neg hl,gd (by omega)]
  exact hg
def Wd.newP (W:Wd) (n:Nat) (seats quota:Int) (img:List Int) (i:Nat):Wd:=
 { W.newV n seats quota with free:=W.free-5-i,own:=upd W.own n fun p=>if p<i then some (pageB img p) else W.own n p }
end
end Go.Cr
end
section
namespace Go.Proofs.YtabdpmnhjlmnlaaGreatDoor
open Go Go.Pt Go.Cr Go.Hp
abbrev pg (b:Nat):Sl:=⟨some (b,0),256,256⟩
structure Pages (S S':Mem) (bs:List Nat):Prop where
 nodup:bs.Nodup
 at_:∀ b∈bs,S b=none∧S' b=some (bw 5 (bL noughts))
 keep:Keeps S S' []
def nilS:Value:=.slice none 0 0
section
variable {S:Mem}
structure Made (S S':Mem) (n:Nat) (ss:Sl) (bs:List Nat):Prop where
 pages:Pages S S' bs
 row:Row S' 26 ss ((List.replicate n seat0).flatMap Seat.L)
 fresh:∀ x o,ss.p=some (x,o)→S x=none∧x∉bs
def mk12 (ss:Sl) (quota:Int) (b0 b1 b2 b3:Nat):List Value:=[.bool true,eL ss,.int .i64 0,.slice none 0 0,.int .i64 quota,.int .u64 0,.slice none 0 0,eL (pg b0),eL (pg b1),eL (pg b2),eL (pg b3),.int .u32 0]
variable {ρ:Rho} {m N:Nat} {d:Nat→List Int}
end
end Go.Proofs.YtabdpmnhjlmnlaaGreatDoor
end
section
namespace Go.Cr
open Go Go.Pt
end Go.Cr
namespace Go.Proofs.YtabdpmnhjlmnlaaGreatDoor
open Go Go.Pt Go.Cr Go.Hp
structure ImgAt (S:Mem) (ρ:Rho) (s:Sl) (xs:List Int):Prop where
 len:xs.length=s.n
 cap:s.n≤s.c
 byt:Byt xs
 lie:xs=[]∨∃ b o,s.p=some (b,o)∧S.part b o xs.length=some (bL xs)∧ρ b=none∧S b≠none
section
variable {S S':Mem} {ρ ρ':Rho} {R:Nat→Prop} {h:Nat} {A:Ad} {C:Cst} {W:Wd} {φ:Nat→Nat→Nat}
theorem ImgAt.mv {s:Sl} {xs:List Int} (hi:ImgAt S ρ s xs) (m:Mv S ρ S' ρ' R):ImgAt S' ρ' s xs:=by
 refine⟨hi.len,hi.cap,hi.byt,hi.lie.imp id fun⟨b,o,h1,h2,h3,h4⟩=>?_⟩
 have e:S' b=S b:=m.kp b h4 fun r e=>by rw[h3] at e;cases e
 refine⟨b,o,h1,?_,?_,by rw[e];exact h4⟩
 ·obtain⟨k,e1,e2⟩:=gT h2
  rw[wl (by rw[e];exact e1)];exact e2
 ·cases hq:ρ' b with
  | none=>rfl
  | some r=>have:=m.old b r hq h4;rw[h3] at this;cases this
theorem Wide.trans {ρ'':Rho} (h1:Wide S ρ ρ') (h2:Wide S ρ' ρ''):Wide S ρ ρ'':=⟨fun b r e=>h2.ext b r (h1.ext b r e),h2.rg,fun e=>h2.g0 (h1.g0 e)⟩
end
end Go.Proofs.YtabdpmnhjlmnlaaGreatDoor
end
section
namespace Go.Proofs.YtabdpmnhjlmnlaaGreatDoor
open Go Go.Pt Go.Cr Go.Hp
structure Kc (C C':Cst):Prop where
 N:C'.N=C.N
 form:C'.form=C.form
 region:C'.region=C.region
 turns:C'.turns=C.turns
 now:C'.now=C.now
theorem Kc.refl {C:Cst}:Kc C C:=⟨rfl,rfl,rfl,rfl,rfl⟩
theorem Kc.trans {C C' C'':Cst} (h:Kc C C') (k:Kc C' C''):Kc C C'':=⟨k.N.trans h.N,k.form.trans h.form,k.region.trans h.region,k.turns.trans h.turns,k.now.trans h.now⟩
theorem Kp.kc {C C':Cst} (h:Kp C C'):Kc C C':=⟨h.N,h.form,h.region,h.turns,h.now⟩
def Aft (h:Nat) (C:Cst) (S:Mem) (ρ:Rho) (W':Wd) (S':Mem):Prop:=∃ ρ' A' C' φ',Mv S ρ S' ρ' Rc∧CrabA S' ρ' h A' C'∧Rel C' W' φ'∧Kc C C'
section
variable {S S':Mem} {ρ ρ':Rho} {R:Nat→Prop} {h:Nat} {A:Ad} {C:Cst} {W:Wd} {φ:Nat→Nat→Nat}
end
end Go.Proofs.YtabdpmnhjlmnlaaGreatDoor
end
section
namespace Go.Cr
open Go Go.Pt
theorem xo:∀ N:Nat,cF N (fun _=>noughts)=List.replicate (256*N) (0:Int)
 | 0=>rfl
 | N+1=>by
  simp only[cF]
  rw[xo N,Nat.mul_add,Nat.mul_one,←List.replicate_append_replicate];rfl
def kn0 (form:Int):Kn:=⟨form,0,fun _=>bv0,fun _=>0,fun _=>0,fun _=>[],fun _=>ls0,fun _=>0⟩
def cst0 (form:Int) (N:Nat):Cst:={ toKn:=kn0 form,N:=N,dat:=fun _=>noughts,used:=fun _=>false,left:=-1,cache:=[],own:=fun _=>ow0,alm:=fun _ _=>none,region:=[],ev:=fun _=>[] }
end Go.Cr
namespace Go.Proofs.YtabdpmnhjlmnlaaGreatDoor
open Go Go.Pt Go.Cr Go.Hp
section
variable {S S':Mem} {ρ ρ':Rho} {R:Nat→Prop}
theorem clamp {N:Nat} (h:N≤512):(if 512<(if (N:Int)<0 then 0 else (N:Int)) then 512 else (if (N:Int)<0 then 0 else (N:Int)))=(N:Int):=by
 rw[if_neg (by omega:¬(N:Int)<0),if_neg (by omega)]
theorem ka (hg:∀ b r,ρ b=some r→S b≠none) {N:Nat} (h1:1≤N) (hN:N≤512) {Q:Pt→Mem→Prop} (hQ:∀ m S' ρ',Mv S ρ S' ρ' (fun _=>False)→StoreD S' ρ' m N (fun _=>noughts)→Q (some (m,0)) S'):yY S N Q:=by
 apply ja
 unfold xA
 rw[clamp hN,w64 (by omega) (by omega)]
 refine⟨by omega,Int.le_refl _,by omega,by omega,?_⟩
 have e:(256*(N:Int)).toNat=256*N:=by omega
 rw[e,gw,←xo]
 intro B hB m hm
 have m1:Mv S ρ (S.set B (bw 5 (bL (cF N fun _=>noughts)))) (ρ.upd B 2) (fun _=>False):=(Mv.refl hg).new hB _ 2
 have m2:=m1.new hm (bw 180 [.slice (some ⟨B,0,none⟩) (256*N) (256*N)]) 1
 have hne:m≠B:=fun e=>by subst e;simp at hm
 refine hQ m _ _ m2 ⟨⟨B,⟨zk,by rw[zJ hne.symm];exact zk,hne,by rw[xo,List.length_replicate],fun x hx=>?_,hN⟩,by rw[yX hne.symm];exact qn⟩,qn,fun _ _=>yG,fun _ _ x hx=>yH hx⟩
 rw[xo] at hx
 rw[List.eq_of_mem_replicate hx];decide
theorem jl (hg:∀ b r,ρ b=some r→S b≠none) {N:Nat} (h1:1≤N) (hN:N≤512) {Q:Pt→Mem→Prop} (hQ:∀ m S' ρ',Mv S ρ S' ρ' (fun _=>False)→OwnP S' ρ' m N (fun _=>ow0)→Q (some (m,0)) S'):wZ S N Q:=by
 apply jb
 unfold xB
 rw[clamp hN]
 refine⟨by omega,Int.le_refl _,by omega,by omega,?_⟩
 rw[Int.toNat_natCast]
 have hz:zrep N [Value.int .u8 0,.int .i64 0,.int .i64 0,.int .i64 0]=cF N fun _=>owL ow0:=by
  have:∀ n:Nat,zrep n [Value.int .u8 0,.int .i64 0,.int .i64 0,.int .i64 0]=cF n fun _=>owL ow0:=by
   intro n
   induction n with
   | zero=>rfl
   | succ n ih=>
    have hs:∀ (z:List Value) (n:Nat),zrep (n+1) z=zrep n z++z:=by
     intro z n
     induction n with
     | zero=>simp[zrep]
     | succ n ih=>show z++zrep (n+1) z=(z++zrep n z)++z;rw[ih,List.append_assoc]
    rw[hs,ih];rfl
  exact this N
 rw[hz]
 intro B hB m hm
 have hl:(cF N fun _=>owL ow0).length=N*4:=xR (own:=fun _=>ow0)
 have m1:Mv S ρ (S.set B (bw 91 (cF N fun _=>owL ow0))) (ρ.upd B 9) (fun _=>False):=(Mv.refl hg).new hB _ 9
 have m2:=m1.new hm (bw 199 [.slice (some ⟨B,0,none⟩) N N]) 8
 have hne:m≠B:=fun e=>by subst e;simp at hm
 refine hQ m _ _ m2 ⟨⟨some (B,0),N,N⟩,⟨⟨_,zk,rfl,rfl⟩,qn⟩,⟨⟨hl,Nat.le_refl _,.inr ⟨B,_,rfl,by rw[zJ hne.symm];exact zk,rfl,hl,?_⟩⟩,fun b o e=>by cases e;rw[yX hne.symm];exact qn⟩⟩
 show (cF N fun _=>owL ow0).take (N*4)=_
 exact List.take_of_length_le (by rw[hl];exact Nat.le_refl _)
def iL (n:Nat):List Int:=(List.range n).map fun (i:Nat)=>(i:Int)
theorem zaS (n:Nat):Hq.fl (iL (n+1))=Hq.fl (iL n)++[.int .i64 (n:Int)]:=by
 unfold iL Hq.fl
 rw[List.range_succ,List.map_append,List.flatMap_append];rfl
theorem zaT (N:Nat):iL N=freeL N fun _=>false:=by
 unfold iL freeL
 have:(List.range N).filter (fun i=>! false)=List.range N:=by simp
 rw[this]
theorem zaz (n:Nat):uL (n+1) (fun _=>false)=uL n (fun _=>false)++[.bool false]:=rfl
theorem kK (hg:∀ b r,ρ b=some r→S b≠none) {N:Nat} (h1:1≤N) (hN:N≤512) {Q:Pt→Mem→Prop} (hQ:∀ p S' ρ',Mv S ρ S' ρ' R345→PoolP S' ρ' p N (fun _=>false) (-1)→Q (some (p,0)) S'):xQ S N Q:=by
 apply jQ
 unfold wv
 intro p hp
 have m0:Mv S ρ (S.set p (bw 178 [.slice none 0 0,.slice none 0 0,.int .i64 (-1)])) (ρ.upd p 3) R345:=(Mv.refl hg).new hp _ 3
 simp only[jn]
 refine qh (fun (z:Int) S'=>∃ (i:Nat) (ρ':Rho) (fs us:Sl),z=(i:Int)∧i≤N∧Mv S ρ S' ρ' R345∧Pc S' ρ' 3 p [eL fs,eL us,.int .i64 (-1)]∧S' p=some (bw 178 [eL fs,eL us,.int .i64 (-1)])∧Rw S' ρ' 4 1 fs (Hq.fl (iL i))∧Rw S' ρ' 5 1 us (uL i fun _=>false)) (fun z=>N-z.toNat) ?_
  ⟨0,_,⟨none,0,0⟩,⟨none,0,0⟩,rfl,by omega,m0,⟨⟨_,zk,rfl,rfl⟩,qn⟩,zk,Rw.nil,Rw.nil⟩
 rintro X z S1 ⟨i,ρ1,fs,us,rfl,hi,m1,hpc,hblk,hf,hu⟩ ih
 rw[clamp hN]
 have hfl:(Hq.fl (iL i)).length=i*1:=by rw[Hq.fl_length];simp[iL]
 have hfn:=hf.n (by decide) hfl
 have hun:=hu.n (by decide) wR
 by_cases hlt:(i:Int)<(N:Int)
 ·rw[if_pos hlt,wA (hpc.cell 0 (by simp) rfl)]
  refine zba (R:=R345) m1 (.inr (.inl rfl)) hf rfl (by decide) rfl (by omega) fun fs' S2 ρ2 m2 m2' hf2 _=>?_
  have hpc2:=hpc.keep m2' (by decide)
  have hblk2:S2 p=some (bw 178 [eL fs,eL us,.int .i64 (-1)]):=by rw[xb m2' (by rw[hblk];simp) hpc.rol (by decide)];exact hblk
  have hu2:=hu.keep m2' (by decide)
  refine zbb hblk2 (by simp) ?_
  have e1:spl [eL fs,eL us,Value.int .i64 (-1)] 0 [eL fs']=[eL fs',eL us,.int .i64 (-1)]:=rfl
  rw[e1]
  have m3:Mv S ρ (S2.set p (bw 178 [eL fs',eL us,.int .i64 (-1)])) ρ2 R345:=m2.put hpc2.rol (.inl rfl) _
  have m3':Mv S2 ρ2 (S2.set p (bw 178 [eL fs',eL us,.int .i64 (-1)])) ρ2 (· = 3):=(Mv.refl (R:=(· = 3)) m2.rg).put hpc2.rol rfl _
  have hf3:=hf2.keep m3' (by decide)
  have hu3:=hu2.keep m3' (by decide)
  have hpc3:Pc (S2.set p (bw 178 [eL fs',eL us,.int .i64 (-1)])) ρ2 3 p [eL fs',eL us,.int .i64 (-1)]:=⟨⟨_,zk,rfl,rfl⟩,hpc2.rol⟩
  rw[wA (hpc3.cell 1 (by simp) rfl)]
  refine zba (R:=R345) m3 (.inr (.inr rfl)) hu3 rfl (by decide) rfl (by omega) fun us' S4 ρ4 m4 m4' hu4 _=>?_
  have hblk4:S4 p=some (bw 178 [eL fs',eL us,.int .i64 (-1)]):=by rw[xb m4' (by rw[zk];simp) hpc2.rol (by decide)];exact zk
  refine zbb hblk4 (by simp) ?_
  have e2:spl [eL fs',eL us,Value.int .i64 (-1)] 1 [eL us']=[eL fs',eL us',.int .i64 (-1)]:=rfl
  rw[e2]
  have hr4:=m4'.ext p 3 hpc2.rol
  have m5:Mv S ρ (S4.set p (bw 178 [eL fs',eL us',.int .i64 (-1)])) ρ4 R345:=m4.put hr4 (.inl rfl) _
  have m5':Mv S4 ρ4 (S4.set p (bw 178 [eL fs',eL us',.int .i64 (-1)])) ρ4 (· = 3):=(Mv.refl (R:=(· = 3)) m4.rg).put hr4 rfl _
  rw[w64 (by omega) (by omega)]
  refine ih _ _ ⟨i+1,ρ4,fs',us',rfl,by omega,m5,⟨⟨_,zk,rfl,rfl⟩,hr4⟩,zk,?_,?_⟩ (by omega)
  ·rw[zaS];exact (hf3.keep m4' (by decide)).keep m5' (by decide)
  ·rw[zaz];exact hu4.keep m5' (by decide)
 ·rw[if_neg hlt]
  have:i=N:=by omega
  subst this
  have hil:(iL i).length=i:=by simp[iL]
  rcases Hq.row_open hf.row with ⟨_,h0⟩ | ⟨c,cap,t,j,e1,hle,hc,hj⟩
  ·rw[h0] at hil;simp at hil;omega
  have hrc:ρ1 c=some 4:=hf.rol c 0 (by rw[e1])
  have hne:p≠c:=fun e=>by rw[←e,hpc.rol] at hrc;cases hrc
  have hcell:S1.cell p 0=some (eL fs):=hpc.cell 0 (by simp) rfl
  have hw:=Hq.wi_of hc
  rw[←hw]
  refine Hq.init_spec (s:=fs) ⟨hcell,by rw[e1],by rw[e1],hne⟩ (by omega) fun l' hp' hh=>?_
  have hll:=hp'.length_eq
  have m2:Mv S ρ (Hq.wi S1 c t j l') ρ1 R345:=m1.put hrc (.inr (.inl rfl)) _
  have m2':Mv S1 ρ1 (Hq.wi S1 c t j l') ρ1 (· = 4):=(Mv.refl (R:=(· = 4)) m1.rg).put hrc rfl _
  refine hQ p _ ρ1 m2 ⟨⟨178,fs,us,l',?_,fun x hx=>?_,hu.keep m2' (by decide),by rw[←zaT];exact hp'⟩,hpc.rol,hN⟩
  ·have efs:fs=⟨some (c,0),l'.length,cap⟩:=by rw[e1,hll]
   rw[efs]
   exact Hq.ck_mk (by unfold Hq.wi;rw[zJ hne,hblk,efs]) rfl Hq.wi_c (by omega) (by rw[hll];exact hj) hne hh (by omega)
  ·have:x=c:=by rw[e1] at hx;simpa [Hq.own] using hx
   rw[this];exact hrc
theorem fZ {form:Int} {ob kb:Nat}:spl (spl (spl z77 0 [.int .i64 form]) 74 [eP (some (ob,0))]) 171 [.pointer (some ⟨kb,0,none⟩)]=knL (kn0 form) (fun _=>vx0) ob kb:=by kernel_rfl
theorem zad {m p t:Nat}:([eP (some (m,0)),eP (some (p,0)),.slice none 0 0,eP (some (t,0)),.slice none 0 0,.slice none 0 0,.slice none 0 0,.slice none 0 0,.slice none 0 0,.slice none 0 0,.slice none 0 0]:List Value)=hdL ⟨m,p,t,0,0,⟨none,0,0⟩,⟨none,0,0⟩,fun _=>⟨none,0,0⟩,fun _=>vx0⟩:=rfl
end
end Go.Proofs.YtabdpmnhjlmnlaaGreatDoor
end
