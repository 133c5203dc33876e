/- Texts of this work,joined by program (pack.py): Cl,Co,Hy,Hz,Ia,Ib,Ic,Ce,Sk,Id,Ie,Ck,If,Ig,Ih. -/
import Derived.Test.YtabdpmnhjlmnlaaGreatDoorQAG
import Derived.Test.YtabdpmnhjlmnlaaGreatDoorQAD
import Derived.Test.YtabdpmnhjlmnlaaGreatDoorQAE
set_option linter.unusedVariables false
section
namespace Go.Cr
open Go Go.Pt
section
variable {C:Cst} {W:Wd} {φ:Nat→Nat→Nat}
theorem WOk.setL (h:WOk W) {i:Nat} {l:Ls} (hi:i<16)
  (h1:l.on=true→(W.vm l.fr).on=true∧(W.vm l.to).on=true∧l.fr≠l.to∧(W.own l.fr l.pg).isSome=true∧-1≤l.at_∧l.at_≤31) (h2:l.on=false→l=ls0) (h3:l.on=true→∀ p:Nat,l.at_=p→W.own l.to p=none)
  (h4:l.on=true→0≤l.at_→∀ j,j≠i→(W.ls j).on=true→(W.ls j).to=l.to→(W.ls j).at_≠l.at_):WOk (W.setL i l):=by
 have e0:(W.setL i l).ls i=l:=zt
 have e1:∀ j,j≠i→(W.setL i l).ls j=W.ls j:=fun j hj=>zn hj
 refine { h with lsr:=fun j hj=>?_,lso:=fun j hj=>?_,lsa:=fun j hj=>?_,lsu:=fun j k hj hk ht h0 ha=>?_ }
 ·by_cases e:j=i
  ·subst e;rw[e0] at hj ⊢;exact⟨hi,h1 hj⟩
  ·rw[e1 j e] at hj ⊢;exact h.lsr j hj
 ·by_cases e:j=i
  ·subst e;rw[e0] at hj ⊢;exact h2 hj
  ·rw[e1 j e] at hj ⊢;exact h.lso j hj
 ·by_cases e:j=i
  ·subst e;rw[e0] at hj ⊢;exact h3 hj
  ·rw[e1 j e] at hj ⊢;exact h.lsa j hj
 ·by_cases e:j=i
  ·by_cases e2:k=i
   ·rw[e,e2]
   ·subst e
    rw[e0] at hj h0 ht ha
    rw[e1 k e2] at hk ht ha
    exact absurd ha.symm (h4 hj h0 k e2 hk ht.symm)
  ·by_cases e2:k=i
   ·subst e2
    rw[e0] at hk ht ha
    rw[e1 j e] at hj ht h0 ha
    exact absurd ha (h4 hk (by omega) j e hj ht)
   ·rw[e1 j e] at hj ht h0 ha
    rw[e1 k e2] at hk ht ha
    exact h.lsu j k hj hk ht h0 ha
theorem zcf {p q:Nat→Bool} {n:Nat} (h:∀ i,i<n→p i=q i):(List.range n).find? p=(List.range n).find? q:=by
 have:=gy (u:=fun i=>! p i) (u':=fun i=>! q i) (N:=n) fun i hi=>by rw[h i hi]
 simpa [firstOff] using this
theorem zaI {ls:Nat→Ls} {i:Nat} {l:Ls} {m:Nat} {p:Int} (h1:¬((ls i).on=true∧(ls i).to=m∧(ls i).at_=p)) (h2:¬(l.on=true∧l.to=m∧l.at_=p)):leaseAt (upd ls i l) m p=leaseAt ls m p:=by
 unfold leaseAt
 apply zcf
 intro j _
 by_cases e:j=i
 ·subst e
  rw[zt]
  rw[Bool.eq_iff_iff]
  simp only[Bool.and_eq_true,decide_eq_true_eq]
  exact⟨fun h=>absurd h h2,fun h=>absurd h h1⟩
 ·rw[zn e]
theorem xm {ls:Nat→Ls} {m i:Nat} {p:Int} (h:leaseAt ls m p=some i):i<16∧(ls i).on=true∧(ls i).to=m∧(ls i).at_=p:=by
 have h1:=List.find?_some h
 have h2:=List.mem_of_find?_eq_some h
 simp only[Bool.and_eq_true,decide_eq_true_eq] at h1
 exact⟨List.mem_range.1 h2,h1⟩
theorem zca (h:WOk W) {i:Nat} {p:Int} (hon:(W.ls i).on=true) (ha:(W.ls i).at_=p) (h0:0≤p):leaseAt W.ls (W.ls i).to p=some i:=by
 have hi:=(h.lsr i hon).1
 cases hf:leaseAt W.ls (W.ls i).to p with
 | none=>
  have:=List.find?_eq_none.1 hf i (List.mem_range.2 hi)
  simp[hon,ha] at this
 | some j=>
  obtain⟨_,h1,h2,h3⟩:=xm hf
  rw[h.lsu i j hon h1 h2.symm (by omega) (by rw[ha,h3])]
theorem zcP {ls:Nat→Ls} {i:Nat} (hi:i<16) (l:Ls) (n p:Nat):lentN (upd ls i l) n p+((ls i).on && (decide ((ls i).fr=n) && decide ((ls i).pg=p))).toNat=lentN ls n p+(l.on && (decide (l.fr=n) && decide (l.pg=p))).toNat:=by
 unfold lentN
 have e:(fun j=>(upd ls i l j).on && (decide ((upd ls i l j).fr=n) && decide ((upd ls i l j).pg=p)))=upd (fun j=>(ls j).on && (decide ((ls j).fr=n) && decide ((ls j).pg=p))) i (l.on && (decide (l.fr=n) && decide (l.pg=p))):=by
  funext j
  unfold upd
  split <;> rfl
 rw[e]
 exact xP (g:=fun j=>(ls j).on && (decide ((ls j).fr=n) && decide ((ls j).pg=p))) hi _
theorem zcr {d:Nat→List Int} {N:Nat} {tf:Int} {fr:List Nat} (hl:fr.length=5) (hN:∀ j,j<5→fr.getD j 0<N) (hr:∀ j,j<4→unp tf (ld d (fr.getD 0 0) j)=some (fr.getD (j+1) 0,true)) {p:Nat} (hp:p<32):walkC d N tf fr p=unp tf (ld d (fr.getD (p/8+1) 0) (p%8)):=by
 have h1:=hr (p/8) (by omega)
 have h2:=hN (p/8+1) (by omega)
 have h3:=hN 0 (by decide)
 match fr,hl with
 | [a,b,c,e,g],_=>
  unfold walkC leafC
  rw[if_neg (by omega)]
  dsimp only
  rw[List.getD_cons_zero] at h1 h3
  have e1:((p:Int)/8).toNat=p/8:=by omega
  have e2:((p:Int)%8).toNat=p%8:=by omega
  rw[if_pos h3,e1,e2,h1]
  dsimp only [Option.map_some]
  rw[if_pos h2]
structure Tu (C:Cst) (n p:Nat) (w:Int) (d:Nat→List Int):Prop where
 ld:∀ m j i,C.fr m≠[]→j<5→i<32→Go.Cr.ld d ((C.fr m).getD j 0) i=if m=n∧j=p/8+1∧i=p%8 then w else Go.Cr.ld C.dat ((C.fr m).getD j 0) i
 oth:∀ f,(C.own f).kind≠2→d f=C.dat f
 len:∀ f,f<C.N→(d f).length=256∧Byt (d f)
theorem Rel.tu (h:Rel C W φ) {n p:Nat} (hn:(W.vm n).on=true) (hp:p<32) {w:Int} (hw:W64 w):Tu C n p w (setC C.dat C.N (C.tf n) (C.fr n) p w):=by
 have e:setC C.dat C.N (C.tf n) (C.fr n) p w=wr C.dat ((C.fr n).getD (p/8+1) 0) (8*(p%8)) (bytes8 w):=by
  unfold setC
  rw[h.leafC hn hp]
  dsimp only
  rw[if_pos (h.frN hn (by omega)).1]
 have hf:=h.frN hn (j:=p/8+1) (by omega)
 have hl:=(h.len _ hf.1).1
 have h8:=xc w
 rw[e]
 refine⟨fun m j i hm hj hi=>?_,fun f hk=>zeU fun e2=>?_,fun f hf'=>⟨by rw[zaY (by rw[hl,h8];omega)];exact (h.len f hf').1,zaZ (wy w) (h.len f hf').2⟩⟩
 ·rw[zfj hl (by omega) hi hw]
  have hmo:(W.vm m).on=true:=by
   cases hv:(W.vm m).on with
   | true=>rfl
   | false=>exact absurd (h.off m hv).1 hm
  have hmf:=h.frN hmo hj
  by_cases ee:m=n∧j=p/8+1∧i=p%8
  ·rw[if_pos ee,if_pos ⟨by rw[ee.1,ee.2.1],ee.2.2⟩]
  ·rw[if_neg ee,if_neg]
   rintro⟨e1,e2⟩
   apply ee
   have hmn:m=n:=by
    have:=hmf.2
    rw[e1,hf.2] at this
    simp only[Ow.mk.injEq] at this
    omega
   subst hmn
   refine⟨rfl,?_,e2⟩
   have hnd:=(h.tab m hmo).2.2
   have hlen:=(h.tab m hmo).2.1
   rw[List.getD_eq_getElem?_getD,List.getD_eq_getElem?_getD,List.getElem?_eq_getElem (by omega),List.getElem?_eq_getElem (by omega)] at e1
   exact (List.getElem_inj hnd).1 e1
 ·rw[e2,hf.2] at hk
  exact hk rfl
section
variable {n p:Nat} {w:Int} {d:Nat→List Int}
theorem Tu.root (t:Tu C n p w d) (h:Rel C W φ) {m j:Nat} (hm:(W.vm m).on=true) (hj:j<4):unp C.form (Go.Cr.ld d ((C.fr m).getD 0 0) j)=some ((C.fr m).getD (j+1) 0,true):=by
 have hne:C.fr m≠[]:=fun e=>by have:=(h.tab m hm).2.1;rw[e] at this;simp at this
 rw[t.ld m 0 j hne (by decide) (by omega),if_neg (by omega)]
 exact h.root m j hm hj
theorem Tu.leaf (t:Tu C n p w d) (h:Rel C W φ) {m q:Nat} (hm:(W.vm m).on=true) (hq:q<32):unp C.form (Go.Cr.ld d ((C.fr m).getD (q/8+1) 0) (q%8))=if m=n∧q=p then unp C.form w else (W.where_ m q).map fun x=>(φ x.1 x.2.1,x.2.2):=by
 have hne:C.fr m≠[]:=fun e=>by have:=(h.tab m hm).2.1;rw[e] at this;simp at this
 rw[t.ld m _ _ hne (by omega) (by omega)]
 by_cases e:m=n∧q=p
 ·rw[if_pos e,if_pos ⟨e.1,by rw[e.2],by rw[e.2]⟩]
 ·rw[if_neg e,if_neg (fun h=>e ⟨h.1,by omega⟩)]
  exact h.leaf m q hm hq
theorem Tu.walk (t:Tu C n p w d) (h:Rel C W φ) {m:Nat} (hm:(W.vm m).on=true) {page:Int} (hne:¬(m=n∧page=p)):walkC d C.N (C.tf m) (C.fr m) page=C.walk m page:=by
 by_cases hp:page<0∨31<page
 ·rw[ff hp]
  unfold walkC Go.Cr.leafC
  rw[if_pos hp]
 ·obtain⟨q,rfl⟩:∃ q:Nat,page=q:=⟨page.toNat,by omega⟩
  have hf:=(h.tab m hm).1
  rw[zcr (h.tab m hm).2.1 (fun j hj=>(h.frN hm hj).1) (fun j hj=>by rw[hf];exact t.root h hm hj) (by omega),hf,t.leaf h hm (by omega),if_neg (by omega),h.walk hm (by omega)]
theorem Tu.cache (t:Tu C n p w d) (h:Rel C W φ):∀ r∈dropC C.cache n p,∃ m:Nat,r.vm=m∧(W.vm m).on=true∧walkC d C.N (C.tf m) (C.fr m) r.page=some (r.f,r.w):=fun r hr=>by
 obtain⟨h1,h2⟩:=gc hr
 obtain⟨m,e1,e2,e3⟩:=h.cache r h1
 refine⟨m,e1,e2,?_⟩
 rw[t.walk h e2 (fun e=>h2 ⟨by rw[e1,e.1],e.2⟩)]
 exact e3
end
theorem where_own {n p:Nat} {l:List Int} (h:W.own n p=some l):W.where_ n p=some (n,p,true):=by
 unfold Wd.where_
 rw[h];rfl
theorem Rel.offer (h:Rel C W φ) {n p to i:Nat} {w:Bool} (hon:(W.vm n).on=true) (hto:(W.vm to).on=true) (hne:n≠to) {l:List Int} (ho:W.own n p=some l) (hi:firstOff (fun i=>(W.ls i).on) 16=some i):Rel { C with ls:=upd C.ls i ⟨true,n,p,to,w,-1⟩,own:=shC C.own (φ n p) n } (W.setL i ⟨true,n,p,to,w,-1⟩) φ:=by
 obtain⟨hi16,hioff,_⟩:=zX hi
 have hpg:=h.pg n p l ho
 have hw:∀ m q,(W.setL i ⟨true,n,p,to,w,-1⟩).where_ m q=W.where_ m q:=fun m q=>by
  have e:=zaI (ls:=W.ls) (i:=i) (l:=⟨true,n,p,to,w,-1⟩) (m:=m) (p:=q) (fun h=>by rw[hioff] at h;cases h.1) (fun h=>by have:=h.2.2;simp only at this;omega)
  unfold Wd.where_
  show (if (W.own m q).isSome=true then _ else (leaseAt (upd W.ls i _) m q).map _)=_
  split
  ·rfl
  ·rw[e]
   cases hf:leaseAt W.ls m q with
   | none=>rfl
   | some j=>
    obtain⟨_,hj,_⟩:=xm hf
    have:j≠i:=fun e=>by subst e;rw[hioff] at hj;cases hj
    simp only[Option.map_some]
    show some ((upd W.ls i _ j).fr,(upd W.ls i _ j).pg,(upd W.ls i _ j).wr)=_
    rw[zn this]
 have hown:shC C.own (φ n p) n=upd C.own (φ n p) ⟨3,n,p,lentN W.ls n p+1⟩:=by
  unfold shC
  rw[hpg.2.1,if_pos ⟨rfl,rfl⟩]
 have hk:∀ f,(upd C.own (φ n p) ⟨3,n,p,lentN W.ls n p+1⟩ f).kind=(C.own f).kind:=fun f=>by
  by_cases e:f=φ n p
  ·rw[e,zt,hpg.2.1]
  ·rw[zn e]
 have hoth:∀ f,(C.own f).kind≠3→upd C.own (φ n p) ⟨3,n,p,lentN W.ls n p+1⟩ f=C.own f:=fun f hf=>zn fun e=>by rw[e,hpg.2.1] at hf;exact hf rfl
 have hlent:∀ m q,lentN (upd W.ls i ⟨true,n,p,to,w,-1⟩) m q=lentN W.ls m q+(decide (n=m) && decide (p=q)).toNat:=fun m q=>by
  have:=zcP (ls:=W.ls) hi16 ⟨true,n,p,to,w,-1⟩ m q
  rw[hioff] at this
  simpa using this
 rw[hown]
 exact { h with
  wk:=h.wk.setL hi16 (fun _=>⟨hon,hto,hne,by show (W.own n p).isSome=true;rw[ho];rfl,show (-1:Int)≤-1 by decide,show (-1:Int)≤31 by decide⟩) (fun h=>by cases h) (fun _ q hq=>by simp only at hq;omega) (fun _ h0=>by simp only at h0;omega)
  ls:=by show upd C.ls i _=upd W.ls i _;rw[h.ls]
  used:=fun f hf=>by show C.used f=decide ((upd C.own _ _ f).kind≠0);rw[hk];exact h.used f hf
  own0:=fun f hf h0=>by
   have h0':(upd C.own (φ n p) ⟨3,n,p,lentN W.ls n p+1⟩ f).kind=0:=h0
   rw[hk] at h0'
   show upd C.own _ _ f=ow0
   rw[hoth f (by rw[h0'];decide)];exact h.own0 f hf h0'
  kind:=fun f hf=>by show 0≤(upd C.own _ _ f).kind∧_;rw[hk];exact h.kind f hf
  tabf:=fun m f hm=>by
   have:=h.tabf m f hm
   refine⟨this.1,?_⟩
   show upd C.own _ _ f=_
   rw[hoth f (by rw[this.2];show (2:Int)≠3;decide)];exact this.2
  tabk:=fun f hf h2=>by
   have h2':(upd C.own (φ n p) ⟨3,n,p,lentN W.ls n p+1⟩ f).kind=2:=h2
   rw[hk] at h2';exact h.tabk f hf h2'
  leaf:=fun m q hm hq=>by rw[hw];exact h.leaf m q hm hq
  pg:=fun m q l2 hl2=>by
   have h3:=h.pg m q l2 hl2
   refine⟨h3.1,?_,h3.2.2⟩
   show upd C.own (φ n p) _ (φ m q)=⟨3,m,q,lentN (upd W.ls i _) m q⟩
   rw[hlent]
   by_cases e:n=m∧p=q
   ·obtain⟨rfl,rfl⟩:=e
    rw[zt];simp
   ·rw[zn (fun e2=>e (by have:=h.inj hl2 ho e2;exact⟨this.1.symm,this.2.symm⟩)),h3.2.1]
    have:(decide (n=m) && decide (p=q))=false:=by simpa using e
    rw[this];simp
  pgk:=fun f hf h3=>by
   have h3':(upd C.own (φ n p) ⟨3,n,p,lentN W.ls n p+1⟩ f).kind=3:=h3
   rw[hk] at h3';exact h.pgk f hf h3'
  hyp:=⟨h.hyp.1,fun f=>by
   show _↔f<C.N∧(upd C.own _ _ f).kind=1
   rw[hk];exact h.hyp.2 f⟩ }
theorem zbE {n p:Nat} (h:W.where_ n p=none):W.own n p=none∧leaseAt W.ls n p=none:=by
 unfold Wd.where_ at h
 split at h
 ·cases h
 ·rename_i hs
  refine⟨by cases ho:W.own n p with | none=>rfl | some l=>rw[ho] at hs;simp at hs,?_⟩
  cases hf:leaseAt W.ls n p with
  | none=>rfl
  | some j=>rw[hf] at h;cases h
end
end Go.Cr
end
section
namespace Go.Cr
open Go Go.Pt
section
variable {C:Cst} {W:Wd} {φ:Nat→Nat→Nat}
theorem vC {n p:Nat} (h1:W.own n p=none) (h2:leaseAt W.ls n p=none):W.where_ n p=none:=by
 unfold Wd.where_
 rw[h1,h2];rfl
theorem setO_own {n p:Nat} {o:Option (List Int)} {m q:Nat}:(W.setO n p o).own m q=if m=n∧q=p then o else W.own m q:=by
 show upd W.own n (upd (W.own n) p o) m q=_
 by_cases e:m=n
 ·subst e
  rw[zt]
  by_cases e2:q=p
  ·subst e2;rw[zt,if_pos ⟨rfl,rfl⟩]
  ·rw[zn e2,if_neg (fun h=>e2 h.2)]
 ·rw[zn e,if_neg (fun h=>e h.1)]
theorem Rel.clear (h:Rel C W φ) {f:Nat} (hf:(C.own f).kind=0) {l:List Int} (hl:l.length=256∧Byt l):Rel { C with dat:=upd C.dat f l } W φ:=by
 have hk:(C.own f).kind≠2:=by rw[hf];decide
 exact { h with
  len:=fun g hg=>by
   show (upd C.dat f l g).length=256∧Byt (upd C.dat f l g)
   by_cases e:g=f
   ·rw[e,zt];exact hl
   ·rw[zn e];exact h.len g hg
  root:=fun n j hn hj=>by
   show unp C.form (ld (upd C.dat f l) ((C.fr n).getD 0 0) j)=_
   rw[h.ld_keep hk hn (by decide)];exact h.root n j hn hj
  leaf:=fun n p hn hp'=>by
   show unp C.form (ld (upd C.dat f l) ((C.fr n).getD (p/8+1) 0) (p%8))=_
   rw[h.ld_keep hk hn (by omega)];exact h.leaf n p hn hp'
  pg:=fun n p l2 hl2=>by
   have h3:=h.pg n p l2 hl2
   refine⟨h3.1,h3.2.1,?_⟩
   show upd C.dat f l (φ n p)=l2
   rw[zn (fun e=>by have h4:=h3.2.1;rw[e] at h4;rw[h4] at hf;cases hf)]
   exact h3.2.2
  cache:=fun r hr=>by
   obtain⟨n,h1,h2,h3⟩:=h.cache r hr
   exact⟨n,h1,h2,by rw[←h3];exact h.walk_keep hk h2 r.page⟩ }
theorem zcQ {ls:Nat→Ls} {n p:Nat}:lentL ls n p=false↔lentN ls n p=0:=by
 unfold lentL lentN count
 rw[List.any_eq_false,List.length_eq_zero_iff,List.filter_eq_nil_iff]
 constructor
 ·intro h i hi
  have:=h i hi
  simp only[Bool.and_eq_true,decide_eq_true_eq,Int.natCast_inj] at this ⊢
  exact this
 ·intro h i hi
  have:=h i hi
  simp only[Bool.and_eq_true,decide_eq_true_eq,Int.natCast_inj] at this ⊢
  exact this
theorem Rel.give (h:Rel C W φ) {n p:Nat} {l:List Int} (ho:W.own n p=some l) (hl:lentL W.ls n p=false) :
  Rel { C with dat:=setC C.dat C.N (C.tf n) (C.fr n) p 0,cache:=dropC C.cache n p,own:=recC C.own (φ n p) n,used:=upd C.used (φ n p) false } { W.setO n p none with free:=W.free+1 } φ∧C.used (φ n p)=true:=by
 have hwp:=h.wk.pg n p l ho
 have hpg:=h.pg n p l ho
 have hon:=hwp.1
 have htf:=(h.tab n hon).1
 have ht:=h.tu hon hwp.2.1 (w:=0) ⟨by decide,by decide⟩
 have h0:=zcQ.1 hl
 have hused:C.used (φ n p)=true:=by rw[h.used _ hpg.1,hpg.2.1];rfl
 refine⟨?_,hused⟩
 have hown:recC C.own (φ n p) n=upd C.own (φ n p) ow0:=by
  unfold recC
  rw[hpg.2.1,if_pos ⟨rfl,rfl,by show ((lentN W.ls n p:Nat):Int)≤0;omega⟩]
 rw[hown]
 have hat:leaseAt W.ls n p=none:=by
  cases hf:leaseAt W.ls n p with
  | none=>rfl
  | some j=>
   obtain⟨_,h1,h2,h3⟩:=xm hf
   have:=h.wk.lsa j h1 p h3
   rw[h2,ho] at this;cases this
 have hw:∀ m q,({ W.setO n p none with free:=W.free+1 }:Wd).where_ m q=if m=n∧q=p then none else W.where_ m q:=fun m q=>by
  have e1:({ W.setO n p none with free:=W.free+1 }:Wd).where_ m q=(W.setO n p none).where_ m q:=rfl
  rw[e1]
  by_cases e:m=n∧q=p
  ·rw[if_pos e]
   obtain⟨rfl,rfl⟩:=e
   exact vC (by rw[setO_own,if_pos ⟨rfl,rfl⟩]) hat
  ·rw[if_neg e]
   unfold Wd.where_
   rw[setO_own,if_neg e];rfl
 have hnl:∀ i,(W.ls i).on=true→¬((W.ls i).fr=n∧(W.ls i).pg=p):=fun i hi e=>by
  have:=gX h0 i (h.wk.lsr i hi).1
  simp[hi,e.1,e.2] at this
 have hwk:WOk { W.setO n p none with free:=W.free+1 }:=by
  refine { h.wk with off:=fun i hi=>⟨(h.wk.off i hi).1,fun q=>?_,(h.wk.off i hi).2.2⟩,pg:=fun m q l2 hl2=>?_,most:=fun m=>?_,lsr:=fun i hi=>?_,lsa:=fun i hi q hq=>?_ }
  ·show (W.setO n p none).own i q=none
   rw[setO_own];split
   ·rfl
   ·exact (h.wk.off i hi).2.1 q
  ·have hl2':(W.setO n p none).own m q=some l2:=hl2
   rw[setO_own] at hl2'
   split at hl2'
   ·cases hl2'
   ·exact h.wk.pg m q l2 hl2'
  ·refine Int.le_trans ?_ (h.wk.most m)
   have:count (fun q=>((W.setO n p none).own m q).isSome) 32≤count (fun q=>(W.own m q).isSome) 32:=gY fun q _ hq=>by
    rw[setO_own] at hq
    split at hq
    ·cases hq
    ·exact hq
   exact Int.ofNat_le.2 this
  ·have hh:=h.wk.lsr i hi
   refine⟨hh.1,hh.2.1,hh.2.2.1,hh.2.2.2.1,?_,hh.2.2.2.2.2⟩
   show ((W.setO n p none).own (W.ls i).fr (W.ls i).pg).isSome=true
   rw[setO_own,if_neg (hnl i hi)];exact hh.2.2.2.2.1
  ·show (W.setO n p none).own (W.ls i).to q=none
   rw[setO_own];split
   ·rfl
   ·exact h.wk.lsa i hi q hq
 have hne:∀ m q l2,W.own m q=some l2→¬(m=n∧q=p)→φ m q≠φ n p:=fun m q l2 hl2 e e2=>e (h.inj hl2 ho e2)
 have hk:∀ f,f≠φ n p→upd C.own (φ n p) ow0 f=C.own f:=fun f e=>zn e
 exact { h with
  wk:=hwk
  free:=by
   show W.free+1=(count (fun f=>! upd C.used (φ n p) false f) C.N:Int)
   have e1:(fun f=>! upd C.used (φ n p) false f)=upd (fun f=>! C.used f) (φ n p) true:=by
    funext g;unfold upd;split <;> rfl
   have:=xP (g:=fun f=>! C.used f) hpg.1 true
   rw[←e1] at this
   simp only[hused,Bool.not_true,Bool.toNat_false,Bool.toNat_true] at this
   rw[h.free];omega
  used:=fun f hf=>by
   show upd C.used (φ n p) false f=decide ((upd C.own (φ n p) ow0 f).kind≠0)
   by_cases e:f=φ n p
   ·rw[e,zt,zt];rfl
   ·rw[zn e,zn e];exact h.used f hf
  own0:=fun f hf hk0=>by
   show upd C.own (φ n p) ow0 f=ow0
   by_cases e:f=φ n p
   ·rw[e,zt]
   ·have hk0':(upd C.own (φ n p) ow0 f).kind=0:=hk0
    rw[zn e] at hk0' ⊢;exact h.own0 f hf hk0'
  kind:=fun f hf=>by
   show 0≤(upd C.own (φ n p) ow0 f).kind∧(upd C.own (φ n p) ow0 f).kind≤3
   by_cases e:f=φ n p
   ·rw[e,zt];exact⟨show (0:Int)≤0 by decide,show (0:Int)≤3 by decide⟩
   ·rw[zn e];exact h.kind f hf
  len:=ht.len
  tabf:=fun m f hm=>by
   have:=h.tabf m f hm
   refine⟨this.1,?_⟩
   show upd C.own (φ n p) ow0 f=_
   rw[zn (fun e=>by rw[e,hpg.2.1] at this;cases this.2)];exact this.2
  tabk:=fun f hf h2=>by
   have h2':(upd C.own (φ n p) ow0 f).kind=2:=h2
   by_cases e:f=φ n p
   ·rw[e,zt] at h2';cases h2'
   ·rw[zn e] at h2';exact h.tabk f hf h2'
  root:=fun m j hm hj=>ht.root h hm hj
  leaf:=fun m q hm hq=>by
   show unp C.form (ld (setC C.dat C.N (C.tf n) (C.fr n) p 0) ((C.fr m).getD (q/8+1) 0) (q%8))=_
   rw[ht.leaf h hm hq,hw]
   split
   ·rw[jw];rfl
   ·rfl
  pg:=fun m q l2 hl2=>by
   have hl2':(W.setO n p none).own m q=some l2:=hl2
   rw[setO_own] at hl2'
   by_cases e:m=n∧q=p
   ·rw[if_pos e] at hl2';cases hl2'
   ·rw[if_neg e] at hl2'
    have h3:=h.pg m q l2 hl2'
    refine⟨h3.1,?_,?_⟩
    ·show upd C.own (φ n p) ow0 (φ m q)=_
     rw[zn (hne m q l2 hl2' e)];exact h3.2.1
    ·show setC C.dat C.N (C.tf n) (C.fr n) p _ (φ m q)=l2
     rw[ht.oth _ (by rw[h3.2.1];show (3:Int)≠2;decide)];exact h3.2.2
  pgk:=fun f hf h3=>by
   have h3':(upd C.own (φ n p) ow0 f).kind=3:=h3
   by_cases e:f=φ n p
   ·rw[e,zt] at h3';cases h3'
   ·rw[zn e] at h3'
    obtain⟨m,q,h4,h5⟩:=h.pgk f hf h3'
    refine⟨m,q,?_,h5⟩
    show ((W.setO n p none).own m q).isSome=true
    rw[setO_own,if_neg (fun e2=>e (by rw[←h5,e2.1,e2.2]))];exact h4
  hyp:=⟨h.hyp.1,fun f=>by
   show _↔f<C.N∧(upd C.own (φ n p) ow0 f).kind=1
   by_cases e:f=φ n p
   ·rw[e,zt,h.hyp.2 (φ n p),hpg.2.1]
    exact⟨fun h=>(by cases h.2),fun h=>(by cases h.2)⟩
   ·rw[zn e];exact h.hyp.2 f⟩
  cache:=ht.cache (W:=W) (φ:=φ) h
  csize:=Nat.le_trans gd h.csize }
def upφ (φ:Nat→Nat→Nat) (n p f:Nat):Nat→Nat→Nat:=fun m q=>if m=n∧q=p then f else φ m q
theorem Rel.get (h:Rel C W φ) {n p f:Nat} {l:List Int} (hl:l.length=256∧Byt l) (hon:(W.vm n).on=true) (hp:p<32) (hno:W.where_ n p=none) (hq:(W.pages n:Int)<(W.vm n).quota) (hf:firstOff C.used C.N=some f) (w:Bool) (hww:w=true) :
  Rel { C with dat:=setC (upd C.dat f l) C.N (C.tf n) (C.fr n) p (pk (C.tf n) f w),cache:=dropC C.cache n p,own:=donC C.own f n p,used:=upd C.used f true } { W.setO n p (some l) with free:=W.free-1 } (upφ φ n p f):=by
 subst hww
 obtain⟨hfN,hfu,_⟩:=zX hf
 have hN:=h.N
 have hk0:(C.own f).kind=0:=by
  have:=h.used f hfN
  rw[hfu] at this
  have h2:=of_decide_eq_false this.symm
  exact Classical.byContradiction fun h3=>h2 h3
 have h':=h.clear hk0 hl
 have htf:=(h.tab n hon).1
 have ht:=h'.tu hon hp (w:=pk (C.tf n) f true) (zfg (by omega)).1
 have hn1:=zbE hno
 have hown:donC C.own f n p=upd C.own f ⟨3,n,p,0⟩:=by unfold donC;rw[if_pos hk0]
 rw[hown]
 have hw:∀ m q,({ W.setO n p (some l) with free:=W.free-1 }:Wd).where_ m q=if m=n∧q=p then some (n,p,true) else W.where_ m q:=fun m q=>by
  have e1:({ W.setO n p (some l) with free:=W.free-1 }:Wd).where_ m q=(W.setO n p (some l)).where_ m q:=rfl
  rw[e1]
  unfold Wd.where_
  rw[setO_own]
  by_cases e:m=n∧q=p
  ·rw[if_pos e,if_pos e,e.1,e.2];rfl
  ·rw[if_neg e,if_neg e];rfl
 have hφ:∀ m q l2,W.own m q=some l2→upφ φ n p f m q=φ m q:=fun m q l2 hl2=>by
  unfold upφ
  rw[if_neg]
  rintro⟨rfl,rfl⟩
  rw[hn1.1] at hl2;cases hl2
 have h0:lentN W.ls n p=0:=yD fun i hi=>by
  cases hb:((W.ls i).on && (decide ((W.ls i).fr=n) && decide ((W.ls i).pg=p))) with
  | false=>rfl
  | true=>
   simp only[Bool.and_eq_true,decide_eq_true_eq] at hb
   have:=(h.wk.lsr i hb.1).2.2.2.2.1
   rw[hb.2.1,hb.2.2,hn1.1] at this;cases this
 have hne:∀ m q l2,W.own m q=some l2→φ m q≠f:=fun m q l2 hl2 e=>by
  have:=(h.pg m q l2 hl2).2.1
  rw[e] at this;rw[this] at hk0;cases hk0
 have hwk:WOk { W.setO n p (some l) with free:=W.free-1 }:=by
  refine { h.wk with off:=fun i hi=>⟨(h.wk.off i hi).1,fun q=>?_,(h.wk.off i hi).2.2⟩,pg:=fun m q l2 hl2=>?_,most:=fun m=>?_,lsr:=fun i hi=>?_,lsa:=fun i hi q hq=>?_ }
  ·show (W.setO n p (some l)).own i q=none
   rw[setO_own,if_neg (fun e=>by rw[e.1] at hi;have:(W.vm n).on=false:=hi;rw[hon] at this;cases this)]
   exact (h.wk.off i hi).2.1 q
  ·have hl2':(W.setO n p (some l)).own m q=some l2:=hl2
   rw[setO_own] at hl2'
   split at hl2'
   ·rename_i e
    cases hl2'
    exact⟨by rw[e.1];exact hon,by rw[e.2];exact hp,hl⟩
   ·exact h.wk.pg m q l2 hl2'
  ·show ((count (fun q=>((W.setO n p (some l)).own m q).isSome) 32:Nat):Int)≤(W.vm m).quota
   by_cases e:m=n
   ·subst e
    have e1:(fun q=>((W.setO m p (some l)).own m q).isSome)=upd (fun q=>(W.own m q).isSome) p true:=by
     funext q
     rw[setO_own]
     by_cases e2:q=p
     ·subst e2;rw[if_pos ⟨rfl,rfl⟩,zt];rfl
     ·rw[if_neg (fun h=>e2 h.2),zn e2]
    have:=xP (g:=fun q=>(W.own m q).isSome) hp true
    rw[←e1] at this
    simp only[hn1.1,Option.isSome_none,Bool.toNat_false,Bool.toNat_true] at this
    have hq':((count (fun q=>(W.own m q).isSome) 32:Nat):Int)<(W.vm m).quota:=hq
    omega
   ·have:count (fun q=>((W.setO n p (some l)).own m q).isSome) 32=count (fun q=>(W.own m q).isSome) 32:=xQ fun q _=>by rw[setO_own,if_neg (fun h=>e h.1)]
    rw[this];exact h.wk.most m
  ·have hh:=h.wk.lsr i hi
   refine⟨hh.1,hh.2.1,hh.2.2.1,hh.2.2.2.1,?_,hh.2.2.2.2.2⟩
   show ((W.setO n p (some l)).own (W.ls i).fr (W.ls i).pg).isSome=true
   rw[setO_own];split
   ·rfl
   ·exact hh.2.2.2.2.1
  ·show (W.setO n p (some l)).own (W.ls i).to q=none
   rw[setO_own,if_neg]
   ·exact h.wk.lsa i hi q hq
   ·rintro⟨e1,e2⟩
    have:=zca h.wk hi hq (by omega)
    rw[e1,e2,hn1.2] at this;cases this
 exact { h with
  wk:=hwk
  free:=by
   show W.free-1=(count (fun g=>! upd C.used f true g) C.N:Int)
   have e1:(fun g=>! upd C.used f true g)=upd (fun g=>! C.used g) f false:=by
    funext g;unfold upd;split <;> rfl
   have:=xP (g:=fun g=>! C.used g) hfN false
   rw[←e1] at this
   simp only[hfu,Bool.not_false,Bool.toNat_false,Bool.toNat_true] at this
   rw[h.free];omega
  used:=fun g hg=>by
   show upd C.used f true g=decide ((upd C.own f ⟨3,n,p,0⟩ g).kind≠0)
   by_cases e:g=f
   ·rw[e,zt,zt];rfl
   ·rw[zn e,zn e];exact h.used g hg
  own0:=fun g hg hk=>by
   have hk':(upd C.own f ⟨3,n,p,0⟩ g).kind=0:=hk
   show upd C.own f ⟨3,n,p,0⟩ g=ow0
   by_cases e:g=f
   ·rw[e,zt] at hk';cases hk'
   ·rw[zn e] at hk' ⊢;exact h.own0 g hg hk'
  kind:=fun g hg=>by
   show 0≤(upd C.own f ⟨3,n,p,0⟩ g).kind∧(upd C.own f ⟨3,n,p,0⟩ g).kind≤3
   by_cases e:g=f
   ·rw[e,zt];exact⟨show (0:Int)≤3 by decide,show (3:Int)≤3 by decide⟩
   ·rw[zn e];exact h.kind g hg
  len:=ht.len
  tabf:=fun m g hm=>by
   have:=h.tabf m g hm
   refine⟨this.1,?_⟩
   show upd C.own f ⟨3,n,p,0⟩ g=_
   rw[zn (fun e=>by rw[e] at this;rw[this.2] at hk0;cases hk0)];exact this.2
  tabk:=fun g hg h2=>by
   have h2':(upd C.own f ⟨3,n,p,0⟩ g).kind=2:=h2
   by_cases e:g=f
   ·rw[e,zt] at h2';cases h2'
   ·rw[zn e] at h2';exact h.tabk g hg h2'
  root:=fun m j hm hj=>ht.root h' hm hj
  leaf:=fun m q hm hq=>by
   show unp C.form (ld (setC (upd C.dat f l) C.N (C.tf n) (C.fr n) p _) ((C.fr m).getD (q/8+1) 0) (q%8))=_
   rw[ht.leaf h' hm hq,hw]
   by_cases e:m=n∧q=p
   ·rw[if_pos e,if_pos e,htf,zdO (by omega),Option.map_some]
    unfold upφ
    rw[if_pos ⟨rfl,rfl⟩]
   ·rw[if_neg e,if_neg e]
    cases hwq:W.where_ m q with
    | none=>rfl
    | some x=>
     obtain⟨l2,hl2⟩:=h.wk.where_own hwq
     rw[Option.map_some,Option.map_some,hφ _ _ l2 hl2]
  pg:=fun m q l2 hl2=>by
   have hl2':(W.setO n p (some l)).own m q=some l2:=hl2
   rw[setO_own] at hl2'
   by_cases e:m=n∧q=p
   ·rw[if_pos e] at hl2'
    cases hl2'
    obtain⟨rfl,rfl⟩:=e
    have e1:upφ φ m q f m q=f:=by unfold upφ;rw[if_pos ⟨rfl,rfl⟩]
    rw[e1]
    refine⟨hfN,?_,?_⟩
    ·show upd C.own f ⟨3,m,q,0⟩ f=⟨3,m,q,lentN W.ls m q⟩
     rw[zt,h0];rfl
    ·show setC (upd C.dat f l) C.N (C.tf m) (C.fr m) q _ f=l
     rw[ht.oth f (by show (C.own f).kind≠2;rw[hk0];decide)]
     exact zt
   ·rw[if_neg e] at hl2'
    have h3:=h.pg m q l2 hl2'
    rw[hφ m q l2 hl2']
    refine⟨h3.1,?_,?_⟩
    ·show upd C.own f ⟨3,n,p,0⟩ (φ m q)=_
     rw[zn (hne m q l2 hl2')];exact h3.2.1
    ·show setC (upd C.dat f l) C.N (C.tf n) (C.fr n) p _ (φ m q)=l2
     rw[ht.oth _ (by show (C.own (φ m q)).kind≠2;rw[h3.2.1];show (3:Int)≠2;decide)]
     show upd C.dat f l (φ m q)=l2
     rw[zn (hne m q l2 hl2')];exact h3.2.2
  pgk:=fun g hg h3=>by
   have h3':(upd C.own f ⟨3,n,p,0⟩ g).kind=3:=h3
   by_cases e:g=f
   ·refine⟨n,p,?_,?_⟩
    ·show ((W.setO n p (some l)).own n p).isSome=true
     rw[setO_own,if_pos ⟨rfl,rfl⟩];rfl
    ·unfold upφ;rw[if_pos ⟨rfl,rfl⟩,e]
   ·rw[zn e] at h3'
    obtain⟨m,q,h4,h5⟩:=h.pgk g hg h3'
    obtain⟨l2,hl2⟩:=Option.isSome_iff_exists.1 h4
    refine⟨m,q,?_,by rw[hφ m q l2 hl2];exact h5⟩
    show ((W.setO n p (some l)).own m q).isSome=true
    rw[setO_own];split
    ·rfl
    ·exact h4
  hyp:=⟨h.hyp.1,fun g=>by
   show _↔g<C.N∧(upd C.own f ⟨3,n,p,0⟩ g).kind=1
   by_cases e:g=f
   ·rw[e,zt,h.hyp.2 f,hk0]
    exact⟨fun h=>(by cases h.2),fun h=>(by cases h.2)⟩
   ·rw[zn e];exact h.hyp.2 g⟩
  cache:=fun r hr=>ht.cache (W:=W) (φ:=φ) h' r hr
  csize:=Nat.le_trans gd h.csize }
end
end Go.Cr
end
section
namespace Go.Proofs.YtabdpmnhjlmnlaaGreatDoor
open Go Go.Pt Go.Cr Go.Hp
structure Kp (C C':Cst):Prop where
 N:C'.N=C.N
 form:C'.form=C.form
 region:C'.region=C.region
 turns:C'.turns=C.turns
 now:C'.now=C.now
 late:C'.late=C.late
 tf:C'.tf=C.tf
 fr:C'.fr=C.fr
theorem Kp.refl {C:Cst}:Kp C C:=⟨rfl,rfl,rfl,rfl,rfl,rfl,rfl,rfl⟩
theorem Kp.trans {C C' C'':Cst} (h:Kp C C') (k:Kp C' C''):Kp C C'':=⟨k.N.trans h.N,k.form.trans h.form,k.region.trans h.region,k.turns.trans h.turns,k.now.trans h.now,k.late.trans h.late,k.tf.trans h.tf,k.fr.trans h.fr⟩
def After (h:Nat) (A:Ad) (C:Cst) (S:Mem) (ρ:Rho) (W':Wd) (S':Mem):Prop:=
 ∃ ρ' A' C' φ',Mv S ρ S' ρ' Rc∧CrabA S' ρ' h A' C'∧Rel C' W' φ'∧Kp C C'∧A'.t=A.t∧∀ i,(A'.x i).ss=(A.x i).ss
section
variable {S S':Mem} {ρ ρ':Rho} {h:Nat} {A:Ad} {C:Cst} {W:Wd} {φ:Nat→Nat→Nat}
theorem After.here (hc:CrabA S ρ h A C) (hr:Rel C W φ):After h A C S ρ W S:=⟨ρ,A,C,φ,Mv.refl hc.rg,hc,hr,Kp.refl,rfl,fun _=>rfl⟩
theorem After.keeps (hc:CrabA S ρ h A C) (hr:Rel C W φ) (hk:Keeps S S' []):After h A C S ρ W S':=⟨ρ,A,C,φ,hc.mv0 hk,hc.keeps hk,hr,Kp.refl,rfl,fun _=>rfl⟩
theorem zdb (hc:CrabA S ρ h A C) {n:Nat} (hn:n<6) {page:Int} {f:Nat} (hf:f<C.N) {w:Bool} (hl:C.cache.length≤100) {Q:Mem→Prop}
  (hQ:∀ S' ρ' cs,Mv S ρ S' ρ' (fun r=>r<100)→CrabA S' ρ' h { A with cs:=cs } { C with dat:=setC C.dat C.N (C.tf n) (C.fr n) page (Go.Cr.pk (C.tf n) f w),cache:=dropC C.cache n page }→Q S'):wL S (some (h,0)) n page f w Q:=by
 apply jM
 unfold xU
 rw[yo,qT hc.c3,yo]
 refine⟨by omega,by omega,?_⟩
 rw[Int.toNat_natCast,gj (hc.vtab hn (by omega)),qT hc.c0]
 refine mapD hc.st hc.rg (hc.vs n hn).fr.row hf fun e S1 m1 hs1=>?_
 have hc1:=hc.setStore m1 hs1
 refine⟨hc1.c3,?_⟩
 refine zch hc1.cap hc1.rg hl fun S2 ρ2 m2 h2=>?_
 obtain⟨cs,h3,h4⟩:=h2.ex
 exact hQ S2 ρ2 cs ((m1.mono fun r hr=>by omega).trans (m2.mono fun r hr=>by omega)) (hc1.setCache m2 h3 h4)
theorem zdB (hc:CrabA S ρ h A C) {n:Nat} (hn:n<6) {p f:Nat} (hp:p<32) (hf:f<C.N) (hl:C.cache.length≤100) {Q:Mem→Prop}
  (hQ:∀ S' ρ' cs,Mv S ρ S' ρ' (fun r=>r<100)→CrabA S' ρ' h { A with cs:=cs } { C with dat:=setC (upd C.dat f noughts) C.N (C.tf n) (C.fr n) p (Go.Cr.pk (C.tf n) f true),cache:=dropC C.cache n p,own:=donC C.own f n p }→Q S'):crab_Crab_own S (some (h,0)) n p f Q:=by
 apply t_crab_Crab_own
 unfold b_crab_Crab_own
 rw[yo,qT hc.c0]
 refine clearD hc.st hc.rg hf fun S1 m1 hs1=>?_
 have hc1:=hc.setStore m1 hs1
 rw[qT hc1.c3,yo,qT hc1.t74]
 refine zaP hc1.ow hc1.rg hf hn hp fun e S2 m2 hs2=>?_
 have hc2:=hc1.setOwn m2 hs2
 refine zdb hc2 hn hf hl fun S3 ρ3 cs m3 hc3=>?_
 exact hQ S3 ρ3 cs ((m1.mono fun r hr=>by omega).trans ((m2.mono fun r hr=>by omega).trans m3)) hc3
theorem Rel.putSeat (hr:Rel C W φ) {n k:Nat} (hon:(W.vm n).on=true) (hk:k<(W.vm n).seats.length) {s:Seat} (ho:s.Ok):Rel { C with vm:=upd C.vm n ((C.vm n).setSeat k s) } (W.putSeat n k s) φ:=by
 rw[hr.vm]
 have h1:=hr.setV (v:=(W.vm n).setSeat k s) hon hon (hr.wk.setV hon hon (by show ((W.vm n).seats.set k s).length=_;rw[List.length_set]) (fun s' hs'=>by
  rcases List.mem_or_eq_of_mem_set hs' with e | e
  ·exact hr.wk.ok n s' e
  ·rw[e];exact ho) (hr.wk.keys n) (fun j=>hr.wk.disk n j hon) rfl rfl)
 rw[hr.vm] at h1
 exact h1
end
end Go.Proofs.YtabdpmnhjlmnlaaGreatDoor
end
section
namespace Go.Proofs.YtabdpmnhjlmnlaaGreatDoor
open Go Go.Pt Go.Cr Go.Hp
section
variable {S S':Mem} {ρ ρ':Rho} {h:Nat} {A:Ad} {C:Cst} {W:Wd} {φ:Nat→Nat→Nat}
theorem kp1 {C:Cst} {f:Nat→List Int} {l:List Cw} {o:Nat→Ow} {g:Nat→Ls} {u:Nat→Bool} {i:Int} {a:Nat→Nat→Option Int} {e:Nat→List Evt} {v:Nat→Bv}:Kp C { C with dat:=f,cache:=l,own:=o,ls:=g,used:=u,left:=i,alm:=a,ev:=e,vm:=v }:=⟨rfl,rfl,rfl,rfl,rfl,rfl,rfl,rfl⟩
end
end Go.Proofs.YtabdpmnhjlmnlaaGreatDoor
end
section
namespace Go.Proofs.YtabdpmnhjlmnlaaGreatDoor
open Go Go.Pt Go.Cr Go.Hp
section
variable {S S':Mem} {ρ ρ':Rho} {h:Nat} {A:Ad} {C:Cst} {W:Wd} {φ:Nat→Nat→Nat}
end
end Go.Proofs.YtabdpmnhjlmnlaaGreatDoor
end
section
namespace Go.Proofs.YtabdpmnhjlmnlaaGreatDoor
open Go Go.Pt Go.Cr Go.Hp
theorem zfB {S:Mem} {e size bytes m:Nat} {z vs:List Value} {K:Sl→Mem→Prop} (hv:vs.length=m*size) (hz:z.length=size) (lim:(2*(0+m)+1024)*bytes≤281474976710656)
  (hK:∀ (s':Sl) (S':Mem),s'.n=m→Row S' size s' vs→Keeps S S' []→(∀ x o,s'.p=some (x,o)→S x=none)→K s' S'):ap S e size bytes z ⟨none,0,0⟩ m vs K:=by
 by_cases h0:m=0
 ·subst h0
  have:vs=[]:=List.length_eq_zero_iff.1 (by simpa using hv)
  subst this
  exact⟨lim,fun _=>.inl ⟨rfl,rfl,hK _ _ rfl Row.nil Keeps.refl fun x o h=>by cases h⟩,fun h=>by simp at h⟩
 ·refine kJ Row.nil hv (by omega) hz lim fun s' S' b k hn hp hor hS hrow=>?_
  have hb:S b=none:=by
   rcases hor with e | e
   ·cases e
   ·exact e
  refine hK s' S' (by simpa using hn) (by simpa using hrow) (by rw[hS];exact Keeps.refl.fresh hb) fun x o h=>?_
  rw[hp] at h;cases h;exact hb
section
variable {S S':Mem} {ρ ρ':Rho} {h:Nat} {A:Ad} {C:Cst}
structure Wide (S:Mem) (ρ ρ':Rho):Prop where
 ext:∀ b r,ρ b=some r→ρ' b=some r
 rg:∀ b r,ρ' b=some r→S b≠none
 g0:ρ 0=none→ρ' 0=none
variable (w:Wide S ρ ρ')
include w
theorem wPc {r b:Nat} {l:List Value} (h:Pc S ρ r b l):Pc S ρ' r b l:=⟨h.at_,w.ext b r h.rol⟩
theorem wRw {r n:Nat} {s:Sl} {l:List Value} (h:Rw S ρ r n s l):Rw S ρ' r n s l:=⟨h.row,fun b o e=>w.ext b r (h.rol b o e)⟩
theorem wVm {i:Nat} {x:Vx} {v:Bv} {fr:List Nat} (h:VmP S ρ i x v fr):VmP S ρ' i x v fr:=⟨wRw w h.se,h.r,wRw w h.fr,wRw w h.ke,fun j hj=>wRw w (h.di j hj)⟩
theorem CrabA.wide (hc:CrabA S ρ h A C):CrabA S ρ' h A C:=
 ⟨w.rg,w.g0 hc.g0,hc.gl,wPc w hc.hd,⟨by obtain⟨B,h1,h2⟩:=hc.st.ex;exact⟨B,h1,w.ext _ _ h2⟩,w.ext _ _ hc.st.rol,hc.st.len,hc.st.byt⟩,
  ⟨by obtain⟨tb,fs,us,F,h1,h2,h3,h4⟩:=hc.pl.ex;exact⟨tb,fs,us,F,h1,fun x hx=>w.ext _ _ (h2 x hx),wRw w h3,h4⟩,w.ext _ _ hc.pl.rol,hc.pl.lim⟩,
  wRw w hc.ca,wPc w hc.tt,by obtain⟨rs,h1,h2⟩:=hc.ow.ex;exact⟨rs,wPc w h1,wRw w h2⟩,⟨by obtain⟨tb,s,l,h1,h2,h3⟩:=hc.ck.ex;exact⟨tb,s,l,h1,fun x hx=>w.ext _ _ (h2 x hx),h3⟩,w.ext _ _ hc.ck.rol⟩,
  wRw w hc.gs,fun i hi=>wRw w (hc.ev i hi),fun i hi=>wVm w (hc.vs i hi)⟩
omit w
theorem zeM (hc:CrabA S ρ h A C) {n j m x:Nat} (hn:n<6) {vs:List Value} {x':Vx} {v':Bv} {tf' late':Int} {fr':List Nat} (hx:x=2+n*12+j) (hm:m=vs.length) (hj:j+vs.length≤12) (he:spl (vmC (A.x n) (C.vm n) (C.tf n) (C.late n)) j vs=vmC x' v' tf' late') (hv:VmP S ρ n x' v' fr') {K:Mem→Prop}
  (hK:∀ S',Mv S ρ S' ρ (· = 7)→CrabA S' ρ h { A with x:=upd A.x n x' } { C with vm:=upd C.vm n v',tf:=upd C.tf n tf',late:=upd C.late n late',fr:=upd C.fr n fr' }→K S'):pt S A.t x m vs K:=by
 refine hc.tt.pt hc.rg (2+(n*12+j)) hm (by rw[wF];omega) (by omega) fun S1 m1 h1=>?_
 rw[zeA (fr':=fr') hn hj he] at h1
 refine hK S1 m1 (hc.setKn (k:={ C.toKn with vm:=upd C.vm n v',tf:=upd C.tf n tf',late:=upd C.late n late',fr:=upd C.fr n fr' }) (x:=upd A.x n x') m1 h1 fun i hi=>?_)
 show VmP S1 ρ i (upd A.x n x' i) (upd C.vm n v' i) (upd C.fr n fr' i)
 by_cases e:i=n
 ·subst e
  rw[zt,zt,zt]
  exact hv.keep m1 hi fun r h1 h2=>by omega
 ·rw[zn e,zn e,zn e]
  exact (hc.vs i hi).keep m1 hi fun r h1 h2=>by omega
end
end Go.Proofs.YtabdpmnhjlmnlaaGreatDoor
end
section
namespace Go.Proofs.YtabdpmnhjlmnlaaGreatDoor
open Go Go.Pt Go.Cr Go.Hp
section
variable {S S':Mem} {ρ ρ':Rho} {h:Nat} {A:Ad} {C:Cst} {W:Wd} {φ:Nat→Nat→Nat}
end
end Go.Proofs.YtabdpmnhjlmnlaaGreatDoor
end
section
namespace Go.Cr
open Go Go.Pt
structure Sam (W W':Wd):Prop where
 on:∀ i,(W'.vm i).on=(W.vm i).on
 len:∀ i,(W'.vm i).seats.length=(W.vm i).seats.length
 ev:∀ i,(W'.ev i).length≤(W.ev i).length+1
 time:W'.time=W.time
section
variable {W:Wd}
theorem Sam.refl:Sam W W:=⟨fun _=>rfl,fun _=>rfl,fun _=>Nat.le_succ _,rfl⟩
theorem Sam.setV {n:Nat} {v:Bv} (h1:v.on=(W.vm n).on) (h2:v.seats.length=(W.vm n).seats.length):Sam W (W.setV n v):=by
 refine⟨fun i=>?_,fun i=>?_,fun _=>Nat.le_succ _,rfl⟩
 ·show (upd W.vm n v i).on=_
  by_cases e:i=n
  ·subst e;rw[zt,h1]
  ·rw[zn e]
 ·show (upd W.vm n v i).seats.length=_
  by_cases e:i=n
  ·subst e;rw[zt,h2]
  ·rw[zn e]
theorem Sam.tell {n:Nat} {e:Evt}:Sam W (W.tell n e):=by
 refine⟨fun _=>rfl,fun _=>rfl,fun i=>?_,rfl⟩
 show (upd W.ev n (W.ev n++[e]) i).length≤_
 by_cases h:i=n
 ·subst h;rw[zt];simp
 ·rw[zn h];omega
structure Ans (W:Wd) (r:Int×Int×Wd):Prop where
 v:0≤r.1∧r.1≤255
 e:0≤r.2.1∧r.2.1≤13
 s:Sam W r.2.2
end
end Go.Cr
end
section
namespace Go.Cr
open Go Go.Pt
open Go.Proofs.YtabdpmnhjlmnlaaGreatDoor
end Go.Cr
end
section
namespace Go.Proofs.YtabdpmnhjlmnlaaGreatDoor
open Go Go.Pt Go.Cr Go.Hp
section
variable {S S':Mem} {ρ ρ':Rho} {h:Nat} {A:Ad} {C:Cst} {W:Wd} {φ:Nat→Nat→Nat}
end
end Go.Proofs.YtabdpmnhjlmnlaaGreatDoor
namespace Go.Proofs.YtabdpmnhjlmnlaaGreatDoor
open Go Go.Pt Go.Cr Go.Hp
section
variable {S S':Mem} {ρ ρ':Rho} {h:Nat} {A:Ad} {C:Cst} {W:Wd} {φ:Nat→Nat→Nat}
end
end Go.Proofs.YtabdpmnhjlmnlaaGreatDoor
end
section
namespace Go.Proofs.YtabdpmnhjlmnlaaGreatDoor
open Go Go.Pt Go.Cr Go.Hp
section
variable {S S':Mem} {ρ ρ':Rho} {h:Nat} {A:Ad} {C:Cst} {W:Wd} {φ:Nat→Nat→Nat}
theorem After.comp {A1:Ad} {C1:Cst} {S1 S2:Mem} {ρ1:Rho} {W2:Wd} (m:Mv S ρ S1 ρ1 Rc) (kp:Kp C C1) (ht:A1.t=A.t) (hx:∀ i,(A1.x i).ss=(A.x i).ss) (hA:After h A1 C1 S1 ρ1 W2 S2):After h A C S ρ W2 S2:=by
 obtain⟨ρ',A',C',φ',m',hc',hr',kp',ht',hx'⟩:=hA
 exact⟨ρ',A',C',φ',m.trans m',hc',hr',kp.trans kp',ht'.trans ht,fun i=>(hx' i).trans (hx i)⟩
end
end Go.Proofs.YtabdpmnhjlmnlaaGreatDoor
end
section
namespace Go.Cr
open Go Go.Pt
def clrD (d:Nat→List Int) (fr:List Nat):Nat→List Int:=fr.foldl (fun d f=>upd d f noughts) d
def rootD (d:Nat→List Int) (form:Int) (r:Nat) (fr:List Nat):Nat→Nat→List Int
 | 0=>d
 | i+1=>wr (rootD d form r fr i) r (8*i) (bytes8 (pk form (fr.getD (i+1) 0) true))
def makeD (d:Nat→List Int) (form:Int) (fr:List Nat):Nat→List Int:=rootD (clrD d fr) form (fr.getD 0 0) fr 4
theorem jB:∀ {fr:List Nat} {d:Nat→List Int} {x:Nat},clrD d fr x=if x∈fr then noughts else d x
 | [],d,x=>by simp[clrD]
 | f :: fr,d,x=>by
  unfold clrD
  rw[List.foldl_cons]
  have:=jB (fr:=fr) (d:=upd d f noughts) (x:=x)
  unfold clrD at this
  rw[this]
  by_cases e:x∈fr
  ·rw[if_pos e,if_pos (List.mem_cons_of_mem _ e)]
  ·rw[if_neg e]
   by_cases e2:x=f
   ·subst e2;rw[zt,if_pos List.mem_cons_self]
   ·rw[zn e2,if_neg (by simp[e,e2])]
theorem wD {d:Nat→List Int} {form:Int} {r x:Nat} {fr:List Nat} (h:x≠r):∀ {i:Nat},rootD d form r fr i x=d x
 | 0=>rfl
 | i+1=>by rw[rootD,zeU h,wD h]
theorem jP {d:Nat→List Int} {form:Int} {r:Nat} {fr:List Nat} (h:(d r).length=256∧Byt (d r)):∀ {i:Nat},i≤31→(rootD d form r fr i r).length=256∧Byt (rootD d form r fr i r)
 | 0,_=>h
 | i+1,hi=>by
  have ih:=jP (form:=form) (fr:=fr) h (i:=i) (by omega)
  rw[rootD]
  exact⟨by rw[zaY (by rw[ih.1,xc];omega)];exact ih.1,zaZ (wy _) ih.2⟩
theorem zbg {d:Nat→List Int} {form:Int} {r:Nat} {fr:List Nat} (h:(d r).length=256∧Byt (d r)) (hf:∀ f∈fr,f≤65535):∀ {i j:Nat},i≤31→j<i→ld (rootD d form r fr i) r j=pk form (fr.getD (j+1) 0) true
 | 0,j,_,hj=>by omega
 | i+1,j,hi,hj=>by
  have ih:=jP (form:=form) (fr:=fr) h (i:=i) (by omega)
  have h6:fr.getD (i+1) 0≤65535:=by
   rw[List.getD_eq_getElem?_getD]
   cases hq:fr[i+1]? with
   | none=>exact Nat.zero_le _
   | some x=>exact hf x (List.mem_of_getElem? hq)
  rw[rootD,zfj ih.1 (by omega) (by omega) (zfg h6).1]
  by_cases e:j=i
  ·rw[if_pos ⟨rfl,e⟩,e]
  ·rw[if_neg (fun h=>e h.2)]
   exact zbg h hf (by omega) (by omega)
theorem zcb {d:Nat→List Int} {f i:Nat} (h:d f=noughts):ld d f i=0:=by
 unfold ld
 rw[h]
 have key:∀ l:List Int,(∀ x∈l,x=0)→num l=0:=by
  intro l
  induction l with
  | nil=>intro _;rfl
  | cons x l ih=>
   intro hl
   simp only[num]
   rw[hl x (by simp),ih fun y hy=>hl y (by simp[hy])];rfl
 exact key _ fun x hx=>jT (List.mem_of_mem_drop (List.mem_of_mem_take hx))
def keepL (own:Nat→Ow) (n:Nat) (l:List Nat):Nat→Ow:=l.foldl (fun o f=>keepC o f n) own
theorem zag {n:Nat}:∀ {l:List Nat} {own:Nat→Ow} {x:Nat},(∀ f∈l,(own f).kind=0)→l.Nodup→keepL own n l x=if x∈l then ⟨2,n,0,0⟩ else own x
 | [],own,x,_,_=>by simp[keepL]
 | f :: l,own,x,h,hn=>by
  obtain⟨h1,h2⟩:=List.nodup_cons.1 hn
  have e0:keepC own f n=upd own f ⟨2,n,0,0⟩:=by
   unfold keepC
   rw[if_pos (h f (by simp)),if_pos (by omega)]
  have ih:=zag (n:=n) (l:=l) (own:=keepC own f n) (x:=x) (fun g hg=>by
   rw[e0,zn (fun e=>by subst e;exact h1 hg)];exact h g (by simp[hg])) h2
  unfold keepL at ih ⊢
  rw[List.foldl_cons,ih]
  by_cases e:x∈l
  ·rw[if_pos e,if_pos (List.mem_cons_of_mem _ e)]
  ·rw[if_neg e,e0]
   by_cases e2:x=f
   ·subst e2;rw[zt,if_pos List.mem_cons_self]
   ·rw[zn e2,if_neg (by simp[e,e2])]
def Wd.newV (W:Wd) (n:Nat) (seats quota:Int):Wd:=
 { W with free:=W.free-5,vm:=upd W.vm n (mkV seats quota),time:=upd W.time n 0,ev:=upd W.ev n [] }
section
variable {C:Cst} {W:Wd} {φ:Nat→Nat→Nat}
theorem zes (h:WOk W) {n:Nat} (hn:n<6) (hoff:(W.vm n).on=false) {seats quota:Int} (hs:1≤seats∧seats≤3) (hq:1≤quota∧quota≤32):WOk (W.newV n seats quota):=by
 have vn:(W.newV n seats quota).vm n=mkV seats quota:=zt
 have vo:∀ i,i≠n→(W.newV n seats quota).vm i=W.vm i:=fun i e=>zn e
 have h0:=h.off n hoff
 have on_of:∀ i,(W.vm i).on=true→i≠n:=fun i hi e=>by subst e;rw[hoff] at hi;cases hi
 refine { h with off:=fun i hi=>?_,six:=fun i hi=>?_,seats:=fun i hi=>?_,ok:=fun i s hs'=>?_,keys:=fun i=>?_,disk:=fun i j hi=>?_,quota:=fun i=>?_,bells:=fun i k hk=>?_,pg:=fun i p l hl=>?_,most:=fun i=>?_,lsr:=fun i hi=>?_,alarm:=fun i k w hw=>?_ }
 ·have e:i≠n:=fun e=>by subst e;rw[vn] at hi;cases hi
  rw[vo i e] at hi ⊢;exact h.off i hi
 ·rw[vo i (by omega)];exact h.six i hi
 ·by_cases e:i=n
  ·subst e;rw[vn]
   show 1≤(List.replicate seats.toNat seat0).length∧_
   rw[List.length_replicate]
   exact⟨by omega,by show (List.replicate seats.toNat seat0).length≤3;rw[List.length_replicate];omega⟩
  ·rw[vo i e] at hi ⊢;exact h.seats i hi
 ·by_cases e:i=n
  ·subst e;rw[vn] at hs'
   rw[List.eq_of_mem_replicate hs'];exact zbd
  ·rw[vo i e] at hs';exact h.ok i s hs'
 ·by_cases e:i=n
  ·subst e;rw[vn];exact⟨Nat.zero_le _,fun x hx=>by cases hx⟩
  ·rw[vo i e];exact h.keys i
 ·by_cases e:i=n
  ·subst e;rw[vn];exact⟨qI,fun x hx=>yZ hx⟩
  ·rw[vo i e] at hi ⊢;exact h.disk i j hi
 ·by_cases e:i=n
  ·subst e;rw[vn];exact⟨show 0≤quota by omega,hq.2⟩
  ·rw[vo i e];exact h.quota i
 ·by_cases e:i=n
  ·subst e;rw[vn] at hk;cases hk
  ·rw[vo i e] at hk
   obtain⟨a,b,c,d⟩:=h.bells i k hk
   have hkn:=on_of k b
   rw[vo i e,vo k hkn];exact⟨a,b,c,d⟩
 ·obtain⟨a,b⟩:=h.pg i p l hl
  rw[vo i (on_of i a)];exact⟨a,b⟩
 ·by_cases e:i=n
  ·subst e
   have:(W.newV i seats quota).pages i=0:=yD fun p _=>by
    show (W.own i p).isSome=false
    rw[h0.2.1];rfl
   rw[this,vn];show (0:Int)≤quota;omega
  ·rw[vo i e];exact h.most i
 ·obtain⟨a,b,c,d⟩:=h.lsr i hi
  have e1:(W.newV n seats quota).ls i=W.ls i:=rfl
  rw[e1,vo _ (on_of _ b),vo _ (on_of _ c)];exact⟨a,b,c,d⟩
 ·have hw':W.alarm i k=some w:=hw
  have e:i≠n:=fun e=>by subst e;rw[h0.2.2] at hw';cases hw'
  rw[vo i e];exact h.alarm i k w hw'
theorem Rel.newV (h:Rel C W φ) {n:Nat} (hn:n<6) (hoff:(W.vm n).on=false) {seats quota:Int} (hs:1≤seats∧seats≤3) (hq:1≤quota∧quota≤32) {l:List Nat} {u:Nat→Bool} (ht:takeN C.N 5 C.used=some (l,u)) :
  Rel { C with used:=u,own:=keepL C.own n l,dat:=makeD C.dat C.form l,vm:=upd C.vm n (mkV seats quota),tf:=upd C.tf n C.form,fr:=upd C.fr n l,late:=upd C.late n C.now,ev:=upd C.ev n [] } (W.newV n seats quota) φ:=by
 obtain⟨hl5,hnd,hfree,hu,hcnt⟩:=yC ht
 have hk0:∀ f∈l,(C.own f).kind=0:=fun f hf=>by
  have h1:=hfree f hf
  have:=h.used f h1.1
  rw[h1.2] at this
  have h2:=of_decide_eq_false this.symm
  exact Classical.byContradiction fun h3=>h2 h3
 have hown:∀ x,keepL C.own n l x=if x∈l then ⟨2,n,0,0⟩ else C.own x:=fun x=>zag hk0 hnd
 have hN:=h.N
 have hmem:∀ j,j<5→l.getD j 0∈l:=fun j hj=>fF (by omega)
 have h0:=h.wk.off n hoff
 have ht0:=h.off n hoff
 have vo:∀ i,i≠n→(W.newV n seats quota).vm i=W.vm i:=fun i e=>zn e
 have vn:(W.newV n seats quota).vm n=mkV seats quota:=zt
 have hr:l.getD 0 0∈l:=hmem 0 (by decide)
 have hinj:∀ j,j<5→j≠0→l.getD j 0≠l.getD 0 0:=fun j hj hj0 e=>by
  rw[List.getD_eq_getElem?_getD,List.getD_eq_getElem?_getD,List.getElem?_eq_getElem (by omega),List.getElem?_eq_getElem (by omega)] at e
  exact hj0 ((List.getElem_inj hnd).1 e)
 have hclr:∀ x,x∈l→clrD C.dat l x=noughts:=fun x hx=>by rw[jB,if_pos hx]
 have hnb:noughts.length=256∧Byt noughts:=⟨qI,fun x hx=>yZ hx⟩
 have hdn:∀ x,x∉l→makeD C.dat C.form l x=C.dat x:=fun x hx=>by
  unfold makeD
  rw[wD (fun e=>hx (by rw[e];exact hr)),jB,if_neg hx]
 have hlen:∀ f,f<C.N→(makeD C.dat C.form l f).length=256∧Byt (makeD C.dat C.form l f):=fun f hf=>by
  by_cases e:f=l.getD 0 0
  ·unfold makeD
   rw[e]
   exact jP (by rw[hclr _ hr];exact hnb) (by decide)
  ·unfold makeD
   rw[wD e,jB]
   split
   ·exact hnb
   ·exact h.len f hf
 have hnl:∀ f,(C.own f).kind≠0→f∉l:=fun f hf hm=>hf (hk0 f hm)
 have fr_of:∀ m j,(W.vm m).on=true→j<5→(C.fr m).getD j 0∉l:=fun m j hm hj=>hnl _ (by rw[(h.frN hm hj).2];exact show (2:Int)≠0 by decide)
 have on_of:∀ i,(W.vm i).on=true→i≠n:=fun i hi e=>by subst e;rw[hoff] at hi;cases hi
 have ldn:∀ x i,x∉l→ld (makeD C.dat C.form l) x i=ld C.dat x i:=fun x i hx=>by unfold ld;rw[hdn x hx]
 have hroot:∀ m j,((W.newV n seats quota).vm m).on=true→j<4→unp C.form (ld (makeD C.dat C.form l) ((upd C.fr n l m).getD 0 0) j)=some ((upd C.fr n l m).getD (j+1) 0,true):=fun m j hm hj=>by
  by_cases e:m=n
  ·subst e
   rw[zt]
   have e1:ld (makeD C.dat C.form l) (l.getD 0 0) j=pk C.form (l.getD (j+1) 0) true:=zbg (by rw[hclr _ hr];exact hnb) (fun f hf=>by have:=(hfree f hf).1;omega) (by decide) hj
   rw[e1,zdO (by have:=(hfree _ (hmem (j+1) (by omega))).1;omega)]
  ·rw[vo m e] at hm
   rw[zn e,ldn _ _ (fr_of m 0 hm (by decide))]
   exact h.root m j hm hj
 have hwhere:∀ m p,(W.newV n seats quota).where_ m p=W.where_ m p:=fun m p=>rfl
 have hwn:∀ p,W.where_ n p=none:=fun p=>by
  unfold Wd.where_
  rw[h0.2.1]
  cases hf:leaseAt W.ls n p with
  | none=>rfl
  | some j=>
   obtain⟨_,h1,h2,_⟩:=xm hf
   have:=(h.wk.lsr j h1).2.2.1
   rw[h2,hoff] at this;cases this
 have hleaf:∀ m p,((W.newV n seats quota).vm m).on=true→p<32→unp C.form (ld (makeD C.dat C.form l) ((upd C.fr n l m).getD (p/8+1) 0) (p%8))=(W.where_ m p).map fun q=>(φ q.1 q.2.1,q.2.2):=fun m p hm hp=>by
  by_cases e:m=n
  ·subst e
   rw[zt,hwn]
   have e1:makeD C.dat C.form l (l.getD (p/8+1) 0)=noughts:=by
    unfold makeD
    rw[wD (hinj _ (by omega) (by omega)),hclr _ (hmem _ (by omega))]
   rw[zcb e1,jw];rfl
  ·rw[vo m e] at hm
   rw[zn e,ldn _ _ (fr_of m _ hm (by omega))]
   exact h.leaf m p hm hp
 exact { h with
  wk:=zes h.wk hn hoff hs hq
  vm:=by show upd C.vm n _=upd W.vm n _;rw[h.vm]
  ev:=by show upd C.ev n _=upd W.ev n _;rw[h.ev]
  time:=fun i hi=>by
   show 0≤upd C.late n C.now i∧upd C.late n C.now i≤C.now∧upd W.time n 0 i=C.now-upd C.late n C.now i
   have hnow:=h.now
   by_cases e:i=n
   ·subst e;rw[zt,zt];omega
   ·rw[vo i e] at hi
    rw[zn e,zn e];exact h.time i hi
  alm:=fun i k=>by
   show C.alm i k=(W.alarm i k).map fun w=>min (w+upd C.late n C.now i) most64
   by_cases e:i=n
   ·subst e
    rw[h.alm i k,h0.2.2];rfl
   ·rw[zn e];exact h.alm i k
  free:=by
   show W.free-5=(count (fun f=>! u f) C.N:Int)
   have:=h.free
   omega
  used:=fun f hf=>by
   show u f=decide ((keepL C.own n l f).kind≠0)
   rw[hu,hown]
   by_cases e:f∈l
   ·rw[if_pos e];simp[e]
   ·rw[if_neg e,h.used f hf];simp[e]
  own0:=fun f hf hk=>by
   have hk':(keepL C.own n l f).kind=0:=hk
   show keepL C.own n l f=ow0
   rw[hown] at hk' ⊢
   by_cases e:f∈l
   ·rw[if_pos e] at hk';cases hk'
   ·rw[if_neg e] at hk' ⊢;exact h.own0 f hf hk'
  kind:=fun f hf=>by
   show 0≤(keepL C.own n l f).kind∧(keepL C.own n l f).kind≤3
   rw[hown]
   split
   ·exact⟨show (0:Int)≤2 by decide,show (2:Int)≤3 by decide⟩
   ·exact h.kind f hf
  len:=hlen
  off:=fun i hi=>by
   have e:i≠n:=fun e=>by subst e;rw[vn] at hi;cases hi
   rw[vo i e] at hi
   show upd C.fr n l i=[]∧upd C.tf n C.form i=0∧upd C.late n C.now i=0
   rw[zn e,zn e,zn e];exact h.off i hi
  tab:=fun i hi=>by
   show upd C.tf n C.form i=C.form∧(upd C.fr n l i).length=5∧(upd C.fr n l i).Nodup
   by_cases e:i=n
   ·subst e;rw[zt,zt];exact⟨rfl,hl5,hnd⟩
   ·rw[vo i e] at hi
    rw[zn e,zn e];exact h.tab i hi
  tabf:=fun m f hm=>by
   have hm':f∈upd C.fr n l m:=hm
   show f<C.N∧keepL C.own n l f=⟨2,m,0,0⟩
   rw[hown]
   by_cases e:m=n
   ·subst e
    rw[zt] at hm'
    rw[if_pos hm'];exact⟨(hfree f hm').1,rfl⟩
   ·rw[zn e] at hm'
    have:=h.tabf m f hm'
    rw[if_neg (hnl f (by rw[this.2];exact show (2:Int)≠0 by decide))];exact this
  tabk:=fun f hf h2=>by
   have h2':(keepL C.own n l f).kind=2:=h2
   rw[hown] at h2'
   by_cases e:f∈l
   ·exact⟨n,by show f∈upd C.fr n l n;rw[zt];exact e⟩
   ·rw[if_neg e] at h2'
    obtain⟨m,hm⟩:=h.tabk f hf h2'
    have hmn:m≠n:=fun e2=>by subst e2;rw[ht0.1] at hm;cases hm
    exact⟨m,by show f∈upd C.fr n l m;rw[zn hmn];exact hm⟩
  root:=hroot
  leaf:=hleaf
  pg:=fun m p l2 hl2=>by
   have h3:=h.pg m p l2 hl2
   have hnm:φ m p∉l:=hnl _ (by rw[h3.2.1];exact show (3:Int)≠0 by decide)
   refine⟨h3.1,?_,?_⟩
   ·show keepL C.own n l (φ m p)=_
    rw[hown,if_neg hnm];exact h3.2.1
   ·show makeD C.dat C.form l (φ m p)=l2
    rw[hdn _ hnm];exact h3.2.2
  pgk:=fun f hf h3=>by
   have h3':(keepL C.own n l f).kind=3:=h3
   rw[hown] at h3'
   by_cases e:f∈l
   ·rw[if_pos e] at h3';cases h3'
   ·rw[if_neg e] at h3';exact h.pgk f hf h3'
  hyp:=⟨h.hyp.1,fun f=>by
   show _↔f<C.N∧(keepL C.own n l f).kind=1
   rw[hown]
   by_cases e:f∈l
   ·rw[if_pos e,h.hyp.2 f,hk0 f e]
    exact⟨fun h=>(by cases h.2),fun h=>(by cases h.2)⟩
   ·rw[if_neg e];exact h.hyp.2 f⟩
  cache:=fun r hr'=>by
   obtain⟨m,h1,h2,h3⟩:=h.cache r hr'
   have hmn:=on_of m h2
   refine⟨m,h1,by rw[vo m hmn];exact h2,?_⟩
   show walkC (makeD C.dat C.form l) C.N (upd C.tf n C.form m) (upd C.fr n l m) r.page=_
   rw[zn hmn,zn hmn,←h3]
   by_cases hp:r.page<0∨31<r.page
   ·rw[ff hp]
    unfold walkC Go.Cr.leafC
    rw[if_pos hp]
   ·obtain⟨q,hq⟩:∃ q:Nat,r.page=q:=⟨r.page.toNat,by omega⟩
    have hf:=(h.tab m h2).1
    have hr2:=fun j hj=>hroot m j (by rw[vo m hmn];exact h2) hj
    simp only[zn hmn] at hr2
    have hl2:=hleaf m q (by rw[vo m hmn];exact h2) (by omega)
    rw[zn hmn] at hl2
    rw[hq,zcr (h.tab m h2).2.1 (fun j hj=>(h.frN h2 hj).1) (fun j hj=>by rw[hf];exact hr2 j hj) (by omega),hf,hl2,h.walk h2 (by omega)] }
def partB (img:List Int) (p:Nat):List Int:=(img.drop (256*p)).take 256
theorem gH (img:List Int) (p:Nat):spB noughts 0 (partB img p)=pageB img p:=by
 unfold spB pageB fit256 partB
 rw[List.take_zero,List.nil_append,Nat.zero_add]
 congr 1
 unfold noughts
 rw[List.drop_replicate]
 congr 1
 rw[List.length_take];omega
theorem zbS {img:List Int} {p:Nat} (h:img.length≤256*p):pageB img p=noughts:=by
 unfold pageB fit256
 rw[List.drop_of_length_le h];rfl
theorem zdA {img:List Int} (hb:Byt img) (p:Nat):(pageB img p).length=256∧Byt (pageB img p):=by
 refine⟨zce _,fun x hx=>?_⟩
 unfold pageB fit256 at hx
 rcases List.mem_append.1 hx with h | h
 ·exact hb x (List.mem_of_mem_drop (List.mem_of_mem_take h))
 ·rw[List.eq_of_mem_replicate h];decide
theorem zcw {n p:Nat} {o o':Option (List Int)}:(W.setO n p o).setO n p o'=W.setO n p o':=by
 have e:upd (W.setO n p o).own n (upd ((W.setO n p o).own n) p o')=upd W.own n (upd (W.own n) p o'):=by
  show upd (upd W.own n (upd (W.own n) p o)) n (upd ((upd W.own n (upd (W.own n) p o)) n) p o')=_
  rw[fg,zt,fg]
 exact congrArg (fun x=>({ W with own:=x }:Wd)) e
theorem Rel.page (h:Rel C W φ) {n p f:Nat} {img:List Int} (hb:Byt img) (hon:(W.vm n).on=true) (hp:p<32) (hno:W.where_ n p=none) (hq:(W.pages n:Int)<(W.vm n).quota) (hf:firstOff C.used C.N=some f) :
  Rel { C with dat:=(if 256*p<img.length then wr (setC (upd C.dat f noughts) C.N (C.tf n) (C.fr n) p (pk (C.tf n) f true)) f 0 (partB img p) else setC (upd C.dat f noughts) C.N (C.tf n) (C.fr n) p (pk (C.tf n) f true)),cache:=dropC C.cache n p,own:=donC C.own f n p,used:=upd C.used f true } { W.setO n p (some (pageB img p)) with free:=W.free-1 } (upφ φ n p f):=by
 have hg:=h.get (l:=noughts) ⟨qI,fun x hx=>yZ hx⟩ hon hp hno hq hf true rfl
 by_cases hl:256*p<img.length
 ·rw[if_pos hl]
  have ho:({ W.setO n p (some noughts) with free:=W.free-1 }:Wd).own n p=some noughts:=by
   show (W.setO n p (some noughts)).own n p=_
   rw[setO_own,if_pos ⟨rfl,rfl⟩]
  have h2:=hg.setO (l':=spB noughts 0 (partB img p)) ho (by rw[gH];exact zdA hb p)
  have hpg:=hg.pg n p noughts ho
  have eφ:upφ φ n p f n p=f:=by unfold upφ;rw[if_pos ⟨rfl,rfl⟩]
  rw[eφ] at h2 hpg
  have ed:(setC (upd C.dat f noughts) C.N (C.tf n) (C.fr n) p (pk (C.tf n) f true)) f=noughts:=hpg.2.2
  have ew:wr (setC (upd C.dat f noughts) C.N (C.tf n) (C.fr n) p (pk (C.tf n) f true)) f 0 (partB img p)=upd (setC (upd C.dat f noughts) C.N (C.tf n) (C.fr n) p (pk (C.tf n) f true)) f (spB noughts 0 (partB img p)):=by unfold wr;rw[ed]
  rw[ew]
  have eo:({ W.setO n p (some noughts) with free:=W.free-1 }:Wd).setO n p (some (spB noughts 0 (partB img p))) = { W.setO n p (some (pageB img p)) with free:=W.free-1 }:=by
   have:=zcw (W:=W) (n:=n) (p:=p) (o:=some noughts) (o':=some (spB noughts 0 (partB img p)))
   rw[gH] at this ⊢
   exact congrArg (fun w=>({ w with free:=W.free-1 }:Wd)) this
  rw[eo] at h2
  exact h2
 ·rw[if_neg hl,zbS (by omega)]
  exact hg
def Wd.newP (W:Wd) (n:Nat) (seats quota:Int) (img:List Int) (i:Nat):Wd:=
 { W.newV n seats quota with free:=W.free-5-i,own:=upd W.own n fun p=>if p<i then some (pageB img p) else W.own n p }
theorem zcI {n:Nat} {seats quota:Int} {img:List Int}:W.newP n seats quota img 0=W.newV n seats quota:=by
 have e:upd W.own n (fun p=>if p<0 then some (pageB img p) else W.own n p)=W.own:=by
  have:(fun p=>if p<0 then some (pageB img p) else W.own n p)=W.own n:=by funext p;rw[if_neg (by omega)]
  rw[this,zba]
 unfold Wd.newP
 rw[e]
 show ({ W.newV n seats quota with free:=W.free-5-((0:Nat):Int),own:=W.own }:Wd)=_
 have:W.free-5-((0:Nat):Int)=W.free-5:=by omega
 rw[this];rfl
theorem zcJ {n:Nat} {seats quota:Int} {img:List Int} {i:Nat}:({ (W.newP n seats quota img i).setO n i (some (pageB img i)) with free:=(W.newP n seats quota img i).free-1 }:Wd)=W.newP n seats quota img (i+1):=by
 have e:upd (W.newP n seats quota img i).own n (upd ((W.newP n seats quota img i).own n) i (some (pageB img i)))=(W.newP n seats quota img (i+1)).own:=by
  show upd (upd W.own n _) n (upd ((upd W.own n _) n) i (some (pageB img i)))=upd W.own n _
  rw[fg,zt]
  congr 1
  funext p
  unfold upd
  by_cases h1:p=i
  ·rw[if_pos h1,if_pos (by omega),h1]
  ·rw[if_neg h1]
   show (if p<i then some (pageB img p) else W.own n p)=_
   by_cases h2:p<i
   ·rw[if_pos h2,if_pos (by omega)]
   ·rw[if_neg h2,if_neg (by omega)]
 have ef:(W.newP n seats quota img i).free-1=(W.newP n seats quota img (i+1)).free:=by
  show W.free-5-(i:Int)-1=W.free-5-((i+1:Nat):Int)
  omega
 have key:∀ (a b:Int) (o o':Nat→Nat→Option (List Int)),a=b→o=o'→({ W.newV n seats quota with free:=a,own:=o }:Wd) = { W.newV n seats quota with free:=b,own:=o' }:=by
  rintro a b o o' rfl rfl;rfl
 exact key _ _ _ _ ef e
theorem zbW (h:WOk W) {n:Nat} (hoff:(W.vm n).on=false) {seats quota:Int} {img:List Int} {i p:Nat} (hp:i≤p):(W.newP n seats quota img i).where_ n p=none:=by
 have h0:=h.off n hoff
 apply vC
 ·show upd W.own n _ n p=none
  rw[zt,if_neg (by omega)];exact h0.2.1 p
 ·show leaseAt W.ls n p=none
  cases hf:leaseAt W.ls n p with
  | none=>rfl
  | some j=>
   obtain⟨_,h1,h2,_⟩:=xm hf
   have:=(h.lsr j h1).2.2.1
   rw[h2,hoff] at this;cases this
theorem zbX (h:WOk W) {n:Nat} (hoff:(W.vm n).on=false) {seats quota:Int} {img:List Int} {i:Nat}:(W.newP n seats quota img i).pages n≤i:=by
 have h0:=h.off n hoff
 have key:∀ m,count (fun p=>((W.newP n seats quota img i).own n p).isSome) m≤min i m:=by
  intro m
  induction m with
  | zero=>simp[count]
  | succ m ih=>
   rw[qD]
   by_cases e:m<i
   ·have:(((W.newP n seats quota img i).own n m).isSome).toNat≤1:=Bool.toNat_le _
    omega
   ·have:((W.newP n seats quota img i).own n m).isSome=false:=by
     show (upd W.own n _ n m).isSome=false
     rw[zt,if_neg e,h0.2.1];rfl
    rw[this]
    have:Bool.toNat false=0:=rfl
    omega
 have:=key 32
 exact Nat.le_trans this (Nat.min_le_left _ _)
end
end Go.Cr
end
section
namespace Go.Proofs.YtabdpmnhjlmnlaaGreatDoor
open Go Go.Pt Go.Cr Go.Hp
abbrev pg (b:Nat):Sl:=⟨some (b,0),256,256⟩
structure Pages (S S':Mem) (bs:List Nat):Prop where
 nodup:bs.Nodup
 at_:∀ b∈bs,S b=none∧S' b=some (bw 5 (bL noughts))
 keep:Keeps S S' []
def nilS:Value:=.slice none 0 0
theorem zea:zrep 256 [Value.int .u8 0]=bL noughts:=by
 rw[fa];rfl
section
variable {S:Mem}
theorem zci {Q:List Value→Mem→Prop} (hQ:∀ b0 b1 b2 b3 S',Pages S S' [b0,b1,b2,b3]→Q [eL (pg b0),eL (pg b1),eL (pg b2),eL (pg b3)] S'):vP S Q:=by
 apply fh
 unfold wN
 simp only[jn]
 refine zO (fun (z:Int×List Value) S'=>∃ bs:List Nat,z=((bs.length:Int),bs.map (fun b=>eL (pg b))++List.replicate (4-bs.length) nilS)∧bs.length≤4∧Pages S S' bs) (fun z=>(4-z.1).toNat) ?_ ⟨[],rfl,by simp,by simp,by simp,Keeps.refl⟩
 rintro X z S' ⟨bs,rfl,hl,hP⟩ ih
 dsimp only at ih ⊢
 have hlen:(bs.map (fun b=>eL (pg b))++List.replicate (4-bs.length) nilS).length=4:=by simp;omega
 refine⟨hlen,?_⟩
 by_cases hlt:(bs.length:Int)<4
 ·rw[if_pos hlt]
  intro b hb
  refine⟨by omega,hlt,?_⟩
  rw[w64 (by omega) (by omega),zea]
  have hbS:=fG hP.keep hb
  have hnb:b∉bs:=fun h=>by have:=(hP.at_ b h).2;rw[hb] at this;cases this
  refine ih _ _ ⟨bs++[b],?_,by simp;omega,⟨?_,?_,hP.keep.new hb⟩⟩ (by simp only;omega)
  ·have e:spl (bs.map (fun b=>eL (pg b))++List.replicate (4-bs.length) nilS) (0+(bs.length:Int).toNat*1) [.slice (some ⟨b,0,none⟩) 256 256]=(bs++[b]).map (fun b=>eL (pg b))++List.replicate (4-(bs++[b]).length) nilS:=by
    rw[show 0+(bs.length:Int).toNat*1=bs.length by omega,xk _ _ _ (by rw[hlen];omega)]
    rw[List.take_left' (by simp),←List.drop_drop,List.drop_left' (by simp),show 4-bs.length=(4-(bs++[b]).length)+1 by simp;omega,List.replicate_succ]
    simp
    rfl
   rw[e];simp
  ·rw[List.nodup_append]
   exact⟨hP.nodup,by simp,fun x hx y hy e=>by simp at hy;subst hy;subst e;exact hnb hx⟩
  ·intro x hx
   rcases List.mem_append.1 hx with hx | hx
   ·have hxb:x≠b:=fun e=>hnb (e ▸ hx)
    exact⟨(hP.at_ x hx).1,by rw[qk hxb];exact (hP.at_ x hx).2⟩
   ·rw[List.mem_singleton] at hx;subst hx;exact⟨hbS,zG⟩
 ·rw[if_neg hlt]
  have h4:bs.length=4:=by omega
  match bs,h4 with
  | [b0,b1,b2,b3],_=>exact⟨rfl,rfl,hQ b0 b1 b2 b3 S' hP⟩
structure Made (S S':Mem) (n:Nat) (ss:Sl) (bs:List Nat):Prop where
 pages:Pages S S' bs
 row:Row S' 26 ss ((List.replicate n seat0).flatMap Seat.L)
 fresh:∀ x o,ss.p=some (x,o)→S x=none∧x∉bs
def mk12 (ss:Sl) (quota:Int) (b0 b1 b2 b3:Nat):List Value:=[.bool true,eL ss,.int .i64 0,.slice none 0 0,.int .i64 quota,.int .u64 0,.slice none 0 0,eL (pg b0),eL (pg b1),eL (pg b2),eL (pg b3),.int .u32 0]
theorem zfc:∀ n,∀ s∈List.replicate n seat0,s.Ok:=fun n s hs=>by rw[List.eq_of_mem_replicate hs];exact zbd
theorem zfd (n:Nat):((List.replicate n seat0).flatMap Seat.L).length=n*26:=by rw[zdQ (zfc n),List.length_replicate]
theorem zcM {n:Nat} {quota:Int} (h1:1≤n) (h2:n≤3) (h3:1≤quota) (h4:quota≤32) {Q:List Value→Int→Mem→Prop}
  (hQ:∀ ss b0 b1 b2 b3 S',Made S S' n ss [b0,b1,b2,b3]→Q (mk12 ss quota b0 b1 b2 b3) 0 S'):vk S n quota Q:=by
 apply jd
 unfold wd
 simp only[jn]
 rw[if_neg (by omega),if_neg (by omega),if_neg (by omega),if_neg (by omega)]
 refine⟨rfl,zci fun b0 b1 b2 b3 S1 hP=>⟨rfl,?_⟩⟩
 refine zO (fun (z:Int×List Value) S'=>∃ (k:Nat) (ss:Sl),z=((k:Int),mk12 ss quota b0 b1 b2 b3)∧k≤n∧Made S S' k ss [b0,b1,b2,b3]) (fun z=>(n-z.1).toNat) ?_
  ⟨0,⟨none,0,0⟩,rfl,by omega,hP,Row.nil,fun x o h=>by cases h⟩
 rintro X z S2 ⟨k,ss,rfl,hk,hM⟩ ih
 dsimp only at ih ⊢
 refine⟨rfl,?_⟩
 by_cases hlt:(k:Int)<(n:Int)
 ·rw[if_pos hlt,wb (show nthL (mk12 ss quota b0 b1 b2 b3) 1=some (eL ss) from rfl)]
  apply zbG
  unfold kY
  refine⟨rfl,?_⟩
  have hsn:ss.n=k:=by
   have:=hM.row.len
   rw[zfd] at this;omega
  refine kJ hM.row rfl (by decide) (by kernel_rfl) (by omega) fun s' S3 b q e1 e2 e3 e4 e5=>?_
  have hb:S b=none∧b∉[b0,b1,b2,b3]:=by
   rcases e3 with e3 | e3
   ·exact hM.fresh b 0 e3
   ·refine⟨fG hM.pages.keep e3,fun hm=>?_⟩
    have:=(hM.pages.at_ b hm).2
    rw[e3] at this;cases this
  rw[w64 (by omega) (by omega)]
  refine ih _ _ ⟨k+1,s',?_,by omega,⟨⟨hM.pages.nodup,fun x hx=>⟨(hM.pages.at_ x hx).1,?_⟩,?_⟩,?_,?_⟩⟩ (by simp only;omega)
  ·have:spl (mk12 ss quota b0 b1 b2 b3) 1 [eL s']=mk12 s' quota b0 b1 b2 b3:=rfl
   rw[this];simp
  ·rw[e4,qk (fun e=>by subst e;exact hb.2 hx)];exact (hM.pages.at_ x hx).2
  ·rw[e4];exact hM.pages.keep.fresh hb.1
  ·have e:(List.replicate (k+1) seat0).flatMap Seat.L=(List.replicate k seat0).flatMap Seat.L++seat0.L:=by
    rw[List.replicate_succ',List.flatMap_append];simp
   rw[e];exact e5
  ·intro x o hx;rw[e2] at hx;cases hx;exact hb
 ·rw[if_neg hlt]
  have:k=n:=by omega
  subst this
  exact⟨rfl,rfl,hQ ss b0 b1 b2 b3 S2 hM⟩
theorem zdE {seats quota:Int} (h:seats<1∨3<seats∨quota<1∨32<quota) {Q:List Value→Int→Mem→Prop} (hQ:∀ t,t.all (·.oneCell')=true→Q t 1 S):vk S seats quota Q:=by
 apply jd
 unfold wd
 simp only[jn]
 by_cases h1:seats<1
 ·rw[if_pos h1];exact hQ _ rfl
 rw[if_neg h1]
 by_cases h2:3<seats
 ·rw[if_pos h2];exact hQ _ rfl
 rw[if_neg h2]
 by_cases h3:quota<1
 ·rw[if_pos h3];exact hQ _ rfl
 rw[if_neg h3,if_pos (by omega)]
 exact hQ _ rfl
variable {ρ:Rho} {m N:Nat} {d:Nat→List Int}
theorem zbY (h:StoreD S ρ m N d) (hg:∀ b r,ρ b=some r→S b≠none) {form:Int} (hform:form=1∨form=2) {l:List Nat} {t:Sl} {r c:Nat} (hr:r≠2) (hrow:Rw S ρ r 1 t (nL l)) (hc:t.p=some (c,0)) (h5:5≤l.length) (hl:∀ f∈l,f<N) {Q:List Value→Int→Mem→Prop}
  (hQ:∀ t' S',Mv S ρ S' ρ (· = 2)→StoreD S' ρ m N (makeD d form (l.take 5))→Row S' 1 t' (nL (l.take 5))→(∀ b o,t'.p=some (b,o)→S b=none∧ρ b=none)→Q (tbL form t') 0 S'):vh S (some (m,0)) form ⟨some (c,0),5,t.c⟩ Q:=by
 have hN:=h.lim
 have htn:=hrow.n (by decide) (ww l)
 have hcap:=hrow.row.cap
 have hget:∀ {S':Mem},Rw S' ρ r 1 t (nL l)→∀ i (hi:i<l.length) {x:Nat},x=i→S'.cell c x=some (.int .i64 (l[i]:Nat)):=fun hr i hi x hx=>by
  rw[hr.cell hc i (by rw[ww];omega) hx];exact zbm hi
 apply fQ
 unfold vd
 refine qC (fun J=>J [.int .i64 0,.slice none 0 0] S) ?_ fun J hJ=>?_
 rotate_left
 ·rw[if_neg (by simp)]
  by_cases h1:form=1
  ·rw[if_neg (fun h=>h h1)];exact hJ
  ·rw[if_pos h1,if_neg (by omega)];exact hJ
 refine⟨rfl,?_⟩
 simp only[jn]
 refine zO (fun (z:Int×List Value) S'=>∃ (i:Nat) (v:List Value),z=((i:Int),v)∧v.length=2∧i≤5∧Mv S ρ S' ρ (· = 2)∧StoreD S' ρ m N (clrD d (l.take i))∧Rw S' ρ r 1 t (nL l)) (fun z=>5-z.1.toNat) ?_ ⟨0,_,rfl,rfl,by omega,Mv.refl hg,h,hrow⟩
 rintro X z S1 ⟨i,v,rfl,hv,hi,m1,hs1,hr1⟩ ih
 dsimp only at ih ⊢
 refine⟨hv,?_⟩
 by_cases hlt:(i:Int)<((5:Nat):Int)
 ·rw[if_pos hlt,gr]
  refine⟨by omega,hlt,?_⟩
  have hil:i<l.length:=by omega
  rw[Int.toNat_natCast,yd (hget hr1 i hil (by omega))]
  refine clearD hs1 m1.rg (hl _ (List.getElem_mem hil)) fun S2 m2 hs2=>?_
  rw[if_neg (by decide),w64 (by omega) (by omega)]
  refine ih _ S2 ⟨i+1,v,rfl,hv,by omega,m1.trans m2,?_,hr1.keep m2 hr⟩ (by dsimp only;omega)
  have e:clrD d (l.take (i+1))=upd (clrD d (l.take i)) l[i] noughts:=by
   unfold clrD
   rw[List.take_succ_eq_append_getElem hil,List.foldl_append];rfl
  rw[e];exact hs2
 ·rw[if_neg hlt]
  have h5i:i=5:=by omega
  subst h5i
  refine⟨hv,by decide,by decide,by show ((5:Nat):Int)≤(t.c:Int);omega,?_⟩
  have es:slc 1 ⟨some (c,0),5,t.c⟩ 1 ((5:Nat):Int)=⟨some (c,1),4,t.c-1⟩:=by
   unfold slc
   have e1:(1:Int).toNat=1:=rfl
   simp only[e1]
   rw[if_neg (by omega)];rfl
  show lp _ 0 S1
  refine zO (fun (z:Int) S'=>∃ i:Nat,z=(i:Int)∧i≤4∧Mv S ρ S' ρ (· = 2)∧StoreD S' ρ m N (rootD (clrD d (l.take 5)) form ((l.take 5).getD 0 0) (l.take 5) i)∧Rw S' ρ r 1 t (nL l)) (fun z=>4-z.toNat) ?_ ⟨0,rfl,by omega,m1,hs1,hr1⟩
  rintro Y z S2 ⟨j,rfl,hj,m2,hs2,hr2⟩ ih2
  rw[es]
  have e0:(l.take 5).getD 0 0=l[0]:=by rw[List.getD_eq_getElem?_getD,List.getElem?_take,if_pos (by decide),List.getElem?_eq_getElem (by omega)];rfl
  by_cases hlt2:(j:Int)<((4:Nat):Int)
  ·rw[if_pos hlt2,gr]
   have hjl:j+1<l.length:=by omega
   refine⟨by omega,hlt2,?_⟩
   rw[Int.toNat_natCast,yd (hget hr2 (j+1) hjl (by omega)),gr]
   refine⟨by decide,?_⟩
   rw[yd (hget hr2 0 (by omega) rfl)]
   have hf1:=hl _ (List.getElem_mem hjl)
   have hf0:=hl _ (List.getElem_mem (show 0<l.length by omega))
   refine kS (by omega) ?_
   refine⟨hget hr2 0 (by omega) rfl,?_⟩
   refine saveD hs2 m2.rg (by omega) (zfg (by omega)).1 fun e S3 m3 hs3=>?_
   rw[if_pos hf0] at hs3
   rw[w64 (by omega) (by omega)]
   refine ih2 _ S3 ⟨j+1,rfl,by omega,m2.trans m3,?_,hr2.keep m3 hr⟩ (by omega)
   have e1:(l.take 5).getD (j+1) 0=l[j+1]:=by rw[List.getD_eq_getElem?_getD,List.getElem?_take,if_pos (by omega),List.getElem?_eq_getElem (by omega)];rfl
   rw[rootD,e1,e0]
   rw[e0] at hs3
   exact hs3
  ·rw[if_neg hlt2]
   have:j=4:=by omega
   subst this
   have hnl5:(nL (l.take 5)).length=5:=by rw[ww,List.length_take];omega
   refine⟨nL (l.take 5),.inr ⟨c,0,rfl,?_⟩,?_,?_⟩
   ·show S2.part c 0 (5*1)=_
    rw[hr2.part hc 0 (by rw[ww];omega) rfl]
    have e:nL l=nL (l.take 5)++nL (l.drop 5):=by unfold nL;rw[←List.map_append,List.take_append_drop]
    have e2:5*1=(nL (l.take 5)).length:=by rw[hnl5]
    rw[e,e2,wx (by omega),zC rfl]
   ·unfold nL;rw[List.all_map];exact List.all_eq_true.2 fun x _=>rfl
   ·refine zfB (m:=5) (by rw[hnl5]) rfl (by decide) fun t' S3 _ hrow3 hk3 hf3=>?_
    refine hQ t' S3 (m2.trans (Mv.keeps m2.rg hk3)) (hs2.keeps hk3) hrow3 fun b o hb=>?_
    have hb2:=hf3 b o hb
    refine⟨?_,?_⟩
    ·cases hs:S b with
     | none=>rfl
     | some k=>exact absurd hb2 (m2.al b (by rw[hs];simp))
    ·cases hq:ρ b with
     | none=>rfl
     | some q=>exact absurd hb2 (m2.rg b q hq)
end
end Go.Proofs.YtabdpmnhjlmnlaaGreatDoor
end
section
namespace Go.Cr
open Go Go.Pt
theorem jH {N:Nat}:∀ {i k:Nat} {u u':Nat→Bool} {l:List Nat},takeN N (i+k) u=some (l,u')→∃ u1,takeN N i u=some (l.take i,u1)∧takeN N k u1=some (l.drop i,u')
 | 0,k,u,u',l,h=>by
  rw[Nat.zero_add] at h
  exact⟨u,by simp[takeN],by simpa using h⟩
 | i+1,k,u,u',l,h=>by
  rw[show i+1+k=(i+k)+1 by omega] at h
  simp only[takeN] at h
  cases h1:firstOff u N with
  | none=>rw[h1] at h;cases h
  | some f=>
   rw[h1] at h
   dsimp only at h
   cases h2:takeN N (i+k) (upd u f true) with
   | none=>rw[h2] at h;cases h
   | some q=>
    obtain⟨l2,u2⟩:=q
    rw[h2] at h
    simp only[Option.some.injEq,Prod.mk.injEq] at h
    obtain⟨rfl,rfl⟩:=h
    obtain⟨u1,h3,h4⟩:=jH h2
    refine⟨u1,?_,by simpa using h4⟩
    have e:takeN N (i+1) u=(match firstOff u N with
     | none=>none
     | some f=>match takeN N i (upd u f true) with
      | none=>none
      | some (l,u')=>some (f :: l,u')):=rfl
    rw[e]
    simp only[h1,h3]
    rfl
theorem zbF {N k:Nat} {u u':Nat→Bool} {f:Nat} {l:List Nat} (h:takeN N (k+1) u=some (f :: l,u')):firstOff u N=some f∧takeN N k (upd u f true)=some (l,u'):=by
 simp only[takeN] at h
 cases h1:firstOff u N with
 | none=>rw[h1] at h;cases h
 | some g=>
  rw[h1] at h
  dsimp only at h
  cases h2:takeN N k (upd u g true) with
  | none=>rw[h2] at h;cases h
  | some q=>
   obtain⟨l2,u2⟩:=q
   rw[h2] at h
   simp only[Option.some.injEq,Prod.mk.injEq,List.cons.injEq] at h
   obtain⟨⟨rfl,rfl⟩,rfl⟩:=h
   exact⟨rfl,h2⟩
end Go.Cr
namespace Go.Proofs.YtabdpmnhjlmnlaaGreatDoor
open Go Go.Pt Go.Cr Go.Hp
structure ImgAt (S:Mem) (ρ:Rho) (s:Sl) (xs:List Int):Prop where
 len:xs.length=s.n
 cap:s.n≤s.c
 byt:Byt xs
 lie:xs=[]∨∃ b o,s.p=some (b,o)∧S.part b o xs.length=some (bL xs)∧ρ b=none∧S b≠none
section
variable {S S':Mem} {ρ ρ':Rho} {R:Nat→Prop} {h:Nat} {A:Ad} {C:Cst} {W:Wd} {φ:Nat→Nat→Nat}
theorem ImgAt.mv {s:Sl} {xs:List Int} (hi:ImgAt S ρ s xs) (m:Mv S ρ S' ρ' R):ImgAt S' ρ' s xs:=by
 refine⟨hi.len,hi.cap,hi.byt,hi.lie.imp id fun⟨b,o,h1,h2,h3,h4⟩=>?_⟩
 have e:S' b=S b:=m.kp b h4 fun r e=>by rw[h3] at e;cases e
 refine⟨b,o,h1,?_,?_,by rw[e];exact h4⟩
 ·obtain⟨k,e1,e2⟩:=zbj h2
  rw[xL (by rw[e];exact e1)];exact e2
 ·cases hq:ρ' b with
  | none=>rfl
  | some r=>have:=m.old b r hq h4;rw[h3] at this;cases this
theorem xF {r size:Nat} {t:Sl} {l:List Value} (m:Mv S ρ S' ρ' R) (hrow:Row S' size t l) (hf:∀ b o,t.p=some (b,o)→S b=none∧ρ' b=none) (h0:S 0≠none) :
  ∃ ρ'',Mv S ρ S' ρ'' R∧Wide S' ρ' ρ''∧Rw S' ρ'' r size t l∧∀ x,(∀ o,t.p≠some (x,o))→ρ'' x=ρ' x:=by
 rcases hrow.lie with ⟨h1,_⟩ | ⟨b,k,h1,h2,_⟩
 ·exact⟨ρ',m,⟨fun _ _ h=>h,m.rg,fun h=>h⟩,⟨hrow,fun b o h=>by rw[h1] at h;cases h⟩,fun _ _=>rfl⟩
 ·obtain⟨hb,hb2⟩:=hf b 0 h1
  have hs:S' b≠none:=by rw[h2];simp
  refine⟨ρ'.upd b r,⟨fun x q e=>?_,fun x q e hx=>?_,m.kp,m.al,fun x q e=>?_⟩,⟨fun x q e=>?_,fun x q e=>?_,fun e=>?_⟩,⟨hrow,fun b' o h=>by rw[h1] at h;cases h;exact yp⟩,fun x hx=>?_⟩
  ·rw[yV (fun e2=>by have:=m.ext x q e;rw[e2,hb2] at this;cases this)];exact m.ext x q e
  ·rw[yV (fun e2=>hx (by rw[e2];exact hb))] at e;exact m.old x q e hx
  ·by_cases e2:x=b
   ·rw[e2];exact hs
   ·rw[yV e2] at e;exact m.rg x q e
  ·rw[yV (fun e2=>by rw[e2,hb2] at e;cases e)];exact e
  ·by_cases e2:x=b
   ·rw[e2];exact hs
   ·rw[yV e2] at e;exact m.rg x q e
  ·rw[yV (fun e2=>h0 (by rw[e2];exact hb))];exact e
  ·exact yV fun e=>hx 0 (by rw[e];exact h1)
theorem Wide.trans {ρ'':Rho} (h1:Wide S ρ ρ') (h2:Wide S ρ' ρ''):Wide S ρ ρ'':=⟨fun b r e=>h2.ext b r (h1.ext b r e),h2.rg,fun e=>h2.g0 (h1.g0 e)⟩
theorem zbf {b:Nat} (hb:S b=some (bw 5 (bL noughts))):Row S 1 (pg b) (bL noughts):=by
 have hl:(bL noughts).length=256:=by unfold bL;rw[List.length_map];exact qI
 refine⟨by rw[hl];rfl,Nat.le_refl _,.inr ⟨b,_,rfl,hb,rfl,?_,?_⟩⟩
 ·show (bL noughts).length=256*1;rw[hl]
 ·show (bL noughts).take (256*1)=_
  exact List.take_of_length_le (by rw[hl];decide)
theorem pagesLoop {n:Nat} (hn:n<6) {seats quota:Int} (hwk:WOk W) (hoff:(W.vm n).on=false) {pages:Nat} (hp:pages≤32) (hpq:(pages:Int)≤quota) {img:Sl} {xs:List Int} {t:Sl} {l:List Nat} {c:Nat} {u:Nat→Bool} (hll:l.length=5+pages) (hlN:∀ f∈l,f<C.N)
  (hcC:CrabA S ρ h A C) (hu:C.used=u) {u0:Nat→Bool} (htk:takeN C.N pages u0=some (l.drop 5,u)) (hrel:Rel { C with used:=u0 } (W.newV n seats quota) φ)
  (hrow:Rw S ρ 102 1 t (nL l)) (hc:t.p=some (c,0)) (himg:ImgAt S ρ img xs) (hil:(xs.length:Int)≤1000000) {Q:Mem→Prop}
  (hQ:∀ S',After h A C S ρ (W.newP n seats quota xs pages) S'→Q S') :
  lp (fun (Xx:Int→Mem→Prop) (t_15:Int) (Sx_11:Mem)=>
   if t_15<((slc 1 t 5 (t.n:Int)).n:Int) then
    sl (slc 1 t 5 (t.n:Int)) fun b_5 o_4 n_1 n_2=>
    0≤t_15∧t_15<((n_1:Nat):Int) ∧
    gI (Sx_11.cell b_5 (o_4+t_15.toNat*1)) .i64 fun t_16=>
    crab_Crab_own Sx_11 (some (h,0)) n t_15 t_16 fun Sx_12=>
    if IntKind.i64.wrap (256*t_15)<(img.n:Int) then
     gP (Sx_12.cell h 0) fun t_17=>
     (0:Int)≤IntKind.i64.wrap (256*t_15)∧(IntKind.i64.wrap (256*t_15):Int)≤(if (img.n:Int)<IntKind.i64.wrap ((IntKind.i64.wrap (256*t_15))+256) then (img.n:Int) else IntKind.i64.wrap ((IntKind.i64.wrap (256*t_15))+256))∧(if (img.n:Int)<IntKind.i64.wrap ((IntKind.i64.wrap (256*t_15))+256) then (img.n:Int) else IntKind.i64.wrap ((IntKind.i64.wrap (256*t_15))+256))≤(img.c:Int) ∧
     lt (slc 1 img (IntKind.i64.wrap (256*t_15)) (if (img.n:Int)<IntKind.i64.wrap ((IntKind.i64.wrap (256*t_15))+256) then (img.n:Int) else IntKind.i64.wrap ((IntKind.i64.wrap (256*t_15))+256))) fun t_18=>
     zR Sx_12 t_17 t_16 0 t_18 fun t_19 Sx_13=>
     Xx (IntKind.i64.wrap (t_15+1)) Sx_13
    else
    Xx (IntKind.i64.wrap (t_15+1)) Sx_12
   else Q Sx_11) 0 S:=by
 have htn:=hrow.n (by decide) (ww l)
 have hcap:=hrow.row.cap
 have es:slc 1 t 5 (t.n:Int)=if t.c=5 then ⟨some (c,0),pages,t.c-5⟩ else ⟨some (c,5),pages,t.c-5⟩:=by
  unfold slc
  rw[hc]
  have e1:(5:Int).toNat=5:=rfl
  have e2:((t.n:Int)-5).toNat=pages:=by omega
  rw[e1,e2]
  split <;> rfl
 have hN:=hcC.st.lim
 refine zO (fun (z:Int) S'=>∃ (i:Nat) (ρ':Rho) (A':Ad) (C':Cst) (φ':Nat→Nat→Nat) (ui:Nat→Bool),z=(i:Int)∧i≤pages∧Mv S ρ S' ρ' Rc∧CrabA S' ρ' h A' C'∧C'.used=u∧Kp C C'∧A'.t=A.t∧A'.m=A.m∧A'.x=A.x∧takeN C.N (pages-i) ui=some (l.drop (5+i),u)∧Rel { C' with used:=ui } (W.newP n seats quota xs i) φ'∧Rw S' ρ' 102 1 t (nL l)) (fun z=>pages-z.toNat) ?_
  ⟨0,ρ,A,C,φ,u0,rfl,by omega,Mv.refl hcC.rg,hcC,hu,Kp.refl,rfl,rfl,rfl,by simpa using htk,by rw[zcI];exact hrel,hrow⟩
 rintro X z S1 ⟨i,ρ1,A1,C1,φ1,ui,rfl,hi,m1,hc1,hu1,kp1',ht1,hm1,hx1,htk1,hr1,hrow1⟩ ih
 by_cases hlt:(i:Int)<((slc 1 t 5 (t.n:Int)).n:Int)
 ·rw[if_pos hlt]
  have hip:i<pages:=by rw[es] at hlt;split at hlt <;> (dsimp only at hlt;omega)
  have htc:¬t.c=5:=by omega
  rw[if_neg htc] at es
  rw[es,gr]
  refine⟨by omega,by omega,?_⟩
  have h5i:5+i<l.length:=by omega
  rw[Int.toNat_natCast,yd (by rw[hrow1.cell hc (5+i) (by rw[ww];omega) (by omega)];exact zbm h5i)]
  have hdrop:l.drop (5+i)=l[5+i] :: l.drop (5+(i+1)):=by rw[List.drop_eq_getElem_cons h5i];rfl
  rw[show pages-i=(pages-(i+1))+1 by omega,hdrop] at htk1
  obtain⟨hff,htk2⟩:=zbF htk1
  have hfN:l[5+i]<C1.N:=by rw[kp1'.N];exact hlN _ (List.getElem_mem h5i)
  have hcs:=hr1.csize
  have hcs':C1.cache.length≤100:=by have:C1.cache.length≤8:=hcs;omega
  have hon:((W.newP n seats quota xs i).vm n).on=true:=by
   show (upd W.vm n _ n).on=true
   rw[zt];rfl
  have hq:((W.newP n seats quota xs i).vm n).quota=quota:=by
   show (upd W.vm n _ n).quota=_
   rw[zt];rfl
  have hpg:=zbX hwk hoff (seats:=seats) (quota:=quota) (img:=xs) (i:=i)
  have hrp:=hr1.page (n:=n) (p:=i) (f:=l[5+i]) himg.byt hon (by omega) (zbW hwk hoff (Nat.le_refl i)) (by rw[hq];omega) (by show firstOff ui C1.N=_;rw[kp1'.N];exact hff)
  rw[zcJ] at hrp
  refine zdB hc1 hn (by omega) hfN hcs' fun S2 ρ2 cs m2 hc2=>?_
  have hrow2:Rw S2 ρ2 102 1 t (nL l):=hrow1.keep m2 (by decide)
  have m12:Mv S ρ S2 ρ2 Rc:=m1.trans (m2.mono fun r hr=>by unfold Rc;omega)
  have himg2:=himg.mv m12
  have hlen:=himg.len
  have hicap:=himg.cap
  rw[w64 (x:=256*(i:Int)) (by omega) (by omega),w64 (x:=256*(i:Int)+256) (by omega) (by omega),w64 (x:=(i:Int)+1) (by omega) (by omega)]
  by_cases hat:256*(i:Int)<(img.n:Int)
  ·rw[if_pos hat,qT hc2.c0]
   have hpl:(partB xs i).length=min 256 (xs.length-256*i):=by unfold partB;rw[List.length_take,List.length_drop]
   rw[if_pos (by omega)] at hrp
   generalize hmx:(if (img.n:Int)<256*(i:Int)+256 then (img.n:Int) else 256*(i:Int)+256)=mx
   have hmx2:mx=256*(i:Int)+(partB xs i).length:=by
    rw[←hmx,hpl]
    split <;> omega
   refine⟨by omega,by omega,by omega,?_⟩
   rcases himg2.lie with h0 | ⟨b,o,hb1,hb2,hb3,hb4⟩
   ·rw[h0] at hlen;simp at hlen;omega
   have eimg:slc 1 img (256*(i:Int)) mx=⟨some (b,o+256*i),(partB xs i).length,img.c-256*i⟩:=by
    unfold slc
    rw[hb1]
    have e1:(256*(i:Int)).toNat=256*i:=by omega
    have e2:(mx-256*(i:Int)).toNat=(partB xs i).length:=by omega
    rw[e1,e2,if_neg (by omega)]
    simp
   show zR S2 (some (A1.m,0)) l[5+i] 0 (slc 1 img (256*(i:Int)) mx) _
   rw[eimg]
   have hpart:S2.part b (o+256*i) ((partB xs i).length*1)=some (bL (partB xs i)):=by
    obtain⟨k,e1,e2⟩:=zbj hb2
    have e3:=qv e2
    rw[xL e1,qq (by omega)]
    refine congrArg some ?_
    have e4:(k.cs.drop o).take xs.length=bL xs:=e3.2.1
    unfold partB
    have e5:bL ((xs.drop (256*i)).take 256)=((bL xs).drop (256*i)).take 256:=by unfold bL;rw[List.map_take,List.map_drop]
    rw[e5,←e4]
    apply List.ext_getElem?
    intro j
    simp only[List.getElem?_take,List.getElem?_drop,List.length_take,List.length_drop,Nat.mul_one]
    by_cases hj:j<min 256 (xs.length-256*i)
    ·rw[if_pos hj,if_pos (by omega),if_pos (by omega)]
     exact congrArg (fun x=>k.cs[x]?) (by omega)
    ·rw[if_neg hj]
     by_cases hj2:j<256
     ·rw[if_pos hj2,if_neg (by omega)]
     ·rw[if_neg hj2]
   have hbp:Byt (partB xs i):=fun x hx=>himg.byt x (List.mem_of_mem_drop (List.mem_of_mem_take hx))
   refine writeD hc2.st hc2.rg (off:=0) hfN ⟨b,_,rfl,hpart⟩ rfl (fun e=>by rw[e] at hpl;simp at hpl;omega) (by omega) hbp fun S3 m3 hs3=>?_
   have hc3:=hc2.setStore m3 hs3
   refine ih _ S3 ⟨i+1,ρ2,{ A1 with cs:=cs },_,_,upd ui l[5+i] true,rfl,by omega,m12.trans (m3.mono fun r hr=>by unfold Rc;omega),hc3,hu1,kp1'.trans kp1,ht1,hm1,hx1,?_,hrp,hrow2.keep m3 (by decide)⟩ (by omega)
   rw[show pages-(i+1)=pages-(i+1) from rfl]
   exact htk2
  ·rw[if_neg hat]
   rw[if_neg (by omega)] at hrp
   exact ih _ S2 ⟨i+1,ρ2,{ A1 with cs:=cs },_,_,upd ui l[5+i] true,rfl,by omega,m12,hc2,hu1,kp1'.trans kp1,ht1,hm1,hx1,htk2,hrp,hrow2⟩ (by omega)
 ·rw[if_neg hlt]
  have hie:i=pages:=by rw[es] at hlt;split at hlt <;> (dsimp only at hlt;omega)
  subst hie
  rw[Nat.sub_self] at htk1
  simp only[takeN,Option.some.injEq,Prod.mk.injEq] at htk1
  have hr2:Rel C1 (W.newP n seats quota xs i) φ1:=by
   have e:({ C1 with used:=ui }:Cst)=C1:=by rw[htk1.2,←hu1]
   rw[e] at hr1;exact hr1
  exact hQ S1 ⟨ρ1,A1,C1,φ1,m1,hc1,hr2,kp1',ht1,fun j=>by rw[hx1]⟩
end
end Go.Proofs.YtabdpmnhjlmnlaaGreatDoor
end
section
namespace Go.Proofs.YtabdpmnhjlmnlaaGreatDoor
open Go Go.Pt Go.Cr Go.Hp
structure Kc (C C':Cst):Prop where
 N:C'.N=C.N
 form:C'.form=C.form
 region:C'.region=C.region
 turns:C'.turns=C.turns
 now:C'.now=C.now
theorem Kc.refl {C:Cst}:Kc C C:=⟨rfl,rfl,rfl,rfl,rfl⟩
theorem Kc.trans {C C' C'':Cst} (h:Kc C C') (k:Kc C' C''):Kc C C'':=⟨k.N.trans h.N,k.form.trans h.form,k.region.trans h.region,k.turns.trans h.turns,k.now.trans h.now⟩
theorem Kp.kc {C C':Cst} (h:Kp C C'):Kc C C':=⟨h.N,h.form,h.region,h.turns,h.now⟩
def Aft (h:Nat) (C:Cst) (S:Mem) (ρ:Rho) (W':Wd) (S':Mem):Prop:=∃ ρ' A' C' φ',Mv S ρ S' ρ' Rc∧CrabA S' ρ' h A' C'∧Rel C' W' φ'∧Kc C C'
section
variable {S S':Mem} {ρ ρ':Rho} {R:Nat→Prop} {h:Nat} {A:Ad} {C:Cst} {W:Wd} {φ:Nat→Nat→Nat}
theorem After.aft {W':Wd} (hA:After h A C S ρ W' S'):Aft h C S ρ W' S':=by
 obtain⟨ρ',A',C',φ',m,hc,hr,kp,_⟩:=hA
 exact⟨ρ',A',C',φ',m,hc,hr,kp.kc⟩
theorem zaG (hwk:WOk W) {n:Nat} (hoff:(W.vm n).on=false) {seats quota:Int} {xs:List Int} {pages:Nat}:W.newP n seats quota xs pages = { W with free:=W.free-(5+(pages:Int)),vm:=upd W.vm n (mkV seats quota),time:=upd W.time n 0,ev:=upd W.ev n [],own:=upd W.own n fun p=>if (p:Int)<pages then some (pageB xs p) else none }:=by
 have h0:=(hwk.off n hoff).2.1
 have key:∀ (a b:Int) (o o':Nat→Nat→Option (List Int)),a=b→o=o'→({ W.newV n seats quota with free:=a,own:=o }:Wd) = { W.newV n seats quota with free:=b,own:=o' }:=by
  rintro a b o o' rfl rfl;rfl
 refine key _ _ _ _ (by omega) ?_
 congr 1
 funext p
 by_cases e:p<pages
 ·rw[if_pos e,if_pos (by omega)]
 ·rw[if_neg e,if_neg (by omega)];exact h0 p
theorem slc5 {t:Sl} {c:Nat} (hc:t.p=some (c,0)) (h:5≤t.c):slc 1 t 0 5=⟨some (c,0),5,t.c⟩:=by
 unfold slc
 rw[hc]
 have e1:(0:Int).toNat=0:=rfl
 have e2:((5:Int)-0).toNat=5:=rfl
 rw[e1,e2,if_neg (by omega)]
 simp
theorem zdu {w:Nat} {s:Sl} {l:List Value} (h:Row S w s l) (m:Mv S ρ S' ρ' R) (hr:∀ b o,s.p=some (b,o)→ρ b=none):Row S' w s l:=
 h.keep fun b hb=>by
  rcases h.lie with ⟨h1,_⟩ | ⟨b',k,h1,h2,_⟩
  ·rw[h1] at hb;cases hb
  ·rw[h1] at hb;cases hb
   exact m.kp b (by rw[h2];simp) fun r e=>by rw[hr b 0 h1] at e;cases e
theorem give6 {n w1:Nat} {ss t:Sl} {b0 b1 b2 b3:Nat} {L1 L2:List Value} (m:Mv S ρ S' ρ' R) (h0:S 0≠none) (hs:Row S' w1 ss L1) (hsf:∀ b o,ss.p=some (b,o)→S b=none∧ρ' b=none) (ht:Row S' 1 t L2) (htf:∀ b o,t.p=some (b,o)→S b=none∧ρ' b=none)
  (hb:∀ b∈[b0,b1,b2,b3],S b=none∧ρ' b=none∧S' b=some (bw 5 (bL noughts))) (hnd:[b0,b1,b2,b3].Nodup) (hsb:∀ b o,ss.p=some (b,o)→b∉[b0,b1,b2,b3]) (htb:∀ b o,t.p=some (b,o)→b∉[b0,b1,b2,b3]) (hst:∀ b o o',ss.p=some (b,o)→t.p≠some (b,o')) :
  ∃ ρ'',Mv S ρ S' ρ'' R∧Wide S' ρ' ρ''∧Rw S' ρ'' (30+n) w1 ss L1∧Rw S' ρ'' (40+n) 1 t L2∧Rw S' ρ'' (60+4*n+0) 1 (pg b0) (bL noughts)∧Rw S' ρ'' (60+4*n+1) 1 (pg b1) (bL noughts)∧Rw S' ρ'' (60+4*n+2) 1 (pg b2) (bL noughts)∧Rw S' ρ'' (60+4*n+3) 1 (pg b3) (bL noughts):=by
 simp only[List.nodup_cons,List.mem_cons,List.not_mem_nil,or_false,not_or,not_false_eq_true,List.nodup_nil,and_true] at hnd
 obtain⟨⟨n01,n02,n03⟩,⟨n12,n13⟩,n23⟩:=hnd
 have B0:=hb b0 (by simp)
 have B1:=hb b1 (by simp)
 have B2:=hb b2 (by simp)
 have B3:=hb b3 (by simp)
 have pgne:∀ {a b:Nat},a≠b→∀ o,(pg a).p≠some (b,o):=fun h o e=>by cases e;exact h rfl
 obtain⟨ρ1,m1,w1',r1,k1⟩:=xF (r:=60+4*n+0) m (zbf B0.2.2) (fun b o e=>by cases e;exact⟨B0.1,B0.2.1⟩) h0
 obtain⟨ρ2,m2,w2,r2,k2⟩:=xF (r:=60+4*n+1) m1 (zbf B1.2.2) (fun b o e=>by cases e;exact⟨B1.1,by rw[k1 _ (pgne n01)];exact B1.2.1⟩) h0
 obtain⟨ρ3,m3,w3,r3,k3⟩:=xF (r:=60+4*n+2) m2 (zbf B2.2.2) (fun b o e=>by cases e;exact⟨B2.1,by rw[k2 _ (pgne n12),k1 _ (pgne n02)];exact B2.2.1⟩) h0
 obtain⟨ρ4,m4,w4,r4,k4⟩:=xF (r:=60+4*n+3) m3 (zbf B3.2.2) (fun b o e=>by cases e;exact⟨B3.1,by rw[k3 _ (pgne n23),k2 _ (pgne n13),k1 _ (pgne n03)];exact B3.2.1⟩) h0
 have kk:∀ x,x∉[b0,b1,b2,b3]→ρ4 x=ρ' x:=fun x hx=>by
  simp only[List.mem_cons,List.not_mem_nil,or_false,not_or] at hx
  rw[k4 _ (pgne (Ne.symm hx.2.2.2)),k3 _ (pgne (Ne.symm hx.2.2.1)),k2 _ (pgne (Ne.symm hx.2.1)),k1 _ (pgne (Ne.symm hx.1))]
 obtain⟨ρ5,m5,w5,r5,k5⟩:=xF (r:=30+n) m4 hs (fun b o e=>⟨(hsf b o e).1,by rw[kk b (hsb b o e)];exact (hsf b o e).2⟩) h0
 obtain⟨ρ6,m6,w6,r6,k6⟩:=xF (r:=40+n) m5 ht (fun b o e=>⟨(htf b o e).1,by rw[k5 b fun o' e'=>hst b o' o e' e,kk b (htb b o e)];exact (htf b o e).2⟩) h0
 have w56:=Wide.trans w5 w6
 have w46:=Wide.trans w4 w56
 have w36:=Wide.trans w3 w46
 have w26:=Wide.trans w2 w36
 exact⟨ρ6,m6,Wide.trans w1' w26,wRw w6 r5,r6,wRw w26 r1,wRw w36 r2,wRw w46 r3,wRw w56 r4⟩
set_option maxHeartbeats 1000000 in
theorem zaR (hc:CrabA S ρ h A C) (hr:Rel C W φ) {seats quota pages:Int} {img:Sl} {xs:List Int} (himg:ImgAt S ρ img xs) (hil:xs.length≤1000000) {Q:Int→Int→Mem→Prop}
  (hQ:∀ S',Aft h C S ρ (W.create seats quota pages xs).2.2 S'→Q (W.create seats quota pages xs).1 (W.create seats quota pages xs).2.1 S'):yt S (some (h,0)) seats quota pages img Q:=by
 have hlen:=himg.len
 apply kj
 unfold yR
 unfold Wd.create at hQ
 by_cases hbad:seats<1∨3<seats∨quota<1∨32<quota
 ·rw[if_pos (by omega)] at hQ
  refine zdE hbad fun t ht=>⟨ht,?_⟩
  simp only[jn]
  rw[if_neg (by simp),if_pos (by decide)]
  exact hQ S (After.here hc hr).aft
 obtain⟨sn,rfl⟩:∃ m:Nat,seats=m:=⟨seats.toNat,by omega⟩
 refine zcM (by omega) (by omega) (by omega) (by omega) fun ss b0 b1 b2 b3 S1 hM=>?_
 have hk1:=hM.pages.keep
 have hc1:=hc.keeps hk1
 refine⟨rfl,?_⟩
 refine qC (fun J=>¬(pages<1∨quota<pages)→¬256*pages<xs.length→J S1) ?_ fun J hJ=>?_
 rotate_left
 ·rw[if_neg (by simp),if_neg (by decide)]
  by_cases hp1:pages<1
  ·rw[if_pos (by omega)] at hQ
   rw[if_pos hp1];exact hQ S1 (After.keeps hc hr hk1).aft
  rw[if_neg hp1]
  by_cases hp2:quota<pages
  ·rw[if_pos (by omega)] at hQ
   rw[if_pos hp2];exact hQ S1 (After.keeps hc hr hk1).aft
  rw[if_neg hp2,w64 (by omega) (by omega)]
  by_cases hp3:256*pages<xs.length
  ·rw[if_neg (by omega),if_pos hp3] at hQ
   rw[if_pos (by omega)];exact hQ S1 (After.keeps hc hr hk1).aft
  ·rw[if_neg (by omega)]
   exact hJ (by omega) hp3
 intro hp12 hp3
 rw[if_neg (by omega),if_neg hp3] at hQ
 obtain⟨pn,rfl⟩:∃ m:Nat,pages=m:=⟨pages.toNat,by omega⟩
 have hvm:C.vm=W.vm:=hr.vm
 refine qC (fun J=>(∀ n:Nat,firstOff (fun n=>(W.vm n).on) 6=some n→J n S1)∧(firstOff (fun n=>(W.vm n).on) 6=none→J 6 S1)) ?_ fun J hJ=>?_
 rotate_left
 ·refine zO (fun (z:Int) S'=>∃ i:Nat,z=(i:Int)∧i≤6∧S'=S1∧∀ j,j<i→(W.vm j).on=true) (fun z=>6-z.toNat) ?_ ⟨0,rfl,by omega,rfl,fun _ h=>by omega⟩
  rintro X z S' ⟨i,rfl,hi,rfl,hall⟩ ih
  by_cases hlt:(i:Int)<6
  ·rw[if_pos hlt,yo,qT hc1.c3,yo]
   refine⟨by omega,hlt,?_⟩
   rw[Int.toNat_natCast,fK (hc1.vcell (n:=i) (j:=0) (by omega) (by decide) (by omega)),hvm]
   cases hon:(W.vm i).on with
   | true=>
    rw[if_pos rfl,w64 (by omega) (by omega)]
    refine ih _ _ ⟨i+1,rfl,by omega,rfl,fun j hj=>?_⟩ (by omega)
    by_cases e:j=i
    ·subst e;exact hon
    ·exact hall j (by omega)
   | false=>
    rw[if_neg (by decide)]
    exact hJ.1 i (vQ (by omega) hon hall)
  ·rw[if_neg hlt]
   have:i=6:=by omega
   subst this
   refine hJ.2 ?_
   cases hf:firstOff (fun n=>(W.vm n).on) 6 with
   | none=>rfl
   | some g=>
    obtain⟨a,b,_⟩:=zX hf
    rw[hall g a] at b;cases b
 constructor
 rotate_left
 ·intro hnone
  rw[hnone] at hQ
  simp only[jn]
  rw[if_pos trivial]
  exact hQ S1 (After.keeps hc hr hk1).aft
 intro n hfirst
 rw[hfirst] at hQ
 dsimp only at hQ
 obtain⟨hn,hoff,_⟩:=zX hfirst
 simp only[jn]
 rw[if_neg (by omega),yo,qT hc1.c1,w64 (by omega) (by omega)]
 have hleft:=hr.left
 have hfree:=hr.free
 have e5:5+(pn:Int)=((5+pn:Nat):Int):=by omega
 rw[e5]
 refine fR hc1.pl hc1.rg (by omega) (n:=5+pn) (by omega) (r:=102) ⟨by decide,by decide,by decide⟩ (fun l u hnl htk t S2 ρ2 m2 hp2 hrow2=>?_) fun hbad2 S2 ρ2 left' m2 hl' _ hp2=>?_
 rotate_left
 ·have hfull:W.free<5+(pn:Int):=by
   rcases hbad2 with e | e
   ·omega
   ·have:=wo.1 e;omega
  rw[if_pos hfull] at hQ
  rw[if_pos (by decide)]
  have hc2:=hc1.setPool m2 (fun r hr=>hr.elim .inl fun h=>.inr (by omega)) hp2
  have e1:left'=C.left:=by rw[hl' hleft,hleft]
  rw[e1] at hc2
  exact hQ S2 ⟨ρ2,A,C,φ,(Mv.keeps hc.rg hk1).trans (m2.mono fun r hr=>by unfold R345 at hr;unfold Rc;omega),hc2,hr,Kc.refl⟩
 have hroom:¬W.free<5+(pn:Int):=by
  intro hlt
  have:=wo (N:=C.N) (k:=5+pn) (u:=C.used)
  rw[htk] at this
  exact absurd (this.2 (by omega)) (by simp)
 rw[if_neg hroom] at hQ
 rw[if_neg (by decide)]
 have hlv:leftN C.left (5+pn)=C.left:=by unfold leftN;rw[if_pos (by omega),hleft]
 rw[hlv] at hp2
 have hc2:=hc1.setPool m2 (fun r hr=>hr.elim .inl fun h=>.inr (by omega)) hp2
 obtain⟨hll,hlnd,hlfree,_,_⟩:=yC htk
 have htn:=hrow2.n (by decide) (ww l)
 have htcap:=hrow2.row.cap
 obtain⟨c,ec1,ec2⟩:=hrow2.sl (by rw[ww];omega)
 obtain⟨u5,htk5,htkp⟩:=jH (i:=5) (k:=pn) htk
 have hl5len:(l.take 5).length=5:=by rw[List.length_take];omega
 have hs5:=slc5 ec2 (by omega)
 refine⟨by decide,by omega,?_⟩
 rw[hs5]
 show lp _ 0 S2
 refine zO (fun (z:Int) S'=>∃ i:Nat,z=(i:Int)∧i≤5∧Mv S2 ρ2 S' ρ2 (· = 9)∧CrabA S' ρ2 h A { C with used:=u,own:=keepL C.own n (l.take i) }∧Rw S' ρ2 102 1 t (nL l)) (fun z=>5-z.toNat) ?_ ⟨0,rfl,by omega,Mv.refl hc2.rg,hc2,hrow2⟩
 rintro X z S3 ⟨i,rfl,hi,m3,hc3,hrow3⟩ ih
 by_cases hlt:(i:Int)<((5:Nat):Int)
 ·rw[if_pos hlt,gr]
  refine⟨by omega,hlt,?_⟩
  have hil2:i<l.length:=by omega
  rw[Int.toNat_natCast,yd (by rw[hrow3.cell ec2 i (by rw[ww];omega) (by omega)];exact zbm hil2),qT hc3.c3,yo,qT hc3.t74]
  refine gQ hc3.ow hc3.rg (hlfree _ (List.getElem_mem hil2)).1 (by omega) fun e S4 m4 hs4=>?_
  rw[w64 (by omega) (by omega)]
  refine ih _ S4 ⟨i+1,rfl,by omega,m3.trans m4,?_,hrow3.keep m4 (by decide)⟩ (by omega)
  have e1:keepL C.own n (l.take (i+1))=keepC (keepL C.own n (l.take i)) l[i] n:=by
   unfold keepL
   rw[List.take_succ_eq_append_getElem hil2,List.foldl_append];rfl
  rw[e1]
  exact hc3.setOwn m4 hs4
 rw[if_neg hlt]
 have hi5:i=5:=by omega
 subst hi5
 rw[qT hc3.c0,qT hc3.c3,yo,yd hc3.tform]
 refine⟨by decide,by omega,?_⟩
 show vh S3 (some (A.m,0)) C.form ⟨some (c,0),5,t.c⟩ _
 refine zbY hc3.st hc3.rg hr.form (by decide) hrow3 ec2 (by omega) (fun f hf=>(hlfree f hf).1) fun t' S4 m4 hs4 hrow4 hfr4=>?_
 have hc4:=hc3.setStore m4 hs4
 have hrow4l:=hrow3.keep m4 (by decide)
 refine⟨hc4.c3,rfl,?_⟩
 rw[qT hc4.c3,yo,yd hc4.tnow,qT hc4.c3,yo]
 refine⟨by omega,by omega,rfl,?_⟩
 have mS12:Mv S1 ρ S4 ρ2 Rc:=(m2.mono fun r hr=>by unfold R345 at hr;unfold Rc;omega).trans ((m3.mono fun r hr=>by unfold Rc;omega).trans (m4.mono fun r hr=>by unfold Rc;omega))
 have mS:Mv S ρ S4 ρ2 Rc:=(Mv.keeps hc.rg hk1).trans mS12
 have hnorole:∀ b,S b=none→ρ b=none:=fun b hb=>by
  cases hq:ρ b with
  | none=>rfl
  | some r=>exact absurd hb (hc.rg b r hq)
 have hnew:∀ b,S b=none→S1 b≠none→ρ2 b=none∧S4 b=S1 b:=fun b hb hb1=>by
  refine⟨?_,mS12.kp b hb1 fun r e=>by rw[hnorole b hb] at e;cases e⟩
  cases hq:ρ2 b with
  | none=>rfl
  | some r=>have:=mS12.old b r hq hb1;rw[hnorole b hb] at this;cases this
 have hss:∀ b o,ss.p=some (b,o)→S1 b≠none:=fun b o e=>by
  rcases hM.row.lie with ⟨h1,_⟩ | ⟨b',k,h1,h2,_⟩
  ·rw[h1] at e;cases e
  ·rw[h1] at e;cases e;rw[h2];simp
 have hS3grow:∀ b,S1 b≠none→S3 b≠none:=fun b hb=>m3.al b (m2.al b hb)
 obtain⟨ρ5,m5,w5,g1,g2,g3,g4,g5,g6⟩:=give6 (n:=n) mS (zaM hc.gl) (zdu hM.row mS12 fun b o e=>hnorole b (hM.fresh b o e).1) (fun b o e=>⟨(hM.fresh b o e).1,(hnew b (hM.fresh b o e).1 (hss b o e)).1⟩) hrow4 (fun b o e=>⟨by
   cases hs:S b with
   | none=>rfl
   | some k=>exact absurd (hfr4 b o e).1 (hS3grow b (by rw[hk1 b (by rw[hs];simp) (by simp),hs];simp)),(hfr4 b o e).2⟩)
  (fun b hb=>by
   obtain⟨h1,h2⟩:=hM.pages.at_ b hb
   have:=hnew b h1 (by rw[h2];simp)
   exact⟨h1,this.1,by rw[this.2];exact h2⟩) hM.pages.nodup (fun b o e=>(hM.fresh b o e).2)
  (fun b o e hb=>by
   have h1:=(hfr4 b o e).1
   exact hS3grow b (by rw[(hM.pages.at_ b hb).2];simp) h1)
  (fun b o o' e e'=>by
   have h1:=(hfr4 b o' e').1
   exact hS3grow b (hss b o e) h1)
 have hc5:=CrabA.wide w5 hc4
 have hrow5:=wRw w5 hrow4l
 generalize hdd:(fun j:Nat=>if j=0 then pg b0 else if j=1 then pg b1 else if j=2 then pg b2 else pg b3)=dd
 have hd0:dd 0=pg b0:=by rw[←hdd];rfl
 have hd1:dd 1=pg b1:=by rw[←hdd];rfl
 have hd2:dd 2=pg b2:=by rw[←hdd];rfl
 have hd3:dd 3=pg b3:=by rw[←hdd];rfl
 have hvn:VmP S4 ρ5 n ⟨ss,t',⟨none,0,0⟩,dd⟩ (mkV sn quota) (l.take 5):=⟨g1,zfc _,g2,Rw.nil,fun j hj=>by
  match j,hj with
  | 0,_=>show Rw _ _ _ _ (dd 0) _;rw[hd0];exact g3
  | 1,_=>show Rw _ _ _ _ (dd 1) _;rw[hd1];exact g4
  | 2,_=>show Rw _ _ _ _ (dd 2) _;rw[hd2];exact g5
  | 3,_=>show Rw _ _ _ _ (dd 3) _;rw[hd3];exact g6⟩
 have hcells:spl (spl (mk12 ss quota b0 b1 b2 b3) 2 (tbL C.form t')) 5 [.int .u64 C.now]=vmC ⟨ss,t',⟨none,0,0⟩,dd⟩ (mkV sn quota) C.form C.now:=by
  unfold vmC
  simp only[hd0,hd1,hd2,hd3]
  rfl
 rw[Int.toNat_natCast]
 show pt S4 A.t (0+2+n*12) 12 (spl (spl (mk12 ss quota b0 b1 b2 b3) 2 (tbL C.form t')) 5 [.int .u64 C.now]) _
 rw[hcells]
 refine zeM hc5 (j:=0) (vs:=vmC ⟨ss,t',⟨none,0,0⟩,dd⟩ (mkV sn quota) C.form C.now) (tf':=C.form) (late':=C.now) hn (by omega) rfl (by rw[zar];decide) (zaz (by rw[zar,zar])) hvn fun S6 m6 hc6=>?_
 refine⟨by omega,by omega,?_⟩
 refine hc6.hd.pt hc6.rg (vs:=[eL ⟨none,0,0⟩]) (5+n) rfl (by rw[kV];simp;omega) (by omega) fun S7 m7 h7=>?_
 rw[zeF hn] at h7
 have hc7:=hc6.setEv m7 (fun r hr=>.inl hr) (es:=upd A.es n ⟨none,0,0⟩) (ev:=upd C.ev n []) h7 fun i hi=>by
  by_cases e:i=n
  ·subst e;rw[zt,zt];exact Rw.nil
  ·rw[zn e,zn e];exact (hc6.ev i hi).keep m7 (by omega)
 have hrow7:=(hrow5.keep m6 (by decide)).keep m7 (by decide)
 have m57:Mv S ρ S7 ρ5 Rc:=m5.trans ((m6.mono fun r hr=>by unfold Rc;omega).trans (m7.mono fun r hr=>by unfold Rc;omega))
 have hrel0:=hr.newV (seats:=sn) (quota:=quota) hn hoff (by omega) (by omega) htk5
 have himg7:=himg.mv m57
 refine⟨by decide,by omega,by omega,?_⟩
 have hloop:=pagesLoop (C:={ C with used:=u,own:=keepL C.own n (l.take 5),dat:=makeD C.dat C.form (l.take 5),vm:=upd C.vm n (mkV sn quota),tf:=upd C.tf n C.form,late:=upd C.late n C.now,fr:=upd C.fr n (l.take 5),ev:=upd C.ev n [] }) (W:=W) (pages:=pn) (seats:=sn) (quota:=quota) (t:=t) (l:=l) (c:=c) (u:=u) (u0:=u5) (xs:=xs) (img:=img) (h:=h) hn hr.wk hoff (by omega) (by omega) hll (fun f hf=>(hlfree f hf).1) hc7 rfl htkp hrel0 hrow7 ec2 himg7 (by omega) (Q:=fun Sx=>Q n 0 Sx) fun S8 hA8=>?_
 ·exact hloop
 ·rw[zaG hr.wk hoff] at hA8
  obtain⟨ρ8,A8,C8,φ8,m8,hc8,hr8,kp8,_⟩:=hA8
  exact hQ S8 ⟨ρ8,A8,C8,φ8,m57.trans m8,hc8,hr8,⟨kp8.N,kp8.form,kp8.region,kp8.turns,kp8.now⟩⟩
end
end Go.Proofs.YtabdpmnhjlmnlaaGreatDoor
end
