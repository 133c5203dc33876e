/- Texts of this work,joined by program (pack.py): Cj,Ct,Hw,Hx,PsL,Lz. -/
import Derived.Test.YtabdpmnhjlmnlaaGreatDoorQCJ
import Derived.Test.YtabdpmnhjlmnlaaGreatDoorQCI
import Derived.Test.YtabdpmnhjlmnlaaGreatDoorQCE
import Derived.Test.YtabdpmnhjlmnlaaGreatDoorQCK
import Derived.Test.YtabdpmnhjlmnlaaGreatDoorQCC
import Derived.Test.YtabdpmnhjlmnlaaGreatDoorQCH
set_option linter.unusedVariables false
section
namespace Go.Cr
open Go Go.Pt
section
variable {C:Cst} {W:Wd} {φ:Nat→Nat→Nat}
theorem Rel.tell (h:Rel C W φ) (n:Nat) (e:Evt):Rel { C with ev:=upd C.ev n (C.ev n++[e]) } (W.tell n e) φ:=
 { h with wk:={ h.wk with off:=h.wk.off },ev:=by show upd C.ev n (C.ev n++[e])=upd W.ev n (W.ev n++[e]);rw[h.ev] }
theorem WOk.setV (h:WOk W) {n:Nat} {v:Bv} (hon:(W.vm n).on=true) (h1:v.on=true) (h2:v.seats.length=(W.vm n).seats.length) (h3:∀ s∈v.seats,s.Ok) (h4:v.keys.length≤64∧Byt v.keys) (h5:∀ j,(v.disk j).length=256∧Byt (v.disk j)) (h6:v.quota=(W.vm n).quota) (h7:v.bells=(W.vm n).bells):WOk (W.setV n v):=by
 have on':∀ i,((W.setV n v).vm i).on=(W.vm i).on:=fun i=>by
  show (upd W.vm n v i).on=_
  by_cases e:i=n
  ·subst e;rw[zq,h1,hon]
  ·rw[zo e]
 have vm':∀ i,i≠n→(W.setV n v).vm i=W.vm i:=fun i e=>zo e
 have vn:(W.setV n v).vm n=v:=zq
 have be':∀ i,((W.setV n v).vm i).bells=(W.vm i).bells:=fun i=>by
  by_cases e:i=n
  ·subst e;rw[vn,h7]
  ·rw[vm' i e]
 have ql':∀ i,((W.setV n v).vm i).quota=(W.vm i).quota:=fun i=>by
  by_cases e:i=n
  ·subst e;rw[vn,h6]
  ·rw[vm' i e]
 have sl':∀ i,((W.setV n v).vm i).seats.length=(W.vm i).seats.length:=fun i=>by
  by_cases e:i=n
  ·subst e;rw[vn,h2]
  ·rw[vm' i e]
 refine { h with off:=fun i hi=>?_,six:=fun i hi=>by rw[on'];exact h.six i hi,seats:=fun i hi=>?_,ok:=fun i=>?_,keys:=fun i=>?_,disk:=fun i j hi=>?_,quota:=fun i=>by rw[ql'];exact h.quota i,bells:=fun i k=>?_,pg:=fun i p l hl=>?_,most:=fun i=>by rw[ql'];exact h.most i,lsr:=fun i hi=>?_,alarm:=fun i k w hw=>by rw[sl'];exact h.alarm i k w hw }
 ·rw[on'] at hi
  have:i≠n:=fun e=>by subst e;rw[hon] at hi;cases hi
  rw[vm' i this];exact h.off i hi
 ·rw[on'] at hi;rw[sl'];exact h.seats i hi
 ·by_cases e:i=n
  ·subst e;rw[vn];exact h3
  ·rw[vm' i e];exact h.ok i
 ·by_cases e:i=n
  ·subst e;rw[vn];exact h4
  ·rw[vm' i e];exact h.keys i
 ·by_cases e:i=n
  ·subst e;rw[vn];exact h5 j
  ·rw[on'] at hi
   rw[vm' i e];exact h.disk i j hi
 ·rw[be',be',on',on'];exact h.bells i k
 ·rw[on'];exact h.pg i p l hl
 ·rw[on',on'];exact h.lsr i hi
theorem Rel.setV (h:Rel C W φ) {n:Nat} {v:Bv} (hon:(W.vm n).on=true) (h1:v.on=true) (hk:WOk (W.setV n v)):Rel { C with vm:=upd C.vm n v } (W.setV n v) φ:=by
 have on':∀ i,((W.setV n v).vm i).on=(W.vm i).on:=fun i=>by
  show (upd W.vm n v i).on=_
  by_cases e:i=n
  ·subst e;rw[zq,h1,hon]
  ·rw[zo e]
 exact { h with
  wk:=hk
  vm:=by show upd C.vm n v=upd W.vm n v;rw[h.vm]
  time:=fun i hi=>by rw[on'] at hi;exact h.time i hi
  off:=fun i hi=>by rw[on'] at hi;exact h.off i hi
  tab:=fun i hi=>by rw[on'] at hi;exact h.tab i hi
  root:=fun i j hi=>by rw[on'] at hi;exact h.root i j hi
  leaf:=fun i p hi=>by rw[on'] at hi;exact h.leaf i p hi
  cache:=fun r hr=>by
   obtain⟨i,h1,h2,h3⟩:=h.cache r hr
   exact⟨i,h1,by rw[on'];exact h2,h3⟩ }
theorem Rel.setCache (h:Rel C W φ) {l:List Cw} (h1:∀ r∈l,∃ n:Nat,r.vm=n∧(W.vm n).on=true∧C.walk n r.page=some (r.f,r.w)) (h2:l.length≤8):Rel { C with cache:=l } W φ:=
 { h with cache:=h1,csize:=h2 }
theorem zkJ {l:List Cw} {vm page:Int} {q:Nat×Bool} (h:lookC l vm page=some q):∃ r∈l,r.vm=vm∧r.page=page∧(r.f,r.w)=q:=by
 unfold lookC at h
 cases hf:l.find? (fun r=>decide (r.vm=vm) && decide (r.page=page)) with
 | none=>rw[hf] at h;cases h
 | some r=>
  rw[hf] at h
  simp only[Option.map_some,Option.some.injEq] at h
  have:=List.find?_some hf
  simp only[Bool.and_eq_true,decide_eq_true_eq] at this
  exact⟨r,List.mem_of_find?_eq_some hf,this.1,this.2,h⟩
theorem zef {l:List Cw} {vm page:Int} {r:Cw} (h:r∈dropC l vm page):r∈l∧¬(r.vm=vm∧r.page=page):=by
 unfold dropC at h
 rw[List.mem_filter] at h
 exact⟨h.1,fun hh=>by have:=h.2;simp[hh.1,hh.2] at this⟩
theorem fc {l:List Cw} {vm page:Int}:(dropC l vm page).length≤l.length:=List.length_filter_le _ _
theorem zlH {l:List Cw} {r x:Cw} (h:x∈putC l r):x∈l∨x=r:=by
 unfold putC at h
 rw[List.mem_append,List.mem_singleton] at h
 rcases h with h | h
 ·left
  split at h
  ·exact (zef (List.mem_of_mem_tail h)).1
  ·exact (zef h).1
 ·exact .inr h
theorem zlI {l:List Cw} {r:Cw} (h:l.length≤8):(putC l r).length≤8:=by
 unfold putC
 have:=fc (l:=l) (vm:=r.vm) (page:=r.page)
 rw[List.length_append]
 split
 ·rw[List.length_tail];simp;omega
 ·simp;omega
theorem Rel.find (h:Rel C W φ) {n:Nat} (hn:(W.vm n).on=true) {page:Int} {q:Nat×Bool} (hl:lookC C.cache n page=some q):C.walk n page=some q:=by
 obtain⟨r,hr,h1,h2,h3⟩:=zkJ hl
 obtain⟨m,e1,e2,e3⟩:=h.cache r hr
 have:m=n:=by rw[h1] at e1;omega
 subst this
 rw[h2,h3] at e3;exact e3
theorem Rel.put (h:Rel C W φ) {n:Nat} (hn:(W.vm n).on=true) {page:Int} {f:Nat} {w:Bool} (hw:C.walk n page=some (f,w)):Rel { C with cache:=putC C.cache ⟨n,page,f,w⟩ } W φ:=
 h.setCache (fun r hr=>by
  rcases zlH hr with e | e
  ·exact h.cache r e
  ·subst e;exact⟨n,rfl,hn,hw⟩) (zlI h.csize)
theorem Rel.walk_some (h:Rel C W φ) {n:Nat} (hn:(W.vm n).on=true) {page:Int} {f:Nat} {w:Bool} (hw:C.walk n page=some (f,w)):∃ m q l,0≤page∧page≤31∧W.where_ n page.toNat=some (m,q,w)∧W.own m q=some l∧f=φ m q:=by
 by_cases hp:page<0∨31<page
 ·rw[zdg hp] at hw;cases hw
 ·have e:page=((page.toNat:Nat):Int):=by omega
  rw[e,h.walk hn (by omega)] at hw
  cases hq:W.where_ n page.toNat with
  | none=>rw[hq] at hw;cases hw
  | some q=>
   rw[hq] at hw
   simp only[Option.map_some,Option.some.injEq,Prod.mk.injEq] at hw
   obtain⟨l,hl⟩:=h.wk.where_own hq
   obtain⟨a,b,c⟩:=q
   simp only at hw hl
   obtain⟨rfl,rfl⟩:=hw
   exact⟨a,b,l,by omega,by omega,rfl,hl,rfl⟩
theorem Rel.walk_none (h:Rel C W φ) {n:Nat} (hn:(W.vm n).on=true) {page:Int} (hw:C.walk n page=none):page<0∨31<page∨W.where_ n page.toNat=none:=by
 by_cases hp:page<0∨31<page
 ·omega
 ·right;right
  have e:page=((page.toNat:Nat):Int):=by omega
  rw[e,h.walk hn (by omega)] at hw
  cases hq:W.where_ n page.toNat with
  | none=>rfl
  | some q=>rw[hq] at hw;cases hw
theorem WOk.setO (h:WOk W) {m q:Nat} {l l':List Int} (ho:W.own m q=some l) (hl:l'.length=256∧Byt l'):WOk (W.setO m q (some l')):=by
 have is':∀ i p,((W.setO m q (some l')).own i p).isSome=(W.own i p).isSome:=fun i p=>by
  show (upd W.own m (upd (W.own m) q (some l')) i p).isSome=_
  by_cases e:i=m
  ·subst e
   rw[zq]
   by_cases e2:p=q
   ·subst e2;rw[zq,ho];rfl
   ·rw[zo e2]
  ·rw[zo e]
 have no':∀ i p,(W.setO m q (some l')).own i p=none↔W.own i p=none:=fun i p=>by
  rw[←Option.not_isSome_iff_eq_none,←Option.not_isSome_iff_eq_none,is']
 have hon:=(h.pg m q l ho)
 refine { h with off:=fun i hi=>⟨(h.off i hi).1,fun p=>(no' i p).2 ((h.off i hi).2.1 p),(h.off i hi).2.2⟩,pg:=fun i p l2 hl2=>?_,most:=fun i=>?_,lsr:=fun i hi=>?_,lsa:=fun i hi p hp=>(no' _ _).2 (h.lsa i hi p hp) }
 ·by_cases e:i=m∧p=q
  ·obtain⟨rfl,rfl⟩:=e
   have:l'=l2:=by
    have h2:(W.setO i p (some l')).own i p=some l':=by show upd W.own i (upd (W.own i) p (some l')) i p=_;rw[zq,zq]
    rw[h2] at hl2;exact Option.some.inj hl2
   subst this
   exact⟨hon.1,hon.2.1,hl⟩
  ·refine h.pg i p l2 ?_
   have:(W.setO m q (some l')).own i p=W.own i p:=by
    show upd W.own m (upd (W.own m) q (some l')) i p=_
    by_cases e1:i=m
    ·subst e1;rw[zq,zo (fun e2=>e ⟨rfl,e2⟩)]
    ·rw[zo e1]
   rw[this] at hl2;exact hl2
 ·have:(W.setO m q (some l')).pages i=W.pages i:=wU fun p _=>is' i p
  rw[this];exact h.most i
 ·rw[is'];exact h.lsr i hi
theorem zeH {m q:Nat} {l l':List Int} (ho:W.own m q=some l) {n p:Nat}:(W.setO m q (some l')).where_ n p=W.where_ n p:=by
 unfold Wd.where_
 have:((W.setO m q (some l')).own n p).isSome=(W.own n p).isSome:=by
  show (upd W.own m (upd (W.own m) q (some l')) n p).isSome=_
  by_cases e:n=m
  ·subst e
   rw[zq]
   by_cases e2:p=q
   ·subst e2;rw[zq,ho];rfl
   ·rw[zo e2]
  ·rw[zo e]
 rw[this];rfl
theorem Rel.walk_keep (h:Rel C W φ) {f:Nat} (hf:(C.own f).kind≠2) {l:List Int} {n:Nat} (hn:(W.vm n).on=true) (page:Int):walkC (upd C.dat f l) C.N (C.tf n) (C.fr n) page=C.walk n page:=by
 by_cases hp:page<0∨31<page
 ·rw[zdg hp]
  unfold walkC Go.Cr.leafC
  rw[if_pos hp]
 ·have e:page=((page.toNat:Nat):Int):=by omega
  have h32:page.toNat<32:=by omega
  have key:∀ j i,j<5→ld (upd C.dat f l) ((C.fr n).getD j 0) i=ld C.dat ((C.fr n).getD j 0) i:=fun j i hj=>h.ld_keep hf hn hj
  obtain⟨a,b,c,d,g,hfr⟩:=h.cons hn
  have k0:=key 0 (page/8).toNat (by decide)
  have hlf:=h.leafC hn h32
  rw[←e] at hlf
  unfold Cst.walk walkC
  have hlf2:Go.Cr.leafC (upd C.dat f l) C.N (C.tf n) (C.fr n) page=Go.Cr.leafC C.dat C.N (C.tf n) (C.fr n) page:=by
   unfold Go.Cr.leafC
   rw[if_neg hp,if_neg hp,hfr]
   rw[hfr,List.getD_cons_zero] at k0
   dsimp only
   rw[k0]
  rw[hlf2,hlf]
  dsimp only
  rw[key _ _ (by omega)]
theorem Rel.setO (h:Rel C W φ) {m q:Nat} {l l':List Int} (ho:W.own m q=some l) (hl:l'.length=256∧Byt l'):Rel { C with dat:=upd C.dat (φ m q) l' } (W.setO m q (some l')) φ:=by
 have hp:=h.pg m q l ho
 have hk:(C.own (φ m q)).kind≠2:=by rw[hp.2.1];exact (show (3:Int)≠2 by decide)
 exact { h with
  wk:=h.wk.setO ho hl
  len:=fun f hf=>by
   show (upd C.dat (φ m q) l' f).length=256∧Byt (upd C.dat (φ m q) l' f)
   by_cases e:f=φ m q
   ·rw[e,zq];exact hl
   ·rw[zo e];exact h.len f hf
  root:=fun n j hn hj=>by
   show unp C.form (ld (upd C.dat (φ m q) l') ((C.fr n).getD 0 0) j)=_
   rw[h.ld_keep hk hn (by decide)];exact h.root n j hn hj
  leaf:=fun n p hn hp'=>by
   show unp C.form (ld (upd C.dat (φ m q) l') ((C.fr n).getD (p/8+1) 0) (p%8))=_
   rw[h.ld_keep hk hn (by omega),zeH ho];exact h.leaf n p hn hp'
  pg:=fun n p l2 hl2=>by
   show φ n p<C.N∧C.own (φ n p)=_∧upd C.dat (φ m q) l' (φ n p)=l2
   by_cases e:n=m∧p=q
   ·obtain⟨rfl,rfl⟩:=e
    have h2:(W.setO n p (some l')).own n p=some l':=by show upd W.own n (upd (W.own n) p (some l')) n p=_;rw[zq,zq]
    rw[h2] at hl2
    cases hl2
    exact⟨hp.1,hp.2.1,zq⟩
   ·have h2:(W.setO m q (some l')).own n p=W.own n p:=by
     show upd W.own m (upd (W.own m) q (some l')) n p=_
     by_cases e1:n=m
     ·subst e1;rw[zq,zo (fun e2=>e ⟨rfl,e2⟩)]
     ·rw[zo e1]
    rw[h2] at hl2
    have h3:=h.pg n p l2 hl2
    refine⟨h3.1,h3.2.1,?_⟩
    rw[zo (fun e2=>e (h.inj hl2 ho e2))];exact h3.2.2
  pgk:=fun f hf hk'=>by
   obtain⟨n,p,h1,h2⟩:=h.pgk f hf hk'
   refine⟨n,p,?_,h2⟩
   show (upd W.own m (upd (W.own m) q (some l')) n p).isSome=true
   by_cases e:n=m
   ·subst e
    rw[zq]
    by_cases e2:p=q
    ·subst e2;rw[zq];rfl
    ·rw[zo e2];exact h1
   ·rw[zo e];exact h1
  cache:=fun r hr=>by
   obtain⟨n,h1,h2,h3⟩:=h.cache r hr
   exact⟨n,h1,h2,by rw[←h3];exact h.walk_keep hk h2 r.page⟩ }
theorem Rel.setAlarm (h:Rel C W φ) {n k:Nat} (hk:k<(W.vm n).seats.length) {w:Int} (hw:W64 w):Rel { C with alm:=upd C.alm n (upd (C.alm n) k (some (min (w+C.late n) most64))) } (W.setAlarm n k w) φ:=by
 have hon:(W.vm n).on=true:=by
  cases e:(W.vm n).on with
  | true=>rfl
  | false=>rw[(h.wk.off n e).1] at hk;simp[bv0] at hk
 refine { h with wk:={ h.wk with off:=fun i hi=>⟨(h.wk.off i hi).1,(h.wk.off i hi).2.1,fun j=>?_⟩,alarm:=fun i j w' hw'=>?_ },alm:=fun i j=>?_ }
 ·show upd W.alarm n (upd (W.alarm n) k (some w)) i j=none
  have:i≠n:=fun e=>by subst e;have hi':(W.vm i).on=false:=hi;rw[hon] at hi';cases hi'
  rw[zo this];exact (h.wk.off i hi).2.2 j
 ·have hw'':upd W.alarm n (upd (W.alarm n) k (some w)) i j=some w':=hw'
  by_cases e:i=n
  ·subst e
   rw[zq] at hw''
   by_cases e2:j=k
   ·subst e2;rw[zq] at hw'';cases hw'';exact⟨hk,hw⟩
   ·rw[zo e2] at hw'';exact h.wk.alarm i j w' hw''
  ·rw[zo e] at hw'';exact h.wk.alarm i j w' hw''
 ·show upd C.alm n (upd (C.alm n) k (some (min (w+C.late n) most64))) i j=(upd W.alarm n (upd (W.alarm n) k (some w)) i j).map _
  by_cases e:i=n
  ·subst e
   rw[zq,zq]
   by_cases e2:j=k
   ·subst e2;rw[zq,zq];rfl
   ·rw[zo e2,zo e2];exact h.alm i j
  ·rw[zo e,zo e];exact h.alm i j
end
end Go.Cr
end
section
namespace Go.Cr
open Go Go.Pt
theorem zmj:∀ p:Fin 256,∀ n:Fin 8,p.1/2 ^ n.1%2=1→iandn .u32 (p.1:Int) (ishl .u32 1 (n.1:Int))=(p.1:Int)-2 ^ n.1∧2 ^ n.1≤p.1:=by decide +kernel
theorem znG {a b i:Nat} (h:(a &&& b)/2 ^ i%2=1):a/2 ^ i%2=1∧b/2 ^ i%2=1:=by
 have h1:(a &&& b).testBit i=true:=by rw[Nat.testBit_eq_decide_div_mod_eq];exact decide_eq_true h
 rw[Nat.testBit_and,Bool.and_eq_true,Nat.testBit_eq_decide_div_mod_eq,Nat.testBit_eq_decide_div_mod_eq] at h1
 exact⟨of_decide_eq_true h1.1,of_decide_eq_true h1.2⟩
theorem zfE {s:Seat} (hs:s.Ok) {n:Nat} (h:nextL s=some n):n<8∧s.pend.toNat/2 ^ n%2=1∧iandn .u32 s.pend (ishl .u32 1 (n:Int))=s.pend-2 ^ n∧0≤s.pend-2 ^ n:=by
 unfold nextL at h
 split at h
 ·rename_i hc
  obtain⟨m,e,hm,hm2⟩:=Seat.may_nat hs
  rw[e,Int.toNat_natCast] at h
  simp only[Option.some.injEq] at h
  have h0:m≠0:=fun h0=>hc.2 (by rw[e,h0];rfl)
  obtain⟨_,_,_,h4,h5⟩:=zmt ⟨m,by omega⟩ h0
  simp only at h4 h5
  rw[h] at h4 h5
  rw[hm] at h5
  have hb:=znG h5
  have hp:=hs.pend
  have hd:=zmj ⟨s.pend.toNat,by omega⟩ ⟨n,h4⟩ hb.1
  simp only at hd
  have ep:((s.pend.toNat:Nat):Int)=s.pend:=by omega
  rw[ep] at hd
  refine⟨h4,hb.1,hd.1,?_⟩
  have:((2 ^ n:Nat):Int)=(2:Int) ^ n:=by rw[Int.natCast_pow];rfl
  rw[←this]
  omega
 ·cases h
theorem zhF {s:Seat} {g:GM} (hg:g.Ok) {addr:Int} (ha:W64 addr) {n:Nat} (hn:n=4∨n=8) {w:Int} (h:getW s g addr n=some w):0≤w∧w<256 ^ n:=by
 unfold getW at h
 split at h
 ·cases h
 ·rename_i q hq
  have hp:=zfA hg ha hq
  split at h
  ·cases h
  ·rename_i hm
   cases hd:ldB g q.1 q.2 n with
   | none=>rw[hd] at h;cases h
   | some l=>
    rw[hd] at h
    simp only[Option.map_some,Option.some.injEq] at h
    subst h
    obtain⟨h1,h2⟩:=zfJ hg hd (by rcases hn with rfl | rfl <;> omega)
    have:=zeO h2
    rw[h1] at this
    exact this
end Go.Cr
namespace Go.Proofs.YtabdpmnhjlmnlaaGreatDoor
open Go Go.Pt Go.Cr
section
variable {bus:Value} {I:Mem→Rho→GM→Prop} {R:Nat→Prop} {S:Mem} {ρ:Rho} {g:GM} {b o:Nat} {s:Seat} {time me:Int}
theorem zjS (hA:At S b o s.L) (hg:Gl S) (hs:s.Ok) {Q:Int→Bool→Mem→Prop} (hQ:match nextL s with | some n=>Q n true (S.put b o ({ s with pend:=s.pend-2 ^ n }:Seat).L) | none=>∀ x,Q x false S):zdV S (some (b,o)) Q:=by
 have hl:=hs.len
 have hp:=Pl.of hA hl
 apply zhm
 unfold zaT
 have h:=zky (S:=S) (b:=b) (o:=o) (s:=s) (by rw[hA.self];exact hg) hp hs (Q:=fun t t_1 Sx=>if t_1=true then nn (some (b,o)) fun b o=>gI (Sx.cell b (o+24)) .u32 fun t_2=>0≤t∧Go.Pt.pt Sx b (o+24) 1 ([.int .u32 (iandn .u32 t_2 (ishl .u32 1 t))]) fun Sx_1=>Q t true Sx_1 else Q t false Sx) ?_
 ·rw[hA.self] at h;exact h
 ·cases hn:nextL s with
  | none=>
   rw[hn] at hQ
   dsimp only at hQ ⊢
   rw[if_neg (by decide),hA.self];exact hQ _
  | some n=>
   rw[hn] at hQ
   dsimp only at hQ ⊢
   obtain⟨h8,_,e,_⟩:=zfE hs hn
   rw[if_pos rfl,qk,zY ((hp.cell hl (by decide)).trans (Seat.g24 hl)),e]
   exact⟨by omega,hp.pt (s:=s) hl (by decide) (Seat.s24 (s:=s) hl _) hQ⟩
theorem zjX (hB:Bus bus I R) (hx:Cx I R S ρ g b o s) (hs:s.Ok) (ht:W64 time) (hme:0≤me∧me≤2) {Q:List Value→Mem→Prop}
  (hQ:∀ S1 ρ1,Mv S ρ S1 ρ1 R→I S1 ρ1 (stepM s g time me).g→At S1 b o s.L→Q (exL (stepM s g time me).k (stepM s g time me).n) (S1.put b o (stepM s g time me).s.L)):zfW S (some (b,o)) bus time me Q:=by
 have hl:=hs.len
 have hA:=hx.at_
 have hp:=Pl.of hA hl
 have m0:Mv S ρ S ρ R:=Mv.refl (hB.rg hx.i)
 have hres:∀ c u:Int,(exL c u).all (·.oneCell')=true:=fun _ _=>rfl
 obtain⟨bt,bv,hbus⟩:=hB.ifc
 have hone:bus.oneCell'=true:=by rw[hbus];rfl
 have hall:([eP (some (b,o)),bus,.int .u64 time,.int .i64 me]:List Value).all (·.oneCell')=true:=by
  simp only[List.all_cons,List.all_nil,hone];rfl
 have ec:([eP (some (b,o)),bus,.int .u64 time,.int .i64 me]:List Value)=cL b o bus time me:=rfl
 have ec2:([.pointer (some ⟨b,o,none⟩),bus,.int .u64 time,.int .i64 me]:List Value)=cL b o bus time me:=rfl
 apply ziO
 unfold zcC
 refine⟨hone,hall,?_⟩
 unfold stepM at hQ
 refine qc (fun J=>s.st=0→∀ v,v.length=2→J v S) ?_ fun J hJ=>?_
 rotate_left
 ·rw[if_neg (by simp)]
  refine⟨false,.inr ⟨⟨bt,bv,hbus⟩,rfl⟩,?_⟩
  show (if false=true then _ else _)
  rw[if_neg (by decide),qk,zY ((hx.cell hl (by decide)).trans (Seat.g23 hl))]
  by_cases h0:s.st≠0
  ·have hq:=hQ S ρ m0
   rw[if_pos h0] at hq
   rw[if_pos h0]
   have:=hq hx.i hA
   rw[hA.self] at this
   exact this
  ·rw[if_neg h0];exact hJ (by omega) _ rfl
 intro hst v hv
 rw[if_neg (by omega)] at hQ
 refine⟨hv,?_⟩
 refine qc (fun J=>nextL s=none→∀ v,v.length=2→J v S) ?_ fun J hJ=>?_
 rotate_left
 ·refine zjS hA (hB.gl hx.i) hs ?_
  cases hn:nextL s with
  | none=>
   dsimp only
   intro x
   rw[if_neg (by decide)]
   exact hJ hn _ hv
  | some n=>
   dsimp only
   have hq:=hQ S ρ m0
   rw[hn] at hq
   obtain⟨h8,_,_,hge⟩:=zfE hs hn
   rw[if_pos rfl,ec,wu64 (x:=(n:Int)) (by omega) (by omega),wu64 (x:=16+(n:Int)) (by omega) (by omega)]
   have hl2:({ s with pend:=s.pend-2 ^ n }:Seat).R.length=16:=hl
   have hA2:At (S.put b o ({ s with pend:=s.pend-2 ^ n }:Seat).L) b o ({ s with pend:=s.pend-2 ^ n }:Seat).L:=hp.at_ hl2
   refine km hA2 hl2 ⟨hres _ _,?_⟩
   have hl3:(({ s with pend:=s.pend-2 ^ n }:Seat).trap (16+n) 0).R.length=16:=by unfold Seat.trap;split <;> exact hl
   rw[hA.put2 (by rw[Seat.L_len hl2,Seat.L_len hl]) (by rw[Seat.L_len hl3,Seat.L_len hl])]
   exact hq hx.i hA
 intro hn v2 hv2
 refine⟨hv2,?_⟩
 rw[hn] at hQ
 dsimp only at hQ
 refine qc (fun J=>∀ S1 ρ1,Mv S ρ S1 ρ1 R→Cx I R S1 ρ1 g b o s→match getW s g s.pc 4 with | some w=>J w true S1 | none=>∀ x,J x false S1) ?_ fun J hJ=>?_
 rotate_left
 ·rw[qk,zY ((hx.cell hl (by decide)).trans (Seat.g16 hl)),ec2]
  refine zeU hB hx hs hs.pc (n:=4) (.inl rfl) fun S1 ρ1 hm hx1=>?_
  have h:=hJ S1 ρ1 hm hx1
  cases hg:getW s g s.pc 4 with
  | none=>
   rw[hg] at h
   dsimp only at h ⊢
   intro x
   rw[if_neg (by decide)];exact h x
  | some w=>
   rw[hg] at h
   dsimp only at h ⊢
   rw[if_pos rfl];exact h
 intro S1 ρ1 hm hx1
 have hq:=hQ S1 ρ1 hm
 cases hg:getW s g s.pc 4 with
 | none=>
  rw[hg] at hq
  dsimp only at hq ⊢
  intro x
  rw[if_neg (by decide),qk,zY ((hx1.cell hl (by decide)).trans (Seat.g16 hl)),ec2]
  exact km hx1.at_ hl ⟨hres _ _,hq hx1.i hx1.at_⟩
 | some w=>
  rw[hg] at hq
  dsimp only at hq ⊢
  have hw:=zhF (hB.ok hx.i) hs.pc (.inl rfl) hg
  rw[if_pos rfl,wu32 (by omega) (by omega)]
  refine zhN (by omega) (by omega) (fun hY=>?_) fun hN=>?_
  ·rw[if_pos hY] at hq
   rw[if_pos rfl,ec]
   refine⟨rfl,?_⟩
   refine znC hB hx1 hs (zpf w) hY.1 hst ht hme fun S2 ρ2 hm2 hi2 hA2=>⟨hres _ _,?_⟩
   have hq2:=hQ S2 ρ2 (hm.trans hm2)
   rw[hg] at hq2
   dsimp only at hq2
   rw[if_pos hY] at hq2
   exact hq2 hi2 hA2
  ·rw[if_neg hN] at hq
   rw[if_neg (by decide),ec]
   exact⟨rfl,km hx1.at_ hl ⟨hres _ _,hq hx1.i hx1.at_⟩⟩
end
end Go.Proofs.YtabdpmnhjlmnlaaGreatDoor
end
section
namespace Go.Proofs.YtabdpmnhjlmnlaaGreatDoor
open Go Go.Pt Go.Cr Go.Hp
def thereV (vm:Nat→Bv) (n:Int):Prop:=0≤n∧n<6∧(vm n.toNat).on=true
instance (vm:Nat→Bv) (n:Int):Decidable (thereV vm n):=inferInstanceAs (Decidable (_∧_∧_))
theorem zok {l:List Seat} (h:∀ s∈l,s.Ok):∀ s:{ s // s∈l },(s.1.L).length=26:=fun s=>Seat.L_len (h s.1 s.2).len
theorem zbu {l:List Seat} (h:∀ s∈l,s.Ok):(l.flatMap Seat.L).length=l.length*26:=by
 induction l with
 | nil=>simp
 | cons s l ih=>
  rw[List.flatMap_cons,List.length_append,ih fun x hx=>h x (by simp[hx]),Seat.L_len (h s (by simp)).len,List.length_cons,Nat.add_mul];omega
theorem zfw {l:List Seat} (h:∀ s∈l,s.Ok) {j:Nat} (hj:j<l.length):∃ A B,A.length=j*26∧l.flatMap Seat.L=A++(l[j].L++B)∧∀ s,(l.set j s).flatMap Seat.L=A++(s.L++B):=by
 refine⟨(l.take j).flatMap Seat.L,(l.drop (j+1)).flatMap Seat.L,?_,?_,fun s=>?_⟩
 ·rw[zbu fun s hs=>h s (List.mem_of_mem_take hs),List.length_take,Nat.min_eq_left (by omega)]
 ·have e:l=l.take j++(l[j] :: l.drop (j+1)):=by rw[List.getElem_cons_drop,List.take_append_drop]
  have e2:=congrArg (List.flatMap Seat.L) e
  rw[List.flatMap_append,List.flatMap_cons] at e2
  exact e2
 ·rw[List.set_eq_take_append_cons_drop,if_pos hj,List.flatMap_append,List.flatMap_cons]
theorem zkg {l:List Seat} (h:∀ s∈l,s.Ok) {j:Nat} (hj:j<l.length):lpart (l.flatMap Seat.L) (j*26) (l[j].L).length=some l[j].L:=by
 obtain⟨A,B,h1,h2,_⟩:=zfw h hj
 rw[h2,show j*26=j*26+0 by omega,yM h1,ki (by omega),zk rfl]
theorem zmv {l:List Seat} (h:∀ s∈l,s.Ok) {j:Nat} (hj:j<l.length) {s:Seat} (hs:s.Ok):spl (l.flatMap Seat.L) (j*26) s.L=(l.set j s).flatMap Seat.L:=by
 obtain⟨A,B,h1,h2,h3⟩:=zfw h hj
 have hl:=Seat.L_len (h l[j] (List.getElem_mem hj)).len
 have hl2:=Seat.L_len hs.len
 rw[h3,h2,show j*26=j*26+0 by omega,qz h1]
 congr 1
 rw[xq _ _ _ (by simp),List.take_zero,List.nil_append,Nat.zero_add,List.drop_left' (by omega)]
theorem zlz {l:List Seat} {k:Nat} (hk:k<l.length):l.getD k seat0=l[k]:=by rw[List.getD_eq_getElem?_getD,List.getElem?_eq_getElem hk];rfl
section
variable {S S':Mem} {ρ ρ':Rho} {h:Nat} {A:Ad} {C:Cst}
theorem xY (hc:CrabA S ρ h A C) {n:Int} {Q:Bool→Mem→Prop} (hQ:Q (decide (thereV C.vm n)) S):qy S (some (A.t,0)) n Q:=by
 apply zaw
 unfold xU
 rw[if_pos (by simp)]
 by_cases h0:0≤n
 ·rw[if_pos h0]
  by_cases h6:n<6
  ·rw[if_pos h6,qk]
   refine⟨h0,h6,?_⟩
   rw[zaF (hc.vcell (n:=n.toNat) (j:=0) (by omega) (by decide) (by omega))]
   have e:decide (thereV C.vm n)=(C.vm n.toNat).on:=by
    cases hv:(C.vm n.toNat).on with
    | true=>exact decide_eq_true ⟨h0,h6,hv⟩
    | false=>exact decide_eq_false fun h=>by rw[h.2.2] at hv;cases hv
   rw[e] at hQ;exact hQ
  ·rw[if_neg h6]
   rw[decide_eq_false (fun h=>h6 h.2.1)] at hQ;exact hQ
 ·rw[if_neg h0]
  rw[decide_eq_false (fun h=>h0 h.1)] at hQ;exact hQ
theorem jF (hc:CrabA S ρ h A C) {n k:Int} {Q:Pt→Mem→Prop}
  (hY:thereV C.vm n→0≤k→k<(C.vm n.toNat).seats.length→∀ c,(A.x n.toNat).ss.p=some (c,0)→Q (some (c,0+k.toNat*26)) S)
  (hN:¬(thereV C.vm n∧0≤k∧k<(C.vm n.toNat).seats.length)→Q none S):qN S (some (A.t,0)) n k Q:=by
 apply zbj
 unfold wB
 simp only[jn]
 refine xY hc ?_
 by_cases ht:thereV C.vm n
 ·rw[decide_eq_true ht,if_pos rfl]
  have hn6:n.toNat<6:=by have:=ht.1;have:=ht.2.1;omega
  by_cases hk:k<0
  ·rw[if_pos hk];exact hN fun h=>by omega
  ·have hv:=hc.vs n.toNat hn6
   have hlen:=hv.se.n (by decide) (zbu hv.r)
   have hcell:S.cell A.t (0+2+n.toNat*12+1)=some (eL (A.x n.toNat).ss):=hc.vcell (n:=n.toNat) (j:=1) hn6 (by decide) (by omega)
   rw[if_neg hk,qk]
   refine⟨ht.1,ht.2.1,?_⟩
   rw[jW hcell]
   by_cases hl:((A.x n.toNat).ss.n:Int)≤k
   ·rw[if_pos hl];exact hN fun h=>by omega
   ·rw[if_neg hl,qk]
    refine⟨ht.1,ht.2.1,?_⟩
    obtain⟨c,e1,e2⟩:=hv.se.sl (by rw[zbu hv.r];omega)
    rw[jW hcell,e1,zah]
    exact⟨by omega,by omega,hY ht (by omega) (by omega) c e2⟩
 ·rw[decide_eq_false ht,if_neg (by decide)]
  exact hN fun h=>ht h.1
theorem zjQ (hc:CrabA S ρ h A C) {n:Nat} (hn:n<6) {Q:Int→Mem→Prop} (hQ:Q (IntKind.u64.wrap (C.now-C.late n)) S):vv S (some (A.t,0)) n Q:=by
 apply zbi
 unfold wA
 rw[qk,zY hc.tnow]
 refine⟨by omega,by omega,?_⟩
 rw[Int.toNat_natCast,zY (hc.vcell (n:=n) (j:=5) hn (by decide) (by omega))]
 exact hQ
theorem zmC:∀ f:Nat→Bool,∀ k,k<6→bI f/2 ^ k%2=(f k).toNat:=by
 intro f k hk
 have b (i:Nat):(f i).toNat≤1:=Bool.toNat_le _
 have:=b 0;have:=b 1;have:=b 2;have:=b 3;have:=b 4;have:=b 5
 unfold bI
 match k,hk with
 | 0,_=>omega
 | 1,_=>omega
 | 2,_=>omega
 | 3,_=>omega
 | 4,_=>omega
 | 5,_=>omega
theorem zoK (f:Nat→Bool):bI f<64:=by
 have b (i:Nat):(f i).toNat≤1:=Bool.toNat_le _
 have:=b 0;have:=b 1;have:=b 2;have:=b 3;have:=b 4;have:=b 5
 unfold bI;omega
theorem zmp (f:Nat→Bool) {k:Nat} (hk:k<6):decide (iand .u32 (ishr .u32 (bI f:Int) (k:Int)) 1=1)=f k:=by
 have h1:=zmC f k hk
 have h2:=zoK f
 have key:∀ m:Fin 64,∀ j:Fin 6,decide (iand .u32 (ishr .u32 ((m.1:Nat):Int) ((j.1:Nat):Int)) 1=1)=decide (m.1/2 ^ j.1%2=1):=by decide
 have:=key ⟨bI f,h2⟩ ⟨k,hk⟩
 rw[this,h1]
 cases f k <;> rfl
theorem zhD (hc:CrabA S ρ h A C) {a b:Int} {Q:Bool→Mem→Prop} (hQ:Q (decide (thereV C.vm a) && (decide (thereV C.vm b) && (C.vm a.toNat).bells b.toNat)) S):we S (some (A.t,0)) a b Q:=by
 apply fY
 unfold xz
 refine xY hc ?_
 by_cases ha:thereV C.vm a
 ·rw[decide_eq_true ha] at hQ ⊢
  rw[if_pos rfl]
  refine xY hc ?_
  by_cases hb:thereV C.vm b
  ·rw[decide_eq_true hb] at hQ ⊢
   rw[if_pos rfl,qk]
   refine⟨ha.1,ha.2.1,?_⟩
   have h6:a.toNat<6:=by have:=ha.1;have:=ha.2.1;omega
   rw[zY (hc.vcell (n:=a.toNat) (j:=11) h6 (by decide) (by omega))]
   refine⟨hb.1,?_⟩
   have e:b=((b.toNat:Nat):Int):=by have:=hb.1;omega
   have hb6:b.toNat<6:=by have:=hb.1;have:=hb.2.1;omega
   have:=zmp (C.vm a.toNat).bells hb6
   rw[←e] at this
   rw[this]
   simpa using hQ
  ·rw[decide_eq_false hb] at hQ ⊢
   rw[if_neg (by decide)]
   simpa using hQ
 ·rw[decide_eq_false ha] at hQ ⊢
  rw[if_neg (by decide)]
  simpa using hQ
theorem fb (e:Evt):(evL e).length=4:=rfl
theorem zjR (hc:CrabA S ρ h A C) {n:Nat} (hn:n<6) (hl:(C.ev n).length≤1000000000) {e:Evt} {Q:Mem→Prop}
  (hQ:∀ S' ρ' A',Mv S ρ S' ρ' (fun r=>r=0∨(20≤r∧r<26))→CrabA S' ρ' h A' { C with ev:=upd C.ev n (C.ev n++[e]) }→A'.t=A.t→A'.x=A.x→Q S'):yN S (some (h,0)) n (evL e) Q:=by
 apply zcV
 unfold vI
 refine⟨rfl,?_⟩
 have hrow:=hc.ev n hn
 have hsn:=hrow.n (by decide) (xF fb _)
 rw[qk]
 refine⟨by omega,by omega,?_⟩
 rw[Int.toNat_natCast,jW (hc.cev hn (by omega))]
 refine⟨rfl,?_⟩
 refine zjC (R:=fun r=>r=0∨(20≤r∧r<26)) (Mv.refl hc.rg) (by omega) hrow rfl (by decide) rfl (by omega) fun s' S1 ρ1 m1 m1' h1 _=>?_
 refine⟨by omega,by omega,?_⟩
 refine (hc.hd.keep m1' (by omega)).pt m1.rg (vs:=[eL s']) (5+n) rfl (by rw[fa];simp;omega) (by omega) fun S2 m2 h2=>?_
 rw[zkT hn] at h2
 have m2':Mv S1 ρ1 S2 ρ1 (fun r=>r=0∨(20≤r∧r<26)):=m2.mono fun r hr=>.inl hr
 refine hQ S2 ρ1 _ (m1.trans m2') (hc.setEv (m1.trans m2') (fun r hr=>hr) h2 fun i hi=>?_) rfl rfl
 by_cases e2:i=n
 ·subst e2
  rw[zq,zq,List.flatMap_append]
  have e3:[e].flatMap evL=evL e:=by simp
  rw[e3]
  exact h1.keep m2 (by omega)
 ·rw[zo e2,zo e2]
  exact ((hc.ev i hi).keep m1' (by omega)).keep m2 (by omega)
variable {W:Wd} {φ:Nat→Nat→Nat}
def busL (h n:Nat):List Value:=[.pointer (some ⟨h,0,none⟩),.int .i64 n]
theorem bus0 {h n:Nat}:nthL (busL h n) 0=some (eP (some (h,0))):=rfl
theorem bus1 {h n:Nat}:nthL (busL h n) 1=some (.int .i64 n):=rfl
theorem zgP (hc:CrabA S ρ h A C) (hr:Rel C W φ) {n:Nat} (hn:n<6) (hon:(W.vm n).on=true) {page:Int} {Q:List Value→Int→Mem→Prop}
  (hY:∀ f w S' ρ' A' l,C.walk n page=some (f,w)→Mv S ρ S' ρ' (fun r=>r=0∨r=6)→CrabA S' ρ' h A' { C with cache:=l }→Rel { C with cache:=l } W φ→A'.m=A.m→A'.t=A.t→A'.x=A.x→Q (enL f w) 0 S')
  (hN:∀ e S',C.walk n page=none→e≠0→Keeps S S' []→Q noEn e S'):ka S (busL h n) page Q:=by
 have hcs:=hr.csize
 apply zdw
 unfold kN
 refine⟨rfl,?_⟩
 refine qc (fun J=>lookC C.cache n page=none→J noEn S) ?_ fun J hJ=>?_
 ·intro hl
  refine⟨rfl,?_⟩
  rw[qP bus0,qk,qP hc.c3,zY bus1,qk]
  refine⟨by omega,by omega,?_⟩
  rw[Int.toNat_natCast,jo (hc.vtab hn (by omega)),qP bus0,qk,qP hc.c0]
  have hv:=hc.vs n hn
  refine walkD hc.st hv.fr.row (fun f b S1 hw hk=>?_) fun e S1 hw he hk=>?_
  ·have hc1:=hc.keeps hk
   refine⟨hc1.c3,rfl,?_⟩
   rw[if_pos rfl,qP bus0,qk,zY bus1]
   refine zkn (r:=⟨n,page,f,b⟩) hc1.cap hc1.rg (by omega) fun S2 ρ2 m2 h2=>?_
   obtain⟨cs,h3,h4⟩:=h2.ex
   refine⟨rfl,hY f b S2 ρ2 _ _ hw ((Mv.keeps hc.rg hk).trans m2) (hc1.setCache m2 h3 h4) (hr.put hon hw) rfl rfl rfl⟩
  ·have hc1:=hc.keeps hk
   refine⟨hc1.c3,rfl,?_⟩
   rw[if_neg he]
   exact⟨rfl,hN e S1 hw he hk⟩
 ·rw[qP bus0,qk,zY bus1]
  refine zkI hc.cap (by omega) (fun f b hl=>?_) fun hl=>?_
  ·rw[if_pos rfl]
   exact⟨rfl,rfl,hY f b S ρ A C.cache (hr.find hon hl) (Mv.refl hc.rg) hc hr rfl rfl rfl⟩
  ·rw[if_neg (by decide)]
   exact⟨rfl,hJ hl⟩
end
end Go.Proofs.YtabdpmnhjlmnlaaGreatDoor
end
section
namespace Go.Cr
open Go Go.Pt
variable {W:Wd}
theorem zke {d:Nat→List Int} {n p:Nat}:((W.setDat d).own n p).isSome=(W.own n p).isSome:=by
 show ((W.own n p).map _).isSome=_
 cases W.own n p <;> rfl
theorem zbG {n p:Nat} (hp:p<32):(W.gm n).map p=(W.where_ n p).map fun q=>(32*q.1+q.2.1,q.2.2):=by
 show (if 32≤p then none else _)=_
 rw[if_neg (by omega)]
theorem zgM {n m q:Nat} (hq:q<32):(W.gm n).dat (32*m+q)=(W.own m q).getD []:=by
 show (W.own ((32*m+q)/32) ((32*m+q)%32)).getD []=_
 rw[show (32*m+q)/32=m by omega,show (32*m+q)%32=q by omega]
theorem WOk.gm (h:WOk W) (n:Nat):(W.gm n).Ok:=by
 have key:∀ p f w,(W.gm n).map p=some (f,w)→∃ l,(W.gm n).dat f=l∧l.length=256∧Byt l:=by
  intro p f w hm
  by_cases hp:p<32
  ·rw[zbG hp] at hm
   cases hq:W.where_ n p with
   | none=>rw[hq] at hm;cases hm
   | some q=>
    rw[hq] at hm
    simp only[Option.map_some,Option.some.injEq,Prod.mk.injEq] at hm
    obtain⟨l,hl⟩:=h.where_own hq
    have h2:=h.pg _ _ l hl
    refine⟨l,?_,h2.2.2⟩
    rw[←hm.1,zgM h2.2.1,hl];rfl
  ·have:(W.gm n).map p=none:=by show (if 32≤p then none else _)=none;rw[if_pos (by omega)]
   rw[this] at hm;cases hm
 refine⟨fun p hp=>by show (if 32≤p then none else _)=none;rw[if_pos hp],fun p f w hm=>?_,fun p f w hm=>?_⟩
 ·obtain⟨l,h1,h2,_⟩:=key p f w hm;rw[h1];exact h2
 ·obtain⟨l,h1,_,h2⟩:=key p f w hm;rw[h1];exact h2
theorem znx {n m q:Nat} {l l':List Int} (ho:W.own m q=some l) (hq:q<32) (hW:∀ m q l,W.own m q=some l→q<32) {off:Nat} {v:List Int} (hl:l'=spB l off v):(W.setO m q (some l')).gm n=wrB (W.gm n) (32*m+q) off v:=by
 have hd:(W.gm n).dat (32*m+q)=l:=by rw[zgM hq,ho];rfl
 have hmap:((W.setO m q (some l')).gm n).map=(W.gm n).map:=by
  funext p
  show (if 32≤p then none else ((W.setO m q (some l')).where_ n p).map _)=(if 32≤p then none else (W.where_ n p).map _)
  rw[zeH ho]
 have hdat:((W.setO m q (some l')).gm n).dat=(wrB (W.gm n) (32*m+q) off v).dat:=by
  funext x
  show (upd W.own m (upd (W.own m) q (some l')) (x/32) (x%32)).getD []=if x=32*m+q then _ else (W.own (x/32) (x%32)).getD []
  by_cases e:x=32*m+q
  ·rw[if_pos e]
   subst e
   rw[show (32*m+q)/32=m by omega,show (32*m+q)%32=q by omega,zq,zq,hd,hl];rfl
  ·rw[if_neg e]
   by_cases e1:x/32=m
   ·rw[e1,zq,zo (by omega)]
   ·rw[zo e1]
 show GM.mk _ _=GM.mk _ _
 congr 1
theorem zic {d:Nat→List Int} {m q:Nat} {l l':List Int} (hW:∀ m q l,W.own m q=some l→q<32) (ho:W.own m q=some l):(W.setDat d).setO m q (some l')=W.setDat (upd d (32*m+q) l'):=by
 have e:upd (W.setDat d).own m (upd ((W.setDat d).own m) q (some l'))=(W.setDat (upd d (32*m+q) l')).own:=by
  funext n p
  show upd (W.setDat d).own m (upd ((W.setDat d).own m) q (some l')) n p=(W.own n p).map fun _=>upd d (32*m+q) l' (32*n+p)
  by_cases e1:n=m
  ·subst e1
   rw[zq]
   by_cases e2:p=q
   ·subst e2;rw[zq,ho,Option.map_some,zq]
   ·rw[zo e2]
    show (W.own n p).map _=_
    rw[zo (by omega)]
  ·rw[zo e1]
   show (W.own n p).map _=_
   cases hp:W.own n p with
   | none=>rfl
   | some l2=>
    have h1:=hW n p l2 hp
    have h2:=hW m q l ho
    rw[Option.map_some,Option.map_some,zo (by omega)]
 show ({ W.setDat d with own:=_ }:Wd)=_
 rw[e];rfl
theorem zkf {d:Nat→List Int} {n:Nat} (hW:∀ m q l,W.own m q=some l→q<32):W.setDat ((W.setDat d).gm n).dat=W.setDat d:=by
 have e:(W.setDat ((W.setDat d).gm n).dat).own=(W.setDat d).own:=by
  funext m q
  show (W.own m q).map _=(W.own m q).map _
  cases ho:W.own m q with
  | none=>rfl
  | some l=>
   have h1:=hW m q l ho
   rw[Option.map_some,Option.map_some,zgM h1]
   show some (((W.own m q).map _).getD [])=_
   rw[ho];rfl
 exact congrArg (fun o=>({ W with own:=o }:Wd)) e
theorem xK {n:Nat} (hW:∀ m q l,W.own m q=some l→q<32):W.setDat (W.gm n).dat=W:=by
 have e:(W.setDat (W.gm n).dat).own=W.own:=by
  funext m q
  show (W.own m q).map _=W.own m q
  cases ho:W.own m q with
  | none=>rfl
  | some l=>
   rw[Option.map_some,zgM (hW m q l ho),ho];rfl
 exact congrArg (fun o=>({ W with own:=o }:Wd)) e
theorem By.part {S:Mem} {p:Sl} {xs:List Int} (h:By S p xs) (h0:0<xs.length):∃ b o,p.p=some (b,o)∧S.part b o (xs.length*1)=some (bL xs):=by
 have hl:=h.len
 rcases h.lie with h1 | ⟨b,o,h1,h2⟩
 ·omega
 ·refine⟨b,o,h1,?_⟩
  obtain⟨k,hk,_⟩:=zfe (h2 0 h0)
  have hc:∀ i (hi:i<xs.length),nthL k.cs (o+i)=some (.int .u8 xs[i]):=fun i hi=>by have:=h2 i hi;rwa [qA hk] at this
  have hlast:=wR (hc (xs.length-1) (by omega))
  rw[yu hk,qJ (by omega)]
  congr 1
  apply List.ext_getElem?
  intro i
  rw[List.getElem?_take,List.getElem?_drop,Nat.mul_one]
  by_cases hi:i<xs.length
  ·rw[if_pos hi]
   have:=hc i hi
   rw[qb] at this
   rw[this]
   simp[bL,List.getElem?_eq_getElem hi]
  ·rw[if_neg hi,List.getElem?_eq_none (by simp[bL];omega)]
end Go.Cr
namespace Go.Proofs.YtabdpmnhjlmnlaaGreatDoor
open Go Go.Pt Go.Cr Go.Hp
section
variable {S S':Mem} {ρ ρ':Rho} {h:Nat} {A:Ad} {C:Cst} {W:Wd} {φ:Nat→Nat→Nat}
theorem zcI (hc:CrabA S ρ h A C) (hr:Rel C W φ) {n:Nat} (hn:n<6) (hon:(W.vm n).on=true) {page:Int} {off k:Nat} (hk:0<k) (ho:off+k≤256) {Q:Sl→Int→Mem→Prop}
  (hY:∀ m q w l t S' ρ' A' ca,0≤page→page≤31→W.where_ n page.toNat=some (m,q,w)→W.own m q=some l→Mv S ρ S' ρ' (fun r=>r=0∨r=6)→CrabA S' ρ' h A' { C with cache:=ca }→Rel { C with cache:=ca } W φ→A'.t=A.t→A'.x=A.x→Row S' 1 t (bL (rdB l off k))→(∀ b o,t.p=some (b,o)→S b=none∧ρ' b=none)→Q t 0 S')
  (hN:∀ e S',(page<0∨31<page∨W.where_ n page.toNat=none)→e≠0→Keeps S S' []→Q ⟨none,0,0⟩ e S'):gc S (busL h n) page off k Q:=by
 apply zdy
 unfold kP
 refine⟨rfl,?_⟩
 refine zgP hc hr hn hon (fun f w S1 ρ1 A1 ca hw m1 hc1 hr1 hm ht hx=>?_) fun e S1 hw he hk1=>?_
 ·refine⟨rfl,?_⟩
  simp only[jn]
  obtain⟨m,q,l,h0,h1,h2,h3,h4⟩:=hr.walk_some hon hw
  have hp:=hr.pg m q l h3
  rw[if_neg (by decide),qP bus0,qk,qP hc1.c0,zY (show nthL (enL f w) 1=some (.int .i64 f) from rfl)]
  refine readD hc1.st (by rw[h4];exact hp.1) hk ho fun t S2 hk2 hrow hfr=>?_
  have hd:C.dat f=l:=by rw[h4];exact hp.2.2
  have hrow':Row S2 1 t (bL (rdB (C.dat f) off k)):=hrow
  rw[hd] at hrow'
  refine hY m q w l t S2 ρ1 A1 ca h0 h1 h2 h3 (m1.trans (Mv.keeps hc1.rg hk2)) (hc1.keeps hk2) hr1 ht hx hrow' fun b o hb=>?_
  have hn1:=hfr b o hb
  refine⟨?_,?_⟩
  ·cases hs:S b with
   | none=>rfl
   | some kk=>have:=m1.al b (by rw[hs];simp);exact absurd hn1 this
  ·cases hs:ρ1 b with
   | none=>rfl
   | some r=>exact absurd hn1 (m1.rg b r hs)
 ·refine⟨rfl,?_⟩
  simp only[jn]
  rw[if_pos he]
  exact hN e S1 (hr.walk_none hon hw) he hk1
theorem zcH (hc:CrabA S ρ h A C) (hr:Rel C W φ) {n:Nat} (hn:n<6) (hon:(W.vm n).on=true) {page:Int} {off:Nat} {p:Sl} {v:List Int} (hp:∃ b o,p.p=some (b,o)∧S.part b o (v.length*1)=some (bL v)∧(∀ r,ρ b=some r→r≠0∧r≠6)) (hpl:v.length=p.n) (hv0:v≠[]) (ho:off+v.length≤256) (hb:Byt v) {Q:Int→Mem→Prop}
  (hY:∀ m q l S' ρ' A' ca,0≤page→page≤31→W.where_ n page.toNat=some (m,q,true)→W.own m q=some l→Mv S ρ S' ρ' (fun r=>r=0∨r=6∨r=2)→CrabA S' ρ' h A' { C with cache:=ca,dat:=upd C.dat (φ m q) (spB l off v) }→Rel { C with cache:=ca,dat:=upd C.dat (φ m q) (spB l off v) } (W.setO m q (some (spB l off v))) φ→A'.t=A.t→A'.x=A.x→Q 0 S')
  (hN:∀ e S' ρ' A' ca,(page<0∨31<page∨W.where_ n page.toNat=none∨∃ m q,W.where_ n page.toNat=some (m,q,false))→e≠0→Mv S ρ S' ρ' (fun r=>r=0∨r=6∨r=2)→CrabA S' ρ' h A' { C with cache:=ca }→Rel { C with cache:=ca } W φ→A'.t=A.t→A'.x=A.x→Q e S'):gb S (busL h n) page off p Q:=by
 apply zdx
 unfold kO
 refine⟨rfl,?_⟩
 refine zgP hc hr hn hon (fun f w S1 ρ1 A1 ca hw m1 hc1 hr1 hm ht hx=>?_) fun e S1 hw he hk1=>?_
 ·refine⟨rfl,?_⟩
  simp only[jn]
  obtain⟨m,q,l,h0,h1,h2,h3,h4⟩:=hr.walk_some hon hw
  have hpg:=hr.pg m q l h3
  have m1':Mv S ρ S1 ρ1 (fun r=>r=0∨r=6∨r=2):=m1.mono fun r hr'=>by omega
  rw[if_neg (by decide),zaF (show nthL (enL f w) 2=some (.bool w) from rfl)]
  cases w with
  | true=>
   rw[if_pos rfl,qP bus0,qk,qP hc1.c0,zY (show nthL (enL f true) 1=some (.int .i64 f) from rfl)]
   obtain⟨b,o,hb1,hb2,hb3⟩:=hp
   have hpart:S1.part b o (v.length*1)=some (bL v):=by
    obtain⟨k,e1,e2⟩:=zeL hb2
    have:S1 b=S b:=m1.kp b (by rw[e1];simp) fun r e=>by have:=hb3 r e;omega
    rw[yu (by rw[this];exact e1)];exact e2
   refine writeD hc1.st hc1.rg (by rw[h4];exact hpg.1) ⟨b,o,hb1,hpart⟩ hpl hv0 ho hb fun S2 m2 hs2=>?_
   have hd:C.dat f=l:=by rw[h4];exact hpg.2.2
   have hwk:=hr.wk.pg m q l h3
   have e:wr C.dat f off v=upd C.dat (φ m q) (spB l off v):=by unfold wr;rw[hd,h4]
   have hs2':StoreD S2 ρ1 A1.m C.N (upd C.dat (φ m q) (spB l off v)):=by rw[←e];exact hs2
   refine hY m q l S2 ρ1 A1 ca h0 h1 h2 h3 (m1'.trans (m2.mono fun r hr'=>by omega)) (hc1.setStore m2 hs2') (hr1.setO h3 ⟨by rw[zjZ (by rw[hwk.2.2.1];exact ho)];exact hwk.2.2.1,zka hwk.2.2.2 hb⟩) ht hx
  | false=>
   rw[if_neg (by decide)]
   exact hN 11 S1 ρ1 A1 ca (.inr (.inr (.inr ⟨m,q,h2⟩))) (by decide) m1' hc1 hr1 ht hx
 ·refine⟨rfl,?_⟩
  simp only[jn]
  rw[if_pos he]
  refine hN e S1 ρ A C.cache ?_ he (Mv.keeps hc.rg hk1) (hc.keeps hk1) hr rfl rfl
  rcases hr.walk_none hon hw with e | e | e
  ·exact .inl e
  ·exact .inr (.inl e)
  ·exact .inr (.inr (.inl e))
def BI (h n:Nat) (C:Cst) (W:Wd) (φ:Nat→Nat→Nat) (t:Nat) (x:Nat→Vx) (S:Mem) (ρ:Rho) (g:GM):Prop:=
 ∃ A d ca dt,CrabA S ρ h A { C with cache:=ca,dat:=dt }∧Rel { C with cache:=ca,dat:=dt } (W.setDat d) φ∧g=(W.setDat d).gm n∧A.t=t∧A.x=x
abbrev R026 (r:Nat):Prop:=r=0∨r=6∨r=2
theorem zml {n:Nat} (hn:n<6) (hon:(W.vm n).on=true) (hwk:WOk W) (t:Nat) (x:Nat→Vx):Bus (.iface 173 (valL (busL h n))) (BI h n C W φ t x) R026 where
 ifc:=⟨_,_,rfl⟩
 rg:=fun⟨A,d,ca,dt,hc,_⟩=>hc.rg
 ok:=fun⟨A,d,ca,dt,hc,hr,hg,_⟩=>by rw[hg];exact hr.wk.gm n
 gl:=fun⟨A,d,ca,dt,hc,_⟩=>hc.gl
 kp:=fun⟨A,d,ca,dt,hc,hr,hg,ht,hx⟩ hk=>⟨A,d,ca,dt,hc.keeps hk,hr,hg,ht,hx⟩
 load:=by
  rintro S ρ g page off k Q ⟨A,d,ca,dt,hc,hr,rfl,ht,hx⟩ hp hk ho hQ
  have hon':((W.setDat d).vm n).on=true:=hon
  refine zpg (Tr.mono (zcI hc hr hn hon' hk ho (Q:=fun a b S'=>Q (.tuple #[eL a,.int .i64 b]) S') (fun m q w l t' S' ρ' A' ca' h0 h1 h2 h3 m1 hc1 hr1 ht1 hx1 hrow hfr=>?_) fun e S' hbad he hk1=>?_) ?_)
  ·rw[Int.toNat_natCast] at h2
   have hl:=hr.wk.pg m q l h3
   refine hQ S' ρ' t' 0 (m1.mono fun r hr'=>by unfold R026;omega) ⟨A',d,ca',dt,hc1,hr1,rfl,by rw[ht1,ht],by rw[hx1,hx]⟩ ?_
   have e:ldB ((W.setDat d).gm n) page off k=some (rdB l off k):=by
    unfold ldB
    rw[zbG (by omega),h2,Option.map_some,Option.map_some,zgM hl.2.1,h3];rfl
   rw[e]
   exact⟨rfl,zmA hrow fun x hx'=>hl.2.2.2 x (List.mem_of_mem_drop (List.mem_of_mem_take hx'))⟩
  ·refine hQ S' ρ _ e (Mv.keeps hc.rg hk1) ⟨A,d,ca,dt,hc.keeps hk1,hr,rfl,ht,hx⟩ ?_
   have e2:ldB ((W.setDat d).gm n) page off k=none:=by
    unfold ldB
    rw[zbG (by omega)]
    rw[Int.toNat_natCast] at hbad
    rcases hbad with h1 | h1 | h1
    ·omega
    ·omega
    ·rw[h1];rfl
   rw[e2]
   exact⟨he,rfl,Nat.le_refl _,fun _ h=>by simp at h,.inl rfl⟩
  ·rintro v S' ⟨a,b,rfl,h⟩;exact h
 save:=by
  rintro S ρ g page off sl l Q ⟨A,d,ca,dt,hc,hr,rfl,ht,hx⟩ hp ho hby hfr hl8 hQ
  have hon':((W.setDat d).vm n).on=true:=hon
  obtain⟨b,o,hb1,hb2⟩:=hby.part (by omega)
  have hW:=fun m q l h=>((hwk.pg m q l h).2.1:q<32)
  refine zpg (Tr.mono (zcH hc hr hn hon' (v:=l) (off:=off) ⟨b,o,hb1,hb2,fun r e=>by rw[hfr b o hb1] at e;cases e⟩ hby.len (fun e=>by rw[e] at hl8;simp at hl8) (by omega) hby.bd (Q:=fun b S'=>Q (.int .i64 b) S') (fun m q l2 S' ρ' A' ca' h0 h1 h2 h3 m1 hc1 hr1 ht1 hx1=>?_) fun e S' ρ' A' ca' hbad he m1 hc1 hr1 ht1 hx1=>?_) ?_)
  ·rw[Int.toNat_natCast] at h2
   have hl:=hr.wk.pg m q l2 h3
   have hW':∀ m q l,(W.setDat d).own m q=some l→q<32:=fun m q l h=>(hr.wk.pg m q l h).2.1
   obtain⟨l0,hl0⟩:∃ l0,W.own m q=some l0:=by
    have h4:((W.setDat d).own m q).isSome=true:=by rw[h3];rfl
    rw[zke] at h4
    exact Option.isSome_iff_exists.1 h4
   rw[zic hW hl0] at hr1
   refine hQ S' ρ' _ 0 (m1.mono fun r hr'=>hr') ⟨A',_,ca',_,hc1,hr1,rfl,by rw[ht1,ht],by rw[hx1,hx]⟩ ?_
   rw[zbG (by omega),h2]
   refine⟨rfl,?_⟩
   rw[←zic hW hl0]
   exact znx h3 hl.2.1 hW' rfl
  ·refine hQ S' ρ' _ e (m1.mono fun r hr'=>hr') ⟨A',d,ca',dt,hc1,hr1,rfl,by rw[ht1,ht],by rw[hx1,hx]⟩ ?_
   rw[zbG (by omega)]
   rw[Int.toNat_natCast] at hbad
   rcases hbad with h1 | h1 | h1 | ⟨m,q,h1⟩
   ·omega
   ·omega
   ·rw[h1];exact⟨he,rfl⟩
   ·rw[h1];exact⟨he,rfl⟩
  ·rintro v S' ⟨r,rfl,h⟩;exact h
end
end Go.Proofs.YtabdpmnhjlmnlaaGreatDoor
end
section
namespace Go.Proofs.YtabdpmnhjlmnlaaGreatDoor
open Go Go.Pt
attribute [local irreducible] Code.wp Back bodyPost wpList FR WL WC WQ WA AW Tr Yc HC AllC
set_option maxRecDepth 20000
set_option maxHeartbeats 4000000
set_option linter.unusedVariables false
def xT (S:Mem) (b:List Value) (n:Int) (vm:Int) (atx:Int) (Q:List Value→Int→Mem→Prop):Prop:=
 b.length=96 ∧
 yh S b n fun t t_1 Sx=>
 t.all (·.oneCell')=true ∧
 jn (fun (v:List Value) (Sx_1:Mem)=>
 v.length=96 ∧
 0≤n∧n<16 ∧
 (spl b (0+n.toNat*6+5) ([.int .i64 atx])).all (·.oneCell')=true ∧
 Q (spl b (0+n.toNat*6+5) ([.int .i64 atx])) 0 Sx_1) fun Jx=>
 if t_1≠0 then
 b.all (·.oneCell')=true ∧
 Q b t_1 Sx
 else
 gI (nthL t 3) .i64 fun t_2=>
 if t_2≠vm then
 b.all (·.oneCell')=true ∧
 Q b 7 Sx
 else
 gI (nthL t 5) .i64 fun t_3=>
 if 0≤t_3 then
 b.all (·.oneCell')=true ∧
 Q b 8 Sx
 else
 kw Sx vm atx fun t_4 Sx_2=>
 if t_4=true then
 Jx z72 Sx_2
 else
 b.all (·.oneCell')=true ∧
 Q b 1 Sx_2
theorem zau {S:Mem} {b:List Value} {n:Int} {vm:Int} {atx:Int} {Q:List Value→Int→Mem→Prop} (H:xT S b n vm atx Q):wS S b n vm atx Q:=by
 unfold xT at H
 exact Tr.intro Tryz.func222 E Tryz.ntmps222 E fun w0=>an H fun hb H1=>csr<|qM E E E fun b_1=>by refine zL E fun b_2=>?_;exact gv E E<|nxr<|by refine s_v E (zT E hb) (zE (k:=96) 0 E (zk hb)) ?_;exact mv E E<|qr E E H1 fun rv Sx H2=>by obtain⟨t,t_1,rfl,ht,H3⟩:=H2;exact mv E E<|s_p E (zg E E)<|s_p E (zg E E)<|by refine zL E fun b_3=>?_;exact an H3 fun c H4=>zp 2 E E E E E ht E c<|gv E E<|nx<|zn H4 (fun (J:List Value→Mem→Prop) (z:List Value) S=>J z S) (fun z=>⟨45,[(1,.int .i64 n),(3,.int .i64 atx),(4,.pointer (some ⟨b_1,0,none⟩)),(8,.pointer (some ⟨b_2,0,none⟩))]⟩) (fun z=>[⟨b_1,72,b⟩,⟨b_2,72,z⟩]) (fun v Sx_1 H5=>an H5 fun hv H6=>csr<|mv E E<|mv E E<|an2 H6 fun c_1 c_2 H7=>s_p E (qv E E c_1 c_2 E)<|s_p E (zv E E)<|qT (sz:=1) (vs:=[.int .i64 atx]) 0 E E E E E E (wa hb (by omega)) E<|nxr<|by refine s_v E (zT E (qR hb (by have:=True.intro;(try simp only[List.length_cons,List.length_nil]);omega))) (zE (k:=96) 0 E (zk (qR hb (by have:=True.intro;(try simp only[List.length_cons,List.length_nil]);omega)))) ?_;exact an H7 fun c_3 H8=>zp 1 E E E E E (qR hb (by have:=True.intro;(try simp only[List.length_cons,List.length_nil]);omega)) hv c_3<|gv E E<|nx<|zi<|zh Tryz.results222 (zA E (zE (k:=96) 1 E (zk (qR hb (by have:=True.intro;(try simp only[List.length_cons,List.length_nil]);omega)))) (qR hb (by have:=True.intro;(try simp only[List.length_cons,List.length_nil]);omega)) (zd E ze)) ⟨_,_,E,qR hb (by have:=True.intro;(try simp only[List.length_cons,List.length_nil]);omega),H8⟩) (fun Jx hJx H9=>zw<|csr<|mv E E<|iteK H9 (fun c_4 H10=>s_p E (yT (zQ E E) c_4)<|gv E E<|nx<|c_t E E<|csr<|by refine s_v E (zT E hb) (zE (k:=96) 0 E (zk hb)) ?_;exact mv E E<|an H10 fun c_5 H11=>zp 1 E E E E E hb yX c_5<|gv E E<|nx<|zi<|zj<|zb<|zh Tryz.results222 (zA E (zE (k:=96) 1 E (zk hb)) hb (zd E ze)) ⟨_,_,E,hb,H11⟩) fun c_4 H10=>s_p E (yF (zQ E E) c_4)<|gv E E<|nx<|c_f E E<|csr<|s_p E (zv E E)<|gx H10 fun t_2 ht_2 H12=>s_v E (zz E) (zW 2 E ht_2)<|mv E E<|iteK H12 (fun c_6 H13=>s_p E (yT (zQ E E) c_6)<|gv E E<|nx<|c_t E E<|csr<|by refine s_v E (zT E hb) (zE (k:=96) 0 E (zk hb)) ?_;exact an H13 fun c_7 H14=>zp 1 E E E E E hb yX c_7<|gv E E<|nx<|zi<|zj<|zb<|zh Tryz.results222 (zA E (zE (k:=96) 1 E (zk hb)) hb (zd E ze)) ⟨_,_,E,hb,H14⟩) fun c_6 H13=>s_p E (yF (zQ E E) c_6)<|gv E E<|nx<|c_f E E<|csr<|s_p E (zv E E)<|gx H13 fun t_3 ht_3 H15=>s_v E (zz E) (zW 2 E ht_3)<|iteK H15 (fun c_8 H16=>s_p E (yT (qj E E) c_8)<|gv E E<|nx<|c_t E E<|csr<|by refine s_v E (zT E hb) (zE (k:=96) 0 E (zk hb)) ?_;exact an H16 fun c_9 H17=>zp 1 E E E E E hb yX c_9<|gv E E<|nx<|zi<|zj<|zb<|zh Tryz.results222 (zA E (zE (k:=96) 1 E (zk hb)) hb (zd E ze)) ⟨_,_,E,hb,H17⟩) fun c_8 H16=>s_p E (yF (qj E E) c_8)<|gv E E<|nx<|c_f E E<|csr<|mv E E<|mv E E<|qC E E H16 fun t_4 Sx_2 H18=>by have H19:=wM H18;rcases H19 with ⟨rfl,H20⟩ | ⟨rfl,H20⟩;exact (s_p E (yB (ql E) E)<|gv E E<|nx<|cfs E E<|zU<|hJx z72 _ _ _ _ [0,0] H20 E ⟨E,E,E,E,True.intro⟩ E);exact (s_p E (yB (ql E) E)<|gv E E<|nx<|c_t E E<|csr<|by refine s_v E (zT E hb) (zE (k:=96) 0 E (zk hb)) ?_;exact an H20 fun c_10 H21=>zp 1 E E E E E hb yX c_10<|gv E E<|nx<|zi<|zj<|zb<|zh Tryz.results222 (zA E (zE (k:=96) 1 E (zk hb)) hb (zd E ze)) ⟨_,_,E,hb,H21⟩))
def kL (S:Mem) (b:List Value) (vm:Int) (page:Int) (Q:Int→Mem→Prop):Prop:=
 b.length=96 ∧
 jn (fun (Sx:Mem)=>
 Q (-1) Sx) fun Jx=>
 lp (fun Xx (t:Int) (Sx_1:Mem)=>
 if t<16 then
 0≤t∧t<16 ∧
 gA (lpart b (t.toNat*6) 6) fun t_1=>
 t_1.all (·.oneCell')=true ∧
 gB (nthL t_1 0) fun t_2=>
 if t_2=true then
 gI (nthL t_1 3) .i64 fun t_3=>
 if t_3=vm then
 gI (nthL t_1 5) .i64 fun t_4=>
 if t_4=page then
 if 0≤page then
 Q t Sx_1
 else
 Xx (IntKind.i64.wrap (t+1)) Sx_1
 else
 Xx (IntKind.i64.wrap (t+1)) Sx_1
 else
 Xx (IntKind.i64.wrap (t+1)) Sx_1
 else
 Xx (IntKind.i64.wrap (t+1)) Sx_1
 else
 Jx Sx_1) 0 S
theorem zdt {S:Mem} {b:List Value} {vm:Int} {page:Int} {Q:Int→Mem→Prop} (H:kL S b vm page Q):jV S b vm page Q:=by
 unfold kL at H
 exact Tr.intro Tryz.func159 E Tryz.ntmps159 E fun w0=>an H fun hb H1=>csr<|qM E E E fun b_1=>gv E E<|nx<|zn H1 (fun (J:Mem→Prop) (z:Unit) S=>J S) (fun z=>⟨34,[]⟩) (fun z=>[]) (fun _ Sx H2=>csr<|gv E E<|nx<|zi<|zh Tryz.results159 (zd E ze) ⟨_,E,H2⟩) (fun Jx hJx H3=>csr<|by refine s_v E (zT E hb) (zE (k:=96) 0 E (zk hb)) ?_;exact mv E E<|nx<|zw<|qB (fun z=>⟨34,[(1,.int .i64 vm),(2,.int .i64 page),(9,valL b),(10,.int .i64 z)]⟩) (fun z=>[]) 0 (idx:=[]) H3 E ⟨E,E,E,E,True.intro⟩ E<|fun Xx hXx t Sx_1 H4=>csr<|iteK H4 (fun c H5=>s_p E (yT (zD E E) c)<|nx<|zC<|c_t E E<|qg<|zt<|zC<|zw<|csr<|mv E E<|an2 H5 fun c_1 c_2 H6=>gx H6 fun t_1 ht_1 H7=>s_p E (zhW E E c_1 c_2 ht_1)<|by refine zL E fun b_2=>?_;exact gv E E<|an H7 fun c_3 H8=>zp 0 E E E E E ((qG ht_1).2.2) E c_3<|nxr<|s_p E (zv E E)<|gx H8 fun t_2 ht_2 H9=>by have H10:=wM H9;rcases H10 with ⟨rfl,H11⟩ | ⟨rfl,H11⟩;exact (s_v E (zz E) (zW 0 E ht_2)<|mv E E<|s_p E (zv E E)<|gx H11 fun t_3 ht_3 H12=>s_v E (zz E) (zW 0 E ht_3)<|mv E E<|iteK H12 (fun c_4 H13=>ceT E E E (c_4)<|pk E E E<|mv E E<|s_p E (zv E E)<|gx H13 fun t_4 ht_4 H14=>s_v E (zz E) (zW 0 E ht_4)<|mv E E<|iteK H14 (fun c_5 H15=>ceT E E E (c_5)<|pk E E E<|mv E E<|mv E E<|iteK H15 (fun c_6 H16=>s_p E (yT (qj E E) c_6)<|pk E E E<|nx<|c_t E E<|csr<|mv E E<|gv E E<|nx<|zi<|zj<|zb<|zb<|zj<|zb<|zh Tryz.results159 (zd E ze) ⟨_,E,H16⟩) fun c_6 H16=>s_p E (yF (qj E E) c_6)<|pk E E E<|nx<|cfs E E<|zU<|zt<|zu<|s_p E (qh E E)<|mv E E<|zr<|hXx (IntKind.i64.wrap (t+1)) _ _ _ _ [] H16 E ⟨E,E,E,E,True.intro⟩ E) fun c_5 H15=>ceF E E E (c_5)<|pk E E E<|mv E E<|sk2 E E<|pk E E E<|nx<|cfs E E<|zU<|zt<|zu<|s_p E (qh E E)<|mv E E<|zr<|hXx (IntKind.i64.wrap (t+1)) _ _ _ _ [] H15 E ⟨E,E,E,E,True.intro⟩ E) fun c_4 H13=>ceF E E E (c_4)<|pk E E E<|mv E E<|sk4 E E E E<|pk E E E<|mv E E<|sk2 E E<|pk E E E<|nx<|cfs E E<|zU<|zt<|zu<|s_p E (qh E E)<|mv E E<|zr<|hXx (IntKind.i64.wrap (t+1)) _ _ _ _ [] H13 E ⟨E,E,E,E,True.intro⟩ E);exact (s_v E (zz E) (zW 0 E ht_2)<|mv E E<|sk4 E E E E<|pk E E E<|mv E E<|sk4 E E E E<|pk E E E<|mv E E<|sk2 E E<|pk E E E<|nx<|cfs E E<|zU<|zt<|zu<|s_p E (qh E E)<|mv E E<|zr<|hXx (IntKind.i64.wrap (t+1)) _ _ _ _ [] H11 E ⟨E,E,E,E,True.intro⟩ E)) fun c H5=>s_p E (yF (zD E E) c)<|nx<|zC<|c_f E E<|qt<|zl<|zl<|zI<|hJx () _ _ _ _ [] H5 E True.intro E)
def vH (S:Mem) (b:List Value) (n:Int) (Q:List Value→Int→Mem→Prop):Prop:=
 b.length=96 ∧
 jn (fun (v:List Value) (Sx:Mem)=>
 v.length=6 ∧
 0≤n∧n<16 ∧
 gA (lpart b (0+n.toNat*6) 6) fun a=>
 a.all (·.oneCell')=true ∧
 Q a 0 Sx) fun Jx=>
 if n<0 then
 Q ([.bool false,.int .i64 0,.int .i64 0,.int .i64 0,.bool false,.int .i64 0]) 2 S
 else
 if 16≤n then
 Q ([.bool false,.int .i64 0,.int .i64 0,.int .i64 0,.bool false,.int .i64 0]) 2 S
 else
 0≤n∧n<16 ∧
 gB (nthL b (0+n.toNat*6)) fun t=>
 if t=true then
 Jx ([.bool false,.int .i64 0,.int .i64 0,.int .i64 0,.bool false,.int .i64 0]) S
 else
 Q ([.bool false,.int .i64 0,.int .i64 0,.int .i64 0,.bool false,.int .i64 0]) 2 S
theorem zcU {S:Mem} {b:List Value} {n:Int} {Q:List Value→Int→Mem→Prop} (H:vH S b n Q):yh S b n Q:=by
 unfold vH at H
 exact Tr.intro Tryz.func145 E Tryz.ntmps145 E fun w0=>an H fun hb H1=>csr<|qM E E E fun b_1=>by refine zL E fun b_2=>?_;exact gv E E<|nx<|zn H1 (fun (J:List Value→Mem→Prop) (z:List Value) S=>J z S) (fun z=>⟨23,[(1,.int .i64 n),(2,.pointer (some ⟨b_1,0,none⟩)),(4,.pointer (some ⟨b_2,0,none⟩))]⟩) (fun z=>[⟨b_1,72,b⟩,⟨b_2,70,z⟩]) (fun v Sx H2=>an H2 fun hv H3=>csr<|mv E E<|an2 H3 fun c c_1 H4=>s_p E (qv E E c c_1 E)<|gx H4 fun a ha H5=>by refine s_v E (zT E ((qG ha).2.2)) (zE 0 E ha) ?_;exact an H5 fun c_2 H6=>zp 1 E E E E E ((qG ha).2.2) hv c_2<|gv E E<|nx<|zi<|zh Tryz.results145 (zA E (zE (k:=6) 1 E (zk ((qG ha).2.2))) ((qG ha).2.2) (zd E ze)) ⟨_,_,E,(qG ha).2.2,H6⟩) (fun Jx hJx H7=>csr<|mv E E<|iteK H7 (fun c_3 H8=>s_p E (yT (zD E E) c_3)<|mv E E<|sk2 E E<|pk E E E<|mv E E<|sk4 E E E E<|zP E<|pk E E E<|nx<|c_t E E<|csr<|s_p E (zF E E)<|by exact qT (sz:=6) (vs:=[.bool false,.int .i64 0,.int .i64 0,.int .i64 0,.bool false,.int .i64 0]) 1 E E E E E E (Nat.le_of_ble_eq_true E) E<|gv E E<|nx<|zi<|zb<|zh Tryz.results145 (zA E (zE (k:=6) 1 E E) E (zd E ze)) ⟨_,_,E,E,H8⟩) fun c_3 H8=>s_p E (yF (zD E E) c_3)<|mv E E<|mv E E<|iteK H8 (fun c_4 H9=>s_p E (yT (qj E E) c_4)<|pk E E E<|mv E E<|sk4 E E E E<|zP E<|pk E E E<|nx<|c_t E E<|csr<|s_p E (zF E E)<|by exact qT (sz:=6) (vs:=[.bool false,.int .i64 0,.int .i64 0,.int .i64 0,.bool false,.int .i64 0]) 1 E E E E E E (Nat.le_of_ble_eq_true E) E<|gv E E<|nx<|zi<|zb<|zh Tryz.results145 (zA E (zE (k:=6) 1 E E) E (zd E ze)) ⟨_,_,E,E,H9⟩) fun c_4 H9=>s_p E (yF (qj E E) c_4)<|pk E E E<|mv E E<|mv E E<|an2 H9 fun c_5 c_6 H10=>s_p E (qv E E c_5 c_6 E)<|s_p E (zv E E)<|gx H10 fun t ht H11=>by have H12:=wM H11;rcases H12 with ⟨rfl,H13⟩ | ⟨rfl,H13⟩;exact (s_v E (zz E) (zW 0 E ht)<|s_p E (yB (ql E) E)<|pk E E E<|nx<|cfs E E<|hJx ([.bool false,.int .i64 0,.int .i64 0,.int .i64 0,.bool false,.int .i64 0]) _ _ _ _ [0,0] H13 E ⟨E,E,E,True.intro⟩ E);exact (s_v E (zz E) (zW 0 E ht)<|s_p E (yB (ql E) E)<|pk E E E<|nx<|c_t E E<|csr<|s_p E (zF E E)<|by exact qT (sz:=6) (vs:=[.bool false,.int .i64 0,.int .i64 0,.int .i64 0,.bool false,.int .i64 0]) 1 E E E E E E (Nat.le_of_ble_eq_true E) E<|gv E E<|nx<|zi<|zb<|zh Tryz.results145 (zA E (zE (k:=6) 1 E E) E (zd E ze)) ⟨_,_,E,E,H13⟩))
def wz (S:Mem) (b:List Value) (n:Int) (vm:Int) (Q:List Value→Int→Mem→Prop):Prop:=
 b.length=96 ∧
 yh S b n fun t t_1 Sx=>
 t.all (·.oneCell')=true ∧
 jn (fun (v:List Value) (Sx_1:Mem)=>
 v.length=96 ∧
 0≤n∧n<16 ∧
 (spl b (0+n.toNat*6+5) ([.int .i64 (-1)])).all (·.oneCell')=true ∧
 Q (spl b (0+n.toNat*6+5) ([.int .i64 (-1)])) 0 Sx_1) fun Jx=>
 if t_1≠0 then
 b.all (·.oneCell')=true ∧
 Q b t_1 Sx
 else
 gI (nthL t 3) .i64 fun t_2=>
 if t_2≠vm then
 b.all (·.oneCell')=true ∧
 Q b 7 Sx
 else
 gI (nthL t 5) .i64 fun t_3=>
 if t_3<0 then
 b.all (·.oneCell')=true ∧
 Q b 10 Sx
 else
 Jx z72 Sx
theorem zbh {S:Mem} {b:List Value} {n:Int} {vm:Int} {Q:List Value→Int→Mem→Prop} (H:wz S b n vm Q):xH S b n vm Q:=by
 unfold wz at H
 exact Tr.intro Tryz.func223 E Tryz.ntmps223 E fun w0=>an H fun hb H1=>csr<|qM E E E fun b_1=>by refine zL E fun b_2=>?_;exact gv E E<|nxr<|by refine s_v E (zT E hb) (zE (k:=96) 0 E (zk hb)) ?_;exact mv E E<|qr E E H1 fun rv Sx H2=>by obtain⟨t,t_1,rfl,ht,H3⟩:=H2;exact mv E E<|s_p E (zg E E)<|s_p E (zg E E)<|by refine zL E fun b_3=>?_;exact an H3 fun c H4=>zp 2 E E E E E ht E c<|gv E E<|nx<|zn H4 (fun (J:List Value→Mem→Prop) (z:List Value) S=>J z S) (fun z=>⟨36,[(1,.int .i64 n),(3,.pointer (some ⟨b_1,0,none⟩)),(6,.pointer (some ⟨b_2,0,none⟩))]⟩) (fun z=>[⟨b_1,72,b⟩,⟨b_2,72,z⟩]) (fun v Sx_1 H5=>an H5 fun hv H6=>csr<|mv E E<|an2 H6 fun c_1 c_2 H7=>s_p E (qv E E c_1 c_2 E)<|s_p E (zv E E)<|qT (sz:=1) (vs:=[.int .i64 (-1)]) 0 E E E E E E (wa hb (by omega)) E<|nxr<|by refine s_v E (zT E (qR hb (by have:=True.intro;(try simp only[List.length_cons,List.length_nil]);omega))) (zE (k:=96) 0 E (zk (qR hb (by have:=True.intro;(try simp only[List.length_cons,List.length_nil]);omega)))) ?_;exact an H7 fun c_3 H8=>zp 1 E E E E E (qR hb (by have:=True.intro;(try simp only[List.length_cons,List.length_nil]);omega)) hv c_3<|gv E E<|nx<|zi<|zh Tryz.results223 (zA E (zE (k:=96) 1 E (zk (qR hb (by have:=True.intro;(try simp only[List.length_cons,List.length_nil]);omega)))) (qR hb (by have:=True.intro;(try simp only[List.length_cons,List.length_nil]);omega)) (zd E ze)) ⟨_,_,E,qR hb (by have:=True.intro;(try simp only[List.length_cons,List.length_nil]);omega),H8⟩) (fun Jx hJx H9=>zw<|csr<|mv E E<|iteK H9 (fun c_4 H10=>s_p E (yT (zQ E E) c_4)<|gv E E<|nx<|c_t E E<|csr<|by refine s_v E (zT E hb) (zE (k:=96) 0 E (zk hb)) ?_;exact mv E E<|an H10 fun c_5 H11=>zp 1 E E E E E hb yX c_5<|gv E E<|nx<|zi<|zj<|zb<|zh Tryz.results223 (zA E (zE (k:=96) 1 E (zk hb)) hb (zd E ze)) ⟨_,_,E,hb,H11⟩) fun c_4 H10=>s_p E (yF (zQ E E) c_4)<|gv E E<|nx<|c_f E E<|csr<|s_p E (zv E E)<|gx H10 fun t_2 ht_2 H12=>s_v E (zz E) (zW 2 E ht_2)<|mv E E<|iteK H12 (fun c_6 H13=>s_p E (yT (zQ E E) c_6)<|gv E E<|nx<|c_t E E<|csr<|by refine s_v E (zT E hb) (zE (k:=96) 0 E (zk hb)) ?_;exact an H13 fun c_7 H14=>zp 1 E E E E E hb yX c_7<|gv E E<|nx<|zi<|zj<|zb<|zh Tryz.results223 (zA E (zE (k:=96) 1 E (zk hb)) hb (zd E ze)) ⟨_,_,E,hb,H14⟩) fun c_6 H13=>s_p E (yF (zQ E E) c_6)<|gv E E<|nx<|c_f E E<|csr<|s_p E (zv E E)<|gx H13 fun t_3 ht_3 H15=>s_v E (zz E) (zW 2 E ht_3)<|iteK H15 (fun c_8 H16=>s_p E (yT (zD E E) c_8)<|gv E E<|nx<|c_t E E<|csr<|by refine s_v E (zT E hb) (zE (k:=96) 0 E (zk hb)) ?_;exact an H16 fun c_9 H17=>zp 1 E E E E E hb yX c_9<|gv E E<|nx<|zi<|zj<|zb<|zh Tryz.results223 (zA E (zE (k:=96) 1 E (zk hb)) hb (zd E ze)) ⟨_,_,E,hb,H17⟩) fun c_8 H16=>s_p E (yF (zD E E) c_8)<|gv E E<|nx<|cfs E E<|zU<|hJx z72 _ _ _ _ [0,0] H16 E ⟨E,E,E,True.intro⟩ E)
def vb (S:Mem) (b:List Value) (vm:Int) (page:Int) (Q:Bool→Mem→Prop):Prop:=
 b.length=96 ∧
 jn (fun (Sx:Mem)=>
 Q false Sx) fun Jx=>
 lp (fun Xx (t:Int) (Sx_1:Mem)=>
 if t<16 then
 0≤t∧t<16 ∧
 gA (lpart b (t.toNat*6) 6) fun t_1=>
 t_1.all (·.oneCell')=true ∧
 gB (nthL t_1 0) fun t_2=>
 if t_2=true then
 gI (nthL t_1 1) .i64 fun t_3=>
 if t_3=vm then
 gI (nthL t_1 2) .i64 fun t_4=>
 if t_4=page then
 Q true Sx_1
 else
 Xx (IntKind.i64.wrap (t+1)) Sx_1
 else
 Xx (IntKind.i64.wrap (t+1)) Sx_1
 else
 Xx (IntKind.i64.wrap (t+1)) Sx_1
 else
 Jx Sx_1) 0 S
theorem zbT {S:Mem} {b:List Value} {vm:Int} {page:Int} {Q:Bool→Mem→Prop} (H:vb S b vm page Q):ky S b vm page Q:=by
 unfold vb at H
 exact Tr.intro Tryz.func225 E Tryz.ntmps225 E fun w0=>an H fun hb H1=>csr<|qM E E E fun b_1=>gv E E<|nx<|zn H1 (fun (J:Mem→Prop) (z:Unit) S=>J S) (fun z=>⟨28,[]⟩) (fun z=>[]) (fun _ Sx H2=>csr<|gv E E<|nx<|zi<|zh Tryz.results225 (zd E ze) ⟨_,E,H2⟩) (fun Jx hJx H3=>csr<|by refine s_v E (zT E hb) (zE (k:=96) 0 E (zk hb)) ?_;exact mv E E<|nx<|zw<|qB (fun z=>⟨28,[(1,.int .i64 vm),(2,.int .i64 page),(9,valL b),(10,.int .i64 z)]⟩) (fun z=>[]) 0 (idx:=[]) H3 E ⟨E,E,E,E,True.intro⟩ E<|fun Xx hXx t Sx_1 H4=>csr<|iteK H4 (fun c H5=>s_p E (yT (zD E E) c)<|nx<|zC<|c_t E E<|qg<|zt<|zC<|zw<|csr<|an2 H5 fun c_1 c_2 H6=>gx H6 fun t_1 ht_1 H7=>s_p E (zhW E E c_1 c_2 ht_1)<|by refine zL E fun b_2=>?_;exact an H7 fun c_3 H8=>zp 0 E E E E E ((qG ht_1).2.2) E c_3<|nxr<|s_p E (zv E E)<|gx H8 fun t_2 ht_2 H9=>by have H10:=wM H9;rcases H10 with ⟨rfl,H11⟩ | ⟨rfl,H11⟩;exact (s_v E (zz E) (zW 0 E ht_2)<|mv E E<|s_p E (zv E E)<|gx H11 fun t_3 ht_3 H12=>s_v E (zz E) (zW 0 E ht_3)<|mv E E<|iteK H12 (fun c_4 H13=>ceT E E E (c_4)<|pk E E E<|mv E E<|s_p E (zv E E)<|gx H13 fun t_4 ht_4 H14=>s_v E (zz E) (zW 0 E ht_4)<|mv E E<|iteK H14 (fun c_5 H15=>ceT E E E (c_5)<|pk E E E<|nx<|c_t E E<|csr<|gv E E<|nx<|zi<|zj<|zb<|zb<|zj<|zb<|zh Tryz.results225 (zd E ze) ⟨_,E,H15⟩) fun c_5 H15=>ceF E E E (c_5)<|pk E E E<|nx<|cfs E E<|zU<|zt<|zu<|s_p E (qh E E)<|mv E E<|zr<|hXx (IntKind.i64.wrap (t+1)) _ _ _ _ [] H15 E ⟨E,E,E,E,True.intro⟩ E) fun c_4 H13=>ceF E E E (c_4)<|pk E E E<|mv E E<|sk4 E E E E<|pk E E E<|nx<|cfs E E<|zU<|zt<|zu<|s_p E (qh E E)<|mv E E<|zr<|hXx (IntKind.i64.wrap (t+1)) _ _ _ _ [] H13 E ⟨E,E,E,E,True.intro⟩ E);exact (s_v E (zz E) (zW 0 E ht_2)<|mv E E<|sk4 E E E E<|pk E E E<|mv E E<|sk4 E E E E<|pk E E E<|nx<|cfs E E<|zU<|zt<|zu<|s_p E (qh E E)<|mv E E<|zr<|hXx (IntKind.i64.wrap (t+1)) _ _ _ _ [] H11 E ⟨E,E,E,E,True.intro⟩ E)) fun c H5=>s_p E (yF (zD E E) c)<|nx<|zC<|c_f E E<|qt<|zl<|zl<|zI<|hJx () _ _ _ _ [] H5 E True.intro E)
def wy (S:Mem) (b:List Value) (fromx:Int) (page:Int) (to:Int) (write:Bool) (Q:List Value→Int→Int→Mem→Prop):Prop:=
 b.length=96 ∧
 jn (fun (v:List Value) (Sx:Mem)=>
 v.length=96 ∧
 jn (fun (b_3:List Value) (v_1:List Value) (Sx_1:Mem)=>
 b_3.length=96 ∧
 v_1.length=96 ∧
 b_3.all (·.oneCell')=true ∧
 Q b_3 0 3 Sx_1) fun Jx=>
 lp (fun Xx (z:Int×List Value×List Value) (Sx_2:Mem)=>
 match z with
 | (t,b_4,v_2)=>
 b_4.length=96 ∧
 v_2.length=96 ∧
 if t<16 then
 0≤t∧t<16 ∧
 gA (lpart b (t.toNat*6) 6) fun t_1=>
 t_1.all (·.oneCell')=true ∧
 gB (nthL t_1 0) fun t_2=>
 if t_2=true then
 Xx (IntKind.i64.wrap (t+1),b_4,v_2) Sx_2
 else
 0≤t∧t<16 ∧
 (spl b_4 (0+t.toNat*6) ([.bool true,.int .i64 fromx,.int .i64 page,.int .i64 to,.bool write,.int .i64 (-1)])).all (·.oneCell')=true ∧
 Q (spl b_4 (0+t.toNat*6) ([.bool true,.int .i64 fromx,.int .i64 page,.int .i64 to,.bool write,.int .i64 (-1)])) t 0 Sx_2
 else
 Jx b_4 v_2 Sx_2) (0,b,v) Sx) fun Jx_1=>
 kw S fromx page fun t_3 Sx_3=>
 if t_3=true then
 kw Sx_3 to 0 fun t_4 Sx_4=>
 if t_4=true then
 if fromx=to then
 b.all (·.oneCell')=true ∧
 Q b 0 1 Sx_4
 else
 Jx_1 z72 Sx_4
 else
 b.all (·.oneCell')=true ∧
 Q b 0 1 Sx_4
 else
 b.all (·.oneCell')=true ∧
 Q b 0 1 Sx_3
theorem zbg {S:Mem} {b:List Value} {fromx:Int} {page:Int} {to:Int} {write:Bool} {Q:List Value→Int→Int→Mem→Prop} (H:wy S b fromx page to write Q):vu S b fromx page to write Q:=by
 unfold wy at H
 exact Tr.intro Tryz.func221 E Tryz.ntmps221 E fun w0=>an H fun hb H1=>csr<|qM E E E fun b_1=>by refine zL E fun b_2=>?_;exact gv E E<|gv E E<|nx<|zn H1 (fun (J:List Value→Mem→Prop) (z:List Value) S=>J z S) (fun z=>⟨49,[(1,.int .i64 fromx),(2,.int .i64 page),(3,.int .i64 to),(4,.bool write),(5,.pointer (some ⟨b_1,0,none⟩)),(10,.pointer (some ⟨b_2,0,none⟩))]⟩) (fun z=>[⟨b_1,72,b⟩,⟨b_2,72,z⟩]) (fun v Sx H2=>an H2 fun hv H3=>zn H3 (fun (J:List Value→List Value→Mem→Prop) (z:List Value×List Value) S=>J z.1 z.2 S) (fun z=>⟨49,[(5,.pointer (some ⟨b_1,0,none⟩)),(10,.pointer (some ⟨b_2,0,none⟩))]⟩) (fun z=>[⟨b_1,72,z.1⟩,⟨b_2,72,z.2⟩]) (by rintro⟨b_3,v_1⟩ Sx_1 H4;exact an H4 fun hb_3 H5=>an H5 fun hv_1 H6=>csr<|by refine s_v E (zT E hb_3) (zE (k:=96) 0 E (zk hb_3)) ?_;exact an H6 fun c H7=>zp 1 E E E E E hb_3 hv_1 c<|gv E E<|gv E E<|nx<|zi<|zh Tryz.results221 (zA E (zE (k:=96) 1 E (zk hb_3)) hb_3 (zd E (zd E ze))) ⟨_,_,_,E,hb_3,H7⟩) (fun Jx hJx H8=>csr<|by refine s_v E (zT E hb) (zE (k:=96) 0 E (zk hb)) ?_;exact mv E E<|nx<|zw<|qB (fun z=>⟨49,[(1,.int .i64 fromx),(2,.int .i64 page),(3,.int .i64 to),(4,.bool write),(5,.pointer (some ⟨b_1,0,none⟩)),(10,.pointer (some ⟨b_2,0,none⟩)),(30,valL b),(31,.int .i64 z.1)]⟩) (fun z=>[⟨b_1,72,z.2.1⟩,⟨b_2,72,z.2.2⟩]) (0,b,v) (idx:=[0,0]) H8 E ⟨E,E,E,E,E,E,E,E,True.intro⟩ E<|by rintro Xx hXx ⟨t,b_4,v_2⟩ Sx_2 H9;exact an H9 fun hb_4 H10=>an H10 fun hv_2 H11=>csr<|iteK H11 (fun c_1 H12=>s_p E (yT (zD E E) c_1)<|nx<|zC<|c_t E E<|qg<|zt<|zC<|zw<|csr<|mv E E<|an2 H12 fun c_2 c_3 H13=>gx H13 fun t_1 ht_1 H14=>s_p E (zhW E E c_2 c_3 ht_1)<|by refine zL E fun b_5=>?_;exact gv E E<|an H14 fun c_4 H15=>zp 2 E E E E E ((qG ht_1).2.2) E c_4<|nxr<|s_p E (zv E E)<|gx H15 fun t_2 ht_2 H16=>by have H17:=wM H16;rcases H17 with ⟨rfl,H18⟩ | ⟨rfl,H18⟩;exact (s_v E (zz E) (zW 2 E ht_2)<|s_p E (yB (ql E) E)<|nx<|cfs E E<|zU<|zt<|zu<|s_p E (qh E E)<|mv E E<|zr<|hXx (IntKind.i64.wrap (t+1),b_4,v_2) _ _ _ _ [0,0] H18 E ⟨E,E,E,E,E,E,E,E,True.intro⟩ E);exact (s_v E (zz E) (zW 2 E ht_2)<|s_p E (yB (ql E) E)<|nx<|c_t E E<|csr<|mv E E<|mv E E<|mv E E<|mv E E<|mv E E<|s_p E (zF E E)<|by exact an2 H18 fun c_5 c_6 H19=>s_p E (qv E E c_5 c_6 E)<|qT (sz:=6) (vs:=[.bool true,.int .i64 fromx,.int .i64 page,.int .i64 to,.bool write,.int .i64 (-1)]) 0 E E E E E E (wa hb_4 (by omega)) E<|nxr<|by refine s_v E (zT E (qR hb_4 (by have:=True.intro;(try simp only[List.length_cons,List.length_nil]);omega))) (zE (k:=96) 0 E (zk (qR hb_4 (by have:=True.intro;(try simp only[List.length_cons,List.length_nil]);omega)))) ?_;exact mv E E<|an H19 fun c_7 H20=>zp 1 E E E E E (qR hb_4 (by have:=True.intro;(try simp only[List.length_cons,List.length_nil]);omega)) hv_2 c_7<|gv E E<|gv E E<|nx<|zi<|zj<|zb<|zb<|zj<|zb<|zh Tryz.results221 (zA E (zE (k:=96) 1 E (zk (qR hb_4 (by have:=True.intro;(try simp only[List.length_cons,List.length_nil]);omega)))) (qR hb_4 (by have:=True.intro;(try simp only[List.length_cons,List.length_nil]);omega)) (zd E (zd E ze))) ⟨_,_,_,E,qR hb_4 (by have:=True.intro;(try simp only[List.length_cons,List.length_nil]);omega),H20⟩)) fun c_1 H12=>s_p E (yF (zD E E) c_1)<|nx<|zC<|c_f E E<|qt<|zl<|zl<|zI<|hJx (b_4,v_2) _ _ _ _ [0,0] H12 E ⟨E,E,True.intro⟩ E)) (fun Jx_1 hJx_1 H21=>csr<|mv E E<|mv E E<|qC E E H21 fun t_3 Sx_3 H22=>by have H23:=wM H22;rcases H23 with ⟨rfl,H24⟩ | ⟨rfl,H24⟩;exact (s_p E (yB (ql E) E)<|mv E E<|mv E E<|qC E E H24 fun t_4 Sx_4 H25=>by have H26:=wM H25;rcases H26 with ⟨rfl,H27⟩ | ⟨rfl,H27⟩;exact (s_p E (yB (ql E) E)<|pk E E E<|mv E E<|mv E E<|mv E E<|iteK H27 (fun c_8 H28=>ceT E E E (c_8)<|pk E E E<|nx<|c_t E E<|csr<|by refine s_v E (zT E hb) (zE (k:=96) 0 E (zk hb)) ?_;exact an H28 fun c_9 H29=>zp 1 E E E E E hb yX c_9<|gv E E<|gv E E<|nx<|zi<|zb<|zh Tryz.results221 (zA E (zE (k:=96) 1 E (zk hb)) hb (zd E (zd E ze))) ⟨_,_,_,E,hb,H29⟩) fun c_8 H28=>ceF E E E (c_8)<|pk E E E<|nx<|cfs E E<|hJx_1 z72 _ _ _ _ [0,0] H28 E ⟨E,E,E,E,E,E,True.intro⟩ E);exact (s_p E (yB (ql E) E)<|pk E E E<|mv E E<|sk2 E E<|zP E<|pk E E E<|nx<|c_t E E<|csr<|by refine s_v E (zT E hb) (zE (k:=96) 0 E (zk hb)) ?_;exact an H27 fun c_10 H30=>zp 1 E E E E E hb yX c_10<|gv E E<|gv E E<|nx<|zi<|zb<|zh Tryz.results221 (zA E (zE (k:=96) 1 E (zk hb)) hb (zd E (zd E ze))) ⟨_,_,_,E,hb,H30⟩));exact (s_p E (yB (ql E) E)<|mv E E<|sk2 E E<|zP E<|pk E E E<|mv E E<|sk2 E E<|zP E<|pk E E E<|nx<|c_t E E<|csr<|by refine s_v E (zT E hb) (zE (k:=96) 0 E (zk hb)) ?_;exact an H24 fun c_11 H31=>zp 1 E E E E E hb yX c_11<|gv E E<|gv E E<|nx<|zi<|zb<|zh Tryz.results221 (zA E (zE (k:=96) 1 E (zk hb)) hb (zd E (zd E ze))) ⟨_,_,_,E,hb,H31⟩))
def xf (S:Mem) (b:List Value) (n:Int) (vm:Int) (Q:List Value→Int→Mem→Prop):Prop:=
 b.length=96 ∧
 yh S b n fun t t_1 Sx=>
 t.all (·.oneCell')=true ∧
 jn (fun (v:List Value) (Sx_1:Mem)=>
 v.length=96 ∧
 0≤n∧n<16 ∧
 (spl b (0+n.toNat*6) ([.bool false,.int .i64 0,.int .i64 0,.int .i64 0,.bool false,.int .i64 0])).all (·.oneCell')=true ∧
 Q (spl b (0+n.toNat*6) ([.bool false,.int .i64 0,.int .i64 0,.int .i64 0,.bool false,.int .i64 0])) 0 Sx_1) fun Jx=>
 if t_1≠0 then
 b.all (·.oneCell')=true ∧
 Q b t_1 Sx
 else
 gI (nthL t 1) .i64 fun t_2=>
 if t_2≠vm then
 b.all (·.oneCell')=true ∧
 Q b 7 Sx
 else
 gI (nthL t 5) .i64 fun t_3=>
 if 0≤t_3 then
 b.all (·.oneCell')=true ∧
 Q b 8 Sx
 else
 Jx z72 Sx
theorem gG {S:Mem} {b:List Value} {n:Int} {vm:Int} {Q:List Value→Int→Mem→Prop} (H:xf S b n vm Q):yv S b n vm Q:=by
 unfold xf at H
 exact Tr.intro Tryz.func224 E Tryz.ntmps224 E fun w0=>an H fun hb H1=>csr<|qM E E E fun b_1=>by refine zL E fun b_2=>?_;exact gv E E<|nxr<|by refine s_v E (zT E hb) (zE (k:=96) 0 E (zk hb)) ?_;exact mv E E<|qr E E H1 fun rv Sx H2=>by obtain⟨t,t_1,rfl,ht,H3⟩:=H2;exact mv E E<|s_p E (zg E E)<|s_p E (zg E E)<|by refine zL E fun b_3=>?_;exact an H3 fun c H4=>zp 2 E E E E E ht E c<|gv E E<|nx<|zn H4 (fun (J:List Value→Mem→Prop) (z:List Value) S=>J z S) (fun z=>⟨36,[(1,.int .i64 n),(3,.pointer (some ⟨b_1,0,none⟩)),(6,.pointer (some ⟨b_2,0,none⟩))]⟩) (fun z=>[⟨b_1,72,b⟩,⟨b_2,72,z⟩]) (fun v Sx_1 H5=>an H5 fun hv H6=>csr<|mv E E<|s_p E (zF E E)<|by exact an2 H6 fun c_1 c_2 H7=>s_p E (qv E E c_1 c_2 E)<|qT (sz:=6) (vs:=[.bool false,.int .i64 0,.int .i64 0,.int .i64 0,.bool false,.int .i64 0]) 0 E E E E E E (wa hb (by omega)) E<|nxr<|by refine s_v E (zT E (qR hb (by have:=True.intro;(try simp only[List.length_cons,List.length_nil]);omega))) (zE (k:=96) 0 E (zk (qR hb (by have:=True.intro;(try simp only[List.length_cons,List.length_nil]);omega)))) ?_;exact an H7 fun c_3 H8=>zp 1 E E E E E (qR hb (by have:=True.intro;(try simp only[List.length_cons,List.length_nil]);omega)) hv c_3<|gv E E<|nx<|zi<|zh Tryz.results224 (zA E (zE (k:=96) 1 E (zk (qR hb (by have:=True.intro;(try simp only[List.length_cons,List.length_nil]);omega)))) (qR hb (by have:=True.intro;(try simp only[List.length_cons,List.length_nil]);omega)) (zd E ze)) ⟨_,_,E,qR hb (by have:=True.intro;(try simp only[List.length_cons,List.length_nil]);omega),H8⟩) (fun Jx hJx H9=>zw<|csr<|mv E E<|iteK H9 (fun c_4 H10=>s_p E (yT (zQ E E) c_4)<|gv E E<|nx<|c_t E E<|csr<|by refine s_v E (zT E hb) (zE (k:=96) 0 E (zk hb)) ?_;exact mv E E<|an H10 fun c_5 H11=>zp 1 E E E E E hb yX c_5<|gv E E<|nx<|zi<|zj<|zb<|zh Tryz.results224 (zA E (zE (k:=96) 1 E (zk hb)) hb (zd E ze)) ⟨_,_,E,hb,H11⟩) fun c_4 H10=>s_p E (yF (zQ E E) c_4)<|gv E E<|nx<|c_f E E<|csr<|s_p E (zv E E)<|gx H10 fun t_2 ht_2 H12=>s_v E (zz E) (zW 2 E ht_2)<|mv E E<|iteK H12 (fun c_6 H13=>s_p E (yT (zQ E E) c_6)<|gv E E<|nx<|c_t E E<|csr<|by refine s_v E (zT E hb) (zE (k:=96) 0 E (zk hb)) ?_;exact an H13 fun c_7 H14=>zp 1 E E E E E hb yX c_7<|gv E E<|nx<|zi<|zj<|zb<|zh Tryz.results224 (zA E (zE (k:=96) 1 E (zk hb)) hb (zd E ze)) ⟨_,_,E,hb,H14⟩) fun c_6 H13=>s_p E (yF (zQ E E) c_6)<|gv E E<|nx<|c_f E E<|csr<|s_p E (zv E E)<|gx H13 fun t_3 ht_3 H15=>s_v E (zz E) (zW 2 E ht_3)<|iteK H15 (fun c_8 H16=>s_p E (yT (qj E E) c_8)<|gv E E<|nx<|c_t E E<|csr<|by refine s_v E (zT E hb) (zE (k:=96) 0 E (zk hb)) ?_;exact an H16 fun c_9 H17=>zp 1 E E E E E hb yX c_9<|gv E E<|nx<|zi<|zj<|zb<|zh Tryz.results224 (zA E (zE (k:=96) 1 E (zk hb)) hb (zd E ze)) ⟨_,_,E,hb,H17⟩) fun c_8 H16=>s_p E (yF (qj E E) c_8)<|gv E E<|nx<|cfs E E<|zU<|hJx z72 _ _ _ _ [0,0] H16 E ⟨E,E,E,True.intro⟩ E)
def gf (S:Mem) (vm:Int) (page:Int) (Q:Bool→Mem→Prop):Prop:=
 if 0≤vm then
 if vm<6 then
 if 0≤page then
 Q (decide (page<32)) S
 else
 Q false S
 else
 Q false S
 else
 Q false S
theorem zfm {S:Mem} {vm:Int} {page:Int} {Q:Bool→Mem→Prop} (H:gf S vm page Q):kw S vm page Q:=by
 unfold gf at H
 exact Tr.intro Tryz.func241 E Tryz.ntmps241 E fun w0=>csr<|gv E E<|nxr<|mv E E<|iteK H (fun c H1=>s_p E (yT (qj E E) c)<|mv E E<|mv E E<|iteK H1 (fun c_1 H2=>s_p E (yT (zD E E) c_1)<|pk E E E<|mv E E<|mv E E<|iteK H2 (fun c_2 H3=>s_p E (yT (qj E E) c_2)<|pk E E E<|mv E E<|mv E E<|s_p E (zD E E)<|pk E E E<|gv E E<|nx<|zi<|zh Tryz.results241 (zd E ze) ⟨_,E,H3⟩) fun c_2 H3=>s_p E (yF (qj E E) c_2)<|pk E E E<|mv E E<|sk2 E E<|pk E E E<|gv E E<|nx<|zi<|zh Tryz.results241 (zd E ze) ⟨_,E,H3⟩) fun c_1 H2=>s_p E (yF (zD E E) c_1)<|pk E E E<|mv E E<|sk2 E E<|pk E E E<|mv E E<|sk2 E E<|pk E E E<|gv E E<|nx<|zi<|zh Tryz.results241 (zd E ze) ⟨_,E,H2⟩) fun c H1=>s_p E (yF (qj E E) c)<|mv E E<|sk2 E E<|pk E E E<|mv E E<|sk2 E E<|pk E E E<|mv E E<|sk2 E E<|pk E E E<|gv E E<|nx<|zi<|zh Tryz.results241 (zd E ze) ⟨_,E,H1⟩
def kK (S:Mem) (b:List Value) (vm:Int) (Q:Sl→Mem→Prop):Prop:=
 b.length=96 ∧
 jn (fun (out:Sl) (Sx:Mem)=>
 Q out Sx) fun Jx=>
 lp (fun Xx (z:Sl×Int) (Sx_1:Mem)=>
 match z with
 | (out_1,t)=>
 if t<16 then
 jn (fun (out_2:Sl) (Sx_2:Mem)=>
 Xx (out_2,IntKind.i64.wrap (t+1)) Sx_2) fun Jx_1=>
 0≤t∧t<16 ∧
 gA (lpart b (t.toNat*6) 6) fun t_1=>
 t_1.all (·.oneCell')=true ∧
 jn (fun (t_2:Bool) (Sx_3:Mem)=>
 if t_2=true then
 ap Sx_3 3 1 8 [.int .i64 0] out_1 1 ([.int .i64 t]) fun t_3 Sx_4=>
 Jx_1 t_3 Sx_4
 else
 Jx_1 out_1 Sx_3) fun Jx_2=>
 gB (nthL t_1 0) fun t_4=>
 if t_4=true then
 gI (nthL t_1 1) .i64 fun t_5=>
 if t_5=vm then
 Jx_2 true Sx_1
 else
 gI (nthL t_1 3) .i64 fun t_6=>
 if t_6=vm then
 Jx_2 true Sx_1
 else
 Jx_2 false Sx_1
 else
 Jx_2 false Sx_1
 else
 Jx out_1 Sx_1) (⟨none,0,0⟩,0) S
theorem zds {S:Mem} {b:List Value} {vm:Int} {Q:Sl→Mem→Prop} (H:kK S b vm Q):jU S b vm Q:=by
 unfold kK at H
 exact Tr.intro Tryz.func84 E Tryz.ntmps84 E fun w0=>an H fun hb H1=>csr<|qM E E E fun b_1=>gv E E<|nxr<|gv E E<|nx<|zn H1 (fun (J:Sl→Mem→Prop) (z:Sl) S=>J z S) (fun z=>⟨33,[(5,eL z)]⟩) (fun z=>[]) (fun out Sx H2=>csr<|mv E E<|gv E E<|nx<|zi<|zh Tryz.results84 (zd E ze) ⟨_,E,H2⟩) (fun Jx hJx H3=>csr<|by refine s_v E (zT E hb) (zE (k:=96) 0 E (zk hb)) ?_;exact mv E E<|nx<|zw<|qB (fun z=>⟨33,[(1,.int .i64 vm),(5,eL z.1),(8,valL b),(9,.int .i64 z.2)]⟩) (fun z=>[]) (⟨none,0,0⟩,0) (idx:=[]) H3 E ⟨E,E,E,E,True.intro⟩ E<|by rintro Xx hXx ⟨out_1,t⟩ Sx_1 H4;exact csr<|iteK H4 (fun c H5=>s_p E (yT (zD E E) c)<|nx<|zC<|c_t E E<|qg<|zt<|zn H5 (fun (J:Sl→Mem→Prop) (z:Sl) S=>J z S) (fun z=>⟨33,[(1,.int .i64 vm),(5,eL z),(8,valL b),(9,.int .i64 t)]⟩) (fun z=>[]) (fun out_2 Sx_2 H6=>zu<|s_p E (qh E E)<|mv E E<|zr<|hXx (out_2,IntKind.i64.wrap (t+1)) _ _ _ _ [] H6 E ⟨E,E,E,E,True.intro⟩ E) (fun Jx_1 hJx_1 H7=>zw<|csr<|mv E E<|an2 H7 fun c_1 c_2 H8=>gx H8 fun t_1 ht_1 H9=>s_p E (zhW E E c_1 c_2 ht_1)<|by refine zL E fun b_2=>?_;exact gv E E<|an H9 fun c_3 H10=>zp 0 E E E E E ((qG ht_1).2.2) E c_3<|nx<|zn H10 (fun (J:Bool→Mem→Prop) (z:Bool) S=>J z S) (fun z=>⟨33,[(1,.int .i64 vm),(5,eL out_1),(6,.int .i64 t),(8,valL b),(9,.int .i64 t),(26,.bool z)]⟩) (fun z=>[]) (fun t_2 Sx_3 H11=>by have H12:=wM H11;rcases H12 with ⟨c_4,H13⟩ | ⟨c_4,H13⟩;exact (c_t E c_4<|zu<|mv E E<|mv E E<|zgb E E (by decide) E fun b_3=>vY (sx:=out_1) (vs:=[.int .i64 t]) E E E (zgc 0 E E) E E (by decide) H13 fun t_3 Sx_4 H14=>gv E E<|zr<|zU<|hJx_1 t_3 _ _ _ _ [] H14 E ⟨E,E,E,E,True.intro⟩ E);exact (c_f E c_4<|qg<|zU<|hJx_1 out_1 _ _ _ _ [] H13 E ⟨E,E,E,E,True.intro⟩ E)) (fun Jx_2 hJx_2 H15=>zu<|s_p E (zv E E)<|gx H15 fun t_4 ht_4 H16=>by have H17:=wM H16;rcases H17 with ⟨rfl,H18⟩ | ⟨rfl,H18⟩;exact (s_v E (zz E) (zW 0 E ht_4)<|mv E E<|s_p E (zv E E)<|gx H18 fun t_5 ht_5 H19=>s_v E (zz E) (zW 0 E ht_5)<|mv E E<|iteK H19 (fun c_5 H20=>ceT E E E (c_5)<|mv E E<|sk4 E E E E<|pk E E E<|pk E E E<|zr<|hJx_2 true _ _ _ _ [] H20 E ⟨E,E,E,E,E,E,True.intro⟩ E) fun c_5 H20=>ceF E E E (c_5)<|mv E E<|s_p E (zv E E)<|gx H20 fun t_6 ht_6 H21=>s_v E (zz E) (zW 0 E ht_6)<|mv E E<|iteK H21 (fun c_6 H22=>ceT E E E (c_6)<|pk E E E<|pk E E E<|zr<|hJx_2 true _ _ _ _ [] H22 E ⟨E,E,E,E,E,E,True.intro⟩ E) fun c_6 H22=>ceF E E E (c_6)<|pk E E E<|pk E E E<|zr<|hJx_2 false _ _ _ _ [] H22 E ⟨E,E,E,E,E,E,True.intro⟩ E);exact (s_v E (zz E) (zW 0 E ht_4)<|mv E E<|sk8 E E E E E E E E<|sk2 E E<|pk E E E<|zr<|hJx_2 false _ _ _ _ [] H18 E ⟨E,E,E,E,E,E,True.intro⟩ E)))) fun c H5=>s_p E (yF (zD E E) c)<|nx<|zC<|c_f E E<|qt<|zl<|zl<|zI<|hJx out_1 _ _ _ _ [] H5 E ⟨E,True.intro⟩ E)
end Go.Proofs.YtabdpmnhjlmnlaaGreatDoor
end
section
namespace Go.Cr
open Go Go.Pt
def lsC (ls:Nat→Ls):List Value:=cF 16 fun i=>lsL (ls i)
theorem lsC_len {ls:Nat→Ls}:(lsC ls).length=96:=xr (w:=6) fun _ _=>rfl
theorem zfH {ls:Nat→Ls} {i j x:Nat} (hi:i<16) (hj:j<6) (hx:x=i*6+j):nthL (lsC ls) x=nthL (lsL (ls i)) j:=by
 subst hx;exact zeo (w:=6) (fun _ _=>rfl) hi hj
theorem zbC {ls:Nat→Ls} {i x:Nat} (hi:i<16) (hx:x=i*6):lpart (lsC ls) x 6=some (lsL (ls i)):=by
 subst hx
 have:=zfY (w:=6) (k:=0) (m:=6) (n:=16) (f:=fun i=>lsL (ls i)) (fun _ _=>rfl) hi (by decide)
 rw[Nat.add_zero] at this
 exact this
theorem zfG {ls:Nat→Ls} {i j x:Nat} {vs:List Value} {l:Ls} (hi:i<16) (hx:x=i*6+j) (hj:j+vs.length≤6) (he:spl (lsL (ls i)) j vs=lsL l):spl (lsC ls) x vs=lsC (upd ls i l):=by
 subst hx
 unfold lsC
 rw[zen (w:=6) (fun _ _=>rfl) hi hj,he]
 refine ye fun g _=>?_
 by_cases e:g=i
 ·subst e;simp only[zq]
 ·simp only[zo e]
theorem zoG {n:Nat} {f:Nat→List Value} (h:∀ i,i<n→(f i).all (·.oneCell')=true):(cF n f).all (·.oneCell')=true:=by
 rw[List.all_eq_true]
 intro x hx
 obtain⟨i,hi,h2⟩:=zmz hx
 exact List.all_eq_true.1 (h i hi) x h2
theorem qu {ls:Nat→Ls}:(lsC ls).all (·.oneCell')=true:=zoG fun _ _=>rfl
end Go.Cr
namespace Go.Proofs.YtabdpmnhjlmnlaaGreatDoor
open Go Go.Pt Go.Cr
section
variable {S:Mem} {ls:Nat→Ls}
theorem gT {n:Int} {Q:List Value→Int→Mem→Prop} (hY:0≤n→n≤15→(ls n.toNat).on=true→Q (lsL (ls n.toNat)) 0 S) (hN:(n<0∨15<n∨(ls n.toNat).on=false)→Q (lsL ls0) 2 S):yh S (lsC ls) n Q:=by
 apply zcU
 unfold vH
 refine⟨lsC_len,?_⟩
 simp only[jn]
 by_cases h0:n<0
 ·rw[if_pos h0];exact hN (.inl h0)
 rw[if_neg h0]
 by_cases h1:16≤n
 ·rw[if_pos h1];exact hN (.inr (.inl (by omega)))
 rw[if_neg h1]
 refine⟨by omega,by omega,?_⟩
 rw[zaF (zfH (i:=n.toNat) (j:=0) (by omega) (by decide) (by omega))]
 cases hon:(ls n.toNat).on with
 | false=>rw[if_neg (by decide)];exact hN (.inr (.inr hon))
 | true=>
  rw[if_pos rfl]
  refine⟨rfl,by omega,by omega,?_⟩
  rw[jo (zbC (i:=n.toNat) (by omega) (by omega))]
  exact⟨rfl,hY (by omega) (by omega) hon⟩
theorem zaA {n:Int} {p:Int} {Q:Bool→Mem→Prop} (hQ:Q (decide (0≤n∧n<6∧0≤p∧p<32)) S):kw S n p Q:=by
 apply zfm
 unfold gf
 by_cases h0:0≤n
 ·rw[if_pos h0]
  by_cases h1:n<6
  ·rw[if_pos h1]
   by_cases h2:0≤p
   ·rw[if_pos h2]
    have e:decide (0≤n∧n<6∧0≤p∧p<32)=decide (p<32):=decide_eq_decide.2 ⟨fun h=>h.2.2.2,fun h=>⟨h0,h1,h2,h⟩⟩
    rw[e] at hQ;exact hQ
   ·rw[if_neg h2];rw[decide_eq_false (fun h=>h2 h.2.2.1)] at hQ;exact hQ
  ·rw[if_neg h1];rw[decide_eq_false (fun h=>h1 h.2.1)] at hQ;exact hQ
 ·rw[if_neg h0];rw[decide_eq_false (fun h=>h0 h.1)] at hQ;exact hQ
def z96:List Value:=[.bool false,.int .i64 0,.int .i64 0,.int .i64 0,.bool false,.int .i64 0]
theorem zgH {n vm at_:Int} (hvm:0≤vm∧vm<6) {Q:List Value→Int→Mem→Prop}
  (h2:(n<0∨15<n∨(ls n.toNat).on=false)→Q (lsC ls) 2 S)
  (h7:0≤n→n≤15→(ls n.toNat).on=true→((ls n.toNat).to:Int)≠vm→Q (lsC ls) 7 S)
  (h8:0≤n→n≤15→(ls n.toNat).on=true→((ls n.toNat).to:Int)=vm→0≤(ls n.toNat).at_→Q (lsC ls) 8 S)
  (h1:0≤n→n≤15→(ls n.toNat).on=true→((ls n.toNat).to:Int)=vm→(ls n.toNat).at_<0→(at_<0∨31<at_)→Q (lsC ls) 1 S)
  (h0:0≤n→n≤15→(ls n.toNat).on=true→((ls n.toNat).to:Int)=vm→(ls n.toNat).at_<0→0≤at_→at_≤31→Q (lsC (upd ls n.toNat ((ls n.toNat).setA at_))) 0 S):wS S (lsC ls) n vm at_ Q:=by
 apply zau
 unfold xT
 refine⟨lsC_len,?_⟩
 simp only[jn]
 refine gT (fun a b hon=>?_) fun hbad=>?_
 ·refine⟨rfl,?_⟩
  rw[if_neg (by decide),zY (show nthL (lsL (ls n.toNat)) 3=some (.int .i64 (ls n.toNat).to) from rfl)]
  by_cases ht:((ls n.toNat).to:Int)=vm
  ·rw[if_neg (fun h=>h ht),zY (show nthL (lsL (ls n.toNat)) 5=some (.int .i64 (ls n.toNat).at_) from rfl)]
   by_cases hat:0≤(ls n.toNat).at_
   ·rw[if_pos hat];exact⟨qu,h8 a b hon ht hat⟩
   ·rw[if_neg hat]
    refine zaA ?_
    by_cases hp:0≤at_∧at_≤31
    ·rw[decide_eq_true ⟨hvm.1,hvm.2,hp.1,by omega⟩,if_pos rfl]
     refine⟨rfl,a,by omega,?_⟩
     rw[zfG (i:=n.toNat) (j:=5) (l:=((ls n.toNat).setA at_)) (by omega) (by omega) (by simp) rfl]
     exact⟨qu,h0 a b hon ht (by omega) hp.1 hp.2⟩
    ·rw[decide_eq_false (fun h=>hp ⟨h.2.2.1,by omega⟩),if_neg (by decide)]
     exact⟨qu,h1 a b hon ht (by omega) (by omega)⟩
  ·rw[if_pos ht];exact⟨qu,h7 a b hon ht⟩
 ·refine⟨rfl,?_⟩
  rw[if_pos (by decide)]
  exact⟨qu,h2 hbad⟩
theorem zhB {n vm:Int} {Q:List Value→Int→Mem→Prop}
  (h2:(n<0∨15<n∨(ls n.toNat).on=false)→Q (lsC ls) 2 S)
  (h7:0≤n→n≤15→(ls n.toNat).on=true→((ls n.toNat).to:Int)≠vm→Q (lsC ls) 7 S)
  (h10:0≤n→n≤15→(ls n.toNat).on=true→((ls n.toNat).to:Int)=vm→(ls n.toNat).at_<0→Q (lsC ls) 10 S)
  (h0:0≤n→n≤15→(ls n.toNat).on=true→((ls n.toNat).to:Int)=vm→0≤(ls n.toNat).at_→Q (lsC (upd ls n.toNat ((ls n.toNat).setA (-1)))) 0 S):xH S (lsC ls) n vm Q:=by
 apply zbh
 unfold wz
 refine⟨lsC_len,?_⟩
 simp only[jn]
 refine gT (fun a b hon=>?_) fun hbad=>?_
 ·refine⟨rfl,?_⟩
  rw[if_neg (by decide),zY (show nthL (lsL (ls n.toNat)) 3=some (.int .i64 (ls n.toNat).to) from rfl)]
  by_cases ht:((ls n.toNat).to:Int)=vm
  ·rw[if_neg (fun h=>h ht),zY (show nthL (lsL (ls n.toNat)) 5=some (.int .i64 (ls n.toNat).at_) from rfl)]
   by_cases hat:(ls n.toNat).at_<0
   ·rw[if_pos hat];exact⟨qu,h10 a b hon ht hat⟩
   ·rw[if_neg hat]
    refine⟨rfl,a,by omega,?_⟩
    rw[zfG (i:=n.toNat) (j:=5) (l:=((ls n.toNat).setA (-1))) (by omega) (by omega) (by simp) rfl]
    exact⟨qu,h0 a b hon ht (by omega)⟩
  ·rw[if_pos ht];exact⟨qu,h7 a b hon ht⟩
 ·refine⟨rfl,?_⟩
  rw[if_pos (by decide)]
  exact⟨qu,h2 hbad⟩
theorem zey {n vm:Int} {Q:List Value→Int→Mem→Prop}
  (h2:(n<0∨15<n∨(ls n.toNat).on=false)→Q (lsC ls) 2 S)
  (h7:0≤n→n≤15→(ls n.toNat).on=true→((ls n.toNat).fr:Int)≠vm→Q (lsC ls) 7 S)
  (h8:0≤n→n≤15→(ls n.toNat).on=true→((ls n.toNat).fr:Int)=vm→0≤(ls n.toNat).at_→Q (lsC ls) 8 S)
  (h0:0≤n→n≤15→(ls n.toNat).on=true→((ls n.toNat).fr:Int)=vm→(ls n.toNat).at_<0→Q (lsC (upd ls n.toNat ls0)) 0 S):yv S (lsC ls) n vm Q:=by
 apply gG
 unfold xf
 refine⟨lsC_len,?_⟩
 simp only[jn]
 refine gT (fun a b hon=>?_) fun hbad=>?_
 ·refine⟨rfl,?_⟩
  rw[if_neg (by decide),zY (show nthL (lsL (ls n.toNat)) 1=some (.int .i64 (ls n.toNat).fr) from rfl)]
  by_cases ht:((ls n.toNat).fr:Int)=vm
  ·rw[if_neg (fun h=>h ht),zY (show nthL (lsL (ls n.toNat)) 5=some (.int .i64 (ls n.toNat).at_) from rfl)]
   by_cases hat:0≤(ls n.toNat).at_
   ·rw[if_pos hat];exact⟨qu,h8 a b hon ht hat⟩
   ·rw[if_neg hat]
    refine⟨rfl,a,by omega,?_⟩
    rw[zfG (i:=n.toNat) (j:=0) (l:=ls0) (by omega) (by omega) (by simp) rfl]
    exact⟨qu,h0 a b hon ht (by omega)⟩
  ·rw[if_pos ht];exact⟨qu,h7 a b hon ht⟩
 ·refine⟨rfl,?_⟩
  rw[if_pos (by decide)]
  exact⟨qu,h2 hbad⟩
theorem zma {vm page:Int} {Q:Int→Mem→Prop}
  (hY:∀ i:Nat,i<16→(ls i).on=true→((ls i).to:Int)=vm→(ls i).at_=page→0≤page→Q i S)
  (hN:(∀ i,i<16→¬((ls i).on=true∧((ls i).to:Int)=vm∧(ls i).at_=page∧0≤page))→Q (-1) S):jV S (lsC ls) vm page Q:=by
 apply zdt
 unfold kL
 refine⟨lsC_len,?_⟩
 simp only[jn]
 refine zX (fun (z:Int) S'=>∃ i:Nat,z=(i:Int)∧i≤16∧S'=S∧∀ j,j<i→¬((ls j).on=true∧((ls j).to:Int)=vm∧(ls j).at_=page∧0≤page)) (fun z=>16-z.toNat) ?_ ⟨0,rfl,by omega,rfl,fun _ h=>by omega⟩
 rintro X z S' ⟨i,rfl,hi,rfl,hno⟩ ih
 by_cases hlt:(i:Int)<16
 ·rw[if_pos hlt]
  refine⟨by omega,by omega,?_⟩
  rw[Int.toNat_natCast,jo (zbC (i:=i) (by omega) rfl)]
  refine⟨rfl,?_⟩
  have go:¬((ls i).on=true∧((ls i).to:Int)=vm∧(ls i).at_=page∧0≤page)→X (IntKind.i64.wrap ((i:Int)+1)) S':=fun hn=>by
   rw[w64 (by omega) (by omega)]
   refine ih _ S' ⟨i+1,rfl,by omega,rfl,fun j hj=>?_⟩ (by omega)
   by_cases e:j=i
   ·subst e;exact hn
   ·exact hno j (by omega)
  rw[zaF (show nthL (lsL (ls i)) 0=some (.bool (ls i).on) from rfl)]
  by_cases hon:(ls i).on=true
  ·rw[if_pos hon,zY (show nthL (lsL (ls i)) 3=some (.int .i64 (ls i).to) from rfl)]
   by_cases ht:((ls i).to:Int)=vm
   ·rw[if_pos ht,zY (show nthL (lsL (ls i)) 5=some (.int .i64 (ls i).at_) from rfl)]
    by_cases hat:(ls i).at_=page
    ·rw[if_pos hat]
     by_cases h0:0≤page
     ·rw[if_pos h0];exact hY i (by omega) hon ht hat h0
     ·rw[if_neg h0];exact go fun h=>h0 h.2.2.2
    ·rw[if_neg hat];exact go fun h=>hat h.2.2.1
   ·rw[if_neg ht];exact go fun h=>ht h.2.1
  ·rw[if_neg hon];exact go fun h=>hon h.1
 ·rw[if_neg hlt]
  exact hN fun j hj=>hno j (by omega)
theorem zjh {vm:Nat} {page:Int} {Q:Bool→Mem→Prop} (hQ:Q (lentL ls vm page) S):ky S (lsC ls) vm page Q:=by
 apply zbT
 unfold vb
 refine⟨lsC_len,?_⟩
 simp only[jn]
 refine zX (fun (z:Int) S'=>∃ i:Nat,z=(i:Int)∧i≤16∧S'=S∧∀ j,j<i→¬((ls j).on=true∧(ls j).fr=vm∧((ls j).pg:Int)=page)) (fun z=>16-z.toNat) ?_ ⟨0,rfl,by omega,rfl,fun _ h=>by omega⟩
 rintro X z S' ⟨i,rfl,hi,rfl,hno⟩ ih
 by_cases hlt:(i:Int)<16
 ·rw[if_pos hlt]
  refine⟨by omega,by omega,?_⟩
  rw[Int.toNat_natCast,jo (zbC (i:=i) (by omega) rfl)]
  refine⟨rfl,?_⟩
  have go:¬((ls i).on=true∧(ls i).fr=vm∧((ls i).pg:Int)=page)→X (IntKind.i64.wrap ((i:Int)+1)) S':=fun hn=>by
   rw[w64 (by omega) (by omega)]
   refine ih _ S' ⟨i+1,rfl,by omega,rfl,fun j hj=>?_⟩ (by omega)
   by_cases e:j=i
   ·subst e;exact hn
   ·exact hno j (by omega)
  rw[zaF (show nthL (lsL (ls i)) 0=some (.bool (ls i).on) from rfl)]
  by_cases hon:(ls i).on=true
  ·rw[if_pos hon,zY (show nthL (lsL (ls i)) 1=some (.int .i64 (ls i).fr) from rfl)]
   by_cases ht:((ls i).fr:Int)=vm
   ·rw[if_pos ht,zY (show nthL (lsL (ls i)) 2=some (.int .i64 (ls i).pg) from rfl)]
    by_cases hat:((ls i).pg:Int)=page
    ·rw[if_pos hat]
     have e:lentL ls vm page=true:=by
      unfold lentL
      rw[List.any_eq_true]
      refine⟨i,List.mem_range.2 (by omega),?_⟩
      have:(ls i).fr=vm:=by omega
      simp[hon,this,hat]
     rw[e] at hQ;exact hQ
    ·rw[if_neg hat];exact go fun h=>hat h.2.2
   ·rw[if_neg ht];exact go fun h=>ht (by omega)
  ·rw[if_neg hon];exact go fun h=>hon h.1
 ·rw[if_neg hlt]
  have e:lentL ls vm page=false:=by
   unfold lentL
   rw[List.any_eq_false]
   intro j hj
   have:=hno j (by have:=List.mem_range.1 hj;omega)
   simp only[Bool.and_eq_true,decide_eq_true_eq]
   exact this
  rw[e] at hQ;exact hQ
theorem zhA {vm to p:Nat} {w:Bool} (hvm:vm<6) (hto:to<6) (hp:p<32) {Q:List Value→Int→Int→Mem→Prop}
  (h1:vm=to→Q (lsC ls) 0 1 S)
  (h3:vm≠to→firstOff (fun i=>(ls i).on) 16=none→Q (lsC ls) 0 3 S)
  (h0:∀ i,vm≠to→firstOff (fun i=>(ls i).on) 16=some i→Q (lsC (upd ls i ⟨true,vm,p,to,w,-1⟩)) i 0 S):vu S (lsC ls) vm p to w Q:=by
 apply zbg
 unfold wy
 refine⟨lsC_len,?_⟩
 simp only[jn]
 refine zaA ?_
 rw[decide_eq_true ⟨by omega,by omega,by omega,by omega⟩,if_pos rfl]
 refine zaA ?_
 rw[decide_eq_true ⟨by omega,by omega,by omega,by omega⟩,if_pos rfl]
 by_cases he:vm=to
 ·rw[if_pos (by omega)]
  exact⟨qu,h1 he⟩
 rw[if_neg (by omega)]
 refine⟨rfl,?_⟩
 refine zX (fun (z:Int×List Value×List Value) S'=>∃ (i:Nat) (v:List Value),z=((i:Int),lsC ls,v)∧v.length=96∧i≤16∧S'=S∧∀ j,j<i→(ls j).on=true) (fun z=>16-z.1.toNat) ?_ ⟨0,_,rfl,rfl,by omega,rfl,fun _ h=>by omega⟩
 rintro X z S' ⟨i,v,rfl,hv,hi,rfl,hno⟩ ih
 dsimp only at ih ⊢
 refine⟨lsC_len,hv,?_⟩
 by_cases hlt:(i:Int)<16
 ·rw[if_pos hlt]
  refine⟨by omega,by omega,?_⟩
  rw[Int.toNat_natCast,jo (zbC (i:=i) (by omega) rfl)]
  refine⟨rfl,?_⟩
  rw[zaF (show nthL (lsL (ls i)) 0=some (.bool (ls i).on) from rfl)]
  cases hon:(ls i).on with
  | true=>
   rw[if_pos rfl,w64 (by omega) (by omega)]
   refine ih _ S' ⟨i+1,v,rfl,hv,by omega,rfl,fun j hj=>?_⟩ (by dsimp only;omega)
   by_cases e:j=i
   ·subst e;exact hon
   ·exact hno j (by omega)
  | false=>
   rw[if_neg (by decide)]
   refine⟨by omega,by omega,?_⟩
   rw[zfG (i:=i) (j:=0) (l:=⟨true,vm,p,to,w,-1⟩) (by omega) (by omega) (by simp) rfl]
   exact⟨qu,h0 i he (kD (by omega) hon hno)⟩
 ·rw[if_neg hlt]
  refine⟨lsC_len,hv,qu,h3 he ?_⟩
  cases hf:firstOff (fun i=>(ls i).on) 16 with
  | none=>rfl
  | some g=>
   obtain⟨a,b,_⟩:=qf hf
   rw[hno g (by omega)] at b;cases b
end
end Go.Proofs.YtabdpmnhjlmnlaaGreatDoor
end
