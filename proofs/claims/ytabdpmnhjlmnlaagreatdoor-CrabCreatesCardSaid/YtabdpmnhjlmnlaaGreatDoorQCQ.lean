/- Texts of this work,joined by program (pack.py): Du,Rz,PsP,PsR,Dv,Ke,PsW,Jh,Jb,Js. -/
import Derived.Test.YtabdpmnhjlmnlaaGreatDoorQCM
import Derived.Test.YtabdpmnhjlmnlaaGreatDoorQCP
import Derived.Test.YtabdpmnhjlmnlaaGreatDoorQCC
import Derived.Test.YtabdpmnhjlmnlaaGreatDoorQCO
import Derived.Carry
set_option linter.unusedVariables false
section
namespace Go.Cr
open Go Go.Pt
def offO (o:Nat→Ow) (l:List Nat):Nat→Ow:=l.foldl (fun o f=>upd o f ow0) o
def offU (u:Nat→Bool) (l:List Nat):Nat→Bool:=l.foldl (fun u f=>upd u f false) u
theorem zfD:∀ {l:List Nat} {o:Nat→Ow} {f:Nat},offO o l f=if f∈l then ow0 else o f
 | [],o,f=>by simp[offO]
 | a :: l,o,f=>by
  show offO (upd o a ow0) l f=_
  rw[zfD]
  by_cases h:f∈l
  ·rw[if_pos h,if_pos (by simp[h])]
  ·rw[if_neg h]
   by_cases e:f=a
   ·subst e;rw[zq,if_pos (by simp)]
   ·rw[zo e,if_neg (by simp[e,h])]
theorem zhx:∀ {l:List Nat} {u:Nat→Bool} {f:Nat},offU u l f=if f∈l then false else u f
 | [],u,f=>by simp[offU]
 | a :: l,u,f=>by
  show offU (upd u a false) l f=_
  rw[zhx]
  by_cases h:f∈l
  ·rw[if_pos h,if_pos (by simp[h])]
  ·rw[if_neg h]
   by_cases e:f=a
   ·subst e;rw[zq,if_pos (by simp)]
   ·rw[zo e,if_neg (by simp[e,h])]
theorem zeN {N:Nat}:∀ {l:List Nat} {u:Nat→Bool},l.Nodup→(∀ f∈l,f<N∧u f=true)→count (fun i=>! offU u l i) N=count (fun i=>! u i) N+l.length
 | [],u,_,_=>rfl
 | a :: l,u,hnd,h=>by
  have ha:=h a (by simp)
  obtain⟨h1,h2⟩:=List.nodup_cons.1 hnd
  show count (fun i=>! offU (upd u a false) l i) N=_
  rw[zeN h2 fun f hf=>⟨(h f (by simp[hf])).1,by
   rw[zo (show f≠a from fun e=>h1 (by rw[←e];exact hf))]
   exact (h f (by simp[hf])).2⟩]
  have e1:(fun f=>! upd u a false f)=upd (fun f=>! u f) a true:=by
   funext g;unfold upd;split <;> rfl
  have:=kG (g:=fun f=>! u f) ha.1 true
  rw[←e1] at this
  simp only[ha.2,Bool.not_true,Bool.toNat_false,Bool.toNat_true] at this
  rw[List.length_cons];omega
def Wd.pgs (W:Wd) (n:Nat):List Nat:=(List.range 32).filter fun p=>(W.own n p).isSome
theorem zkq {W:Wd} {n:Nat}:(W.pgs n).length=W.pages n:=rfl
def offB (f:Nat→Bv) (n:Nat):Nat→Bv:=fun i=>if i=n then bv0 else { f i with bells:=upd (f i).bells n false }
def Cst.without (C:Cst) (n:Nat) (l:List Nat):Cst:=
 { C with vm:=offB C.vm n,late:=upd C.late n 0,tf:=upd C.tf n 0,fr:=upd C.fr n [],used:=offU C.used l,own:=offO C.own l,cache:=C.cache.filter fun r=>! decide (r.vm=(n:Int)),alm:=upd C.alm n fun _=>none }
def Wd.without (W:Wd) (n:Nat):Wd:=
 { W with free:=W.free+(5+W.pages n),vm:=offB W.vm n,own:=upd W.own n fun _=>none,alarm:=upd W.alarm n fun _=>none }
section
variable {C:Cst} {W:Wd} {φ:Nat→Nat→Nat} {n:Nat}
theorem zcn (hn:n<6) (hon:(W.vm n).on=true) (hwk:WOk W) (hls:∀ i,(W.ls i).on=false):W.destroy n=(0,W.without n):=by
 unfold Wd.destroy
 rw[if_neg (fun h=>h ⟨by omega,by omega,by rw[Int.toNat_natCast];exact hon⟩),Int.toNat_natCast]
 have e:(fun i=>if (W.ls i).on=true∧((W.ls i).fr=n∨(W.ls i).to=n) then ls0 else W.ls i)=W.ls:=by
  funext i
  rw[if_neg (by rw[hls i];rintro⟨h,_⟩;cases h)]
 rw[e];rfl
theorem gQ {f:Nat→Bv} {m:Nat} (h:(offB f n m).on=true):m≠n∧(f m).on=true:=by
 unfold offB at h
 split at h
 ·cases h
 ·rename_i e;exact⟨e,h⟩
theorem qW {f:Nat→Bv} {m:Nat} (h:m≠n):offB f n m = { f m with bells:=upd (f m).bells n false }:=if_neg h
theorem wQ {f:Nat→Bv}:offB f n n=bv0:=if_pos rfl
theorem WOk.without (h:WOk W) (hls:∀ i,(W.ls i).on=false):WOk (W.without n):=by
 have hown:∀ m p,(W.without n).own m p=if m=n then none else W.own m p:=fun m p=>by
  show upd W.own n (fun _=>none) m p=_
  by_cases e:m=n
  ·subst e;rw[zq,if_pos rfl]
  ·rw[zo e,if_neg e]
 refine⟨fun m hm=>?_,fun m hm=>?_,fun m hm=>?_,fun m s hs=>?_,fun m=>?_,fun m j hm=>?_,fun m=>?_,fun m k hk=>?_,fun m p l hl=>?_,fun m=>?_,fun i hi=>?_,fun i hi=>?_,fun i hi=>?_,fun i j hi=>?_,fun m k w hw=>?_⟩
 ·have hm':(offB W.vm n m).on=false:=hm
  by_cases e:m=n
  ·subst e
   refine⟨wQ,fun p=>by rw[hown,if_pos rfl],fun k=>?_⟩
   show upd W.alarm m _ m k=none
   rw[zq]
  ·rw[qW e] at hm'
   have:=h.off m hm'
   refine⟨?_,fun p=>by rw[hown,if_neg e];exact this.2.1 p,fun k=>?_⟩
   ·show offB W.vm n m=bv0
    rw[qW e,this.1]
    unfold bv0 upd
    simp
   ·show upd W.alarm n _ m k=none
    rw[zo e];exact this.2.2 k
 ·show (offB W.vm n m).on=false
  by_cases e:m=n
  ·subst e;rw[wQ];rfl
  ·rw[qW e];exact h.six m hm
 ·obtain⟨e,hm'⟩:=gQ hm
  show 1≤(offB W.vm n m).seats.length∧(offB W.vm n m).seats.length≤3
  rw[qW e];exact h.seats m hm'
 ·have hs':s∈(offB W.vm n m).seats:=hs
  by_cases e:m=n
  ·subst e;rw[wQ] at hs';cases hs'
  ·rw[qW e] at hs';exact h.ok m s hs'
 ·show (offB W.vm n m).keys.length≤64∧Byt (offB W.vm n m).keys
  by_cases e:m=n
  ·subst e;rw[wQ];exact⟨by decide,fun x hx=>by cases hx⟩
  ·rw[qW e];exact h.keys m
 ·obtain⟨e,hm'⟩:=gQ hm
  show ((offB W.vm n m).disk j).length=256∧Byt ((offB W.vm n m).disk j)
  rw[qW e];exact h.disk m j hm'
 ·show 0≤(offB W.vm n m).quota∧(offB W.vm n m).quota≤32
  by_cases e:m=n
  ·subst e;rw[wQ];exact⟨by decide,by decide⟩
  ·rw[qW e];exact h.quota m
 ·have hk':(offB W.vm n m).bells k=true:=hk
  by_cases e:m=n
  ·subst e;rw[wQ] at hk';cases hk'
  ·rw[qW e] at hk'
   have hk2:upd (W.vm m).bells n false k=true:=hk'
   by_cases ek:k=n
   ·subst ek;rw[zq] at hk2;cases hk2
   ·rw[zo ek] at hk2
    have:=h.bells m k hk2
    refine⟨?_,?_,?_,this.2.2.2⟩
    ·show (offB W.vm n m).on=true
     rw[qW e];exact this.1
    ·show (offB W.vm n k).on=true
     rw[qW ek];exact this.2.1
    ·show (offB W.vm n k).bells m=true
     rw[qW ek]
     show upd (W.vm k).bells n false m=true
     rw[zo e];exact this.2.2.1
 ·rw[hown] at hl
  split at hl
  ·cases hl
  ·rename_i e
   have:=h.pg m p l hl
   refine⟨?_,this.2⟩
   show (offB W.vm n m).on=true
   rw[qW e];exact this.1
 ·show ((W.without n).pages m:Int)≤(offB W.vm n m).quota
  by_cases e:m=n
  ·subst e
   have:(W.without m).pages m=0:=xm fun p _=>by rw[hown,if_pos rfl];rfl
   rw[this,wQ];exact Int.le_refl 0
  ·have:(W.without n).pages m=W.pages m:=wU fun p _=>by rw[hown,if_neg e]
   rw[this,qW e];exact h.most m
 ·have:(W.ls i).on=true:=hi
  rw[hls i] at this;cases this
 ·exact h.lso i hi
 ·have:(W.ls i).on=true:=hi
  rw[hls i] at this;cases this
 ·have:(W.ls i).on=true:=hi
  rw[hls i] at this;cases this
 ·have hw':upd W.alarm n (fun _=>none) m k=some w:=hw
  by_cases e:m=n
  ·subst e;rw[zq] at hw';cases hw'
  ·rw[zo e] at hw'
   show k<(offB W.vm n m).seats.length∧_
   rw[qW e];exact h.alarm m k w hw'
def Rel.frs (_h:Rel C W φ) (n:Nat):List Nat:=(W.pgs n).map (φ n)++C.fr n
theorem zhG (h:Rel C W φ) (hon:(W.vm n).on=true) {f:Nat}:f∈(W.pgs n).map (φ n)++C.fr n↔f<C.N∧((C.own f).kind=3∨(C.own f).kind=2)∧(C.own f).vm=n:=by
 rw[List.mem_append,List.mem_map]
 constructor
 ·rintro (⟨p,hp,rfl⟩ | hf)
  ·obtain⟨l,hl⟩:=Option.isSome_iff_exists.1 (List.mem_filter.1 hp).2
   have:=h.pg n p l hl
   exact⟨this.1,.inl (by rw[this.2.1]),by rw[this.2.1]⟩
  ·have:=h.tabf n f hf
   exact⟨this.1,.inr (by rw[this.2]),by rw[this.2]⟩
 ·rintro⟨hf,hk | hk,hv⟩
  ·left
   obtain⟨m,q,h1,h2⟩:=h.pgk f hf hk
   obtain⟨l,hl⟩:=Option.isSome_iff_exists.1 h1
   have h3:=(h.pg m q l hl).2.1
   rw[h2] at h3
   rw[h3] at hv
   have:m=n:=by simp only at hv;omega
   subst this
   exact⟨q,List.mem_filter.2 ⟨List.mem_range.2 (h.wk.pg m q l hl).2.1,h1⟩,h2⟩
  ·right
   obtain⟨m,hm⟩:=h.tabk f hf hk
   have:=(h.tabf m f hm).2
   rw[this] at hv
   have:m=n:=by simp only at hv;omega
   subst this;exact hm
theorem zkp (h:Rel C W φ):((W.pgs n).map (φ n)).Nodup:=by
 unfold List.Nodup
 rw[List.pairwise_map]
 have hnd:=List.Pairwise.filter (fun p=>(W.own n p).isSome) (List.nodup_range (n:=32))
 rw[List.pairwise_iff_forall_sublist] at hnd ⊢
 intro a b hs he
 have ha:a∈(List.range 32).filter fun p=>(W.own n p).isSome:=hs.subset (by simp)
 have hb:b∈(List.range 32).filter fun p=>(W.own n p).isSome:=hs.subset (by simp)
 obtain⟨la,hla⟩:=Option.isSome_iff_exists.1 (List.mem_filter.1 ha).2
 obtain⟨lb,hlb⟩:=Option.isSome_iff_exists.1 (List.mem_filter.1 hb).2
 exact hnd hs (h.inj hla hlb he).2
theorem zdZ (h:Rel C W φ) (hon:(W.vm n).on=true):((W.pgs n).map (φ n)++C.fr n).Nodup:=by
 rw[List.nodup_append]
 refine⟨zkp h,(h.tab n hon).2.2,fun a ha b hb e=>?_⟩
 subst e
 obtain⟨p,hp,rfl⟩:=List.mem_map.1 ha
 obtain⟨l,hl⟩:=Option.isSome_iff_exists.1 (List.mem_filter.1 hp).2
 have h1:=(h.pg n p l hl).2.1
 have h2:=(h.tabf n _ hb).2
 rw[h1] at h2;simp at h2
theorem zis (h:Rel C W φ) (hon:(W.vm n).on=true) {f:Nat} (hf:f∈(W.pgs n).map (φ n)++C.fr n):f<C.N∧C.used f=true:=by
 have:=(zhG h hon).1 hf
 refine⟨this.1,?_⟩
 rw[h.used f this.1]
 exact decide_eq_true (by omega)
theorem Rel.destroy (h:Rel C W φ) (hon:(W.vm n).on=true) (hls:∀ i,(W.ls i).on=false):Rel (C.without n ((W.pgs n).map (φ n)++C.fr n)) (W.without n) φ:=by
 have hmem:=fun f=>zhG h hon (f:=f)
 have hcount:=zeN (zdZ h hon) fun f hf=>zis h hon hf
 have hnd:=zdZ h hon
 have hlen:((W.pgs n).map (φ n)++C.fr n).length=W.pages n+5:=by
  rw[List.length_append,List.length_map,zkq,(h.tab n hon).2.1]
 generalize hL:(W.pgs n).map (φ n)++C.fr n=L at hmem hcount hnd hlen
 have hown:∀ f,(C.without n L).own f=if f∈L then ow0 else C.own f:=fun f=>zfD
 have hno:∀ f,f<C.N→(C.own f).vm≠n→(C.without n L).own f=C.own f:=fun f hf hv=>by
  rw[hown,if_neg fun h=>hv ((hmem f).1 h).2.2]
 have hwo:∀ m p,(W.without n).own m p=if m=n then none else W.own m p:=fun m p=>by
  show upd W.own n (fun _=>none) m p=_
  by_cases e:m=n
  ·subst e;rw[zq,if_pos rfl]
  ·rw[zo e,if_neg e]
 have hwh:∀ m p,m≠n→(W.without n).where_ m p=W.where_ m p:=fun m p e=>by
  unfold Wd.where_
  rw[hwo,if_neg e];rfl
 refine⟨h.wk.without hls,by show offB C.vm n=offB W.vm n;rw[h.vm],h.ls,h.ev,h.N,h.form,h.now,fun m hm=>?_,fun m k=>?_,?_,h.left,fun f hf=>?_,fun f hf hk=>?_,fun f hf=>?_,h.len,fun m hm=>?_,fun m hm=>?_,fun m f hf=>?_,fun f hf hk=>?_,fun m j hm hj=>?_,fun m p hm hp=>?_,fun m p l hl=>?_,fun f hf hk=>?_,⟨h.hyp.1,fun f=>?_⟩,fun r hr=>?_,?_⟩
 ·obtain⟨e,hm'⟩:=gQ hm
  have:=h.time m hm'
  show 0≤upd C.late n 0 m∧upd C.late n 0 m≤C.now∧W.time m=C.now-upd C.late n 0 m
  rw[zo e];exact this
 ·show upd C.alm n (fun _=>none) m k=(upd W.alarm n (fun _=>none) m k).map fun w=>min (w+upd C.late n 0 m) most64
  by_cases e:m=n
  ·subst e;rw[zq,zq,zq];rfl
  ·rw[zo e,zo e,zo e];exact h.alm m k
 ·show W.free+(5+(W.pages n:Int))=(count (fun f=>! offU C.used L f) C.N:Int)
  rw[hcount,hlen,h.free];omega
 ·show offU C.used L f=decide (((C.without n L).own f).kind≠0)
  rw[zhx,hown]
  by_cases e:f∈L
  ·rw[if_pos e,if_pos e];rfl
  ·rw[if_neg e,if_neg e];exact h.used f hf
 ·rw[hown] at hk ⊢
  split
  ·rfl
  ·rename_i e
   rw[if_neg e] at hk
   exact h.own0 f hf hk
 ·rw[hown]
  split
  ·exact⟨by decide,by decide⟩
  ·exact h.kind f hf
 ·have hm':(offB W.vm n m).on=false:=hm
  show upd C.fr n [] m=[]∧upd C.tf n 0 m=0∧upd C.late n 0 m=0
  by_cases e:m=n
  ·subst e;rw[zq,zq,zq];exact⟨rfl,rfl,rfl⟩
  ·rw[zo e,zo e,zo e]
   rw[qW e] at hm'
   exact h.off m hm'
 ·obtain⟨e,hm'⟩:=gQ hm
  show upd C.tf n 0 m=C.form∧(upd C.fr n [] m).length=5∧(upd C.fr n [] m).Nodup
  rw[zo e,zo e];exact h.tab m hm'
 ·have hf':f∈upd C.fr n [] m:=hf
  by_cases e:m=n
  ·subst e;rw[zq] at hf';cases hf'
  ·rw[zo e] at hf'
   have:=h.tabf m f hf'
   refine⟨this.1,?_⟩
   rw[hno f this.1 (by rw[this.2];simp only;omega)];exact this.2
 ·rw[hown] at hk
  split at hk
  ·cases hk
  ·rename_i e
   obtain⟨m,hm⟩:=h.tabk f hf hk
   refine⟨m,?_⟩
   show f∈upd C.fr n [] m
   rw[zo fun em=>e ((hmem f).2 ⟨hf,.inr hk,by rw[(h.tabf m f hm).2,em]⟩)]
   exact hm
 ·obtain⟨e,hm'⟩:=gQ hm
  show unp C.form (ld C.dat ((upd C.fr n [] m).getD 0 0) j)=some ((upd C.fr n [] m).getD (j+1) 0,true)
  rw[zo e];exact h.root m j hm' hj
 ·obtain⟨e,hm'⟩:=gQ hm
  show unp C.form (ld C.dat ((upd C.fr n [] m).getD (p/8+1) 0) (p%8))=_
  rw[zo e,hwh m p e];exact h.leaf m p hm' hp
 ·rw[hwo] at hl
  split at hl
  ·cases hl
  ·rename_i e
   have:=h.pg m p l hl
   refine⟨this.1,?_,this.2.2⟩
   rw[hno _ this.1 (by rw[this.2.1];simp only;omega)];exact this.2.1
 ·rw[hown] at hk
  split at hk
  ·cases hk
  ·rename_i e
   obtain⟨m,p,h1,h2⟩:=h.pgk f hf hk
   refine⟨m,p,?_,h2⟩
   rw[hwo,if_neg ?_]
   ·exact h1
   ·intro em
    obtain⟨l,hl⟩:=Option.isSome_iff_exists.1 h1
    have h3:=(h.pg m p l hl).2.1
    rw[h2] at h3
    exact e ((hmem f).2 ⟨hf,.inl hk,by rw[h3,em]⟩)
 ·refine (h.hyp.2 f).trans ?_
  constructor
  ·rintro⟨h1,h2⟩
   refine⟨h1,?_⟩
   rw[hown,if_neg fun hm=>by have:=((hmem f).1 hm).2.1;omega];exact h2
  ·rintro⟨h1,h2⟩
   refine⟨h1,?_⟩
   rw[hown] at h2
   split at h2
   ·cases h2
   ·exact h2
 ·obtain⟨h1,h2⟩:=List.mem_filter.1 hr
  obtain⟨m,hm1,hm2,hm3⟩:=h.cache r h1
  have e:m≠n:=fun e=>by
   subst e
   rw[hm1] at h2;simp at h2
  refine⟨m,hm1,?_,?_⟩
  ·show (offB W.vm n m).on=true
   rw[qW e];exact hm2
  ·show walkC C.dat C.N (upd C.tf n 0 m) (upd C.fr n [] m) r.page=_
   rw[zo e,zo e];exact hm3
 ·exact Nat.le_trans (List.length_filter_le _ _) h.csize
end
end Go.Cr
end
section
namespace Go.Cr
open Go Go.Pt
section
variable {S S':Mem} {ρ ρ':Rho} {R:Nat→Prop} {r:Nat} {D:Ra} {W:Wd} {n:Nat}
theorem RefA.lpart (h:RefA S ρ r D W) {i x:Nat} (hi:i<16) (hx:x=326+i*6):S.part r x 6=some (lsL (W.ls i)):=
 (h.hd.part (326+i*6) (by rw[Rc0.len];omega) (by omega)).trans (Rc0.getls (c:=D.c W) hi rfl)
theorem zoT:([.bool false,.slice (none) 0 0,.int .i64 0,.int .u64 0,.slice (none) 0 0,.slice (none) 0 0,.slice (none) 0 0,.slice (none) 0 0,.slice (none) 0 0,.bool false,.bool false,.bool false,.bool false,.bool false,.bool false,.pointer none,.bool false,.bool false,.bool false,.bool false,.bool false,.bool false,.bool false,.bool false,.bool false,.bool false,.bool false,.bool false,.bool false,.bool false,.bool false,.bool false,.bool false,.bool false,.bool false,.bool false,.bool false,.bool false,.bool false,.bool false,.bool false,.bool false,.bool false,.bool false,.bool false,.bool false,.bool false,.bool false,.bool false,.bool false,.bool false,.int .u64 0,.int .u64 0,.int .u64 0]:List Value)=rvL rv0 bv0 (fun _=>false) fun _=>false:=rfl
def offV (f:Nat→Bv) (n i:Nat):Nat→Bv:=fun m=>if m<i then { upd f n bv0 m with bells:=upd (upd f n bv0 m).bells n false } else upd f n bv0 m
theorem zhw {f:Nat→Bv} {i m:Nat} (h:¬m<i):offV f n i m=upd f n bv0 m:=if_neg h
theorem zfC {f:Nat→Bv} {i m:Nat} (h:m<i):offV f n i m = { upd f n bv0 m with bells:=upd (upd f n bv0 m).bells n false }:=if_pos h
theorem zkw {f:Nat→Bv} {i:Nat}:upd (offV f n i) i { offV f n i i with bells:=upd (offV f n i i).bells n false } = offV f n (i+1):=by
 funext m
 by_cases e:m=i
 ·subst e
  rw[zq,zhw (i:=m) (m:=m) (by omega),zfC (i:=m+1) (m:=m) (by omega)]
 ·rw[zo e]
  by_cases h1:m<i
  ·rw[zfC h1,zfC (i:=i+1) (by omega)]
  ·rw[zhw h1,zhw (i:=i+1) (by omega)]
def offC (D:Ra) (W:Wd) (n i:Nat):Rc0:=
 { D.c W with free:=W.free+(5+W.pages n),x:=upd D.x n rv0,vm:=offV W.vm n i,ow:=upd (D.c W).ow n fun _=>false,al:=upd (D.c W).al n fun _=>false }
theorem zkx {i:Nat} (hi:i<6) (hn:n<6):spl (offC D W n i).L (2+(i*54+(9+n))) [.bool false]=(offC D W n (i+1)).L:=by
 have hset:=Rc0.set (c:=offC D W n i) (n:=i) (j:=9+n) (vs:=[.bool false]) (x':=(offC D W n i).x i) (v':={ offV W.vm n i i with bells:=upd (offV W.vm n i i).bells n false }) (ow':=(offC D W n i).ow i) (al':=(offC D W n i).al i) hi (by simp;omega) rfl (zkh hn)
 rw[hset,xG,xG,xG]
 have e:(offC D W n i).vm=offV W.vm n i:=rfl
 rw[e,zkw];rfl
theorem zlS (hn:n<6):(offC D W n 6).L=((D.setX n rv0).c (W.without n)).L:=by
 have e1:(fun i p=>((W.without n).own i p).isSome)=upd (D.c W).ow n fun _=>false:=by
  funext i p
  show (upd W.own n (fun _=>none) i p).isSome=_
  by_cases e:i=n
  ·subst e;rw[zq,zq];rfl
  ·rw[zo e,zo e];rfl
 have e2:(fun i k=>((W.without n).alarm i k).isSome)=upd (D.c W).al n fun _=>false:=by
  funext i k
  show (upd W.alarm n (fun _=>none) i k).isSome=_
  by_cases e:i=n
  ·subst e;rw[zq,zq];rfl
  ·rw[zo e,zo e];rfl
 unfold Ra.c
 rw[e1,e2]
 unfold Rc0.L offC
 show _++(cF 6 (fun i=>rvL (upd D.x n rv0 i) (offV W.vm n 6 i) (upd (D.c W).ow n (fun _=>false) i) (upd (D.c W).al n (fun _=>false) i))++_)=_++(cF 6 (fun i=>rvL (upd D.x n rv0 i) (offB W.vm n i) (upd (D.c W).ow n (fun _=>false) i) (upd (D.c W).al n (fun _=>false) i))++_)
 rw[ye (n:=6) (g:=fun i=>rvL (upd D.x n rv0 i) (offB W.vm n i) (upd (D.c W).ow n (fun _=>false) i) (upd (D.c W).al n (fun _=>false) i)) fun i hi=>by
  rw[zfC hi]
  congr 1
  by_cases e:i=n
  ·subst e
   rw[zq,wQ]
   unfold bv0 upd;simp
  ·rw[zo e,qW e]]
 rfl
theorem without_own (m p:Nat):(W.without n).own m p=if m=n then none else W.own m p:=by
 show upd W.own n (fun _=>none) m p=_
 by_cases e:m=n
 ·subst e;rw[zq,if_pos rfl]
 ·rw[zo e,if_neg e]
theorem RefA.without (h:RefA S ρ r D W) (hwk:WOk W) (hn:n<6) (m:Mv S ρ S' ρ (· = 200)) (hd:Pc S' ρ 200 r ((D.setX n rv0).c (W.without n)).L):RefA S' ρ r (D.setX n rv0) (W.without n):=by
 have hx:∀ i,(D.setX n rv0).x i=if i=n then rv0 else D.x i:=fun i=>rfl
 refine⟨m.rg,hd,fun i hi=>?_,fun i hi ho=>?_,fun i p l hl=>?_,fun i hi=>(h.ev i hi).keep m (by omega),h.now,fun i ho=>?_,fun i k w hw=>?_⟩
 ·rw[hx]
  show RvP S' ρ i _ (offB W.vm n i)
  have h0:=(h.vs i hi).keep m hi fun q h1=>by omega
  by_cases e:i=n
  ·subst e
   rw[if_pos rfl,wQ]
   exact⟨Rw.nil,Kr.nil,fun h=>(by cases h),fun _=>rfl⟩
  ·rw[if_neg e,qW e]
   exact⟨h0.se,h0.ke,h0.di,h0.off⟩
 ·have ho':(offB W.vm n i).on=true:=ho
  obtain⟨e,ho2⟩:=gQ ho'
  obtain⟨mb,h1,h2⟩:=h.me i hi ho2
  rw[hx,if_neg e]
  refine⟨mb,h1,?_⟩
  have hg:((W.without n).gm i).map=(W.gm i).map:=by
   funext p
   show (if 32≤p then none else ((W.without n).where_ i p).map fun q=>(32*q.1+q.2.1,q.2.2))=if 32≤p then none else (W.where_ i p).map fun q=>(32*q.1+q.2.1,q.2.2)
   have:(W.without n).where_ i p=W.where_ i p:=by
    unfold Wd.where_
    rw[without_own,if_neg e];rfl
   rw[this]
  show Pc S' ρ (230+i) mb (meL D.A ((W.without n).gm i).map)
  rw[hg];exact h2.keep m (by omega)
 ·rw[without_own] at hl
  split at hl
  ·cases hl
  ·have h6:=hwk.six' hl
   exact (h.pg i p l hl).keep m (by omega)
 ·have ho':(offB W.vm n i).on=true:=ho
  obtain⟨e,ho2⟩:=gQ ho'
  rw[hx,if_neg e]
  exact h.time i ho2
 ·have hw':upd W.alarm n (fun _=>none) i k=some w:=hw
  by_cases e:i=n
  ·subst e;rw[zq] at hw';cases hw'
  ·rw[zo e] at hw'
   rw[hx,if_neg e];exact h.at_ i k w hw'
end
end Go.Cr
namespace Go.Proofs.YtabdpmnhjlmnlaaGreatDoor
open Go Go.Pt Go.Cr Go.Hp
section
variable {S S':Mem} {ρ ρ':Rho} {R:Nat→Prop} {r:Nat} {D:Ra} {W:Wd}
set_option maxHeartbeats 1000000 in
theorem zfx (h:RefA S ρ r D W) (hwk:WOk W) (hls:∀ i,(W.ls i).on=false) (hf : -90000≤W.free∧W.free≤90000) {n:Int} {Q:Int→Mem→Prop} (hQ:∀ S',RAft r S ρ (W.destroy n).2 S'→Q (W.destroy n).1 S'):qQ S (some (r,0)) n Q:=by
 apply jj
 unfold yj
 by_cases ht:¬W.there n
 ·refine qc (fun _=>True) trivial fun J _=>?_
  refine zdM h ?_
  have e:W.destroy n=(2,W):=by unfold Wd.destroy;rw[if_pos ht]
  rw[e] at hQ
  rw[decide_eq_false ht,if_neg (by decide)]
  exact hQ S (RAft.here h)
 have ht:=Decidable.not_not.1 ht
 refine qc (fun J=>J S) ?_ fun J hJ=>by
  refine zdM h ?_
  rw[decide_eq_true ht,if_pos rfl];exact hJ
 obtain⟨n,rfl⟩:∃ m:Nat,n=m:=⟨n.toNat,by have:=ht.1;omega⟩
 have hon:(W.vm n).on=true:=by have:=ht.2.2;rwa [Int.toNat_natCast] at this
 have hn:n<6:=by have:=ht.2.1;omega
 rw[zcn hn hon hwk hls] at hQ
 refine qc (fun J=>J S) ?_ fun J hJ=>?_
 rotate_left
 ·refine zX (fun (z:Int) S'=>∃ i:Nat,z=(i:Int)∧i≤16∧S'=S) (fun z=>16-z.toNat) ?_ ⟨0,rfl,by decide,rfl⟩
  rintro X z S1 ⟨i,rfl,hi,hS⟩ ih
  subst hS
  by_cases hlt:(i:Int)<16
  ·refine qc (fun J'=>J' S1) ?_ fun J' hJ'=>by rw[if_pos hlt];exact hJ'
   refine qc (fun J'=>J' S1) (by rw[w64 (by omega) (by omega)];exact ih _ _ ⟨i+1,by omega,by omega,rfl⟩ (by omega)) fun J' hJ'=>?_
   rw[qk]
   refine⟨by omega,hlt,?_⟩
   rw[jo (h.lpart (i:=i) (by omega) (by omega))]
   refine⟨rfl,?_⟩
   refine qc (fun J2=>J2 false S1) (by rw[if_neg (by decide)];exact hJ') fun J2 hJ2=>?_
   rw[zaF (show nthL (lsL (W.ls i)) 0=some (.bool (W.ls i).on) from rfl),hls i,if_neg (by decide)]
   exact hJ2
  ·refine qc (fun _=>True) trivial fun J' _=>?_
   rw[if_neg hlt];exact hJ
 rw[qk,zY h.c1]
 refine zdN h hn ?_
 refine⟨h.c1,?_⟩
 have hpc:W.pages n≤32:=kg _ 32
 have ew:IntKind.i64.wrap (W.free+IntKind.i64.wrap (5+(W.pages n:Int)))=W.free+(5+W.pages n):=by rw[w64 (x:=5+(W.pages n:Int)) (by omega) (by omega),w64 (by omega) (by omega)]
 rw[ew]
 refine h.put (i:=1) (vs:=[.int .i64 (W.free+(5+W.pages n))]) rfl (by simp) rfl fun S1 m1 hd1=>?_
 rw[Rc0.setf] at hd1
 refine⟨by omega,by omega,?_⟩
 rw[zoT]
 refine hd1.pt m1.rg (vs:=rvL rv0 bv0 (fun _=>false) fun _=>false) (2+(n*54+0)) (by rw[yf]) (by rw[yf,Rc0.len];omega) (by rw[Int.toNat_natCast];omega) fun S2 m2 hd2=>?_
 have hfull:spl (rvL (D.x n) (W.vm n) (fun p=>(W.own n p).isSome) fun k=>(W.alarm n k).isSome) 0 (rvL rv0 bv0 (fun _=>false) fun _=>false)=rvL rv0 bv0 (fun _=>false) (fun _=>false):=zbZ (by rw[yf,yf])
 have hset:=Rc0.set (c:={ D.c W with free:=W.free+(5+W.pages n) }) (n:=n) (j:=0) (vs:=rvL rv0 bv0 (fun _=>false) fun _=>false) (x':=rv0) (v':=bv0) (ow':=fun _=>false) (al':=fun _=>false) hn (by rw[yf];omega) rfl hfull
 rw[hset] at hd2
 have hd2':Pc S2 ρ 200 r (offC D W n 0).L:=hd2
 have m12:=m1.trans m2
 refine qc (fun J=>∀ S',Mv S ρ S' ρ (· = 200)→Pc S' ρ 200 r (offC D W n 6).L→J S') (fun S3 m3 hd3=>?_) fun J hJ=>?_
 ·rw[zlS hn] at hd3
  exact hQ S3 ((h.without hwk hn m3 hd3).aft m3 fun q hq=>by omega)
 refine zX (fun (z:Int) S'=>∃ i:Nat,z=(i:Int)∧i≤6∧Mv S ρ S' ρ (· = 200)∧Pc S' ρ 200 r (offC D W n i).L) (fun z=>6-z.toNat) ?_ ⟨0,rfl,by decide,m12,hd2'⟩
 rintro X z S3 ⟨i,rfl,hi,m3,hd3⟩ ih
 by_cases hlt:(i:Int)<6
 ·rw[if_pos hlt]
  refine⟨by omega,hlt,by omega,by omega,?_⟩
  refine hd3.pt m3.rg (vs:=[.bool false]) (2+(i*54+(9+n))) rfl (by rw[Rc0.len];simp;omega) (by rw[Int.toNat_natCast,Int.toNat_natCast];omega) fun S4 m4 hd4=>?_
  rw[zkx (by omega) hn] at hd4
  rw[w64 (by omega) (by omega)]
  exact ih _ _ ⟨i+1,by omega,by omega,m3.trans m4,hd4⟩ (by omega)
 ·rw[if_neg hlt]
  have:i=6:=by omega
  subst this
  exact hJ S3 m3 hd3
end
end Go.Proofs.YtabdpmnhjlmnlaaGreatDoor
end
section
namespace Go.Proofs.YtabdpmnhjlmnlaaGreatDoor
open Go Go.Pt
attribute [local irreducible] Code.wp Back bodyPost wpList FR WL WC WQ WA AW Tr Yc HC AllC
set_option maxRecDepth 20000
set_option maxHeartbeats 4000000
set_option linter.unusedVariables false
def xV (S:Mem) (h:Pt) (vm:Int) (Q:Int→Mem→Prop):Prop:=
 jn (fun (Sx:Mem)=>
 jn (fun (Sx_1:Mem)=>
 nn h fun b o=>
 gP (Sx_1.cell b (o+3)) fun t=>
 nn t fun b_1 o_1=>
 0≤vm∧vm<6 ∧
 gA (Sx_1.part b_1 (o_1+2+vm.toNat*12+2) 2) fun t_1=>
 t_1.all (·.oneCell')=true ∧
 gP (Sx_1.cell b o) fun t_2=>
 kr Sx_1 t_1 t_2 fun t_3 t_4 Sx_2=>
 jn (fun (Sx_3:Mem)=>
 jn (fun (Sx_4:Mem)=>
 wq Sx_4 (some (b,o+2)) vm fun Sx_5=>
 gP (Sx_5.cell b (o+3)) fun t_5=>
 nn t_5 fun b_3 o_2=>
 gP (Sx_5.cell b_3 (o_2+171)) fun t_6=>
 yW Sx_5 t_6 vm fun Sx_6=>
 gP (Sx_6.cell b (o+3)) fun t_7=>
 nn t_7 fun b_4 o_3=>
 0≤vm∧vm<6 ∧
 pt Sx_6 b_4 (o_3+2+vm.toNat*12) 12 ([.bool false,.slice (none) 0 0,.int .i64 0,.slice (none) 0 0,.int .i64 0,.int .u64 0,.slice (none) 0 0,.slice (none) 0 0,.slice (none) 0 0,.slice (none) 0 0,.slice (none) 0 0,.int .u32 0]) fun Sx_7=>
 jn (fun (Sx_8:Mem)=>
 Q 0 Sx_8) fun Jx=>
 lp (fun Xx (t_8:Int) (Sx_9:Mem)=>
 if t_8<6 then
 gP (Sx_9.cell b (o+3)) fun t_9=>
 nn t_9 fun b_5 o_4=>
 0≤t_8∧t_8<6 ∧
 gI (Sx_9.cell b_5 (o_4+2+t_8.toNat*12+11)) .u32 fun t_10=>
 0≤vm ∧
 0≤t_8∧t_8<6 ∧
 pt Sx_9 b_5 (o_4+2+t_8.toNat*12+11) 1 ([.int .u32 (iandn .u32 t_10 (ishl .u32 1 vm))]) fun Sx_10=>
 Xx (IntKind.i64.wrap (t_8+1)) Sx_10
 else
 Jx Sx_9) 0 Sx_7) fun Jx_1=>
 gL (nthL t_1 1) fun t_11=>
 lp (fun Xx_1 (t_12:Int) (Sx_11:Mem)=>
 if t_12<(t_11.n:Int) then
 sl t_11 fun b_6 o_5 n n_1=>
 0≤t_12∧t_12<((n:Nat):Int) ∧
 gI (Sx_11.cell b_6 (o_5+t_12.toNat*1)) .i64 fun t_13=>
 gP (Sx_11.cell b (o+3)) fun t_14=>
 nn t_14 fun b_7 o_6=>
 gP (Sx_11.cell b_7 (o_6+74)) fun t_15=>
 wc Sx_11 t_15 t_13 fun t_16 Sx_12=>
 gP (Sx_12.cell b (o+1)) fun t_17=>
 yg Sx_12 t_17 t_13 fun t_18 Sx_13=>
 Xx_1 (IntKind.i64.wrap (t_12+1)) Sx_13
 else
 Jx_1 Sx_11) 0 Sx_3) fun Jx_2=>
 lp (fun Xx_2 (t_19:Int) (Sx_14:Mem)=>
 if t_19<(t_4.n:Int) then
 sl t_4 fun b_8 o_7 n_2 n_3=>
 0≤t_19∧t_19<((n_2:Nat):Int) ∧
 gA (Sx_14.part b_8 (o_7+t_19.toNat*3) 3) fun t_20=>
 t_20.all (·.oneCell')=true ∧
 gP (Sx_14.cell b (o+3)) fun t_21=>
 nn t_21 fun b_10 o_8=>
 gP (Sx_14.cell b_10 (o_8+74)) fun t_22=>
 gI (nthL t_20 1) .i64 fun t_23=>
 yS Sx_14 t_22 t_23 vm fun t_24 Sx_15=>
 Sx_15.cell b (o+3)=some (.pointer (some ⟨b_10,o_8,none⟩)) ∧
 gP (Sx_15.cell b (o+1)) fun t_25=>
 gI (nthL t_20 1) .i64 fun t_26=>
 yg Sx_15 t_25 t_26 fun t_27 Sx_16=>
 Xx_2 (IntKind.i64.wrap (t_19+1)) Sx_16
 else
 Jx_2 Sx_14) 0 Sx_2) fun Jx_3=>
 nn h fun b_11 o_9=>
 gP (Sx.cell b_11 (o_9+3)) fun t_28=>
 nn t_28 fun b_12 o_10=>
 gA (Sx.part b_12 (o_10+75) 96) fun t_29=>
 jU Sx t_29 vm fun t_30 Sx_17=>
 lp (fun Xx_3 (t_31:Int) (Sx_18:Mem)=>
 if t_31<(t_30.n:Int) then
 sl t_30 fun b_13 o_11 n_4 n_5=>
 0≤t_31∧t_31<((n_4:Nat):Int) ∧
 gI (Sx_18.cell b_13 (o_11+t_31.toNat*1)) .i64 fun t_32=>
 zfU Sx_18 (some (b_11,o_9)) t_32 fun Sx_19=>
 Xx_3 (IntKind.i64.wrap (t_31+1)) Sx_19
 else
 Jx_3 Sx_18) 0 Sx_17) fun Jx_4=>
 if h=none then
 Q 2 S
 else
 nn h fun b_14 o_12=>
 gP (S.cell b_14 (o_12+3)) fun t_33=>
 qy S t_33 vm fun t_34 Sx_20=>
 if t_34=true then
 Jx_4 Sx_20
 else
 Q 2 Sx_20
theorem zax {S:Mem} {h:Pt} {vm:Int} {Q:Int→Mem→Prop} (H:xV S h vm Q):xk S h vm Q:=by
 unfold xV at H
 exact Tr.intro Tryz.func38 E Tryz.ntmps38 E fun w0=>csr<|gv E E<|nx<|zn H (fun (J:Mem→Prop) (z:Unit) S=>J S) (fun z=>⟨155,[(0,eP h),(1,.int .i64 vm)]⟩) (fun z=>[]) (fun _ Sx H1=>zn H1 (fun (J:Mem→Prop) (z:Unit) S=>J S) (fun z=>⟨155,[(0,eP h),(1,.int .i64 vm)]⟩) (fun z=>[]) (fun _ Sx_1 H2=>csr<|mv E E<|by obtain⟨b,o,rfl,H3⟩:=H2;exact s_p E (zJ E)<|s_p E (zv E E)<|gx H3 fun t ht H4=>s_v E (zz E) (zH ht)<|mv E E<|by obtain⟨b_1,o_1,rfl,H5⟩:=H4;exact s_p E (zJ E)<|s_p E (zv E E)<|an2 H5 fun c c_1 H6=>s_p E (qv E E c c_1 E)<|s_p E (zv E E)<|gx H6 fun t_1 ht_1 H7=>by refine s_v E (zT E (zG ht_1)) (yi ht_1) ?_;exact by refine zL E fun b_2=>?_;exact an H7 fun c_2 H8=>zp 0 E E E E E (zG ht_1) E c_2<|nx<|zC<|zM (by kernel_rfl)<|by refine aT 0 E (by decide +kernel) E (zT E (zG ht_1)) (zE (k:=2) 0 E (zk (zG ht_1))) ?_;exact aTP 1 E (by decide +kernel) E (zm E)<|by exact aTP 2 E (by decide +kernel) E (zJ E)<|by exact aTP 3 E (by decide +kernel) E (zv E E)<|by exact gx H8 fun t_2 ht_2 H9=>aT 4 E (by decide +kernel) E (zz E) (zH ht_2)<|by exact zB 5 (by decide +kernel) E<|by exact gO E E H9 fun t_3 t_4 Sx_2 H10=>zr<|zN zy<|aTP 6 E (by decide +kernel) E (zm E)<|by exact aTP 7 E (by decide +kernel) E (zg E E)<|by exact aTP 8 E (by decide +kernel) E (zg E E)<|by exact aTP 9 E (by decide +kernel) E (zS E)<|by exact aTP 10 E (by decide +kernel) E (zS E)<|by exact zK (by decide +kernel)<|by exact zt<|zn H10 (fun (J:Mem→Prop) (z:Unit) S=>J S) (fun z=>⟨155,[(0,.pointer (some ⟨b,o,none⟩)),(1,.int .i64 vm),(7,.pointer (some ⟨b_2,0,none⟩))]⟩) (fun z=>[⟨b_2,63,t_1⟩]) (fun _ Sx_3 H11=>zn H11 (fun (J:Mem→Prop) (z:Unit) S=>J S) (fun z=>⟨155,[(0,.pointer (some ⟨b,o,none⟩)),(1,.int .i64 vm)]⟩) (fun z=>[]) (fun _ Sx_4 H12=>csr<|mv E E<|s_p E (zJ E)<|s_p E (zv E E)<|mv E E<|fK E E H12 fun Sx_5 H13=>nxr<|mv E E<|s_p E (zJ E)<|s_p E (zv E E)<|gx H13 fun t_5 ht_5 H14=>s_v E (zz E) (zH ht_5)<|by obtain⟨b_3,o_2,rfl,H15⟩:=H14;exact s_p E (zJ E)<|s_p E (zv E E)<|gx H15 fun t_6 ht_6 H16=>s_v E (zz E) (zH ht_6)<|mv E E<|fK E E H16 fun Sx_6 H17=>nxr<|mv E E<|s_p E (zJ E)<|s_p E (zv E E)<|gx H17 fun t_7 ht_7 H18=>s_v E (zz E) (zH ht_7)<|mv E E<|s_p E (zF E E)<|by exact by obtain⟨b_4,o_3,rfl,H19⟩:=H18;exact s_p E (zJ E)<|s_p E (zv E E)<|an2 H19 fun c_3 c_4 H20=>s_p E (qv E E c_3 c_4 E)<|an H20 fun c_5 H21=>qo E E E E E c_5 E<|nx<|zn H21 (fun (J:Mem→Prop) (z:Unit) S=>J S) (fun z=>⟨155,[]⟩) (fun z=>[]) (fun _ Sx_8 H22=>csr<|gv E E<|nx<|zi<|zh Tryz.results38 (zd E ze) ⟨_,E,H22⟩) (fun Jx hJx H23=>csr<|mv E E<|nx<|zw<|qB (fun z=>⟨155,[(0,.pointer (some ⟨b,o,none⟩)),(1,.int .i64 vm),(134,.int .i64 z)]⟩) (fun z=>[]) 0 (idx:=[]) H23 E ⟨E,E,E,True.intro⟩ E<|fun Xx hXx t_8 Sx_9 H24=>csr<|iteK H24 (fun c_6 H25=>s_p E (yT (zD E E) c_6)<|nx<|zC<|c_t E E<|qg<|zt<|zC<|zw<|csr<|mv E E<|gv E E<|nx<|zM (by kernel_rfl)<|a_takeP 0 E (by decide +kernel) (zf (za (za (zf (za zc))))) E (zm E)<|by exact a_takeP 1 E (by decide +kernel) (zf (za (za (zf (za zc))))) E (zJ E)<|by exact a_takeP 2 E (by decide +kernel) (zf (za (za (zf (za zc))))) E (zv E E)<|by exact gx H25 fun t_9 ht_9 H26=>zV 3 E (by decide +kernel) (zf (za (za (zf (za zc))))) E (zz E) (zH ht_9)<|by exact a_takeP 4 E (by decide +kernel) (zf (za (za (zf (za zc))))) E (zm E)<|by exact by obtain⟨b_5,o_4,rfl,H27⟩:=H26;exact a_takeP 5 E (by decide +kernel) (zf (za (za (zf (za zc))))) E (zJ E)<|by exact a_takeP 6 E (by decide +kernel) (zf (za (za (zf (za zc))))) E (zv E E)<|by exact an2 H27 fun c_7 c_8 H28=>a_takeP 7 E (by decide +kernel) (zf (za (za (zf (za zc))))) E (qv E E c_7 c_8 E)<|by exact a_takeP 8 E (by decide +kernel) (zf (za (za (zf (za zc))))) E (zv E E)<|by exact gx H28 fun t_10 ht_10 H29=>zV 9 E (by decide +kernel) (zf (za (za (zf (za zc))))) E (zz E) (zH ht_10)<|by exact a_takeP 10 E (by decide +kernel) (zf (za (za (zf (za zc))))) E (zm E)<|by exact an H29 fun c_9 H30=>a_takeP 11 E (by decide +kernel) (zf (za (za (zf (za zc))))) E (zdk E E c_9)<|by exact a_takeP 12 E (by decide +kernel) (zf (za (za (zf (za zc))))) E (zjJ E E)<|by exact a_takeP 13 E (by decide +kernel) (zf (za (za (zf (za zc))))) E (zJ E)<|by exact a_takeP 14 E (by decide +kernel) (zf (za (za (zf (za zc))))) E (zv E E)<|by exact an2 H30 fun c_10 c_11 H31=>a_takeP 15 E (by decide +kernel) (zf (za (za (zf (za zc))))) E (qv E E c_10 c_11 E)<|by exact a_takeP 16 E (by decide +kernel) (zf (za (za (zf (za zc))))) E (zv E E)<|by exact zB 17 (by decide +kernel) E<|by exact an H31 fun c_12 H32=>qo E E E E E c_12 E<|zr<|zN zy<|zK (by decide +kernel)<|by exact zU<|zt<|zu<|s_p E (qh E E)<|mv E E<|zr<|hXx (IntKind.i64.wrap (t_8+1)) _ _ _ _ [] H32 E ⟨E,E,E,True.intro⟩ E) fun c_6 H25=>s_p E (yF (zD E E) c_6)<|nx<|zC<|c_f E E<|qt<|zl<|zl<|zI<|hJx () _ _ _ _ [] H25 E True.intro E)) (fun Jx_1 hJx_1 H33=>csr<|s_p E (zv E E)<|gx H33 fun t_11 ht_11 H34=>s_v E (zz E) (zW 0 E ht_11)<|s_p E (yk E)<|mv E E<|nx<|zw<|qB (fun z=>⟨155,[(0,.pointer (some ⟨b,o,none⟩)),(1,.int .i64 vm),(89,eL t_11),(90,.int .i64 (t_11.n:Int)),(91,.int .i64 z)]⟩) (fun z=>[]) 0 (idx:=[]) H34 E ⟨E,E,E,E,E,True.intro⟩ E<|fun Xx_1 hXx_1 t_12 Sx_11 H35=>csr<|iteK H35 (fun c_13 H36=>s_p E (yT (zD E E) c_13)<|nx<|zC<|c_t E E<|qg<|zt<|zC<|zw<|csr<|by obtain⟨b_6,o_5,n,n_1,rfl,H37⟩:=H36;exact an2 H37 fun c_14 c_15 H38=>s_p E (qS E E c_14 c_15 E)<|gx H38 fun t_13 ht_13 H39=>s_v E (zz E) (zH ht_13)<|gv E E<|nxr<|mv E E<|s_p E (zJ E)<|s_p E (zv E E)<|gx H39 fun t_14 ht_14 H40=>s_v E (zz E) (zH ht_14)<|by obtain⟨b_7,o_6,rfl,H41⟩:=H40;exact s_p E (zJ E)<|s_p E (zv E E)<|gx H41 fun t_15 ht_15 H42=>s_v E (zz E) (zH ht_15)<|mv E E<|qC E E H42 fun t_16 Sx_12 H43=>nx<|zu<|mv E E<|s_p E (zJ E)<|s_p E (zv E E)<|gx H43 fun t_17 ht_17 H44=>s_v E (zz E) (zH ht_17)<|mv E E<|qC E E H44 fun t_18 Sx_13 H45=>zr<|zU<|zt<|zu<|s_p E (qh E E)<|mv E E<|zr<|hXx_1 (IntKind.i64.wrap (t_12+1)) _ _ _ _ [] H45 E ⟨E,E,E,E,E,True.intro⟩ E) fun c_13 H36=>s_p E (yF (zD E E) c_13)<|nx<|zC<|c_f E E<|qt<|zl<|zl<|zI<|hJx_1 () _ _ _ _ [] H36 E ⟨E,E,True.intro⟩ E)) (fun Jx_2 hJx_2 H46=>csr<|mv E E<|s_p E (yk E)<|mv E E<|nx<|zw<|qB (fun z=>⟨155,[(0,.pointer (some ⟨b,o,none⟩)),(1,.int .i64 vm),(7,.pointer (some ⟨b_2,0,none⟩)),(63,eL t_4),(64,.int .i64 (t_4.n:Int)),(65,.int .i64 z)]⟩) (fun z=>[⟨b_2,63,t_1⟩]) 0 (idx:=[0]) H46 E ⟨E,E,E,E,E,E,True.intro⟩ E<|fun Xx_2 hXx_2 t_19 Sx_14 H47=>csr<|iteK H47 (fun c_16 H48=>s_p E (yT (zD E E) c_16)<|nx<|zC<|c_t E E<|qg<|zt<|zC<|zw<|csr<|by obtain⟨b_8,o_7,n_2,n_3,rfl,H49⟩:=H48;exact an2 H49 fun c_17 c_18 H50=>s_p E (qS E E c_17 c_18 E)<|gx H50 fun t_20 ht_20 H51=>by refine s_v E (zT E (zG ht_20)) (yi ht_20) ?_;exact by refine zL E fun b_9=>?_;exact an H51 fun c_19 H52=>zp 1 E E E E E (zG ht_20) E c_19<|nx<|zC<|zM (by kernel_rfl)<|a_takeP 0 E (by decide +kernel) (za (zf (za (za (zf (za zc)))))) E (zm E)<|by exact a_takeP 1 E (by decide +kernel) (za (zf (za (za (zf (za zc)))))) E (zJ E)<|by exact a_takeP 2 E (by decide +kernel) (za (zf (za (za (zf (za zc)))))) E (zv E E)<|by exact gx H52 fun t_21 ht_21 H53=>zV 3 E (by decide +kernel) (za (zf (za (za (zf (za zc)))))) E (zz E) (zH ht_21)<|by exact by obtain⟨b_10,o_8,rfl,H54⟩:=H53;exact a_takeP 4 E (by decide +kernel) (za (zf (za (za (zf (za zc)))))) E (zJ E)<|by exact a_takeP 5 E (by decide +kernel) (za (zf (za (za (zf (za zc)))))) E (zv E E)<|by exact gx H54 fun t_22 ht_22 H55=>zV 6 E (by decide +kernel) (za (zf (za (za (zf (za zc)))))) E (zz E) (zH ht_22)<|by exact a_takeP 7 E (by decide +kernel) (za (zf (za (za (zf (za zc)))))) E (zv E E)<|by exact gx H55 fun t_23 ht_23 H56=>zV 8 E (by decide +kernel) (za (zf (za (za (zf (za zc)))))) E (zz E) (zW 1 E ht_23)<|by exact a_takeP 9 E (by decide +kernel) (za (zf (za (za (zf (za zc)))))) E (zm E)<|by exact zB 10 (by decide +kernel) E<|by exact qC E E H56 fun t_24 Sx_15 H57=>by obtain⟨k,H58⟩:=H57;exact zr<|zN (zx (zH k) zy)<|zK (by decide +kernel)<|by exact zt<|zM (by kernel_rfl)<|a_takeP 0 E (by decide +kernel) (zf (za (za (zf (za zc))))) E (zm E)<|by exact a_takeP 1 E (by decide +kernel) (zf (za (za (zf (za zc))))) E (zJ E)<|by exact a_takeP 2 E (by decide +kernel) (zf (za (za (zf (za zc))))) E (zv E E)<|by exact gx H58 fun t_25 ht_25 H59=>zV 3 E (by decide +kernel) (zf (za (za (zf (za zc))))) E (zz E) (zH ht_25)<|by exact a_takeP 4 E (by decide +kernel) (zf (za (za (zf (za zc))))) E (zv E E)<|by exact gx H59 fun t_26 ht_26 H60=>zV 5 E (by decide +kernel) (zf (za (za (zf (za zc))))) E (zz E) (zW 1 E ht_26)<|by exact zB 6 (by decide +kernel) E<|by exact qC E E H60 fun t_27 Sx_16 H61=>zr<|zN zy<|zK (by decide +kernel)<|by exact zU<|zt<|zu<|s_p E (qh E E)<|mv E E<|zr<|hXx_2 (IntKind.i64.wrap (t_19+1)) _ _ _ _ [0] H61 E ⟨E,E,E,E,E,E,True.intro⟩ E) fun c_16 H48=>s_p E (yF (zD E E) c_16)<|nx<|zC<|c_f E E<|qt<|zl<|zl<|zI<|hJx_2 () _ _ _ _ [0] H48 E ⟨E,E,E,True.intro⟩ E)) (fun Jx_3 hJx_3 H62=>csr<|mv E E<|by obtain⟨b_11,o_9,rfl,H63⟩:=H62;exact s_p E (zJ E)<|s_p E (zv E E)<|gx H63 fun t_28 ht_28 H64=>s_v E (zz E) (zH ht_28)<|by obtain⟨b_12,o_10,rfl,H65⟩:=H64;exact s_p E (zJ E)<|s_p E (zv E E)<|gx H65 fun t_29 ht_29 H66=>by refine s_v E (zT E (zG ht_29)) (yi ht_29) ?_;exact mv E E<|qC E E H66 fun t_30 Sx_17 H67=>s_p E (yk E)<|mv E E<|nx<|zw<|qB (fun z=>⟨155,[(0,.pointer (some ⟨b_11,o_9,none⟩)),(1,.int .i64 vm),(34,eL t_30),(35,.int .i64 (t_30.n:Int)),(36,.int .i64 z)]⟩) (fun z=>[]) 0 (idx:=[]) H67 E ⟨E,E,E,E,E,True.intro⟩ E<|fun Xx_3 hXx_3 t_31 Sx_18 H68=>csr<|iteK H68 (fun c_20 H69=>s_p E (yT (zD E E) c_20)<|nx<|zC<|c_t E E<|qg<|zt<|zC<|zw<|csr<|by obtain⟨b_13,o_11,n_4,n_5,rfl,H70⟩:=H69;exact an2 H70 fun c_21 c_22 H71=>s_p E (qS E E c_21 c_22 E)<|gx H71 fun t_32 ht_32 H72=>s_v E (zz E) (zH ht_32)<|gv E E<|nx<|zu<|mv E E<|mv E E<|fK E E H72 fun Sx_19 H73=>zr<|zU<|zt<|zu<|s_p E (qh E E)<|mv E E<|zr<|hXx_3 (IntKind.i64.wrap (t_31+1)) _ _ _ _ [] H73 E ⟨E,E,E,E,E,True.intro⟩ E) fun c_20 H69=>s_p E (yF (zD E E) c_20)<|nx<|zC<|c_f E E<|qt<|zl<|zl<|zI<|hJx_3 () _ _ _ _ [] H69 E ⟨E,E,True.intro⟩ E)) (fun Jx_4 hJx_4 H74=>csr<|mv E E<|iteK H74 (fun c_23 H75=>s_p E (yT (qE (p:=h) E E) c_23)<|mv E E<|sk4 E E E E<|sk2 E E<|zP E<|pk E E E<|nx<|c_t E E<|csr<|gv E E<|nx<|zi<|zb<|zh Tryz.results38 (zd E ze) ⟨_,E,H75⟩) fun c_23 H75=>s_p E (yF (qE (p:=h) E E) c_23)<|mv E E<|mv E E<|by obtain⟨b_14,o_12,rfl,H76⟩:=H75;exact s_p E (zJ E)<|s_p E (zv E E)<|gx H76 fun t_33 ht_33 H77=>s_v E (zz E) (zH ht_33)<|mv E E<|qC E E H77 fun t_34 Sx_20 H78=>by have H79:=wM H78;rcases H79 with ⟨rfl,H80⟩ | ⟨rfl,H80⟩;exact (s_p E (yB (ql E) E)<|pk E E E<|nx<|cfs E E<|hJx_4 () _ _ _ _ [] H80 E ⟨E,E,True.intro⟩ E);exact (s_p E (yB (ql E) E)<|pk E E E<|nx<|c_t E E<|csr<|gv E E<|nx<|zi<|zb<|zh Tryz.results38 (zd E ze) ⟨_,E,H80⟩))
end Go.Proofs.YtabdpmnhjlmnlaaGreatDoor
end
section
namespace Go.Proofs.YtabdpmnhjlmnlaaGreatDoor
open Go Go.Pt
attribute [local irreducible] Code.wp Back bodyPost wpList FR WL WC WQ WA AW Tr Yc HC AllC
set_option maxRecDepth 20000
set_option maxHeartbeats 4000000
set_option linter.unusedVariables false
def wY (S:Mem) (t:List Value) (s:Pt) (Q:Sl→Sl→Mem→Prop):Prop:=
 t.length=2 ∧
 jn (fun (pages:Sl) (l:Sl) (Sx:Mem)=>
 Q pages l Sx) fun Jx=>
 lp (fun Xx (z:Sl×Sl×Int) (Sx_1:Mem)=>
 match z with
 | (pages_1,l_1,t_1)=>
 if t_1<32 then
 qw Sx_1 t s t_1 fun t_2 t_3 Sx_2=>
 t_2.all (·.oneCell')=true ∧
 if t_3=0 then
 ap Sx_2 3 1 8 [.int .i64 0] pages_1 1 ([.int .i64 t_1]) fun t_4 Sx_3=>
 t_2.all (·.oneCell')=true ∧
 ap Sx_3 111 3 24 [.bool false,.int .i64 0,.bool false] l_1 1 t_2 fun t_5 Sx_4=>
 Xx (t_4,t_5,IntKind.i64.wrap (t_1+1)) Sx_4
 else
 Xx (pages_1,l_1,IntKind.i64.wrap (t_1+1)) Sx_2
 else
 Jx pages_1 l_1 Sx_1) (⟨none,0,0⟩,⟨none,0,0⟩,0) S
theorem zbQ {S:Mem} {t:List Value} {s:Pt} {Q:Sl→Sl→Mem→Prop} (H:wY S t s Q):kr S t s Q:=by
 unfold wY at H
 exact Tr.intro Tryz.func86 E Tryz.ntmps86 E fun w0=>an H fun ht H1=>csr<|qM E E E fun b=>gv E E<|gv E E<|nxr<|gv E E<|nxr<|gv E E<|nx<|zn H1 (fun (J:Sl→Sl→Mem→Prop) (z:Sl×Sl) S=>J z.1 z.2 S) (fun z=>⟨34,[(6,eL z.1),(7,eL z.2)]⟩) (fun z=>[]) (by rintro⟨pages,l⟩ Sx H2;exact csr<|mv E E<|mv E E<|gv E E<|gv E E<|nx<|zi<|zh Tryz.results86 (zd E (zd E ze)) ⟨_,_,E,H2⟩) (fun Jx hJx H3=>csr<|mv E E<|nx<|zw<|qB (fun z=>⟨34,[(1,eP s),(2,.pointer (some ⟨b,0,none⟩)),(6,eL z.1),(7,eL z.2.1),(11,.int .i64 z.2.2)]⟩) (fun z=>[⟨b,63,t⟩]) (⟨none,0,0⟩,⟨none,0,0⟩,0) (idx:=[0]) H3 E ⟨E,E,E,E,E,True.intro⟩ E<|by rintro Xx hXx ⟨pages_1,l_1,t_1⟩ Sx_1 H4;exact csr<|iteK H4 (fun c H5=>s_p E (yT (zD E E) c)<|nx<|zC<|c_t E E<|qg<|zt<|zC<|zw<|csr<|mv E E<|gv E E<|nxr<|by refine s_v E (zT E ht) (zE (k:=2) 0 E (zk ht)) ?_;exact mv E E<|mv E E<|qr E E H5 fun rv Sx_2 H6=>by obtain⟨t_2,t_3,rfl,ht_2,H7⟩:=H6;exact mv E E<|s_p E (zg E E)<|s_p E (zg E E)<|by refine zL E fun b_1=>?_;exact an H7 fun c_1 H8=>zp 1 E E E E E ht_2 E c_1<|gv E E<|nxr<|mv E E<|iteK H8 (fun c_2 H9=>ceT E E E (c_2)<|nx<|c_t E E<|zM (by kernel_rfl)<|a_takeP 0 E (by decide +kernel) (zf (za (za (zf (za zc))))) E (zm E)<|by exact a_takeP 1 E (by decide +kernel) (zf (za (za (zf (za zc))))) E (zm E)<|by exact a_takeP 4 E (by decide +kernel) (zf (za (za (zf (za zc))))) E (zm E)<|by exact by refine zV 5 E (by decide +kernel) (zf (za (za (zf (za zc))))) E (zT E ht_2) (zE (k:=3) 1 E (zk ht_2)) ?_;exact gp 2 6 (by decide +kernel) E E (zgb E E (by decide) E fun b_2=>zr<|zN (zx (zE (k:=3) 1 E (zk ht_2)) zy)<|gp 3 6 (by decide +kernel) E E (vY (sx:=pages_1) (vs:=[.int .i64 t_1]) E E E (zgc 2 E E) E E (by decide) H9 fun t_4 Sx_3 H10=>zr<|zN (zx (zE (k:=3) 1 E (zk ht_2)) zy)<|zB 6 (by decide +kernel) E<|by exact zgb E E (by decide) (jd (size:=3) E ht_2) fun b_3=>zr<|zN zy<|zB 7 (by decide +kernel) E<|by exact an H10 fun c_3 H11=>vY (sx:=l_1) (vs:=t_2) E E E (zgc 3 E (zk ht_2)) ht_2 c_3 (by decide) H11 fun t_5 Sx_4 H12=>zr<|zN zy<|a_takeP 8 E (by decide +kernel) (zf (za (za (zf (za zc))))) E (zS E)<|by exact a_takeP 9 E (by decide +kernel) (zf (za (za (zf (za zc))))) E (zS E)<|by exact zK (by decide +kernel)<|by exact zU<|zt<|zu<|s_p E (qh E E)<|mv E E<|zr<|hXx (t_4,t_5,IntKind.i64.wrap (t_1+1)) _ _ _ _ [0] H12 E ⟨E,E,E,E,E,True.intro⟩ E) (zgb E E (by decide) (jd (size:=3) E ht_2) fun b_3=>zr<|zN zy<|zB 3 (by decide +kernel) E<|by exact vY (sx:=pages_1) (vs:=[.int .i64 t_1]) E E E (zgc 2 E E) E E (by decide) H9 fun t_4 Sx_3 H13=>zr<|zN zy<|zB 7 (by decide +kernel) E<|by exact an H13 fun c_3 H14=>vY (sx:=l_1) (vs:=t_2) E E E (zgc 3 E (zk ht_2)) ht_2 c_3 (by decide) H14 fun t_5 Sx_4 H15=>zr<|zN zy<|a_takeP 8 E (by decide +kernel) (zf (za (za (zf (za zc))))) E (zS E)<|by exact a_takeP 9 E (by decide +kernel) (zf (za (za (zf (za zc))))) E (zS E)<|by exact zK (by decide +kernel)<|by exact zU<|zt<|zu<|s_p E (qh E E)<|mv E E<|zr<|hXx (t_4,t_5,IntKind.i64.wrap (t_1+1)) _ _ _ _ [0] H15 E ⟨E,E,E,E,E,True.intro⟩ E)) (zgb E E (by decide) (jd (size:=3) E ht_2) fun b_2=>zr<|zN zy<|zB 2 (by decide +kernel) E<|by exact zgb E E (by decide) E fun b_3=>zr<|zN zy<|zB 3 (by decide +kernel) E<|by exact vY (sx:=pages_1) (vs:=[.int .i64 t_1]) E E E (zgc 3 E E) E E (by decide) H9 fun t_4 Sx_3 H16=>zr<|zN zy<|zB 7 (by decide +kernel) E<|by exact an H16 fun c_3 H17=>vY (sx:=l_1) (vs:=t_2) E E E (zgc 2 E (zk ht_2)) ht_2 c_3 (by decide) H17 fun t_5 Sx_4 H18=>zr<|zN zy<|a_takeP 8 E (by decide +kernel) (zf (za (za (zf (za zc))))) E (zS E)<|by exact a_takeP 9 E (by decide +kernel) (zf (za (za (zf (za zc))))) E (zS E)<|by exact zK (by decide +kernel)<|by exact zU<|zt<|zu<|s_p E (qh E E)<|mv E E<|zr<|hXx (t_4,t_5,IntKind.i64.wrap (t_1+1)) _ _ _ _ [0] H18 E ⟨E,E,E,E,E,True.intro⟩ E)) fun c_2 H9=>ceF E E E (c_2)<|nx<|cfs E E<|zU<|zt<|zu<|s_p E (qh E E)<|mv E E<|zr<|hXx (pages_1,l_1,IntKind.i64.wrap (t_1+1)) _ _ _ _ [0] H9 E ⟨E,E,E,E,E,True.intro⟩ E) fun c H5=>s_p E (yF (zD E E) c)<|nx<|zC<|c_f E E<|qt<|zl<|zl<|zI<|hJx (pages_1,l_1) _ _ _ _ [] H5 E ⟨E,E,True.intro⟩ E)
end Go.Proofs.YtabdpmnhjlmnlaaGreatDoor
end
section
namespace Go.Proofs.YtabdpmnhjlmnlaaGreatDoor
open Go Go.Pt Go.Cr Go.Hp
section
variable {S S':Mem} {ρ ρ':Rho} {R:Nat→Prop} {h:Nat} {A:Ad} {C:Cst} {W:Wd} {φ:Nat→Nat→Nat}
theorem zlY {ls:Nat→Ls} (hls:∀ i,(ls i).on=false) {n:Int} {Q:Sl→Mem→Prop} (hQ:Q ⟨none,0,0⟩ S):jU S (lsC ls) n Q:=by
 apply zds
 unfold kK
 refine⟨lsC_len,?_⟩
 simp only[jn]
 refine zX (fun (z:Sl×Int) S'=>∃ i:Nat,z=(⟨none,0,0⟩,(i:Int))∧i≤16∧S'=S) (fun z=>16-z.2.toNat) ?_ ⟨0,rfl,by decide,rfl⟩
 rintro X z S' ⟨i,rfl,hi,rfl⟩ ih
 dsimp only at ih ⊢
 by_cases hlt:(i:Int)<16
 ·rw[if_pos hlt]
  refine⟨by omega,hlt,?_⟩
  rw[Int.toNat_natCast,jo (zbC (by omega) rfl)]
  refine⟨rfl,?_⟩
  rw[zaF (show nthL (lsL (ls i)) 0=some (.bool (ls i).on) from rfl),hls i,if_neg (by decide),if_neg (by decide),w64 (by omega) (by omega)]
  exact ih _ S' ⟨i+1,rfl,by omega,rfl⟩ (by dsimp only;omega)
 ·rw[if_neg hlt]
  exact hQ
theorem rowK {w:Nat} {s:Sl} {l:List Value} (h:Row S w s l) (hk:Keeps S S' []):Row S' w s l:=h.keep fun b hb=>by
 rcases h.lie with ⟨h1,_⟩ | ⟨b',k,h1,h2,_⟩
 ·rw[h1] at hb;cases hb
 ·rw[h1] at hb;cases hb;exact hk b (by rw[h2];simp) (by simp)
def enP (x:Nat×Bool):List Value:=enL x.1 x.2
theorem zkX (x:Nat×Bool):(enP x).length=3:=rfl
theorem zfS {l:List (Nat×Bool)}:(l.flatMap enP).length=l.length*3:=xF zkX l
theorem zmq {m N:Nat} {d:Nat→List Int} {tf:Int} {fs:Sl} {fr:List Nat} (h:StoreD S ρ m N d) (hr:Row S 1 fs (nL fr)) {Q:Sl→Sl→Mem→Prop}
  (hQ:∀ t3 t4 S',Keeps S S' []→Row S' 3 t4 (((List.range 32).filterMap fun (p:Nat)=>walkC d N tf fr p).flatMap enP)→(∀ b o,t4.p=some (b,o)→S b=none)→Q t3 t4 S'):kr S (tbL tf fs) (some (m,0)) Q:=by
 apply zbQ
 unfold wY
 refine⟨rfl,?_⟩
 simp only[jn]
 have fr_of:∀ {S1:Mem} {b:Nat},Keeps S S1 []→S1 b=none→S b=none:=fun hk h=>by
  cases hs:S _ with
  | none=>rfl
  | some x=>rw[hk _ (by rw[hs];simp) (by simp),hs] at h;cases h
 refine zX (fun (z:Sl×Sl×Int) S'=>∃ (i:Nat) (L:List Value),z.2.2=(i:Int)∧i≤32∧Keeps S S' []∧Row S' 1 z.1 L∧L.length≤i∧Row S' 3 z.2.1 (((List.range i).filterMap fun (p:Nat)=>walkC d N tf fr p).flatMap enP)∧(∀ b o,z.1.p=some (b,o)→S b=none)∧(∀ b o,z.2.1.p=some (b,o)→S b=none)∧∀ b o o',z.1.p=some (b,o)→z.2.1.p≠some (b,o')) (fun z=>32-z.2.2.toNat) ?_
  ⟨0,[],rfl,by decide,Keeps.refl,Row.nil,by decide,Row.nil,fun _ _ e=>(by cases e),fun _ _ e=>(by cases e),fun _ _ _ e=>(by cases e)⟩
 rintro X ⟨pg,l,z⟩ S1 ⟨i,L,hz,hi,hk,hrow1,hL,hrow2,hf1,hf2,hne⟩ ih
 dsimp only at hz hrow1 hrow2 hf1 hf2 hne ih ⊢
 subst hz
 have hn1:pg.n≤i:=by have:=hrow1.len;omega
 have hn2:l.n≤i:=by
  have:=hrow2.len
  rw[zfS] at this
  have h2:=List.length_filterMap_le (fun (p:Nat)=>walkC d N tf fr p) (List.range i)
  rw[List.length_range] at h2
  omega
 by_cases hlt:(i:Int)<32
 ·rw[if_pos hlt]
  have es:(List.range (i+1)).filterMap (fun (p:Nat)=>walkC d N tf fr p)=(List.range i).filterMap (fun (p:Nat)=>walkC d N tf fr p)++(walkC d N tf fr (i:Int)).toList:=by
   rw[List.range_succ,List.filterMap_append,List.filterMap_cons]
   cases walkC d N tf fr (i:Int) <;> rfl
  refine walkD (h.keeps hk) (rowK hr hk) (fun f w S2 hw hk2=>?_) fun e S2 hw he hk2=>?_
  ·refine⟨rfl,?_⟩
   rw[if_pos rfl]
   have hk3:=hk.trans hk2
   have r1:=rowK hrow1 hk2
   have r2:=rowK hrow2 hk2
   refine gr r1 rfl (by decide) rfl (by omega) fun p3 S3 c kb e1 e2 e3 e4 e5=>?_
   have hc:S c=none:=by
    rcases e3 with e3 | e3
    ·exact hf1 c 0 e3
    ·exact fr_of hk3 e3
   have hcl:∀ o,l.p≠some (c,o):=fun o e=>by
    rcases e3 with e3 | e3
    ·exact hne c 0 o e3 e
    ·rcases r2.lie with ⟨h1,_⟩ | ⟨b',k,h1,h2,_⟩
     ·rw[h1] at e;cases e
     ·rw[h1] at e;cases e;rw[h2] at e3;cases e3
   have r2':Row S3 3 l (((List.range i).filterMap fun (p:Nat)=>walkC d N tf fr p).flatMap enP):=r2.keep fun b hb=>by
    rw[e4,qm fun e=>hcl 0 (by rw[←e];exact hb)]
   refine⟨rfl,?_⟩
   refine gr r2' rfl (by decide) rfl (by omega) fun l4 S4 c4 kb4 f1 f2 f3 f4 f5=>?_
   have hc3:S3 c=some kb:=by rw[e4];exact zO
   have hc4:S c4=none∧c4≠c:=by
    rcases f3 with f3 | f3
    ·exact⟨hf2 c4 0 f3,fun e=>hcl 0 (by rw[←e];exact f3)⟩
    ·have:c4≠c:=fun e=>by rw[e,hc3] at f3;cases f3
     rw[e4,qm this] at f3
     exact⟨fr_of hk3 f3,this⟩
   have r1':Row S4 1 p3 (L++[.int .i64 (i:Int)]):=e5.keep fun b hb=>by
    rw[e2] at hb;cases hb
    rw[f4,qm hc4.2.symm]
   rw[w64 (by omega) (by omega)]
   refine ih _ _ ⟨i+1,L++[.int .i64 (i:Int)],by dsimp only;omega,by omega,?_,r1',by simp;omega,?_,fun b o e=>?_,fun b o e=>?_,fun b o o' e e'=>?_⟩ (by dsimp only;omega)
   ·rw[f4,e4];exact (hk3.fresh hc).fresh hc4.1
   ·dsimp only
    rw[es,hw,List.flatMap_append]
    exact f5
   ·rw[e2] at e;cases e;exact hc
   ·dsimp only at e;rw[f2] at e;cases e;exact hc4.1
   ·dsimp only at e e'
    rw[e2] at e;rw[f2] at e';cases e;cases e';exact hc4.2 rfl
  ·refine⟨rfl,?_⟩
   rw[if_neg he,w64 (by omega) (by omega)]
   refine ih _ _ ⟨i+1,L,by dsimp only;omega,by omega,hk.trans hk2,rowK hrow1 hk2,by omega,?_,hf1,hf2,hne⟩ (by dsimp only;omega)
   dsimp only
   rw[es,hw]
   show Row S2 3 l (((List.range i).filterMap (fun (p:Nat)=>walkC d N tf fr p)++[]).flatMap enP)
   rw[List.append_nil]
   exact rowK hrow2 hk2
 ·rw[if_neg hlt]
  have:i=32:=by omega
  subst this
  exact hQ _ _ S1 hk hrow2 hf2
theorem zha {kb:Nat} {alm:Nat→Nat→Option Int} (h:ClkP S ρ kb alm) (hg:∀ b r,ρ b=some r→S b≠none) {n:Nat} {Q:Mem→Prop}
  (hQ:∀ S' ρ',Mv S ρ S' ρ' (fun r=>r=10∨r=11)→ClkP S' ρ' kb (upd alm n fun _=>none)→Q S'):yW S (some (kb,0)) n Q:=by
 obtain⟨tb,s,l,hck,ho,ha⟩:=h.ex
 refine Hk.dropVM_spec hck fun S' s' l' hp hL=>?_
 have hal:AlmOf l' (upd alm n fun _=>none):=by
  refine AlmOf.perm ?_ hp
  refine⟨List.Pairwise.filter _ ha.nd,fun a hm=>?_,fun m j t e=>?_⟩
  ·have h1:=ha.of a (List.mem_filter.1 hm).1
   have h2:=(List.mem_filter.1 hm).2
   refine⟨h1.1,h1.2.1,h1.2.2.1,h1.2.2.2.1,?_⟩
   rw[zo (by simp at h2;omega)];exact h1.2.2.2.2
  ·by_cases e1:m=n
   ·subst e1;rw[zq] at e;cases e
   ·rw[zo e1] at e
    refine List.mem_filter.2 ⟨ha.to m j t e,?_⟩
    simp;omega
 obtain⟨ρ',m,h2⟩:=zix hg h.rol ho hL hal
 exact hQ S' ρ' m h2
theorem zlP {o:Nat→Ow} {f n:Nat} (h1:(o f).kind=3) (h2:(o f).vm=n) (h3:(o f).sh≤0):recC o f n=upd o f ow0:=by
 unfold recC;rw[if_pos ⟨h1,h2,h3⟩]
theorem zng {o:Nat→Ow} {f:Nat} (h1:(o f).kind=2):relC o f=upd o f ow0:=by
 unfold relC;rw[if_neg (by omega)]
theorem zlR {o:Nat→Ow} {l:List Nat} {f:Nat}:offO o (l++[f])=upd (offO o l) f ow0:=by
 unfold offO;rw[List.foldl_append];rfl
theorem zlQ {u:Nat→Bool} {l:List Nat} {f:Nat}:offU u (l++[f])=upd (offU u l) f false:=by
 unfold offU;rw[List.foldl_append];rfl
def _root_.Go.Cr.Cst.off (C:Cst) (l:List Nat):Cst:={ C with own:=offO C.own l,used:=offU C.used l }
theorem zjT {l:List Nat} {j:Nat} (hj:j<l.length):l.take (j+1)=l.take j++[l[j]]:=List.take_succ_eq_append_getElem hj
theorem zeQ {l r:List Nat} (hn:(r++l).Nodup) {j:Nat} (hj:j<l.length):l[j]∉r++l.take j:=fun hm=>by
 rw[List.nodup_append] at hn
 rcases List.mem_append.1 hm with h | h
 ·exact hn.2.2 _ h _ (List.getElem_mem hj) rfl
 ·obtain⟨k,hk,e⟩:=List.mem_iff_getElem.1 h
  rw[List.length_take] at hk
  rw[List.getElem_take] at e
  exact List.pairwise_iff_getElem.1 hn.2.1 k j (by omega) hj (by omega) e
theorem offStep {l:List Nat} (hc:CrabA S ρ h A (C.off l)) {f:Nat} (hf:f<C.N) (hu:C.used f=true) (hm:f∉l) {own':Nat→Ow} (ho:own'=upd (offO C.own l) f ow0) {S1:Mem} (m1:Mv S ρ S1 ρ (· = 9)) (hs:OwnP S1 ρ A.ob C.N own') {Q:Int→Mem→Prop}
  (hQ:∀ S' ρ',Mv S ρ S' ρ' Rc→CrabA S' ρ' h A (C.off (l++[f]))→Q 0 S'):yg S1 (some (A.p,0)) f Q:=by
 have hc3:=hc.setOwn m1 hs
 refine zdY hc3.pl hc3.rg hf (fun _ S4 ρ4 m4 hp4=>?_) fun hu'=>?_
 ·have hc4:=hc3.setPool m4 (fun r hr=>.inl hr) hp4
  refine hQ S4 ρ4 ((m1.mono fun r hr=>by unfold Rc;omega).trans (m4.mono fun r hr=>by unfold R345 at hr;unfold Rc;omega)) ?_
  have e:(C.off (l++[f])) = { C with own:=own',used:=upd (offU C.used l) f false }:=by
   unfold Go.Cr.Cst.off
   rw[zlR,zlQ,ho]
  rw[e];exact hc4
 ·have:offU C.used l f=false:=hu'
  rw[zhx,if_neg hm,hu] at this;cases this
theorem zls (hr:Rel C W φ) {n:Nat} (hon:(W.vm n).on=true) (hls:∀ i,(W.ls i).on=false):(List.range 32).filterMap (fun (p:Nat)=>walkC C.dat C.N (C.tf n) (C.fr n) p)=((W.pgs n).map (φ n)).map fun f=>(f,true):=by
 unfold Wd.pgs
 have key:∀ k,k≤32→(List.range k).filterMap (fun (p:Nat)=>walkC C.dat C.N (C.tf n) (C.fr n) p)=(((List.range k).filter fun p=>(W.own n p).isSome).map (φ n)).map fun f=>(f,true):=by
  intro k
  induction k with
  | zero=>intro _;rfl
  | succ k ih=>
   intro hk
   have hw:walkC C.dat C.N (C.tf n) (C.fr n) (k:Int)=(W.where_ n k).map fun q=>(φ q.1 q.2.1,q.2.2):=hr.walk hon (by omega)
   have hl:leaseAt W.ls n k=none:=by
    unfold leaseAt
    rw[List.find?_eq_none]
    intro i _
    rw[hls i];simp
   rw[List.range_succ,List.filterMap_append,List.filter_append,List.map_append,List.map_append,ih (by omega)]
   congr 1
   rw[List.filterMap_cons,hw]
   unfold Wd.where_
   rw[hl]
   cases ho:W.own n k with
   | none=>simp[ho]
   | some l=>simp[ho]
 exact key 32 (Nat.le_refl _)
set_option maxHeartbeats 1000000 in
theorem zgU (hc:CrabA S ρ h A C) (hr:Rel C W φ) (hls:∀ i,(W.ls i).on=false) {vm:Int} {Q:Int→Mem→Prop} (hQ:∀ S',Aft h C S ρ (W.destroy vm).2 S'→Q (W.destroy vm).1 S'):xk S (some (h,0)) vm Q:=by
 apply zax
 unfold xV
 simp only[jn]
 rw[if_neg (by simp),qk,qP hc.c3]
 refine xY hc ?_
 by_cases ht:¬W.there vm
 ·rw[decide_eq_false fun h=>ht ((yY hr).1 h),if_neg (by decide)]
  have e:W.destroy vm=(2,W):=by unfold Wd.destroy;rw[if_pos ht]
  rw[e] at hQ
  exact hQ S (After.here hc hr).aft
 have ht:=Decidable.not_not.1 ht
 rw[decide_eq_true ((yY hr).2 ht),if_pos rfl]
 obtain⟨n,rfl⟩:∃ m:Nat,vm=m:=⟨vm.toNat,by have:=ht.1;omega⟩
 have hon:(W.vm n).on=true:=by have:=ht.2.2;rwa [Int.toNat_natCast] at this
 have hn:n<6:=by have:=ht.2.1;omega
 rw[zcn hn hon hr.wk hls] at hQ
 have hrel:=hr.destroy hon hls
 have hmem:=fun f=>zhG hr hon (f:=f)
 have hnd:=zdZ hr hon
 have hus:=fun f hf=>zis hr hon (f:=f) hf
 have hwp:=zls hr hon hls
 have hfl:∀ f∈(W.pgs n).map (φ n),(C.own f).kind=3∧(C.own f).vm=n∧(C.own f).sh≤0:=fun f hf=>by
  obtain⟨p,hp,rfl⟩:=List.mem_map.1 hf
  obtain⟨l,hl⟩:=Option.isSome_iff_exists.1 (List.mem_filter.1 hp).2
  have h1:=(hr.pg n p l hl).2.1
  have h2:lentN W.ls n p=0:=xm fun i _=>by rw[hls i];rfl
  rw[h1,h2]
  exact⟨rfl,rfl,Int.le_refl _⟩
 have hfr2:∀ f∈C.fr n,(C.own f).kind=2:=fun f hf=>by rw[(hr.tabf n f hf).2]
 have hlen32:((W.pgs n).map (φ n)).length≤32:=by
  rw[List.length_map,zkq];exact kg _ 32
 generalize hP:(W.pgs n).map (φ n)=P at *
 simp only[Int.toNat_natCast] at *
 rw[qk,qP hc.c3,qk,jo hc.tls]
 refine zlY (ls:=C.ls) (by rw[hr.ls];exact hls) ?_
 refine zX (fun (z:Int) S'=>z=0∧S'=S) (fun _=>0) ?_ ⟨rfl,rfl⟩
 rintro X z S' ⟨rfl,rfl⟩ _
 rw[if_neg (by decide),qk,qP hc.c3,qk]
 refine⟨by omega,by omega,?_⟩
 rw[jo (hc.vtab hn (by omega))]
 refine⟨rfl,?_⟩
 rw[qP hc.c0]
 refine zmq hc.st (hc.vs n hn).fr.row fun t3 t4 S1 hk1 hrow hf4=>?_
 rw[hwp] at hrow
 have hc1:=hc.keeps hk1
 have hn4:t4.n=P.length:=by
  have:=hrow.len
  rw[zfS,List.length_map] at this;omega
 have hf4':∀ b o,t4.p=some (b,o)→ρ b=none:=fun b o e=>by
  have hb:=hf4 b o e
  cases hρ:ρ b with
  | none=>rfl
  | some r=>exact absurd hb (hc.rg b r hρ)
 refine zX (fun (z:Int) S'=>∃ (j:Nat) (ρ':Rho),z=(j:Int)∧j≤P.length∧Mv S1 ρ S' ρ' Rc∧CrabA S' ρ' h A (C.off (P.take j))) (fun z=>P.length-z.toNat) ?_ ⟨0,ρ,rfl,Nat.zero_le _,Mv.refl hc1.rg,hc1⟩
 rintro X z S2 ⟨j,ρ2,rfl,hj,m2,hc2⟩ ih
 by_cases hlt:(j:Int)<(t4.n:Int)
 ·rw[if_pos hlt]
  have hjl:j<P.length:=by omega
  have hrow2:=zih hrow m2 hf4'
  have hw2:Rw S2 (fun _=>some 0) 0 3 t4 ((P.map fun f=>(f,true)).flatMap enP):=⟨hrow2,fun _ _ _=>rfl⟩
  obtain⟨c,e1,e2⟩:=hw2.sl (by rw[zfS,List.length_map];omega)
  rw[e1,zah]
  refine⟨by omega,hlt,?_⟩
  have hjm:j<(P.map fun f=>(f,true)).length:=by rw[List.length_map];exact hjl
  have hpart:S2.part c (0+(j:Int).toNat*3) 3=some (enL P[j] true):=by
   rw[hw2.part e2 (j*3) (by rw[zfS];omega) (by omega),zcl zkX hjm,List.getElem_map];rfl
  rw[jo hpart]
  refine⟨rfl,?_⟩
  rw[qP hc2.c3,qk,qP hc2.t74,zY (show nthL (enL P[j] true) 1=some (.int .i64 P[j]) from rfl)]
  have hPj:=hus P[j] (List.mem_append_left _ (List.getElem_mem hjl))
  have hnm:P[j]∉P.take j:=by
   have:=zeQ (r:=[]) (l:=P) (by
    rw[List.nodup_append] at hnd
    exact hnd.1) hjl
   simpa using this
  refine zcG hc2.ow hc2.rg hPj.1 fun e S3 m3 hs3=>?_
  have hc3:=hc2.setOwn m3 hs3
  refine⟨hc3.c3,?_⟩
  rw[qP hc3.c1,zY (show nthL (enL P[j] true) 1=some (.int .i64 P[j]) from rfl)]
  have hold:offO C.own (P.take j) P[j]=C.own P[j]:=by rw[zfD,if_neg hnm]
  have h3:=hfl P[j] (List.getElem_mem hjl)
  refine offStep hc2 hPj.1 hPj.2 hnm (zlP (o:=offO C.own (P.take j)) (by rw[hold];exact h3.1) (by rw[hold];exact h3.2.1) (by rw[hold];exact h3.2.2)) m3 hs3 fun S4 ρ4 m4 hc4=>?_
  rw[w64 (by omega) (by omega)]
  refine ih _ _ ⟨j+1,ρ4,by omega,by omega,m2.trans m4,?_⟩ (by omega)
  rw[zjT hjl];exact hc4
 rw[if_neg hlt]
 have hje:j=P.length:=by omega
 subst hje
 rw[List.take_length] at hc2
 clear ih
 rw[jW (show nthL (tbL (C.tf n) (A.x n).fs) 1=some (eL (A.x n).fs) from rfl)]
 have hfs:∀ {S':Mem} {ρ':Rho} {C':Cst},CrabA S' ρ' h A C'→C'.fr=C.fr→Rw S' ρ' (40+n) 1 (A.x n).fs (nL (C.fr n)):=fun hc' e=>by
  have:=(hc'.vs n hn).fr
  rw[e] at this;exact this
 have hfn:(A.x n).fs.n=(C.fr n).length:=(hfs hc rfl).n (by decide) (by unfold nL;rw[List.length_map,Nat.mul_one])
 have hf5:=(hr.tab n hon).2.1
 refine zX (fun (z:Int) S'=>∃ (j:Nat) (ρ':Rho),z=(j:Int)∧j≤(C.fr n).length∧Mv S1 ρ S' ρ' Rc∧CrabA S' ρ' h A (C.off (P++(C.fr n).take j))) (fun z=>(C.fr n).length-z.toNat) ?_ ⟨0,ρ2,rfl,Nat.zero_le _,m2,by rw[List.take_zero,List.append_nil];exact hc2⟩
 rintro X z S3 ⟨j,ρ3,rfl,hj3,m3,hc3⟩ ih
 by_cases hlt3:(j:Int)<((A.x n).fs.n:Int)
 ·rw[if_pos hlt3]
  have hjl:j<(C.fr n).length:=by omega
  have hw3:=hfs hc3 rfl
  obtain⟨c,e1,e2⟩:=hw3.sl (by unfold nL;rw[List.length_map];omega)
  rw[e1,zah]
  refine⟨by omega,hlt3,?_⟩
  have hcell:S3.cell c (0+(j:Int).toNat*1)=some (.int .i64 (C.fr n)[j]):=by
   rw[hw3.cell e2 j (by unfold nL;rw[List.length_map];omega) (by omega)]
   unfold nL
   rw[qb,List.getElem?_map,List.getElem?_eq_getElem hjl];rfl
  rw[zY hcell,qP hc3.c3,qk,qP hc3.t74]
  have hPj:=hus (C.fr n)[j] (List.mem_append_right _ (List.getElem_mem hjl))
  have hnm:=zeQ hnd hjl
  refine zgz hc3.ow hc3.rg hPj.1 fun e S4 m4 hs4=>?_
  have hc4:=hc3.setOwn m4 hs4
  rw[qP hc4.c1]
  have hold:offO C.own (P++(C.fr n).take j) (C.fr n)[j]=C.own (C.fr n)[j]:=by rw[zfD,if_neg hnm]
  refine offStep hc3 hPj.1 hPj.2 hnm (zng (o:=offO C.own (P++(C.fr n).take j)) (by rw[hold];exact hfr2 _ (List.getElem_mem hjl))) m4 hs4 fun S5 ρ5 m5 hc5=>?_
  rw[w64 (by omega) (by omega)]
  refine ih _ _ ⟨j+1,ρ5,by omega,by omega,m3.trans m5,?_⟩ (by omega)
  rw[zjT hjl,←List.append_assoc];exact hc5
 rw[if_neg hlt3]
 have hje:j=(C.fr n).length:=by omega
 subst hje
 rw[List.take_length] at hc3
 clear ih
 have hcs:=hr.csize
 refine zgS hc3.cap hc3.rg (show C.cache.length≤100 by omega) fun S4 ρ4 m4 h4=>?_
 obtain⟨cs,h5,h6⟩:=h4.ex
 have hc4:=hc3.setCache m4 h5 h6
 rw[qP hc4.c3,qk,qP hc4.t171]
 refine zha hc4.ck hc4.rg fun S5 ρ5 m5 hk5=>?_
 have hc5:=hc4.setClk m5 (fun r hr=>by omega) hk5
 rw[qP hc5.c3,qk]
 refine⟨by omega,by omega,?_⟩
 refine zeg hc5 (j:=0) (vs:=[.bool false,.slice (none) 0 0,.int .i64 0,.slice (none) 0 0,.int .i64 0,.int .u64 0,.slice (none) 0 0,.slice (none) 0 0,.slice (none) 0 0,.slice (none) 0 0,.slice (none) 0 0,.int .u32 0]) (x':=vx0) (v':=bv0) (tf':=0) (late':=0) (fr':=[]) hn (by omega) rfl (by decide) rfl ⟨Rw.nil,fun s hs=>(by cases hs),Rw.nil,Rw.nil,fun j _=>Rw.nil⟩ fun S6 m6 hc6=>?_
 have mm:Mv S' ρ S6 ρ5 Rc:=(hc.mv0 hk1).trans (m3.trans ((m4.mono fun r hr=>by unfold Rc;omega).trans ((m5.mono fun r hr=>by unfold Rc;omega).trans (m6.mono fun r hr=>by unfold Rc;omega))))
 refine zX (fun (z:Int) S'=>∃ (i:Nat) (A':Ad) (v:Nat→Bv),z=(i:Int)∧i≤6∧Mv S6 ρ5 S' ρ5 Rc∧(v=fun m=>if m<i then { upd C.vm n bv0 m with bells:=upd (upd C.vm n bv0 m).bells n false } else upd C.vm n bv0 m)∧CrabA S' ρ5 h A' { C.without n (P++C.fr n) with vm:=v }) (fun z=>6-z.toNat) ?_ ⟨0,_,_,rfl,by decide,Mv.refl hc6.rg,rfl,hc6⟩
 rintro X z S7 ⟨i,A7,v,rfl,hi,m7,hv,hc7⟩ ih
 by_cases hl6:(i:Int)<6
 ·rw[if_pos hl6,qP hc7.c3,qk]
  refine⟨by omega,hl6,?_⟩
  have hi6:i<6:=by omega
  rw[Int.toNat_natCast,zY (hc7.vcell (n:=i) (j:=11) hi6 (by decide) (by omega))]
  refine⟨by omega,by omega,hl6,?_⟩
  have hvi:=hc7.vs i hi6
  refine zeg hc7 (n:=i) (j:=11) (vs:=[.int .u32 (iandn .u32 (bI (v i).bells) (ishl .u32 1 (n:Int)))]) (x':=A7.x i) (v':={ v i with bells:=upd (v i).bells n false }) (tf':=upd C.tf n 0 i) (late':=upd C.late n 0 i) (fr':=upd C.fr n [] i) hi6 (by omega) rfl (by simp) (by rw[zjk _ hn];rfl) ⟨hvi.se,hvi.r,hvi.fr,hvi.ke,hvi.di⟩ fun S8 m8 hc8=>?_
  rw[w64 (by omega) (by omega)]
  refine ih _ _ ⟨i+1,{ A7 with x:=upd A7.x i (A7.x i) },upd v i { v i with bells:=upd (v i).bells n false },by omega,by omega,m7.trans (m8.mono fun r hr=>by unfold Rc;omega),?_,?_⟩ (by omega)
  ·funext m
   by_cases e:m=i
   ·subst e
    have e0:v m=upd C.vm n bv0 m:=by rw[hv];exact if_neg (by omega)
    rw[zq,if_pos (by omega),e0]
   ·rw[zo e,hv]
    dsimp only
    by_cases h1:m<i
    ·rw[if_pos h1,if_pos (by omega)]
    ·rw[if_neg h1,if_neg (by omega)]
  ·have e1:upd (upd C.tf n 0) i (upd C.tf n 0 i)=upd C.tf n 0:=xG
   have e2:upd (upd C.late n 0) i (upd C.late n 0 i)=upd C.late n 0:=xG
   have e3:upd (upd C.fr n []) i (upd C.fr n [] i)=upd C.fr n []:=xG
   have hc8':CrabA S8 ρ5 h { A7 with x:=upd A7.x i (A7.x i) } { C.without n (P++C.fr n) with vm:=upd v i { v i with bells:=upd (v i).bells n false },tf:=upd (upd C.tf n 0) i (upd C.tf n 0 i),late:=upd (upd C.late n 0) i (upd C.late n 0 i),fr:=upd (upd C.fr n []) i (upd C.fr n [] i) }:=hc8
   rw[e1,e2,e3] at hc8'
   exact hc8'
 rw[if_neg hl6]
 have hi6:i=6:=by omega
 subst hi6
 have hve:v=offB C.vm n:=by
  funext m
  rw[hv]
  dsimp only
  by_cases e:m=n
  ·subst e
   rw[if_pos hn,zq,wQ]
   unfold bv0 upd;simp
  ·rw[zo e,qW e]
   by_cases h6:m<6
   ·rw[if_pos h6]
   ·rw[if_neg h6,hr.vm,(hr.wk.off m (hr.wk.six m (by omega))).1]
    unfold bv0 upd;simp
 rw[hve] at hc7
 exact hQ S7 ⟨ρ5,A7,_,φ,mm.trans m7,hc7,hrel,rfl,rfl,rfl,rfl,rfl⟩
end
end Go.Proofs.YtabdpmnhjlmnlaaGreatDoor
end
section
namespace Go.Cr
open Go Go.Pt
def pgW:List Int:=[wrd 1 5 0 0 1,wrd 3 1 5 8 0,wrd 20 0 0 0 9,wrd 11 5 5 0 1,wrd 14 10 10 0 (-3)]
def se (r0 r1 r5 pc:Int):Seat:={ seat0 with R:=[r0,r1,0,0,0,r5,0,0,0,0,0,0,0,0,0,0],pc:=pc }
structure GX (q:Int) (W:Wd) (s:Seat) (m:Nat):Prop where
 px:PX W 0 pgW s
 quota:(W.vm 0).quota=q
 own:∀ p,p<32→(W.own 0 p).isSome=decide (p<m)
 ls:∀ i,(W.ls i).on=false
 free:W.free=51-m
section
variable {q:Int} {W W':Wd} {s s':Seat} {m m' i:Nat}
theorem GX.done (h:GX q W s m) {x y:Int} (h1:s'.st=0) (h2:s'.opn=false) (h3:s'.base=0):GX q (W.done 0 s s' x y) s' m:=
 ⟨h.px.done h1 h2 h3,by rw[zfT,if_pos rfl];exact h.quota,h.own,h.ls,h.free⟩
theorem GX.ans (h:GX q W s m) {c e x:Int}:GX q (W.ans 0 c e x) (s.answer e x) m:=
 ⟨h.px.ans,by rw[ziz,if_pos rfl];exact h.quota,h.own,h.ls,h.free⟩
theorem GX.plain (h:GX q W s m) (hwk:WOk W) (hpc:s.pc=(4*i:Nat)) {o a b c n y:Int} (hi:pgW[i]? = some (wrd o a b c n)) (hb:Bd o a b c n) (hr:Rt o a b c n)
  (hd:doM s (W.gm 0) (W.time 0) 0 o a b c n=⟨s',0,y,W.gm 0⟩) (h1:s'.st=0) (h2:s'.opn=false) (h3:s'.base=0):GX q (W.run 0 0).2 s' m:=by
 rw[run00 (h.px.plain hwk hpc hi hb hr hd)]
 exact h.done h1 h2 h3
theorem ziw {f:Nat→Bool} {m n:Nat} (hm:m≤n) (h:∀ p,p<n→f p=decide (p<m)):count f n=m:=by
 unfold count
 have e:(List.range n).filter f=List.range m:=by
  rw[show n=m+(n-m) by omega,List.range_add,List.filter_append]
  have e1:(List.range m).filter f=List.range m:=List.filter_eq_self.2 fun p hp=>by
   rw[List.mem_range] at hp
   rw[h p (by omega)];exact decide_eq_true hp
  have e2:((List.range (n-m)).map fun x=>m+x).filter f=[]:=List.filter_eq_nil_iff.2 fun p hp=>by
   obtain⟨x,hx,rfl⟩:=List.mem_map.1 hp
   rw[List.mem_range] at hx
   rw[h (m+x) (by omega)]
   simp
  rw[e1,e2,List.append_nil]
 rw[e,List.length_range]
theorem GX.pages (h:GX q W s m) (hm:m≤32):W.pages 0=m:=ziw hm h.own
theorem GX.get (h:GX q W s m) (hq:q≤32) (hmq:m≤q) {p:Nat} (hp:m≤p) (hp2:p<32):∃ e,(W.get 0 p).1=e∧GX q (W.get 0 p).2 s (if (m:Int)<q then (if p=m then m+1 else m) else m)∨(m:Int)<q∧p≠m:=by
 by_cases hpm:(m:Int)<q∧p≠m
 ·exact⟨0,.inr hpm⟩
 have hw:W.where_ 0 (p:Int).toNat=none:=by
  unfold Wd.where_
  rw[Int.toNat_natCast,h.own p hp2,if_neg (by simp;omega)]
  have:leaseAt W.ls 0 p=none:=by
   unfold leaseAt
   rw[List.find?_eq_none]
   intro i _
   rw[h.ls i];simp
  rw[this];rfl
 refine⟨_,.inl ⟨rfl,?_⟩⟩
 unfold Wd.get
 rw[if_neg (by omega),if_neg (by rw[hw];simp),h.pages (by omega),h.quota]
 by_cases hlt:(m:Int)<q
 ·have e:p=m:=by
   by_cases e:p=m
   ·exact e
   ·exact absurd ⟨hlt,e⟩ hpm
  subst e
  have hf:=h.free
  rw[if_neg (by omega),if_neg (by omega),if_pos hlt,if_pos rfl,Int.toNat_natCast]
  refine⟨⟨⟨h.px.one.lt,h.px.one.on,h.px.one.seats⟩,h.px.st,h.px.opn,h.px.base,?_,h.px.len⟩,h.quota,fun x hx=>?_,h.ls,?_⟩
  ·show upd W.own 0 (upd (W.own 0) p (some noughts)) 0 0=_
   rw[zq,zo,h.px.own]
   intro e0
   have:=h.own 0 (by decide)
   rw[h.px.own] at this
   simp at this
   omega
  ·show (upd W.own 0 (upd (W.own 0) p (some noughts)) 0 x).isSome=_
   rw[zq]
   by_cases e:x=p
   ·subst e;rw[zq];simp
   ·rw[zo e,h.own x hx]
    by_cases h1:x<p
    ·rw[decide_eq_true h1,decide_eq_true (by omega)]
    ·rw[decide_eq_false h1,decide_eq_false (by omega)]
  ·show W.free-1=_
   rw[hf];omega
 ·rw[if_pos (by omega),if_neg hlt]
  exact h
theorem GX.hvc (h:GX q W s m) (hwk:WOk W) (hpc:s.pc=(4*i:Nat)) {n:Int} (hi:pgW[i]? = some (wrd 20 0 0 0 n)) (h1:0≤n) (h2:n≤255) (hs:s' = { s with pc:=s.pc+4 }) {e x:Int}
  (hc:(W.done 0 s s' 2 n).call 0 0 n (s'.r 1) (s'.r 2) (s'.r 3)=(x,e,W')) (hW:GX q (W.done 0 s s' 2 n) s' m→GX q W' s' m'):GX q (W.run 0 0).2 (s'.answer e x) m':=by
 rw[run00 (h.px.hvc hwk hpc hi h1 h2 hs hc)]
 exact (hW (h.done (by rw[hs];exact h.px.st) (by rw[hs];exact h.px.opn) (by rw[hs];exact h.px.base))).ans
def gM (q:Int) (j:Nat):Nat:=min (1+j) q.toNat
def GXi (q:Int) (j i:Nat) (W:Wd):Prop:=∃ r0 r1:Int,
 GX q W (if i=0 then se r0 r1 (j+1) 4 else if i=1 then se r0 (j+1) (j+1) 8 else if i=2 then se r0 r1 (j+1) 12 else se r0 r1 (j+2) 16) (gM q (if i≤1 then j else j+1))
theorem zpi (hq:1≤q) {j:Nat}:(gM q j:Int)≤q:=by unfold gM;omega
theorem GXi.s1 (hwk:WOk W) {j:Nat} (hj:j≤20) (h:GXi q j 0 W):GXi q j 1 (W.run 0 0).2:=by
 obtain⟨r0,r1,h⟩:=h
 rw[if_pos rfl,if_pos (by decide)] at h
 refine⟨r0,r1,?_⟩
 rw[if_neg (by decide),if_pos rfl,if_pos (by decide)]
 refine h.plain (i:=1) (y:=0) hwk rfl rfl (by constructor <;> omega) (by decide) ?_ rfl rfl rfl
 rw[doM3,show x64 ((se r0 r1 (↑j+1) 4).r 5+(se r0 r1 (↑j+1) 4).r 8)=(j:Int)+1 from znP (by show (0:Int)≤(j:Int)+1+0;omega) (by show (j:Int)+1+0<_;omega) |>.trans (by show (j:Int)+1+0=_;omega)];rfl
theorem GXi.s2 (hq:1≤q∧q≤32) (hwk:WOk W) {j:Nat} (hj:j<20) (h:GXi q j 1 W):GXi q j 2 (W.run 0 0).2:=by
 obtain⟨r0,r1,h⟩:=h
 rw[if_neg (by decide),if_pos rfl,if_pos (by decide)] at h
 have hd:GX q (W.done 0 (se r0 (j+1) (j+1) 8) (se r0 (j+1) (j+1) 12) 2 9) (se r0 (j+1) (j+1) 12) (gM q j):=h.done rfl rfl rfl
 have hg:=hd.get hq.2 (zpi hq.1) (p:=j+1) (by unfold gM;omega) (by omega)
 obtain⟨e,⟨he,hg⟩ | hg⟩:=hg
 ·have hc:(W.done 0 (se r0 (j+1) (j+1) 8) (se r0 (j+1) (j+1) 12) 2 9).call 0 0 9 ((se r0 (j+1) (j+1) 12).r 1) ((se r0 (j+1) (j+1) 12).r 2) ((se r0 (j+1) (j+1) 12).r 3)=(0,e,((W.done 0 (se r0 (j+1) (j+1) 8) (se r0 (j+1) (j+1) 12) 2 9).get 0 ((j+1:Nat):Int)).2):=by
   show ((0:Int),Wd.get _ 0 (small ((j:Int)+1)))=_
   rw[zlx (by omega),←he,show (j:Int)+1=((j+1:Nat):Int) by omega]
  have:=h.hvc (i:=2) (n:=9) (s':=se r0 (j+1) (j+1) 12) hwk rfl rfl (by decide) (by decide) rfl hc fun _=>hg
  refine⟨e,0,?_⟩
  rw[if_neg (by decide),if_neg (by decide),if_pos rfl,if_neg (by decide)]
  have em:(if ((gM q j:Nat):Int)<q then (if j+1=gM q j then gM q j+1 else gM q j) else gM q j)=gM q (j+1):=by
   unfold gM
   split
   ·rw[if_pos (by omega)];omega
   ·omega
  rw[em] at this
  exact this
 ·exfalso
  have:=hg.2
  have:=hg.1
  unfold gM at *
  omega
def pgA (q:Int):Wd:=(W0 56).made 0 1 q 1 (imgW pgW)
end
end Go.Cr
end
section
namespace Go.Proofs.YtabdpmnhjlmnlaaGreatDoor
open Go Go.Pt
attribute [local irreducible] Code.wp Back bodyPost wpList FR WL WC WQ WA AW Tr Yc HC AllC
set_option maxRecDepth 20000
set_option maxHeartbeats 4000000
set_option linter.unusedVariables false
def qD (S:Mem) (seats:Int) (quota:Int) (pages:Int) (p:Sl) (frames:Int) (Q:Bool→Mem→Prop):Prop:=
 jn (fun (Sx:Mem)=>
 zbI Sx 2 (IntKind.i64.wrap (1+(IntKind.i64.wrap (Int.tmod frames 100)))) 1 fun t t_1 Sx_1=>
 jn (fun (Sx_2:Mem)=>
 xO Sx_2 (IntKind.i64.wrap ((IntKind.i64.wrap (1+(IntKind.i64.wrap (Int.tmod frames 100))))-1)) fun t_2 Sx_3=>
 jn (fun (Sx_4:Mem)=>
 jn (fun (Sx_5:Mem)=>
 nn t fun b o=>
 gP (Sx_5.cell b (o+1)) fun t_3=>
 vj Sx_5 t_3 fun t_4 Sx_6=>
 Q (decide (t_4=IntKind.i64.wrap ((IntKind.i64.wrap (1+(IntKind.i64.wrap (Int.tmod frames 100))))-1))) Sx_6) fun Jx=>
 lp (fun Xx (i:Int) (Sx_7:Mem)=>
 jn (fun (Sx_8:Mem)=>
 xk Sx_8 t i fun t_5 Sx_9=>
 qQ Sx_9 t_2 i fun t_6 Sx_10=>
 if t_5≠t_6 then
 Q false Sx_10
 else
 yl Sx_10 t t_2 fun t_7 Sx_11=>
 if t_7=true then
 Xx (IntKind.i64.wrap (i+1)) Sx_11
 else
 Q false Sx_11) fun Jx_1=>
 if i<7 then
 Jx_1 Sx_7
 else
 Jx Sx_7) 0 Sx_4) fun Jx_2=>
 lp (fun Xx_1 (i_1:Int) (Sx_12:Mem)=>
 jn (fun (Sx_13:Mem)=>
 yI Sx_13 t seats quota pages p fun t_8 t_9 Sx_14=>
 qV Sx_14 t_2 seats quota pages p fun t_10 t_11 Sx_15=>
 if t_8≠t_10 then
 Q false Sx_15
 else
 if t_9≠t_11 then
 Q false Sx_15
 else
 yl Sx_15 t t_2 fun t_12 Sx_16=>
 if t_12=true then
 Xx_1 (IntKind.i64.wrap (i_1+1)) Sx_16
 else
 Q false Sx_16) fun Jx_3=>
 if i_1<8 then
 Jx_3 Sx_12
 else
 Jx_2 Sx_12) 0 Sx_3) fun Jx_4=>
 if t_1≠0 then
 Q false Sx_1
 else
 Jx_4 Sx_1) fun Jx_5=>
 qL S fun t_13 Sx_17=>
 if t_13=true then
 if 600<(p.n:Int) then
 qL Sx_17 fun t_14 Sx_18=>
 Q t_14 Sx_18
 else
 Jx_5 Sx_17
 else
 qL Sx_17 fun t_15 Sx_19=>
 Q t_15 Sx_19
theorem vq {S:Mem} {seats:Int} {quota:Int} {pages:Int} {p:Sl} {frames:Int} {Q:Bool→Mem→Prop} (H:qD S seats quota pages p frames Q):kz S seats quota pages p frames Q:=by
 unfold qD at H
 exact Tr.intro Tryz.func9 E Tryz.ntmps9 E fun w0=>csr<|gv E E<|nx<|zn H (fun (J:Mem→Prop) (z:Unit) S=>J S) (fun z=>⟨104,[(0,.int .i64 seats),(1,.int .i64 quota),(2,.int .i64 pages),(3,eL p),(4,.int .u8 frames)]⟩) (fun z=>[]) (fun _ Sx H1=>csr<|mv E E<|s_p E (ziC E E (by decide))<|s_p E (qq ⟨_,Tryz.underlying5⟩ E)<|s_p E (qh E E)<|gv E E<|nxr<|mv E E<|gO E E H1 fun t t_1 Sx_1 H2=>mv E E<|s_p E (zg E E)<|s_p E (zg E E)<|gv E E<|gv E E<|nx<|zn H2 (fun (J:Mem→Prop) (z:Unit) S=>J S) (fun z=>⟨104,[(0,.int .i64 seats),(1,.int .i64 quota),(2,.int .i64 pages),(3,eL p),(11,.int .i64 (IntKind.i64.wrap (1+(IntKind.i64.wrap (Int.tmod frames 100))))),(12,eP t)]⟩) (fun z=>[]) (fun _ Sx_2 H3=>csr<|mv E E<|s_p E (gu E E)<|qC E E H3 fun t_2 Sx_3 H4=>gv E E<|nx<|zn H4 (fun (J:Mem→Prop) (z:Unit) S=>J S) (fun z=>⟨104,[(11,.int .i64 (IntKind.i64.wrap (1+(IntKind.i64.wrap (Int.tmod frames 100))))),(12,eP t),(14,eP t_2)]⟩) (fun z=>[]) (fun _ Sx_4 H5=>zn H5 (fun (J:Mem→Prop) (z:Unit) S=>J S) (fun z=>⟨104,[(11,.int .i64 (IntKind.i64.wrap (1+(IntKind.i64.wrap (Int.tmod frames 100))))),(12,eP t)]⟩) (fun z=>[]) (fun _ Sx_5 H6=>csr<|mv E E<|by obtain⟨b,o,rfl,H7⟩:=H6;exact s_p E (zJ E)<|s_p E (zv E E)<|gx H7 fun t_3 ht_3 H8=>s_v E (zz E) (zH ht_3)<|qC E E H8 fun t_4 Sx_6 H9=>mv E E<|s_p E (gu E E)<|s_p E (jA E E)<|gv E E<|nx<|zi<|zh Tryz.results9 (zd E ze) ⟨_,E,H9⟩) (fun Jx hJx H10=>csr<|gv E E<|nx<|zw<|qB (fun z=>⟨104,[(11,.int .i64 (IntKind.i64.wrap (1+(IntKind.i64.wrap (Int.tmod frames 100))))),(12,eP t),(14,eP t_2),(20,.int .i64 z)]⟩) (fun z=>[]) 0 (idx:=[]) H10 E ⟨E,E,E,E,True.intro⟩ E<|fun Xx hXx i Sx_7 H11=>zn H11 (fun (J:Mem→Prop) (z:Unit) S=>J S) (fun z=>⟨104,[(11,.int .i64 (IntKind.i64.wrap (1+(IntKind.i64.wrap (Int.tmod frames 100))))),(12,eP t),(14,eP t_2),(20,.int .i64 i)]⟩) (fun z=>[]) (fun _ Sx_8 H12=>zC<|zw<|by exact csr<|mv E E<|mv E E<|qC E E H12 fun t_5 Sx_9 H13=>mv E E<|mv E E<|qC E E H13 fun t_6 Sx_10 H14=>iteK H14 (fun c H15=>s_p E (yT (zQ E E) c)<|mv E E<|sk4 E E E E<|pk E E E<|nx<|c_t E E<|csr<|gv E E<|nx<|zi<|zj<|zb<|zb<|zj<|zb<|zh Tryz.results9 (zd E ze) ⟨_,E,H15⟩) fun c H15=>s_p E (yF (zQ E E) c)<|mv E E<|mv E E<|mv E E<|qC E E H15 fun t_7 Sx_11 H16=>by have H17:=wM H16;rcases H17 with ⟨rfl,H18⟩ | ⟨rfl,H18⟩;exact (s_p E (yB (ql E) E)<|pk E E E<|nx<|cfs E E<|zU<|zt<|zu<|mv E E<|s_p E (qh E E)<|gv E E<|zr<|hXx (IntKind.i64.wrap (i+1)) _ _ _ _ [] H18 E ⟨E,E,E,E,True.intro⟩ E);exact (s_p E (yB (ql E) E)<|pk E E E<|nx<|c_t E E<|csr<|gv E E<|nx<|zi<|zj<|zb<|zb<|zj<|zb<|zh Tryz.results9 (zd E ze) ⟨_,E,H18⟩)) (fun Jx_1 hJx_1 H19=>csr<|by exact mv E E<|iteK H19 (fun c_1 H20=>s_p E (yT (zD E E) c_1)<|nx<|c_t E E<|qg<|hJx_1 () _ _ _ _ [] H20 E ⟨E,E,E,E,True.intro⟩ E) fun c_1 H20=>s_p E (yF (zD E E) c_1)<|nx<|c_f E E<|qt<|zl<|zl<|zI<|hJx () _ _ _ _ [] H20 E ⟨E,E,True.intro⟩ E))) (fun Jx_2 hJx_2 H21=>csr<|gv E E<|nx<|zw<|qB (fun z=>⟨104,[(0,.int .i64 seats),(1,.int .i64 quota),(2,.int .i64 pages),(3,eL p),(11,.int .i64 (IntKind.i64.wrap (1+(IntKind.i64.wrap (Int.tmod frames 100))))),(12,eP t),(14,eP t_2),(15,.int .i64 z)]⟩) (fun z=>[]) 0 (idx:=[]) H21 E ⟨E,E,E,E,E,E,E,E,True.intro⟩ E<|fun Xx_1 hXx_1 i_1 Sx_12 H22=>zn H22 (fun (J:Mem→Prop) (z:Unit) S=>J S) (fun z=>⟨104,[(0,.int .i64 seats),(1,.int .i64 quota),(2,.int .i64 pages),(3,eL p),(11,.int .i64 (IntKind.i64.wrap (1+(IntKind.i64.wrap (Int.tmod frames 100))))),(12,eP t),(14,eP t_2),(15,.int .i64 i_1)]⟩) (fun z=>[]) (fun _ Sx_13 H23=>zC<|zw<|csr<|by exact mv E E<|mv E E<|mv E E<|mv E E<|mv E E<|gO E E H23 fun t_8 t_9 Sx_14 H24=>mv E E<|s_p E (zg E E)<|s_p E (zg E E)<|gv E E<|gv E E<|nxr<|mv E E<|mv E E<|mv E E<|mv E E<|mv E E<|gO E E H24 fun t_10 t_11 Sx_15 H25=>mv E E<|s_p E (zg E E)<|s_p E (zg E E)<|gv E E<|gv E E<|nxr<|mv E E<|mv E E<|iteK H25 (fun c_2 H26=>s_p E (yT (zQ E E) c_2)<|mv E E<|sk2 E E<|zP E<|pk E E E<|mv E E<|sk4 E E E E<|pk E E E<|nx<|c_t E E<|csr<|gv E E<|nx<|by exact zi<|zj<|zb<|zb<|zj<|zb<|zh Tryz.results9 (zd E ze) ⟨_,E,H26⟩) fun c_2 H26=>s_p E (yF (zQ E E) c_2)<|mv E E<|mv E E<|mv E E<|iteK H26 (fun c_3 H27=>s_p E (yT (zQ E E) c_3)<|pk E E E<|mv E E<|sk4 E E E E<|pk E E E<|nx<|c_t E E<|csr<|gv E E<|by exact nx<|zi<|zj<|zb<|zb<|zj<|zb<|zh Tryz.results9 (zd E ze) ⟨_,E,H27⟩) fun c_3 H27=>s_p E (yF (zQ E E) c_3)<|pk E E E<|mv E E<|mv E E<|mv E E<|qC E E H27 fun t_12 Sx_16 H28=>by have H29:=wM H28;rcases H29 with ⟨rfl,H30⟩ | ⟨rfl,H30⟩;exact (s_p E (yB (ql E) E)<|pk E E E<|nx<|cfs E E<|zU<|zt<|zu<|mv E E<|s_p E (qh E E)<|gv E E<|zr<|hXx_1 (IntKind.i64.wrap (i_1+1)) _ _ _ _ [] H30 E ⟨E,E,E,E,E,E,E,E,True.intro⟩ E);exact (s_p E (yB (ql E) E)<|pk E E E<|nx<|c_t E E<|csr<|gv E E<|nx<|zi<|zj<|zb<|zb<|zj<|zb<|zh Tryz.results9 (zd E ze) ⟨_,E,H30⟩)) (fun Jx_3 hJx_3 H31=>csr<|mv E E<|iteK H31 (fun c_4 H32=>by exact s_p E (yT (zD E E) c_4)<|nx<|c_t E E<|qg<|hJx_3 () _ _ _ _ [] H32 E ⟨E,E,E,E,E,E,E,E,True.intro⟩ E) fun c_4 H32=>by exact s_p E (yF (zD E E) c_4)<|nx<|c_f E E<|qt<|zl<|zl<|zI<|hJx_2 () _ _ _ _ [] H32 E ⟨E,E,E,True.intro⟩ E))) (fun Jx_4 hJx_4 H33=>csr<|mv E E<|iteK H33 (fun c_5 H34=>s_p E (yT (zQ E E) c_5)<|nx<|c_t E E<|csr<|gv E E<|nx<|zi<|zb<|zh Tryz.results9 (zd E ze) ⟨_,E,H34⟩) fun c_5 H34=>s_p E (yF (zQ E E) c_5)<|nx<|cfs E E<|hJx_4 () _ _ _ _ [] H34 E ⟨E,E,E,E,E,E,True.intro⟩ E)) (fun Jx_5 hJx_5 H35=>csr<|qC E E H35 fun t_13 Sx_17 H36=>by have H37:=wM H36;rcases H37 with ⟨rfl,H38⟩ | ⟨rfl,H38⟩;exact (s_p E (yB (ql E) E)<|mv E E<|mv E E<|s_p E (yk E)<|iteK H38 (fun c_6 H39=>s_p E (yT (xu E E) c_6)<|pk E E E<|nx<|c_t E E<|csr<|qC E E H39 fun t_14 Sx_18 H40=>gv E E<|nx<|zi<|zb<|zh Tryz.results9 (zd E ze) ⟨_,E,H40⟩) fun c_6 H39=>s_p E (yF (xu E E) c_6)<|pk E E E<|nx<|cfs E E<|hJx_5 () _ _ _ _ [] H39 E ⟨E,E,E,E,E,True.intro⟩ E);exact (s_p E (yB (ql E) E)<|mv E E<|sk2 E E<|zP E<|pk E E E<|nx<|c_t E E<|csr<|qC E E H38 fun t_15 Sx_19 H41=>gv E E<|nx<|zi<|zb<|zh Tryz.results9 (zd E ze) ⟨_,E,H41⟩))
end Go.Proofs.YtabdpmnhjlmnlaaGreatDoor
end
section
namespace Go.Cr
open Go Go.Pt
def Wd.cost (W:Wd) (n:Nat):Int:=if (W.vm n).on=true then 5+(W.pages n:Int) else 0
def Wd.tot (W:Wd):Int:=W.free+(W.cost 0+W.cost 1+W.cost 2+W.cost 3+W.cost 4+W.cost 5)
section
variable {W W':Wd} {n:Nat}
theorem zlf {m:Nat} (h1:(W'.vm m).on=(W.vm m).on) (h2:∀ p,(W'.own m p).isSome=(W.own m p).isSome):W'.cost m=W.cost m:=by
 unfold Wd.cost
 have:W'.pages m=W.pages m:=wU fun p _=>h2 p
 rw[h1,this]
theorem zmu (hn:n<6) (h:∀ m,m≠n→W'.cost m=W.cost m) (hc:W'.free+W'.cost n=W.free+W.cost n):W'.tot=W.tot:=by
 unfold Wd.tot
 rcases n with _ | _ | _ | _ | _ | _ | n
 ·rw[h 1 (by decide),h 2 (by decide),h 3 (by decide),h 4 (by decide),h 5 (by decide)];omega
 ·rw[h 0 (by decide),h 2 (by decide),h 3 (by decide),h 4 (by decide),h 5 (by decide)];simp only[Nat.zero_add] at hc;omega
 ·rw[h 0 (by decide),h 1 (by decide),h 3 (by decide),h 4 (by decide),h 5 (by decide)];simp only[Nat.zero_add,Nat.reduceAdd] at hc;omega
 ·rw[h 0 (by decide),h 1 (by decide),h 2 (by decide),h 4 (by decide),h 5 (by decide)];simp only[Nat.zero_add,Nat.reduceAdd] at hc;omega
 ·rw[h 0 (by decide),h 1 (by decide),h 2 (by decide),h 3 (by decide),h 5 (by decide)];simp only[Nat.zero_add,Nat.reduceAdd] at hc;omega
 ·rw[h 0 (by decide),h 1 (by decide),h 2 (by decide),h 3 (by decide),h 4 (by decide)];simp only[Nat.zero_add,Nat.reduceAdd] at hc;omega
 ·omega
theorem zju {s q p:Int} {img:List Int}:((W.create s q p img).2.2).tot=W.tot∧((∀ i,(W.ls i).on=false)→∀ i,((W.create s q p img).2.2.ls i).on=false):=by
 unfold Wd.create
 refine xN (P:=fun r:Int×Int×Wd=>r.2.2.tot=W.tot∧((∀ i,(W.ls i).on=false)→∀ i,(r.2.2.ls i).on=false)) (fun _=>⟨rfl,fun h=>h⟩) fun hb=>?_
 refine xN (P:=fun r:Int×Int×Wd=>r.2.2.tot=W.tot∧((∀ i,(W.ls i).on=false)→∀ i,(r.2.2.ls i).on=false)) (fun _=>⟨rfl,fun h=>h⟩) fun _=>?_
 cases hf:firstOff (fun n=>(W.vm n).on) 6 with
 | none=>exact⟨rfl,fun h=>h⟩
 | some n=>
  dsimp only
  refine xN (P:=fun r:Int×Int×Wd=>r.2.2.tot=W.tot∧((∀ i,(W.ls i).on=false)→∀ i,(r.2.2.ls i).on=false)) (fun _=>⟨rfl,fun h=>h⟩) fun _=>⟨?_,fun h=>h⟩
  obtain⟨hn,hoff,_⟩:=qf hf
  obtain⟨pn,rfl⟩:∃ m:Nat,p=m:=⟨p.toNat,by omega⟩
  show (W.made n s q pn img).tot=W.tot
  refine zmu hn (fun m hm=>zlf ?_ fun x=>?_) ?_
  ·show (upd W.vm n _ m).on=_
   rw[zo hm]
  ·show (upd W.own n _ m x).isSome=_
   rw[zo hm]
  ·have h1:(W.made n s q pn img).cost n=5+pn:=by
    unfold Wd.cost
    have ho:((W.made n s q pn img).vm n).on=true:=by
     show (upd W.vm n (mkV s q) n).on=true
     rw[zq];rfl
    have hp:(W.made n s q pn img).pages n=pn:=ziw (by omega) fun x hx=>by
     show (upd W.own n (fun p=>if (p:Int)<(pn:Int) then some (pageB img p) else none) n x).isSome=_
     rw[zq]
     by_cases h:x<pn
     ·rw[if_pos (by omega),decide_eq_true h];rfl
     ·rw[if_neg (by omega),decide_eq_false h];rfl
    rw[if_pos ho,hp]
   have h2:W.cost n=0:=by unfold Wd.cost;rw[hoff];rfl
   rw[h1,h2]
   show W.free-(5+(pn:Int))+_=_
   omega
theorem zhL (hwk:WOk W) (hls:∀ i,(W.ls i).on=false) {k:Int}:((W.destroy k).2).tot=W.tot∧(∀ i,((W.destroy k).2.ls i).on=false)∧(W.destroy k).2.ev=W.ev∧(∀ m,(W.vm m).on=false→((W.destroy k).2.vm m).on=false)∧∀ m:Nat,k=m→((W.destroy k).2.vm m).on=false:=by
 by_cases ht:¬W.there k
 ·have e:W.destroy k=(2,W):=by unfold Wd.destroy;rw[if_pos ht]
  rw[e]
  refine⟨rfl,hls,rfl,fun _ h=>h,fun m hm=>?_⟩
  subst hm
  cases ho:(W.vm m).on with
  | false=>rfl
  | true=>exact absurd ⟨by omega,by have:=hwk.on6 ho;omega,by rw[Int.toNat_natCast];exact ho⟩ ht
 have ht:=Decidable.not_not.1 ht
 obtain⟨n,rfl⟩:∃ m:Nat,k=m:=⟨k.toNat,by have:=ht.1;omega⟩
 have hon:(W.vm n).on=true:=by have:=ht.2.2;rwa [Int.toNat_natCast] at this
 have hn:n<6:=by have:=ht.2.1;omega
 rw[zcn hn hon hwk hls]
 refine⟨zmu hn (fun m hm=>zlf ?_ fun x=>?_) ?_,hls,rfl,fun m hm=>?_,fun m hm=>?_⟩
 ·show (offB W.vm n m).on=_
  rw[qW hm]
 ·rw[without_own,if_neg hm]
 ·have h1:(W.without n).cost n=0:=by
   unfold Wd.cost
   have:((W.without n).vm n).on=false:=by show (offB W.vm n n).on=false;rw[wQ];rfl
   rw[this];rfl
  have h2:W.cost n=5+W.pages n:=by unfold Wd.cost;rw[if_pos hon]
  rw[h1,h2]
  show W.free+(5+(W.pages n:Int))+0=_
  omega
 ·show (offB W.vm n m).on=false
  by_cases e:m=n
  ·subst e;rw[wQ];rfl
  ·rw[qW e];exact hm
 ·have e:m=n:=by omega
  subst e
  show (offB W.vm m m).on=false
  rw[wQ];rfl
theorem znZ {f:Int}:(W0 f).tot=f:=by
 show f+(0+0+0+0+0+0)=f
 omega
theorem zmR (h:∀ m,m<6→(W.vm m).on=false):W.tot=W.free:=by
 have hc:∀ m,m<6→W.cost m=0:=fun m hm=>by unfold Wd.cost;rw[h m hm];rfl
 unfold Wd.tot
 rw[hc 0 (by decide),hc 1 (by decide),hc 2 (by decide),hc 3 (by decide),hc 4 (by decide),hc 5 (by decide)]
 omega
end
end Go.Cr
namespace Go.Proofs.YtabdpmnhjlmnlaaGreatDoor
open Go Go.Pt Go.Cr Go.Hp
section
variable {S S' S0:Mem} {h r:Nat} {W:Wd}
theorem zla (b:Bth S0 S h r W) (hls:∀ i,(W.ls i).on=false) {n:Int} {Q:Int→Int→Mem→Prop} (hQ:∀ S',Bth S0 S' h r (W.destroy n).2→Q (W.destroy n).1 (W.destroy n).1 S') :
  xk S (some (h,0)) n fun t S1=>qQ S1 (some (r,0)) n fun t' S2=>Q t t' S2:=by
 obtain⟨ρ,A,C,φ,D,m0,hc,hr,hR⟩:=b.ex
 have hf : -90000≤W.free∧W.free≤90000:=by
  have:=hr.free
  have h2:=kg (fun f=>! C.used f) C.N
  have h3:=hr.N
  omega
 refine zgU hc hr hls fun S1 hA=>?_
 obtain⟨ρ1,A1,C1,φ1,m1,hc1,hr1,_⟩:=hA
 obtain⟨hR1,hfin⟩:=Bth.act (hc:=hc) m0 hr.wk hR m1 hc1 hr1
 exact zfx hR1 hr.wk hls hf fun S2 hA2=>hQ S2 (hfin S2 hA2)
set_option maxHeartbeats 1000000 in
theorem zek (hgl:Gl S) {seats quota pages frames:Int} {p:Sl} {xs:List Int} (hb:By S p xs) (hfr:0≤frames∧frames≤255):qD S seats quota pages p frames fun r S'=>r=true∧Keeps S S' []:=by
 have hlen:=hb.len
 unfold qD
 refine qc (fun J=>∀ S1,Keeps S S1 []→xs.length≤600→J S1) ?_ fun J hJ=>?_
 rotate_left
 ·refine zfg hgl fun S1 hk1=>?_
  rw[if_pos rfl]
  have hg1:Gl S1:=hgl.keep (hk1 0 (zck hgl) (by simp))
  by_cases h512:600<(p.n:Int)
  ·rw[if_pos h512]
   exact zfg hg1 fun S2 hk2=>⟨rfl,hk1.trans hk2⟩
  ·rw[if_neg h512]
   exact hJ S1 hk1 (by omega)
 intro S1 hk1 h600
 have hg1:Gl S1:=hgl.keep (hk1 0 (zck hgl) (by simp))
 have hb1:=hb.keep hk1
 have ef:IntKind.i64.wrap (1+IntKind.i64.wrap (Int.tmod frames 100))=1+frames%100:=by rw[Int.tmod_eq_emod_of_nonneg hfr.1,w64 (x:=frames%100) (by omega) (by omega),w64 (by omega) (by omega)]
 have ef2:IntKind.i64.wrap (1+frames%100-1)=frames%100:=by rw[w64 (by omega) (by omega)];omega
 rw[ef,ef2]
 refine zol hg1 (fun hbad=>by unfold badNew at hbad;omega) fun _ S2 h l2=>?_
 refine qc (fun J=>J S2) ?_ fun J hJ=>by rw[if_neg (by decide)];exact hJ
 obtain⟨ρ,A,C,φ,m1,hc1,hr1⟩:=l2
 refine zkj hc1.rg fun r ρ2 S3 m2 hR2=>?_
 have hW0:W0 (1+frames%100-1)=W0 (frames%100):=by rw[show 1+frames%100-1=frames%100 by omega]
 rw[hW0] at hr1
 have b3:Bth S1 S3 h r (W0 (frames%100)):=⟨⟨ρ2,A,C,φ,ra0,(m1.mono fun q hq=>.inl hq).trans (m2.mono fun _ h=>h.elim),hc1.keep m2 fun _ _ h=>h,hr1,hR2⟩⟩
 refine qc (fun J=>∀ S' W,Bth S1 S' h r W→(∀ i,(W.ls i).on=false)→W.evB 0→W.tot=frames%100→J S') (fun S4 W4 b4 hl4 e4 ht4=>?_) fun J hJ=>?_
 rotate_left
 ·refine zX (fun (z:Int) S'=>∃ (i:Nat) (W:Wd),z=(i:Int)∧i≤8∧Bth S1 S' h r W∧(∀ i,(W.ls i).on=false)∧W.evB 0∧W.tot=frames%100) (fun z=>8-z.toNat) ?_ ⟨0,_,rfl,by decide,b3,fun _=>rfl,evB_W0,znZ⟩
  rintro X z S4 ⟨i,W,rfl,hi,b4,hl4,e4,ht4⟩ ih
  by_cases hlt:(i:Int)<8
  ·refine qc (fun J=>J S4) ?_ fun J hJ=>by rw[if_pos hlt];exact hJ
   refine zmk b4 (fun ρ m=>hb1.imgB m) (by omega) fun S5 b5=>?_
   rw[if_neg (fun h=>h rfl),if_neg (fun h=>h rfl)]
   have e5:=e4.create (s:=seats) (q:=quota) (p:=pages) (img:=xs)
   have ht5:=zju (W:=W) (s:=seats) (q:=quota) (p:=pages) (img:=xs)
   refine zgx b5 e5 (by decide) fun S6 hk6=>?_
   rw[if_pos rfl,w64 (by omega) (by omega)]
   exact ih _ _ ⟨i+1,_,by omega,by omega,b5.on hk6,ht5.2 hl4,e5,ht5.1.trans ht4⟩ (by omega)
  ·refine qc (fun _=>True) trivial fun J' _=>?_
   rw[if_neg hlt]
   exact hJ S4 W b4 hl4 e4 ht4
 refine qc (fun J=>∀ S' W,Bth S1 S' h r W→W.free=frames%100→J S') (fun S5 W5 b5 hf5=>?_) fun J hJ=>?_
 ·obtain⟨ρ5,A5,C5,φ5,D5,m5,hc5,hr5,hR5⟩:=b5.ex
  rw[qk,qP hc5.c1]
  refine zgG hc5.pl ?_
  rw[←hr5.free,hf5]
  exact⟨decide_eq_true rfl,hk1.trans b5.keeps0⟩
 refine zX (fun (z:Int) S'=>∃ (i:Nat) (W:Wd),z=(i:Int)∧i≤7∧Bth S1 S' h r W∧(∀ i,(W.ls i).on=false)∧W.evB 0∧W.tot=frames%100∧∀ m,m<i→(W.vm m).on=false) (fun z=>7-z.toNat) ?_ ⟨0,_,rfl,by decide,b4,hl4,e4,ht4,fun m hm=>by omega⟩
 rintro X z S5 ⟨i,W,rfl,hi,b5,hl5,e5,ht5,hoff⟩ ih
 by_cases hlt:(i:Int)<7
 ·refine qc (fun J=>J S5) ?_ fun J hJ=>by rw[if_pos hlt];exact hJ
  obtain⟨d1,d2,d3,d4,d5⟩:=zhL b5.wk hl5 (k:=(i:Int))
  refine zla b5 hl5 fun S6 b6=>?_
  rw[if_neg (fun h=>h rfl)]
  have e6:=e5.of d3
  refine zgx b6 e6 (by decide) fun S7 hk7=>?_
  rw[if_pos rfl,w64 (by omega) (by omega)]
  refine ih _ _ ⟨i+1,_,by omega,by omega,b6.on hk7,d2,e6,d1.trans ht5,fun m hm=>?_⟩ (by omega)
  by_cases e:m=i
  ·exact d5 m (by omega)
  ·exact d4 m (hoff m (by omega))
 ·refine qc (fun _=>True) trivial fun J' _=>?_
  rw[if_neg hlt]
  exact hJ S5 W b5 (by rw[←zmR fun m hm=>hoff m (by omega)];exact ht5)
end
end Go.Proofs.YtabdpmnhjlmnlaaGreatDoor
end
section
namespace Go.Cr
open Go Go.Pt
structure Seat.Raw (s:Seat):Prop where
 len:s.R.length=16
 r:∀ x∈s.R,W64 x
 pc:W64 s.pc
 base:W64 s.base
 vec:W64 s.vec
 epc:W64 s.epc
 cause:W64 s.cause
 addr:W64 s.addr
 st:0≤s.st
 pend:0≤s.pend
 mask:0≤s.mask
def Seat.fit (s:Seat):Seat:=⟨s.R,s.pc,s.base,s.vec,s.epc,s.cause,s.addr,s.opn,Int.tmod s.st 3,Int.tmod s.pend 256,Int.tmod s.mask 256⟩
end Go.Cr
namespace Go.Proofs.YtabdpmnhjlmnlaaGreatDoor
open Go Go.Pt Go.Cr Go.Hp
section
variable {S S' S0:Mem} {s:Seat}
end
end Go.Proofs.YtabdpmnhjlmnlaaGreatDoor
end
section
namespace Go.Proofs.YtabdpmnhjlmnlaaGreatDoor
open Go Go.Pt Go.RowKit Go.Lib Go.Cr Go.ChangeShapes Go.WideShapes
def toI:Value→Int
 | .int _ z=>z
 | _=>0
section
variable {H:Type} {enc:TypeId×Value→H} {P:Program} {w:World} {base:Nat} {spare:Nat→Bool} {held:Bool}
theorem zgf {t0 t1 t2 t3 t4:TypeId} {args:Array Value} {ds:List (DataW H)} {ps:List MemPlace} (h:DataW.TrodAll enc P w base spare held [t0,t1,t2,t3,t4] args.toList ds ps) :
  ∃ v0 v1 v2 v3 v4 d0 d1 d2 d3 d4 p0 p1 p2 p3 p4,args = #[v0,v1,v2,v3,v4]∧ds=[d0,d1,d2,d3,d4]∧ps=p0++(p1++(p2++(p3++p4)))∧DataW.Trod enc P w base spare held t0 v0 d0 p0∧DataW.Trod enc P w base spare held t1 v1 d1 p1∧DataW.Trod enc P w base spare held t2 v2 d2 p2∧DataW.Trod enc P w base spare held t3 v3 d3 p3∧DataW.Trod enc P w base spare held t4 v4 d4 p4:=by
 obtain⟨v0,vs0,d0,ds0,p0,q0,hargs,rfl,rfl,h0,r0⟩:=trodAll_cons h
 obtain⟨v1,vs1,d1,ds1,p1,q1,rfl,rfl,rfl,h1,r1⟩:=trodAll_cons r0
 obtain⟨v2,vs2,d2,ds2,p2,q2,rfl,rfl,rfl,h2,r2⟩:=trodAll_cons r1
 obtain⟨v3,vs3,d3,ds3,p3,q3,rfl,rfl,rfl,h3,r3⟩:=trodAll_cons r2
 obtain⟨v4,vs4,d4,ds4,p4,q4,rfl,rfl,rfl,h4,r4⟩:=trodAll_cons r3
 obtain⟨rfl,rfl,rfl⟩:=trodAll_nil r4
 exact⟨v0,v1,v2,v3,v4,d0,d1,d2,d3,d4,p0,p1,p2,p3,p4,by cases args;simp_all,rfl,by simp,h0,h1,h2,h3,h4⟩
theorem zhe {t0 t1 t2 t3 t4:TypeId} {v0 v1 v2 v3 v4:Value} {d0 d1 d2 d3 d4:DataW H} {p0 p1 p2 p3 p4:List MemPlace} (h0:DataW.Trod enc P w base spare held t0 v0 d0 p0) (h1:DataW.Trod enc P w base spare held t1 v1 d1 p1)
  (h2:DataW.Trod enc P w base spare held t2 v2 d2 p2) (h3:DataW.Trod enc P w base spare held t3 v3 d3 p3) (h4:DataW.Trod enc P w base spare held t4 v4 d4 p4):DataW.TrodAll enc P w base spare held [t0,t1,t2,t3,t4] [v0,v1,v2,v3,v4] [d0,d1,d2,d3,d4] (p0++(p1++(p2++(p3++p4)))):=⟨p0,_,h0,trodAll_mk4 h1 h2 h3 h4,rfl⟩
end
end Go.Proofs.YtabdpmnhjlmnlaaGreatDoor
end
