/- Texts of this work,joined by program (pack.py): Du,Dv,PsT,PtL,PtM,Jr,Jf. -/
import Derived.Test.YtabdpmnhjlmnlaaGreatDoorQPM
import Derived.Test.YtabdpmnhjlmnlaaGreatDoorQPO
import Derived.Test.YtabdpmnhjlmnlaaGreatDoorQPC
import Derived.Test.YtabdpmnhjlmnlaaGreatDoorQPF
import Derived.Test.YtabdpmnhjlmnlaaGreatDoorQPH
import Derived.Test.YtabdpmnhjlmnlaaGreatDoorQPB
import Derived.ProofKit
import Derived.OpenShut
import Derived.Test.YtabdpmnhjlmnlaaGreatDoorRows
import Derived.LaidMore
import Derived.Lay
import Derived.Lib.LaidU8
import Derived.Deep.Slices
import Derived.Stop.Joined
set_option linter.unusedVariables false
section
namespace Go.Cr
open Go Go.Pt
def offO (o:Nat→Ow) (l:List Nat):Nat→Ow:=l.foldl (fun o f=>upd o f ow0) o
def offU (u:Nat→Bool) (l:List Nat):Nat→Bool:=l.foldl (fun u f=>upd u f false) u
theorem offO_eq:∀ {l:List Nat} {o:Nat→Ow} {f:Nat},offO o l f=if f∈l then ow0 else o f
 | [],o,f=>by simp[offO]
 | a :: l,o,f=>by
  show offO (upd o a ow0) l f=_
  rw[offO_eq]
  by_cases h:f∈l
  ·rw[if_pos h,if_pos (by simp[h])]
  ·rw[if_neg h]
   by_cases e:f=a
   ·subst e;rw[upd_at,if_pos (by simp)]
   ·rw[upd_of e,if_neg (by simp[e,h])]
theorem offU_eq:∀ {l:List Nat} {u:Nat→Bool} {f:Nat},offU u l f=if f∈l then false else u f
 | [],u,f=>by simp[offU]
 | a :: l,u,f=>by
  show offU (upd u a false) l f=_
  rw[offU_eq]
  by_cases h:f∈l
  ·rw[if_pos h,if_pos (by simp[h])]
  ·rw[if_neg h]
   by_cases e:f=a
   ·subst e;rw[upd_at,if_pos (by simp)]
   ·rw[upd_of e,if_neg (by simp[e,h])]
theorem offU_count {N:Nat}:∀ {l:List Nat} {u:Nat→Bool},l.Nodup→(∀ f∈l,f<N∧u f=true)→count (fun i=>! offU u l i) N=count (fun i=>! u i) N+l.length
 | [],u,_,_=>rfl
 | a :: l,u,hnd,h=>by
  have ha:=h a (by simp)
  obtain⟨h1,h2⟩:=List.nodup_cons.1 hnd
  show count (fun i=>! offU (upd u a false) l i) N=_
  rw[offU_count h2 fun f hf=>⟨(h f (by simp[hf])).1,by
   rw[upd_of (show f≠a from fun e=>h1 (by rw[←e];exact hf))]
   exact (h f (by simp[hf])).2⟩]
  have e1:(fun f=>! upd u a false f)=upd (fun f=>! u f) a true:=by
   funext g;unfold upd;split <;> rfl
  have:=count_upd (g:=fun f=>! u f) ha.1 true
  rw[←e1] at this
  simp only[ha.2,Bool.not_true,Bool.toNat_false,Bool.toNat_true] at this
  rw[List.length_cons];omega
def Wd.pgs (W:Wd) (n:Nat):List Nat:=(List.range 32).filter fun p=>(W.own n p).isSome
theorem pgs_len {W:Wd} {n:Nat}:(W.pgs n).length=W.pages n:=rfl
def offB (f:Nat→Bv) (n:Nat):Nat→Bv:=fun i=>if i=n then bv0 else { f i with bells:=upd (f i).bells n false }
def Cst.without (C:Cst) (n:Nat) (l:List Nat):Cst:=
 { C with vm:=offB C.vm n,late:=upd C.late n 0,tf:=upd C.tf n 0,fr:=upd C.fr n [],used:=offU C.used l,own:=offO C.own l,cache:=C.cache.filter fun r=>! decide (r.vm=(n:Int)),alm:=upd C.alm n fun _=>none }
def Wd.without (W:Wd) (n:Nat):Wd:=
 { W with free:=W.free+(5+W.pages n),vm:=offB W.vm n,own:=upd W.own n fun _=>none,alarm:=upd W.alarm n fun _=>none }
section
variable {C:Cst} {W:Wd} {φ:Nat→Nat→Nat} {n:Nat}
theorem destroy_eq (hn:n<6) (hon:(W.vm n).on=true) (hwk:WOk W) (hls:∀ i,(W.ls i).on=false):W.destroy n=(0,W.without n):=by
 unfold Wd.destroy
 rw[if_neg (fun h=>h ⟨by omega,by omega,by rw[Int.toNat_natCast];exact hon⟩),Int.toNat_natCast]
 have e:(fun i=>if (W.ls i).on=true∧((W.ls i).fr=n∨(W.ls i).to=n) then ls0 else W.ls i)=W.ls:=by
  funext i
  rw[if_neg (by rw[hls i];rintro⟨h,_⟩;cases h)]
 rw[e];rfl
theorem offB_on {f:Nat→Bv} {m:Nat} (h:(offB f n m).on=true):m≠n∧(f m).on=true:=by
 unfold offB at h
 split at h
 ·cases h
 ·rename_i e;exact⟨e,h⟩
theorem offB_of {f:Nat→Bv} {m:Nat} (h:m≠n):offB f n m = { f m with bells:=upd (f m).bells n false }:=if_neg h
theorem offB_at {f:Nat→Bv}:offB f n n=bv0:=if_pos rfl
theorem WOk.without (h:WOk W) (hls:∀ i,(W.ls i).on=false):WOk (W.without n):=by
 have hown:∀ m p,(W.without n).own m p=if m=n then none else W.own m p:=fun m p=>by
  show upd W.own n (fun _=>none) m p=_
  by_cases e:m=n
  ·subst e;rw[upd_at,if_pos rfl]
  ·rw[upd_of e,if_neg e]
 refine⟨fun m hm=>?_,fun m hm=>?_,fun m hm=>?_,fun m s hs=>?_,fun m=>?_,fun m j hm=>?_,fun m=>?_,fun m k hk=>?_,fun m p l hl=>?_,fun m=>?_,fun i hi=>?_,fun i hi=>?_,fun i hi=>?_,fun i j hi=>?_,fun m k w hw=>?_⟩
 ·have hm':(offB W.vm n m).on=false:=hm
  by_cases e:m=n
  ·subst e
   refine⟨offB_at,fun p=>by rw[hown,if_pos rfl],fun k=>?_⟩
   show upd W.alarm m _ m k=none
   rw[upd_at]
  ·rw[offB_of e] at hm'
   have:=h.off m hm'
   refine⟨?_,fun p=>by rw[hown,if_neg e];exact this.2.1 p,fun k=>?_⟩
   ·show offB W.vm n m=bv0
    rw[offB_of e,this.1]
    unfold bv0 upd
    simp
   ·show upd W.alarm n _ m k=none
    rw[upd_of e];exact this.2.2 k
 ·show (offB W.vm n m).on=false
  by_cases e:m=n
  ·subst e;rw[offB_at];rfl
  ·rw[offB_of e];exact h.six m hm
 ·obtain⟨e,hm'⟩:=offB_on hm
  show 1≤(offB W.vm n m).seats.length∧(offB W.vm n m).seats.length≤3
  rw[offB_of e];exact h.seats m hm'
 ·have hs':s∈(offB W.vm n m).seats:=hs
  by_cases e:m=n
  ·subst e;rw[offB_at] at hs';cases hs'
  ·rw[offB_of e] at hs';exact h.ok m s hs'
 ·show (offB W.vm n m).keys.length≤64∧Byt (offB W.vm n m).keys
  by_cases e:m=n
  ·subst e;rw[offB_at];exact⟨by decide,fun x hx=>by cases hx⟩
  ·rw[offB_of e];exact h.keys m
 ·obtain⟨e,hm'⟩:=offB_on hm
  show ((offB W.vm n m).disk j).length=256∧Byt ((offB W.vm n m).disk j)
  rw[offB_of e];exact h.disk m j hm'
 ·show 0≤(offB W.vm n m).quota∧(offB W.vm n m).quota≤32
  by_cases e:m=n
  ·subst e;rw[offB_at];exact⟨by decide,by decide⟩
  ·rw[offB_of e];exact h.quota m
 ·have hk':(offB W.vm n m).bells k=true:=hk
  by_cases e:m=n
  ·subst e;rw[offB_at] at hk';cases hk'
  ·rw[offB_of e] at hk'
   have hk2:upd (W.vm m).bells n false k=true:=hk'
   by_cases ek:k=n
   ·subst ek;rw[upd_at] at hk2;cases hk2
   ·rw[upd_of ek] at hk2
    have:=h.bells m k hk2
    refine⟨?_,?_,?_,this.2.2.2⟩
    ·show (offB W.vm n m).on=true
     rw[offB_of e];exact this.1
    ·show (offB W.vm n k).on=true
     rw[offB_of ek];exact this.2.1
    ·show (offB W.vm n k).bells m=true
     rw[offB_of ek]
     show upd (W.vm k).bells n false m=true
     rw[upd_of e];exact this.2.2.1
 ·rw[hown] at hl
  split at hl
  ·cases hl
  ·rename_i e
   have:=h.pg m p l hl
   refine⟨?_,this.2⟩
   show (offB W.vm n m).on=true
   rw[offB_of e];exact this.1
 ·show ((W.without n).pages m:Int)≤(offB W.vm n m).quota
  by_cases e:m=n
  ·subst e
   have:(W.without m).pages m=0:=count_zero fun p _=>by rw[hown,if_pos rfl];rfl
   rw[this,offB_at];exact Int.le_refl 0
  ·have:(W.without n).pages m=W.pages m:=count_congr fun p _=>by rw[hown,if_neg e]
   rw[this,offB_of e];exact h.most m
 ·have:(W.ls i).on=true:=hi
  rw[hls i] at this;cases this
 ·exact h.lso i hi
 ·have:(W.ls i).on=true:=hi
  rw[hls i] at this;cases this
 ·have:(W.ls i).on=true:=hi
  rw[hls i] at this;cases this
 ·have hw':upd W.alarm n (fun _=>none) m k=some w:=hw
  by_cases e:m=n
  ·subst e;rw[upd_at] at hw';cases hw'
  ·rw[upd_of e] at hw'
   show k<(offB W.vm n m).seats.length∧_
   rw[offB_of e];exact h.alarm m k w hw'
def Rel.frs (_h:Rel C W φ) (n:Nat):List Nat:=(W.pgs n).map (φ n)++C.fr n
theorem frs_mem (h:Rel C W φ) (hon:(W.vm n).on=true) {f:Nat}:f∈(W.pgs n).map (φ n)++C.fr n↔f<C.N∧((C.own f).kind=3∨(C.own f).kind=2)∧(C.own f).vm=n:=by
 rw[List.mem_append,List.mem_map]
 constructor
 ·rintro (⟨p,hp,rfl⟩ | hf)
  ·obtain⟨l,hl⟩:=Option.isSome_iff_exists.1 (List.mem_filter.1 hp).2
   have:=h.pg n p l hl
   exact⟨this.1,.inl (by rw[this.2.1]),by rw[this.2.1]⟩
  ·have:=h.tabf n f hf
   exact⟨this.1,.inr (by rw[this.2]),by rw[this.2]⟩
 ·rintro⟨hf,hk | hk,hv⟩
  ·left
   obtain⟨m,q,h1,h2⟩:=h.pgk f hf hk
   obtain⟨l,hl⟩:=Option.isSome_iff_exists.1 h1
   have h3:=(h.pg m q l hl).2.1
   rw[h2] at h3
   rw[h3] at hv
   have:m=n:=by simp only at hv;omega
   subst this
   exact⟨q,List.mem_filter.2 ⟨List.mem_range.2 (h.wk.pg m q l hl).2.1,h1⟩,h2⟩
  ·right
   obtain⟨m,hm⟩:=h.tabk f hf hk
   have:=(h.tabf m f hm).2
   rw[this] at hv
   have:m=n:=by simp only at hv;omega
   subst this;exact hm
theorem pgs_nodup (h:Rel C W φ):((W.pgs n).map (φ n)).Nodup:=by
 unfold List.Nodup
 rw[List.pairwise_map]
 have hnd:=List.Pairwise.filter (fun p=>(W.own n p).isSome) (List.nodup_range (n:=32))
 rw[List.pairwise_iff_forall_sublist] at hnd ⊢
 intro a b hs he
 have ha:a∈(List.range 32).filter fun p=>(W.own n p).isSome:=hs.subset (by simp)
 have hb:b∈(List.range 32).filter fun p=>(W.own n p).isSome:=hs.subset (by simp)
 obtain⟨la,hla⟩:=Option.isSome_iff_exists.1 (List.mem_filter.1 ha).2
 obtain⟨lb,hlb⟩:=Option.isSome_iff_exists.1 (List.mem_filter.1 hb).2
 exact hnd hs (h.inj hla hlb he).2
theorem frs_nodup (h:Rel C W φ) (hon:(W.vm n).on=true):((W.pgs n).map (φ n)++C.fr n).Nodup:=by
 rw[List.nodup_append]
 refine⟨pgs_nodup h,(h.tab n hon).2.2,fun a ha b hb e=>?_⟩
 subst e
 obtain⟨p,hp,rfl⟩:=List.mem_map.1 ha
 obtain⟨l,hl⟩:=Option.isSome_iff_exists.1 (List.mem_filter.1 hp).2
 have h1:=(h.pg n p l hl).2.1
 have h2:=(h.tabf n _ hb).2
 rw[h1] at h2;simp at h2
theorem frs_used (h:Rel C W φ) (hon:(W.vm n).on=true) {f:Nat} (hf:f∈(W.pgs n).map (φ n)++C.fr n):f<C.N∧C.used f=true:=by
 have:=(frs_mem h hon).1 hf
 refine⟨this.1,?_⟩
 rw[h.used f this.1]
 exact decide_eq_true (by omega)
theorem Rel.destroy (h:Rel C W φ) (hon:(W.vm n).on=true) (hls:∀ i,(W.ls i).on=false):Rel (C.without n ((W.pgs n).map (φ n)++C.fr n)) (W.without n) φ:=by
 have hmem:=fun f=>frs_mem h hon (f:=f)
 have hcount:=offU_count (frs_nodup h hon) fun f hf=>frs_used h hon hf
 have hnd:=frs_nodup h hon
 have hlen:((W.pgs n).map (φ n)++C.fr n).length=W.pages n+5:=by
  rw[List.length_append,List.length_map,pgs_len,(h.tab n hon).2.1]
 generalize hL:(W.pgs n).map (φ n)++C.fr n=L at hmem hcount hnd hlen
 have hown:∀ f,(C.without n L).own f=if f∈L then ow0 else C.own f:=fun f=>offO_eq
 have hno:∀ f,f<C.N→(C.own f).vm≠n→(C.without n L).own f=C.own f:=fun f hf hv=>by
  rw[hown,if_neg fun h=>hv ((hmem f).1 h).2.2]
 have hwo:∀ m p,(W.without n).own m p=if m=n then none else W.own m p:=fun m p=>by
  show upd W.own n (fun _=>none) m p=_
  by_cases e:m=n
  ·subst e;rw[upd_at,if_pos rfl]
  ·rw[upd_of e,if_neg e]
 have hwh:∀ m p,m≠n→(W.without n).where_ m p=W.where_ m p:=fun m p e=>by
  unfold Wd.where_
  rw[hwo,if_neg e];rfl
 refine⟨h.wk.without hls,by show offB C.vm n=offB W.vm n;rw[h.vm],h.ls,h.ev,h.N,h.form,h.now,fun m hm=>?_,fun m k=>?_,?_,h.left,fun f hf=>?_,fun f hf hk=>?_,fun f hf=>?_,h.len,fun m hm=>?_,fun m hm=>?_,fun m f hf=>?_,fun f hf hk=>?_,fun m j hm hj=>?_,fun m p hm hp=>?_,fun m p l hl=>?_,fun f hf hk=>?_,⟨h.hyp.1,fun f=>?_⟩,fun r hr=>?_,?_⟩
 ·obtain⟨e,hm'⟩:=offB_on hm
  have:=h.time m hm'
  show 0≤upd C.late n 0 m∧upd C.late n 0 m≤C.now∧W.time m=C.now-upd C.late n 0 m
  rw[upd_of e];exact this
 ·show upd C.alm n (fun _=>none) m k=(upd W.alarm n (fun _=>none) m k).map fun w=>min (w+upd C.late n 0 m) most64
  by_cases e:m=n
  ·subst e;rw[upd_at,upd_at,upd_at];rfl
  ·rw[upd_of e,upd_of e,upd_of e];exact h.alm m k
 ·show W.free+(5+(W.pages n:Int))=(count (fun f=>! offU C.used L f) C.N:Int)
  rw[hcount,hlen,h.free];omega
 ·show offU C.used L f=decide (((C.without n L).own f).kind≠0)
  rw[offU_eq,hown]
  by_cases e:f∈L
  ·rw[if_pos e,if_pos e];rfl
  ·rw[if_neg e,if_neg e];exact h.used f hf
 ·rw[hown] at hk ⊢
  split
  ·rfl
  ·rename_i e
   rw[if_neg e] at hk
   exact h.own0 f hf hk
 ·rw[hown]
  split
  ·exact⟨by decide,by decide⟩
  ·exact h.kind f hf
 ·have hm':(offB W.vm n m).on=false:=hm
  show upd C.fr n [] m=[]∧upd C.tf n 0 m=0∧upd C.late n 0 m=0
  by_cases e:m=n
  ·subst e;rw[upd_at,upd_at,upd_at];exact⟨rfl,rfl,rfl⟩
  ·rw[upd_of e,upd_of e,upd_of e]
   rw[offB_of e] at hm'
   exact h.off m hm'
 ·obtain⟨e,hm'⟩:=offB_on hm
  show upd C.tf n 0 m=C.form∧(upd C.fr n [] m).length=5∧(upd C.fr n [] m).Nodup
  rw[upd_of e,upd_of e];exact h.tab m hm'
 ·have hf':f∈upd C.fr n [] m:=hf
  by_cases e:m=n
  ·subst e;rw[upd_at] at hf';cases hf'
  ·rw[upd_of e] at hf'
   have:=h.tabf m f hf'
   refine⟨this.1,?_⟩
   rw[hno f this.1 (by rw[this.2];simp only;omega)];exact this.2
 ·rw[hown] at hk
  split at hk
  ·cases hk
  ·rename_i e
   obtain⟨m,hm⟩:=h.tabk f hf hk
   refine⟨m,?_⟩
   show f∈upd C.fr n [] m
   rw[upd_of fun em=>e ((hmem f).2 ⟨hf,.inr hk,by rw[(h.tabf m f hm).2,em]⟩)]
   exact hm
 ·obtain⟨e,hm'⟩:=offB_on hm
  show unp C.form (ld C.dat ((upd C.fr n [] m).getD 0 0) j)=some ((upd C.fr n [] m).getD (j+1) 0,true)
  rw[upd_of e];exact h.root m j hm' hj
 ·obtain⟨e,hm'⟩:=offB_on hm
  show unp C.form (ld C.dat ((upd C.fr n [] m).getD (p/8+1) 0) (p%8))=_
  rw[upd_of e,hwh m p e];exact h.leaf m p hm' hp
 ·rw[hwo] at hl
  split at hl
  ·cases hl
  ·rename_i e
   have:=h.pg m p l hl
   refine⟨this.1,?_,this.2.2⟩
   rw[hno _ this.1 (by rw[this.2.1];simp only;omega)];exact this.2.1
 ·rw[hown] at hk
  split at hk
  ·cases hk
  ·rename_i e
   obtain⟨m,p,h1,h2⟩:=h.pgk f hf hk
   refine⟨m,p,?_,h2⟩
   rw[hwo,if_neg ?_]
   ·exact h1
   ·intro em
    obtain⟨l,hl⟩:=Option.isSome_iff_exists.1 h1
    have h3:=(h.pg m p l hl).2.1
    rw[h2] at h3
    exact e ((hmem f).2 ⟨hf,.inl hk,by rw[h3,em]⟩)
 ·refine (h.hyp.2 f).trans ?_
  constructor
  ·rintro⟨h1,h2⟩
   refine⟨h1,?_⟩
   rw[hown,if_neg fun hm=>by have:=((hmem f).1 hm).2.1;omega];exact h2
  ·rintro⟨h1,h2⟩
   refine⟨h1,?_⟩
   rw[hown] at h2
   split at h2
   ·cases h2
   ·exact h2
 ·obtain⟨h1,h2⟩:=List.mem_filter.1 hr
  obtain⟨m,hm1,hm2,hm3⟩:=h.cache r h1
  have e:m≠n:=fun e=>by
   subst e
   rw[hm1] at h2;simp at h2
  refine⟨m,hm1,?_,?_⟩
  ·show (offB W.vm n m).on=true
   rw[offB_of e];exact hm2
  ·show walkC C.dat C.N (upd C.tf n 0 m) (upd C.fr n [] m) r.page=_
   rw[upd_of e,upd_of e];exact hm3
 ·exact Nat.le_trans (List.length_filter_le _ _) h.csize
end
end Go.Cr
end
section
namespace Go.Proofs.YtabdpmnhjlmnlaaGreatDoor
open Go Go.Pt Go.Cr Go.Hp
section
variable {S S':Mem} {ρ ρ':Rho} {R:Nat→Prop} {h:Nat} {A:Ad} {C:Cst} {W:Wd} {φ:Nat→Nat→Nat}
theorem lof_spec {ls:Nat→Ls} (hls:∀ i,(ls i).on=false) {n:Int} {Q:Sl→Mem→Prop} (hQ:Q ⟨none,0,0⟩ S):lease_Book_Of S (lsC ls) n Q:=by
 apply t_lease_Book_Of
 unfold b_lease_Book_Of
 refine⟨lsC_len,?_⟩
 simp only[jn]
 refine lp_rule (fun (z:Sl×Int) S'=>∃ i:Nat,z=(⟨none,0,0⟩,(i:Int))∧i≤16∧S'=S) (fun z=>16-z.2.toNat) ?_ ⟨0,rfl,by decide,rfl⟩
 rintro X z S' ⟨i,rfl,hi,rfl⟩ ih
 dsimp only at ih ⊢
 by_cases hlt:(i:Int)<16
 ·rw[if_pos hlt]
  refine⟨by omega,hlt,?_⟩
  rw[Int.toNat_natCast,gA_i (lsC_part (by omega) rfl)]
  refine⟨rfl,?_⟩
  rw[gB_i (show nthL (lsL (ls i)) 0=some (.bool (ls i).on) from rfl),hls i,if_neg (by decide),if_neg (by decide),w64 (by omega) (by omega)]
  exact ih _ S' ⟨i+1,rfl,by omega,rfl⟩ (by dsimp only;omega)
 ·rw[if_neg hlt]
  exact hQ
theorem rowK {w:Nat} {s:Sl} {l:List Value} (h:Row S w s l) (hk:Keeps S S' []):Row S' w s l:=h.keep fun b hb=>by
 rcases h.lie with ⟨h1,_⟩ | ⟨b',k,h1,h2,_⟩
 ·rw[h1] at hb;cases hb
 ·rw[h1] at hb;cases hb;exact hk b (by rw[h2];simp) (by simp)
def enP (x:Nat×Bool):List Value:=enL x.1 x.2
theorem enP_len (x:Nat×Bool):(enP x).length=3:=rfl
theorem enP_all {l:List (Nat×Bool)}:(l.flatMap enP).length=l.length*3:=fm_len enP_len l
theorem all_spec {m N:Nat} {d:Nat→List Int} {tf:Int} {fs:Sl} {fr:List Nat} (h:StoreD S ρ m N d) (hr:Row S 1 fs (nL fr)) {Q:Sl→Sl→Mem→Prop}
  (hQ:∀ t3 t4 S',Keeps S S' []→Row S' 3 t4 (((List.range 32).filterMap fun (p:Nat)=>walkC d N tf fr p).flatMap enP)→(∀ b o,t4.p=some (b,o)→S b=none)→Q t3 t4 S'):table_Table_All S (tbL tf fs) (some (m,0)) Q:=by
 apply t_table_Table_All
 unfold b_table_Table_All
 refine⟨rfl,?_⟩
 simp only[jn]
 have fr_of:∀ {S1:Mem} {b:Nat},Keeps S S1 []→S1 b=none→S b=none:=fun hk h=>by
  cases hs:S _ with
  | none=>rfl
  | some x=>rw[hk _ (by rw[hs];simp) (by simp),hs] at h;cases h
 refine lp_rule (fun (z:Sl×Sl×Int) S'=>∃ (i:Nat) (L:List Value),z.2.2=(i:Int)∧i≤32∧Keeps S S' []∧Row S' 1 z.1 L∧L.length≤i∧Row S' 3 z.2.1 (((List.range i).filterMap fun (p:Nat)=>walkC d N tf fr p).flatMap enP)∧(∀ b o,z.1.p=some (b,o)→S b=none)∧(∀ b o,z.2.1.p=some (b,o)→S b=none)∧∀ b o o',z.1.p=some (b,o)→z.2.1.p≠some (b,o')) (fun z=>32-z.2.2.toNat) ?_
  ⟨0,[],rfl,by decide,Keeps.refl,Row.nil,by decide,Row.nil,fun _ _ e=>(by cases e),fun _ _ e=>(by cases e),fun _ _ _ e=>(by cases e)⟩
 rintro X ⟨pg,l,z⟩ S1 ⟨i,L,hz,hi,hk,hrow1,hL,hrow2,hf1,hf2,hne⟩ ih
 dsimp only at hz hrow1 hrow2 hf1 hf2 hne ih ⊢
 subst hz
 have hn1:pg.n≤i:=by have:=hrow1.len;omega
 have hn2:l.n≤i:=by
  have:=hrow2.len
  rw[enP_all] at this
  have h2:=List.length_filterMap_le (fun (p:Nat)=>walkC d N tf fr p) (List.range i)
  rw[List.length_range] at h2
  omega
 by_cases hlt:(i:Int)<32
 ·rw[if_pos hlt]
  have es:(List.range (i+1)).filterMap (fun (p:Nat)=>walkC d N tf fr p)=(List.range i).filterMap (fun (p:Nat)=>walkC d N tf fr p)++(walkC d N tf fr (i:Int)).toList:=by
   rw[List.range_succ,List.filterMap_append,List.filterMap_cons]
   cases walkC d N tf fr (i:Int) <;> rfl
  refine walkD (h.keeps hk) (rowK hr hk) (fun f w S2 hw hk2=>?_) fun e S2 hw he hk2=>?_
  ·refine⟨rfl,?_⟩
   rw[if_pos rfl]
   have hk3:=hk.trans hk2
   have r1:=rowK hrow1 hk2
   have r2:=rowK hrow2 hk2
   refine ap_row r1 rfl (by decide) rfl (by omega) fun p3 S3 c kb e1 e2 e3 e4 e5=>?_
   have hc:S c=none:=by
    rcases e3 with e3 | e3
    ·exact hf1 c 0 e3
    ·exact fr_of hk3 e3
   have hcl:∀ o,l.p≠some (c,o):=fun o e=>by
    rcases e3 with e3 | e3
    ·exact hne c 0 o e3 e
    ·rcases r2.lie with ⟨h1,_⟩ | ⟨b',k,h1,h2,_⟩
     ·rw[h1] at e;cases e
     ·rw[h1] at e;cases e;rw[h2] at e3;cases e3
   have r2':Row S3 3 l (((List.range i).filterMap fun (p:Nat)=>walkC d N tf fr p).flatMap enP):=r2.keep fun b hb=>by
    rw[e4,set_ne fun e=>hcl 0 (by rw[←e];exact hb)]
   refine⟨rfl,?_⟩
   refine ap_row r2' rfl (by decide) rfl (by omega) fun l4 S4 c4 kb4 f1 f2 f3 f4 f5=>?_
   have hc3:S3 c=some kb:=by rw[e4];exact set_same
   have hc4:S c4=none∧c4≠c:=by
    rcases f3 with f3 | f3
    ·exact⟨hf2 c4 0 f3,fun e=>hcl 0 (by rw[←e];exact f3)⟩
    ·have:c4≠c:=fun e=>by rw[e,hc3] at f3;cases f3
     rw[e4,set_ne this] at f3
     exact⟨fr_of hk3 f3,this⟩
   have r1':Row S4 1 p3 (L++[.int .i64 (i:Int)]):=e5.keep fun b hb=>by
    rw[e2] at hb;cases hb
    rw[f4,set_ne hc4.2.symm]
   rw[w64 (by omega) (by omega)]
   refine ih _ _ ⟨i+1,L++[.int .i64 (i:Int)],by dsimp only;omega,by omega,?_,r1',by simp;omega,?_,fun b o e=>?_,fun b o e=>?_,fun b o o' e e'=>?_⟩ (by dsimp only;omega)
   ·rw[f4,e4];exact (hk3.fresh hc).fresh hc4.1
   ·dsimp only
    rw[es,hw,List.flatMap_append]
    exact f5
   ·rw[e2] at e;cases e;exact hc
   ·dsimp only at e;rw[f2] at e;cases e;exact hc4.1
   ·dsimp only at e e'
    rw[e2] at e;rw[f2] at e';cases e;cases e';exact hc4.2 rfl
  ·refine⟨rfl,?_⟩
   rw[if_neg he,w64 (by omega) (by omega)]
   refine ih _ _ ⟨i+1,L,by dsimp only;omega,by omega,hk.trans hk2,rowK hrow1 hk2,by omega,?_,hf1,hf2,hne⟩ (by dsimp only;omega)
   dsimp only
   rw[es,hw]
   show Row S2 3 l (((List.range i).filterMap (fun (p:Nat)=>walkC d N tf fr p)++[]).flatMap enP)
   rw[List.append_nil]
   exact rowK hrow2 hk2
 ·rw[if_neg hlt]
  have:i=32:=by omega
  subst this
  exact hQ _ _ S1 hk hrow2 hf2
theorem adropVM_spec {kb:Nat} {alm:Nat→Nat→Option Int} (h:ClkP S ρ kb alm) (hg:∀ b r,ρ b=some r→S b≠none) {n:Nat} {Q:Mem→Prop}
  (hQ:∀ S' ρ',Mv S ρ S' ρ' (fun r=>r=10∨r=11)→ClkP S' ρ' kb (upd alm n fun _=>none)→Q S'):alarm_Clock_DropVM S (some (kb,0)) n Q:=by
 obtain⟨tb,s,l,hck,ho,ha⟩:=h.ex
 refine Hk.dropVM_spec hck fun S' s' l' hp hL=>?_
 have hal:AlmOf l' (upd alm n fun _=>none):=by
  refine AlmOf.perm ?_ hp
  refine⟨List.Pairwise.filter _ ha.nd,fun a hm=>?_,fun m j t e=>?_⟩
  ·have h1:=ha.of a (List.mem_filter.1 hm).1
   have h2:=(List.mem_filter.1 hm).2
   refine⟨h1.1,h1.2.1,h1.2.2.1,h1.2.2.2.1,?_⟩
   rw[upd_of (by simp at h2;omega)];exact h1.2.2.2.2
  ·by_cases e1:m=n
   ·subst e1;rw[upd_at] at e;cases e
   ·rw[upd_of e1] at e
    refine List.mem_filter.2 ⟨ha.to m j t e,?_⟩
    simp;omega
 obtain⟨ρ',m,h2⟩:=clk_left hg h.rol ho hL hal
 exact hQ S' ρ' m h2
theorem off_recl {o:Nat→Ow} {f n:Nat} (h1:(o f).kind=3) (h2:(o f).vm=n) (h3:(o f).sh≤0):recC o f n=upd o f ow0:=by
 unfold recC;rw[if_pos ⟨h1,h2,h3⟩]
theorem off_rel {o:Nat→Ow} {f:Nat} (h1:(o f).kind=2):relC o f=upd o f ow0:=by
 unfold relC;rw[if_neg (by omega)]
theorem offO_app {o:Nat→Ow} {l:List Nat} {f:Nat}:offO o (l++[f])=upd (offO o l) f ow0:=by
 unfold offO;rw[List.foldl_append];rfl
theorem offU_app {u:Nat→Bool} {l:List Nat} {f:Nat}:offU u (l++[f])=upd (offU u l) f false:=by
 unfold offU;rw[List.foldl_append];rfl
def _root_.Go.Cr.Cst.off (C:Cst) (l:List Nat):Cst:={ C with own:=offO C.own l,used:=offU C.used l }
theorem take_ok {l:List Nat} {j:Nat} (hj:j<l.length):l.take (j+1)=l.take j++[l[j]]:=List.take_succ_eq_append_getElem hj
theorem nodup_take {l r:List Nat} (hn:(r++l).Nodup) {j:Nat} (hj:j<l.length):l[j]∉r++l.take j:=fun hm=>by
 rw[List.nodup_append] at hn
 rcases List.mem_append.1 hm with h | h
 ·exact hn.2.2 _ h _ (List.getElem_mem hj) rfl
 ·obtain⟨k,hk,e⟩:=List.mem_iff_getElem.1 h
  rw[List.length_take] at hk
  rw[List.getElem_take] at e
  exact List.pairwise_iff_getElem.1 hn.2.1 k j (by omega) hj (by omega) e
theorem offStep {l:List Nat} (hc:CrabA S ρ h A (C.off l)) {f:Nat} (hf:f<C.N) (hu:C.used f=true) (hm:f∉l) {own':Nat→Ow} (ho:own'=upd (offO C.own l) f ow0) {S1:Mem} (m1:Mv S ρ S1 ρ (· = 9)) (hs:OwnP S1 ρ A.ob C.N own') {Q:Int→Mem→Prop}
  (hQ:∀ S' ρ',Mv S ρ S' ρ' Rc→CrabA S' ρ' h A (C.off (l++[f]))→Q 0 S'):pool_Pool_Give S1 (some (A.p,0)) f Q:=by
 have hc3:=hc.setOwn m1 hs
 refine give_spec hc3.pl hc3.rg hf (fun _ S4 ρ4 m4 hp4=>?_) fun hu'=>?_
 ·have hc4:=hc3.setPool m4 (fun r hr=>.inl hr) hp4
  refine hQ S4 ρ4 ((m1.mono fun r hr=>by unfold Rc;omega).trans (m4.mono fun r hr=>by unfold R345 at hr;unfold Rc;omega)) ?_
  have e:(C.off (l++[f])) = { C with own:=own',used:=upd (offU C.used l) f false }:=by
   unfold Go.Cr.Cst.off
   rw[offO_app,offU_app,ho]
  rw[e];exact hc4
 ·have:offU C.used l f=false:=hu'
  rw[offU_eq,if_neg hm,hu] at this;cases this
theorem walk_pgs (hr:Rel C W φ) {n:Nat} (hon:(W.vm n).on=true) (hls:∀ i,(W.ls i).on=false):(List.range 32).filterMap (fun (p:Nat)=>walkC C.dat C.N (C.tf n) (C.fr n) p)=((W.pgs n).map (φ n)).map fun f=>(f,true):=by
 unfold Wd.pgs
 have key:∀ k,k≤32→(List.range k).filterMap (fun (p:Nat)=>walkC C.dat C.N (C.tf n) (C.fr n) p)=(((List.range k).filter fun p=>(W.own n p).isSome).map (φ n)).map fun f=>(f,true):=by
  intro k
  induction k with
  | zero=>intro _;rfl
  | succ k ih=>
   intro hk
   have hw:walkC C.dat C.N (C.tf n) (C.fr n) (k:Int)=(W.where_ n k).map fun q=>(φ q.1 q.2.1,q.2.2):=hr.walk hon (by omega)
   have hl:leaseAt W.ls n k=none:=by
    unfold leaseAt
    rw[List.find?_eq_none]
    intro i _
    rw[hls i];simp
   rw[List.range_succ,List.filterMap_append,List.filter_append,List.map_append,List.map_append,ih (by omega)]
   congr 1
   rw[List.filterMap_cons,hw]
   unfold Wd.where_
   rw[hl]
   cases ho:W.own n k with
   | none=>simp[ho]
   | some l=>simp[ho]
 exact key 32 (Nat.le_refl _)
set_option maxHeartbeats 1000000 in
theorem destroy_spec (hc:CrabA S ρ h A C) (hr:Rel C W φ) (hls:∀ i,(W.ls i).on=false) {vm:Int} {Q:Int→Mem→Prop} (hQ:∀ S',Aft h C S ρ (W.destroy vm).2 S'→Q (W.destroy vm).1 S'):crab_Crab_Destroy S (some (h,0)) vm Q:=by
 apply t_crab_Crab_Destroy
 unfold b_crab_Crab_Destroy
 simp only[jn]
 rw[if_neg (by simp),nn_i,gP_i hc.c3]
 refine there_spec hc ?_
 by_cases ht:¬W.there vm
 ·rw[decide_eq_false fun h=>ht ((there_iff hr).1 h),if_neg (by decide)]
  have e:W.destroy vm=(2,W):=by unfold Wd.destroy;rw[if_pos ht]
  rw[e] at hQ
  exact hQ S (After.here hc hr).aft
 have ht:=Decidable.not_not.1 ht
 rw[decide_eq_true ((there_iff hr).2 ht),if_pos rfl]
 obtain⟨n,rfl⟩:∃ m:Nat,vm=m:=⟨vm.toNat,by have:=ht.1;omega⟩
 have hon:(W.vm n).on=true:=by have:=ht.2.2;rwa [Int.toNat_natCast] at this
 have hn:n<6:=by have:=ht.2.1;omega
 rw[destroy_eq hn hon hr.wk hls] at hQ
 have hrel:=hr.destroy hon hls
 have hmem:=fun f=>frs_mem hr hon (f:=f)
 have hnd:=frs_nodup hr hon
 have hus:=fun f hf=>frs_used hr hon (f:=f) hf
 have hwp:=walk_pgs hr hon hls
 have hfl:∀ f∈(W.pgs n).map (φ n),(C.own f).kind=3∧(C.own f).vm=n∧(C.own f).sh≤0:=fun f hf=>by
  obtain⟨p,hp,rfl⟩:=List.mem_map.1 hf
  obtain⟨l,hl⟩:=Option.isSome_iff_exists.1 (List.mem_filter.1 hp).2
  have h1:=(hr.pg n p l hl).2.1
  have h2:lentN W.ls n p=0:=count_zero fun i _=>by rw[hls i];rfl
  rw[h1,h2]
  exact⟨rfl,rfl,Int.le_refl _⟩
 have hfr2:∀ f∈C.fr n,(C.own f).kind=2:=fun f hf=>by rw[(hr.tabf n f hf).2]
 have hlen32:((W.pgs n).map (φ n)).length≤32:=by
  rw[List.length_map,pgs_len];exact count_le _ 32
 generalize hP:(W.pgs n).map (φ n)=P at *
 simp only[Int.toNat_natCast] at *
 rw[nn_i,gP_i hc.c3,nn_i,gA_i hc.tls]
 refine lof_spec (ls:=C.ls) (by rw[hr.ls];exact hls) ?_
 refine lp_rule (fun (z:Int) S'=>z=0∧S'=S) (fun _=>0) ?_ ⟨rfl,rfl⟩
 rintro X z S' ⟨rfl,rfl⟩ _
 rw[if_neg (by decide),nn_i,gP_i hc.c3,nn_i]
 refine⟨by omega,by omega,?_⟩
 rw[gA_i (hc.vtab hn (by omega))]
 refine⟨rfl,?_⟩
 rw[gP_i hc.c0]
 refine all_spec hc.st (hc.vs n hn).fr.row fun t3 t4 S1 hk1 hrow hf4=>?_
 rw[hwp] at hrow
 have hc1:=hc.keeps hk1
 have hn4:t4.n=P.length:=by
  have:=hrow.len
  rw[enP_all,List.length_map] at this;omega
 have hf4':∀ b o,t4.p=some (b,o)→ρ b=none:=fun b o e=>by
  have hb:=hf4 b o e
  cases hρ:ρ b with
  | none=>rfl
  | some r=>exact absurd hb (hc.rg b r hρ)
 refine lp_rule (fun (z:Int) S'=>∃ (j:Nat) (ρ':Rho),z=(j:Int)∧j≤P.length∧Mv S1 ρ S' ρ' Rc∧CrabA S' ρ' h A (C.off (P.take j))) (fun z=>P.length-z.toNat) ?_ ⟨0,ρ,rfl,Nat.zero_le _,Mv.refl hc1.rg,hc1⟩
 rintro X z S2 ⟨j,ρ2,rfl,hj,m2,hc2⟩ ih
 by_cases hlt:(j:Int)<(t4.n:Int)
 ·rw[if_pos hlt]
  have hjl:j<P.length:=by omega
  have hrow2:=row_kept hrow m2 hf4'
  have hw2:Rw S2 (fun _=>some 0) 0 3 t4 ((P.map fun f=>(f,true)).flatMap enP):=⟨hrow2,fun _ _ _=>rfl⟩
  obtain⟨c,e1,e2⟩:=hw2.sl (by rw[enP_all,List.length_map];omega)
  rw[e1,sl_i]
  refine⟨by omega,hlt,?_⟩
  have hjm:j<(P.map fun f=>(f,true)).length:=by rw[List.length_map];exact hjl
  have hpart:S2.part c (0+(j:Int).toNat*3) 3=some (enL P[j] true):=by
   rw[hw2.part e2 (j*3) (by rw[enP_all];omega) (by omega),fm_part enP_len hjm,List.getElem_map];rfl
  rw[gA_i hpart]
  refine⟨rfl,?_⟩
  rw[gP_i hc2.c3,nn_i,gP_i hc2.t74,gI_i (show nthL (enL P[j] true) 1=some (.int .i64 P[j]) from rfl)]
  have hPj:=hus P[j] (List.mem_append_left _ (List.getElem_mem hjl))
  have hnm:P[j]∉P.take j:=by
   have:=nodup_take (r:=[]) (l:=P) (by
    rw[List.nodup_append] at hnd
    exact hnd.1) hjl
   simpa using this
  refine reclaim_spec hc2.ow hc2.rg hPj.1 fun e S3 m3 hs3=>?_
  have hc3:=hc2.setOwn m3 hs3
  refine⟨hc3.c3,?_⟩
  rw[gP_i hc3.c1,gI_i (show nthL (enL P[j] true) 1=some (.int .i64 P[j]) from rfl)]
  have hold:offO C.own (P.take j) P[j]=C.own P[j]:=by rw[offO_eq,if_neg hnm]
  have h3:=hfl P[j] (List.getElem_mem hjl)
  refine offStep hc2 hPj.1 hPj.2 hnm (off_recl (o:=offO C.own (P.take j)) (by rw[hold];exact h3.1) (by rw[hold];exact h3.2.1) (by rw[hold];exact h3.2.2)) m3 hs3 fun S4 ρ4 m4 hc4=>?_
  rw[w64 (by omega) (by omega)]
  refine ih _ _ ⟨j+1,ρ4,by omega,by omega,m2.trans m4,?_⟩ (by omega)
  rw[take_ok hjl];exact hc4
 rw[if_neg hlt]
 have hje:j=P.length:=by omega
 subst hje
 rw[List.take_length] at hc2
 clear ih
 rw[gL_i (show nthL (tbL (C.tf n) (A.x n).fs) 1=some (eL (A.x n).fs) from rfl)]
 have hfs:∀ {S':Mem} {ρ':Rho} {C':Cst},CrabA S' ρ' h A C'→C'.fr=C.fr→Rw S' ρ' (40+n) 1 (A.x n).fs (nL (C.fr n)):=fun hc' e=>by
  have:=(hc'.vs n hn).fr
  rw[e] at this;exact this
 have hfn:(A.x n).fs.n=(C.fr n).length:=(hfs hc rfl).n (by decide) (by unfold nL;rw[List.length_map,Nat.mul_one])
 have hf5:=(hr.tab n hon).2.1
 refine lp_rule (fun (z:Int) S'=>∃ (j:Nat) (ρ':Rho),z=(j:Int)∧j≤(C.fr n).length∧Mv S1 ρ S' ρ' Rc∧CrabA S' ρ' h A (C.off (P++(C.fr n).take j))) (fun z=>(C.fr n).length-z.toNat) ?_ ⟨0,ρ2,rfl,Nat.zero_le _,m2,by rw[List.take_zero,List.append_nil];exact hc2⟩
 rintro X z S3 ⟨j,ρ3,rfl,hj3,m3,hc3⟩ ih
 by_cases hlt3:(j:Int)<((A.x n).fs.n:Int)
 ·rw[if_pos hlt3]
  have hjl:j<(C.fr n).length:=by omega
  have hw3:=hfs hc3 rfl
  obtain⟨c,e1,e2⟩:=hw3.sl (by unfold nL;rw[List.length_map];omega)
  rw[e1,sl_i]
  refine⟨by omega,hlt3,?_⟩
  have hcell:S3.cell c (0+(j:Int).toNat*1)=some (.int .i64 (C.fr n)[j]):=by
   rw[hw3.cell e2 j (by unfold nL;rw[List.length_map];omega) (by omega)]
   unfold nL
   rw[nthL_eq,List.getElem?_map,List.getElem?_eq_getElem hjl];rfl
  rw[gI_i hcell,gP_i hc3.c3,nn_i,gP_i hc3.t74]
  have hPj:=hus (C.fr n)[j] (List.mem_append_right _ (List.getElem_mem hjl))
  have hnm:=nodup_take hnd hjl
  refine release_spec hc3.ow hc3.rg hPj.1 fun e S4 m4 hs4=>?_
  have hc4:=hc3.setOwn m4 hs4
  rw[gP_i hc4.c1]
  have hold:offO C.own (P++(C.fr n).take j) (C.fr n)[j]=C.own (C.fr n)[j]:=by rw[offO_eq,if_neg hnm]
  refine offStep hc3 hPj.1 hPj.2 hnm (off_rel (o:=offO C.own (P++(C.fr n).take j)) (by rw[hold];exact hfr2 _ (List.getElem_mem hjl))) m4 hs4 fun S5 ρ5 m5 hc5=>?_
  rw[w64 (by omega) (by omega)]
  refine ih _ _ ⟨j+1,ρ5,by omega,by omega,m3.trans m5,?_⟩ (by omega)
  rw[take_ok hjl,←List.append_assoc];exact hc5
 rw[if_neg hlt3]
 have hje:j=(C.fr n).length:=by omega
 subst hje
 rw[List.take_length] at hc3
 clear ih
 have hcs:=hr.csize
 refine dropVMC_spec hc3.cap hc3.rg (show C.cache.length≤100 by omega) fun S4 ρ4 m4 h4=>?_
 obtain⟨cs,h5,h6⟩:=h4.ex
 have hc4:=hc3.setCache m4 h5 h6
 rw[gP_i hc4.c3,nn_i,gP_i hc4.t171]
 refine adropVM_spec hc4.ck hc4.rg fun S5 ρ5 m5 hk5=>?_
 have hc5:=hc4.setClk m5 (fun r hr=>by omega) hk5
 rw[gP_i hc5.c3,nn_i]
 refine⟨by omega,by omega,?_⟩
 refine cvm_put hc5 (j:=0) (vs:=[.bool false,.slice (none) 0 0,.int .i64 0,.slice (none) 0 0,.int .i64 0,.int .u64 0,.slice (none) 0 0,.slice (none) 0 0,.slice (none) 0 0,.slice (none) 0 0,.slice (none) 0 0,.int .u32 0]) (x':=vx0) (v':=bv0) (tf':=0) (late':=0) (fr':=[]) hn (by omega) rfl (by decide) rfl ⟨Rw.nil,fun s hs=>(by cases hs),Rw.nil,Rw.nil,fun j _=>Rw.nil⟩ fun S6 m6 hc6=>?_
 have mm:Mv S' ρ S6 ρ5 Rc:=(hc.mv0 hk1).trans (m3.trans ((m4.mono fun r hr=>by unfold Rc;omega).trans ((m5.mono fun r hr=>by unfold Rc;omega).trans (m6.mono fun r hr=>by unfold Rc;omega))))
 refine lp_rule (fun (z:Int) S'=>∃ (i:Nat) (A':Ad) (v:Nat→Bv),z=(i:Int)∧i≤6∧Mv S6 ρ5 S' ρ5 Rc∧(v=fun m=>if m<i then { upd C.vm n bv0 m with bells:=upd (upd C.vm n bv0 m).bells n false } else upd C.vm n bv0 m)∧CrabA S' ρ5 h A' { C.without n (P++C.fr n) with vm:=v }) (fun z=>6-z.toNat) ?_ ⟨0,_,_,rfl,by decide,Mv.refl hc6.rg,rfl,hc6⟩
 rintro X z S7 ⟨i,A7,v,rfl,hi,m7,hv,hc7⟩ ih
 by_cases hl6:(i:Int)<6
 ·rw[if_pos hl6,gP_i hc7.c3,nn_i]
  refine⟨by omega,hl6,?_⟩
  have hi6:i<6:=by omega
  rw[Int.toNat_natCast,gI_i (hc7.vcell (n:=i) (j:=11) hi6 (by decide) (by omega))]
  refine⟨by omega,by omega,hl6,?_⟩
  have hvi:=hc7.vs i hi6
  refine cvm_put hc7 (n:=i) (j:=11) (vs:=[.int .u32 (iandn .u32 (bI (v i).bells) (ishl .u32 1 (n:Int)))]) (x':=A7.x i) (v':={ v i with bells:=upd (v i).bells n false }) (tf':=upd C.tf n 0 i) (late':=upd C.late n 0 i) (fr':=upd C.fr n [] i) hi6 (by omega) rfl (by simp) (by rw[iandn_bell _ hn];rfl) ⟨hvi.se,hvi.r,hvi.fr,hvi.ke,hvi.di⟩ fun S8 m8 hc8=>?_
  rw[w64 (by omega) (by omega)]
  refine ih _ _ ⟨i+1,{ A7 with x:=upd A7.x i (A7.x i) },upd v i { v i with bells:=upd (v i).bells n false },by omega,by omega,m7.trans (m8.mono fun r hr=>by unfold Rc;omega),?_,?_⟩ (by omega)
  ·funext m
   by_cases e:m=i
   ·subst e
    have e0:v m=upd C.vm n bv0 m:=by rw[hv];exact if_neg (by omega)
    rw[upd_at,if_pos (by omega),e0]
   ·rw[upd_of e,hv]
    dsimp only
    by_cases h1:m<i
    ·rw[if_pos h1,if_pos (by omega)]
    ·rw[if_neg h1,if_neg (by omega)]
  ·have e1:upd (upd C.tf n 0) i (upd C.tf n 0 i)=upd C.tf n 0:=upd_self
   have e2:upd (upd C.late n 0) i (upd C.late n 0 i)=upd C.late n 0:=upd_self
   have e3:upd (upd C.fr n []) i (upd C.fr n [] i)=upd C.fr n []:=upd_self
   have hc8':CrabA S8 ρ5 h { A7 with x:=upd A7.x i (A7.x i) } { C.without n (P++C.fr n) with vm:=upd v i { v i with bells:=upd (v i).bells n false },tf:=upd (upd C.tf n 0) i (upd C.tf n 0 i),late:=upd (upd C.late n 0) i (upd C.late n 0 i),fr:=upd (upd C.fr n []) i (upd C.fr n [] i) }:=hc8
   rw[e1,e2,e3] at hc8'
   exact hc8'
 rw[if_neg hl6]
 have hi6:i=6:=by omega
 subst hi6
 have hve:v=offB C.vm n:=by
  funext m
  rw[hv]
  dsimp only
  by_cases e:m=n
  ·subst e
   rw[if_pos hn,upd_at,offB_at]
   unfold bv0 upd;simp
  ·rw[upd_of e,offB_of e]
   by_cases h6:m<6
   ·rw[if_pos h6]
   ·rw[if_neg h6,hr.vm,(hr.wk.off m (hr.wk.six m (by omega))).1]
    unfold bv0 upd;simp
 rw[hve] at hc7
 exact hQ S7 ⟨ρ5,A7,_,φ,mm.trans m7,hc7,hrel,rfl,rfl,rfl,rfl,rfl⟩
end
end Go.Proofs.YtabdpmnhjlmnlaaGreatDoor
end
section
namespace Go.Proofs.YtabdpmnhjlmnlaaGreatDoor
open Go Go.Pt
attribute [local irreducible] Code.wp Back bodyPost wpList FR WL WC WQ WA AW Tr Yc HC AllC
set_option maxRecDepth 20000
set_option maxHeartbeats 4000000
set_option linter.unusedVariables false
def b_hermitcrablaw16_CrabPages (S:Mem) (quota:Int) (n:Int) (Q:Bool→Mem→Prop):Prop:=
 jn (fun (Sx:Mem)=>
 crab_New Sx 2 60 4 fun t t_1 Sx_1=>
 jn (fun (Sx_2:Mem)=>
 hermitcrabref01_Word Sx_2 1 5 0 0 1 fun t_2 Sx_3=>
 hermitcrabref01_Word Sx_3 3 1 5 8 0 fun t_3 Sx_4=>
 hermitcrabref01_Word Sx_4 20 0 0 0 9 fun t_4 Sx_5=>
 hermitcrabref01_Word Sx_5 11 5 5 0 1 fun t_5 Sx_6=>
 hermitcrabref01_Word Sx_6 14 10 10 0 (-3) fun t_6 Sx_7=>
 al Sx_7 41 ([.int .u32 t_2,.int .u32 t_3,.int .u32 t_4,.int .u32 t_5,.int .u32 t_6]) fun b Sx_8=>
 jn (fun (p:Sl) (Sx_9:Mem)=>
 crab_Crab_Create Sx_9 t 1 (IntKind.i64.wrap (2+(IntKind.i64.wrap (Int.tmod quota 10)))) 1 p fun t_7 t_8 Sx_10=>
 jn (fun (Sx_11:Mem)=>
 if t_8=0 then
 crab_Crab_Pages Sx_11 t t_7 fun t_9 Sx_12=>
 if t_9=(if IntKind.i64.wrap (2+(IntKind.i64.wrap (Int.tmod quota 10)))<IntKind.i64.wrap (1+(IntKind.i64.wrap (Int.tmod n 20))) then IntKind.i64.wrap (2+(IntKind.i64.wrap (Int.tmod quota 10))) else IntKind.i64.wrap (1+(IntKind.i64.wrap (Int.tmod n 20)))) then
 nn t fun b_1 o=>
 gP (Sx_12.cell b_1 (o+1)) fun t_10=>
 pool_Pool_Left Sx_12 t_10 fun t_11 Sx_13=>
 if t_11=IntKind.i64.wrap (51-(if IntKind.i64.wrap (2+(IntKind.i64.wrap (Int.tmod quota 10)))<IntKind.i64.wrap (1+(IntKind.i64.wrap (Int.tmod n 20))) then IntKind.i64.wrap (2+(IntKind.i64.wrap (Int.tmod quota 10))) else IntKind.i64.wrap (1+(IntKind.i64.wrap (Int.tmod n 20))))) then
 crab_Crab_Destroy Sx_13 (some (b_1,o)) t_7 fun t_12 Sx_14=>
 if t_12=0 then
 gP (Sx_14.cell b_1 (o+1)) fun t_13=>
 pool_Pool_Left Sx_14 t_13 fun t_14 Sx_15=>
 Q (decide (t_14=56)) Sx_15
 else
 Q false Sx_14
 else
 Q false Sx_13
 else
 Q false Sx_12
 else
 Q false Sx_11) fun Jx=>
 lp (fun Xx (i:Int) (Sx_16:Mem)=>
 if i<IntKind.i64.wrap (1+(IntKind.i64.wrap (4*(IntKind.i64.wrap (Int.tmod n 20))))) then
 crab_Crab_Run Sx_16 t t_7 0 fun t_15 Sx_17=>
 Xx (IntKind.i64.wrap (i+1)) Sx_17
 else
 Jx Sx_16) 0 Sx_10) fun Jx_1=>
 lp (fun Xx_1 (z:Sl×Int) (Sx_18:Mem)=>
 match z with
 | (p_1,i_1)=>
 jn (fun (Sx_19:Mem)=>
 0≤i_1∧i_1<5 ∧
 gI (Sx_19.cell b (0+i_1.toNat*1)) .u32 fun t_16=>
 0≤i_1∧i_1<5 ∧
 gI (Sx_19.cell b (0+i_1.toNat*1)) .u32 fun t_17=>
 0≤i_1∧i_1<5 ∧
 gI (Sx_19.cell b (0+i_1.toNat*1)) .u32 fun t_18=>
 0≤i_1∧i_1<5 ∧
 gI (Sx_19.cell b (0+i_1.toNat*1)) .u32 fun t_19=>
 ap Sx_19 5 1 1 [.int .u8 0] p_1 4 ([.int .u8 (IntKind.u8.wrap t_16),.int .u8 (IntKind.u8.wrap (ishr .u32 t_17 8)),.int .u8 (IntKind.u8.wrap (ishr .u32 t_18 16)),.int .u8 (IntKind.u8.wrap (ishr .u32 t_19 24))]) fun t_20 Sx_20=>
 Sx_20.cell b (0+i_1.toNat*1)=some (.int .u32 t_19) ∧
 Sx_20.cell b (0+i_1.toNat*1)=some (.int .u32 t_18) ∧
 Sx_20.cell b (0+i_1.toNat*1)=some (.int .u32 t_17) ∧
 Sx_20.cell b (0+i_1.toNat*1)=some (.int .u32 t_16) ∧
 Xx_1 (t_20,IntKind.i64.wrap (i_1+1)) Sx_20) fun Jx_2=>
 if i_1<5 then
 Jx_2 Sx_18
 else
 Jx_1 p_1 Sx_18) (⟨none,0,0⟩,0) Sx_8) fun Jx_3=>
 if t_1≠0 then
 Q false Sx_1
 else
 Jx_3 Sx_1) fun Jx_4=>
 hermitcrablaw16_awake S fun t_21 Sx_21=>
 if t_21=true then
 Jx_4 Sx_21
 else
 Q false Sx_21
theorem t_hermitcrablaw16_CrabPages {S:Mem} {quota:Int} {n:Int} {Q:Bool→Mem→Prop} (H:b_hermitcrablaw16_CrabPages S quota n Q):hermitcrablaw16_CrabPages S quota n Q:=by
 unfold b_hermitcrablaw16_CrabPages at H
 exact Tr.intro Tryz.func10 E Tryz.ntmps10 E fun w0=>csr<|gv E E<|nx<|c_join2 H (fun (J:Mem→Prop) (z:Unit) S=>J S) (fun z=>⟨123,[(0,.int .u8 quota),(1,.int .u8 n)]⟩) (fun z=>[]) (fun _ Sx H1=>csr<|s_k2 E E H1 fun t t_1 Sx_1 H2=>mv E E<|s_p E (y_extract E E)<|s_p E (y_extract E E)<|gv E E<|gv E E<|nx<|c_join2 H2 (fun (J:Mem→Prop) (z:Unit) S=>J S) (fun z=>⟨123,[(0,.int .u8 quota),(1,.int .u8 n),(5,eP t)]⟩) (fun z=>[]) (fun _ Sx_2 H3=>csr<|mv E E<|s_p E (y_rem E E (by decide))<|s_p E (y_conv ⟨_,Tryz.underlying5⟩ E)<|s_p E (y_add E E)<|gv E E<|nxr<|s_k1 E E H3 fun t_2 Sx_3 H4=>s_k1 E E H4 fun t_3 Sx_4 H5=>s_k1 E E H5 fun t_4 Sx_5 H6=>s_k1 E E H6 fun t_5 Sx_6 H7=>s_k1 E E H7 fun t_6 Sx_7 H8=>s_bs E E (by decide) E fun b=>s_pub 0 E fun hb=>have H9:=H8 b hb;gv E E<|nxr<|gv E E<|nx<|c_join2 H9 (fun (J:Sl→Mem→Prop) (z:Sl) S=>J z S) (fun z=>⟨123,[(1,.int .u8 n),(5,eP t),(7,.int .i64 (IntKind.i64.wrap (2+(IntKind.i64.wrap (Int.tmod quota 10))))),(9,eL z)]⟩) (fun z=>[]) (fun p Sx_9 H10=>csr<|mv E E<|mv E E<|mv E E<|by exact s_k2 E E H10 fun t_7 t_8 Sx_10 H11=>mv E E<|s_p E (y_extract E E)<|s_p E (y_extract E E)<|gv E E<|gv E E<|nxr<|mv E E<|s_p E (y_rem E E (by decide))<|s_p E (y_conv ⟨_,Tryz.underlying5⟩ E)<|gv E E<|nx<|c_join2 H11 (fun (J:Mem→Prop) (z:Unit) S=>J S) (fun z=>⟨123,[(5,eP t),(7,.int .i64 (IntKind.i64.wrap (2+(IntKind.i64.wrap (Int.tmod quota 10))))),(11,.int .i64 t_7),(12,.int .i64 t_8),(13,.int .i64 (IntKind.i64.wrap (Int.tmod n 20)))]⟩) (fun z=>[]) (fun _ Sx_11 H12=>csr<|mv E E<|s_p E (y_add E E)<|mv E E<|s_p E (y_min E E)<|gv E E<|nxr<|mv E E<|iteK H12 (fun c H13=>ceT E E E (c)<|mv E E<|mv E E<|mv E E<|s_k1 E E H13 fun t_9 Sx_12 H14=>mv E E<|iteK H14 (fun c_1 H15=>ceT E E E (c_1)<|pk E E E<|mv E E<|mv E E<|by obtain⟨b_1,o,rfl,H16⟩:=H15;exact s_p E (y_nc E)<|s_p E (y_fa E E)<|gx H16 fun t_10 ht_10 H17=>s_v E (y_ld E) (hc_S ht_10)<|s_k1 E E H17 fun t_11 Sx_13 H18=>mv E E<|s_p E (y_sub E E)<|iteK H18 (fun c_2 H19=>ceT E E E (c_2)<|pk E E E<|mv E E<|mv E E<|mv E E<|s_k1 E E H19 fun t_12 Sx_14 H20=>iteK H20 (fun c_3 H21=>ceT E E E (c_3)<|pk E E E<|mv E E<|mv E E<|s_p E (y_nc E)<|s_p E (y_fa E E)<|gx H21 fun t_13 ht_13 H22=>s_v E (y_ld E) (hc_S ht_13)<|s_k1 E E H22 fun t_14 Sx_15 H23=>s_p E (y_eql E E)<|pk E E E<|gv E E<|nx<|c_ret<|q_ret Tryz.results10 (rv_tmp E rv_nil) ⟨_,E,H23⟩) fun c_3 H21=>ceF E E E (c_3)<|pk E E E<|mv E E<|sk4 E E E E<|sk2 E E<|pk E E E<|gv E E<|nx<|c_ret<|q_ret Tryz.results10 (rv_tmp E rv_nil) ⟨_,E,H21⟩) fun c_2 H19=>ceF E E E (c_2)<|pk E E E<|mv E E<|sk4 E E E E<|pk E E E<|mv E E<|sk4 E E E E<|sk2 E E<|pk E E E<|gv E E<|nx<|c_ret<|q_ret Tryz.results10 (rv_tmp E rv_nil) ⟨_,E,H19⟩) fun c_1 H15=>ceF E E E (c_1)<|pk E E E<|mv E E<|sk8 E E E E E E E E<|pk E E E<|mv E E<|s_skip E<|by exact sk2 E E<|s_skip E<|pk E E E<|mv E E<|sk4 E E E E<|sk2 E E<|pk E E E<|gv E E<|nx<|c_ret<|q_ret Tryz.results10 (rv_tmp E rv_nil) ⟨_,E,H15⟩) fun c H13=>ceF E E E (c)<|mv E E<|sk4 E E E E<|s_skip E<|pk E E E<|mv E E<|sk8 E E E E E E E E<|pk E E E<|mv E E<|sk2 E E<|by exact sk2 E E<|pk E E E<|mv E E<|sk4 E E E E<|sk2 E E<|pk E E E<|gv E E<|nx<|c_ret<|q_ret Tryz.results10 (rv_tmp E rv_nil) ⟨_,E,H13⟩) (fun Jx hJx H24=>csr<|gv E E<|nx<|c_block<|c_loop (fun z=>⟨123,[(5,eP t),(7,.int .i64 (IntKind.i64.wrap (2+(IntKind.i64.wrap (Int.tmod quota 10))))),(11,.int .i64 t_7),(12,.int .i64 t_8),(13,.int .i64 (IntKind.i64.wrap (Int.tmod n 20))),(14,.int .i64 z)]⟩) (fun z=>[]) 0 (idx:=[]) H24 E ⟨E,E,E,E,E,E,True.intro⟩ E<|fun Xx hXx i Sx_16 H25=>c_seq<|csr<|mv E E<|mv E E<|s_p E (y_mul E E)<|s_p E (y_add E E)<|iteK H25 (fun c_4 H26=>s_p E (yT (y_lss E E) c_4)<|nx<|c_t E E<|c_skip<|q_then<|c_seq<|c_block<|c_region<|mv E E<|mv E E<|s_k1 E E H26 fun t_15 Sx_17 H27=>s_nil<|q_blk<|q_then<|c_region<|mv E E<|s_p E (y_add E E)<|gv E E<|s_nil<|hXx (IntKind.i64.wrap (i+1)) _ _ _ _ [] H27 E ⟨E,E,E,E,E,E,True.intro⟩ E) fun c_4 H26=>s_p E (yF (y_lss E E) c_4)<|nx<|c_f E E<|c_exit<|q_then_exit<|q_then_exit<|q_blk_out<|hJx () _ _ _ _ [] H26 E ⟨E,E,E,E,E,True.intro⟩ E)) (fun Jx_1 hJx_1 H28=>csr<|gv E E<|nx<|c_block<|by exact c_loop (fun z=>⟨123,[(1,.int .u8 n),(5,eP t),(7,.int .i64 (IntKind.i64.wrap (2+(IntKind.i64.wrap (Int.tmod quota 10))))),(8,.slice (some ⟨b,0,none⟩) 5 5),(9,eL z.1),(10,.int .i64 z.2)]⟩) (fun z=>[]) (⟨none,0,0⟩,0) (idx:=[]) H28 E ⟨E,E,E,E,E,E,True.intro⟩ E<|by rintro Xx_1 hXx_1 ⟨p_1,i_1⟩ Sx_18 H29;exact c_join2 H29 (fun (J:Mem→Prop) (z:Unit) S=>J S) (fun z=>⟨123,[(1,.int .u8 n),(5,eP t),(7,.int .i64 (IntKind.i64.wrap (2+(IntKind.i64.wrap (Int.tmod quota 10))))),(8,.slice (some ⟨b,0,none⟩) 5 5),(9,eL p_1),(10,.int .i64 i_1)]⟩) (fun z=>[]) (fun _ Sx_19 H30=>c_seq<|c_block<|c_drawn (by kernel_rfl)<|a_takeP 0 E (by decide +kernel) (np_blk (np_then (np_then (np_blk (np_then np_body))))) E (y_move E)<|by exact a_takeP 1 E (by decide +kernel) (np_blk (np_then (np_then (np_blk (np_then np_body))))) E (y_move E)<|by exact a_takeP 2 E (by decide +kernel) (np_blk (np_then (np_then (np_blk (np_then np_body))))) E (y_move E)<|by exact an2 H30 fun c_5 c_6 H31=>a_takeP 3 E (by decide +kernel) (np_blk (np_then (np_then (np_blk (np_then np_body))))) E (y_ixL E E c_5 c_6 E)<|by exact gx H31 fun t_16 ht_16 H32=>a_take 4 E (by decide +kernel) (np_blk (np_then (np_then (np_blk (np_then np_body))))) E (y_ld E) (hc_S ht_16)<|by exact a_takeP 5 E (by decide +kernel) (np_blk (np_then (np_then (np_blk (np_then np_body))))) E (y_conv ⟨_,Tryz.underlying41⟩ E)<|by exact a_takeP 6 E (by decide +kernel) (np_blk (np_then (np_then (np_blk (np_then np_body))))) E (y_move E)<|by exact a_takeP 7 E (by decide +kernel) (np_blk (np_then (np_then (np_blk (np_then np_body))))) E (y_move E)<|by exact an2 H32 fun c_7 c_8 H33=>a_takeP 8 E (by decide +kernel) (np_blk (np_then (np_then (np_blk (np_then np_body))))) E (y_ixL E E c_7 c_8 E)<|by exact gx H33 fun t_17 ht_17 H34=>a_take 9 E (by decide +kernel) (np_blk (np_then (np_then (np_blk (np_then np_body))))) E (y_ld E) (hc_S ht_17)<|by exact a_takeP 10 E (by decide +kernel) (np_blk (np_then (np_then (np_blk (np_then np_body))))) E (y_shr E E (by decide))<|by exact a_takeP 11 E (by decide +kernel) (np_blk (np_then (np_then (np_blk (np_then np_body))))) E (y_conv ⟨_,Tryz.underlying41⟩ E)<|by exact a_takeP 12 E (by decide +kernel) (np_blk (np_then (np_then (np_blk (np_then np_body))))) E (y_move E)<|by exact a_takeP 13 E (by decide +kernel) (np_blk (np_then (np_then (np_blk (np_then np_body))))) E (y_move E)<|by exact an2 H34 fun c_9 c_10 H35=>a_takeP 14 E (by decide +kernel) (np_blk (np_then (np_then (np_blk (np_then np_body))))) E (y_ixL E E c_9 c_10 E)<|by exact gx H35 fun t_18 ht_18 H36=>a_take 15 E (by decide +kernel) (np_blk (np_then (np_then (np_blk (np_then np_body))))) E (y_ld E) (hc_S ht_18)<|by exact a_takeP 16 E (by decide +kernel) (np_blk (np_then (np_then (np_blk (np_then np_body))))) E (y_shr E E (by decide))<|by exact a_takeP 17 E (by decide +kernel) (np_blk (np_then (np_then (np_blk (np_then np_body))))) E (y_conv ⟨_,Tryz.underlying41⟩ E)<|by exact a_takeP 18 E (by decide +kernel) (np_blk (np_then (np_then (np_blk (np_then np_body))))) E (y_move E)<|by exact a_takeP 19 E (by decide +kernel) (np_blk (np_then (np_then (np_blk (np_then np_body))))) E (y_move E)<|by exact an2 H36 fun c_11 c_12 H37=>a_takeP 20 E (by decide +kernel) (np_blk (np_then (np_then (np_blk (np_then np_body))))) E (y_ixL E E c_11 c_12 E)<|by exact gx H37 fun t_19 ht_19 H38=>a_take 21 E (by decide +kernel) (np_blk (np_then (np_then (np_blk (np_then np_body))))) E (y_ld E) (hc_S ht_19)<|by exact a_takeP 22 E (by decide +kernel) (np_blk (np_then (np_then (np_blk (np_then np_body))))) E (y_shr E E (by decide))<|by exact a_takeP 23 E (by decide +kernel) (np_blk (np_then (np_then (np_blk (np_then np_body))))) E (y_conv ⟨_,Tryz.underlying41⟩ E)<|by exact a_step 24 (by decide +kernel) E<|by exact s_bs E E (by decide) E fun b_2=>s_nil<|q_any (ac_cons (hc_S ht_19) (ac_cons (hc_S ht_18) (ac_cons (hc_S ht_17) (ac_cons (hc_S ht_16) ac_nil))))<|a_step 25 (by decide +kernel) E<|by exact s_app (sx:=p_1) (vs:=[.int .u8 (IntKind.u8.wrap t_16),.int .u8 (IntKind.u8.wrap (ishr .u32 t_17 8)),.int .u8 (IntKind.u8.wrap (ishr .u32 t_18 16)),.int .u8 (IntKind.u8.wrap (ishr .u32 t_19 24))]) E E E (fc_V 0 E E) E E (by decide) H38 fun t_20 Sx_20 H39=>by obtain⟨k,H40⟩:=H39;exact by obtain⟨k_1,H41⟩:=H40;exact by obtain⟨k_2,H42⟩:=H41;exact by obtain⟨k_3,H43⟩:=H42;exact s_nil<|q_any (ac_cons (hc_S k) (ac_cons (hc_S k_1) (ac_cons (hc_S k_2) (ac_cons (hc_S k_3) ac_nil))))<|a_takeP 26 E (by decide +kernel) (np_blk (np_then (np_then (np_blk (np_then np_body))))) E (y_assign E)<|by exact a_done (by decide +kernel)<|by exact q_blk<|q_then<|c_region<|mv E E<|s_p E (y_add E E)<|gv E E<|s_nil<|hXx_1 (t_20,IntKind.i64.wrap (i_1+1)) _ _ _ _ [] H43 E ⟨E,E,E,E,E,E,True.intro⟩ E) (fun Jx_2 hJx_2 H44=>csr<|mv E E<|mv E E<|s_p E (y_len E)<|iteK H44 (fun c_13 H45=>s_p E (yT (y_lss E E) c_13)<|nx<|c_t E E<|c_skip<|hJx_2 () _ _ _ _ [] H45 E ⟨E,E,E,E,E,E,True.intro⟩ E) fun c_13 H45=>s_p E (yF (y_lss E E) c_13)<|nx<|c_f E E<|c_exit<|q_then_exit<|q_then_exit<|q_blk_out<|hJx_1 p_1 _ _ _ _ [] H45 E ⟨E,E,E,E,True.intro⟩ E))) (fun Jx_3 hJx_3 H46=>csr<|mv E E<|iteK H46 (fun c_14 H47=>s_p E (yT (y_neq E E) c_14)<|nx<|c_t E E<|csr<|gv E E<|nx<|c_ret<|q_then_ret<|q_ret Tryz.results10 (rv_tmp E rv_nil) ⟨_,E,H47⟩) fun c_14 H47=>s_p E (yF (y_neq E E) c_14)<|nx<|cfs E E<|hJx_3 () _ _ _ _ [] H47 E ⟨E,E,E,True.intro⟩ E)) (fun Jx_4 hJx_4 H48=>csr<|s_k1 E E H48 fun t_21 Sx_21 H49=>by have H50:=ib_e H49;rcases H50 with ⟨rfl,H51⟩ | ⟨rfl,H51⟩;exact (s_p E (yB (y_not E) E)<|nx<|cfs E E<|hJx_4 () _ _ _ _ [] H51 E ⟨E,E,True.intro⟩ E);exact (s_p E (yB (y_not E) E)<|nx<|c_t E E<|csr<|gv E E<|nx<|c_ret<|q_then_ret<|q_ret Tryz.results10 (rv_tmp E rv_nil) ⟨_,E,H51⟩))
end Go.Proofs.YtabdpmnhjlmnlaaGreatDoor
end
section
namespace Go.Pt
open Go Go.RowKit Go.ChangeShapes
def memOf (W:World):Mem:=fun b=>match W.heap[b]? with
 | some (.cells c t fr)=>some ⟨t,c.toList,fr⟩
 | _=>none
theorem memOf_st (W:World):St W (memOf W) (memOf W) [] W:=by
 refine⟨rfl,rfl,rfl,Nat.le_refl _,fun _ _ _=>rfl,fun b k h=>?_,by simp,by simp,fun b h1 h2=>(h2 h1).elim,fun _ h=>h⟩
 unfold memOf at h
 split at h
 ·rename_i c t fr hh
  cases h
  simpa using hh
 ·cases h
theorem calls_of_tr {P:Program} {f:FuncId} {args:List Value} {W:World} {u:Value} (h:Tr P f (memOf W) args (fun v S'=>v=u∧Keeps (memOf W) S' [])) :
  Calls P f args.toArray W fun e W'=>e=.returned u∧Below W.heap.size W W':=by
 refine (h W (memOf_st W)).mono ?_
 rintro e W' ⟨v,S',rfl,⟨rfl,hk⟩,hS⟩
 refine⟨rfl,hS.os,hS.tape,hS.output,hS.size,fun k hlt=>?_⟩
 cases hm:memOf W k with
 | none=>exact hS.frame k hlt hm
 | some q=>
  have e1:=hS.mem k q (hk.get hm (by simp))
  have e2:=(memOf_st W).mem k q hm
  rw[e1,e2]
def BytesIn (S:Mem) (l:Sl):Prop:=∀ i:Nat,i<l.n→∃ b o z,l.p=some (b,o)∧S.cell b (o+i)=some (.int .u8 z)∧0≤z∧z≤255
theorem BytesIn.keep {S S':Mem} {l:Sl} (h:BytesIn S l) (hk:Keeps S S' []):BytesIn S' l:=fun i hi=>by
 obtain⟨b,o,z,h1,h2,h3⟩:=h i hi
 obtain⟨k,h4,h5⟩:=cell_e h2
 exact⟨b,o,z,h1,by rw[cell_of (hk.get h4 (by simp))];exact h5,h3⟩
end Go.Pt
end
section
namespace Go.Pt
open Go Go.RowKit Go.ChangeShapes
def NumsIn (S:Mem) (l:Sl):Prop:=∀ i:Nat,i<l.n→∃ b o z,l.p=some (b,o)∧S.cell b (o+i)=some (.int .u64 z)∧0≤z∧z≤18446744073709551615
theorem NumsIn.keep {S S':Mem} {l:Sl} (h:NumsIn S l) (hk:Keeps S S' []):NumsIn S' l:=fun i hi=>by
 obtain⟨b,o,z,h1,h2,h3⟩:=h i hi
 obtain⟨k,h4,h5⟩:=cell_e h2
 exact⟨b,o,z,h1,by rw[cell_of (hk.get h4 (by simp))];exact h5,h3⟩
end Go.Pt
end
section
namespace Go.Pt
open Go Go.RowKit Go.ChangeShapes Go.WideShapes Go.ChangeAt Go.Lib
theorem handed_both {H:Type} {enc:TypeId×Value→H} {a:Assume} {C:Checked} {os:Os} {f:FuncId} {fn:Func} {s:ChangeSpec} {conds:List PathCond} {apart fresh handsOn again:Bool} {X:World→Array Value→Prop}
  (hX:∀ (w w':World) (args:Array Value),w.heap=w'.heap→X w args→X w' args) (own:ownKnob C.prog.godebug=none) (started:os.Started) (noInit:C.prog.inits.idxOf? f=none) (hfn:C.prog.funcs[f]? = some fn)
  (witness:∃ (w:World) (tape:Tape) (i:Input),w.os=os∧(w.forCall tape i).Shaped C.prog∧i.vars=[]∧Input.okWide C.prog (w.forCall tape i) .any w.heap.size f i ∧
   ((s.pre enc C.prog fn conds apart (w.forCall tape i).memory i.args∧X (w.forCall tape i).memory i.args)∧sizedMet enc C.prog fn (OpenSpec.ofChange s) apart (w.forCall tape i).memory i.args)∧a.holds C.prog (lone (Frame.enter C.prog f i.args .normal) [] (w.forCall tape i)))
  (law:∀ (W:World) (base:Nat) (args:Array Value) (ds gs:List (DataW H)) (before:List MemPlace),(∀ (j:Nat) t v,fn.params[j]? = some t→args[j]? = some v→Value.okWide C.prog W .any base t v) →
   DataW.Whole enc C.prog fn.params.toList s.vars apart W args.toList ds gs before→X W args→W.ShapedOpen C.prog →
   Calls C.prog f args W fun e W'=>∃ v,e=.returned v∧s.post enc C.prog fn apart fresh handsOn again W args v W') :
  ReturnsInHanded a C os f .any (fun w args=>(s.pre enc C.prog fn conds apart w args∧X w args)∧sizedMet enc C.prog fn (OpenSpec.ofChange s) apart w args) (s.post enc C.prog fn apart fresh handsOn again):=
 returnsInHanded_of_calls own started noInit witness fun w tape i _ hsh _ hok hpre _=>by
  obtain⟨_,_,_,g,hg,_,_,_,_,hval⟩:=hok
  obtain rfl:g=fn:=Option.some.inj (hg.symm.trans hfn)
  obtain⟨⟨⟨ds,gs,before,hw,_⟩,hx⟩,_⟩:=hpre
  refine (law (w.forCall tape i) w.heap.size i.args ds gs before hval (DataW.Whole.of_heap (w':=w.forCall tape i) (by rfl) hw) (hX _ _ _ (by rfl) hx) hsh).mono fun e W' h=>?_
  obtain⟨v,rfl,hp⟩:=h
  exact ChangeSpec.post_blind hp
theorem and_i {a b:Bool} (h:a=true) (k:b=true):(a && b)=true:=by rw[h,k];rfl
end Go.Pt
namespace Go.Proofs.YtabdpmnhjlmnlaaGreatDoor
open Go Go.Pt Go.RowKit Go.Lib Go.Cr Go.ChangeShapes Go.WideShapes
set_option maxRecDepth 10000
theorem cell_row {W:World} {P:Program} {n:String} {g:Nat} {cs:Array Value} (hg:P.globalNamed n=some g) (h:W.var? P n=some cs):∃ t fr,memOf W g=some ⟨t,cs.toList,fr⟩:=by
 unfold World.var? at h
 rw[hg] at h
 simp only[Option.bind_some] at h
 split at h
 ·rename_i c t fr hh
  cases h
  exact⟨t,fr,by unfold memOf;rw[hh]⟩
 ·cases h
theorem gl_of_laid {W:World} (h:laidMetH Tryz.prog Rows.crabBeginsRow.laid W):Gl (memOf W):=by
 rw[MakeChecks.laidMetH_plain _ _ _ (by kernel_rfl)] at h
 have hp : VarReads Tryz.prog W "math/bits.deBruijn64tab" Rows.laid_math_bits_deBruijn64tab := laidMet.reads h (by simp [Rows.crabBeginsRow])
 obtain⟨g,t,cs,fuel,p,hg,ht,hv,hd⟩:=hp
 obtain rfl := Option.some.inj ((show Tryz.prog.globalNamed "math/bits.deBruijn64tab" = some 0 by kernel_rfl).symm.trans hg)
 obtain rfl:=Option.some.inj ((show (Tryz.prog.globals[0]?).map (·.type)=some 337 by kernel_rfl).symm.trans ht)
 obtain⟨t',fr,hm⟩:=cell_row hg hv
 have e:(Rows.laid_math_bits_deBruijn64tab:DataW Unit)=tabData .u8 (deBruijn64tab.map fun (n:Nat)=>(n:Int)):=by kernel_rfl
 rw[e] at hd
 have hcs:=cells_of_tab Tryz.underlying337 Tryz.underlying5 (by kernel_rfl) (by kernel_rfl) hd
 rw[hcs,List.map_map] at hm
 exact⟨t',fr,hm⟩
end Go.Proofs.YtabdpmnhjlmnlaaGreatDoor
end
section
namespace Go.Proofs.YtabdpmnhjlmnlaaGreatDoor
open Go Go.Pt Go.Cr Go.Hp
section
variable {S S' S0:Mem} {ρ0:Rho} {h:Nat} {W:Wd}
theorem Lv.left (l:Lv S0 ρ0 h S W):∃ p,S.cell h (0+1)=some (eP (some (p,0)))∧∀ Q:Int→Mem→Prop,Q W.free S→pool_Pool_Left S (some (p,0)) Q:=by
 obtain⟨ρ,A,C,φ,m,hc,hr⟩:=l
 refine⟨A.p,hc.c1,fun Q hQ=>left_spec hc.pl ?_⟩
 rw[hr.free] at hQ;exact hQ
theorem Lv.pages (l:Lv S0 ρ0 h S W) {n:Nat} (hn:n<6) (hon:(W.vm n).on=true) {Q:Int→Mem→Prop} (hQ:Q (W.pages n) S):crab_Crab_Pages S (some (h,0)) n Q:=by
 obtain⟨ρ,A,C,φ,m,hc,hr⟩:=l
 exact cpages_spec hc hr hn hon hQ
theorem destroy_L (l:Lv S0 ρ0 h S W) (hls:∀ i,(W.ls i).on=false) {n:Int} {Q:Int→Mem→Prop} (hQ:∀ S',Lv S0 ρ0 h S' (W.destroy n).2→Q (W.destroy n).1 S'):crab_Crab_Destroy S (some (h,0)) n Q:=by
 obtain⟨ρ,A,C,φ,m,hc,hr⟩:=l
 exact destroy_spec hc hr hls fun S' hA=>hQ S' (hA.lv m)
theorem pg_nn:∀ w∈pgW,0≤w:=by decide
set_option maxHeartbeats 1000000 in
theorem crabPages_law (hgl:Gl S) {quota n:Int} (hv:0≤quota∧quota≤255) (hs:0≤n∧n≤255):b_hermitcrablaw16_CrabPages S quota n fun r S'=>r=true∧Keeps S S' []:=by
 unfold b_hermitcrablaw16_CrabPages
 simp only[jn]
 refine awake_spec hgl fun S1 hk1=>?_
 rw[if_pos rfl]
 have hg1:Gl S1:=hgl.keep (hk1 0 (gl_some hgl) (by simp))
 refine new_L hg1 (fun h=>absurd h (by decide)) fun _ S2 h l2=>?_
 rw[if_neg (by decide)]
 obtain⟨ρ,A,C,φ,m1,hc1,hr1⟩:=l2
 have eq:IntKind.i64.wrap (2+IntKind.i64.wrap (Int.tmod quota 10))=2+quota%10:=by rw[Int.tmod_eq_emod_of_nonneg hv.1,w64 (x:=quota%10) (by omega) (by omega),w64 (by omega) (by omega)]
 have ek:IntKind.i64.wrap (Int.tmod n 20)=n%20:=by rw[Int.tmod_eq_emod_of_nonneg hs.1,w64 (by omega) (by omega)]
 rw[eq,ek,w64 (x:=1+n%20) (by omega) (by omega),w64 (x:=4*(n%20)) (by omega) (by omega),w64 (x:=1+4*(n%20)) (by omega) (by omega)]
 obtain⟨q,hq⟩:∃ q,q=2+quota%10:=⟨_,rfl⟩
 obtain⟨k,hk⟩:∃ k:Nat,(k:Int)=n%20:=⟨(n%20).toNat,by omega⟩
 have hq3:2≤q∧q≤11:=by omega
 have hk3:k<20:=by omega
 rw[←hq,←hk]
 clear hk eq ek hq
 refine refWord_spec (by constructor <;> decide) (rtN (by decide) (by decide) (by decide)) fun T1 q1=>?_
 refine refWord_spec (by constructor <;> decide) (by decide) fun T2 q2=>?_
 refine refWord_spec (by constructor <;> decide) (rtN (by decide) (by decide) (by decide)) fun T3 q3=>?_
 refine refWord_spec (by constructor <;> decide) (rtN (by decide) (by decide) (by decide)) fun T4 q4=>?_
 refine refWord_spec (by constructor <;> decide) (rtN (by decide) (by decide) (by decide)) fun T5 q5=>?_
 have qq:Keeps S2 T5 []:=q1.trans<|q2.trans<|q3.trans<|q4.trans q5
 clear q1 q2 q3 q4 q5
 intro b hb
 refine img_loop (m:=5) (ws:=pgW) set_same pg_nn (by decide) rfl fun p _ S3 q3 hrow hfr=>?_
 dsimp only
 have qk:Keeps S2 (T5.set b (bw 41 (pgW.map (Value.int .u32)))) []:=qq.trans (Keeps.refl.fresh hb)
 have qk3:=qk.trans q3
 have hc3:=hc1.keeps qk3
 have himg:ImgAt S3 ρ p (imgW pgW):=img_row imgW_byt hrow fun c o e=>by
  have hn:=hfr c o e
  have hn2:S2 c=none:=by
   cases hs2:S2 c with
   | none=>rfl
   | some x=>rw[qk c (by rw[hs2];simp) (by simp),hs2] at hn;cases hn
  cases hr:ρ c with
  | none=>rfl
  | some r=>exact absurd hn2 (hc1.rg c r hr)
 have hW0:W0 ((60:Int)-4)=W0 56:=by rfl
 rw[hW0] at hr1
 refine create_spec hc3 hr1 himg (by rw[imgW_len];decide) fun S4 hA4=>?_
 rw[pg_c (by omega)] at hA4 ⊢
 have l4:Lv S1 rho0 h S4 (pgA q):=hA4.lv (m1.then qk3)
 have e4:(pgA q).evB 0:=by
  have:=(evB_W0 (f:=56)).create (s:=1) (q:=q) (p:=1) (img:=imgW pgW)
  rw[pg_c (by omega)] at this
  exact this
 have hq4:1≤q∧q≤32:=by omega
 dsimp only
 refine lp_rule (fun (z:Int) S'=>∃ (i:Nat) (W:Wd),z=(i:Int)∧i≤1+4*k∧Lv S1 rho0 h S' W∧W.evB (3*i)∧(i=0∧GX q W seat0 1∨∃ j r,i=1+4*j+r∧r<4∧GXi q j r W)) (fun z=>1+4*k-z.toNat) ?_ ⟨0,pgA q,rfl,by omega,l4,e4,.inl ⟨rfl,pg_0⟩⟩
 rintro X z S6 ⟨i,W,rfl,hi,l6,e6,hx⟩ ih
 by_cases hlt:(i:Int)<1+4*(k:Int)
 ·rw[if_pos hlt]
  refine run_L l6 e6 (by omega) fun S7 l7=>?_
  rw[w64 (by omega) (by omega)]
  refine ih _ _ ⟨i+1,_,by omega,by omega,l7,e6.run,.inr ?_⟩ (by omega)
  rcases hx with ⟨h0,hx⟩ | ⟨j,r,e,hr4,hx⟩
  ·subst h0
   exact⟨0,0,rfl,by decide,GXi.s0 hq4 l6.wok hx⟩
  ·match r,hr4 with
   | 0,_=>exact⟨j,1,by omega,by decide,hx.s1 l6.wok (by omega)⟩
   | 1,_=>exact⟨j,2,by omega,by decide,hx.s2 hq4 l6.wok (by omega)⟩
   | 2,_=>exact⟨j,3,by omega,by decide,hx.s3 l6.wok (by omega)⟩
   | 3,_=>exact⟨j+1,0,by omega,by decide,hx.s4 l6.wok⟩
 ·rw[if_neg hlt,if_pos rfl]
  rcases hx with ⟨h0,_⟩ | ⟨j,r,e,hr4,hx⟩
  ·omega
  obtain⟨rfl,rfl⟩:j=k∧r=0:=by omega
  obtain⟨r0,r1,hx⟩:=hx
  rw[if_pos rfl,if_pos (by decide)] at hx
  have hm:((gM q j:Nat):Int)=if q<1+(j:Int) then q else 1+(j:Int):=by
   unfold gM
   split <;> omega
  have hpg:=hx.pages (by unfold gM;omega)
  have hfree:=hx.free
  have hon:(W.vm 0).on=true:=hx.px.one.on
  refine l6.pages (n:=0) (by decide) hon ?_
  rw[hpg,if_pos hm,nn_i]
  obtain⟨p1,c1,f1⟩:=l6.left
  rw[gP_i c1]
  refine f1 _ ?_
  have hgm:((gM q j:Nat):Int)≤32:=by unfold gM;omega
  rw[if_pos (by rw[hfree,←hm,w64 (by omega) (by omega)])]
  refine destroy_L l6 hx.ls fun S7 l7=>?_
  have hd:W.destroy 0=(0,W.without 0):=destroy_eq (n:=0) (by decide) hon l6.wok hx.ls
  rw[hd] at l7 ⊢
  rw[if_pos rfl]
  obtain⟨p2,c2,f2⟩:=l7.left
  rw[gP_i c2]
  refine f2 _ ⟨?_,hk1.trans l7.keeps⟩
  refine decide_eq_true ?_
  show W.free+(5+(W.pages 0:Int))=56
  rw[hpg,hfree];omega
end
end Go.Proofs.YtabdpmnhjlmnlaaGreatDoor
end
