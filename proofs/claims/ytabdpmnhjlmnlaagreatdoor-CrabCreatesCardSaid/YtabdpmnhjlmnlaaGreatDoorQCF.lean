/- Texts of this work,joined by program (pack.py): PtU,HpA,Gw,Hk,Hq. -/
import Derived.Test.YtabdpmnhjlmnlaaGreatDoorQCB
import Derived.Test.YtabdpmnhjlmnlaaGreatDoorQCE
set_option linter.unusedVariables false
section
namespace Go.Pt
open Go Go.RowKit
theorem qA {S:Mem} {b o:Nat} {k:Blk} (h:S b=some k):S.cell b o=nthL k.cs o:=by simp[Mem.cell,h]
theorem yu {S:Mem} {b o n:Nat} {k:Blk} (h:S b=some k):S.part b o n=lpart k.cs o n:=by simp[Mem.part,h]
theorem vU {S:Mem} {b o:Nat} {vs:List Value} {k:Blk} (h:S b=some k):S.put b o vs=S.set b ⟨k.ty,spl k.cs o vs,k.fr⟩:=by
 funext x;simp only[Mem.put,Mem.set,h,Option.map_some]
@[simp] theorem zO {S:Mem} {b:Nat} {k:Blk}:(S.set b k) b=some k:=by simp[Mem.set]
theorem qm {S:Mem} {b c:Nat} {k:Blk} (h:c≠b):(S.set b k) c=S c:=by simp[Mem.set,h]
@[simp] theorem zhs {S:Mem} {b:Nat} {k k':Blk}:(S.set b k).set b k'=S.set b k':=by
 funext x;simp only[Mem.set];split <;> rfl
theorem zdh {S:Mem} {b:Nat} {k:Blk} (h:S b=some k):S.set b k=S:=by
 funext x;simp only[Mem.set];split
 ·rename_i hx;rw[hx,h]
 ·rfl
theorem zko {S:Mem} {b o n t:Nat} {vs cs:List Value} {K:Mem→Prop} (h:S b=some (bw t cs)) (hf:o+n≤cs.length) (hK:K (S.set b (bw t (spl cs o vs)))):pt S b o n vs K:=
 ⟨⟨_,h,rfl,hf⟩,by rw[vU h];exact hK⟩
def Keeps (S S':Mem) (W:List Nat):Prop:=∀ x,S x≠none→x∉W→S' x=S x
theorem Keeps.refl {S:Mem} {W:List Nat}:Keeps S S W:=fun _ _ _=>rfl
theorem Keeps.trans {S S' S'':Mem} {W:List Nat} (h:Keeps S S' W) (h':Keeps S' S'' W):Keeps S S'' W:=fun x hx hw=>by
 have e:=h x hx hw
 rw[h' x (by rw[e];exact hx) hw,e]
theorem Keeps.wider {S S':Mem} {W W':List Nat} (h:Keeps S S' W) (hw:∀ x∈W,x∈W'):Keeps S S' W':=fun x hx h2=>h x hx fun h3=>h2 (hw x h3)
theorem Keeps.set {S S':Mem} {W:List Nat} (h:Keeps S S' W) {b:Nat} {k:Blk} (hb:b∈W):Keeps S (S'.set b k) W:=fun x hx hw=>by
 rw[qm (fun e=>hw (by rw[e];exact hb))];exact h x hx hw
theorem Keeps.new {S S':Mem} {W:List Nat} (h:Keeps S S' W) {b:Nat} {k:Blk} (hb:S' b=none):Keeps S (S'.set b k) W:=fun x hx hw=>by
 have e:=h x hx hw
 rw[qm (fun hxb=>by rw[←hxb,e] at hb;exact hx hb)];exact e
theorem Keeps.get {S S':Mem} {W:List Nat} (h:Keeps S S' W) {b:Nat} {k:Blk} (hb:S b=some k) (hw:b∉W):S' b=some k:=by
 rw[h b (by rw[hb];simp) hw,hb]
theorem w64 {x:Int} (h1 : -9223372036854775808≤x) (h2:x≤9223372036854775807):IntKind.i64.wrap x=x:=zfk (k:=.i64) ⟨h1,h2⟩
theorem wu64 {x:Int} (h1:0≤x) (h2:x≤18446744073709551615):IntKind.u64.wrap x=x:=zfk (k:=.u64) ⟨h1,h2⟩
theorem wu32 {x:Int} (h1:0≤x) (h2:x≤4294967295):IntKind.u32.wrap x=x:=zfk (k:=.u32) ⟨h1,h2⟩
theorem wu8 {x:Int} (h1:0≤x) (h2:x≤255):IntKind.u8.wrap x=x:=zfk (k:=.u8) ⟨h1,h2⟩
theorem td {a b:Int} (h:0≤a):Int.tdiv a b=a/b:=Int.tdiv_eq_ediv_of_nonneg h
theorem tm {a b:Int} (h:0≤a):Int.tmod a b=a%b:=Int.tmod_eq_emod_of_nonneg h
theorem Keeps.fresh {S S':Mem} {W:List Nat} (h:Keeps S S' W) {b:Nat} {k:Blk} (hb:S b=none):Keeps S (S'.set b k) W:=fun x hx hw=>by
 rw[qm (fun e=>by rw[e] at hx;exact hx hb)];exact h x hx hw
theorem zlw {cs vs:List Value} {o:Nat} (h:o+vs.length≤cs.length):(spl cs o vs).take (o+vs.length)=cs.take o++vs:=by
 rw[xq _ _ _ (by omega),List.take_left']
 simp;omega
structure Row (S:Mem) (size:Nat) (s:Sl) (l:List Value):Prop where
 len:l.length=s.n*size
 cap:s.n≤s.c
 lie:(s.p=none∧s.c=0)∨∃ b k,s.p=some (b,0)∧S b=some k∧k.fr=(0,0)∧k.cs.length=s.c*size∧k.cs.take (s.n*size)=l
theorem Row.nil {S:Mem} {size:Nat}:Row S size ⟨none,0,0⟩ []:=⟨by simp,by simp,.inl ⟨rfl,rfl⟩⟩
theorem Row.part {S:Mem} {size:Nat} {s:Sl} {l:List Value} (h:Row S size s l) {b:Nat} (hp:s.p=some (b,0)):S.part b 0 (s.n*size)=some l:=by
 rcases h.lie with ⟨h1,_⟩ | ⟨b',k,h1,h2,hfr,h3,h4⟩
 ·rw[h1] at hp;cases hp
 ·rw[h1] at hp;cases hp
  rw[yu h2,qJ (by rw[h3,Nat.zero_add];exact Nat.mul_le_mul_right _ h.cap)]
  simpa using h4
theorem Row.keep {S S':Mem} {size:Nat} {s:Sl} {l:List Value} (h:Row S size s l) (hk:∀ b,s.p=some (b,0)→S' b=S b):Row S' size s l:=by
 refine⟨h.len,h.cap,?_⟩
 rcases h.lie with h1 | ⟨b,k,h1,h2,h3⟩
 ·exact .inl h1
 ·exact .inr ⟨b,k,h1,by rw[hk b h1];exact h2,h3⟩
theorem gr {S:Mem} {e size bytes m:Nat} {z l vs:List Value} {s:Sl} {K:Sl→Mem→Prop} (h:Row S size s l) (hv:vs.length=m*size) (hm:0<m) (hz:z.length=size) (lim:(2*(s.n+m)+1024)*bytes≤281474976710656)
  (hK:∀ (s':Sl) (S':Mem) (b:Nat) (k:Blk),s'.n=s.n+m→s'.p=some (b,0)→(s.p=some (b,0)∨S b=none)→S'=S.set b k→Row S' size s' (l++vs)→K s' S'):ap S e size bytes z s m vs K:=by
 refine⟨lim,fun hc=>?_,fun hc=>?_⟩
 ·rcases h.lie with ⟨h1,h2⟩ | ⟨b,k,h1,h2,hfr,h3,h4⟩
  ·omega
  ·have hfit:0+s.n*size+m*size≤k.cs.length:=by
    rw[h3,Nat.zero_add,←Nat.add_mul];exact Nat.mul_le_mul_right _ hc
   refine .inr ⟨b,0,h1,⟨k,h2,hfr,hfit⟩,?_⟩
   refine hK _ _ b ⟨k.ty,spl k.cs (0+s.n*size) vs,k.fr⟩ rfl h1 (.inl h1) (vU h2) ⟨by simp[h.len,hv,Nat.add_mul],hc,.inr ⟨b,⟨k.ty,spl k.cs (0+s.n*size) vs,k.fr⟩,h1,by rw[vU h2,zO],hfr,?_,?_⟩⟩
   ·simp only;rw[qx (by rw[hv];exact hfit)];exact h3
   ·simp only
    rw[Nat.zero_add,Nat.add_mul,←hv,zlw (by rw[hv];omega),h4]
 ·refine⟨l,?_,fun b c hb h1 h2=>?_⟩
  ·rcases h.lie with ⟨h1,h2⟩ | ⟨b,k,h1,h2,hfr,h3,h4⟩
   ·have h0:s.n=0:=by have:=h.cap;omega
    exact .inl ⟨h1,h0,List.length_eq_zero_iff.1 (by rw[h.len,h0,Nat.zero_mul])⟩
   ·exact .inr ⟨b,0,h1,h.part h1⟩
  ·refine hK _ _ b _ rfl rfl (.inr hb) rfl ⟨by simp[h.len,hv,Nat.add_mul],h1,.inr ⟨b,_,rfl,zO,rfl,?_,?_⟩⟩
   ·simp only[List.length_append,h.len,hv,ko,hz]
    rw[←Nat.add_mul,←Nat.add_mul];congr 1;omega
   ·simp only
    rw[List.take_left' (by simp[h.len,hv,Nat.add_mul])]
end Go.Pt
end
section
namespace Go.Hp
section
variable {α:Type} [Inhabited α]
def gt (l:List α) (i:Nat):α:=l.getD i default
def sw (l:List α) (i j:Nat):List α:=(l.set i (gt l j)).set j (gt l i)
theorem zfO {l:List α} {i:Nat} (h:i<l.length):gt l i=l[i]:=by simp[gt,h]
theorem zdG (l:List α) (i j:Nat):(sw l i j).length=l.length:=by simp[sw]
theorem zmy {l:List α} {i k:Nat} {a:α} (h:i<l.length):gt (l.set i a) k=if k=i then a else gt l k:=by
 simp only[gt,List.getD_eq_getElem?_getD,List.getElem?_set]
 by_cases e:i=k
 ·subst e;simp[h]
 ·rw[if_neg e,if_neg (fun h=>e h.symm)]
theorem zcj {l:List α} {i j k:Nat} (hi:i<l.length) (hj:j<l.length):gt (sw l i j) k=if k=j then gt l i else if k=i then gt l j else gt l k:=by
 rw[sw,zmy (by simpa using hj),zmy hi]
theorem zdF {l:List α} {i j:Nat} (hi:i<l.length) (hj:j<l.length):(sw l i j).Perm l:=by
 rw[sw,zfO hi,zfO hj];exact List.set_set_perm hi hj
structure Ord (lt:α→α→Bool):Prop where
 asym:∀ a b,lt a b=true→lt b a=false
 trans:∀ a b c,lt b a=false→lt c b=false→lt c a=false
variable {lt:α→α→Bool}
def HpF (lt:α→α→Bool) (l:List α) (n lo:Nat):Prop:=∀ k,0<k→k<n→lo≤(k-1)/2→lt (gt l k) (gt l ((k-1)/2))=false
def Heap (lt:α→α→Bool) (l:List α):Prop:=HpF lt l l.length 0
structure Dn (lt:α→α→Bool) (l:List α) (n lo i:Nat):Prop where
 from_:lo≤i
 all:∀ k,0<k→k<n→lo≤(k-1)/2→(k-1)/2≠i→lt (gt l k) (gt l ((k-1)/2))=false
 over:lo<i→∀ k,0<k→k<n→(k-1)/2=i→lo≤(i-1)/2→lt (gt l k) (gt l ((i-1)/2))=false
theorem Dn.start {l:List α} {n lo:Nat} (h:HpF lt l n (lo+1)):Dn lt l n lo lo:=
 ⟨Nat.le_refl _,fun k h1 h2 h3 h4=>h k h1 h2 (by omega),fun h=>absurd h (Nat.lt_irrefl _)⟩
theorem Dn.leaf {l:List α} {n lo i:Nat} (h:Dn lt l n lo i) (hl:n≤2*i+1):HpF lt l n lo:=fun k h1 h2 h3=>h.all k h1 h2 h3 (by omega)
theorem Dn.stop (hO:Ord lt) {l:List α} {n lo i j:Nat} (h:Dn lt l n lo i) (hm:∀ k,k=2*i+1∨k=2*i+2→k<n→lt (gt l k) (gt l j)=false) (hs:lt (gt l j) (gt l i)=false):HpF lt l n lo:=fun k h1 h2 h3=>by
 by_cases e:(k-1)/2=i
 ·rw[e]
  exact hO.trans _ _ _ hs (hm k (by omega) h2)
 ·exact h.all k h1 h2 h3 e
theorem Dn.next (hO:Ord lt) {l:List α} {n lo i j:Nat} (h:Dn lt l n lo i) (hn:n≤l.length) (hjn:j<n) (hj:j=2*i+1∨j=2*i+2) (hm:∀ k,k=2*i+1∨k=2*i+2→k<n→lt (gt l k) (gt l j)=false) (hs:lt (gt l j) (gt l i)=true):Dn lt (sw l i j) n lo j:=by
 have hf:=h.from_
 have hi:i<l.length:=by omega
 have hj':j<l.length:=by omega
 have hji:(j-1)/2=i:=by omega
 refine⟨by omega,fun k h1 h2 h3 h4=>?_,fun _ k h1 h2 h3 _=>?_⟩
 ·rw[zcj hi hj',zcj hi hj']
  by_cases e1:k=j
  ·subst e1
   rw[if_pos rfl,if_neg (by omega),if_pos hji]
   exact hO.asym _ _ hs
  ·rw[if_neg e1]
   by_cases e2:k=i
   ·subst e2
    rw[if_pos rfl,if_neg (by omega),if_neg (by omega)]
    exact h.over (by omega) j (by omega) hjn hji h3
   ·rw[if_neg e2,if_neg h4]
    by_cases e3:(k-1)/2=i
    ·rw[if_pos e3];exact hm k (by omega) h2
    ·rw[if_neg e3];exact h.all k h1 h2 h3 e3
 ·rw[zcj hi hj',zcj hi hj',if_neg (by omega),if_neg (by omega),if_neg (by omega),if_pos hji]
  have:=h.all k h1 h2 (by omega) (by omega)
  rw[h3] at this
  exact this
structure Up (lt:α→α→Bool) (l:List α) (j:Nat):Prop where
 all:∀ k,0<k→k<l.length→k≠j→lt (gt l k) (gt l ((k-1)/2))=false
 over:0<j→∀ k,0<k→k<l.length→(k-1)/2=j→lt (gt l k) (gt l ((j-1)/2))=false
theorem zam {l r:List α} {k:Nat} (h:k<l.length):gt (l++r) k=gt l k:=by simp[gt,List.getD_eq_getElem?_getD,List.getElem?_append_left h]
theorem Up.start {l:List α} {a:α} (h:Heap lt l):Up lt (l++[a]) l.length:=by
 refine⟨fun k h1 h2 h3=>?_,fun _ k h1 h2 h3=>?_⟩
 ·simp only[List.length_append,List.length_singleton] at h2
  rw[zam (by omega),zam (by omega)]
  exact h k h1 (by omega) (by omega)
 ·simp only[List.length_append,List.length_singleton] at h2;omega
theorem Up.top {l:List α} (h:Up lt l 0):Heap lt l:=fun k h1 h2 _=>h.all k h1 h2 (by omega)
theorem Up.stop {l:List α} {j:Nat} (h:Up lt l j) (hs:lt (gt l j) (gt l ((j-1)/2))=false):Heap lt l:=fun k h1 h2 _=>by
 by_cases e:k=j
 ·subst e;exact hs
 ·exact h.all k h1 h2 e
theorem Up.next (hO:Ord lt) {l:List α} {j:Nat} (h:Up lt l j) (h0:0<j) (hj:j<l.length) (hs:lt (gt l j) (gt l ((j-1)/2))=true):Up lt (sw l ((j-1)/2) j) ((j-1)/2):=by
 have hi:(j-1)/2<l.length:=by omega
 refine⟨fun k h1 h2 h3=>?_,fun hp k h1 h2 h3=>?_⟩
 ·rw[zdG] at h2
  rw[zcj hi hj,zcj hi hj]
  by_cases e1:k=j
  ·subst e1
   rw[if_pos rfl,if_neg (by omega),if_pos rfl]
   exact hO.asym _ _ hs
  ·rw[if_neg e1,if_neg h3]
   by_cases e2:(k-1)/2=j
   ·rw[if_pos e2];exact h.over h0 k h1 h2 e2
   ·rw[if_neg e2]
    by_cases e3:(k-1)/2=(j-1)/2
    ·rw[if_pos e3]
     have:=h.all k h1 h2 e1
     rw[e3] at this
     exact hO.trans _ _ _ (hO.asym _ _ hs) this
    ·rw[if_neg e3];exact h.all k h1 h2 e1
 ·rw[zdG] at h2
  rw[zcj hi hj,zcj hi hj]
  have hup:=h.all ((j-1)/2) hp hi (by omega)
  rw[if_neg (by omega:¬((j-1)/2-1)/2=j),if_neg (by omega:¬((j-1)/2-1)/2=(j-1)/2)]
  by_cases e1:k=j
  ·subst e1;rw[if_pos rfl];exact hup
  ·rw[if_neg e1,if_neg (by omega)]
   have:=h.all k h1 h2 e1
   rw[h3] at this
   exact hO.trans _ _ _ hup this
theorem Heap.least (hO:Ord lt) (hr:∀ a,lt a a=false) {l:List α} (h:Heap lt l):∀ k,k<l.length→lt (gt l k) (gt l 0)=false:=by
 intro k
 induction k using Nat.strongRecOn with
 | _ k ih=>
  intro hk
  by_cases h0:k=0
  ·subst h0;exact hr _
  ·exact hO.trans _ _ _ (ih ((k-1)/2) (by omega) (by omega)) (h k (by omega) hk (by omega))
theorem Heap.pop {l:List α} (h:Heap lt l) (h0:0<l.length):HpF lt (sw l 0 (l.length-1)) (l.length-1) 1:=fun k h1 h2 h3=>by
 rw[zcj h0 (by omega),zcj h0 (by omega),if_neg (by omega),if_neg (by omega),if_neg (by omega),if_neg (by omega)]
 exact h k h1 (by omega) (by omega)
theorem HpF.take {l:List α} {n:Nat} (h:HpF lt l n 0) (hn:n≤l.length):Heap lt (l.take n):=fun k h1 h2 _=>by
 rw[List.length_take,Nat.min_eq_left hn] at h2
 have e:∀ m,m<n→gt (l.take n) m=gt l m:=fun m hm=>by simp[gt,List.getD_eq_getElem?_getD,hm]
 rw[e k h2,e _ (by omega)]
 exact h k h1 h2 (by omega)
theorem HpF.leafs {l:List α} {n:Nat}:HpF lt l n (n/2):=fun k h1 h2 h3=>by omega
end
end Go.Hp
end
section
namespace Go.Pt
def Grows (S S':Mem):Prop:=∀ x,S x≠none→S' x≠none
theorem Grows.refl {S:Mem}:Grows S S:=fun _ h=>h
theorem Grows.trans {S S' S'':Mem} (h:Grows S S') (k:Grows S' S''):Grows S S'':=fun x hx=>k x (h x hx)
theorem Grows.set {S S':Mem} (h:Grows S S') {b:Nat} {k:Blk}:Grows S (S'.set b k):=fun x hx=>by
 by_cases e:x=b
 ·rw[e,zO];simp
 ·rw[qm e];exact h x hx
theorem Grows.keeps {S S':Mem} (h:Keeps S S' []):Grows S S':=fun x hx=>by rw[h x hx (by simp)];exact hx
end Go.Pt
end
section
namespace Go.Proofs.YtabdpmnhjlmnlaaGreatDoor.Hk
open Go Go.Pt Go.Hp
open Go.Proofs.YtabdpmnhjlmnlaaGreatDoor
structure Al where
 tm:Int
 vm:Int
 seat:Int
deriving DecidableEq,Inhabited
def ce (a:Al):List Value:=[.int .u64 a.tm,.int .i64 a.vm,.int .i64 a.seat]
def fl (l:List Al):List Value:=l.flatMap ce
def bf (a b:Al):Bool:=if a.tm≠b.tm then decide (a.tm<b.tm) else if a.vm≠b.vm then decide (a.vm<b.vm) else decide (a.seat<b.seat)
theorem zmB {a b:Al}:bf a b=true↔a.tm<b.tm∨(a.tm=b.tm∧(a.vm<b.vm∨(a.vm=b.vm∧a.seat<b.seat))):=by
 unfold bf
 split
 ·simp;omega
 ·split
  ·simp;omega
  ·simp;omega
theorem znH {a b:Al}:bf a b=false↔¬(a.tm<b.tm∨(a.tm=b.tm∧(a.vm<b.vm∨(a.vm=b.vm∧a.seat<b.seat)))):=by
 rw[←zmB];simp
theorem zcJ (a:Al):bf a a=false:=by rw[znH];omega
theorem bf_ord:Ord bf:=⟨fun a b h=>by rw[zmB] at h;rw[znH];omega,fun a b c h1 h2=>by rw[znH] at *;omega⟩
theorem xe (a:Al):(ce a).length=3:=rfl
theorem zgW (a:Al):(ce a).all (·.oneCell')=true:=rfl
theorem fl_length (l:List Al):(fl l).length=l.length*3:=by
 induction l with
 | nil=>rfl
 | cons a l ih=>simp only[fl,List.flatMap_cons,List.length_append,List.length_cons] at *;rw[ih,xe];omega
theorem wh (l r:List Al):fl (l++r)=fl l++fl r:=by simp[fl]
theorem jY {l:List Al} {i:Nat} (h:i<l.length):fl l=fl (l.take i)++(ce (gt l i)++fl (l.drop (i+1))):=by
 have e:l=l.take i++(gt l i :: l.drop (i+1)):=by
  rw[zfO h,List.getElem_cons_drop,List.take_append_drop]
 have e2:fl l=fl (l.take i++(gt l i :: l.drop (i+1))):=congrArg fl e
 rw[e2,wh]
 rfl
theorem zhH {l:List Al} {j:List Value} {i:Nat} (h:i<l.length):lpart (fl l++j) (i*3) 3=some (ce (gt l i)):=by
 have hln:=fl_length l
 rw[qJ (by simp only[List.length_append];omega),jY h]
 have ht:(fl (l.take i)).length=i*3:=by rw[fl_length,List.length_take];omega
 congr 1
 rw[List.append_assoc,List.drop_left' ht,List.append_assoc,List.take_left' (xe _)]
theorem zkV {l:List Al} {j:List Value} {i:Nat} {a:Al} (h:i<l.length):spl (fl l++j) (i*3) (ce a)=fl (l.set i a)++j:=by
 have hln:=fl_length l
 rw[xq _ _ _ (by simp only[List.length_append];omega)]
 have ht:(fl (l.take i)).length=i*3:=by rw[fl_length,List.length_take];omega
 have e1:fl (l.set i a)=fl (l.take i)++(ce a++fl (l.drop (i+1))):=by
  rw[List.set_eq_take_append_cons_drop,if_pos h,wh]
  rfl
 have h1:(fl l++j).take (i*3)=fl (l.take i):=by
  rw[jY h,List.append_assoc,List.take_left' ht]
 have h2:(fl l++j).drop (i*3+(ce a).length)=fl (l.drop (i+1))++j:=by
  rw[jY h,xe,←List.drop_drop,List.append_assoc,List.drop_left' ht,List.append_assoc,List.drop_left' (xe _)]
 rw[h1,h2,e1]
 simp
structure Ro (S:Mem) (b o c:Nat) (t:TypeId) (s:Sl) (n:Nat):Prop where
 cell:S.cell b o=some (eL s)
 p:s.p=some (c,0)
 n:s.n=n
 ne:b≠c
def wi (S:Mem) (c:Nat) (t:TypeId) (j:List Value) (l:List Al):Mem:=S.set c (bw t (fl l++j))
theorem wi_c {S:Mem} {c:Nat} {t:TypeId} {j:List Value} {l:List Al}:wi S c t j l c=some (bw t (fl l++j)):=zO
section
variable {S:Mem} {b o c:Nat} {t:TypeId} {s:Sl} {j:List Value} {l:List Al} {n:Nat}
theorem gE (h:b≠c):(wi S c t j l).cell b o=S.cell b o:=by
 unfold Mem.cell wi;rw[qm h]
theorem zhT {S:Mem} {x y:Al} {Q:Bool→Mem→Prop} (hQ:Q (bf x y) S):wL S (ce x) (ce y) Q:=by
 apply zac
 unfold xD
 refine⟨rfl,rfl,?_⟩
 simp only[jn]
 rw[zY (show nthL (ce x) 0=some (.int .u64 x.tm) from rfl),zY (show nthL (ce y) 0=some (.int .u64 y.tm) from rfl)]
 unfold bf at hQ
 by_cases h1:x.tm≠y.tm
 ·rw[if_pos h1] at hQ ⊢
  rw[zY (show nthL (ce x) 0=some (.int .u64 x.tm) from rfl),zY (show nthL (ce y) 0=some (.int .u64 y.tm) from rfl)]
  exact hQ
 ·rw[if_neg h1] at hQ ⊢
  rw[zY (show nthL (ce x) 1=some (.int .i64 x.vm) from rfl),zY (show nthL (ce y) 1=some (.int .i64 y.vm) from rfl)]
  by_cases h2:x.vm≠y.vm
  ·rw[if_pos h2] at hQ ⊢
   rw[zY (show nthL (ce x) 1=some (.int .i64 x.vm) from rfl),zY (show nthL (ce y) 1=some (.int .i64 y.vm) from rfl)]
   exact hQ
  ·rw[if_neg h2] at hQ ⊢
   rw[zY (show nthL (ce x) 2=some (.int .i64 x.seat) from rfl),zY (show nthL (ce y) 2=some (.int .i64 y.seat) from rfl)]
   exact hQ
theorem zbN {i:Nat} (h:i<l.length):(wi S c t j l).part c (0+i*3) 3=some (ce (gt l i)):=by
 rw[yu wi_c,Nat.zero_add];exact zhH h
theorem zeD {i:Nat} {a:Al} {K:Mem→Prop} (h:i<l.length) (hK:K (wi S c t j (l.set i a))):pt (wi S c t j l) c (0+i*3) 3 (ce a) K:=by
 have hln:=fl_length l
 refine zko (t:=t) (cs:=fl l++j) wi_c (by simp only[List.length_append];omega) ?_
 rw[Nat.zero_add,zkV h]
 simpa [wi] using hK
theorem zhC {cap:Nat} {x y:Nat} (hx:x<l.length) (hy:y<l.length) (hn:n=l.length) {Q:Bool→Mem→Prop} (hQ:Q (bf (gt l x) (gt l y)) (wi S c t j l)):zao (wi S c t j l) ⟨some (c,0),n,cap⟩ x y Q:=by
 apply zde
 unfold vR
 rw[zah]
 refine⟨by omega,by omega,?_⟩
 rw[Int.toNat_natCast,jo (zbN hx)]
 refine⟨by omega,by omega,?_⟩
 rw[Int.toNat_natCast,jo (zbN hy)]
 exact zhT hQ
theorem zhq {cap:Nat} {x y:Nat} (hx:x<l.length) (hy:y<l.length) (hn:n=l.length) {Q:Mem→Prop} (hQ:Q (wi S c t j (sw l x y))):zan (wi S c t j l) ⟨some (c,0),n,cap⟩ x y Q:=by
 apply zdc
 unfold vP
 rw[zah]
 refine⟨by omega,by omega,?_⟩
 rw[Int.toNat_natCast,Int.toNat_natCast,jo (zbN hy)]
 refine⟨by omega,by omega,?_⟩
 rw[jo (zbN hx)]
 refine⟨by omega,by omega,zgW _,zeD hx ?_⟩
 refine⟨by omega,by omega,zgW _,zeD (by simpa using hy) ?_⟩
 exact hQ
abbrev rw_ (b o:Nat):Value:=.iface 269 (.pointer (some ⟨b,o,none⟩))
theorem zaK (hr : Ro S b o c t s l.length) {x y : Nat} (hx : x < l.length) (hy : y < l.length) {R : Value → Mem → Prop} (hR : R (.bool (bf (gt l x) (gt l y))) (wi S c t j l)) : ci Tryz.prog (wi S c t j l) (rw_ b o) "Less" [.int .i64 x, .int .i64 y] R := by
 obtain⟨p,n,cap⟩:=s
 obtain⟨h1,h2,h3,h4⟩:=hr
 simp only at h2 h3
 subst h2;subst h3
 exact znM (v:=eL ⟨some (c,0),l.length,cap⟩) (by rw[gE h4];exact h1) (Tr.mono (zhC hx hy rfl (Q:=fun r S'=>R (.bool r) S') hR) (by rintro v S' ⟨r,rfl,h⟩;exact h))
theorem zcq (hr : Ro S b o c t s l.length) {x y : Nat} (hx : x < l.length) (hy : y < l.length) {R : Value → Mem → Prop} (hR : R (.tuple #[]) (wi S c t j (sw l x y))) : ci Tryz.prog (wi S c t j l) (rw_ b o) "Swap" [.int .i64 x, .int .i64 y] R := by
 obtain⟨p,n,cap⟩:=s
 obtain⟨h1,h2,h3,h4⟩:=hr
 simp only at h2 h3
 subst h2;subst h3
 exact znM (v:=eL ⟨some (c,0),l.length,cap⟩) (by rw[gE h4];exact h1) (Tr.mono (zhq hx hy rfl (Q:=fun S'=>R (.tuple #[]) S') hR) (by rintro v S' ⟨rfl,h⟩;exact h))
theorem zem (hr : S.cell b o = some (eL s)) {R : Value → Mem → Prop} (hR : R (.int .i64 s.n) S) : ci Tryz.prog S (rw_ b o) "Len" [] R :=
 znM hr (Tr.mono (zdE (S:=S) (r:=s) (Q:=fun r S'=>R (.int .i64 r) S') hR) (by rintro v S' ⟨r,rfl,h⟩;exact h))
theorem Ro.len (hr:Ro S b o c t s n) {m:Nat} (h:m=n):Ro S b o c t s m:=h ▸ hr
theorem zbH (hr:Ro S b o c t s l.length) {lo n:Nat} (hn:n≤l.length) (hlo:lo<l.length) (hl:l.length<1000000) (h:HpF bf l n (lo+1)) {Q:Bool→Mem→Prop}
  (hQ:∀ r l',l'.Perm l→HpF bf l' n lo→(∀ k,n≤k→gt l' k=gt l k)→Q r (wi S c t j l')):gY (wi S c t j l) (rw_ b o) lo n Q:=by
 apply zdu
 unfold gg
 simp only[jn]
 refine zX (fun (z:Int) S'=>∃ (i:Nat) (l':List Al),z=(i:Int)∧S'=wi S c t j l'∧l'.Perm l∧Dn bf l' n lo i∧i<l.length∧(∀ k,n≤k→gt l' k=gt l k)) (fun z=>(l.length-z).toNat) ?_
  ⟨lo,l,rfl,rfl,List.Perm.refl _,Dn.start h,hlo,fun _ _=>rfl⟩
 rintro X z S' ⟨i,l',rfl,rfl,hp,hd,hi,hk⟩ ih
 have hlen:=hp.length_eq
 have hr':Ro S b o c t s l'.length:=hr.len hlen
 rw[w64 (x:=2*(i:Int)) (by omega) (by omega),w64 (x:=2*(i:Int)+1) (by omega) (by omega),w64 (x:=2*(i:Int)+1+1) (by omega) (by omega)]
 by_cases h1:(n:Int)≤2*(i:Int)+1
 ·rw[if_pos h1]
  exact hQ _ l' hp (hd.leaf (by omega)) hk
 rw[if_neg h1,if_neg (by omega:¬2*(i:Int)+1<0)]
 have e1:2*(i:Int)+1=((2*i+1:Nat):Int):=by omega
 have e2:2*(i:Int)+1+1=((2*i+2:Nat):Int):=by omega
 rw[e2,e1]
 have rest:∀ jx:Nat,(jx=2*i+1∨jx=2*i+2)→jx<n→(∀ k,k=2*i+1∨k=2*i+2→k<n→bf (gt l' k) (gt l' jx)=false) →
   ci Tryz.prog (wi S c t j l') (rw_ b o) "Less" [.int .i64 (jx : Int), .int .i64 (i : Int)] (fun rv Sx_4 => ∃ t_1 : Bool, rv = .bool t_1 ∧ 
       if t_1=true then
        ci Tryz.prog Sx_4 (rw_ b o) "Swap" [.int .i64 (i : Int), .int .i64 (jx : Int)] fun rv Sx_5 => rv = .tuple #[] ∧ 
        X jx Sx_5
       else
       Q (decide ((lo:Int)<i)) Sx_4):=by
  intro jx hj hjn hm
  refine zaK hr' (by omega) (by omega) ⟨_,rfl,?_⟩
  by_cases hs:bf (gt l' jx) (gt l' i)=true
  ·rw[if_pos hs]
   refine zcq hr' (by omega) (by omega) ⟨rfl,?_⟩
   refine ih _ _ ⟨jx,_,rfl,rfl,(zdF (by omega) (by omega)).trans hp,hd.next bf_ord (by omega) hjn hj hm hs,by omega,fun k hkn=>?_⟩ (by omega)
   rw[zcj (by omega) (by omega),if_neg (by omega),if_neg (by omega)]
   exact hk k hkn
  ·rw[if_neg hs]
   exact hQ _ l' hp (hd.stop bf_ord hm (by simpa using hs)) hk
 by_cases h2:((2*i+2:Nat):Int)<n
 ·rw[if_pos h2]
  refine zaK hr' (by omega) (by omega) ⟨_,rfl,?_⟩
  by_cases hs:bf (gt l' (2*i+2)) (gt l' (2*i+1))=true
  ·rw[if_pos hs]
   refine rest _ (.inr rfl) (by omega) ?_
   rintro k (rfl | rfl) hkn
   ·exact bf_ord.asym _ _ hs
   ·exact zcJ _
  ·rw[if_neg hs]
   refine rest _ (.inl rfl) (by omega) ?_
   rintro k (rfl | rfl) hkn
   ·exact zcJ _
   ·simpa using hs
 ·rw[if_neg h2]
  refine rest _ (.inl rfl) (by omega) ?_
  rintro k (rfl | rfl) hkn
  ·exact zcJ _
  ·omega
theorem zhd (hr:Ro S b o c t s l.length) {x:Nat} (hx:x<l.length) (hl:l.length<1000000) (h:Up bf l x) {Q:Mem→Prop}
  (hQ:∀ l',l'.Perm l→Heap bf l'→Q (wi S c t j l')):zfM (wi S c t j l) (rw_ b o) x Q:=by
 apply zgl
 unfold zbK
 simp only[jn]
 refine zX (fun (z:Int) S'=>∃ (i:Nat) (l':List Al),z=(i:Int)∧S'=wi S c t j l'∧l'.Perm l∧Up bf l' i∧i<l.length) (fun z=>z.toNat) ?_ ⟨x,l,rfl,rfl,List.Perm.refl _,h,hx⟩
 rintro X z S' ⟨i,l',rfl,rfl,hp,hu,hi⟩ ih
 have hlen:=hp.length_eq
 have hr':Ro S b o c t s l'.length:=hr.len hlen
 rw[w64 (x:=(i:Int)-1) (by omega) (by omega)]
 by_cases h0:i=0
 ·subst h0
  rw[if_pos (by decide)]
  exact hQ l' hp hu.top
 have e:IntKind.i64.wrap (Int.tdiv ((i:Int)-1) 2)=(((i-1)/2:Nat):Int):=by
  rw[td (by omega),w64 (by omega) (by omega)];omega
 rw[e,if_neg (by omega)]
 refine zaK hr' (by omega) (by omega) ⟨_,rfl,?_⟩
 by_cases hs:bf (gt l' i) (gt l' ((i-1)/2))=true
 ·rw[if_pos hs]
  refine zcq hr' (by omega) (by omega) ⟨rfl,?_⟩
  exact ih _ _ ⟨_,_,rfl,rfl,(zdF (by omega) (by omega)).trans hp,hu.next bf_ord (by omega) (by omega) hs,by omega⟩ (by omega)
 ·rw[if_neg hs]
  exact hQ l' hp (hu.stop (by simpa using hs))
theorem init_spec (hr:Ro S b o c t s l.length) (hl:l.length<1000000) {Q:Mem→Prop} (hQ:∀ l',l'.Perm l→Heap bf l'→Q (wi S c t j l')):jH (wi S c t j l) (rw_ b o) Q:=by
 apply zav
 unfold kM
 refine zem (s:=s) (by rw[gE hr.ne];exact hr.cell) ⟨_,rfl,?_⟩
 rw[hr.n,td (by omega),w64 (x:=(l.length:Int)/2) (by omega) (by omega),w64 (by omega) (by omega)]
 refine zX (fun (z:Int) S'=>∃ (i:Nat) (l':List Al),z=(i:Int)-1∧S'=wi S c t j l'∧l'.Perm l∧HpF bf l' l.length i∧i≤l.length/2) (fun z=>(z+1).toNat) ?_ ⟨l.length/2,l,by omega,rfl,List.Perm.refl _,HpF.leafs,by omega⟩
 rintro X z S' ⟨i,l',rfl,rfl,hp,hh,hi⟩ ih
 have hlen:=hp.length_eq
 by_cases h0:0≤(i:Int)-1
 ·rw[if_pos h0]
  have e:(i:Int)-1=((i-1:Nat):Int):=by omega
  rw[e]
  refine zbH (hr.len hlen) (by omega) (by omega) (by omega) (by rw[show i-1+1=i by omega];exact hh) fun r l2 hp2 hh2 _=>?_
  rw[w64 (by omega) (by omega)]
  exact ih _ _ ⟨i-1,l2,by omega,rfl,hp2.trans hp,hh2,by omega⟩ (by omega)
 ·rw[if_neg h0]
  have:i=0:=by omega
  subst this
  exact hQ l' hp (by unfold Heap;rw[hlen];exact hh)
end
end Go.Proofs.YtabdpmnhjlmnlaaGreatDoor.Hk
namespace Go.Proofs.YtabdpmnhjlmnlaaGreatDoor.Hk
open Go Go.Pt Go.Hp
open Go.Proofs.YtabdpmnhjlmnlaaGreatDoor
theorem zfs {S:Mem} {b c:Nat} {k m:Blk} (h:b≠c):(S.set c m).set b k=(S.set b k).set c m:=by
 funext x;simp only[Mem.set]
 by_cases h1:x=b
 ·by_cases h2:x=c
  ·exact absurd (h1.symm.trans h2) h
  ·simp[h1,h]
 ·simp[h1]
def own (s:Sl):List Nat:=match s.p with
 | none=>[]
 | some (c,_)=>[c]
structure Ck (S:Mem) (b o:Nat) (tb:TypeId) (cs:List Value) (s:Sl) (l:List Al):Prop where
 blk:S b=some (bw tb cs)
 cell:nthL cs o=some (eL s)
 row:Row S 3 s (fl l)
 ne:∀ c∈own s,b≠c
 heap:Heap bf l
 len:l.length<100000
section
variable {S:Mem} {b o c:Nat} {tb t:TypeId} {cs j:List Value} {s:Sl} {l:List Al} {cap:Nat}
theorem zki (h:S c=some (bw t (fl l++j))) (hc:l.length≤cap) (hj:j.length=(cap-l.length)*3):Row S 3 ⟨some (c,0),l.length,cap⟩ (fl l):=by
 have hl:=fl_length l
 refine⟨hl,hc,.inr ⟨c,_,rfl,h,rfl,?_,?_⟩⟩
 ·simp only[List.length_append,hl,hj];rw[←Nat.add_mul];congr 1;omega
 ·simp only;rw[List.take_left' hl]
theorem row_open (h:Row S 3 s (fl l)):(s=⟨none,0,0⟩∧l=[])∨∃ c cap t j,s=⟨some (c,0),l.length,cap⟩∧l.length≤cap∧S c=some (bw t (fl l++j))∧j.length=(cap-l.length)*3:=by
 obtain⟨p,n,cp⟩:=s
 have hl:=fl_length l
 have h1:=h.len
 have h2:=h.cap
 simp only at h1 h2
 have hn:n=l.length:=by omega
 subst hn
 rcases h.lie with ⟨h3,h4⟩ | ⟨c,k,h3,h4,h5,h6,h7⟩
 ·simp only at h3 h4
  subst h3;subst h4
  have:l=[]:=List.length_eq_zero_iff.1 (by omega)
  subst this
  exact .inl ⟨rfl,rfl⟩
 ·simp only at h3 h6 h7
  subst h3
  obtain⟨kt,kc,kf⟩:=k
  simp only at h5 h6 h7
  subst h5
  refine .inr ⟨c,cp,kt,kc.drop (l.length*3),rfl,h2,?_,by rw[List.length_drop,h6,Nat.sub_mul]⟩
  rw[←h7,List.take_append_drop];exact h4
theorem Ck.rd (h:Ck S b o tb cs s l):S.cell b o=some (eL s):=by rw[qA h.blk];exact h.cell
theorem own_row {x:Nat} (h:Row S 3 s (fl l)) (hx:x∈own s):∃ k,S x=some k:=by
 rcases row_open h with ⟨rfl,rfl⟩ | ⟨c,cap,t,j,rfl,_,h2,_⟩
 ·simp[own] at hx
 ·simp only[own,List.mem_singleton] at hx;subst hx;exact⟨_,h2⟩
theorem zlC {S':Mem} {W:List Nat} (h:Row S 3 s (fl l)) (hk:Keeps S S' W) (hw:∀ x∈own s,x∉W):Row S' 3 s (fl l):=by
 refine h.keep fun c hc=>hk c ?_ (hw c (by simp[own,hc]))
 obtain⟨k,hk⟩:=own_row h (show c∈own s by simp[own,hc])
 simp[hk]
theorem Ck.keep {S':Mem} {W:List Nat} (h:Ck S b o tb cs s l) (hk:Keeps S S' W) (hb:b∉W) (hw:∀ x∈own s,x∉W):Ck S' b o tb cs s l:=
 ⟨hk.get h.blk hb,h.cell,zlC h.row hk hw,h.ne,h.heap,h.len⟩
def Tells (S:Mem) (W:List Nat) (fv:Value) (p:Al→Bool):Prop:=∀ S' a (R:Value→Mem→Prop),Keeps S S' W→R (.bool (p a)) S'→cv Tryz.prog S' fv [valL (ce a)] R
variable {fv:Value} {p:Al→Bool}
theorem zhZ {l':List Al} {j':List Value}:Keeps S (wi S c t j' l') [c]:=fun x _ hw=>qm (by simpa using hw)
theorem zjj (hf:Tells S [c] fv p) (hl:l.length<100000) {Q:Int→Mem→Prop} (h1:∀ i,i<l.length→(∀ k,k<i→p (gt l k)=false)→p (gt l i)=true→Q i (wi S c t j l)) (h2:(∀ k,k<l.length→p (gt l k)=false)→Q (-1) (wi S c t j l)) :
  qi (wi S c t j l) ⟨some (c,0),l.length,cap⟩ fv Q:=by
 apply qK
 unfold qa
 simp only[jn]
 refine zX (fun (z:Int) S'=>∃ (i:Nat),z=(i:Int)∧S'=wi S c t j l∧i≤l.length∧∀ k,k<i→p (gt l k)=false) (fun z=>(l.length-z).toNat) ?_ ⟨0,rfl,rfl,by omega,fun k hk=>by omega⟩
 rintro X z S' ⟨i,rfl,rfl,hi,hk⟩ ih
 by_cases h:(i:Int)<(l.length:Int)
 ·rw[if_pos h,zah]
  refine⟨by omega,h,?_⟩
  rw[Int.toNat_natCast,jo (zbN (by omega))]
  refine hf _ _ _ zhZ ⟨_,rfl,?_⟩
  by_cases hp:p (gt l i)=true
  ·rw[if_pos hp];exact h1 i (by omega) hk hp
  ·rw[if_neg hp,w64 (by omega) (by omega)]
   refine ih _ _ ⟨i+1,by omega,rfl,by omega,fun k hk2=>?_⟩ (by omega)
   by_cases e:k=i
   ·subst e;simpa using hp
   ·exact hk k (by omega)
 ·rw[if_neg h]
  exact h2 fun k hk2=>hk k (by omega)
theorem zeZ {l:List Al} {q:Al→Bool} (h:∀ k,k<l.length→q (gt l k)=true):l.filter q=l:=by
 rw[List.filter_eq_self]
 intro a ha
 obtain⟨k,hk,rfl⟩:=List.getElem_of_mem ha
 have:=h k hk
 rwa [zfO hk] at this
theorem gq {l:List Al} {q:Al→Bool} {k:Nat} (h:k<l.length):(l.take (k+1)).filter q=(l.take k).filter q++(if q (gt l k)=true then [gt l k] else []):=by
 rw[List.take_succ_eq_append_getElem h,List.filter_append,zfO h]
 congr 1
 by_cases hq:q l[k]=true <;> simp[hq]
theorem zaf (m:Nat):(zrep m [.int .u64 0,.int .i64 0,.int .i64 0]).length=m*3:=by rw[ko];rfl
theorem zhM (hf:Tells S [c] fv p) (hl:l.length<100000) (hc:l.length≤cap) (hj:j.length=(cap-l.length)*3) {Q:Sl→Mem→Prop}
  (hQ:∀ l' j',l'=l.filter (fun a=>! p a)→l'.length≤cap→j'.length=(cap-l'.length)*3→Q ⟨some (c,0),l'.length,cap⟩ (wi S c t j' l')) :
  qe (wi S c t j l) ⟨some (c,0),l.length,cap⟩ fv Q:=by
 apply qH
 unfold zZ
 refine zjj hf hl (fun i0 hi0 hlow hpi=>?_) fun hno=>?_
 ·simp only[jn]
  rw[if_neg (by omega),w64 (by omega) (by omega)]
  refine zX (fun (z:Int×Int) S'=>∃ (i k:Nat) (l':List Al),z.1=(i:Int)∧z.2=(k:Int)∧S'=wi S c t j l'∧i<k∧k≤l.length∧l'.length=l.length∧l'.take i=(l.take k).filter (fun a=>! p a)∧l'.drop k=l.drop k) (fun z=>(l.length-z.2).toNat) ?_
   ⟨i0,i0+1,l,rfl,by simp,rfl,by omega,by omega,rfl,?_,rfl⟩
  ·rintro X ⟨z1,z2⟩ S' ⟨i,k,l',e1,e2,rfl,hik,hk,hlen,ht,hd⟩ ih
   dsimp only at e1 e2 ih ⊢
   subst e1;subst e2
   by_cases hkn:(k:Int)<(l.length:Int)
   ·rw[if_pos hkn,zah]
    refine⟨by omega,hkn,?_⟩
    rw[Int.toNat_natCast,jo (zbN (by omega))]
    have hgk:gt l' k=gt l k:=by
     have h1:l'[k]? = l[k]?:=by
      have:=congrArg (fun x=>x[0]?) hd
      simpa using this
     simp[gt,List.getD_eq_getElem?_getD,h1]
    refine⟨zgW _,hf _ _ _ zhZ ⟨_,rfl,?_⟩⟩
    have hdr:l'.drop (k+1)=l.drop (k+1):=by rw[←List.drop_drop,←List.drop_drop,hd]
    by_cases hp:p (gt l' k)=true
    ·rw[if_pos hp,w64 (by omega) (by omega)]
     refine ih _ _ ⟨i,k+1,l',rfl,by simp,rfl,by omega,by omega,hlen,?_,hdr⟩ (by simp only;omega)
     rw[gq (by omega),←hgk,hp,ht];simp
    ·rw[if_neg hp]
     refine⟨by omega,by omega,zgW _,?_⟩
     rw[Int.toNat_natCast]
     refine zeD (by omega) ?_
     rw[w64 (by omega) (by omega),w64 (by omega) (by omega)]
     refine ih _ _ ⟨i+1,k+1,l'.set i (gt l' k),by simp,by simp,rfl,by omega,by omega,by simpa using hlen,?_,?_⟩ (by simp only;omega)
     ·rw[gq (by omega),←hgk,←ht]
      simp only[Bool.not_eq_true] at hp
      rw[hp,List.take_succ_eq_append_getElem (by simp;omega),List.take_set_of_le (by omega)]
      simp
     ·rw[List.drop_set_of_lt (by omega)];exact hdr
   ·rw[if_neg hkn]
    have hkl:k=l.length:=by omega
    subst hkl
    have htl:(l.take l.length).filter (fun a=>! p a)=l.filter (fun a=>! p a):=by rw[List.take_length]
    rw[htl] at ht
    have hil:(l'.take i).length=i:=by rw[List.length_take];omega
    refine⟨by omega,by omega,by omega,?_⟩
    unfold lt clr
    refine .inr ⟨c,0+i*3,?_,?_,?_⟩
    ·simp only[slc,Int.toNat_natCast]
     rw[if_neg (by omega)]
     rfl
    ·refine⟨_,wi_c,rfl,?_⟩
     have:=fl_length l'
     simp only[slc,List.length_append];omega
    ·refine⟨by omega,by omega,?_⟩
     have e0:slc 3 ⟨some (c,0),l.length,cap⟩ 0 (i:Int)=⟨some (c,0),i,cap⟩:=by
      simp only[slc]
      by_cases hcap:cap=0
      ·omega
      ·rw[if_neg (by simpa using hcap)];simp
     have e1:(wi S c t j l').put c (0+i*3) (zrep (slc 3 ⟨some (c,0),l.length,cap⟩ (i:Int) (l.length:Int)).n [.int .u64 0,.int .i64 0,.int .i64 0])=wi S c t (zrep (l.length-i) [.int .u64 0,.int .i64 0,.int .i64 0]++j) (l'.take i):=by
      have hz:(slc 3 ⟨some (c,0),l.length,cap⟩ (i:Int) (l.length:Int)).n=l.length-i:=by simp only[slc];omega
      have hfl:=fl_length l'
      rw[hz,vU wi_c,Nat.zero_add,xq _ _ _ (by simp only[List.length_append];omega),zaf]
      unfold wi
      rw[zhs]
      congr 2
      have hs:fl l'=fl (l'.take i)++fl (l'.drop i):=by rw[←wh,List.take_append_drop]
      have h3:(fl (l'.take i)).length=i*3:=by rw[fl_length,hil]
      have h4:(fl (l'.drop i)).length=(l.length-i)*3:=by rw[fl_length,List.length_drop,hlen]
      have h5:(fl l'++j).take (i*3)=fl (l'.take i):=by rw[hs,List.append_assoc,List.take_left' h3]
      have h6:(fl l'++j).drop (i*3+(l.length-i)*3)=j:=by
       rw[hs,←List.drop_drop,List.append_assoc,List.drop_left' h3,List.drop_left' h4]
      simp only
      rw[h5,h6,List.append_assoc]
     rw[e0,e1]
     have:=hQ (l'.take i) (zrep (l.length-i) [.int .u64 0,.int .i64 0,.int .i64 0]++j) ht (by omega) (by rw[List.length_append,zaf,hj,hil,←Nat.add_mul];congr 1;omega)
     rwa [hil] at this
  ·rw[List.take_succ_eq_append_getElem hi0,List.filter_append]
   rw[zfO hi0] at hpi
   simp only[List.filter_cons,hpi,List.filter_nil]
   have:(l.take i0).filter (fun a=>! p a)=l.take i0:=by
    refine zeZ fun k hk=>?_
    rw[List.length_take] at hk
    have e:gt (l.take i0) k=gt l k:=by simp[gt,List.getD_eq_getElem?_getD,(by omega:k<i0)]
    rw[e,hlow k (by omega)];rfl
   rw[this];simp
 ·simp only[jn]
  rw[if_pos trivial]
  have e:l.filter (fun a=>! p a)=l:=zeZ fun k hk=>by rw[hno k hk];rfl
  exact hQ l j e.symm hc hj
end
end Go.Proofs.YtabdpmnhjlmnlaaGreatDoor.Hk
namespace Go.Proofs.YtabdpmnhjlmnlaaGreatDoor.Hk
open Go Go.Pt Go.Hp
open Go.Proofs.YtabdpmnhjlmnlaaGreatDoor
theorem zgq:∀ {cs:List Value} {o:Nat} {v:Value},nthL cs o=some v→spl cs o [v]=cs
 | [],_,_,h=>by simp[nthL] at h
 | x :: cs,0,v,h=>by simp only[nthL,Option.some.injEq] at h;subst h;simp[spl]
 | x :: cs,n+1,v,h=>by simp only[nthL] at h;simp only[spl,zgq h]
theorem zia:∀ {cs:List Value} {o:Nat} {v w:Value},o<cs.length→spl (spl cs o [v]) o [w]=spl cs o [w]
 | [],_,_,_,h=>by simp at h
 | x :: cs,0,v,w,h=>by simp[spl]
 | x :: cs,n+1,v,w,h=>by simp only[spl];rw[zia (by simpa using h)]
theorem zkQ {S:Mem} (fv:Value) {Q:Int→Mem→Prop} (hQ:Q (-1) S):qi S ⟨none,0,0⟩ fv Q:=by
 apply qK
 unfold qa
 simp only[jn]
 refine zX (fun (z:Int) S'=>z=0∧S'=S) (fun _=>0) ?_ ⟨rfl,rfl⟩
 rintro X z S' ⟨rfl,rfl⟩ ih
 rw[if_neg (by simp)]
 exact hQ
theorem zjr {S:Mem} (fv:Value) {Q:Sl→Mem→Prop} (hQ:Q ⟨none,0,0⟩ S):qe S ⟨none,0,0⟩ fv Q:=by
 apply qH
 unfold zZ
 refine zkQ fv ?_
 simp only[jn]
 rw[if_pos trivial]
 exact hQ
theorem zmd {S:Mem} {b o:Nat} (hc:S.cell b o=some (.slice none 0 0)) {Q:Mem→Prop} (hQ:Q S):jH S (rw_ b o) Q:=by
 apply zav
 unfold kM
 refine zem (s:=⟨none,0,0⟩) hc ⟨0,rfl,?_⟩
 refine zX (fun (z:Int) S'=>z = -1∧S'=S) (fun _=>0) ?_ ⟨rfl,rfl⟩
 rintro X z S' ⟨rfl,rfl⟩ ih
 rw[if_neg (by decide)]
 exact hQ
section
variable {S:Mem} {b o c:Nat} {tb t:TypeId} {cs j:List Value} {s:Sl} {l:List Al} {cap:Nat} {fv:Value} {p:Al→Bool}
theorem yZ {v w:Value} (h:nthL cs o=some w):nthL (spl cs o [v]) o=some v:=by
 have:=wR h
 rw[qb,jk (by simp;omega),if_pos (by simp)];simp
theorem wi_of (h:S c=some (bw t (fl l++j))):wi S c t j l=S:=zdh h
theorem zjL {k:Blk} (h:b≠c):(wi S c t j l).set b k=wi (S.set b k) c t j l:=zfs h
structure Left' (S S':Mem) (b o:Nat) (tb:TypeId) (cs:List Value) (s s':Sl) (l':List Al):Prop where
 ck:Ck S' b o tb (spl cs o [eL s']) s' l'
 keep:Keeps S S' (b :: own s)
 fresh:∀ x∈own s',x∈own s∨S x=none
 al:Grows S S'
theorem ck_mk {S':Mem} {l':List Al} (hb:S' b=some (bw tb cs)) (hcell:nthL cs o=some (eL ⟨some (c,0),l'.length,cap⟩)) (hc:S' c=some (bw t (fl l'++j))) (hle:l'.length≤cap) (hj:j.length=(cap-l'.length)*3) (hne:b≠c) (hh:Heap bf l') (hl:l'.length<100000) :
  Ck S' b o tb cs ⟨some (c,0),l'.length,cap⟩ l':=⟨hb,hcell,zki hc hle hj,fun x hx=>by simp only[own,List.mem_singleton] at hx;subst hx;exact hne,hh,hl⟩
theorem zgR (h:Ck S b o tb cs s l) (hf:Tells S (b :: own s) fv p) {Q:Mem→Prop} (hQ:∀ S' s' l',l'.Perm (l.filter fun a=>! p a)→Left' S S' b o tb cs s s' l'→Q S'):xJ S (some (b,o)) fv Q:=by
 apply zbq
 unfold wI
 rw[if_pos (by simp),qk,jW h.rd]
 rcases row_open h.row with ⟨rfl,rfl⟩ | ⟨c,cap,t,j,rfl,hle,hc,hj⟩
 ·refine zjr fv ?_
  have hlt:=wR h.cell
  refine zko h.blk (by omega) ?_
  have e:spl cs o [eL ⟨none,0,0⟩]=cs:=zgq h.cell
  rw[e,zdh h.blk]
  refine zmd h.rd (hQ S ⟨none,0,0⟩ [] (List.Perm.refl _) ⟨by rw[e];exact h,Keeps.refl,fun x hx=>.inl hx,Grows.refl⟩)
 ·have hne:b≠c:=h.ne c (by simp[own])
  have hlen:=h.len
  have hlt:=wR h.cell
  rw[←wi_of hc]
  refine zhM (fun S' a R hk hR=>hf S' a R (hk.wider (by simp[own])) hR) hlen hle hj fun l' j' hl' hle' hj'=>?_
  have hfl:l'.length≤l.length:=by rw[hl'];exact List.length_filter_le _ _
  refine zko (t:=tb) (cs:=cs) (by unfold wi;rw[qm hne];exact h.blk) (by omega) ?_
  rw[zjL hne]
  have hb':(S.set b (bw tb (spl cs o [eL ⟨some (c,0),l'.length,cap⟩]))) b=some (bw tb (spl cs o [eL ⟨some (c,0),l'.length,cap⟩])):=zO
  refine init_spec (s:=⟨some (c,0),l'.length,cap⟩) ⟨by rw[qA hb'];exact yZ h.cell,rfl,rfl,hne⟩ (by omega) fun l2 hp hh=>?_
  have hlen2:=hp.length_eq
  have hx:(⟨some (c,0),l'.length,cap⟩:Sl)=⟨some (c,0),l2.length,cap⟩:=by rw[hlen2]
  rw[hx]
  refine hQ _ ⟨some (c,0),l2.length,cap⟩ l2 (hl' ▸ hp) ⟨ck_mk (by unfold wi;rw[qm hne];exact zO) (yZ h.cell) wi_c (by omega) (by rw[hlen2];exact hj') hne hh (by omega),?_,fun x hx=>.inl hx,Grows.refl.set.set⟩
  intro x hx hw
  simp only[own,List.mem_cons,List.not_mem_nil,or_false,not_or] at hw
  unfold wi
  rw[qm hw.2,qm hw.1]
theorem Left'.of {S1 S':Mem} {s':Sl} {l':List Al} (h:Left' S1 S' b o tb cs s s' l') (hk:Keeps S S1 []):Left' S S' b o tb cs s s' l':=
 ⟨h.ck,(hk.wider (by simp)).trans h.keep,fun x hx=>(h.fresh x hx).imp id fun e=>(by
  cases hs:S x with
  | none=>rfl
  | some k=>have:=hk.get hs (by simp);rw[e] at this;cases this),(Grows.keeps hk).trans h.al⟩
theorem not_own {x:Nat} (h:Ck S b o tb cs s l) (hx:S x=none):x∉b :: own s:=by
 intro hm
 rcases List.mem_cons.1 hm with rfl | hm
 ·rw[h.blk] at hx;cases hx
 ·obtain⟨k,hk⟩:=own_row h.row hm;rw[hk] at hx;cases hx
theorem dropVM_spec (h:Ck S b o tb cs s l) {vm:Int} {Q:Mem→Prop} (hQ:∀ S' s' l',l'.Perm (l.filter fun a=>! decide (a.vm=vm))→Left' S S' b o tb cs s s' l'→Q S'):yW S (some (b,o)) vm Q:=by
 apply zab
 unfold xC
 intro b1 hb1
 have hk1:Keeps S (S.set b1 (bw 3 [.int .i64 vm])) []:=Keeps.refl.new hb1
 have h1:=h.keep hk1 (by simp) (by simp)
 refine zgR h1 (p:=fun a=>decide (a.vm=vm)) ?_ fun S' s' l' hp hL=>hQ S' s' l' hp (hL.of hk1)
 intro S' a R hk hR
 have g1:S' b1=some (bw 3 [.int .i64 vm]):=hk.get zO (not_own h hb1)
 refine⟨_,[],[_],rfl,inferInstance,Tr.mono (jR (S:=S') (a:=ce a) (t:=some (b1,0)) (Q:=fun r S2=>R (.bool r) S2) ?_) (by rintro v S2 ⟨r,rfl,h⟩;exact h)⟩
 unfold yD
 refine⟨rfl,?_⟩
 rw[zY (show nthL (ce a) 1=some (.int .i64 a.vm) from rfl),qk,zY (by rw[qA g1];rfl)]
 exact hR
theorem zjq (h:Ck S b o tb cs s l) {vm seat:Int} {Q:Mem→Prop} (hQ:∀ S' s' l',l'.Perm (l.filter fun a=>! (decide (a.vm=vm) && decide (a.seat=seat)))→Left' S S' b o tb cs s s' l'→Q S'):vS S (some (b,o)) vm seat Q:=by
 apply zbr
 unfold wJ
 intro b1 hb1 b2 hb2
 have hk1:Keeps S (S.set b1 (bw 3 [.int .i64 vm])) []:=Keeps.refl.new hb1
 have hk2:Keeps (S.set b1 (bw 3 [.int .i64 vm])) ((S.set b1 (bw 3 [.int .i64 vm])).set b2 (bw 3 [.int .i64 seat])) []:=Keeps.refl.new hb2
 have h1:=h.keep hk1 (by simp) (by simp)
 have h2:=h1.keep hk2 (by simp) (by simp)
 have n12:b1≠b2:=fun e=>by subst e;simp at hb2
 refine zgR h2 (p:=fun a=>decide (a.vm=vm) && decide (a.seat=seat)) ?_ fun S' s' l' hp hL=>hQ S' s' l' hp (hL.of (hk1.trans hk2))
 intro S' a R hk hR
 have g1:S' b1=some (bw 3 [.int .i64 vm]):=hk.get (by rw[qm n12];exact zO) (not_own h hb1)
 have g2:S' b2=some (bw 3 [.int .i64 seat]):=hk.get zO (not_own h1 hb2)
 refine⟨_,[],[_,_],rfl,inferInstance,Tr.mono (gK (S:=S') (a:=ce a) (t:=some (b1,0)) (t_1:=some (b2,0)) (Q:=fun r S2=>R (.bool r) S2) ?_) (by rintro v S2 ⟨r,rfl,h⟩;exact h)⟩
 unfold xj
 refine⟨rfl,?_⟩
 rw[zY (show nthL (ce a) 1=some (.int .i64 a.vm) from rfl),qk,zY (by rw[qA g1];rfl)]
 by_cases e:a.vm=vm
 ·rw[if_pos e,zY (show nthL (ce a) 2=some (.int .i64 a.seat) from rfl),qk,zY (by rw[qA g2];rfl)]
  simpa [e] using hR
 ·rw[if_neg e]
  simpa [e] using hR
theorem push_spec (h:Ck S b o tb cs s l) (hl:l.length+1<100000) {a:Al} {Q:Mem→Prop} (hQ:∀ S' s' l',l'.Perm (a :: l)→Left' S S' b o tb cs s s' l'→Q S') :
  gZ S (rw_ b o) (.iface 193 (valL (ce a))) Q:=by
 apply zdv
 unfold gh
 have hlt:=wR h.cell
 have hlim:(2*(s.n+1)+1024)*24≤281474976710656:=by
  have h1:=h.row.len
  rw[fl_length] at h1
  omega
 refine zpb (t:=269) (Tr.mono (zdd (S:=S) (r:=some (b,o)) (x:=.iface 193 (valL (ce a))) (Q:=fun S1=>∃ s1,Row S1 3 s1 (fl (l++[a]))∧Keeps S S1 (b :: own s)∧S1 b=some (bw tb (spl cs o [eL s1]))∧(∀ x∈own s1,b≠x)∧(∀ x∈own s1,x∈own s∨S x=none)∧Grows S S1) ?_) ?_)
 ·unfold vQ
  rw[qk,jW h.rd]
  refine⟨ce a,rfl,rfl,zgW _,?_⟩
  refine gr h.row (by simp[xe]) (by decide) rfl hlim fun s1 S1 c1 k hn hp1 hor hS1 hrow=>?_
  have hbc:b≠c1:=by
   rcases hor with e | e
   ·exact h.ne c1 (by simp[own,e])
   ·intro e2;subst e2;rw[h.blk] at e;cases e
  have hb1:S1 b=some (bw tb cs):=by rw[hS1,qm hbc];exact h.blk
  refine zko hb1 (by omega) ?_
  have hown:own s1=[c1]:=by simp[own,hp1]
  refine⟨s1,?_,?_,zO,?_,?_,by rw[hS1];exact Grows.refl.set.set⟩
  ·rw[wh]
   refine hrow.keep fun x hx=>?_
   have:x=c1:=by rw[hp1] at hx;cases hx;rfl
   subst this
   rw[qm (fun e=>hbc e.symm)]
  ·intro x hx hw
   rw[qm (fun e=>hw (by simp[e])),hS1]
   rcases hor with e | e
   ·exact qm (fun e2=>hw (by simp[own,e,e2]))
   ·exact qm (fun e2=>hx (by rw[e2];exact e))
  ·rw[hown];intro x hx;rw[List.mem_singleton] at hx;subst hx;exact hbc
  ·rw[hown];intro x hx;rw[List.mem_singleton] at hx;subst hx
   exact hor.imp (fun e=>by simp[own,e]) id
 ·rintro v S1 ⟨rfl,s1,hrow,hk,hb1,hne,hfr,hgr⟩
  refine⟨rfl,?_⟩
  rcases row_open hrow with ⟨rfl,h0⟩ | ⟨c,cap,t,j,rfl,hle,hc,hj⟩
  ·simp at h0
  ·have hcell1:S1.cell b o=some (eL ⟨some (c,0),(l++[a]).length,cap⟩):=by rw[qA hb1];exact yZ h.cell
   have hbc:=hne c (by simp[own])
   refine zem hcell1 ⟨_,rfl,?_⟩
   simp only[List.length_append,List.length_singleton]
   rw[w64 (by omega) (by omega),show ((l.length+1:Nat):Int)-1=(l.length:Int) by omega]
   rw[←wi_of hc]
   refine zhd (s:=⟨some (c,0),(l++[a]).length,cap⟩) ⟨hcell1,rfl,rfl,hbc⟩ (by simp) (by simp;omega) (Up.start h.heap) fun l' hp hh=>?_
   have hlen:=hp.length_eq
   have hx:(⟨some (c,0),(l++[a]).length,cap⟩:Sl)=⟨some (c,0),l'.length,cap⟩:=by rw[hlen]
   rw[hx] at hb1
   refine hQ _ ⟨some (c,0),l'.length,cap⟩ l' (hp.trans (List.perm_append_comm (l₁:=l) (l₂:=[a]))) ⟨ck_mk (by unfold wi;rw[qm hbc];exact hb1) (yZ h.cell) wi_c (by omega) (by rw[hlen];exact hj) hbc hh (by rw[hlen];simp;omega),?_,?_,hgr.set⟩
   ·intro x hx2 hw
    by_cases e:x=c
    ·subst e
     rcases hfr x (by simp[own]) with h3 | h3
     ·exact absurd (List.mem_cons_of_mem _ h3) hw
     ·exact absurd h3 hx2
    ·unfold wi;rw[qm e];exact hk x hx2 hw
   ·intro x hx2;exact hfr x hx2
theorem set_spec (h:Ck S b o tb cs s l) (hl:l.length+1<100000) {vm seat tm:Int} (h1:0≤vm) (h2:vm<6) (h3:0≤seat) (h4:seat<3) {Q:Int→Mem→Prop}
  (hQ:∀ S' s' l',l'.Perm (⟨tm,vm,seat⟩ :: l.filter fun a=>! (decide (a.vm=vm) && decide (a.seat=seat)))→Left' S S' b o tb cs s s' l'→Q 0 S'):wK S (some (b,o)) vm seat tm Q:=by
 apply zbY
 unfold vg
 simp only[jn]
 rw[if_neg (by simp),if_neg (by omega),if_neg (by omega),if_neg (by omega),if_neg (by omega)]
 refine zjq h fun S1 s1 l1 hp1 hL1=>?_
 rw[qk]
 have hlen1:l1.length≤l.length:=by rw[hp1.length_eq];exact List.length_filter_le _ _
 refine push_spec (a:=⟨tm,vm,seat⟩) hL1.ck (by omega) fun S2 s2 l2 hp2 hL2=>hQ S2 s2 l2 (hp2.trans (hp1.cons _)) ?_
 have hlt:=wR h.cell
 have e:spl (spl cs o [eL s1]) o [eL s2]=spl cs o [eL s2]:=zia hlt
 refine⟨e ▸ hL2.ck,?_,?_,hL1.al.trans hL2.al⟩
 ·intro x hx hw
  have k1:=hL1.keep x hx hw
  have:x∉b :: own s1:=by
   intro hm
   rcases List.mem_cons.1 hm with rfl | hm
   ·exact hw (by simp)
   ·rcases hL1.fresh x hm with h5 | h5
    ·exact hw (by simp[h5])
    ·exact hx h5
  rw[hL2.keep x (by rw[k1];exact hx) this,k1]
 ·intro x hx
  rcases hL2.fresh x hx with h5 | h5
  ·exact hL1.fresh x h5
  ·by_cases hm:x∈b :: own s
   ·rcases List.mem_cons.1 hm with rfl | hm
    ·rw[hL1.ck.blk] at h5;cases h5
    ·exact .inl hm
   ·right
    cases hs:S x with
    | none=>rfl
    | some k=>have:=hL1.keep.get hs hm;rw[h5] at this;cases this
end
end Go.Proofs.YtabdpmnhjlmnlaaGreatDoor.Hk
namespace Go.Proofs.YtabdpmnhjlmnlaaGreatDoor.Hk
open Go Go.Pt Go.Hp
open Go.Proofs.YtabdpmnhjlmnlaaGreatDoor
section
variable {S:Mem} {b o c:Nat} {tb t:TypeId} {cs j:List Value} {s:Sl} {l:List Al} {cap:Nat}
structure Told (S S':Mem) (b:Nat) (s' lo:Sl) (out:List Al):Prop where
 row:Row S' 3 lo (fl out)
 fresh:∀ x∈own lo,S x=none
 apart:∀ x∈own lo,x∉b :: own s'
def Rises (l:List Al):Prop:=l.Pairwise fun x y=>bf y x=false
end
end Go.Proofs.YtabdpmnhjlmnlaaGreatDoor.Hk
end
section
namespace Go.Proofs.YtabdpmnhjlmnlaaGreatDoor.Hq
open Go Go.Pt Go.Hp
open Go.Proofs.YtabdpmnhjlmnlaaGreatDoor
def ce (a:Int):List Value:=[.int .i64 a]
def fl (l:List Int):List Value:=l.flatMap ce
def bf (a b:Int):Bool:=decide (a<b)
theorem zcJ (a:Int):bf a a=false:=by simp[bf]
theorem bf_ord:Ord bf:=⟨fun a b h=>by simp only[bf,decide_eq_true_eq,decide_eq_false_iff_not] at *;omega,fun a b c h1 h2=>by simp only[bf,decide_eq_false_iff_not] at *;omega⟩
theorem xe (a:Int):(ce a).length=1:=rfl
theorem fl_length (l:List Int):(fl l).length=l.length*1:=by
 induction l with
 | nil=>rfl
 | cons a l ih=>simp only[fl,List.flatMap_cons,List.length_append,List.length_cons] at *;rw[ih,xe];omega
theorem wh (l r:List Int):fl (l++r)=fl l++fl r:=by simp[fl]
theorem jY {l:List Int} {i:Nat} (h:i<l.length):fl l=fl (l.take i)++(ce (gt l i)++fl (l.drop (i+1))):=by
 have e:l=l.take i++(gt l i :: l.drop (i+1)):=by
  rw[zfO h,List.getElem_cons_drop,List.take_append_drop]
 have e2:fl l=fl (l.take i++(gt l i :: l.drop (i+1))):=congrArg fl e
 rw[e2,wh]
 rfl
theorem zhH {l:List Int} {j:List Value} {i:Nat} (h:i<l.length):lpart (fl l++j) (i*1) 1=some (ce (gt l i)):=by
 have hln:=fl_length l
 rw[qJ (by simp only[List.length_append];omega),jY h]
 have ht:(fl (l.take i)).length=i*1:=by rw[fl_length,List.length_take];omega
 congr 1
 rw[List.append_assoc,List.drop_left' ht,List.append_assoc,List.take_left' (xe _)]
theorem znz {l:List Int} {j:List Value} {i k:Nat} (h:i<l.length) (hk:k<1):nthL (fl l++j) (i*1+k)=nthL (ce (gt l i)) k:=by
 have hp:=zhH (j:=j) h
 rw[qb,qb,vl hp k hk]
theorem zkV {l:List Int} {j:List Value} {i:Nat} {a:Int} (h:i<l.length):spl (fl l++j) (i*1) (ce a)=fl (l.set i a)++j:=by
 have hln:=fl_length l
 rw[xq _ _ _ (by simp only[List.length_append];omega)]
 have ht:(fl (l.take i)).length=i*1:=by rw[fl_length,List.length_take];omega
 have e1:fl (l.set i a)=fl (l.take i)++(ce a++fl (l.drop (i+1))):=by
  rw[List.set_eq_take_append_cons_drop,if_pos h,wh]
  rfl
 have h1:(fl l++j).take (i*1)=fl (l.take i):=by
  rw[jY h,List.append_assoc,List.take_left' ht]
 have h2:(fl l++j).drop (i*1+(ce a).length)=fl (l.drop (i+1))++j:=by
  rw[jY h,xe,←List.drop_drop,List.append_assoc,List.drop_left' ht,List.append_assoc,List.drop_left' (xe _)]
 rw[h1,h2,e1]
 simp
structure Ro (S:Mem) (b o c:Nat) (t:TypeId) (s:Sl) (n:Nat):Prop where
 cell:S.cell b o=some (eL s)
 p:s.p=some (c,0)
 n:s.n=n
 ne:b≠c
def wi (S:Mem) (c:Nat) (t:TypeId) (j:List Value) (l:List Int):Mem:=S.set c (bw t (fl l++j))
theorem wi_c {S:Mem} {c:Nat} {t:TypeId} {j:List Value} {l:List Int}:wi S c t j l c=some (bw t (fl l++j)):=zO
section
variable {S:Mem} {b o c:Nat} {t:TypeId} {s:Sl} {j:List Value} {l:List Int} {n:Nat}
theorem gE (h:b≠c):(wi S c t j l).cell b o=S.cell b o:=by
 unfold Mem.cell wi;rw[qm h]
theorem zeD {i:Nat} {a:Int} {K:Mem→Prop} (h:i<l.length) (hK:K (wi S c t j (l.set i a))):pt (wi S c t j l) c (0+i*1) 1 (ce a) K:=by
 have hln:=fl_length l
 refine zko (t:=t) (cs:=fl l++j) wi_c (by simp only[List.length_append];omega) ?_
 rw[Nat.zero_add,zkV h]
 simpa [wi] using hK
theorem zaZ {i:Nat} (h:i<l.length):(wi S c t j l).cell c (0+i*1)=some (.int .i64 (gt l i)):=by
 rw[qA wi_c,Nat.zero_add,show i*1=i*1+0 by omega,znz h (by decide)];rfl
theorem zhC {cap:Nat} {x y:Nat} (hx:x<l.length) (hy:y<l.length) (hn:n=l.length) {Q:Bool→Mem→Prop} (hQ:Q (bf (gt l x) (gt l y)) (wi S c t j l)):zaj (wi S c t j l) ⟨some (c,0),n,cap⟩ x y Q:=by
 apply zcO
 unfold vB
 rw[zah]
 refine⟨by omega,by omega,?_⟩
 rw[Int.toNat_natCast,zY (zaZ hx)]
 refine⟨by omega,by omega,?_⟩
 rw[Int.toNat_natCast,zY (zaZ hy)]
 exact hQ
theorem zhq {cap:Nat} {x y:Nat} (hx:x<l.length) (hy:y<l.length) (hn:n=l.length) {Q:Mem→Prop} (hQ:Q (wi S c t j (sw l x y))):zai (wi S c t j l) ⟨some (c,0),n,cap⟩ x y Q:=by
 apply zcM
 unfold vz
 rw[zah]
 refine⟨by omega,by omega,?_⟩
 rw[Int.toNat_natCast,Int.toNat_natCast,zY (zaZ hy)]
 refine⟨by omega,by omega,?_⟩
 rw[zY (zaZ hx)]
 refine⟨by omega,by omega,zeD hx ?_⟩
 refine⟨by omega,by omega,zeD (by simpa using hy) ?_⟩
 exact hQ
abbrev rw_ (b o:Nat):Value:=.iface 205 (.pointer (some ⟨b,o,none⟩))
theorem zaK (hr : Ro S b o c t s l.length) {x y : Nat} (hx : x < l.length) (hy : y < l.length) {R : Value → Mem → Prop} (hR : R (.bool (bf (gt l x) (gt l y))) (wi S c t j l)) : ci Tryz.prog (wi S c t j l) (rw_ b o) "Less" [.int .i64 x, .int .i64 y] R := by
 obtain⟨p,n,cap⟩:=s
 obtain⟨h1,h2,h3,h4⟩:=hr
 simp only at h2 h3
 subst h2;subst h3
 exact znM (v:=eL ⟨some (c,0),l.length,cap⟩) (by rw[gE h4];exact h1) (Tr.mono (zhC hx hy rfl (Q:=fun r S'=>R (.bool r) S') hR) (by rintro v S' ⟨r,rfl,h⟩;exact h))
theorem zcq (hr : Ro S b o c t s l.length) {x y : Nat} (hx : x < l.length) (hy : y < l.length) {R : Value → Mem → Prop} (hR : R (.tuple #[]) (wi S c t j (sw l x y))) : ci Tryz.prog (wi S c t j l) (rw_ b o) "Swap" [.int .i64 x, .int .i64 y] R := by
 obtain⟨p,n,cap⟩:=s
 obtain⟨h1,h2,h3,h4⟩:=hr
 simp only at h2 h3
 subst h2;subst h3
 exact znM (v:=eL ⟨some (c,0),l.length,cap⟩) (by rw[gE h4];exact h1) (Tr.mono (zhq hx hy rfl (Q:=fun S'=>R (.tuple #[]) S') hR) (by rintro v S' ⟨rfl,h⟩;exact h))
theorem zem (hr : S.cell b o = some (eL s)) {R : Value → Mem → Prop} (hR : R (.int .i64 s.n) S) : ci Tryz.prog S (rw_ b o) "Len" [] R :=
 znM hr (Tr.mono (zdr (S:=S) (f:=s) (Q:=fun r S'=>R (.int .i64 r) S') hR) (by rintro v S' ⟨r,rfl,h⟩;exact h))
theorem Ro.len (hr:Ro S b o c t s n) {m:Nat} (h:m=n):Ro S b o c t s m:=h ▸ hr
theorem zbH (hr:Ro S b o c t s l.length) {lo n:Nat} (hn:n≤l.length) (hlo:lo<l.length) (hl:l.length<1000000) (h:HpF bf l n (lo+1)) {Q:Bool→Mem→Prop}
  (hQ:∀ r l',l'.Perm l→HpF bf l' n lo→(∀ k,n≤k→gt l' k=gt l k)→Q r (wi S c t j l')):gY (wi S c t j l) (rw_ b o) lo n Q:=by
 apply zdu
 unfold gg
 simp only[jn]
 refine zX (fun (z:Int) S'=>∃ (i:Nat) (l':List Int),z=(i:Int)∧S'=wi S c t j l'∧l'.Perm l∧Dn bf l' n lo i∧i<l.length∧(∀ k,n≤k→gt l' k=gt l k)) (fun z=>(l.length-z).toNat) ?_
  ⟨lo,l,rfl,rfl,List.Perm.refl _,Dn.start h,hlo,fun _ _=>rfl⟩
 rintro X z S' ⟨i,l',rfl,rfl,hp,hd,hi,hk⟩ ih
 have hlen:=hp.length_eq
 have hr':Ro S b o c t s l'.length:=hr.len hlen
 rw[w64 (x:=2*(i:Int)) (by omega) (by omega),w64 (x:=2*(i:Int)+1) (by omega) (by omega),w64 (x:=2*(i:Int)+1+1) (by omega) (by omega)]
 by_cases h1:(n:Int)≤2*(i:Int)+1
 ·rw[if_pos h1]
  exact hQ _ l' hp (hd.leaf (by omega)) hk
 rw[if_neg h1,if_neg (by omega:¬2*(i:Int)+1<0)]
 have e1:2*(i:Int)+1=((2*i+1:Nat):Int):=by omega
 have e2:2*(i:Int)+1+1=((2*i+2:Nat):Int):=by omega
 rw[e2,e1]
 have rest:∀ jx:Nat,(jx=2*i+1∨jx=2*i+2)→jx<n→(∀ k,k=2*i+1∨k=2*i+2→k<n→bf (gt l' k) (gt l' jx)=false) →
   ci Tryz.prog (wi S c t j l') (rw_ b o) "Less" [.int .i64 (jx : Int), .int .i64 (i : Int)] (fun rv Sx_4 => ∃ t_1 : Bool, rv = .bool t_1 ∧ 
       if t_1=true then
        ci Tryz.prog Sx_4 (rw_ b o) "Swap" [.int .i64 (i : Int), .int .i64 (jx : Int)] fun rv Sx_5 => rv = .tuple #[] ∧ 
        X jx Sx_5
       else
       Q (decide ((lo:Int)<i)) Sx_4):=by
  intro jx hj hjn hm
  refine zaK hr' (by omega) (by omega) ⟨_,rfl,?_⟩
  by_cases hs:bf (gt l' jx) (gt l' i)=true
  ·rw[if_pos hs]
   refine zcq hr' (by omega) (by omega) ⟨rfl,?_⟩
   refine ih _ _ ⟨jx,_,rfl,rfl,(zdF (by omega) (by omega)).trans hp,hd.next bf_ord (by omega) hjn hj hm hs,by omega,fun k hkn=>?_⟩ (by omega)
   rw[zcj (by omega) (by omega),if_neg (by omega),if_neg (by omega)]
   exact hk k hkn
  ·rw[if_neg hs]
   exact hQ _ l' hp (hd.stop bf_ord hm (by simpa using hs)) hk
 by_cases h2:((2*i+2:Nat):Int)<n
 ·rw[if_pos h2]
  refine zaK hr' (by omega) (by omega) ⟨_,rfl,?_⟩
  by_cases hs:bf (gt l' (2*i+2)) (gt l' (2*i+1))=true
  ·rw[if_pos hs]
   refine rest _ (.inr rfl) (by omega) ?_
   rintro k (rfl | rfl) hkn
   ·exact bf_ord.asym _ _ hs
   ·exact zcJ _
  ·rw[if_neg hs]
   refine rest _ (.inl rfl) (by omega) ?_
   rintro k (rfl | rfl) hkn
   ·exact zcJ _
   ·simpa using hs
 ·rw[if_neg h2]
  refine rest _ (.inl rfl) (by omega) ?_
  rintro k (rfl | rfl) hkn
  ·exact zcJ _
  ·omega
theorem zhd (hr:Ro S b o c t s l.length) {x:Nat} (hx:x<l.length) (hl:l.length<1000000) (h:Up bf l x) {Q:Mem→Prop}
  (hQ:∀ l',l'.Perm l→Heap bf l'→Q (wi S c t j l')):zfM (wi S c t j l) (rw_ b o) x Q:=by
 apply zgl
 unfold zbK
 simp only[jn]
 refine zX (fun (z:Int) S'=>∃ (i:Nat) (l':List Int),z=(i:Int)∧S'=wi S c t j l'∧l'.Perm l∧Up bf l' i∧i<l.length) (fun z=>z.toNat) ?_ ⟨x,l,rfl,rfl,List.Perm.refl _,h,hx⟩
 rintro X z S' ⟨i,l',rfl,rfl,hp,hu,hi⟩ ih
 have hlen:=hp.length_eq
 have hr':Ro S b o c t s l'.length:=hr.len hlen
 rw[w64 (x:=(i:Int)-1) (by omega) (by omega)]
 by_cases h0:i=0
 ·subst h0
  rw[if_pos (by decide)]
  exact hQ l' hp hu.top
 have e:IntKind.i64.wrap (Int.tdiv ((i:Int)-1) 2)=(((i-1)/2:Nat):Int):=by
  rw[td (by omega),w64 (by omega) (by omega)];omega
 rw[e,if_neg (by omega)]
 refine zaK hr' (by omega) (by omega) ⟨_,rfl,?_⟩
 by_cases hs:bf (gt l' i) (gt l' ((i-1)/2))=true
 ·rw[if_pos hs]
  refine zcq hr' (by omega) (by omega) ⟨rfl,?_⟩
  exact ih _ _ ⟨_,_,rfl,rfl,(zdF (by omega) (by omega)).trans hp,hu.next bf_ord (by omega) (by omega) hs,by omega⟩ (by omega)
 ·rw[if_neg hs]
  exact hQ l' hp (hu.stop (by simpa using hs))
theorem init_spec (hr:Ro S b o c t s l.length) (hl:l.length<1000000) {Q:Mem→Prop} (hQ:∀ l',l'.Perm l→Heap bf l'→Q (wi S c t j l')):jH (wi S c t j l) (rw_ b o) Q:=by
 apply zav
 unfold kM
 refine zem (s:=s) (by rw[gE hr.ne];exact hr.cell) ⟨_,rfl,?_⟩
 rw[hr.n,td (by omega),w64 (x:=(l.length:Int)/2) (by omega) (by omega),w64 (by omega) (by omega)]
 refine zX (fun (z:Int) S'=>∃ (i:Nat) (l':List Int),z=(i:Int)-1∧S'=wi S c t j l'∧l'.Perm l∧HpF bf l' l.length i∧i≤l.length/2) (fun z=>(z+1).toNat) ?_ ⟨l.length/2,l,by omega,rfl,List.Perm.refl _,HpF.leafs,by omega⟩
 rintro X z S' ⟨i,l',rfl,rfl,hp,hh,hi⟩ ih
 have hlen:=hp.length_eq
 by_cases h0:0≤(i:Int)-1
 ·rw[if_pos h0]
  have e:(i:Int)-1=((i-1:Nat):Int):=by omega
  rw[e]
  refine zbH (hr.len hlen) (by omega) (by omega) (by omega) (by rw[show i-1+1=i by omega];exact hh) fun r l2 hp2 hh2 _=>?_
  rw[w64 (by omega) (by omega)]
  exact ih _ _ ⟨i-1,l2,by omega,rfl,hp2.trans hp,hh2,by omega⟩ (by omega)
 ·rw[if_neg h0]
  have:i=0:=by omega
  subst this
  exact hQ l' hp (by unfold Heap;rw[hlen];exact hh)
end
theorem zfs {S:Mem} {b c:Nat} {k m:Blk} (h:b≠c):(S.set c m).set b k=(S.set b k).set c m:=by
 funext x;simp only[Mem.set]
 by_cases h1:x=b
 ·by_cases h2:x=c
  ·exact absurd (h1.symm.trans h2) h
  ·simp[h1,h]
 ·simp[h1]
def own (s:Sl):List Nat:=match s.p with
 | none=>[]
 | some (c,_)=>[c]
structure Ck (S:Mem) (b o:Nat) (tb:TypeId) (cs:List Value) (s:Sl) (l:List Int):Prop where
 blk:S b=some (bw tb cs)
 cell:nthL cs o=some (eL s)
 row:Row S 1 s (fl l)
 ne:∀ c∈own s,b≠c
 heap:Heap bf l
 len:l.length<100000
section
variable {S:Mem} {b o c:Nat} {tb t:TypeId} {cs j:List Value} {s:Sl} {l:List Int} {cap:Nat}
theorem zki (h:S c=some (bw t (fl l++j))) (hc:l.length≤cap) (hj:j.length=(cap-l.length)*1):Row S 1 ⟨some (c,0),l.length,cap⟩ (fl l):=by
 have hl:=fl_length l
 refine⟨hl,hc,.inr ⟨c,_,rfl,h,rfl,?_,?_⟩⟩
 ·simp only[List.length_append,hl,hj];rw[←Nat.add_mul];congr 1;omega
 ·simp only;rw[List.take_left' hl]
theorem row_open (h:Row S 1 s (fl l)):(s=⟨none,0,0⟩∧l=[])∨∃ c cap t j,s=⟨some (c,0),l.length,cap⟩∧l.length≤cap∧S c=some (bw t (fl l++j))∧j.length=(cap-l.length)*1:=by
 obtain⟨p,n,cp⟩:=s
 have hl:=fl_length l
 have h1:=h.len
 have h2:=h.cap
 simp only at h1 h2
 have hn:n=l.length:=by omega
 subst hn
 rcases h.lie with ⟨h3,h4⟩ | ⟨c,k,h3,h4,h5,h6,h7⟩
 ·simp only at h3 h4
  subst h3;subst h4
  have:l=[]:=List.length_eq_zero_iff.1 (by omega)
  subst this
  exact .inl ⟨rfl,rfl⟩
 ·simp only at h3 h6 h7
  subst h3
  obtain⟨kt,kc,kf⟩:=k
  simp only at h5 h6 h7
  subst h5
  refine .inr ⟨c,cp,kt,kc.drop (l.length*1),rfl,h2,?_,by rw[List.length_drop,h6,Nat.sub_mul]⟩
  rw[←h7,List.take_append_drop];exact h4
theorem Ck.rd (h:Ck S b o tb cs s l):S.cell b o=some (eL s):=by rw[qA h.blk];exact h.cell
theorem own_row {x:Nat} (h:Row S 1 s (fl l)) (hx:x∈own s):∃ k,S x=some k:=by
 rcases row_open h with ⟨rfl,rfl⟩ | ⟨c,cap,t,j,rfl,_,h2,_⟩
 ·simp[own] at hx
 ·simp only[own,List.mem_singleton] at hx;subst hx;exact⟨_,h2⟩
variable {fv:Value}
end
section
variable {S:Mem} {b o c:Nat} {tb t:TypeId} {cs j:List Value} {s:Sl} {l:List Int} {cap:Nat} 
theorem yZ {v w:Value} (h:nthL cs o=some w):nthL (spl cs o [v]) o=some v:=by
 have:=wR h
 rw[qb,jk (by simp;omega),if_pos (by simp)];simp
theorem wi_of (h:S c=some (bw t (fl l++j))):wi S c t j l=S:=zdh h
theorem zjL {k:Blk} (h:b≠c):(wi S c t j l).set b k=wi (S.set b k) c t j l:=zfs h
structure Left' (S S':Mem) (b o:Nat) (tb:TypeId) (cs:List Value) (s s':Sl) (l':List Int):Prop where
 ck:Ck S' b o tb (spl cs o [eL s']) s' l'
 keep:Keeps S S' (b :: own s)
 fresh:∀ x∈own s',x∈own s∨S x=none
 al:Grows S S'
theorem ck_mk {S':Mem} {l':List Int} (hb:S' b=some (bw tb cs)) (hcell:nthL cs o=some (eL ⟨some (c,0),l'.length,cap⟩)) (hc:S' c=some (bw t (fl l'++j))) (hle:l'.length≤cap) (hj:j.length=(cap-l'.length)*1) (hne:b≠c) (hh:Heap bf l') (hl:l'.length<100000) :
  Ck S' b o tb cs ⟨some (c,0),l'.length,cap⟩ l':=⟨hb,hcell,zki hc hle hj,fun x hx=>by simp only[own,List.mem_singleton] at hx;subst hx;exact hne,hh,hl⟩
theorem push_spec (h:Ck S b o tb cs s l) (hl:l.length+1<100000) {a:Int} {Q:Mem→Prop} (hQ:∀ S' s' l',l'.Perm (a :: l)→Left' S S' b o tb cs s s' l'→Q S') :
  gZ S (rw_ b o) (.iface 3 (.int .i64 a)) Q:=by
 apply zdv
 unfold gh
 have hlt:=wR h.cell
 have hlim:(2*(s.n+1)+1024)*8≤281474976710656:=by
  have h1:=h.row.len
  rw[fl_length] at h1
  omega
 refine zpb (t:=205) (Tr.mono (zcN (S:=S) (f:=some (b,o)) (x:=.iface 3 (.int .i64 a)) (Q:=fun S1=>∃ s1,Row S1 1 s1 (fl (l++[a]))∧Keeps S S1 (b :: own s)∧S1 b=some (bw tb (spl cs o [eL s1]))∧(∀ x∈own s1,b≠x)∧(∀ x∈own s1,x∈own s∨S x=none)∧Grows S S1) ?_) ?_)
 ·unfold vA
  rw[qk,jW h.rd]
  refine⟨a,rfl,?_⟩
  refine gr h.row (by simp) (by decide) rfl hlim fun s1 S1 c1 k hn hp1 hor hS1 hrow=>?_
  have hbc:b≠c1:=by
   rcases hor with e | e
   ·exact h.ne c1 (by simp[own,e])
   ·intro e2;subst e2;rw[h.blk] at e;cases e
  have hb1:S1 b=some (bw tb cs):=by rw[hS1,qm hbc];exact h.blk
  refine zko hb1 (by omega) ?_
  have hown:own s1=[c1]:=by simp[own,hp1]
  refine⟨s1,?_,?_,zO,?_,?_,by rw[hS1];exact Grows.refl.set.set⟩
  ·rw[wh]
   refine hrow.keep fun x hx=>?_
   have:x=c1:=by rw[hp1] at hx;cases hx;rfl
   subst this
   rw[qm (fun e=>hbc e.symm)]
  ·intro x hx hw
   rw[qm (fun e=>hw (by simp[e])),hS1]
   rcases hor with e | e
   ·exact qm (fun e2=>hw (by simp[own,e,e2]))
   ·exact qm (fun e2=>hx (by rw[e2];exact e))
  ·rw[hown];intro x hx;rw[List.mem_singleton] at hx;subst hx;exact hbc
  ·rw[hown];intro x hx;rw[List.mem_singleton] at hx;subst hx
   exact hor.imp (fun e=>by simp[own,e]) id
 ·rintro v S1 ⟨rfl,s1,hrow,hk,hb1,hne,hfr,hgr⟩
  refine⟨rfl,?_⟩
  rcases row_open hrow with ⟨rfl,h0⟩ | ⟨c,cap,t,j,rfl,hle,hc,hj⟩
  ·simp at h0
  ·have hcell1:S1.cell b o=some (eL ⟨some (c,0),(l++[a]).length,cap⟩):=by rw[qA hb1];exact yZ h.cell
   have hbc:=hne c (by simp[own])
   refine zem hcell1 ⟨_,rfl,?_⟩
   simp only[List.length_append,List.length_singleton]
   rw[w64 (by omega) (by omega),show ((l.length+1:Nat):Int)-1=(l.length:Int) by omega]
   rw[←wi_of hc]
   refine zhd (s:=⟨some (c,0),(l++[a]).length,cap⟩) ⟨hcell1,rfl,rfl,hbc⟩ (by simp) (by simp;omega) (Up.start h.heap) fun l' hp hh=>?_
   have hlen:=hp.length_eq
   have hx:(⟨some (c,0),(l++[a]).length,cap⟩:Sl)=⟨some (c,0),l'.length,cap⟩:=by rw[hlen]
   rw[hx] at hb1
   refine hQ _ ⟨some (c,0),l'.length,cap⟩ l' (hp.trans (List.perm_append_comm (l₁:=l) (l₂:=[a]))) ⟨ck_mk (by unfold wi;rw[qm hbc];exact hb1) (yZ h.cell) wi_c (by omega) (by rw[hlen];exact hj) hbc hh (by rw[hlen];simp;omega),?_,?_,hgr.set⟩
   ·intro x hx2 hw
    by_cases e:x=c
    ·subst e
     rcases hfr x (by simp[own]) with h3 | h3
     ·exact absurd (List.mem_cons_of_mem _ h3) hw
     ·exact absurd h3 hx2
    ·unfold wi;rw[qm e];exact hk x hx2 hw
   ·intro x hx2;exact hfr x hx2
theorem znw {l:List Int} {n:Nat} (h:l.length=n+1):l=l.take n++[gt l n]:=by
 rw[zfO (by omega),←List.take_succ_eq_append_getElem (by omega),←h,List.take_length]
theorem pop_spec (h:Ck S b o tb cs s l) (h0:l≠[]) {Q:Value→Mem→Prop}
  (hQ:∀ S' s' m l',l.Perm (m :: l')→(∀ x∈l',bf x m=false)→m=gt l 0→own s'=own s→Left' S S' b o tb cs s s' l'→Q (.iface 3 (.int .i64 m)) S'):zfN S (rw_ b o) Q:=by
 apply ziM
 unfold zcA
 have hlt:=wR h.cell
 have hlen:=h.len
 have hpos:=List.length_pos_iff.2 h0
 rcases row_open h.row with ⟨rfl,rfl⟩ | ⟨c,cap,t,j,rfl,hle,hc,hj⟩
 ·exact absurd rfl h0
 ·have hne:b≠c:=h.ne c (by simp[own])
  refine zem h.rd ⟨_,rfl,?_⟩
  simp only
  rw[w64 (by omega) (by omega),show (l.length:Int)-1=((l.length-1:Nat):Int) by omega]
  have hr:Ro S b o c t ⟨some (c,0),l.length,cap⟩ l.length:=⟨h.rd,rfl,rfl,hne⟩
  rw[←wi_of hc]
  have e0:(0:Int)=((0:Nat):Int):=rfl
  rw[e0]
  refine zcq hr (by omega) (by omega) ⟨rfl,?_⟩
  have hsl:(sw l 0 (l.length-1)).length=l.length:=zdG _ _ _
  refine zbH (hr.len hsl) (by omega) (by omega) (by omega) (h.heap.pop (by omega)) fun r l2 hp2 hh2 hk2=>?_
  have hl2:l2.length=l.length:=by rw[hp2.length_eq,hsl]
  have hlast:gt l2 (l.length-1)=gt l 0:=by
   rw[hk2 _ (Nat.le_refl _),zcj (by omega) (by omega),if_pos rfl]
  have hsplit:l2=l2.take (l.length-1)++[gt l2 (l.length-1)]:=znw (by omega)
  have hpl:l.Perm (gt l 0 :: l2.take (l.length-1)):=by
   have h1:l2.Perm l:=hp2.trans (zdF (by omega) (by omega))
   rw[hlast] at hsplit
   have h2:l2.Perm (gt l 0 :: l2.take (l.length-1)):=by
    conv=>lhs;rw[hsplit]
    exact List.perm_append_comm (l₂:=[gt l 0])
   exact h1.symm.trans h2
  have hcell2:(wi S c t j l2).cell b o=some (eL ⟨some (c,0),l.length,cap⟩):=by rw[gE hne];exact h.rd
  refine zpb (t:=205) (Tr.mono (zdq (S:=wi S c t j l2) (f:=some (b,o)) (Q:=fun v S1=>Q v S1) ?_) (by rintro v S1 ⟨r,rfl,h⟩;exact⟨_,rfl,h⟩))
  unfold kJ
  rw[qk,jW hcell2,zah]
  simp only
  rw[w64 (by omega) (by omega),show (l.length:Int)-1=((l.length-1:Nat):Int) by omega]
  refine⟨by omega,by omega,?_⟩
  rw[Int.toNat_natCast,zY (zaZ (by omega)),hlast]
  refine⟨by omega,by omega,?_⟩
  unfold lt
  have e1:slc 1 ⟨some (c,0),l.length,cap⟩ 0 ((l.length-1:Nat):Int)=⟨some (c,0),l.length-1,cap⟩:=by
   simp only[slc]
   rw[if_neg (by simp;omega)];simp
  rw[e1]
  refine zko (t:=tb) (cs:=cs) (by unfold wi;rw[qm hne];exact h.blk) (by omega) ?_
  have htl:(l2.take (l.length-1)).length=l.length-1:=by rw[List.length_take];omega
  have e2:wi S c t j l2=wi S c t (ce (gt l 0)++j) (l2.take (l.length-1)):=by
   unfold wi
   congr 2
   rw[hlast] at hsplit
   conv=>lhs;rw[hsplit,wh]
   simp[fl]
  rw[e2,zjL hne]
  have e3:(⟨some (c,0),l.length-1,cap⟩:Sl)=⟨some (c,0),(l2.take (l.length-1)).length,cap⟩:=by rw[htl]
  rw[e3]
  refine hQ _ ⟨some (c,0),(l2.take (l.length-1)).length,cap⟩ (gt l 0) (l2.take (l.length-1)) hpl ?_ rfl rfl ⟨ck_mk (by unfold wi;rw[qm hne];exact zO) (yZ h.cell) wi_c (by omega) ?_ hne (hh2.take (by omega)) (by omega),?_,fun x hx=>.inl hx,Grows.refl.set.set⟩
  ·intro x hx
   have:x∈l:=hpl.symm.subset (List.mem_cons_of_mem _ hx)
   obtain⟨k,hk,rfl⟩:=List.getElem_of_mem this
   rw[←zfO hk]
   exact h.heap.least bf_ord zcJ k hk
  ·rw[List.length_append,xe,hj,htl,show cap-(l.length-1)=(cap-l.length)+1 by omega,Nat.add_mul];omega
  ·intro x hx hw
   simp only[own,List.mem_cons,List.not_mem_nil,or_false,not_or] at hw
   unfold wi
   rw[qm hw.2,qm hw.1]
end
end Go.Proofs.YtabdpmnhjlmnlaaGreatDoor.Hq
end
