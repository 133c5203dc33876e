/- Texts of this work,joined by program (pack.py). -/
import Derived.Test.YtabdpmnhjlmnlaaGreatDoorQBE
import Derived.Test.YtabdpmnhjlmnlaaGreatDoorQBB
set_option linter.unusedVariables false
section
namespace Go.Proofs.YtabdpmnhjlmnlaaGreatDoor.Hk
open Go Go.Pt Go.Hp
open Go.Proofs.YtabdpmnhjlmnlaaGreatDoor
structure Al where
 tm:Int
 vm:Int
 seat:Int
deriving DecidableEq,Inhabited
def ce (a:Al):List Value:=[.int .u64 a.tm,.int .i64 a.vm,.int .i64 a.seat]
def fl (l:List Al):List Value:=l.flatMap ce
def bf (a b:Al):Bool:=if a.tm≠b.tm then decide (a.tm<b.tm) else if a.vm≠b.vm then decide (a.vm<b.vm) else decide (a.seat<b.seat)
theorem znS {a b:Al}:bf a b=true↔a.tm<b.tm∨(a.tm=b.tm∧(a.vm<b.vm∨(a.vm=b.vm∧a.seat<b.seat))):=by
 unfold bf
 split
 ·simp;omega
 ·split
  ·simp;omega
  ·simp;omega
theorem zpg {a b:Al}:bf a b=false↔¬(a.tm<b.tm∨(a.tm=b.tm∧(a.vm<b.vm∨(a.vm=b.vm∧a.seat<b.seat)))):=by
 rw[←znS];simp
theorem zdO (a:Al):bf a a=false:=by rw[zpg];omega
theorem bf_ord:Ord bf:=⟨fun a b h=>by rw[znS] at h;rw[zpg];omega,fun a b c h1 h2=>by rw[zpg] at *;omega⟩
theorem xL (a:Al):(ce a).length=3:=rfl
theorem zia (a:Al):(ce a).all (·.oneCell')=true:=rfl
theorem fl_length (l:List Al):(fl l).length=l.length*3:=by
 induction l with
 | nil=>rfl
 | cons a l ih=>simp only[fl,List.flatMap_cons,List.length_append,List.length_cons] at *;rw[ih,xL];omega
theorem wV (l r:List Al):fl (l++r)=fl l++fl r:=by simp[fl]
theorem fg {l:List Al} {i:Nat} (h:i<l.length):fl l=fl (l.take i)++(ce (gt l i)++fl (l.drop (i+1))):=by
 have e:l=l.take i++(gt l i :: l.drop (i+1)):=by
  rw[zgW h,List.getElem_cons_drop,List.take_append_drop]
 have e2:fl l=fl (l.take i++(gt l i :: l.drop (i+1))):=congrArg fl e
 rw[e2,wV]
 rfl
theorem ziQ {l:List Al} {j:List Value} {i:Nat} (h:i<l.length):lpart (fl l++j) (i*3) 3=some (ce (gt l i)):=by
 have hln:=fl_length l
 rw[qA (by simp only[List.length_append];omega),fg h]
 have ht:(fl (l.take i)).length=i*3:=by rw[fl_length,List.length_take];omega
 congr 1
 rw[List.append_assoc,List.drop_left' ht,List.append_assoc,List.take_left' (xL _)]
theorem zml {l:List Al} {j:List Value} {i:Nat} {a:Al} (h:i<l.length):spl (fl l++j) (i*3) (ce a)=fl (l.set i a)++j:=by
 have hln:=fl_length l
 rw[xD _ _ _ (by simp only[List.length_append];omega)]
 have ht:(fl (l.take i)).length=i*3:=by rw[fl_length,List.length_take];omega
 have e1:fl (l.set i a)=fl (l.take i)++(ce a++fl (l.drop (i+1))):=by
  rw[List.set_eq_take_append_cons_drop,if_pos h,wV]
  rfl
 have h1:(fl l++j).take (i*3)=fl (l.take i):=by
  rw[fg h,List.append_assoc,List.take_left' ht]
 have h2:(fl l++j).drop (i*3+(ce a).length)=fl (l.drop (i+1))++j:=by
  rw[fg h,xL,←List.drop_drop,List.append_assoc,List.drop_left' ht,List.append_assoc,List.drop_left' (xL _)]
 rw[h1,h2,e1]
 simp
structure Ro (S:Mem) (b o c:Nat) (t:TypeId) (s:Sl) (n:Nat):Prop where
 cell:S.cell b o=some (eL s)
 p:s.p=some (c,0)
 n:s.n=n
 ne:b≠c
def wi (S:Mem) (c:Nat) (t:TypeId) (j:List Value) (l:List Al):Mem:=S.set c (bw t (fl l++j))
theorem wi_c {S:Mem} {c:Nat} {t:TypeId} {j:List Value} {l:List Al}:wi S c t j l c=some (bw t (fl l++j)):=zy
section
variable {S:Mem} {b o c:Nat} {t:TypeId} {s:Sl} {j:List Value} {l:List Al} {n:Nat}
theorem zag (h:b≠c):(wi S c t j l).cell b o=S.cell b o:=by
 unfold Mem.cell wi;rw[qe h]
theorem zjc {S:Mem} {x y:Al} {Q:Bool→Mem→Prop} (hQ:Q (bf x y) S):vu S (ce x) (ce y) Q:=by
 apply zbi
 unfold wy
 refine⟨rfl,rfl,?_⟩
 simp only[jn]
 rw[zB (show nthL (ce x) 0=some (.int .u64 x.tm) from rfl),zB (show nthL (ce y) 0=some (.int .u64 y.tm) from rfl)]
 unfold bf at hQ
 by_cases h1:x.tm≠y.tm
 ·rw[if_pos h1] at hQ ⊢
  rw[zB (show nthL (ce x) 0=some (.int .u64 x.tm) from rfl),zB (show nthL (ce y) 0=some (.int .u64 y.tm) from rfl)]
  exact hQ
 ·rw[if_neg h1] at hQ ⊢
  rw[zB (show nthL (ce x) 1=some (.int .i64 x.vm) from rfl),zB (show nthL (ce y) 1=some (.int .i64 y.vm) from rfl)]
  by_cases h2:x.vm≠y.vm
  ·rw[if_pos h2] at hQ ⊢
   rw[zB (show nthL (ce x) 1=some (.int .i64 x.vm) from rfl),zB (show nthL (ce y) 1=some (.int .i64 y.vm) from rfl)]
   exact hQ
  ·rw[if_neg h2] at hQ ⊢
   rw[zB (show nthL (ce x) 2=some (.int .i64 x.seat) from rfl),zB (show nthL (ce y) 2=some (.int .i64 y.seat) from rfl)]
   exact hQ
theorem zcP {i:Nat} (h:i<l.length):(wi S c t j l).part c (0+i*3) 3=some (ce (gt l i)):=by
 rw[yh wi_c,Nat.zero_add];exact ziQ h
theorem zfS {i:Nat} {a:Al} {K:Mem→Prop} (h:i<l.length) (hK:K (wi S c t j (l.set i a))):pt (wi S c t j l) c (0+i*3) 3 (ce a) K:=by
 have hln:=fl_length l
 refine zkS (t:=t) (cs:=fl l++j) wi_c (by simp only[List.length_append];omega) ?_
 rw[Nat.zero_add,zml h]
 simpa [wi] using hK
theorem ziN {cap:Nat} {x y:Nat} (hx:x<l.length) (hy:y<l.length) (hn:n=l.length) {Q:Bool→Mem→Prop} (hQ:Q (bf (gt l x) (gt l y)) (wi S c t j l)):zbt (wi S c t j l) ⟨some (c,0),n,cap⟩ x y Q:=by
 apply zej
 unfold kO
 rw[jH]
 refine⟨by omega,by omega,?_⟩
 rw[Int.toNat_natCast,gD (zcP hx)]
 refine⟨by omega,by omega,?_⟩
 rw[Int.toNat_natCast,gD (zcP hy)]
 exact zjc hQ
theorem ziu {cap:Nat} {x y:Nat} (hx:x<l.length) (hy:y<l.length) (hn:n=l.length) {Q:Mem→Prop} (hQ:Q (wi S c t j (sw l x y))):zbs (wi S c t j l) ⟨some (c,0),n,cap⟩ x y Q:=by
 apply zeh
 unfold kM
 rw[jH]
 refine⟨by omega,by omega,?_⟩
 rw[Int.toNat_natCast,Int.toNat_natCast,gD (zcP hy)]
 refine⟨by omega,by omega,?_⟩
 rw[gD (zcP hx)]
 refine⟨by omega,by omega,zia _,zfS hx ?_⟩
 refine⟨by omega,by omega,zia _,zfS (by simpa using hy) ?_⟩
 exact hQ
abbrev rw_ (b o:Nat):Value:=.iface 269 (.pointer (some ⟨b,o,none⟩))
theorem zbM (hr : Ro S b o c t s l.length) {x y : Nat} (hx : x < l.length) (hy : y < l.length) {R : Value → Mem → Prop} (hR : R (.bool (bf (gt l x) (gt l y))) (wi S c t j l)) : ci Tryz.prog (wi S c t j l) (rw_ b o) "Less" [.int .i64 x, .int .i64 y] R := by
 obtain⟨p,n,cap⟩:=s
 obtain⟨h1,h2,h3,h4⟩:=hr
 simp only at h2 h3
 subst h2;subst h3
 exact zpk (v:=eL ⟨some (c,0),l.length,cap⟩) (by rw[zag h4];exact h1) (Tr.mono (ziN hx hy rfl (Q:=fun r S'=>R (.bool r) S') hR) (by rintro v S' ⟨r,rfl,h⟩;exact h))
theorem zdr (hr : Ro S b o c t s l.length) {x y : Nat} (hx : x < l.length) (hy : y < l.length) {R : Value → Mem → Prop} (hR : R (.tuple #[]) (wi S c t j (sw l x y))) : ci Tryz.prog (wi S c t j l) (rw_ b o) "Swap" [.int .i64 x, .int .i64 y] R := by
 obtain⟨p,n,cap⟩:=s
 obtain⟨h1,h2,h3,h4⟩:=hr
 simp only at h2 h3
 subst h2;subst h3
 exact zpk (v:=eL ⟨some (c,0),l.length,cap⟩) (by rw[zag h4];exact h1) (Tr.mono (ziu hx hy rfl (Q:=fun S'=>R (.tuple #[]) S') hR) (by rintro v S' ⟨rfl,h⟩;exact h))
theorem zfz (hr : S.cell b o = some (eL s)) {R : Value → Mem → Prop} (hR : R (.int .i64 s.n) S) : ci Tryz.prog S (rw_ b o) "Len" [] R :=
 zpk hr (Tr.mono (zeO (S:=S) (r:=s) (Q:=fun r S'=>R (.int .i64 r) S') hR) (by rintro v S' ⟨r,rfl,h⟩;exact h))
theorem Ro.len (hr:Ro S b o c t s n) {m:Nat} (h:m=n):Ro S b o c t s m:=h ▸ hr
theorem zcH (hr:Ro S b o c t s l.length) {lo n:Nat} (hn:n≤l.length) (hlo:lo<l.length) (hl:l.length<1000000) (h:HpF bf l n (lo+1)) {Q:Bool→Mem→Prop}
  (hQ:∀ r l',l'.Perm l→HpF bf l' n lo→(∀ k,n≤k→gt l' k=gt l k)→Q r (wi S c t j l')):zaz (wi S c t j l) (rw_ b o) lo n Q:=by
 apply zeD
 unfold fF
 simp only[jn]
 refine zM (fun (z:Int) S'=>∃ (i:Nat) (l':List Al),z=(i:Int)∧S'=wi S c t j l'∧l'.Perm l∧Dn bf l' n lo i∧i<l.length∧(∀ k,n≤k→gt l' k=gt l k)) (fun z=>(l.length-z).toNat) ?_
  ⟨lo,l,rfl,rfl,List.Perm.refl _,Dn.start h,hlo,fun _ _=>rfl⟩
 rintro X z S' ⟨i,l',rfl,rfl,hp,hd,hi,hk⟩ ih
 have hlen:=hp.length_eq
 have hr':Ro S b o c t s l'.length:=hr.len hlen
 rw[w64 (x:=2*(i:Int)) (by omega) (by omega),w64 (x:=2*(i:Int)+1) (by omega) (by omega),w64 (x:=2*(i:Int)+1+1) (by omega) (by omega)]
 by_cases h1:(n:Int)≤2*(i:Int)+1
 ·rw[if_pos h1]
  exact hQ _ l' hp (hd.leaf (by omega)) hk
 rw[if_neg h1,if_neg (by omega:¬2*(i:Int)+1<0)]
 have e1:2*(i:Int)+1=((2*i+1:Nat):Int):=by omega
 have e2:2*(i:Int)+1+1=((2*i+2:Nat):Int):=by omega
 rw[e2,e1]
 have rest:∀ jx:Nat,(jx=2*i+1∨jx=2*i+2)→jx<n→(∀ k,k=2*i+1∨k=2*i+2→k<n→bf (gt l' k) (gt l' jx)=false) →
   ci Tryz.prog (wi S c t j l') (rw_ b o) "Less" [.int .i64 (jx : Int), .int .i64 (i : Int)] (fun rv Sx_4 => ∃ t_1 : Bool, rv = .bool t_1 ∧ 
       if t_1=true then
        ci Tryz.prog Sx_4 (rw_ b o) "Swap" [.int .i64 (i : Int), .int .i64 (jx : Int)] fun rv Sx_5 => rv = .tuple #[] ∧ 
        X jx Sx_5
       else
       Q (decide ((lo:Int)<i)) Sx_4):=by
  intro jx hj hjn hm
  refine zbM hr' (by omega) (by omega) ⟨_,rfl,?_⟩
  by_cases hs:bf (gt l' jx) (gt l' i)=true
  ·rw[if_pos hs]
   refine zdr hr' (by omega) (by omega) ⟨rfl,?_⟩
   refine ih _ _ ⟨jx,_,rfl,rfl,(zeP (by omega) (by omega)).trans hp,hd.next bf_ord (by omega) hjn hj hm hs,by omega,fun k hkn=>?_⟩ (by omega)
   rw[zdl (by omega) (by omega),if_neg (by omega),if_neg (by omega)]
   exact hk k hkn
  ·rw[if_neg hs]
   exact hQ _ l' hp (hd.stop bf_ord hm (by simpa using hs)) hk
 by_cases h2:((2*i+2:Nat):Int)<n
 ·rw[if_pos h2]
  refine zbM hr' (by omega) (by omega) ⟨_,rfl,?_⟩
  by_cases hs:bf (gt l' (2*i+2)) (gt l' (2*i+1))=true
  ·rw[if_pos hs]
   refine rest _ (.inr rfl) (by omega) ?_
   rintro k (rfl | rfl) hkn
   ·exact bf_ord.asym _ _ hs
   ·exact zdO _
  ·rw[if_neg hs]
   refine rest _ (.inl rfl) (by omega) ?_
   rintro k (rfl | rfl) hkn
   ·exact zdO _
   ·simpa using hs
 ·rw[if_neg h2]
  refine rest _ (.inl rfl) (by omega) ?_
  rintro k (rfl | rfl) hkn
  ·exact zdO _
  ·omega
theorem zii (hr:Ro S b o c t s l.length) {x:Nat} (hx:x<l.length) (hl:l.length<1000000) (h:Up bf l x) {Q:Mem→Prop}
  (hQ:∀ l',l'.Perm l→Heap bf l'→Q (wi S c t j l')):zgU (wi S c t j l) (rw_ b o) x Q:=by
 apply zhq
 unfold zcL
 simp only[jn]
 refine zM (fun (z:Int) S'=>∃ (i:Nat) (l':List Al),z=(i:Int)∧S'=wi S c t j l'∧l'.Perm l∧Up bf l' i∧i<l.length) (fun z=>z.toNat) ?_ ⟨x,l,rfl,rfl,List.Perm.refl _,h,hx⟩
 rintro X z S' ⟨i,l',rfl,rfl,hp,hu,hi⟩ ih
 have hlen:=hp.length_eq
 have hr':Ro S b o c t s l'.length:=hr.len hlen
 rw[w64 (x:=(i:Int)-1) (by omega) (by omega)]
 by_cases h0:i=0
 ·subst h0
  rw[if_pos (by decide)]
  exact hQ l' hp hu.top
 have e:IntKind.i64.wrap (Int.tdiv ((i:Int)-1) 2)=(((i-1)/2:Nat):Int):=by
  rw[td (by omega),w64 (by omega) (by omega)];omega
 rw[e,if_neg (by omega)]
 refine zbM hr' (by omega) (by omega) ⟨_,rfl,?_⟩
 by_cases hs:bf (gt l' i) (gt l' ((i-1)/2))=true
 ·rw[if_pos hs]
  refine zdr hr' (by omega) (by omega) ⟨rfl,?_⟩
  exact ih _ _ ⟨_,_,rfl,rfl,(zeP (by omega) (by omega)).trans hp,hu.next bf_ord (by omega) (by omega) hs,by omega⟩ (by omega)
 ·rw[if_neg hs]
  exact hQ l' hp (hu.stop (by simpa using hs))
theorem init_spec (hr:Ro S b o c t s l.length) (hl:l.length<1000000) {Q:Mem→Prop} (hQ:∀ l',l'.Perm l→Heap bf l'→Q (wi S c t j l')):gC (wi S c t j l) (rw_ b o) Q:=by
 apply zbz
 unfold jv
 refine zfz (s:=s) (by rw[zag hr.ne];exact hr.cell) ⟨_,rfl,?_⟩
 rw[hr.n,td (by omega),w64 (x:=(l.length:Int)/2) (by omega) (by omega),w64 (by omega) (by omega)]
 refine zM (fun (z:Int) S'=>∃ (i:Nat) (l':List Al),z=(i:Int)-1∧S'=wi S c t j l'∧l'.Perm l∧HpF bf l' l.length i∧i≤l.length/2) (fun z=>(z+1).toNat) ?_ ⟨l.length/2,l,by omega,rfl,List.Perm.refl _,HpF.leafs,by omega⟩
 rintro X z S' ⟨i,l',rfl,rfl,hp,hh,hi⟩ ih
 have hlen:=hp.length_eq
 by_cases h0:0≤(i:Int)-1
 ·rw[if_pos h0]
  have e:(i:Int)-1=((i-1:Nat):Int):=by omega
  rw[e]
  refine zcH (hr.len hlen) (by omega) (by omega) (by omega) (by rw[show i-1+1=i by omega];exact hh) fun r l2 hp2 hh2 _=>?_
  rw[w64 (by omega) (by omega)]
  exact ih _ _ ⟨i-1,l2,by omega,rfl,hp2.trans hp,hh2,by omega⟩ (by omega)
 ·rw[if_neg h0]
  have:i=0:=by omega
  subst this
  exact hQ l' hp (by unfold Heap;rw[hlen];exact hh)
end
open Go Go.Pt Go.Hp
open Go.Proofs.YtabdpmnhjlmnlaaGreatDoor
theorem zgE {S:Mem} {b c:Nat} {k m:Blk} (h:b≠c):(S.set c m).set b k=(S.set b k).set c m:=by
 funext x;simp only[Mem.set]
 by_cases h1:x=b
 ·by_cases h2:x=c
  ·exact absurd (h1.symm.trans h2) h
  ·simp[h1,h]
 ·simp[h1]
def own (s:Sl):List Nat:=match s.p with
 | none=>[]
 | some (c,_)=>[c]
structure Ck (S:Mem) (b o:Nat) (tb:TypeId) (cs:List Value) (s:Sl) (l:List Al):Prop where
 blk:S b=some (bw tb cs)
 cell:nthL cs o=some (eL s)
 row:Row S 3 s (fl l)
 ne:∀ c∈own s,b≠c
 heap:Heap bf l
 len:l.length<100000
section
variable {S:Mem} {b o c:Nat} {tb t:TypeId} {cs j:List Value} {s:Sl} {l:List Al} {cap:Nat}
theorem zlx (h:S c=some (bw t (fl l++j))) (hc:l.length≤cap) (hj:j.length=(cap-l.length)*3):Row S 3 ⟨some (c,0),l.length,cap⟩ (fl l):=by
 have hl:=fl_length l
 refine⟨hl,hc,.inr ⟨c,_,rfl,h,rfl,?_,?_⟩⟩
 ·simp only[List.length_append,hl,hj];rw[←Nat.add_mul];congr 1;omega
 ·simp only;rw[List.take_left' hl]
theorem row_open (h:Row S 3 s (fl l)):(s=⟨none,0,0⟩∧l=[])∨∃ c cap t j,s=⟨some (c,0),l.length,cap⟩∧l.length≤cap∧S c=some (bw t (fl l++j))∧j.length=(cap-l.length)*3:=by
 obtain⟨p,n,cp⟩:=s
 have hl:=fl_length l
 have h1:=h.len
 have h2:=h.cap
 simp only at h1 h2
 have hn:n=l.length:=by omega
 subst hn
 rcases h.lie with ⟨h3,h4⟩ | ⟨c,k,h3,h4,h5,h6,h7⟩
 ·simp only at h3 h4
  subst h3;subst h4
  have:l=[]:=List.length_eq_zero_iff.1 (by omega)
  subst this
  exact .inl ⟨rfl,rfl⟩
 ·simp only at h3 h6 h7
  subst h3
  obtain⟨kt,kc,kf⟩:=k
  simp only at h5 h6 h7
  subst h5
  refine .inr ⟨c,cp,kt,kc.drop (l.length*3),rfl,h2,?_,by rw[List.length_drop,h6,Nat.sub_mul]⟩
  rw[←h7,List.take_append_drop];exact h4
theorem Ck.rd (h:Ck S b o tb cs s l):S.cell b o=some (eL s):=by rw[qo h.blk];exact h.cell
theorem own_row {x:Nat} (h:Row S 3 s (fl l)) (hx:x∈own s):∃ k,S x=some k:=by
 rcases row_open h with ⟨rfl,rfl⟩ | ⟨c,cap,t,j,rfl,_,h2,_⟩
 ·simp[own] at hx
 ·simp only[own,List.mem_singleton] at hx;subst hx;exact⟨_,h2⟩
theorem zmQ {S':Mem} {W:List Nat} (h:Row S 3 s (fl l)) (hk:Keeps S S' W) (hw:∀ x∈own s,x∉W):Row S' 3 s (fl l):=by
 refine h.keep fun c hc=>hk c ?_ (hw c (by simp[own,hc]))
 obtain⟨k,hk⟩:=own_row h (show c∈own s by simp[own,hc])
 simp[hk]
theorem Ck.keep {S':Mem} {W:List Nat} (h:Ck S b o tb cs s l) (hk:Keeps S S' W) (hb:b∉W) (hw:∀ x∈own s,x∉W):Ck S' b o tb cs s l:=
 ⟨hk.get h.blk hb,h.cell,zmQ h.row hk hw,h.ne,h.heap,h.len⟩
def Tells (S:Mem) (W:List Nat) (fv:Value) (p:Al→Bool):Prop:=∀ S' a (R:Value→Mem→Prop),Keeps S S' W→R (.bool (p a)) S'→cv Tryz.prog S' fv [valL (ce a)] R
variable {fv:Value} {p:Al→Bool}
theorem zjk {l':List Al} {j':List Value}:Keeps S (wi S c t j' l') [c]:=fun x _ hw=>qe (by simpa using hw)
theorem zkz (hf:Tells S [c] fv p) (hl:l.length<100000) {Q:Int→Mem→Prop} (h1:∀ i,i<l.length→(∀ k,k<i→p (gt l k)=false)→p (gt l i)=true→Q i (wi S c t j l)) (h2:(∀ k,k<l.length→p (gt l k)=false)→Q (-1) (wi S c t j l)) :
  zW (wi S c t j l) ⟨some (c,0),l.length,cap⟩ fv Q:=by
 apply qG
 unfold zP
 simp only[jn]
 refine zM (fun (z:Int) S'=>∃ (i:Nat),z=(i:Int)∧S'=wi S c t j l∧i≤l.length∧∀ k,k<i→p (gt l k)=false) (fun z=>(l.length-z).toNat) ?_ ⟨0,rfl,rfl,by omega,fun k hk=>by omega⟩
 rintro X z S' ⟨i,rfl,rfl,hi,hk⟩ ih
 by_cases h:(i:Int)<(l.length:Int)
 ·rw[if_pos h,jH]
  refine⟨by omega,h,?_⟩
  rw[Int.toNat_natCast,gD (zcP (by omega))]
  refine hf _ _ _ zjk ⟨_,rfl,?_⟩
  by_cases hp:p (gt l i)=true
  ·rw[if_pos hp];exact h1 i (by omega) hk hp
  ·rw[if_neg hp,w64 (by omega) (by omega)]
   refine ih _ _ ⟨i+1,by omega,rfl,by omega,fun k hk2=>?_⟩ (by omega)
   by_cases e:k=i
   ·subst e;simpa using hp
   ·exact hk k (by omega)
 ·rw[if_neg h]
  exact h2 fun k hk2=>hk k (by omega)
theorem zgn {l:List Al} {q:Al→Bool} (h:∀ k,k<l.length→q (gt l k)=true):l.filter q=l:=by
 rw[List.filter_eq_self]
 intro a ha
 obtain⟨k,hk,rfl⟩:=List.getElem_of_mem ha
 have:=h k hk
 rwa [zgW hk] at this
theorem fO {l:List Al} {q:Al→Bool} {k:Nat} (h:k<l.length):(l.take (k+1)).filter q=(l.take k).filter q++(if q (gt l k)=true then [gt l k] else []):=by
 rw[List.take_succ_eq_append_getElem h,List.filter_append,zgW h]
 congr 1
 by_cases hq:q l[k]=true <;> simp[hq]
theorem zbk (m:Nat):(zrep m [.int .u64 0,.int .i64 0,.int .i64 0]).length=m*3:=by rw[ja];rfl
theorem ziU (hf:Tells S [c] fv p) (hl:l.length<100000) (hc:l.length≤cap) (hj:j.length=(cap-l.length)*3) {Q:Sl→Mem→Prop}
  (hQ:∀ l' j',l'=l.filter (fun a=>! p a)→l'.length≤cap→j'.length=(cap-l'.length)*3→Q ⟨some (c,0),l'.length,cap⟩ (wi S c t j' l')) :
  zT (wi S c t j l) ⟨some (c,0),l.length,cap⟩ fv Q:=by
 apply qD
 unfold zN
 refine zkz hf hl (fun i0 hi0 hlow hpi=>?_) fun hno=>?_
 ·simp only[jn]
  rw[if_neg (by omega),w64 (by omega) (by omega)]
  refine zM (fun (z:Int×Int) S'=>∃ (i k:Nat) (l':List Al),z.1=(i:Int)∧z.2=(k:Int)∧S'=wi S c t j l'∧i<k∧k≤l.length∧l'.length=l.length∧l'.take i=(l.take k).filter (fun a=>! p a)∧l'.drop k=l.drop k) (fun z=>(l.length-z.2).toNat) ?_
   ⟨i0,i0+1,l,rfl,by simp,rfl,by omega,by omega,rfl,?_,rfl⟩
  ·rintro X ⟨z1,z2⟩ S' ⟨i,k,l',e1,e2,rfl,hik,hk,hlen,ht,hd⟩ ih
   dsimp only at e1 e2 ih ⊢
   subst e1;subst e2
   by_cases hkn:(k:Int)<(l.length:Int)
   ·rw[if_pos hkn,jH]
    refine⟨by omega,hkn,?_⟩
    rw[Int.toNat_natCast,gD (zcP (by omega))]
    have hgk:gt l' k=gt l k:=by
     have h1:l'[k]? = l[k]?:=by
      have:=congrArg (fun x=>x[0]?) hd
      simpa using this
     simp[gt,List.getD_eq_getElem?_getD,h1]
    refine⟨zia _,hf _ _ _ zjk ⟨_,rfl,?_⟩⟩
    have hdr:l'.drop (k+1)=l.drop (k+1):=by rw[←List.drop_drop,←List.drop_drop,hd]
    by_cases hp:p (gt l' k)=true
    ·rw[if_pos hp,w64 (by omega) (by omega)]
     refine ih _ _ ⟨i,k+1,l',rfl,by simp,rfl,by omega,by omega,hlen,?_,hdr⟩ (by simp only;omega)
     rw[fO (by omega),←hgk,hp,ht];simp
    ·rw[if_neg hp]
     refine⟨by omega,by omega,zia _,?_⟩
     rw[Int.toNat_natCast]
     refine zfS (by omega) ?_
     rw[w64 (by omega) (by omega),w64 (by omega) (by omega)]
     refine ih _ _ ⟨i+1,k+1,l'.set i (gt l' k),by simp,by simp,rfl,by omega,by omega,by simpa using hlen,?_,?_⟩ (by simp only;omega)
     ·rw[fO (by omega),←hgk,←ht]
      simp only[Bool.not_eq_true] at hp
      rw[hp,List.take_succ_eq_append_getElem (by simp;omega),List.take_set_of_le (by omega)]
      simp
     ·rw[List.drop_set_of_lt (by omega)];exact hdr
   ·rw[if_neg hkn]
    have hkl:k=l.length:=by omega
    subst hkl
    have htl:(l.take l.length).filter (fun a=>! p a)=l.filter (fun a=>! p a):=by rw[List.take_length]
    rw[htl] at ht
    have hil:(l'.take i).length=i:=by rw[List.length_take];omega
    refine⟨by omega,by omega,by omega,?_⟩
    unfold lt clr
    refine .inr ⟨c,0+i*3,?_,?_,?_⟩
    ·simp only[slc,Int.toNat_natCast]
     rw[if_neg (by omega)]
     rfl
    ·refine⟨_,wi_c,rfl,?_⟩
     have:=fl_length l'
     simp only[slc,List.length_append];omega
    ·refine⟨by omega,by omega,?_⟩
     have e0:slc 3 ⟨some (c,0),l.length,cap⟩ 0 (i:Int)=⟨some (c,0),i,cap⟩:=by
      simp only[slc]
      by_cases hcap:cap=0
      ·omega
      ·rw[if_neg (by simpa using hcap)];simp
     have e1:(wi S c t j l').put c (0+i*3) (zrep (slc 3 ⟨some (c,0),l.length,cap⟩ (i:Int) (l.length:Int)).n [.int .u64 0,.int .i64 0,.int .i64 0])=wi S c t (zrep (l.length-i) [.int .u64 0,.int .i64 0,.int .i64 0]++j) (l'.take i):=by
      have hz:(slc 3 ⟨some (c,0),l.length,cap⟩ (i:Int) (l.length:Int)).n=l.length-i:=by simp only[slc];omega
      have hfl:=fl_length l'
      rw[hz,kR wi_c,Nat.zero_add,xD _ _ _ (by simp only[List.length_append];omega),zbk]
      unfold wi
      rw[set_set]
      congr 2
      have hs:fl l'=fl (l'.take i)++fl (l'.drop i):=by rw[←wV,List.take_append_drop]
      have h3:(fl (l'.take i)).length=i*3:=by rw[fl_length,hil]
      have h4:(fl (l'.drop i)).length=(l.length-i)*3:=by rw[fl_length,List.length_drop,hlen]
      have h5:(fl l'++j).take (i*3)=fl (l'.take i):=by rw[hs,List.append_assoc,List.take_left' h3]
      have h6:(fl l'++j).drop (i*3+(l.length-i)*3)=j:=by
       rw[hs,←List.drop_drop,List.append_assoc,List.drop_left' h3,List.drop_left' h4]
      simp only
      rw[h5,h6,List.append_assoc]
     rw[e0,e1]
     have:=hQ (l'.take i) (zrep (l.length-i) [.int .u64 0,.int .i64 0,.int .i64 0]++j) ht (by omega) (by rw[List.length_append,zbk,hj,hil,←Nat.add_mul];congr 1;omega)
     rwa [hil] at this
  ·rw[List.take_succ_eq_append_getElem hi0,List.filter_append]
   rw[zgW hi0] at hpi
   simp only[List.filter_cons,hpi,List.filter_nil]
   have:(l.take i0).filter (fun a=>! p a)=l.take i0:=by
    refine zgn fun k hk=>?_
    rw[List.length_take] at hk
    have e:gt (l.take i0) k=gt l k:=by simp[gt,List.getD_eq_getElem?_getD,(by omega:k<i0)]
    rw[e,hlow k (by omega)];rfl
   rw[this];simp
 ·simp only[jn]
  rw[if_pos trivial]
  have e:l.filter (fun a=>! p a)=l:=zgn fun k hk=>by rw[hno k hk];rfl
  exact hQ l j e.symm hc hj
end
open Go Go.Pt Go.Hp
open Go.Proofs.YtabdpmnhjlmnlaaGreatDoor
theorem zhw:∀ {cs:List Value} {o:Nat} {v:Value},nthL cs o=some v→spl cs o [v]=cs
 | [],_,_,h=>by simp[nthL] at h
 | x :: cs,0,v,h=>by simp only[nthL,Option.some.injEq] at h;subst h;simp[spl]
 | x :: cs,n+1,v,h=>by simp only[nthL] at h;simp only[spl,zhw h]
theorem zjl:∀ {cs:List Value} {o:Nat} {v w:Value},o<cs.length→spl (spl cs o [v]) o [w]=spl cs o [w]
 | [],_,_,_,h=>by simp at h
 | x :: cs,0,v,w,h=>by simp[spl]
 | x :: cs,n+1,v,w,h=>by simp only[spl];rw[zjl (by simpa using h)]
theorem zmf {S:Mem} (fv:Value) {Q:Int→Mem→Prop} (hQ:Q (-1) S):zW S ⟨none,0,0⟩ fv Q:=by
 apply qG
 unfold zP
 simp only[jn]
 refine zM (fun (z:Int) S'=>z=0∧S'=S) (fun _=>0) ?_ ⟨rfl,rfl⟩
 rintro X z S' ⟨rfl,rfl⟩ ih
 rw[if_neg (by simp)]
 exact hQ
theorem zkF {S:Mem} (fv:Value) {Q:Sl→Mem→Prop} (hQ:Q ⟨none,0,0⟩ S):zT S ⟨none,0,0⟩ fv Q:=by
 apply qD
 unfold zN
 refine zmf fv ?_
 simp only[jn]
 rw[if_pos trivial]
 exact hQ
theorem znr {S:Mem} {b o:Nat} (hc:S.cell b o=some (.slice none 0 0)) {Q:Mem→Prop} (hQ:Q S):gC S (rw_ b o) Q:=by
 apply zbz
 unfold jv
 refine zfz (s:=⟨none,0,0⟩) hc ⟨0,rfl,?_⟩
 refine zM (fun (z:Int) S'=>z = -1∧S'=S) (fun _=>0) ?_ ⟨rfl,rfl⟩
 rintro X z S' ⟨rfl,rfl⟩ ih
 rw[if_neg (by decide)]
 exact hQ
section
variable {S:Mem} {b o c:Nat} {tb t:TypeId} {cs j:List Value} {s:Sl} {l:List Al} {cap:Nat} {fv:Value} {p:Al→Bool}
theorem xC {v w:Value} (h:nthL cs o=some w):nthL (spl cs o [v]) o=some v:=by
 have:=vB h
 rw[zK,jU (by simp;omega),if_pos (by simp)];simp
theorem wi_of (h:S c=some (bw t (fl l++j))):wi S c t j l=S:=zcu h
theorem zkX {k:Blk} (h:b≠c):(wi S c t j l).set b k=wi (S.set b k) c t j l:=zgE h
structure Left' (S S':Mem) (b o:Nat) (tb:TypeId) (cs:List Value) (s s':Sl) (l':List Al):Prop where
 ck:Ck S' b o tb (spl cs o [eL s']) s' l'
 keep:Keeps S S' (b :: own s)
 fresh:∀ x∈own s',x∈own s∨S x=none
 al:Grows S S'
theorem ck_mk {S':Mem} {l':List Al} (hb:S' b=some (bw tb cs)) (hcell:nthL cs o=some (eL ⟨some (c,0),l'.length,cap⟩)) (hc:S' c=some (bw t (fl l'++j))) (hle:l'.length≤cap) (hj:j.length=(cap-l'.length)*3) (hne:b≠c) (hh:Heap bf l') (hl:l'.length<100000) :
  Ck S' b o tb cs ⟨some (c,0),l'.length,cap⟩ l':=⟨hb,hcell,zlx hc hle hj,fun x hx=>by simp only[own,List.mem_singleton] at hx;subst hx;exact hne,hh,hl⟩
theorem zmm (h:Ck S b o tb cs s l) (hf:Tells S (b :: own s) fv p) {Q:Mem→Prop} (hQ:∀ S' s' l',l'.Perm (l.filter fun a=>! p a)→Left' S S' b o tb cs s s' l'→Q S'):kP S (some (b,o)) fv Q:=by
 apply zcs
 unfold vq
 rw[if_pos (by simp),zV,wc h.rd]
 rcases row_open h.row with ⟨rfl,rfl⟩ | ⟨c,cap,t,j,rfl,hle,hc,hj⟩
 ·refine zkF fv ?_
  have hlt:=vB h.cell
  refine zkS h.blk (by omega) ?_
  have e:spl cs o [eL ⟨none,0,0⟩]=cs:=zhw h.cell
  rw[e,zcu h.blk]
  refine znr h.rd (hQ S ⟨none,0,0⟩ [] (List.Perm.refl _) ⟨by rw[e];exact h,Keeps.refl,fun x hx=>.inl hx,Grows.refl⟩)
 ·have hne:b≠c:=h.ne c (by simp[own])
  have hlen:=h.len
  have hlt:=vB h.cell
  rw[←wi_of hc]
  refine ziU (fun S' a R hk hR=>hf S' a R (hk.wider (by simp[own])) hR) hlen hle hj fun l' j' hl' hle' hj'=>?_
  have hfl:l'.length≤l.length:=by rw[hl'];exact List.length_filter_le _ _
  refine zkS (t:=tb) (cs:=cs) (by unfold wi;rw[qe hne];exact h.blk) (by omega) ?_
  rw[zkX hne]
  have hb':(S.set b (bw tb (spl cs o [eL ⟨some (c,0),l'.length,cap⟩]))) b=some (bw tb (spl cs o [eL ⟨some (c,0),l'.length,cap⟩])):=zy
  refine init_spec (s:=⟨some (c,0),l'.length,cap⟩) ⟨by rw[qo hb'];exact xC h.cell,rfl,rfl,hne⟩ (by omega) fun l2 hp hh=>?_
  have hlen2:=hp.length_eq
  have hx:(⟨some (c,0),l'.length,cap⟩:Sl)=⟨some (c,0),l2.length,cap⟩:=by rw[hlen2]
  rw[hx]
  refine hQ _ ⟨some (c,0),l2.length,cap⟩ l2 (hl' ▸ hp) ⟨ck_mk (by unfold wi;rw[qe hne];exact zy) (xC h.cell) wi_c (by omega) (by rw[hlen2];exact hj') hne hh (by omega),?_,fun x hx=>.inl hx,Grows.refl.set.set⟩
  intro x hx hw
  simp only[own,List.mem_cons,List.not_mem_nil,or_false,not_or] at hw
  unfold wi
  rw[qe hw.2,qe hw.1]
theorem Left'.of {S1 S':Mem} {s':Sl} {l':List Al} (h:Left' S1 S' b o tb cs s s' l') (hk:Keeps S S1 []):Left' S S' b o tb cs s s' l':=
 ⟨h.ck,(hk.wider (by simp)).trans h.keep,fun x hx=>(h.fresh x hx).imp id fun e=>(by
  cases hs:S x with
  | none=>rfl
  | some k=>have:=hk.get hs (by simp);rw[e] at this;cases this),(Grows.keeps hk).trans h.al⟩
theorem not_own {x:Nat} (h:Ck S b o tb cs s l) (hx:S x=none):x∉b :: own s:=by
 intro hm
 rcases List.mem_cons.1 hm with rfl | hm
 ·rw[h.blk] at hx;cases hx
 ·obtain⟨k,hk⟩:=own_row h.row hm;rw[hk] at hx;cases hx
theorem zkE (h:Ck S b o tb cs s l) {vm seat:Int} {Q:Mem→Prop} (hQ:∀ S' s' l',l'.Perm (l.filter fun a=>! (decide (a.vm=vm) && decide (a.seat=seat)))→Left' S S' b o tb cs s s' l'→Q S'):kQ S (some (b,o)) vm seat Q:=by
 apply zct
 unfold vr
 intro b1 hb1 b2 hb2
 have hk1:Keeps S (S.set b1 (bw 3 [.int .i64 vm])) []:=Keeps.refl.new hb1
 have hk2:Keeps (S.set b1 (bw 3 [.int .i64 vm])) ((S.set b1 (bw 3 [.int .i64 vm])).set b2 (bw 3 [.int .i64 seat])) []:=Keeps.refl.new hb2
 have h1:=h.keep hk1 (by simp) (by simp)
 have h2:=h1.keep hk2 (by simp) (by simp)
 have n12:b1≠b2:=fun e=>by subst e;simp at hb2
 refine zmm h2 (p:=fun a=>decide (a.vm=vm) && decide (a.seat=seat)) ?_ fun S' s' l' hp hL=>hQ S' s' l' hp (hL.of (hk1.trans hk2))
 intro S' a R hk hR
 have g1:S' b1=some (bw 3 [.int .i64 vm]):=hk.get (by rw[qe n12];exact zy) (not_own h hb1)
 have g2:S' b2=some (bw 3 [.int .i64 seat]):=hk.get zy (not_own h1 hb2)
 refine⟨_,[],[_,_],rfl,inferInstance,Tr.mono (zas (S:=S') (a:=ce a) (t:=some (b1,0)) (t_1:=some (b2,0)) (Q:=fun r S2=>R (.bool r) S2) ?_) (by rintro v S2 ⟨r,rfl,h⟩;exact h)⟩
 unfold xX
 refine⟨rfl,?_⟩
 rw[zB (show nthL (ce a) 1=some (.int .i64 a.vm) from rfl),zV,zB (by rw[qo g1];rfl)]
 by_cases e:a.vm=vm
 ·rw[if_pos e,zB (show nthL (ce a) 2=some (.int .i64 a.seat) from rfl),zV,zB (by rw[qo g2];rfl)]
  simpa [e] using hR
 ·rw[if_neg e]
  simpa [e] using hR
theorem push_spec (h:Ck S b o tb cs s l) (hl:l.length+1<100000) {a:Al} {Q:Mem→Prop} (hQ:∀ S' s' l',l'.Perm (a :: l)→Left' S S' b o tb cs s s' l'→Q S') :
  zaA S (rw_ b o) (.iface 193 (valL (ce a))) Q:=by
 apply zeE
 unfold fG
 have hlt:=vB h.cell
 have hlim:(2*(s.n+1)+1024)*24≤281474976710656:=by
  have h1:=h.row.len
  rw[fl_length] at h1
  omega
 refine zry (t:=269) (Tr.mono (zei (S:=S) (r:=some (b,o)) (x:=.iface 193 (valL (ce a))) (Q:=fun S1=>∃ s1,Row S1 3 s1 (fl (l++[a]))∧Keeps S S1 (b :: own s)∧S1 b=some (bw tb (spl cs o [eL s1]))∧(∀ x∈own s1,b≠x)∧(∀ x∈own s1,x∈own s∨S x=none)∧Grows S S1) ?_) ?_)
 ·unfold kN
  rw[zV,wc h.rd]
  refine⟨ce a,rfl,rfl,zia _,?_⟩
  refine jR h.row (by simp[xL]) (by decide) rfl hlim fun s1 S1 c1 k hn hp1 hor hS1 hrow=>?_
  have hbc:b≠c1:=by
   rcases hor with e | e
   ·exact h.ne c1 (by simp[own,e])
   ·intro e2;subst e2;rw[h.blk] at e;cases e
  have hb1:S1 b=some (bw tb cs):=by rw[hS1,qe hbc];exact h.blk
  refine zkS hb1 (by omega) ?_
  have hown:own s1=[c1]:=by simp[own,hp1]
  refine⟨s1,?_,?_,zy,?_,?_,by rw[hS1];exact Grows.refl.set.set⟩
  ·rw[wV]
   refine hrow.keep fun x hx=>?_
   have:x=c1:=by rw[hp1] at hx;cases hx;rfl
   subst this
   rw[qe (fun e=>hbc e.symm)]
  ·intro x hx hw
   rw[qe (fun e=>hw (by simp[e])),hS1]
   rcases hor with e | e
   ·exact qe (fun e2=>hw (by simp[own,e,e2]))
   ·exact qe (fun e2=>hx (by rw[e2];exact e))
  ·rw[hown];intro x hx;rw[List.mem_singleton] at hx;subst hx;exact hbc
  ·rw[hown];intro x hx;rw[List.mem_singleton] at hx;subst hx
   exact hor.imp (fun e=>by simp[own,e]) id
 ·rintro v S1 ⟨rfl,s1,hrow,hk,hb1,hne,hfr,hgr⟩
  refine⟨rfl,?_⟩
  rcases row_open hrow with ⟨rfl,h0⟩ | ⟨c,cap,t,j,rfl,hle,hc,hj⟩
  ·simp at h0
  ·have hcell1:S1.cell b o=some (eL ⟨some (c,0),(l++[a]).length,cap⟩):=by rw[qo hb1];exact xC h.cell
   have hbc:=hne c (by simp[own])
   refine zfz hcell1 ⟨_,rfl,?_⟩
   simp only[List.length_append,List.length_singleton]
   rw[w64 (by omega) (by omega),show ((l.length+1:Nat):Int)-1=(l.length:Int) by omega]
   rw[←wi_of hc]
   refine zii (s:=⟨some (c,0),(l++[a]).length,cap⟩) ⟨hcell1,rfl,rfl,hbc⟩ (by simp) (by simp;omega) (Up.start h.heap) fun l' hp hh=>?_
   have hlen:=hp.length_eq
   have hx:(⟨some (c,0),(l++[a]).length,cap⟩:Sl)=⟨some (c,0),l'.length,cap⟩:=by rw[hlen]
   rw[hx] at hb1
   refine hQ _ ⟨some (c,0),l'.length,cap⟩ l' (hp.trans (List.perm_append_comm (l₁:=l) (l₂:=[a]))) ⟨ck_mk (by unfold wi;rw[qe hbc];exact hb1) (xC h.cell) wi_c (by omega) (by rw[hlen];exact hj) hbc hh (by rw[hlen];simp;omega),?_,?_,hgr.set⟩
   ·intro x hx2 hw
    by_cases e:x=c
    ·subst e
     rcases hfr x (by simp[own]) with h3 | h3
     ·exact absurd (List.mem_cons_of_mem _ h3) hw
     ·exact absurd h3 hx2
    ·unfold wi;rw[qe e];exact hk x hx2 hw
   ·intro x hx2;exact hfr x hx2
theorem set_spec (h:Ck S b o tb cs s l) (hl:l.length+1<100000) {vm seat tm:Int} (h1:0≤vm) (h2:vm<6) (h3:0≤seat) (h4:seat<3) {Q:Int→Mem→Prop}
  (hQ:∀ S' s' l',l'.Perm (⟨tm,vm,seat⟩ :: l.filter fun a=>! (decide (a.vm=vm) && decide (a.seat=seat)))→Left' S S' b o tb cs s s' l'→Q 0 S'):vt S (some (b,o)) vm seat tm Q:=by
 apply zcZ
 unfold vQ
 simp only[jn]
 rw[if_neg (by simp),if_neg (by omega),if_neg (by omega),if_neg (by omega),if_neg (by omega)]
 refine zkE h fun S1 s1 l1 hp1 hL1=>?_
 rw[zV]
 have hlen1:l1.length≤l.length:=by rw[hp1.length_eq];exact List.length_filter_le _ _
 refine push_spec (a:=⟨tm,vm,seat⟩) hL1.ck (by omega) fun S2 s2 l2 hp2 hL2=>hQ S2 s2 l2 (hp2.trans (hp1.cons _)) ?_
 have hlt:=vB h.cell
 have e:spl (spl cs o [eL s1]) o [eL s2]=spl cs o [eL s2]:=zjl hlt
 refine⟨e ▸ hL2.ck,?_,?_,hL1.al.trans hL2.al⟩
 ·intro x hx hw
  have k1:=hL1.keep x hx hw
  have:x∉b :: own s1:=by
   intro hm
   rcases List.mem_cons.1 hm with rfl | hm
   ·exact hw (by simp)
   ·rcases hL1.fresh x hm with h5 | h5
    ·exact hw (by simp[h5])
    ·exact hx h5
  rw[hL2.keep x (by rw[k1];exact hx) this,k1]
 ·intro x hx
  rcases hL2.fresh x hx with h5 | h5
  ·exact hL1.fresh x h5
  ·by_cases hm:x∈b :: own s
   ·rcases List.mem_cons.1 hm with rfl | hm
    ·rw[hL1.ck.blk] at h5;cases h5
    ·exact .inl hm
   ·right
    cases hs:S x with
    | none=>rfl
    | some k=>have:=hL1.keep.get hs hm;rw[h5] at this;cases this
end
open Go Go.Pt Go.Hp
open Go.Proofs.YtabdpmnhjlmnlaaGreatDoor
section
variable {S:Mem} {b o c:Nat} {tb t:TypeId} {cs j:List Value} {s:Sl} {l:List Al} {cap:Nat}
structure Told (S S':Mem) (b:Nat) (s' lo:Sl) (out:List Al):Prop where
 row:Row S' 3 lo (fl out)
 fresh:∀ x∈own lo,S x=none
 apart:∀ x∈own lo,x∉b :: own s'
def Rises (l:List Al):Prop:=l.Pairwise fun x y=>bf y x=false
end
end Go.Proofs.YtabdpmnhjlmnlaaGreatDoor.Hk
end
namespace Go.Proofs.YtabdpmnhjlmnlaaGreatDoor.Hq
section
open Go Go.Pt Go.Hp
open Go.Proofs.YtabdpmnhjlmnlaaGreatDoor
def ce (a:Int):List Value:=[.int .i64 a]
def fl (l:List Int):List Value:=l.flatMap ce
def bf (a b:Int):Bool:=decide (a<b)
theorem zdO (a:Int):bf a a=false:=by simp[bf]
theorem bf_ord:Ord bf:=⟨fun a b h=>by simp only[bf,decide_eq_true_eq,decide_eq_false_iff_not] at *;omega,fun a b c h1 h2=>by simp only[bf,decide_eq_false_iff_not] at *;omega⟩
theorem xL (a:Int):(ce a).length=1:=rfl
theorem fl_length (l:List Int):(fl l).length=l.length*1:=by
 induction l with
 | nil=>rfl
 | cons a l ih=>simp only[fl,List.flatMap_cons,List.length_append,List.length_cons] at *;rw[ih,xL];omega
theorem wV (l r:List Int):fl (l++r)=fl l++fl r:=by simp[fl]
theorem fg {l:List Int} {i:Nat} (h:i<l.length):fl l=fl (l.take i)++(ce (gt l i)++fl (l.drop (i+1))):=by
 have e:l=l.take i++(gt l i :: l.drop (i+1)):=by
  rw[zgW h,List.getElem_cons_drop,List.take_append_drop]
 have e2:fl l=fl (l.take i++(gt l i :: l.drop (i+1))):=congrArg fl e
 rw[e2,wV]
 rfl
theorem ziQ {l:List Int} {j:List Value} {i:Nat} (h:i<l.length):lpart (fl l++j) (i*1) 1=some (ce (gt l i)):=by
 have hln:=fl_length l
 rw[qA (by simp only[List.length_append];omega),fg h]
 have ht:(fl (l.take i)).length=i*1:=by rw[fl_length,List.length_take];omega
 congr 1
 rw[List.append_assoc,List.drop_left' ht,List.append_assoc,List.take_left' (xL _)]
theorem zoT {l:List Int} {j:List Value} {i k:Nat} (h:i<l.length) (hk:k<1):nthL (fl l++j) (i*1+k)=nthL (ce (gt l i)) k:=by
 have hp:=ziQ (j:=j) h
 rw[zK,zK,ka hp k hk]
theorem zml {l:List Int} {j:List Value} {i:Nat} {a:Int} (h:i<l.length):spl (fl l++j) (i*1) (ce a)=fl (l.set i a)++j:=by
 have hln:=fl_length l
 rw[xD _ _ _ (by simp only[List.length_append];omega)]
 have ht:(fl (l.take i)).length=i*1:=by rw[fl_length,List.length_take];omega
 have e1:fl (l.set i a)=fl (l.take i)++(ce a++fl (l.drop (i+1))):=by
  rw[List.set_eq_take_append_cons_drop,if_pos h,wV]
  rfl
 have h1:(fl l++j).take (i*1)=fl (l.take i):=by
  rw[fg h,List.append_assoc,List.take_left' ht]
 have h2:(fl l++j).drop (i*1+(ce a).length)=fl (l.drop (i+1))++j:=by
  rw[fg h,xL,←List.drop_drop,List.append_assoc,List.drop_left' ht,List.append_assoc,List.drop_left' (xL _)]
 rw[h1,h2,e1]
 simp
structure Ro (S:Mem) (b o c:Nat) (t:TypeId) (s:Sl) (n:Nat):Prop where
 cell:S.cell b o=some (eL s)
 p:s.p=some (c,0)
 n:s.n=n
 ne:b≠c
def wi (S:Mem) (c:Nat) (t:TypeId) (j:List Value) (l:List Int):Mem:=S.set c (bw t (fl l++j))
theorem wi_c {S:Mem} {c:Nat} {t:TypeId} {j:List Value} {l:List Int}:wi S c t j l c=some (bw t (fl l++j)):=zy
section
variable {S:Mem} {b o c:Nat} {t:TypeId} {s:Sl} {j:List Value} {l:List Int} {n:Nat}
theorem zag (h:b≠c):(wi S c t j l).cell b o=S.cell b o:=by
 unfold Mem.cell wi;rw[qe h]
theorem zfS {i:Nat} {a:Int} {K:Mem→Prop} (h:i<l.length) (hK:K (wi S c t j (l.set i a))):pt (wi S c t j l) c (0+i*1) 1 (ce a) K:=by
 have hln:=fl_length l
 refine zkS (t:=t) (cs:=fl l++j) wi_c (by simp only[List.length_append];omega) ?_
 rw[Nat.zero_add,zml h]
 simpa [wi] using hK
theorem zcb {i:Nat} (h:i<l.length):(wi S c t j l).cell c (0+i*1)=some (.int .i64 (gt l i)):=by
 rw[qo wi_c,Nat.zero_add,show i*1=i*1+0 by omega,zoT h (by decide)];rfl
theorem ziN {cap:Nat} {x y:Nat} (hx:x<l.length) (hy:y<l.length) (hn:n=l.length) {Q:Bool→Mem→Prop} (hQ:Q (bf (gt l x) (gt l y)) (wi S c t j l)):zbn (wi S c t j l) ⟨some (c,0),n,cap⟩ x y Q:=by
 apply zdT
 unfold ky
 rw[jH]
 refine⟨by omega,by omega,?_⟩
 rw[Int.toNat_natCast,zB (zcb hx)]
 refine⟨by omega,by omega,?_⟩
 rw[Int.toNat_natCast,zB (zcb hy)]
 exact hQ
theorem ziu {cap:Nat} {x y:Nat} (hx:x<l.length) (hy:y<l.length) (hn:n=l.length) {Q:Mem→Prop} (hQ:Q (wi S c t j (sw l x y))):zbm (wi S c t j l) ⟨some (c,0),n,cap⟩ x y Q:=by
 apply zdR
 unfold ku
 rw[jH]
 refine⟨by omega,by omega,?_⟩
 rw[Int.toNat_natCast,Int.toNat_natCast,zB (zcb hy)]
 refine⟨by omega,by omega,?_⟩
 rw[zB (zcb hx)]
 refine⟨by omega,by omega,zfS hx ?_⟩
 refine⟨by omega,by omega,zfS (by simpa using hy) ?_⟩
 exact hQ
abbrev rw_ (b o:Nat):Value:=.iface 205 (.pointer (some ⟨b,o,none⟩))
theorem zbM (hr : Ro S b o c t s l.length) {x y : Nat} (hx : x < l.length) (hy : y < l.length) {R : Value → Mem → Prop} (hR : R (.bool (bf (gt l x) (gt l y))) (wi S c t j l)) : ci Tryz.prog (wi S c t j l) (rw_ b o) "Less" [.int .i64 x, .int .i64 y] R := by
 obtain⟨p,n,cap⟩:=s
 obtain⟨h1,h2,h3,h4⟩:=hr
 simp only at h2 h3
 subst h2;subst h3
 exact zpk (v:=eL ⟨some (c,0),l.length,cap⟩) (by rw[zag h4];exact h1) (Tr.mono (ziN hx hy rfl (Q:=fun r S'=>R (.bool r) S') hR) (by rintro v S' ⟨r,rfl,h⟩;exact h))
theorem zdr (hr : Ro S b o c t s l.length) {x y : Nat} (hx : x < l.length) (hy : y < l.length) {R : Value → Mem → Prop} (hR : R (.tuple #[]) (wi S c t j (sw l x y))) : ci Tryz.prog (wi S c t j l) (rw_ b o) "Swap" [.int .i64 x, .int .i64 y] R := by
 obtain⟨p,n,cap⟩:=s
 obtain⟨h1,h2,h3,h4⟩:=hr
 simp only at h2 h3
 subst h2;subst h3
 exact zpk (v:=eL ⟨some (c,0),l.length,cap⟩) (by rw[zag h4];exact h1) (Tr.mono (ziu hx hy rfl (Q:=fun S'=>R (.tuple #[]) S') hR) (by rintro v S' ⟨rfl,h⟩;exact h))
theorem zfz (hr : S.cell b o = some (eL s)) {R : Value → Mem → Prop} (hR : R (.int .i64 s.n) S) : ci Tryz.prog S (rw_ b o) "Len" [] R :=
 zpk hr (Tr.mono (zeB (S:=S) (f:=s) (Q:=fun r S'=>R (.int .i64 r) S') hR) (by rintro v S' ⟨r,rfl,h⟩;exact h))
theorem Ro.len (hr:Ro S b o c t s n) {m:Nat} (h:m=n):Ro S b o c t s m:=h ▸ hr
theorem zcH (hr:Ro S b o c t s l.length) {lo n:Nat} (hn:n≤l.length) (hlo:lo<l.length) (hl:l.length<1000000) (h:HpF bf l n (lo+1)) {Q:Bool→Mem→Prop}
  (hQ:∀ r l',l'.Perm l→HpF bf l' n lo→(∀ k,n≤k→gt l' k=gt l k)→Q r (wi S c t j l')):zaz (wi S c t j l) (rw_ b o) lo n Q:=by
 apply zeD
 unfold fF
 simp only[jn]
 refine zM (fun (z:Int) S'=>∃ (i:Nat) (l':List Int),z=(i:Int)∧S'=wi S c t j l'∧l'.Perm l∧Dn bf l' n lo i∧i<l.length∧(∀ k,n≤k→gt l' k=gt l k)) (fun z=>(l.length-z).toNat) ?_
  ⟨lo,l,rfl,rfl,List.Perm.refl _,Dn.start h,hlo,fun _ _=>rfl⟩
 rintro X z S' ⟨i,l',rfl,rfl,hp,hd,hi,hk⟩ ih
 have hlen:=hp.length_eq
 have hr':Ro S b o c t s l'.length:=hr.len hlen
 rw[w64 (x:=2*(i:Int)) (by omega) (by omega),w64 (x:=2*(i:Int)+1) (by omega) (by omega),w64 (x:=2*(i:Int)+1+1) (by omega) (by omega)]
 by_cases h1:(n:Int)≤2*(i:Int)+1
 ·rw[if_pos h1]
  exact hQ _ l' hp (hd.leaf (by omega)) hk
 rw[if_neg h1,if_neg (by omega:¬2*(i:Int)+1<0)]
 have e1:2*(i:Int)+1=((2*i+1:Nat):Int):=by omega
 have e2:2*(i:Int)+1+1=((2*i+2:Nat):Int):=by omega
 rw[e2,e1]
 have rest:∀ jx:Nat,(jx=2*i+1∨jx=2*i+2)→jx<n→(∀ k,k=2*i+1∨k=2*i+2→k<n→bf (gt l' k) (gt l' jx)=false) →
   ci Tryz.prog (wi S c t j l') (rw_ b o) "Less" [.int .i64 (jx : Int), .int .i64 (i : Int)] (fun rv Sx_4 => ∃ t_1 : Bool, rv = .bool t_1 ∧ 
       if t_1=true then
        ci Tryz.prog Sx_4 (rw_ b o) "Swap" [.int .i64 (i : Int), .int .i64 (jx : Int)] fun rv Sx_5 => rv = .tuple #[] ∧ 
        X jx Sx_5
       else
       Q (decide ((lo:Int)<i)) Sx_4):=by
  intro jx hj hjn hm
  refine zbM hr' (by omega) (by omega) ⟨_,rfl,?_⟩
  by_cases hs:bf (gt l' jx) (gt l' i)=true
  ·rw[if_pos hs]
   refine zdr hr' (by omega) (by omega) ⟨rfl,?_⟩
   refine ih _ _ ⟨jx,_,rfl,rfl,(zeP (by omega) (by omega)).trans hp,hd.next bf_ord (by omega) hjn hj hm hs,by omega,fun k hkn=>?_⟩ (by omega)
   rw[zdl (by omega) (by omega),if_neg (by omega),if_neg (by omega)]
   exact hk k hkn
  ·rw[if_neg hs]
   exact hQ _ l' hp (hd.stop bf_ord hm (by simpa using hs)) hk
 by_cases h2:((2*i+2:Nat):Int)<n
 ·rw[if_pos h2]
  refine zbM hr' (by omega) (by omega) ⟨_,rfl,?_⟩
  by_cases hs:bf (gt l' (2*i+2)) (gt l' (2*i+1))=true
  ·rw[if_pos hs]
   refine rest _ (.inr rfl) (by omega) ?_
   rintro k (rfl | rfl) hkn
   ·exact bf_ord.asym _ _ hs
   ·exact zdO _
  ·rw[if_neg hs]
   refine rest _ (.inl rfl) (by omega) ?_
   rintro k (rfl | rfl) hkn
   ·exact zdO _
   ·simpa using hs
 ·rw[if_neg h2]
  refine rest _ (.inl rfl) (by omega) ?_
  rintro k (rfl | rfl) hkn
  ·exact zdO _
  ·omega
theorem zii (hr:Ro S b o c t s l.length) {x:Nat} (hx:x<l.length) (hl:l.length<1000000) (h:Up bf l x) {Q:Mem→Prop}
  (hQ:∀ l',l'.Perm l→Heap bf l'→Q (wi S c t j l')):zgU (wi S c t j l) (rw_ b o) x Q:=by
 apply zhq
 unfold zcL
 simp only[jn]
 refine zM (fun (z:Int) S'=>∃ (i:Nat) (l':List Int),z=(i:Int)∧S'=wi S c t j l'∧l'.Perm l∧Up bf l' i∧i<l.length) (fun z=>z.toNat) ?_ ⟨x,l,rfl,rfl,List.Perm.refl _,h,hx⟩
 rintro X z S' ⟨i,l',rfl,rfl,hp,hu,hi⟩ ih
 have hlen:=hp.length_eq
 have hr':Ro S b o c t s l'.length:=hr.len hlen
 rw[w64 (x:=(i:Int)-1) (by omega) (by omega)]
 by_cases h0:i=0
 ·subst h0
  rw[if_pos (by decide)]
  exact hQ l' hp hu.top
 have e:IntKind.i64.wrap (Int.tdiv ((i:Int)-1) 2)=(((i-1)/2:Nat):Int):=by
  rw[td (by omega),w64 (by omega) (by omega)];omega
 rw[e,if_neg (by omega)]
 refine zbM hr' (by omega) (by omega) ⟨_,rfl,?_⟩
 by_cases hs:bf (gt l' i) (gt l' ((i-1)/2))=true
 ·rw[if_pos hs]
  refine zdr hr' (by omega) (by omega) ⟨rfl,?_⟩
  exact ih _ _ ⟨_,_,rfl,rfl,(zeP (by omega) (by omega)).trans hp,hu.next bf_ord (by omega) (by omega) hs,by omega⟩ (by omega)
 ·rw[if_neg hs]
  exact hQ l' hp (hu.stop (by simpa using hs))
theorem init_spec (hr:Ro S b o c t s l.length) (hl:l.length<1000000) {Q:Mem→Prop} (hQ:∀ l',l'.Perm l→Heap bf l'→Q (wi S c t j l')):gC (wi S c t j l) (rw_ b o) Q:=by
 apply zbz
 unfold jv
 refine zfz (s:=s) (by rw[zag hr.ne];exact hr.cell) ⟨_,rfl,?_⟩
 rw[hr.n,td (by omega),w64 (x:=(l.length:Int)/2) (by omega) (by omega),w64 (by omega) (by omega)]
 refine zM (fun (z:Int) S'=>∃ (i:Nat) (l':List Int),z=(i:Int)-1∧S'=wi S c t j l'∧l'.Perm l∧HpF bf l' l.length i∧i≤l.length/2) (fun z=>(z+1).toNat) ?_ ⟨l.length/2,l,by omega,rfl,List.Perm.refl _,HpF.leafs,by omega⟩
 rintro X z S' ⟨i,l',rfl,rfl,hp,hh,hi⟩ ih
 have hlen:=hp.length_eq
 by_cases h0:0≤(i:Int)-1
 ·rw[if_pos h0]
  have e:(i:Int)-1=((i-1:Nat):Int):=by omega
  rw[e]
  refine zcH (hr.len hlen) (by omega) (by omega) (by omega) (by rw[show i-1+1=i by omega];exact hh) fun r l2 hp2 hh2 _=>?_
  rw[w64 (by omega) (by omega)]
  exact ih _ _ ⟨i-1,l2,by omega,rfl,hp2.trans hp,hh2,by omega⟩ (by omega)
 ·rw[if_neg h0]
  have:i=0:=by omega
  subst this
  exact hQ l' hp (by unfold Heap;rw[hlen];exact hh)
end
theorem zgE {S:Mem} {b c:Nat} {k m:Blk} (h:b≠c):(S.set c m).set b k=(S.set b k).set c m:=by
 funext x;simp only[Mem.set]
 by_cases h1:x=b
 ·by_cases h2:x=c
  ·exact absurd (h1.symm.trans h2) h
  ·simp[h1,h]
 ·simp[h1]
def own (s:Sl):List Nat:=match s.p with
 | none=>[]
 | some (c,_)=>[c]
structure Ck (S:Mem) (b o:Nat) (tb:TypeId) (cs:List Value) (s:Sl) (l:List Int):Prop where
 blk:S b=some (bw tb cs)
 cell:nthL cs o=some (eL s)
 row:Row S 1 s (fl l)
 ne:∀ c∈own s,b≠c
 heap:Heap bf l
 len:l.length<100000
section
variable {S:Mem} {b o c:Nat} {tb t:TypeId} {cs j:List Value} {s:Sl} {l:List Int} {cap:Nat}
theorem zlx (h:S c=some (bw t (fl l++j))) (hc:l.length≤cap) (hj:j.length=(cap-l.length)*1):Row S 1 ⟨some (c,0),l.length,cap⟩ (fl l):=by
 have hl:=fl_length l
 refine⟨hl,hc,.inr ⟨c,_,rfl,h,rfl,?_,?_⟩⟩
 ·simp only[List.length_append,hl,hj];rw[←Nat.add_mul];congr 1;omega
 ·simp only;rw[List.take_left' hl]
theorem row_open (h:Row S 1 s (fl l)):(s=⟨none,0,0⟩∧l=[])∨∃ c cap t j,s=⟨some (c,0),l.length,cap⟩∧l.length≤cap∧S c=some (bw t (fl l++j))∧j.length=(cap-l.length)*1:=by
 obtain⟨p,n,cp⟩:=s
 have hl:=fl_length l
 have h1:=h.len
 have h2:=h.cap
 simp only at h1 h2
 have hn:n=l.length:=by omega
 subst hn
 rcases h.lie with ⟨h3,h4⟩ | ⟨c,k,h3,h4,h5,h6,h7⟩
 ·simp only at h3 h4
  subst h3;subst h4
  have:l=[]:=List.length_eq_zero_iff.1 (by omega)
  subst this
  exact .inl ⟨rfl,rfl⟩
 ·simp only at h3 h6 h7
  subst h3
  obtain⟨kt,kc,kf⟩:=k
  simp only at h5 h6 h7
  subst h5
  refine .inr ⟨c,cp,kt,kc.drop (l.length*1),rfl,h2,?_,by rw[List.length_drop,h6,Nat.sub_mul]⟩
  rw[←h7,List.take_append_drop];exact h4
theorem Ck.rd (h:Ck S b o tb cs s l):S.cell b o=some (eL s):=by rw[qo h.blk];exact h.cell
theorem own_row {x:Nat} (h:Row S 1 s (fl l)) (hx:x∈own s):∃ k,S x=some k:=by
 rcases row_open h with ⟨rfl,rfl⟩ | ⟨c,cap,t,j,rfl,_,h2,_⟩
 ·simp[own] at hx
 ·simp only[own,List.mem_singleton] at hx;subst hx;exact⟨_,h2⟩
variable {fv:Value}
end
section
variable {S:Mem} {b o c:Nat} {tb t:TypeId} {cs j:List Value} {s:Sl} {l:List Int} {cap:Nat} 
theorem xC {v w:Value} (h:nthL cs o=some w):nthL (spl cs o [v]) o=some v:=by
 have:=vB h
 rw[zK,jU (by simp;omega),if_pos (by simp)];simp
theorem wi_of (h:S c=some (bw t (fl l++j))):wi S c t j l=S:=zcu h
theorem zkX {k:Blk} (h:b≠c):(wi S c t j l).set b k=wi (S.set b k) c t j l:=zgE h
structure Left' (S S':Mem) (b o:Nat) (tb:TypeId) (cs:List Value) (s s':Sl) (l':List Int):Prop where
 ck:Ck S' b o tb (spl cs o [eL s']) s' l'
 keep:Keeps S S' (b :: own s)
 fresh:∀ x∈own s',x∈own s∨S x=none
 al:Grows S S'
theorem ck_mk {S':Mem} {l':List Int} (hb:S' b=some (bw tb cs)) (hcell:nthL cs o=some (eL ⟨some (c,0),l'.length,cap⟩)) (hc:S' c=some (bw t (fl l'++j))) (hle:l'.length≤cap) (hj:j.length=(cap-l'.length)*1) (hne:b≠c) (hh:Heap bf l') (hl:l'.length<100000) :
  Ck S' b o tb cs ⟨some (c,0),l'.length,cap⟩ l':=⟨hb,hcell,zlx hc hle hj,fun x hx=>by simp only[own,List.mem_singleton] at hx;subst hx;exact hne,hh,hl⟩
theorem push_spec (h:Ck S b o tb cs s l) (hl:l.length+1<100000) {a:Int} {Q:Mem→Prop} (hQ:∀ S' s' l',l'.Perm (a :: l)→Left' S S' b o tb cs s s' l'→Q S') :
  zaA S (rw_ b o) (.iface 3 (.int .i64 a)) Q:=by
 apply zeE
 unfold fG
 have hlt:=vB h.cell
 have hlim:(2*(s.n+1)+1024)*8≤281474976710656:=by
  have h1:=h.row.len
  rw[fl_length] at h1
  omega
 refine zry (t:=205) (Tr.mono (zdS (S:=S) (f:=some (b,o)) (x:=.iface 3 (.int .i64 a)) (Q:=fun S1=>∃ s1,Row S1 1 s1 (fl (l++[a]))∧Keeps S S1 (b :: own s)∧S1 b=some (bw tb (spl cs o [eL s1]))∧(∀ x∈own s1,b≠x)∧(∀ x∈own s1,x∈own s∨S x=none)∧Grows S S1) ?_) ?_)
 ·unfold kw
  rw[zV,wc h.rd]
  refine⟨a,rfl,?_⟩
  refine jR h.row (by simp) (by decide) rfl hlim fun s1 S1 c1 k hn hp1 hor hS1 hrow=>?_
  have hbc:b≠c1:=by
   rcases hor with e | e
   ·exact h.ne c1 (by simp[own,e])
   ·intro e2;subst e2;rw[h.blk] at e;cases e
  have hb1:S1 b=some (bw tb cs):=by rw[hS1,qe hbc];exact h.blk
  refine zkS hb1 (by omega) ?_
  have hown:own s1=[c1]:=by simp[own,hp1]
  refine⟨s1,?_,?_,zy,?_,?_,by rw[hS1];exact Grows.refl.set.set⟩
  ·rw[wV]
   refine hrow.keep fun x hx=>?_
   have:x=c1:=by rw[hp1] at hx;cases hx;rfl
   subst this
   rw[qe (fun e=>hbc e.symm)]
  ·intro x hx hw
   rw[qe (fun e=>hw (by simp[e])),hS1]
   rcases hor with e | e
   ·exact qe (fun e2=>hw (by simp[own,e,e2]))
   ·exact qe (fun e2=>hx (by rw[e2];exact e))
  ·rw[hown];intro x hx;rw[List.mem_singleton] at hx;subst hx;exact hbc
  ·rw[hown];intro x hx;rw[List.mem_singleton] at hx;subst hx
   exact hor.imp (fun e=>by simp[own,e]) id
 ·rintro v S1 ⟨rfl,s1,hrow,hk,hb1,hne,hfr,hgr⟩
  refine⟨rfl,?_⟩
  rcases row_open hrow with ⟨rfl,h0⟩ | ⟨c,cap,t,j,rfl,hle,hc,hj⟩
  ·simp at h0
  ·have hcell1:S1.cell b o=some (eL ⟨some (c,0),(l++[a]).length,cap⟩):=by rw[qo hb1];exact xC h.cell
   have hbc:=hne c (by simp[own])
   refine zfz hcell1 ⟨_,rfl,?_⟩
   simp only[List.length_append,List.length_singleton]
   rw[w64 (by omega) (by omega),show ((l.length+1:Nat):Int)-1=(l.length:Int) by omega]
   rw[←wi_of hc]
   refine zii (s:=⟨some (c,0),(l++[a]).length,cap⟩) ⟨hcell1,rfl,rfl,hbc⟩ (by simp) (by simp;omega) (Up.start h.heap) fun l' hp hh=>?_
   have hlen:=hp.length_eq
   have hx:(⟨some (c,0),(l++[a]).length,cap⟩:Sl)=⟨some (c,0),l'.length,cap⟩:=by rw[hlen]
   rw[hx] at hb1
   refine hQ _ ⟨some (c,0),l'.length,cap⟩ l' (hp.trans (List.perm_append_comm (l₁:=l) (l₂:=[a]))) ⟨ck_mk (by unfold wi;rw[qe hbc];exact hb1) (xC h.cell) wi_c (by omega) (by rw[hlen];exact hj) hbc hh (by rw[hlen];simp;omega),?_,?_,hgr.set⟩
   ·intro x hx2 hw
    by_cases e:x=c
    ·subst e
     rcases hfr x (by simp[own]) with h3 | h3
     ·exact absurd (List.mem_cons_of_mem _ h3) hw
     ·exact absurd h3 hx2
    ·unfold wi;rw[qe e];exact hk x hx2 hw
   ·intro x hx2;exact hfr x hx2
theorem zoR {l:List Int} {n:Nat} (h:l.length=n+1):l=l.take n++[gt l n]:=by
 rw[zgW (by omega),←List.take_succ_eq_append_getElem (by omega),←h,List.take_length]
theorem pop_spec (h:Ck S b o tb cs s l) (h0:l≠[]) {Q:Value→Mem→Prop}
  (hQ:∀ S' s' m l',l.Perm (m :: l')→(∀ x∈l',bf x m=false)→m=gt l 0→own s'=own s→Left' S S' b o tb cs s s' l'→Q (.iface 3 (.int .i64 m)) S'):zgV S (rw_ b o) Q:=by
 apply zjV
 unfold zdC
 have hlt:=vB h.cell
 have hlen:=h.len
 have hpos:=List.length_pos_iff.2 h0
 rcases row_open h.row with ⟨rfl,rfl⟩ | ⟨c,cap,t,j,rfl,hle,hc,hj⟩
 ·exact absurd rfl h0
 ·have hne:b≠c:=h.ne c (by simp[own])
  refine zfz h.rd ⟨_,rfl,?_⟩
  simp only
  rw[w64 (by omega) (by omega),show (l.length:Int)-1=((l.length-1:Nat):Int) by omega]
  have hr:Ro S b o c t ⟨some (c,0),l.length,cap⟩ l.length:=⟨h.rd,rfl,rfl,hne⟩
  rw[←wi_of hc]
  have e0:(0:Int)=((0:Nat):Int):=rfl
  rw[e0]
  refine zdr hr (by omega) (by omega) ⟨rfl,?_⟩
  have hsl:(sw l 0 (l.length-1)).length=l.length:=zeQ _ _ _
  refine zcH (hr.len hsl) (by omega) (by omega) (by omega) (h.heap.pop (by omega)) fun r l2 hp2 hh2 hk2=>?_
  have hl2:l2.length=l.length:=by rw[hp2.length_eq,hsl]
  have hlast:gt l2 (l.length-1)=gt l 0:=by
   rw[hk2 _ (Nat.le_refl _),zdl (by omega) (by omega),if_pos rfl]
  have hsplit:l2=l2.take (l.length-1)++[gt l2 (l.length-1)]:=zoR (by omega)
  have hpl:l.Perm (gt l 0 :: l2.take (l.length-1)):=by
   have h1:l2.Perm l:=hp2.trans (zeP (by omega) (by omega))
   rw[hlast] at hsplit
   have h2:l2.Perm (gt l 0 :: l2.take (l.length-1)):=by
    conv=>lhs;rw[hsplit]
    exact List.perm_append_comm (l₂:=[gt l 0])
   exact h1.symm.trans h2
  have hcell2:(wi S c t j l2).cell b o=some (eL ⟨some (c,0),l.length,cap⟩):=by rw[zag hne];exact h.rd
  refine zry (t:=205) (Tr.mono (zeA (S:=wi S c t j l2) (f:=some (b,o)) (Q:=fun v S1=>Q v S1) ?_) (by rintro v S1 ⟨r,rfl,h⟩;exact⟨_,rfl,h⟩))
  unfold jt
  rw[zV,wc hcell2,jH]
  simp only
  rw[w64 (by omega) (by omega),show (l.length:Int)-1=((l.length-1:Nat):Int) by omega]
  refine⟨by omega,by omega,?_⟩
  rw[Int.toNat_natCast,zB (zcb (by omega)),hlast]
  refine⟨by omega,by omega,?_⟩
  unfold lt
  have e1:slc 1 ⟨some (c,0),l.length,cap⟩ 0 ((l.length-1:Nat):Int)=⟨some (c,0),l.length-1,cap⟩:=by
   simp only[slc]
   rw[if_neg (by simp;omega)];simp
  rw[e1]
  refine zkS (t:=tb) (cs:=cs) (by unfold wi;rw[qe hne];exact h.blk) (by omega) ?_
  have htl:(l2.take (l.length-1)).length=l.length-1:=by rw[List.length_take];omega
  have e2:wi S c t j l2=wi S c t (ce (gt l 0)++j) (l2.take (l.length-1)):=by
   unfold wi
   congr 2
   rw[hlast] at hsplit
   conv=>lhs;rw[hsplit,wV]
   simp[fl]
  rw[e2,zkX hne]
  have e3:(⟨some (c,0),l.length-1,cap⟩:Sl)=⟨some (c,0),(l2.take (l.length-1)).length,cap⟩:=by rw[htl]
  rw[e3]
  refine hQ _ ⟨some (c,0),(l2.take (l.length-1)).length,cap⟩ (gt l 0) (l2.take (l.length-1)) hpl ?_ rfl rfl ⟨ck_mk (by unfold wi;rw[qe hne];exact zy) (xC h.cell) wi_c (by omega) ?_ hne (hh2.take (by omega)) (by omega),?_,fun x hx=>.inl hx,Grows.refl.set.set⟩
  ·intro x hx
   have:x∈l:=hpl.symm.subset (List.mem_cons_of_mem _ hx)
   obtain⟨k,hk,rfl⟩:=List.getElem_of_mem this
   rw[←zgW hk]
   exact h.heap.least bf_ord zdO k hk
  ·rw[List.length_append,xL,hj,htl,show cap-(l.length-1)=(cap-l.length)+1 by omega,Nat.add_mul];omega
  ·intro x hx hw
   simp only[own,List.mem_cons,List.not_mem_nil,or_false,not_or] at hw
   unfold wi
   rw[qe hw.2,qe hw.1]
end
end
end Go.Proofs.YtabdpmnhjlmnlaaGreatDoor.Hq
