/- Texts of this work,joined by program (pack.py): Hq,PsC,PsB,PsA,Rl,Fo,Sm,Sa,Cd,Cm,Cp,Cq,Cs,Mx,My,Mz,Wm,Tp,Cg,PsE. -/
import Derived.Test.YtabdpmnhjlmnlaaGreatDoorQAD
import Derived.Test.YtabdpmnhjlmnlaaGreatDoorQAB
import Derived.Lib.TrailingZeros
import Derived.Lib.Mul64
set_option linter.unusedVariables false
section
namespace Go.Proofs.YtabdpmnhjlmnlaaGreatDoor.Hq
open Go Go.Pt Go.Hp
open Go.Proofs.YtabdpmnhjlmnlaaGreatDoor
def ce (a:Int):List Value:=[.int .i64 a]
def fl (l:List Int):List Value:=l.flatMap ce
def bf (a b:Int):Bool:=decide (a<b)
theorem zbz (a:Int):bf a a=false:=by simp[bf]
theorem bf_ord:Ord bf:=⟨fun a b h=>by simp only[bf,decide_eq_true_eq,decide_eq_false_iff_not] at *;omega,fun a b c h1 h2=>by simp only[bf,decide_eq_false_iff_not] at *;omega⟩
theorem xR (a:Int):(ce a).length=1:=rfl
theorem fl_length (l:List Int):(fl l).length=l.length*1:=by
 induction l with
 | nil=>rfl
 | cons a l ih=>simp only[fl,List.flatMap_cons,List.length_append,List.length_cons] at *;rw[ih,xR];omega
theorem kF (l r:List Int):fl (l++r)=fl l++fl r:=by simp[fl]
theorem fH {l:List Int} {i:Nat} (h:i<l.length):fl l=fl (l.take i)++(ce (gt l i)++fl (l.drop (i+1))):=by
 have e:l=l.take i++(gt l i :: l.drop (i+1)):=by
  rw[zcV h,List.getElem_cons_drop,List.take_append_drop]
 have e2:fl l=fl (l.take i++(gt l i :: l.drop (i+1))):=congrArg fl e
 rw[e2,kF]
 rfl
theorem zeJ {l:List Int} {j:List Value} {i:Nat} (h:i<l.length):lpart (fl l++j) (i*1) 1=some (ce (gt l i)):=by
 have hln:=fl_length l
 rw[qq (by simp only[List.length_append];omega),fH h]
 have ht:(fl (l.take i)).length=i*1:=by rw[fl_length,List.length_take];omega
 congr 1
 rw[List.append_assoc,List.drop_left' ht,List.append_assoc,List.take_left' (xR _)]
theorem zeK {l:List Int} {j:List Value} {i k:Nat} (h:i<l.length) (hk:k<1):nthL (fl l++j) (i*1+k)=nthL (ce (gt l i)) k:=by
 have hp:=zeJ (j:=j) h
 rw[zK,zK,xM hp k hk]
theorem zfp {l:List Int} {j:List Value} {i:Nat} {a:Int} (h:i<l.length):spl (fl l++j) (i*1) (ce a)=fl (l.set i a)++j:=by
 have hln:=fl_length l
 rw[xk _ _ _ (by simp only[List.length_append];omega)]
 have ht:(fl (l.take i)).length=i*1:=by rw[fl_length,List.length_take];omega
 have e1:fl (l.set i a)=fl (l.take i)++(ce a++fl (l.drop (i+1))):=by
  rw[List.set_eq_take_append_cons_drop,if_pos h,kF]
  rfl
 have h1:(fl l++j).take (i*1)=fl (l.take i):=by
  rw[fH h,List.append_assoc,List.take_left' ht]
 have h2:(fl l++j).drop (i*1+(ce a).length)=fl (l.drop (i+1))++j:=by
  rw[fH h,xR,←List.drop_drop,List.append_assoc,List.drop_left' ht,List.append_assoc,List.drop_left' (xR _)]
 rw[h1,h2,e1]
 simp
structure Ro (S:Mem) (b o c:Nat) (t:TypeId) (s:Sl) (n:Nat):Prop where
 cell:S.cell b o=some (eL s)
 p:s.p=some (c,0)
 n:s.n=n
 ne:b≠c
def wi (S:Mem) (c:Nat) (t:TypeId) (j:List Value) (l:List Int):Mem:=S.set c (bw t (fl l++j))
theorem wi_c {S:Mem} {c:Nat} {t:TypeId} {j:List Value} {l:List Int}:wi S c t j l c=some (bw t (fl l++j)):=zG
section
variable {S:Mem} {b o c:Nat} {t:TypeId} {s:Sl} {j:List Value} {l:List Int} {n:Nat}
theorem fe (h:b≠c):(wi S c t j l).cell b o=S.cell b o:=by
 unfold Mem.cell wi;rw[qk h]
theorem zdN {i:Nat} {a:Int} {K:Mem→Prop} (h:i<l.length) (hK:K (wi S c t j (l.set i a))):pt (wi S c t j l) c (0+i*1) 1 (ce a) K:=by
 have hln:=fl_length l
 refine zeq (t:=t) (cs:=fl l++j) wi_c (by simp only[List.length_append];omega) ?_
 rw[Nat.zero_add,zfp h]
 simpa [wi] using hK
theorem vZ {i:Nat} (h:i<l.length):(wi S c t j l).cell c (0+i*1)=some (.int .i64 (gt l i)):=by
 rw[qE wi_c,Nat.zero_add,show i*1=i*1+0 by omega,zeK h (by decide)];rfl
theorem zey {cap:Nat} {x y:Nat} (hx:x<l.length) (hy:y<l.length) (hn:n=l.length) {Q:Bool→Mem→Prop} (hQ:Q (bf (gt l x) (gt l y)) (wi S c t j l)):vB (wi S c t j l) ⟨some (c,0),n,cap⟩ x y Q:=by
 apply jl
 unfold xv
 rw[gr]
 refine⟨by omega,by omega,?_⟩
 rw[Int.toNat_natCast,yd (vZ hx)]
 refine⟨by omega,by omega,?_⟩
 rw[Int.toNat_natCast,yd (vZ hy)]
 exact hQ
theorem zei {cap:Nat} {x y:Nat} (hx:x<l.length) (hy:y<l.length) (hn:n=l.length) {Q:Mem→Prop} (hQ:Q (wi S c t j (sw l x y))):vA (wi S c t j l) ⟨some (c,0),n,cap⟩ x y Q:=by
 apply jj
 unfold xr
 rw[gr]
 refine⟨by omega,by omega,?_⟩
 rw[Int.toNat_natCast,Int.toNat_natCast,yd (vZ hy)]
 refine⟨by omega,by omega,?_⟩
 rw[yd (vZ hx)]
 refine⟨by omega,by omega,zdN hx ?_⟩
 refine⟨by omega,by omega,zdN (by simpa using hy) ?_⟩
 exact hQ
abbrev rw_ (b o:Nat):Value:=.iface 205 (.pointer (some ⟨b,o,none⟩))
theorem zaT (hr : Ro S b o c t s l.length) {x y : Nat} (hx : x < l.length) (hy : y < l.length) {R : Value → Mem → Prop} (hR : R (.bool (bf (gt l x) (gt l y))) (wi S c t j l)) : ci Tryz.prog (wi S c t j l) (rw_ b o) "Less" [.int .i64 x, .int .i64 y] R := by
 obtain⟨p,n,cap⟩:=s
 obtain⟨h1,h2,h3,h4⟩:=hr
 simp only at h2 h3
 subst h2;subst h3
 exact zfM (v:=eL ⟨some (c,0),l.length,cap⟩) (by rw[fe h4];exact h1) (Tr.mono (zey hx hy rfl (Q:=fun r S'=>R (.bool r) S') hR) (by rintro v S' ⟨r,rfl,h⟩;exact h))
theorem zaS (hr : Ro S b o c t s l.length) {x y : Nat} (hx : x < l.length) (hy : y < l.length) {R : Value → Mem → Prop} (hR : R (.tuple #[]) (wi S c t j (sw l x y))) : ci Tryz.prog (wi S c t j l) (rw_ b o) "Swap" [.int .i64 x, .int .i64 y] R := by
 obtain⟨p,n,cap⟩:=s
 obtain⟨h1,h2,h3,h4⟩:=hr
 simp only at h2 h3
 subst h2;subst h3
 exact zfM (v:=eL ⟨some (c,0),l.length,cap⟩) (by rw[fe h4];exact h1) (Tr.mono (zei hx hy rfl (Q:=fun S'=>R (.tuple #[]) S') hR) (by rintro v S' ⟨rfl,h⟩;exact h))
theorem zde (hr : S.cell b o = some (eL s)) {R : Value → Mem → Prop} (hR : R (.int .i64 s.n) S) : ci Tryz.prog S (rw_ b o) "Len" [] R :=
 zfM hr (Tr.mono (jK (S:=S) (f:=s) (Q:=fun r S'=>R (.int .i64 r) S') hR) (by rintro v S' ⟨r,rfl,h⟩;exact h))
theorem Ro.len (hr:Ro S b o c t s n) {m:Nat} (h:m=n):Ro S b o c t s m:=h ▸ hr
theorem zan (hr:Ro S b o c t s l.length) {lo n:Nat} (hn:n≤l.length) (hlo:lo<l.length) (hl:l.length<1000000) (h:HpF bf l n (lo+1)) {Q:Bool→Mem→Prop}
  (hQ:∀ r l',l'.Perm l→HpF bf l' n lo→(∀ k,n≤k→gt l' k=gt l k)→Q r (wi S c t j l')):kD (wi S c t j l) (rw_ b o) lo n Q:=by
 apply zau
 unfold vU
 simp only[jn]
 refine zO (fun (z:Int) S'=>∃ (i:Nat) (l':List Int),z=(i:Int)∧S'=wi S c t j l'∧l'.Perm l∧Dn bf l' n lo i∧i<l.length∧(∀ k,n≤k→gt l' k=gt l k)) (fun z=>(l.length-z).toNat) ?_
  ⟨lo,l,rfl,rfl,List.Perm.refl _,Dn.start h,hlo,fun _ _=>rfl⟩
 rintro X z S' ⟨i,l',rfl,rfl,hp,hd,hi,hk⟩ ih
 have hlen:=hp.length_eq
 have hr':Ro S b o c t s l'.length:=hr.len hlen
 rw[w64 (x:=2*(i:Int)) (by omega) (by omega),w64 (x:=2*(i:Int)+1) (by omega) (by omega),w64 (x:=2*(i:Int)+1+1) (by omega) (by omega)]
 by_cases h1:(n:Int)≤2*(i:Int)+1
 ·rw[if_pos h1]
  exact hQ _ l' hp (hd.leaf (by omega)) hk
 rw[if_neg h1,if_neg (by omega:¬2*(i:Int)+1<0)]
 have e1:2*(i:Int)+1=((2*i+1:Nat):Int):=by omega
 have e2:2*(i:Int)+1+1=((2*i+2:Nat):Int):=by omega
 rw[e2,e1]
 have rest:∀ jx:Nat,(jx=2*i+1∨jx=2*i+2)→jx<n→(∀ k,k=2*i+1∨k=2*i+2→k<n→bf (gt l' k) (gt l' jx)=false) →
   ci Tryz.prog (wi S c t j l') (rw_ b o) "Less" [.int .i64 (jx : Int), .int .i64 (i : Int)] (fun rv Sx_4 => ∃ t_1 : Bool, rv = .bool t_1 ∧ 
       if t_1=true then
        ci Tryz.prog Sx_4 (rw_ b o) "Swap" [.int .i64 (i : Int), .int .i64 (jx : Int)] fun rv Sx_5 => rv = .tuple #[] ∧ 
        X jx Sx_5
       else
       Q (decide ((lo:Int)<i)) Sx_4):=by
  intro jx hj hjn hm
  refine zaT hr' (by omega) (by omega) ⟨_,rfl,?_⟩
  by_cases hs:bf (gt l' jx) (gt l' i)=true
  ·rw[if_pos hs]
   refine zaS hr' (by omega) (by omega) ⟨rfl,?_⟩
   refine ih _ _ ⟨jx,_,rfl,rfl,(zay (by omega) (by omega)).trans hp,hd.next bf_ord (by omega) hjn hj hm hs,by omega,fun k hkn=>?_⟩ (by omega)
   rw[ju (by omega) (by omega),if_neg (by omega),if_neg (by omega)]
   exact hk k hkn
  ·rw[if_neg hs]
   exact hQ _ l' hp (hd.stop bf_ord hm (by simpa using hs)) hk
 by_cases h2:((2*i+2:Nat):Int)<n
 ·rw[if_pos h2]
  refine zaT hr' (by omega) (by omega) ⟨_,rfl,?_⟩
  by_cases hs:bf (gt l' (2*i+2)) (gt l' (2*i+1))=true
  ·rw[if_pos hs]
   refine rest _ (.inr rfl) (by omega) ?_
   rintro k (rfl | rfl) hkn
   ·exact bf_ord.asym _ _ hs
   ·exact zbz _
  ·rw[if_neg hs]
   refine rest _ (.inl rfl) (by omega) ?_
   rintro k (rfl | rfl) hkn
   ·exact zbz _
   ·simpa using hs
 ·rw[if_neg h2]
  refine rest _ (.inl rfl) (by omega) ?_
  rintro k (rfl | rfl) hkn
  ·exact zbz _
  ·omega
theorem zef (hr:Ro S b o c t s l.length) {x:Nat} (hx:x<l.length) (hl:l.length<1000000) (h:Up bf l x) {Q:Mem→Prop}
  (hQ:∀ l',l'.Perm l→Heap bf l'→Q (wi S c t j l')):zaK (wi S c t j l) (rw_ b o) x Q:=by
 apply zcu
 unfold gh
 simp only[jn]
 refine zO (fun (z:Int) S'=>∃ (i:Nat) (l':List Int),z=(i:Int)∧S'=wi S c t j l'∧l'.Perm l∧Up bf l' i∧i<l.length) (fun z=>z.toNat) ?_ ⟨x,l,rfl,rfl,List.Perm.refl _,h,hx⟩
 rintro X z S' ⟨i,l',rfl,rfl,hp,hu,hi⟩ ih
 have hlen:=hp.length_eq
 have hr':Ro S b o c t s l'.length:=hr.len hlen
 rw[w64 (x:=(i:Int)-1) (by omega) (by omega)]
 by_cases h0:i=0
 ·subst h0
  rw[if_pos (by decide)]
  exact hQ l' hp hu.top
 have e:IntKind.i64.wrap (Int.tdiv ((i:Int)-1) 2)=(((i-1)/2:Nat):Int):=by
  rw[td (by omega),w64 (by omega) (by omega)];omega
 rw[e,if_neg (by omega)]
 refine zaT hr' (by omega) (by omega) ⟨_,rfl,?_⟩
 by_cases hs:bf (gt l' i) (gt l' ((i-1)/2))=true
 ·rw[if_pos hs]
  refine zaS hr' (by omega) (by omega) ⟨rfl,?_⟩
  exact ih _ _ ⟨_,_,rfl,rfl,(zay (by omega) (by omega)).trans hp,hu.next bf_ord (by omega) (by omega) hs,by omega⟩ (by omega)
 ·rw[if_neg hs]
  exact hQ l' hp (hu.stop (by simpa using hs))
theorem init_spec (hr:Ro S b o c t s l.length) (hl:l.length<1000000) {Q:Mem→Prop} (hQ:∀ l',l'.Perm l→Heap bf l'→Q (wi S c t j l')):jY (wi S c t j l) (rw_ b o) Q:=by
 apply zaw
 unfold vW
 refine zde (s:=s) (by rw[fe hr.ne];exact hr.cell) ⟨_,rfl,?_⟩
 rw[hr.n,td (by omega),w64 (x:=(l.length:Int)/2) (by omega) (by omega),w64 (by omega) (by omega)]
 refine zO (fun (z:Int) S'=>∃ (i:Nat) (l':List Int),z=(i:Int)-1∧S'=wi S c t j l'∧l'.Perm l∧HpF bf l' l.length i∧i≤l.length/2) (fun z=>(z+1).toNat) ?_ ⟨l.length/2,l,by omega,rfl,List.Perm.refl _,HpF.leafs,by omega⟩
 rintro X z S' ⟨i,l',rfl,rfl,hp,hh,hi⟩ ih
 have hlen:=hp.length_eq
 by_cases h0:0≤(i:Int)-1
 ·rw[if_pos h0]
  have e:(i:Int)-1=((i-1:Nat):Int):=by omega
  rw[e]
  refine zan (hr.len hlen) (by omega) (by omega) (by omega) (by rw[show i-1+1=i by omega];exact hh) fun r l2 hp2 hh2 _=>?_
  rw[w64 (by omega) (by omega)]
  exact ih _ _ ⟨i-1,l2,by omega,rfl,hp2.trans hp,hh2,by omega⟩ (by omega)
 ·rw[if_neg h0]
  have:i=0:=by omega
  subst this
  exact hQ l' hp (by unfold Heap;rw[hlen];exact hh)
end
theorem zds {S:Mem} {b c:Nat} {k m:Blk} (h:b≠c):(S.set c m).set b k=(S.set b k).set c m:=by
 funext x;simp only[Mem.set]
 by_cases h1:x=b
 ·by_cases h2:x=c
  ·exact absurd (h1.symm.trans h2) h
  ·simp[h1,h]
 ·simp[h1]
def own (s:Sl):List Nat:=match s.p with
 | none=>[]
 | some (c,_)=>[c]
structure Ck (S:Mem) (b o:Nat) (tb:TypeId) (cs:List Value) (s:Sl) (l:List Int):Prop where
 blk:S b=some (bw tb cs)
 cell:nthL cs o=some (eL s)
 row:Row S 1 s (fl l)
 ne:∀ c∈own s,b≠c
 heap:Heap bf l
 len:l.length<100000
section
variable {S:Mem} {b o c:Nat} {tb t:TypeId} {cs j:List Value} {s:Sl} {l:List Int} {cap:Nat}
theorem zfe (h:S c=some (bw t (fl l++j))) (hc:l.length≤cap) (hj:j.length=(cap-l.length)*1):Row S 1 ⟨some (c,0),l.length,cap⟩ (fl l):=by
 have hl:=fl_length l
 refine⟨hl,hc,.inr ⟨c,_,rfl,h,rfl,?_,?_⟩⟩
 ·simp only[List.length_append,hl,hj];rw[←Nat.add_mul];congr 1;omega
 ·simp only;rw[List.take_left' hl]
theorem row_open (h:Row S 1 s (fl l)):(s=⟨none,0,0⟩∧l=[])∨∃ c cap t j,s=⟨some (c,0),l.length,cap⟩∧l.length≤cap∧S c=some (bw t (fl l++j))∧j.length=(cap-l.length)*1:=by
 obtain⟨p,n,cp⟩:=s
 have hl:=fl_length l
 have h1:=h.len
 have h2:=h.cap
 simp only at h1 h2
 have hn:n=l.length:=by omega
 subst hn
 rcases h.lie with ⟨h3,h4⟩ | ⟨c,k,h3,h4,h5,h6,h7⟩
 ·simp only at h3 h4
  subst h3;subst h4
  have:l=[]:=List.length_eq_zero_iff.1 (by omega)
  subst this
  exact .inl ⟨rfl,rfl⟩
 ·simp only at h3 h6 h7
  subst h3
  obtain⟨kt,kc,kf⟩:=k
  simp only at h5 h6 h7
  subst h5
  refine .inr ⟨c,cp,kt,kc.drop (l.length*1),rfl,h2,?_,by rw[List.length_drop,h6,Nat.sub_mul]⟩
  rw[←h7,List.take_append_drop];exact h4
theorem Ck.rd (h:Ck S b o tb cs s l):S.cell b o=some (eL s):=by rw[qE h.blk];exact h.cell
theorem own_row {x:Nat} (h:Row S 1 s (fl l)) (hx:x∈own s):∃ k,S x=some k:=by
 rcases row_open h with ⟨rfl,rfl⟩ | ⟨c,cap,t,j,rfl,_,h2,_⟩
 ·simp[own] at hx
 ·simp only[own,List.mem_singleton] at hx;subst hx;exact⟨_,h2⟩
variable {fv:Value}
end
section
variable {S:Mem} {b o c:Nat} {tb t:TypeId} {cs j:List Value} {s:Sl} {l:List Int} {cap:Nat} 
theorem vM {v w:Value} (h:nthL cs o=some w):nthL (spl cs o [v]) o=some v:=by
 have:=jS h
 rw[zK,wC (by simp;omega),if_pos (by simp)];simp
theorem wi_of (h:S c=some (bw t (fl l++j))):wi S c t j l=S:=zbb h
theorem zeW {k:Blk} (h:b≠c):(wi S c t j l).set b k=wi (S.set b k) c t j l:=zds h
structure Left' (S S':Mem) (b o:Nat) (tb:TypeId) (cs:List Value) (s s':Sl) (l':List Int):Prop where
 ck:Ck S' b o tb (spl cs o [eL s']) s' l'
 keep:Keeps S S' (b :: own s)
 fresh:∀ x∈own s',x∈own s∨S x=none
 al:Grows S S'
theorem ck_mk {S':Mem} {l':List Int} (hb:S' b=some (bw tb cs)) (hcell:nthL cs o=some (eL ⟨some (c,0),l'.length,cap⟩)) (hc:S' c=some (bw t (fl l'++j))) (hle:l'.length≤cap) (hj:j.length=(cap-l'.length)*1) (hne:b≠c) (hh:Heap bf l') (hl:l'.length<100000) :
  Ck S' b o tb cs ⟨some (c,0),l'.length,cap⟩ l':=⟨hb,hcell,zfe hc hle hj,fun x hx=>by simp only[own,List.mem_singleton] at hx;subst hx;exact hne,hh,hl⟩
theorem push_spec (h:Ck S b o tb cs s l) (hl:l.length+1<100000) {a:Int} {Q:Mem→Prop} (hQ:∀ S' s' l',l'.Perm (a :: l)→Left' S S' b o tb cs s s' l'→Q S') :
  jX S (rw_ b o) (.iface 3 (.int .i64 a)) Q:=by
 apply zav
 unfold vV
 have hlt:=jS h.cell
 have hlim:(2*(s.n+1)+1024)*8≤281474976710656:=by
  have h1:=h.row.len
  rw[fl_length] at h1
  omega
 refine zfQ (t:=205) (Tr.mono (jk (S:=S) (f:=some (b,o)) (x:=.iface 3 (.int .i64 a)) (Q:=fun S1=>∃ s1,Row S1 1 s1 (fl (l++[a]))∧Keeps S S1 (b :: own s)∧S1 b=some (bw tb (spl cs o [eL s1]))∧(∀ x∈own s1,b≠x)∧(∀ x∈own s1,x∈own s∨S x=none)∧Grows S S1) ?_) ?_)
 ·unfold xu
  rw[yo,wb h.rd]
  refine⟨a,rfl,?_⟩
  refine kJ h.row (by simp) (by decide) rfl hlim fun s1 S1 c1 k hn hp1 hor hS1 hrow=>?_
  have hbc:b≠c1:=by
   rcases hor with e | e
   ·exact h.ne c1 (by simp[own,e])
   ·intro e2;subst e2;rw[h.blk] at e;cases e
  have hb1:S1 b=some (bw tb cs):=by rw[hS1,qk hbc];exact h.blk
  refine zeq hb1 (by omega) ?_
  have hown:own s1=[c1]:=by simp[own,hp1]
  refine⟨s1,?_,?_,zG,?_,?_,by rw[hS1];exact Grows.refl.set.set⟩
  ·rw[kF]
   refine hrow.keep fun x hx=>?_
   have:x=c1:=by rw[hp1] at hx;cases hx;rfl
   subst this
   rw[qk (fun e=>hbc e.symm)]
  ·intro x hx hw
   rw[qk (fun e=>hw (by simp[e])),hS1]
   rcases hor with e | e
   ·exact qk (fun e2=>hw (by simp[own,e,e2]))
   ·exact qk (fun e2=>hx (by rw[e2];exact e))
  ·rw[hown];intro x hx;rw[List.mem_singleton] at hx;subst hx;exact hbc
  ·rw[hown];intro x hx;rw[List.mem_singleton] at hx;subst hx
   exact hor.imp (fun e=>by simp[own,e]) id
 ·rintro v S1 ⟨rfl,s1,hrow,hk,hb1,hne,hfr,hgr⟩
  refine⟨rfl,?_⟩
  rcases row_open hrow with ⟨rfl,h0⟩ | ⟨c,cap,t,j,rfl,hle,hc,hj⟩
  ·simp at h0
  ·have hcell1:S1.cell b o=some (eL ⟨some (c,0),(l++[a]).length,cap⟩):=by rw[qE hb1];exact vM h.cell
   have hbc:=hne c (by simp[own])
   refine zde hcell1 ⟨_,rfl,?_⟩
   simp only[List.length_append,List.length_singleton]
   rw[w64 (by omega) (by omega),show ((l.length+1:Nat):Int)-1=(l.length:Int) by omega]
   rw[←wi_of hc]
   refine zef (s:=⟨some (c,0),(l++[a]).length,cap⟩) ⟨hcell1,rfl,rfl,hbc⟩ (by simp) (by simp;omega) (Up.start h.heap) fun l' hp hh=>?_
   have hlen:=hp.length_eq
   have hx:(⟨some (c,0),(l++[a]).length,cap⟩:Sl)=⟨some (c,0),l'.length,cap⟩:=by rw[hlen]
   rw[hx] at hb1
   refine hQ _ ⟨some (c,0),l'.length,cap⟩ l' (hp.trans (List.perm_append_comm (l₁:=l) (l₂:=[a]))) ⟨ck_mk (by unfold wi;rw[qk hbc];exact hb1) (vM h.cell) wi_c (by omega) (by rw[hlen];exact hj) hbc hh (by rw[hlen];simp;omega),?_,?_,hgr.set⟩
   ·intro x hx2 hw
    by_cases e:x=c
    ·subst e
     rcases hfr x (by simp[own]) with h3 | h3
     ·exact absurd (List.mem_cons_of_mem _ h3) hw
     ·exact absurd h3 hx2
    ·unfold wi;rw[qk e];exact hk x hx2 hw
   ·intro x hx2;exact hfr x hx2
theorem zeG {l:List Int} {n:Nat} (h:l.length=n+1):l=l.take n++[gt l n]:=by
 rw[zcV (by omega),←List.take_succ_eq_append_getElem (by omega),←h,List.take_length]
theorem pop_spec (h:Ck S b o tb cs s l) (h0:l≠[]) {Q:Value→Mem→Prop}
  (hQ:∀ S' s' m l',l.Perm (m :: l')→(∀ x∈l',bf x m=false)→m=gt l 0→own s'=own s→Left' S S' b o tb cs s s' l'→Q (.iface 3 (.int .i64 m)) S'):fE S (rw_ b o) Q:=by
 apply zbJ
 unfold jb
 have hlt:=jS h.cell
 have hlen:=h.len
 have hpos:=List.length_pos_iff.2 h0
 rcases row_open h.row with ⟨rfl,rfl⟩ | ⟨c,cap,t,j,rfl,hle,hc,hj⟩
 ·exact absurd rfl h0
 ·have hne:b≠c:=h.ne c (by simp[own])
  refine zde h.rd ⟨_,rfl,?_⟩
  simp only
  rw[w64 (by omega) (by omega),show (l.length:Int)-1=((l.length-1:Nat):Int) by omega]
  have hr:Ro S b o c t ⟨some (c,0),l.length,cap⟩ l.length:=⟨h.rd,rfl,rfl,hne⟩
  rw[←wi_of hc]
  have e0:(0:Int)=((0:Nat):Int):=rfl
  rw[e0]
  refine zaS hr (by omega) (by omega) ⟨rfl,?_⟩
  have hsl:(sw l 0 (l.length-1)).length=l.length:=jN _ _ _
  refine zan (hr.len hsl) (by omega) (by omega) (by omega) (h.heap.pop (by omega)) fun r l2 hp2 hh2 hk2=>?_
  have hl2:l2.length=l.length:=by rw[hp2.length_eq,hsl]
  have hlast:gt l2 (l.length-1)=gt l 0:=by
   rw[hk2 _ (Nat.le_refl _),ju (by omega) (by omega),if_pos rfl]
  have hsplit:l2=l2.take (l.length-1)++[gt l2 (l.length-1)]:=zeG (by omega)
  have hpl:l.Perm (gt l 0 :: l2.take (l.length-1)):=by
   have h1:l2.Perm l:=hp2.trans (zay (by omega) (by omega))
   rw[hlast] at hsplit
   have h2:l2.Perm (gt l 0 :: l2.take (l.length-1)):=by
    conv=>lhs;rw[hsplit]
    exact List.perm_append_comm (l₂:=[gt l 0])
   exact h1.symm.trans h2
  have hcell2:(wi S c t j l2).cell b o=some (eL ⟨some (c,0),l.length,cap⟩):=by rw[fe hne];exact h.rd
  refine zfQ (t:=205) (Tr.mono (jJ (S:=wi S c t j l2) (f:=some (b,o)) (Q:=fun v S1=>Q v S1) ?_) (by rintro v S1 ⟨r,rfl,h⟩;exact⟨_,rfl,h⟩))
  unfold xS
  rw[yo,wb hcell2,gr]
  simp only
  rw[w64 (by omega) (by omega),show (l.length:Int)-1=((l.length-1:Nat):Int) by omega]
  refine⟨by omega,by omega,?_⟩
  rw[Int.toNat_natCast,yd (vZ (by omega)),hlast]
  refine⟨by omega,by omega,?_⟩
  unfold lt
  have e1:slc 1 ⟨some (c,0),l.length,cap⟩ 0 ((l.length-1:Nat):Int)=⟨some (c,0),l.length-1,cap⟩:=by
   simp only[slc]
   rw[if_neg (by simp;omega)];simp
  rw[e1]
  refine zeq (t:=tb) (cs:=cs) (by unfold wi;rw[qk hne];exact h.blk) (by omega) ?_
  have htl:(l2.take (l.length-1)).length=l.length-1:=by rw[List.length_take];omega
  have e2:wi S c t j l2=wi S c t (ce (gt l 0)++j) (l2.take (l.length-1)):=by
   unfold wi
   congr 2
   rw[hlast] at hsplit
   conv=>lhs;rw[hsplit,kF]
   simp[fl]
  rw[e2,zeW hne]
  have e3:(⟨some (c,0),l.length-1,cap⟩:Sl)=⟨some (c,0),(l2.take (l.length-1)).length,cap⟩:=by rw[htl]
  rw[e3]
  refine hQ _ ⟨some (c,0),(l2.take (l.length-1)).length,cap⟩ (gt l 0) (l2.take (l.length-1)) hpl ?_ rfl rfl ⟨ck_mk (by unfold wi;rw[qk hne];exact zG) (vM h.cell) wi_c (by omega) ?_ hne (hh2.take (by omega)) (by omega),?_,fun x hx=>.inl hx,Grows.refl.set.set⟩
  ·intro x hx
   have:x∈l:=hpl.symm.subset (List.mem_cons_of_mem _ hx)
   obtain⟨k,hk,rfl⟩:=List.getElem_of_mem this
   rw[←zcV hk]
   exact h.heap.least bf_ord zbz k hk
  ·rw[List.length_append,xR,hj,htl,show cap-(l.length-1)=(cap-l.length)+1 by omega,Nat.add_mul];omega
  ·intro x hx hw
   simp only[own,List.mem_cons,List.not_mem_nil,or_false,not_or] at hw
   unfold wi
   rw[qk hw.2,qk hw.1]
end
end Go.Proofs.YtabdpmnhjlmnlaaGreatDoor.Hq
end
section
namespace Go.Proofs.YtabdpmnhjlmnlaaGreatDoor
open Go Go.Pt
attribute [local irreducible] Code.wp Back bodyPost wpList FR WL WC WQ WA AW Tr Yc HC AllC
set_option maxRecDepth 20000
set_option maxHeartbeats 4000000
set_option linter.unusedVariables false
end Go.Proofs.YtabdpmnhjlmnlaaGreatDoor
end
section
namespace Go.Proofs.YtabdpmnhjlmnlaaGreatDoor
open Go Go.Pt
attribute [local irreducible] Code.wp Back bodyPost wpList FR WL WC WQ WA AW Tr Yc HC AllC
set_option maxRecDepth 20000
set_option maxHeartbeats 4000000
set_option linter.unusedVariables false
def va (S:Mem) (w:Int) (atx:Int) (n:Int) (Q:Int→Mem→Prop):Prop:=
 jn (fun (Sx:Mem)=>
 0≤atx ∧
 if n<64 then
 0≤n ∧
 Q (iand .u64 (ishr .u64 w atx) (IntKind.u64.wrap ((ishl .u64 1 n)-1))) Sx
 else
 Q (ishr .u64 w atx) Sx) fun Jx=>
 if atx<0 then
 Q 0 S
 else
 if 63<atx then
 Q 0 S
 else
 if n≤0 then
 Q 0 S
 else
 Jx S
theorem fM {S:Mem} {w:Int} {atx:Int} {n:Int} {Q:Int→Mem→Prop} (H:va S w atx n Q):vg S w atx n Q:=by
 unfold va at H
 exact Tr.intro Tryz.func165 E Tryz.ntmps165 E fun w0=>csr<|gv E E<|nx<|zo H (fun (J:Mem→Prop) (z:Unit) S=>J S) (fun z=>⟨28,[(0,.int .u64 w),(1,.int .i64 atx),(2,.int .i64 n)]⟩) (fun z=>[]) (fun _ Sx H1=>csr<|mv E E<|mv E E<|an H1 fun c H2=>s_p E (fb E E c)<|gv E E<|nx<|zx<|csr<|mv E E<|iteK H2 (fun c_1 H3=>s_p E (yT (zw E E) c_1)<|nx<|ctr E E<|mv E E<|mv E E<|an H3 fun c_2 H4=>s_p E (zcl E E c_2)<|s_p E (jC E E)<|s_p E (zbD E E)<|gv E E<|nxr<|mv E E<|gv E E<|nx<|zm<|zl Tryz.results165 (zf E zi) ⟨_,E,H4⟩) fun c_1 H3=>s_p E (yF (zw E E) c_1)<|nx<|cfs E E<|zk<|csr<|mv E E<|gv E E<|nx<|zm<|zl Tryz.results165 (zf E zi) ⟨_,E,H3⟩) (fun Jx hJx H5=>csr<|mv E E<|iteK H5 (fun c_3 H6=>s_p E (yT (zw E E) c_3)<|mv E E<|sk2 E E<|pk E E E<|mv E E<|sk2 E E<|pk E E E<|nx<|c_t E E<|csr<|gv E E<|nx<|zm<|ze<|zl Tryz.results165 (zf E zi) ⟨_,E,H6⟩) fun c_3 H6=>s_p E (yF (zw E E) c_3)<|mv E E<|mv E E<|iteK H6 (fun c_4 H7=>s_p E (yT (yu E E) c_4)<|pk E E E<|mv E E<|sk2 E E<|pk E E E<|nx<|c_t E E<|csr<|gv E E<|nx<|zm<|ze<|zl Tryz.results165 (zf E zi) ⟨_,E,H7⟩) fun c_4 H7=>s_p E (yF (yu E E) c_4)<|pk E E E<|mv E E<|mv E E<|iteK H7 (fun c_5 H8=>s_p E (yT (zdn E E) c_5)<|pk E E E<|nx<|c_t E E<|csr<|gv E E<|nx<|zm<|ze<|zl Tryz.results165 (zf E zi) ⟨_,E,H8⟩) fun c_5 H8=>s_p E (yF (zdn E E) c_5)<|pk E E E<|nx<|cfs E E<|hJx () _ _ _ _ [] H8 E ⟨E,E,E,True.intro⟩ E)
def wM (S:Mem) (w:Int) (atx:Int) (n:Int) (v:Int) (Q:Int→Mem→Prop):Prop:=
 jn (fun (Sx:Mem)=>
 jn (fun (mask:Int) (Sx_1:Mem)=>
 0≤atx ∧
 0≤atx ∧
 Q (ior .u64 (iandn .u64 w (ishl .u64 mask atx)) (ishl .u64 (iand .u64 v mask) atx)) Sx_1) fun Jx=>
 if n<64 then
 0≤n ∧
 Jx (IntKind.u64.wrap ((ishl .u64 1 n)-1)) Sx
 else
 Jx 18446744073709551615 Sx) fun Jx_1=>
 if atx<0 then
 Q w S
 else
 if 63<atx then
 Q w S
 else
 if n≤0 then
 Q w S
 else
 Jx_1 S
theorem jI {S:Mem} {w:Int} {atx:Int} {n:Int} {v:Int} {Q:Int→Mem→Prop} (H:wM S w atx n v Q):wS S w atx n v Q:=by
 unfold wM at H
 exact Tr.intro Tryz.func167 E Tryz.ntmps167 E fun w0=>csr<|gv E E<|nx<|zo H (fun (J:Mem→Prop) (z:Unit) S=>J S) (fun z=>⟨37,[(0,.int .u64 w),(1,.int .i64 atx),(2,.int .i64 n),(3,.int .u64 v)]⟩) (fun z=>[]) (fun _ Sx H1=>csr<|gv E E<|nx<|zo H1 (fun (J:Int→Mem→Prop) (z:Int) S=>J z S) (fun z=>⟨37,[(0,.int .u64 w),(1,.int .i64 atx),(3,.int .u64 v),(9,.int .u64 z)]⟩) (fun z=>[]) (fun mask Sx_1 H2=>zx<|zY (by kernel_rfl)<|aTP 0 E (by decide +kernel) E (zj E)<|by exact aTP 1 E (by decide +kernel) E (zj E)<|by exact aTP 2 E (by decide +kernel) E (zj E)<|by exact an H2 fun c H3=>aTP 3 E (by decide +kernel) E (zcl E E c)<|by exact aTP 4 E (by decide +kernel) E (zeT E E)<|by exact aTP 5 E (by decide +kernel) E (zj E)<|by exact aTP 6 E (by decide +kernel) E (zj E)<|by exact aTP 7 E (by decide +kernel) E (zbD E E)<|by exact aTP 8 E (by decide +kernel) E (zj E)<|by exact an H3 fun c_1 H4=>aTP 9 E (by decide +kernel) E (zcl E E c_1)<|by exact aTP 10 E (by decide +kernel) E (zfC E E)<|by exact aTP 11 E (by decide +kernel) E (zW E)<|by exact zE (by decide +kernel)<|by exact zk<|zm<|zl Tryz.results167 (zf E zi) ⟨_,E,H4⟩) (fun Jx hJx H5=>csr<|mv E E<|iteK H5 (fun c_2 H6=>s_p E (yT (zw E E) c_2)<|nx<|ctr E E<|mv E E<|an H6 fun c_3 H7=>s_p E (zcl E E c_3)<|s_p E (jC E E)<|gv E E<|zu<|hJx (IntKind.u64.wrap ((ishl .u64 1 n)-1)) _ _ _ _ [] H7 E ⟨E,E,E,E,True.intro⟩ E) fun c_2 H6=>s_p E (yF (zw E E) c_2)<|nx<|cfs E E<|hJx 18446744073709551615 _ _ _ _ [] H6 E ⟨E,E,E,E,True.intro⟩ E)) (fun Jx_1 hJx_1 H8=>csr<|mv E E<|iteK H8 (fun c_4 H9=>s_p E (yT (zw E E) c_4)<|mv E E<|sk2 E E<|pk E E E<|mv E E<|sk2 E E<|pk E E E<|nx<|c_t E E<|csr<|mv E E<|gv E E<|nx<|zm<|ze<|zl Tryz.results167 (zf E zi) ⟨_,E,H9⟩) fun c_4 H9=>s_p E (yF (zw E E) c_4)<|mv E E<|mv E E<|iteK H9 (fun c_5 H10=>s_p E (yT (yu E E) c_5)<|pk E E E<|mv E E<|sk2 E E<|pk E E E<|nx<|c_t E E<|csr<|mv E E<|gv E E<|nx<|zm<|ze<|zl Tryz.results167 (zf E zi) ⟨_,E,H10⟩) fun c_5 H10=>s_p E (yF (yu E E) c_5)<|pk E E E<|mv E E<|mv E E<|iteK H10 (fun c_6 H11=>s_p E (yT (zdn E E) c_6)<|pk E E E<|nx<|c_t E E<|csr<|mv E E<|gv E E<|nx<|zm<|ze<|zl Tryz.results167 (zf E zi) ⟨_,E,H11⟩) fun c_6 H11=>s_p E (yF (zdn E E) c_6)<|pk E E E<|nx<|cfs E E<|hJx_1 () _ _ _ _ [] H11 E ⟨E,E,E,E,True.intro⟩ E)
def qF (S:Mem) (code:Int) (Q:Int→Mem→Prop):Prop:=
 al S 3 ([.int .i64 0,.int .i64 9,.int .i64 9,.int .i64 7,.int .i64 7,.int .i64 7,.int .i64 7,.int .i64 7,.int .i64 7,.int .i64 7,.int .i64 7,.int .i64 11,.int .i64 11,.int .i64 11,.int .i64 11,.int .i64 11,.int .i64 11,.int .i64 11,.int .i64 9,.int .i64 9,.int .i64 8,.int .i64 0,.int .i64 0]) fun b Sx=>
 0≤code∧code<23 ∧
 gI (Sx.cell b (0+code.toNat*1)) .i64 fun t=>
 Q t Sx
theorem ws {S:Mem} {code:Int} {Q:Int→Mem→Prop} (H:qF S code Q):qR S code Q:=by
 unfold qF at H
 exact Tr.intro Tryz.func73 E Tryz.ntmps73 E fun w0=>csr<|gv E E<|nxr<|zaB E E (by decide) E fun b=>vy 0 E fun hb=>have H1:=H b hb;mv E E<|an2 H1 fun c c_1 H2=>s_p E (qG E E c c_1 E)<|gx H2 fun t ht H3=>s_v E (zB E) (zV ht)<|gv E E<|nx<|zm<|zl Tryz.results73 (zf E zi) ⟨_,E,H3⟩
def qS (S:Mem) (code:Int) (a:Int) (b:Int) (c:Int) (n:Int) (Q:Int→Mem→Prop):Prop:=
 qR S code fun t Sx=>
 if Int.tmod (IntKind.i64.wrap (Int.tdiv t 4)) 2=1 then
 Q (IntKind.u32.wrap ((IntKind.u32.wrap ((IntKind.u32.wrap ((IntKind.u32.wrap ((IntKind.u32.wrap code)*67108864))+(IntKind.u32.wrap ((IntKind.u32.wrap a)*4194304))))+(IntKind.u32.wrap ((IntKind.u32.wrap b)*262144))))+(IntKind.u32.wrap c))) Sx
 else
 Q (IntKind.u32.wrap ((IntKind.u32.wrap ((IntKind.u32.wrap ((IntKind.u32.wrap ((IntKind.u32.wrap code)*67108864))+(IntKind.u32.wrap ((IntKind.u32.wrap a)*4194304))))+(IntKind.u32.wrap ((IntKind.u32.wrap b)*262144))))+(IntKind.u32.wrap (IntKind.u16.wrap n)))) Sx
theorem wO {S:Mem} {code:Int} {a:Int} {b:Int} {c:Int} {n:Int} {Q:Int→Mem→Prop} (H:qS S code a b c n Q):xC S code a b c n Q:=by
 unfold qS at H
 exact Tr.intro Tryz.func29 E Tryz.ntmps29 E fun w0=>csr<|gv E E<|nxr<|mv E E<|s_p E (yl ⟨_,Tryz.underlying5⟩ E)<|s_p E (jh E E)<|mv E E<|s_p E (yl ⟨_,Tryz.underlying5⟩ E)<|s_p E (jh E E)<|s_p E (zU E E)<|mv E E<|s_p E (yl ⟨_,Tryz.underlying5⟩ E)<|s_p E (jh E E)<|s_p E (zU E E)<|gv E E<|nx<|zx<|csr<|mv E E<|qW E E H fun t Sx H1=>s_p E (zap E E (by decide))<|s_p E (gn E E (by decide))<|iteK H1 (fun c_1 H2=>ceT E E E (c_1)<|nx<|c_t E E<|csr<|mv E E<|mv E E<|s_p E (yl ⟨_,Tryz.underlying5⟩ E)<|s_p E (zU E E)<|gv E E<|nx<|zm<|ze<|zl Tryz.results29 (zf E zi) ⟨_,E,H2⟩) fun c_1 H2=>ceF E E E (c_1)<|nx<|cfs E E<|zk<|csr<|mv E E<|mv E E<|s_p E (yl ⟨_,Tryz.underlying54⟩ E)<|s_p E (yl ⟨_,Tryz.underlying166⟩ E)<|s_p E (zU E E)<|gv E E<|nx<|zm<|zl Tryz.results29 (zf E zi) ⟨_,E,H2⟩
end Go.Proofs.YtabdpmnhjlmnlaaGreatDoor
end
section
namespace Go.Proofs.YtabdpmnhjlmnlaaGreatDoor
open Go Go.Pt
attribute [local irreducible] Code.wp Back bodyPost wpList FR WL WC WQ WA AW Tr Yc HC AllC
set_option maxRecDepth 20000
set_option maxHeartbeats 4000000
set_option linter.unusedVariables false
def gg (S:Mem) (p:Sl) (Q:Int→Mem→Prop):Prop:=
 jn (fun (w:Int) (Sx:Mem)=>
 Q w Sx) fun Jx=>
 lp (fun Xx (z:Int×Int) (Sx_1:Mem)=>
 match z with
 | (w_1,t)=>
 if t<(p.n:Int) then
 sl p fun b o n n_1=>
 0≤t∧t<((n:Nat):Int) ∧
 gI (Sx_1.cell b (o+t.toNat*1)) .u8 fun t_1=>
 if t<8 then
 0≤IntKind.i64.wrap (8*t) ∧
 Xx (ior .u64 w_1 (ishl .u64 (IntKind.u64.wrap t_1) (IntKind.i64.wrap (8*t))),IntKind.i64.wrap (t+1)) Sx_1
 else
 Xx (w_1,IntKind.i64.wrap (t+1)) Sx_1
 else
 Jx w_1 Sx_1) (0,0) S
theorem zct {S:Mem} {p:Sl} {Q:Int→Mem→Prop} (H:gg S p Q):zaq S p Q:=by
 unfold gg at H
 exact Tr.intro Tryz.func164 E Tryz.ntmps164 E fun w0=>csr<|gv E E<|nxr<|gv E E<|nx<|zo H (fun (J:Int→Mem→Prop) (z:Int) S=>J z S) (fun z=>⟨24,[(3,.int .u64 z)]⟩) (fun z=>[]) (fun w Sx H1=>csr<|mv E E<|gv E E<|nx<|zm<|zl Tryz.results164 (zf E zi) ⟨_,E,H1⟩) (fun Jx hJx H2=>csr<|mv E E<|s_p E (qy E)<|mv E E<|nx<|zs<|qh (fun z=>⟨24,[(3,.int .u64 z.1),(6,eL p),(7,.int .i64 (p.n:Int)),(8,.int .i64 z.2)]⟩) (fun z=>[]) (0,0) (idx:=[]) H2 E ⟨E,E,E,E,True.intro⟩ E<|by rintro Xx hXx ⟨w_1,t⟩ Sx_1 H3;exact csr<|iteK H3 (fun c H4=>s_p E (yT (zw E E) c)<|nx<|zx<|c_t E E<|qg<|zk<|zx<|zs<|csr<|mv E E<|by obtain⟨b,o,n,n_1,rfl,H5⟩:=H4;exact an2 H5 fun c_1 c_2 H6=>s_p E (qG E E c_1 c_2 E)<|gx H6 fun t_1 ht_1 H7=>s_v E (zB E) (zV ht_1)<|gv E E<|gv E E<|nxr<|mv E E<|iteK H7 (fun c_3 H8=>s_p E (yT (zw E E) c_3)<|nx<|ctr E E<|mv E E<|mv E E<|s_p E (yl ⟨_,Tryz.underlying5⟩ E)<|mv E E<|s_p E (jh E E)<|an H8 fun c_4 H9=>s_p E (zcl E E c_4)<|s_p E (zfC E E)<|gv E E<|zu<|zQ<|zk<|zr<|s_p E (zU E E)<|mv E E<|zu<|hXx (ior .u64 w_1 (ishl .u64 (IntKind.u64.wrap t_1) (IntKind.i64.wrap (8*t))),IntKind.i64.wrap (t+1)) _ _ _ _ [] H9 E ⟨E,E,E,E,True.intro⟩ E) fun c_3 H8=>s_p E (yF (zw E E) c_3)<|nx<|cfs E E<|zQ<|zk<|zr<|s_p E (zU E E)<|mv E E<|zu<|hXx (w_1,IntKind.i64.wrap (t+1)) _ _ _ _ [] H8 E ⟨E,E,E,E,True.intro⟩ E) fun c H4=>s_p E (yF (zw E E) c)<|nx<|zx<|c_f E E<|zT<|zg<|zg<|zv<|hJx w_1 _ _ _ _ [] H4 E ⟨E,True.intro⟩ E)
def vb (S:Mem) (w:Int) (Q:Sl→Mem→Prop):Prop:=
 al S 5 ([.int .u8 0,.int .u8 0,.int .u8 0,.int .u8 0,.int .u8 0,.int .u8 0,.int .u8 0,.int .u8 0]) fun b Sx=>
 jn (fun (Sx_1:Mem)=>
 Q (⟨some (b,0),8,8⟩) Sx_1) fun Jx=>
 lp (fun Xx (t:Int) (Sx_2:Mem)=>
 if t<8 then
 0≤IntKind.i64.wrap (8*t) ∧
 0≤t∧t<8 ∧
 pt Sx_2 b (0+t.toNat*1) 1 ([.int .u8 (IntKind.u8.wrap (ishr .u64 w (IntKind.i64.wrap (8*t))))]) fun Sx_3=>
 Xx (IntKind.i64.wrap (t+1)) Sx_3
 else
 Jx Sx_2) 0 Sx
theorem fO {S:Mem} {w:Int} {Q:Sl→Mem→Prop} (H:vb S w Q):kK S w Q:=by
 unfold vb at H
 exact Tr.intro Tryz.func166 E Tryz.ntmps166 E fun w0=>csr<|gv E E<|nxr<|zfb E E E (by decide) (by decide) (by decide) (by decide) fun b=>vy 0 E fun hb=>have H1:=H b hb;gv E E<|nx<|zo H1 (fun (J:Mem→Prop) (z:Unit) S=>J S) (fun z=>⟨21,[(3,.slice (some ⟨b,0,none⟩) 8 8)]⟩) (fun z=>[]) (fun _ Sx_1 H2=>csr<|mv E E<|gv E E<|nx<|zm<|zl Tryz.results166 (zf E zi) ⟨_,E,H2⟩) (fun Jx hJx H3=>csr<|mv E E<|s_p E (qy E)<|mv E E<|nx<|zs<|qh (fun z=>⟨21,[(0,.int .u64 w),(3,.slice (some ⟨b,0,none⟩) 8 8),(7,.int .i64 8),(8,.int .i64 z)]⟩) (fun z=>[]) 0 (idx:=[]) H3 E ⟨E,E,E,E,True.intro⟩ E<|fun Xx hXx t Sx_2 H4=>csr<|iteK H4 (fun c H5=>s_p E (yT (zw E E) c)<|nx<|zx<|c_t E E<|qg<|zk<|zx<|zs<|csr<|mv E E<|gv E E<|nx<|zr<|mv E E<|mv E E<|mv E E<|mv E E<|s_p E (jh E E)<|an H5 fun c_1 H6=>s_p E (fb E E c_1)<|s_p E (yl ⟨_,Tryz.underlying39⟩ E)<|an2 H6 fun c_2 c_3 H7=>s_p E (qG E E c_2 c_3 E)<|by exact an H7 fun c_4 H8=>wW E E E E E c_4 E<|zu<|zQ<|zk<|zr<|s_p E (zU E E)<|mv E E<|zu<|hXx (IntKind.i64.wrap (t+1)) _ _ _ _ [] H8 E ⟨E,E,E,E,True.intro⟩ E) fun c H5=>s_p E (yF (zw E E) c)<|nx<|zx<|c_f E E<|zT<|zg<|zg<|zv<|hJx () _ _ _ _ [] H5 E ⟨E,True.intro⟩ E)
end Go.Proofs.YtabdpmnhjlmnlaaGreatDoor
end
section
namespace Go.Pt
open Go Go.RowKit
abbrev Rho:=Nat→Option Nat
def Rho.upd (ρ:Rho) (b r:Nat):Rho:=fun x=>if x=b then some r else ρ x
theorem yp {ρ:Rho} {b r:Nat}:(ρ.upd b r) b=some r:=by simp[Rho.upd]
theorem yV {ρ:Rho} {b r c:Nat} (h:c≠b):(ρ.upd b r) c=ρ c:=by simp[Rho.upd,h]
structure Mv (S:Mem) (ρ:Rho) (S':Mem) (ρ':Rho) (R:Nat→Prop):Prop where
 ext:∀ b r,ρ b=some r→ρ' b=some r
 old:∀ b r,ρ' b=some r→S b≠none→ρ b=some r
 kp:∀ b,S b≠none→(∀ r,ρ b=some r→¬R r)→S' b=S b
 al:∀ b,S b≠none→S' b≠none
 rg:∀ b r,ρ' b=some r→S' b≠none
variable {S S' S'':Mem} {ρ ρ' ρ'':Rho} {R R':Nat→Prop}
theorem Mv.refl (h:∀ b r,ρ b=some r→S b≠none):Mv S ρ S ρ R:=⟨fun _ _ h=>h,fun _ _ h _=>h,fun _ _ _=>rfl,fun _ h=>h,h⟩
theorem Mv.trans (h:Mv S ρ S' ρ' R) (k:Mv S' ρ' S'' ρ'' R):Mv S ρ S'' ρ'' R:=
 ⟨fun b r e=>k.ext b r (h.ext b r e),fun b r e hb=>h.old b r (k.old b r e (h.al b hb)) hb,fun b hb hr=>by
  have e:=h.kp b hb hr
  rw[k.kp b (by rw[e];exact hb) fun r e'=>hr r (h.old b r e' hb),e],fun b hb=>k.al b (h.al b hb),k.rg⟩
theorem Mv.mono (h:Mv S ρ S' ρ' R) (hR:∀ r,R r→R' r):Mv S ρ S' ρ' R':=⟨h.ext,h.old,fun b hb hr=>h.kp b hb fun r e hr'=>hr r e (hR r hr'),h.al,h.rg⟩
theorem Mv.keeps (h:∀ b r,ρ b=some r→S b≠none) (hk:Keeps S S' []):Mv S ρ S' ρ R:=
 ⟨fun _ _ h=>h,fun _ _ h _=>h,fun b hb _=>hk b hb (by simp),fun b hb=>by rw[hk b hb (by simp)];exact hb,fun b r e=>by rw[hk b (h b r e) (by simp)];exact h b r e⟩
theorem Mv.claim (h:∀ b r,ρ b=some r→S b≠none) (hk:Keeps S S' []) {c r:Nat} (hc:S c=none) (hc':S' c≠none):Mv S ρ S' (ρ.upd c r) R:=by
 have k:=Mv.keeps (R:=R) h hk
 have hn:∀ b r',ρ b=some r'→b≠c:=fun b r' e e2=>by rw[e2] at e;exact h c r' e hc
 refine⟨fun b r' e=>by rw[yV (hn b r' e)];exact e,fun b r' e hb=>?_,k.kp,k.al,fun b r' e=>?_⟩
 ·rw[yV (fun e2=>by rw[e2] at hb;exact hb hc)] at e;exact e
 ·by_cases hbc:b=c
  ·rw[hbc];exact hc'
  ·rw[yV hbc] at e;exact k.rg b r' e
theorem Mv.put (h:Mv S ρ S' ρ' R) {b r:Nat} (hb:ρ' b=some r) (hr:R r) (k:Blk):Mv S ρ (S'.set b k) ρ' R:=
 ⟨h.ext,h.old,fun x hx hxr=>by
  by_cases e:x=b
  ·subst e;exact absurd hr (hxr r (h.old x r hb hx))
  ·rw[qk e];exact h.kp x hx hxr,fun x hx=>by
  by_cases e:x=b
  ·rw[e,zG];simp
  ·rw[qk e];exact h.al x hx,fun x r' e'=>by
  by_cases e:x=b
  ·rw[e,zG];simp
  ·rw[qk e];exact h.rg x r' e'⟩
theorem Mv.new (h:Mv S ρ S' ρ' R) {b:Nat} (hb:S' b=none) (k:Blk) (r:Nat):Mv S ρ (S'.set b k) (ρ'.upd b r) R:=by
 have h2:Mv S' ρ' (S'.set b k) (ρ'.upd b r) R:=Mv.claim h.rg (Keeps.refl.fresh hb) hb (by simp)
 exact h.trans h2
theorem Mv.then (h:Mv S ρ S' ρ' R) (hk:Keeps S' S'' []):Mv S ρ S'' ρ' R:=h.trans (Mv.keeps h.rg hk)
theorem Mv.keepsW {W:List Nat} (h:∀ b r,ρ b=some r→S b≠none) (hk:Keeps S S' W) (hW:∀ w∈W,S' w≠none∧∃ r,ρ w=some r∧R r):Mv S ρ S' ρ R:=
 ⟨fun _ _ h=>h,fun _ _ h _=>h,fun b hb hr=>by
  by_cases hw:b∈W
  ·obtain⟨_,r,e,h2⟩:=hW b hw;exact absurd h2 (hr r e)
  ·exact hk b hb hw,fun b hb=>by
  by_cases hw:b∈W
  ·exact (hW b hw).1
  ·rw[hk b hb hw];exact hb,fun b r e=>by
  by_cases hw:b∈W
  ·exact (hW b hw).1
  ·rw[hk b (h b r e) hw];exact h b r e⟩
structure Bl (S:Mem) (ρ:Rho) (r b:Nat) (k:Blk):Prop where
 at_:S b=some k
 rol:ρ b=some r
theorem Bl.keep {r b:Nat} {k:Blk} (h:Bl S ρ r b k) (m:Mv S ρ S' ρ' R) (hr:¬R r):Bl S' ρ' r b k:=
 ⟨by rw[m.kp b (by rw[h.at_];simp) fun r' e=>by rw[h.rol] at e;cases e;exact hr];exact h.at_,m.ext b r h.rol⟩
theorem Bl.ne {r r' b b':Nat} {k k':Blk} (h:Bl S ρ r b k) (h':Bl S ρ r' b' k') (hr:r≠r'):b≠b':=fun e=>by
 have:=h.rol;rw[e,h'.rol] at this;cases this;exact hr rfl
structure Rw (S:Mem) (ρ:Rho) (r size:Nat) (s:Sl) (l:List Value):Prop where
 row:Row S size s l
 rol:∀ b o,s.p=some (b,o)→ρ b=some r
theorem Rw.nil {r size:Nat}:Rw S ρ r size ⟨none,0,0⟩ []:=⟨Row.nil,fun b o h=>by cases h⟩
theorem Rw.keep {r size:Nat} {s:Sl} {l:List Value} (h:Rw S ρ r size s l) (m:Mv S ρ S' ρ' R) (hr:¬R r):Rw S' ρ' r size s l:=
 ⟨h.row.keep fun b hb=>m.kp b (by
  rcases h.row.lie with ⟨h1,_⟩ | ⟨b',k,h1,h2,_⟩
  ·rw[h1] at hb;cases hb
  ·rw[h1] at hb;cases hb;rw[h2];simp) fun r' e=>by rw[h.rol b 0 hb] at e;cases e;exact hr,fun b o hb=>m.ext b r (h.rol b o hb)⟩
theorem Rw.ne {r r' size b:Nat} {s:Sl} {l:List Value} {k:Blk} (h:Rw S ρ r size s l) (h':Bl S ρ r' b k) (hr:r≠r'):∀ o,s.p≠some (b,o):=fun o e=>by
 have:=h.rol b o e;rw[h'.rol] at this;cases this;exact hr rfl
theorem zeP {S0:Mem} {ρ0:Rho} {r e size bytes m:Nat} {z l vs:List Value} {s:Sl} {K:Sl→Mem→Prop} (hm0:Mv S0 ρ0 S ρ R) (hr:R r) (h:Rw S ρ r size s l) (hv:vs.length=m*size) (hm:0<m) (hz:z.length=size) (lim:(2*(s.n+m)+1024)*bytes≤281474976710656)
  (hK:∀ (s':Sl) (S':Mem) (ρ':Rho),Mv S0 ρ0 S' ρ' R→Mv S ρ S' ρ' (· = r)→Rw S' ρ' r size s' (l++vs)→s'.n=s.n+m→K s' S'):ap S e size bytes z s m vs K:=
 kJ h.row hv hm hz lim fun s' S' b k hn hp hor hS' hrow=>by
  subst hS'
  have key:∃ ρ',Mv S ρ (S.set b k) ρ' (· = r)∧ρ' b=some r:=by
   rcases hor with h1 | h1
   ·exact⟨ρ,(Mv.refl (R:=(· = r)) hm0.rg).put (h.rol b 0 h1) rfl k,h.rol b 0 h1⟩
   ·exact⟨_,(Mv.refl hm0.rg).new h1 k r,yp⟩
  obtain⟨ρ',m1,hb⟩:=key
  exact hK s' _ ρ' (hm0.trans (m1.mono fun x hx=>by rw[hx];exact hr)) m1 ⟨hrow,fun b' o hb'=>by rw[hp] at hb';cases hb';exact hb⟩ hn
end Go.Pt
end
section
namespace Go.Pt
open Go Go.RowKit
structure At (S:Mem) (b o:Nat) (l:List Value):Prop where
 ex:∃ k,S b=some k∧k.fr=(0,0)∧lpart k.cs o l.length=some l
theorem zfa {cs l vs:List Value} {o i:Nat} (h:lpart cs o l.length=some l) (hi:i+vs.length≤l.length):spl cs (o+i) vs=spl cs o (spl l i vs):=by
 obtain⟨h1,_,_⟩:=qv h
 have hl:=qn hi
 apply List.ext_getElem?
 intro j
 rw[wC (by omega),wC (by omega),hl]
 by_cases hj:o≤j∧j<o+l.length
 ·rw[if_pos hj,wC hi]
  by_cases h2:i≤j-o∧j-o<i+vs.length
  ·rw[if_pos h2,if_pos (by omega)];congr 1;omega
  ·rw[if_neg h2,if_neg (by omega),xM h (j-o) (by omega)];congr 1;omega
 ·rw[if_neg hj,if_neg (by omega)]
theorem zdq {cs l l':List Value} {o:Nat} (h:o+l.length≤cs.length) (hl:l'.length=l.length):spl (spl cs o l) o l'=spl cs o l':=by
 apply List.ext_getElem?
 intro j
 rw[wC (by rw[qn h];omega),wC h,wC (by omega)]
 by_cases hj:o≤j∧j<o+l'.length
 ·rw[if_pos hj,if_pos hj]
 ·rw[if_neg hj,if_neg hj,if_neg (by omega)]
theorem zdp {cs l:List Value} {o:Nat} (h:lpart cs o l.length=some l):spl cs o l=cs:=by
 obtain⟨h1,_,_⟩:=qv h
 apply List.ext_getElem?
 intro j
 rw[wC h1]
 by_cases hj:o≤j∧j<o+l.length
 ·rw[if_pos hj,xM h (j-o) (by omega)];congr 1;omega
 ·rw[if_neg hj]
theorem zcN {cs l:List Value} {o:Nat} (h:o+l.length≤cs.length):lpart (spl cs o l) o l.length=some l:=by
 rw[qq (by rw[qn h];exact h)]
 congr 1
 apply List.ext_getElem?
 intro j
 rw[List.getElem?_take,List.getElem?_drop,wC h]
 by_cases hj:j<l.length
 ·rw[if_pos hj,if_pos (by omega)];congr 1;omega
 ·rw[if_neg hj,List.getElem?_eq_none (by omega)]
variable {S:Mem} {b o:Nat} {l:List Value}
theorem At.self (h:At S b o l):S.put b o l=S:=by
 obtain⟨k,h1,_,h3⟩:=h.ex
 rw[wa h1,zdp h3];exact zbb h1
theorem At.put (h:At S b o l) {l':List Value} (hl:l'.length=l.length):At (S.put b o l') b o l':=by
 obtain⟨k,h1,h2,h3⟩:=h.ex
 have h4:=(qv h3).1
 exact⟨⟨k.ty,spl k.cs o l',k.fr⟩,by rw[wa h1,zG],h2,zcN (by omega)⟩
theorem At.put2 (h:At S b o l) {l1 l2:List Value} (h1:l1.length=l.length) (h2:l2.length=l.length):(S.put b o l1).put b o l2=S.put b o l2:=by
 obtain⟨k,e1,_,e3⟩:=h.ex
 have h4:=(qv e3).1
 rw[wa e1,wa e1,wa (zG),zcv]
 simp only
 rw[zdq (by omega) (by omega)]
theorem At.cell (h:At S b o l) {i:Nat} (hi:i<l.length):S.cell b (o+i)=nthL l i:=by
 obtain⟨k,h1,_,h3⟩:=h.ex
 rw[qE h1,zK,zK,xM h3 i hi]
theorem At.part (h:At S b o l) {i n:Nat} (hi:i+n≤l.length):S.part b (o+i) n=lpart l i n:=by
 obtain⟨k,h1,_,h3⟩:=h.ex
 have h4:=qv h3
 rw[xL h1,qq (by omega),qq hi]
 congr 1
 apply List.ext_getElem?
 intro j
 rw[List.getElem?_take,List.getElem?_take,List.getElem?_drop,List.getElem?_drop]
 by_cases hj:j<n
 ·rw[if_pos hj,if_pos hj,xM h3 (i+j) (by omega)];congr 1;omega
 ·rw[if_neg hj,if_neg hj]
theorem At.all (h:At S b o l):S.part b o l.length=some l:=by
 obtain⟨k,h1,_,h3⟩:=h.ex
 rw[xL h1];exact h3
theorem At.pt (h:At S b o l) {i n:Nat} {vs:List Value} (hn:n=vs.length) (hi:i+vs.length≤l.length) {K:Mem→Prop} (hK:K (S.put b o (spl l i vs))):Go.Pt.pt S b (o+i) n vs K:=by
 obtain⟨k,h1,h2,h3⟩:=h.ex
 have h4:=qv h3
 refine⟨⟨k,h1,h2,by omega⟩,?_⟩
 have:S.put b (o+i) vs=S.put b o (spl l i vs):=by rw[wa h1,wa h1,zfa h3 hi]
 rw[this];exact hK
theorem At.keep {S':Mem} (h:At S b o l) (hk:S' b=S b):At S' b o l:=by
 obtain⟨k,h1,h2⟩:=h.ex
 exact⟨k,by rw[hk];exact h1,h2⟩
theorem At.some (h:At S b o l):S b≠none:=by
 obtain⟨k,h1,_⟩:=h.ex;rw[h1];simp
theorem At.mv {ρ:Rho} {R:Nat→Prop} {S0:Mem} {ρ0:Rho} (m:Mv S0 ρ0 S ρ R) (h:At S b o l) {r:Nat} (hb:ρ b=Option.some r) (hr:R r) (l':List Value):Mv S0 ρ0 (S.put b o l') ρ R:=by
 obtain⟨k,h1,_⟩:=h.ex
 rw[wa h1];exact m.put hb hr _
theorem Rw.at_ {ρ:Rho} {r w:Nat} {s:Sl} {A:List (List Value)} (h:Rw S ρ r w s A.flatten) (hw:∀ v∈A,v.length=w) {i:Nat} (hi:i<A.length) (hw0:0<w):∃ c,s=⟨Option.some (c,0),A.length,s.c⟩∧At S c (i*w) A[i]:=by
 have hfl:A.flatten.length=A.length*w:=by
  clear h hi
  induction A with
  | nil=>simp
  | cons x A ih=>
   have:=ih fun v hv=>hw v (by simp[hv])
   rw[List.flatten_cons,List.length_append,this,hw x (by simp),List.length_cons,Nat.add_mul];omega
 have hn:s.n=A.length:=by
  have:=h.row.len
  rw[hfl] at this
  exact (Nat.eq_of_mul_eq_mul_right hw0 this).symm
 have hcap:=h.row.cap
 rcases h.row.lie with ⟨_,h2⟩ | ⟨c,k,h1,h2,h3,h4,h5⟩
 ·omega
 refine⟨c,?_,⟨k,h2,h3,?_⟩⟩
 ·obtain⟨p,n,cc⟩:=s;simp only at h1 hn;subst h1;subst hn;rfl
 have hAi:A[i].length=w:=hw _ (List.getElem_mem hi)
 have hi1:(i+1)*w≤A.length*w:=Nat.mul_le_mul_right _ hi
 rw[Nat.add_mul,Nat.one_mul] at hi1
 have hcw:A.length*w≤s.c*w:=Nat.mul_le_mul_right _ (by omega)
 rw[qq (by omega)]
 congr 1
 have key:∀ (A:List (List Value)) (i:Nat) (hi:i<A.length),(∀ v∈A,v.length=w)→(A.flatten.drop (i*w)).take w=A[i]:=by
  intro A
  induction A with
  | nil=>intro i hi;simp at hi
  | cons x A ih=>
   intro i hi hw
   have hx:x.length=w:=hw x (by simp)
   cases i with
   | zero=>rw[Nat.zero_mul,List.drop_zero,List.flatten_cons,List.take_left' hx];rfl
   | succ i=>
    rw[List.flatten_cons,show (i+1)*w=x.length+i*w by rw[Nat.add_mul,hx];omega,←List.drop_drop,List.drop_left' rfl]
    exact ih i (by simpa using hi) fun v hv=>hw v (by simp[hv])
 have h6:=key A i hi hw
 rw[hAi,←h6,←h5]
 apply List.ext_getElem?
 intro j
 simp only[List.getElem?_take,List.getElem?_drop]
 by_cases hj:j<w
 ·rw[if_pos hj,if_pos hj,if_pos (by rw[hn];omega)]
 ·rw[if_neg hj,if_neg hj]
end Go.Pt
end
section
namespace Go.Cr
open Go Go.Pt
structure Seat where
 R:List Int
 pc:Int
 base:Int
 vec:Int
 epc:Int
 cause:Int
 addr:Int
 opn:Bool
 st:Int
 pend:Int
 mask:Int
def Seat.tail (s:Seat):List Value:=[.int .u64 s.pc,.int .u64 s.base,.int .u64 s.vec,.int .u64 s.epc,.int .u64 s.cause,.int .u64 s.addr,.bool s.opn,.int .u8 s.st,.int .u32 s.pend,.int .u32 s.mask]
def Seat.L (s:Seat):List Value:=s.R.map (Value.int .u64)++s.tail
abbrev W64 (x:Int):Prop:=0≤x∧x≤18446744073709551615
structure Seat.Ok (s:Seat):Prop where
 len:s.R.length=16
 r:∀ x∈s.R,W64 x
 pc:W64 s.pc
 base:W64 s.base
 vec:W64 s.vec
 epc:W64 s.epc
 cause:W64 s.cause
 addr:W64 s.addr
 st:0≤s.st∧s.st≤2
 pend:0≤s.pend∧s.pend≤255
 mask:0≤s.mask∧s.mask≤255
def seat0:Seat:=⟨List.replicate 16 0,0,0,0,0,0,0,false,0,0,0⟩
theorem zbd:seat0.Ok:=⟨rfl,fun x hx=>by rw[List.eq_of_mem_replicate hx];decide,by decide,by decide,by decide,by decide,by decide,by decide,by decide,by decide,by decide⟩
theorem zdD {A B:List Value} {n j:Nat} (h:A.length=n):nthL (A++B) (n+j)=nthL B j:=by
 rw[zK,zK,List.getElem?_append_right (by omega)]
 congr 1;omega
theorem kq:∀ {A B v:List Value} {n j:Nat},A.length=n→spl (A++B) (n+j) v=A++spl B j v
 | [],B,v,n,j,h=>by
  have:n=0:=by simpa using h.symm
  subst this;simp
 | a :: A,B,v,n,j,h=>by
  obtain⟨m,rfl⟩:∃ m,n=m+1:=⟨A.length,by simpa using h.symm⟩
  rw[show m+1+j=(m+j)+1 by omega]
  simp only[List.cons_append,spl]
  rw[kq (by simpa using h)]
variable {s:Seat}
theorem Seat.L_len (h:s.R.length=16):s.L.length=26:=by simp[Seat.L,Seat.tail,h]
section
variable (h:s.R.length=16)
include h
end
end Go.Cr
end
section
namespace Go.Cr
open Go Go.Pt Go.Lib
theorem qC {β:Type} {J:β} {B:β→Prop} (R:β→Prop) (hJ:R J) (hB:∀ j,R j→B j):jn J B:=hB J hJ
structure Pl (S:Mem) (b o:Nat):Prop where
 ex:∃ l,At S b o l∧l.length=26
theorem Pl.of {S:Mem} {b o:Nat} {s:Seat} (h:At S b o s.L) (hl:s.R.length=16):Pl S b o:=⟨_,h,Seat.L_len hl⟩
section
variable {S:Mem} {b o:Nat} {s:Seat}
theorem Pl.at_ (h:Pl S b o) (hl:s.R.length=16):At (S.put b o s.L) b o s.L:=by
 obtain⟨l,h1,h2⟩:=h.ex
 exact h1.put (by rw[Seat.L_len hl,h2])
theorem Pl.cell (h:Pl S b o) (hl:s.R.length=16) {i:Nat} (hi:i<26):(S.put b o s.L).cell b (o+i)=nthL s.L i:=(h.at_ hl).cell (by rw[Seat.L_len hl];exact hi)
theorem Pl.all (h:Pl S b o) (hl:s.R.length=16):(S.put b o s.L).part b o 26=some s.L:=by
 have:=(h.at_ hl).all
 rwa [Seat.L_len hl] at this
theorem Pl.pt (h:Pl S b o) (hl:s.R.length=16) {i:Nat} {v:Value} {s':Seat} (hi:i<26) (he:spl s.L i [v]=s'.L) {K:Mem→Prop} (hK:K (S.put b o s'.L)):Go.Pt.pt (S.put b o s.L) b (o+i) 1 [v] K:=by
 obtain⟨l,h1,h2⟩:=h.ex
 have hll:=Seat.L_len hl
 refine (h.at_ hl).pt (i:=i) (vs:=[v]) rfl (by rw[hll];show i+1≤26;omega) ?_
 have hl':s'.L.length=26:=by rw[←he,qn (by rw[hll];show i+1≤26;omega),hll]
 rw[he,h1.put2 (by omega) (by omega)]
 exact hK
end
def Seat.trap (s:Seat) (cause addr:Int):Seat:=if s.vec=0 then { s with st:=2 } else { s with epc:=s.pc,cause:=cause,addr:=addr,pc:=s.vec,opn:=false }
def Seat.back (s:Seat):Seat:={ s with pc:=s.epc,opn:=true }
def Seat.may (s:Seat):Int:=iand .u32 s.pend s.mask
def Seat.wake (s:Seat):Seat:=if s.st=1∧s.may≠0 then { s with st:=0 } else s
def low (m:Nat):Nat:=((List.range 8).find? fun i=>m/2 ^ i%2 == 1).getD 8
def nextL (s:Seat):Option Nat:=if s.opn=true∧s.may≠0 then some (low s.may.toNat) else none
end Go.Cr
namespace Go.Proofs.YtabdpmnhjlmnlaaGreatDoor
open Go Go.Pt Go.Cr Go.Lib
structure Gl (S:Mem):Prop where
 tab:∃ t fr,S 0=some ⟨t,deBruijn64tab.map fun (n:Nat)=>Value.int .u8 n,fr⟩
theorem Gl.keep {S S':Mem} (h:Gl S) (hk:S' 0=S 0):Gl S':=by
 obtain⟨t,fr,h1⟩:=h.tab
 exact⟨t,fr,by rw[hk];exact h1⟩
section
variable {S:Mem} {b o:Nat} {s:Seat}
end
end Go.Proofs.YtabdpmnhjlmnlaaGreatDoor
end
section
namespace Go.Cr
open Go Go.Pt
def cls (c:Int):Nat:=if c=0∨c=21∨c=22 then 0 else if c=1∨c=2∨c=18∨c=19 then 1 else if c=20 then 2 else if 11≤c∧c≤17 then 3 else 4
def fA:Nat→Bool | 1 | 3 | 4=>true | _=>false
def fB:Nat→Bool | 3 | 4=>true | _=>false
def fC:Nat→Bool | 4=>true | _=>false
def fN:Nat→Bool | 1 | 2 | 3=>true | _=>false
def kdL (m:Nat):List Value:=[.bool (fA m),.bool (fB m),.bool (fC m),.bool (fN m)]
def rf:Nat→Int | 0=>0 | 1=>9 | 2=>8 | 3=>11 | _=>7
def regR (f:Bool) (r:Int):Prop:=r=0∨(f=true∧r<16)
structure Rt (k a b c n:Int):Prop where
 kk:k<23
 aa:regR (fA (cls k)) a
 bb:regR (fB (cls k)) b
 cc:regR (fC (cls k)) c
 nn:fN (cls k)=true∨n=0
 rw:k=18∨k=19→0≤n∧n<9
instance (f:Bool) (r:Int):Decidable (regR f r):=by unfold regR;infer_instance
instance (k a b c n:Int):Decidable (Rt k a b c n):=
 decidable_of_iff (k<23∧regR (fA (cls k)) a∧regR (fB (cls k)) b∧regR (fC (cls k)) c∧(fN (cls k)=true∨n=0)∧(k=18∨k=19→0≤n∧n<9))
  ⟨fun⟨h1,h2,h3,h4,h5,h6⟩=>⟨h1,h2,h3,h4,h5,h6⟩,fun h=>⟨h.kk,h.aa,h.bb,h.cc,h.nn,h.rw⟩⟩
structure Bd (k a b c n:Int):Prop where
 kk:0≤k∧k≤255
 aa:0≤a∧a≤255
 bb:0≤b∧b≤255
 cc:0≤c∧c≤255
 nn : -32768≤n∧n≤32767
def opL (k a b c n:Int):List Value:=[.int .u8 k,.int .u8 a,.int .u8 b,.int .u8 c,.int .i16 n]
theorem wv (w n:Nat):BitVec.ofInt w (n:Int)=BitVec.ofNat w n:=by
 apply BitVec.eq_of_toNat_eq;simp
theorem kC {a b:Nat} (ha:a<18446744073709551616) (hb:b<18446744073709551616):iand .u64 a b=((a &&& b:Nat):Int):=by
 unfold iand
 show IntKind.u64.wrap ((BitVec.ofInt 64 (a:Int) &&& BitVec.ofInt 64 (b:Int)).toNat:Int)=_
 rw[wv,wv,BitVec.toNat_and,BitVec.toNat_ofNat,BitVec.toNat_ofNat,Nat.mod_eq_of_lt ha,Nat.mod_eq_of_lt hb]
 have:a &&& b≤a:=Nat.and_le_left
 exact wu64 (by omega) (by omega)
theorem jW {a b:Nat} (ha:a<18446744073709551616) (hb:b<18446744073709551616):ior .u64 a b=((a ||| b:Nat):Int):=by
 unfold ior
 show IntKind.u64.wrap ((BitVec.ofInt 64 (a:Int) ||| BitVec.ofInt 64 (b:Int)).toNat:Int)=_
 rw[wv,wv,BitVec.toNat_or,BitVec.toNat_ofNat,BitVec.toNat_ofNat,Nat.mod_eq_of_lt ha,Nat.mod_eq_of_lt hb]
 have:a ||| b<2 ^ 64:=Nat.or_lt_two_pow (by omega) (by omega)
 exact wu64 (by omega) (by omega)
theorem jg {X j b:Nat} (hb:b<2 ^ j):(X*2 ^ j) ||| b=X*2 ^ j+b:=by
 rw[←Nat.shiftLeft_eq,Nat.shiftLeft_add_eq_or_of_lt hb]
def wrd (k a b c n:Int):Int:=k*67108864+a*4194304+b*262144+(if fC (cls k)=true then c else n%65536)
theorem fD {a s:Nat} (hs:s≤63) (h:a*2 ^ s<18446744073709551616):ishl .u64 (a:Int) (s:Int)=((a*2 ^ s:Nat):Int):=by
 unfold ishl
 have e:min ((s:Int)).toNat IntKind.u64.bits=s:=by
  show min ((s:Int)).toNat 64=s
  simp;omega
 rw[e]
 have e2:((a:Int)*2 ^ s)=((a*2 ^ s:Nat):Int):=by push_cast;rfl
 rw[e2]
 exact wu64 (by omega) (by omega)
theorem fw {a s:Nat} (hs:s≤63):ishr .u64 (a:Int) (s:Int)=((a/2 ^ s:Nat):Int):=by
 unfold ishr
 have e:min ((s:Int)).toNat IntKind.u64.bits=s:=by
  show min ((s:Int)).toNat 64=s
  simp;omega
 rw[e]
 have e2:((2:Int) ^ s)=((2 ^ s:Nat):Int):=by push_cast;rfl
 rw[e2,Int.fdiv_eq_ediv_of_nonneg _ (Int.natCast_nonneg _)]
 exact (Int.natCast_ediv _ _).symm
def dK (w:Int):Int:=w/67108864%64
def dA (w:Int):Int:=w/4194304%16
def dB (w:Int):Int:=w/262144%16
def dC (w:Int):Int:=if fC (cls (dK w))=true then w%16 else 0
def dN (w:Int):Int:=if fC (cls (dK w))=true then 0 else IntKind.i16.wrap (w%65536)
def isW (w:Int):Prop:=Rt (dK w) (dA w) (dB w) (dC w) (dN w)∧wrd (dK w) (dA w) (dB w) (dC w) (dN w)=w
instance (w:Int):Decidable (isW w):=by unfold isW;infer_instance
end Go.Cr
namespace Go.Proofs.YtabdpmnhjlmnlaaGreatDoor
open Go Go.Pt Go.Cr
section
variable {S:Mem}
theorem gu {c:Int} (h0:0≤c) (h1:c<23) {Q:Int→Mem→Prop} (hQ:∀ S',Keeps S S' []→Q (rf (cls c)) S'):qR S c Q:=by
 apply ws
 unfold qF
 intro b hb
 refine⟨h0,h1,?_⟩
 have hq:=hQ (S.set b (bw 3 ([.int .i64 0,.int .i64 9,.int .i64 9,.int .i64 7,.int .i64 7,.int .i64 7,.int .i64 7,.int .i64 7,.int .i64 7,.int .i64 7,.int .i64 7,.int .i64 11,.int .i64 11,.int .i64 11,.int .i64 11,.int .i64 11,.int .i64 11,.int .i64 11,.int .i64 9,.int .i64 9,.int .i64 8,.int .i64 0,.int .i64 0]))) (Keeps.refl.new hb)
 rw[yd (n:=rf (cls c)) ?_]
 ·exact hq
 ·rw[qE zG]
  have:∀ i:Fin 23,nthL ([.int .i64 0,.int .i64 9,.int .i64 9,.int .i64 7,.int .i64 7,.int .i64 7,.int .i64 7,.int .i64 7,.int .i64 7,.int .i64 7,.int .i64 7,.int .i64 11,.int .i64 11,.int .i64 11,.int .i64 11,.int .i64 11,.int .i64 11,.int .i64 11,.int .i64 9,.int .i64 9,.int .i64 8,.int .i64 0,.int .i64 0]:List Value) (0+i.1*1)=some (.int .i64 (rf (cls (i.1:Int)))):=by
   rintro⟨i,hi⟩
   match i,hi with
   | 0,_=>rfl
   | 1,_=>rfl
   | 2,_=>rfl
   | 3,_=>rfl
   | 4,_=>rfl
   | 5,_=>rfl
   | 6,_=>rfl
   | 7,_=>rfl
   | 8,_=>rfl
   | 9,_=>rfl
   | 10,_=>rfl
   | 11,_=>rfl
   | 12,_=>rfl
   | 13,_=>rfl
   | 14,_=>rfl
   | 15,_=>rfl
   | 16,_=>rfl
   | 17,_=>rfl
   | 18,_=>rfl
   | 19,_=>rfl
   | 20,_=>rfl
   | 21,_=>rfl
   | 22,_=>rfl
   | n+23,h=>exact absurd h (by omega)
  have h2:=this ⟨c.toNat,by omega⟩
  rw[show ((⟨c.toNat,by omega⟩:Fin 23).1:Int)=c by simp;omega] at h2
  exact h2
end
end Go.Proofs.YtabdpmnhjlmnlaaGreatDoor
end
section
namespace Go.Cr
open Go Go.Pt
structure GM where
 map:Nat→Option (Nat×Bool)
 dat:Nat→List Int
def Byt (l:List Int):Prop:=∀ x∈l,0≤x∧x≤255
structure GM.Ok (g:GM):Prop where
 pg:∀ p,32≤p→g.map p=none
 len:∀ p f w,g.map p=some (f,w)→(g.dat f).length=256
 byt:∀ p f w,g.map p=some (f,w)→Byt (g.dat f)
def num:List Int→Int
 | []=>0
 | x :: l=>x+256*num l
theorem zcH:∀ {l:List Int},Byt l→0≤num l∧num l<256 ^ l.length
 | [],_=>by simp[num]
 | x :: l,h=>by
  have h1:=h x (by simp)
  have h2:=zcH (l:=l) fun y hy=>h y (by simp[hy])
  simp only[num,List.length_cons,Int.pow_succ]
  omega
theorem gK:∀ (l r:List Int),num (l++r)=num l+256 ^ l.length*num r
 | [],r=>by simp[num]
 | x :: l,r=>by
  simp only[List.cons_append,num,List.length_cons,Int.pow_succ,gK l r]
  rw[Int.mul_add,Int.mul_comm (256 ^ l.length) 256,Int.mul_assoc]
  omega
def bytes8 (w:Int):List Int:=(List.range 8).map fun i=>w/2 ^ (8*i)%256
theorem xc (w:Int):(bytes8 w).length=8:=by simp[bytes8]
theorem wy (w:Int):Byt (bytes8 w):=fun x hx=>by
 obtain⟨i,_,rfl⟩:=List.mem_map.1 hx
 omega
def ldB (g:GM) (page off n:Nat):Option (List Int):=(g.map page).map fun q=>((g.dat q.1).drop off).take n
def place (s:Seat) (g:GM) (addr:Int) (wr:Bool):Option (Nat×Nat):=
 if 31<addr/256 then none
 else if s.base=0 then some ((addr/256).toNat,(addr%256).toNat)
 else if 31<s.base/256 then none
 else match ldB g (s.base/256).toNat (8*(addr/256)).toNat 8 with
  | none=>none
  | some p=>if num p%2=0∨(wr=true∧num p/2%2=0)∨31<num p/256 then none else some ((num p/256).toNat,(addr%256).toNat)
def getW (s:Seat) (g:GM) (addr:Int) (n:Nat):Option Int:=match place s g addr false with
 | none=>none
 | some q=>if addr%n≠0 then none else (ldB g q.1 q.2 n).map num
def wrB (g:GM) (f off:Nat) (l:List Int):GM:={ g with dat:=fun x=>if x=f then (g.dat f).take off++l++(g.dat f).drop (off+l.length) else g.dat x }
def putW (s:Seat) (g:GM) (addr w:Int):Option GM:=match place s g addr true with
 | none=>none
 | some q=>if addr%8≠0 then none else match g.map q.1 with
  | some (f,true)=>some (wrB g f q.2 (bytes8 w))
  | _=>none
structure Out where
 s:Seat
 k:Int
 n:Int
 g:GM
def trapM (s:Seat) (g:GM) (c a:Int):Out:=⟨s.trap c a,if (s.trap c a).st=2 then 4 else 1,c,g⟩
def x64 (n:Int):Int:=IntKind.u64.wrap n
def getR (s:Seat) (time:Int) (me:Int) (n:Int):Int:=if n=0 then s.base else if n=1 then s.vec else if n=2 then s.epc else if n=3 then s.cause else if n=4 then s.addr else if n=5 then s.mask else if n=6 then (if s.opn=true then 1 else 0) else if n=7 then time else me
def setR (s:Seat) (n v:Int):Option Seat:=if n=0 then some { s with base:=v } else if n=1 then some { s with vec:=v } else if n=2 then some { s with epc:=v } else if n=3 then some { s with cause:=v } else if n=4 then some { s with addr:=v } else if n=5 then some { s with mask:=v%256 } else if n=6 then some { s with opn:=decide (v%2=1) } else none
def sumM (k b c:Int):Int:=if k=3 then x64 (b+c) else if k=4 then x64 (b-c) else if k=5 then x64 (b*c) else if k=6 then iand .u64 b c else if k=7 then ior .u64 b c else if k=8 then ixor .u64 b c else if k=9 then ishl .u64 b (c%64) else ishr .u64 b (c%64)
def Seat.r (s:Seat) (i:Int):Int:=s.R.getD i.toNat 0
def Seat.setr (s:Seat) (i v:Int):Seat:={ s with R:=s.R.set i.toNat v }
def doM (s:Seat) (g:GM) (time me k a b c n:Int):Out:=
 let N:=x64 n
 let nx:=x64 (s.pc+4)
 let ok (t:Seat) (pc:Int):Out:=⟨{ t with pc:=pc },0,0,g⟩
 if k=1 then ok (s.setr a N) nx
 else if k=2 then ok (s.setr a (x64 (s.r a%65536+x64 (N*65536)))) nx
 else if k=11 then ok (s.setr a (x64 (s.r b+N))) nx
 else if k=12 then match getW s g (x64 (s.r b+N)) 8 with
  | some v=>ok (s.setr a v) nx
  | none=>trapM s g 3 (x64 (s.r b+N))
 else if k=13 then match putW s g (x64 (s.r b+N)) (s.r a) with
  | some g'=>⟨{ s with pc:=nx },0,0,g'⟩
  | none=>trapM s g 4 (x64 (s.r b+N))
 else if k=14 then ok s (if s.r a=s.r b then x64 (s.pc+x64 (4*N)) else nx)
 else if k=15 then ok s (if s.r a≠s.r b then x64 (s.pc+x64 (4*N)) else nx)
 else if k=16 then ok s (if IntKind.i64.wrap (s.r a)<IntKind.i64.wrap (s.r b) then x64 (s.pc+x64 (4*N)) else nx)
 else if k=17 then ok (s.setr a nx) (x64 (s.r b+N))
 else if k=18 then ok (s.setr a (getR s time me n)) nx
 else if k=19 then match setR s n (s.r a) with
  | some t=>ok t nx
  | none=>trapM s g 1 s.pc
 else if k=20 then ⟨{ s with pc:=nx },2,N,g⟩
 else if k=21 then if s.may=0 then ⟨{ s with pc:=nx,st:=1 },3,0,g⟩ else ⟨{ s with pc:=nx },0,0,g⟩
 else if k=22 then ⟨s.back,0,0,g⟩
 else if 3≤k then ok (s.setr a (sumM k (s.r b) (s.r c))) nx
 else ok s nx
def stepM (s:Seat) (g:GM) (time me:Int):Out:=
 if s.st≠0 then ⟨s,5,0,g⟩
 else match nextL s with
  | some n=>trapM { s with pend:=s.pend-2 ^ n } g (16+n) 0
  | none=>match getW s g s.pc 4 with
   | none=>trapM s g 2 s.pc
   | some w=>if isW w then doM s g time me (dK w) (dA w) (dB w) (dC w) (dN w) else trapM s g 1 w
end Go.Cr
end
section
namespace Go.Cr
open Go Go.Pt
structure By (S:Mem) (p:Sl) (xs:List Int):Prop where
 len:xs.length=p.n
 cap:p.n≤p.c
 bd:Byt xs
 lie:p.n=0∨∃ b o,p.p=some (b,o)∧∀ i (h:i<xs.length),S.cell b (o+i)=some (.int .u8 xs[i])
theorem zdT {a b j:Nat} (ha:a<2 ^ j):a ||| (b*2 ^ j)=a+b*2 ^ j:=by
 rw[Nat.or_comm,jg ha,Nat.add_comm]
theorem zdj (m i:Nat):m &&& 2 ^ i=2 ^ i*(m/2 ^ i%2):=by
 apply Nat.eq_of_testBit_eq
 intro j
 rw[Nat.testBit_and,Nat.testBit_two_pow]
 have ht:m.testBit i=decide (m/2 ^ i%2=1):=Nat.testBit_eq_decide_div_mod_eq
 rcases Nat.mod_two_eq_zero_or_one (m/2 ^ i) with h | h
 ·rw[h,Nat.mul_zero,Nat.zero_testBit]
  by_cases hj:i=j
  ·subst hj;rw[ht,h];rfl
  ·simp[hj]
 ·rw[h,Nat.mul_one,Nat.testBit_two_pow]
  by_cases hj:i=j
  ·subst hj;rw[ht,h];rfl
  ·simp[hj]
theorem pow256 (i:Nat):(256:Int) ^ i=((2 ^ (8*i):Nat):Int):=by
 have:(2:Nat) ^ (8*i)=256 ^ i:=by rw[Nat.pow_mul]
 rw[this,Int.natCast_pow];rfl
end Go.Cr
namespace Go.Proofs.YtabdpmnhjlmnlaaGreatDoor
open Go Go.Pt Go.Cr
section
variable {S:Mem}
theorem zcG {p:Sl} {xs:List Int} (hp:By S p xs) (h8:xs.length≤8) {Q:Int→Mem→Prop} (hQ:Q (num xs) S):zaq S p Q:=by
 apply zct
 unfold gg
 refine qC (fun j=>j (num xs) S) hQ fun Jx hJ=>?_
 have hlen:=hp.len
 refine zO (fun (z:Int×Int) S'=>∃ i:Nat,z=(num (xs.take i),(i:Int))∧i≤xs.length∧S'=S) (fun z=>xs.length-z.2.toNat) ?_ ⟨0,rfl,by omega,rfl⟩
 rintro X z S' ⟨i,rfl,hi,rfl⟩ ih
 dsimp only at ih ⊢
 by_cases hlt:(i:Int)<(p.n:Int)
 ·rw[if_pos hlt]
  rcases hp.lie with h0 | ⟨b,o,hpp,hc⟩
  ·omega
  have hil:i<xs.length:=by omega
  have hx:=hp.bd _ (List.getElem_mem hil)
  obtain⟨pp,pn,pc⟩:=p
  simp only at hpp hlt hlen
  subst hpp
  rw[gr]
  refine⟨by omega,by omega,?_⟩
  rw[show o+(i:Int).toNat*1=o+i by omega,yd (hc i hil),if_pos (by omega),w64 (x:=8*(i:Int)) (by omega) (by omega)]
  refine⟨by omega,?_⟩
  obtain⟨x,hxx⟩:∃ m:Nat,xs[i]=m:=⟨xs[i].toNat,by omega⟩
  have hb:=zcH (l:=xs.take i) fun y hy=>hp.bd y (List.mem_of_mem_take hy)
  rw[List.length_take,Nat.min_eq_left (by omega),pow256] at hb
  obtain⟨m,hm⟩:∃ m:Nat,num (xs.take i)=m:=⟨(num (xs.take i)).toNat,by omega⟩
  have hp64:2 ^ (8*i)≤2 ^ 56:=Nat.pow_le_pow_right (by decide) (by omega)
  have hx2:x*2 ^ (8*i)≤255*2 ^ (8*i):=Nat.mul_le_mul_right _ (by omega)
  have e1:ishl .u64 (IntKind.u64.wrap xs[i]) (8*(i:Int))=((x*2 ^ (8*i):Nat):Int):=by
   rw[hxx,wu64 (by omega) (by omega)]
   have:=fD (a:=x) (s:=8*i) (by omega) (by omega)
   rw[←this];congr 1
  have e2:num (xs.take (i+1))=num (xs.take i)+256 ^ i*xs[i]:=by
   rw[List.take_succ_eq_append_getElem hil,gK,List.length_take,Nat.min_eq_left (by omega)]
   simp[num]
  rw[e1,hm,jW (by omega) (by omega),zdT (by omega),w64 (by omega) (by omega)]
  refine ih _ S' ⟨i+1,?_,by omega,rfl⟩ (by dsimp only;omega)
  rw[e2,hm,hxx,pow256]
  congr 1
  push_cast
  rw[Int.mul_comm]
 ·rw[if_neg hlt]
  have e:i=xs.length:=by omega
  subst e
  rw[List.take_length];exact hJ
end
structure Bus (bus:Value) (I:Mem→Rho→GM→Prop) (R:Nat→Prop):Prop where
 ifc:isI bus
 rg:∀ {S ρ g},I S ρ g→∀ b r,ρ b=some r→S b≠none
 ok:∀ {S ρ g},I S ρ g→g.Ok
 gl:∀ {S ρ g},I S ρ g→Gl S
 kp:∀ {S ρ g S'},I S ρ g→Keeps S S' []→I S' ρ g
 load:∀ {S ρ g} {page off n:Nat} {Q:Value→Mem→Prop},I S ρ g→page≤31→0<n→off+n≤256 →
  (∀ S' ρ' sl (e : Int), Mv S ρ S' ρ' R → I S' ρ' g → (match ldB g page off n with | some l => e = 0 ∧ By S' sl l | none => e ≠ 0 ∧ By S' sl []) → Q (.tuple #[eL sl, .int .i64 e]) S') → ci Tryz.prog S bus "Load" [.int .i64 page, .int .i64 off, .int .i64 n] Q
 save:∀ {S ρ g} {page off:Nat} {sl:Sl} {l:List Int} {Q:Value→Mem→Prop},I S ρ g→page≤31→off+8≤256→By S sl l→(∀ b o,sl.p=some (b,o)→ρ b=none)→l.length=8 →
  (∀ S' ρ' g' (e : Int), Mv S ρ S' ρ' R → I S' ρ' g' → (match g.map page with | some (f, true) => e = 0 ∧ g' = wrB g f off l | _ => e ≠ 0 ∧ g' = g) → Q (.int .i64 e) S') → ci Tryz.prog S bus "Save" [.int .i64 page, .int .i64 off, eL sl] Q
structure Cx (I:Mem→Rho→GM→Prop) (R:Nat→Prop) (S:Mem) (ρ:Rho) (g:GM) (b o:Nat) (s:Seat):Prop where
 i:I S ρ g
 at_:At S b o s.L
 rol:∃ r,ρ b=some r∧¬R r
section
variable {bus:Value} {I:Mem→Rho→GM→Prop} {R:Nat→Prop} {S:Mem} {ρ:Rho} {g:GM} {b o:Nat} {s:Seat} {time me:Int}
theorem Cx.mv {S':Mem} {ρ':Rho} {g':GM} (h:Cx I R S ρ g b o s) (m:Mv S ρ S' ρ' R) (hi:I S' ρ' g'):Cx I R S' ρ' g' b o s:=by
 obtain⟨r,h1,h2⟩:=h.rol
 exact⟨hi,h.at_.keep (m.kp b h.at_.some fun r' e=>by rw[h1] at e;cases e;exact h2),r,m.ext b r h1,h2⟩
theorem Cx.cell (h:Cx I R S ρ g b o s) (hl:s.R.length=16) {i:Nat} (hi:i<26):S.cell b (o+i)=nthL s.L i:=h.at_.cell (by rw[Seat.L_len hl];exact hi)
def cL (b o:Nat) (bus:Value) (time me:Int):List Value:=[.pointer (some ⟨b,o,none⟩),bus,.int .u64 time,.int .i64 me]
end
end Go.Proofs.YtabdpmnhjlmnlaaGreatDoor
end
section
namespace Go.Cr
open Go Go.Pt
theorem zeZ (x:Int):IntKind.u8.wrap x=x%256:=by simp[IntKind.wrap,IntKind.bits,IntKind.signed]
def bL (xs:List Int):List Value:=xs.map (.int .u8)
def bp (w:Int) (i:Nat):List Value:=(List.range 8).map fun j=>Value.int .u8 (if j<i then w/2 ^ (8*j)%256 else 0)
theorem zeO (w:Int) (i:Nat) (h:i<8):spl (bp w i) i [.int .u8 (w/2 ^ (8*i)%256)]=bp w (i+1):=by
 match i,h with
 | 0,_=>rfl
 | 1,_=>rfl
 | 2,_=>rfl
 | 3,_=>rfl
 | 4,_=>rfl
 | 5,_=>rfl
 | 6,_=>rfl
 | 7,_=>rfl
theorem zfy (w:Int):bp w 8=bL (bytes8 w):=by
 unfold bp bL bytes8
 rw[List.map_map]
 apply List.map_congr_left
 intro j hj
 have:=List.mem_range.1 hj
 simp only[Function.comp,if_pos this]
def exL (k n:Int):List Value:=[.int .u8 k,.int .u64 n]
end Go.Cr
namespace Go.Proofs.YtabdpmnhjlmnlaaGreatDoor
open Go Go.Pt Go.Cr
theorem gZ {S:Mem} {w:Int} (hw:W64 w) {Q:Sl→Mem→Prop} (hQ:∀ c,S c=none→Q ⟨some (c,0),8,8⟩ (S.set c (bw 5 (bL (bytes8 w))))):kK S w Q:=by
 apply fO
 unfold vb
 intro c hc
 refine qC (fun J=>J (S.set c (bw 5 (bL (bytes8 w))))) (hQ c hc) fun J hJ=>?_
 refine zO (fun (z:Int) S'=>∃ i:Nat,z=i∧i≤8∧S'=S.set c (bw 5 (bp w i))) (fun z=>8-z.toNat) ?_ ⟨0,rfl,by omega,rfl⟩
 rintro X z S' ⟨i,rfl,hi,rfl⟩ ih
 by_cases hlt:(i:Int)<8
 ·rw[if_pos hlt]
  have hi8:i<8:=by omega
  have e8:IntKind.i64.wrap (8*(i:Int))=((8*i:Nat):Int):=by rw[w64 (by omega) (by omega)];omega
  obtain⟨m,hm⟩:∃ m:Nat,w=m:=⟨w.toNat,by omega⟩
  rw[e8]
  refine⟨by omega,by omega,hlt,?_⟩
  rw[show 0+(i:Int).toNat*1=i by omega,w64 (by omega) (by omega)]
  refine zeq (t:=5) (cs:=bp w i) zG (by simp[bp];omega) ?_
  have ev:IntKind.u8.wrap (ishr .u64 w ((8*i:Nat):Int))=w/2 ^ (8*i)%256:=by
   rw[hm,fw (by omega),zeZ,Int.natCast_ediv];rfl
  rw[ev,zcv,zeO w i hi8]
  exact ih _ _ ⟨i+1,by omega,by omega,rfl⟩ (by omega)
 ·rw[if_neg hlt]
  have:i=8:=by omega
  subst this
  rw[zfy];exact hJ
section
variable {bus:Value} {I:Mem→Rho→GM→Prop} {R:Nat→Prop} {S:Mem} {ρ:Rho} {g:GM} {b o:Nat} {s:Seat} {time me:Int}
end
end Go.Proofs.YtabdpmnhjlmnlaaGreatDoor
end
section
namespace Go.Cr
open Go Go.Pt
end Go.Cr
namespace Go.Proofs.YtabdpmnhjlmnlaaGreatDoor
open Go Go.Pt Go.Cr
section
variable {bus:Value} {I:Mem→Rho→GM→Prop} {R:Nat→Prop} {S:Mem} {ρ:Rho} {g:GM} {b o:Nat} {s:Seat} {time me:Int}
end
end Go.Proofs.YtabdpmnhjlmnlaaGreatDoor
namespace Go.Proofs.YtabdpmnhjlmnlaaGreatDoor
open Go Go.Pt Go.Cr
section
variable {bus:Value} {I:Mem→Rho→GM→Prop} {R:Nat→Prop} {S:Mem} {ρ:Rho} {g:GM} {b o:Nat} {s:Seat} {time me:Int}
end
end Go.Proofs.YtabdpmnhjlmnlaaGreatDoor
end
section
namespace Go.Cr
open Go Go.Pt Go.Lib
def C64:Nat:=11400714819323198485
def mixN (x:Nat):Int:=ixor .u64 ((x*C64/18446744073709551616*131072%18446744073709551616+x*C64/18446744073709551616/140737488355328:Nat):Int) ((x*C64%18446744073709551616:Nat):Int)
def mixM (sum w:Int):Int:=mixN (ixor .u64 sum w).toNat
theorem zdI {a b:Nat} (ha:a<18446744073709551616) (hb:b<18446744073709551616):ixor .u64 a b=((a ^^^ b:Nat):Int):=by
 unfold ixor
 show IntKind.u64.wrap ((BitVec.ofInt 64 (a:Int) ^^^ BitVec.ofInt 64 (b:Int)).toNat:Int)=_
 rw[wv,wv,BitVec.toNat_xor,BitVec.toNat_ofNat,BitVec.toNat_ofNat,Nat.mod_eq_of_lt ha,Nat.mod_eq_of_lt hb]
 have:a ^^^ b<2 ^ 64:=Nat.xor_lt_two_pow (by omega) (by omega)
 exact wu64 (by omega) (by omega)
end Go.Cr
namespace Go.Proofs.YtabdpmnhjlmnlaaGreatDoor
open Go Go.Pt Go.Cr Go.Lib
section
variable {S:Mem}
end
end Go.Proofs.YtabdpmnhjlmnlaaGreatDoor
end
section
namespace Go.Cr
open Go Go.Pt
def Seat.words (s:Seat):List Int:=s.R++[s.pc,s.base,s.vec,s.epc,s.cause,s.addr,(if s.opn=true then 1 else 0),s.st,s.pend,s.mask]
def Seat.sum (s:Seat):Int:=s.words.foldl mixM 0
end Go.Cr
namespace Go.Proofs.YtabdpmnhjlmnlaaGreatDoor
open Go Go.Pt Go.Cr
section
variable {S:Mem} {s:Seat}
end
end Go.Proofs.YtabdpmnhjlmnlaaGreatDoor
end
section
namespace Go.Proofs.YtabdpmnhjlmnlaaGreatDoor
open Go Go.Pt Go.Cr
section
variable {S:Mem} {s:Seat}
end
end Go.Proofs.YtabdpmnhjlmnlaaGreatDoor
end
section
namespace Go.Cr
open Go Go.Pt
def upd {α:Type} (f:Nat→α) (i:Nat) (v:α):Nat→α:=fun x=>if x=i then v else f x
theorem zt {α:Type} {f:Nat→α} {i:Nat} {v:α}:upd f i v i=v:=by simp[upd]
theorem zn {α:Type} {f:Nat→α} {i j:Nat} {v:α} (h:j≠i):upd f i v j=f j:=by simp[upd,h]
theorem fg {α:Type} {f:Nat→α} {i:Nat} {v w:α}:upd (upd f i v) i w=upd f i w:=by
 funext x;simp only[upd];split <;> rfl
theorem zba {α:Type} {f:Nat→α} {i:Nat}:upd f i (f i)=f:=by
 funext x;simp only[upd];split
 ·rename_i h;rw[h]
 ·rfl
structure Ls where
 on:Bool
 fr:Nat
 pg:Nat
 to:Nat
 wr:Bool
 at_:Int
def Ls.setA (l:Ls) (a:Int):Ls:=⟨l.on,l.fr,l.pg,l.to,l.wr,a⟩
def ls0:Ls:=⟨false,0,0,0,false,0⟩
structure Evt where
 kind:Int
 seat:Int
 a:Int
 b:Int
structure Bv where
 on:Bool
 seats:List Seat
 quota:Int
 keys:List Int
 disk:Nat→List Int
 bells:Nat→Bool
def bv0:Bv:=⟨false,[],0,[],fun _=>[],fun _=>false⟩
structure Wd where
 free:Int
 vm:Nat→Bv
 time:Nat→Int
 own:Nat→Nat→Option (List Int)
 alarm:Nat→Nat→Option Int
 ls:Nat→Ls
 ev:Nat→List Evt
def W0 (free:Int):Wd:=⟨free,fun _=>bv0,fun _=>0,fun _ _=>none,fun _ _=>none,fun _=>ls0,fun _=>[]⟩
def Wd.there (W:Wd) (n:Int):Prop:=0≤n∧n<6∧(W.vm n.toNat).on=true
instance (W:Wd) (n:Int):Decidable (W.there n):=inferInstanceAs (Decidable (_∧_∧_))
def fit256 (l:List Int):List Int:=l.take 256++List.replicate (256-l.length) 0
theorem zce (l:List Int):(fit256 l).length=256:=by simp[fit256];omega
def pageB (img:List Int) (i:Nat):List Int:=fit256 (img.drop (256*i))
def noughts:List Int:=List.replicate 256 0
theorem qI:noughts.length=256:=List.length_replicate
theorem jT {x:Int} (h:x∈noughts):x=0:=List.eq_of_mem_replicate h
theorem yZ {x:Int} (h:x∈noughts):0≤x∧x≤255:=by rw[jT h];decide
theorem zbU:List.replicate 256 (0:Int)=noughts:=rfl
def firstOff (f:Nat→Bool) (n:Nat):Option Nat:=(List.range n).find? fun i=>! f i
def count (f:Nat→Bool) (n:Nat):Nat:=((List.range n).filter f).length
def Wd.pages (W:Wd) (n:Nat):Nat:=count (fun p=>(W.own n p).isSome) 32
def mkV (seats quota:Int):Bv:={ on:=true,seats:=List.replicate seats.toNat seat0,quota:=quota,keys:=[],disk:=fun _=>noughts,bells:=fun _=>false }
def Wd.create (W:Wd) (seats quota pages:Int) (img:List Int):Int×Int×Wd:=
 if seats<1∨3<seats∨quota<1∨32<quota∨pages<1∨quota<pages then (0,1,W)
 else if 256*pages<img.length then (0,6,W)
 else match firstOff (fun n=>(W.vm n).on) 6 with
  | none=>(0,2,W)
  | some n=>if W.free<5+pages then (0,3,W)
   else (n,0,{ W with free:=W.free-(5+pages),vm:=upd W.vm n (mkV seats quota),time:=upd W.time n 0,ev:=upd W.ev n [],own:=upd W.own n fun p=>if (p:Int)<pages then some (pageB img p) else none })
def Wd.destroy (W:Wd) (n:Int):Int×Wd:=
 if ¬W.there n then (2,W)
 else (0,{ W with free:=W.free+(5+W.pages n.toNat),vm:=fun i=>if i=n.toNat then bv0 else { W.vm i with bells:=upd (W.vm i).bells n.toNat false },own:=upd W.own n.toNat fun _=>none,alarm:=upd W.alarm n.toNat fun _=>none,ls:=fun i=>if (W.ls i).on=true∧((W.ls i).fr=n.toNat∨(W.ls i).to=n.toNat) then ls0 else W.ls i })
def Bv.ring (v:Bv) (n:Nat) (on:Bool):Bv:={ v with bells:=upd v.bells n on }
def Wd.setV (W:Wd) (n:Nat) (v:Bv):Wd:={ W with vm:=upd W.vm n v }
def Wd.join (W:Wd) (a b:Int) (on:Bool):Int×Wd:=
 if ¬W.there a∨¬W.there b then (2,W)
 else if a=b then (1,W)
 else (0,(W.setV a.toNat ((W.vm a.toNat).ring b.toNat on)).setV b.toNat ((W.vm b.toNat).ring a.toNat on))
def Bv.setSeat (v:Bv) (k:Nat) (s:Seat):Bv:={ v with seats:=v.seats.set k s }
def Seat.raise (s:Seat) (i:Nat):Seat:=if s.st=2 then s else Seat.wake { s with pend:=ior .u32 s.pend (2 ^ i) }
def Bv.seat (v:Bv) (k:Nat):Seat:=v.seats.getD k seat0
def Wd.raise (W:Wd) (n k i:Nat):Int×Wd:=
 if ((W.vm n).seat k).st=2 then (10,W) else (0,W.setV n ((W.vm n).setSeat k (((W.vm n).seat k).raise i)))
def Bv.setKeys (v:Bv) (l:List Int):Bv:={ v with keys:=l }
def Wd.key (W:Wd) (n b:Int):Int×Wd:=
 if ¬W.there n then (2,W)
 else if 64≤(W.vm n.toNat).keys.length then (3,W)
 else (0,((W.setV n.toNat ((W.vm n.toNat).setKeys ((W.vm n.toNat).keys++[b]))).raise n.toNat 0 6).2)
def dueA (al:Nat→Option Int) (time:Int) (k:Nat):Bool:=match al k with
 | some a=>decide (a≤time)
 | none=>false
def Wd.tick (W:Wd):Wd:=
 { W with time:=fun n=>W.time n+1,vm:=fun n=>{ W.vm n with seats:=(W.vm n).seats.mapIdx fun k s=>if dueA (W.alarm n) (W.time n+1) k=true then s.raise 7 else s },alarm:=fun n k=>if dueA (W.alarm n) (W.time n+1) k=true then none else W.alarm n k }
def Wd.tell (W:Wd) (n:Nat) (e:Evt):Wd:={ W with ev:=upd W.ev n (W.ev n++[e]) }
def leaseAt (ls:Nat→Ls) (n:Nat) (page:Int):Option Nat:=(List.range 16).find? fun i=>(ls i).on && (decide ((ls i).to=n) && decide ((ls i).at_=page))
def Wd.where_ (W:Wd) (n p:Nat):Option (Nat×Nat×Bool):=
 if (W.own n p).isSome then some (n,p,true)
 else (leaseAt W.ls n p).map fun i=>((W.ls i).fr,(W.ls i).pg,(W.ls i).wr)
def Wd.gm (W:Wd) (n:Nat):GM:=
 ⟨fun p=>if 32≤p then none else (W.where_ n p).map fun q=>(32*q.1+q.2.1,q.2.2),fun f=>(W.own (f/32) (f%32)).getD []⟩
def Wd.setDat (W:Wd) (d:Nat→List Int):Wd:={ W with own:=fun n p=>(W.own n p).map fun _=>d (32*n+p) }
def Wd.setO (W:Wd) (n p:Nat) (o:Option (List Int)):Wd:={ W with own:=upd W.own n (upd (W.own n) p o) }
def small (w:Int):Int:=if 65535<w then -1 else w
def Wd.mine (W:Wd) (n:Nat) (p:Int):Int:=
 if p<0∨31<p∨W.where_ n p.toNat=none then 11 else if (W.own n p.toNat).isSome=true then 0 else 7
def Wd.setL (W:Wd) (i:Nat) (l:Ls):Wd:={ W with ls:=upd W.ls i l }
def Wd.lease (W:Wd) (n:Nat) (c:Int) (i page:Int):Int×Wd:=
 if i<0∨15<i∨(W.ls i.toNat).on=false then (2,W)
 else if c<7∧(W.ls i.toNat).to≠n∨c=7∧(W.ls i.toNat).fr≠n then (7,W)
 else if c=6 then (if (W.ls i.toNat).at_<0 then (10,W) else (0,W.setL i.toNat ((W.ls i.toNat).setA (-1))))
 else if 0≤(W.ls i.toNat).at_ then (8,W)
 else if c=7 then (0,W.setL i.toNat ls0)
 else if page<0∨31<page then (1,W)
 else if W.where_ n page.toNat≠none then (8,W)
 else (0,W.setL i.toNat ((W.ls i.toNat).setA page))
def lentL (ls:Nat→Ls) (n:Nat) (p:Int):Bool:=(List.range 16).any fun i=>(ls i).on && (decide ((ls i).fr=n) && decide (((ls i).pg:Int)=p))
def Wd.ring (W:Wd) (n:Nat) (a b:Int):Int×Wd:=
 if ¬W.there a∨(W.vm n).bells a.toNat=false then (2,W)
 else if b<0∨7<b then (1,W)
 else W.raise a.toNat 0 b.toNat
def Wd.offer (W:Wd) (n:Nat) (p to:Int) (w:Bool):Int×Int×Wd:=
 if W.mine n p≠0 then (0,W.mine n p,W)
 else if ¬W.there to then (0,2,W)
 else if (n:Int)=to then (0,1,W)
 else match firstOff (fun i=>(W.ls i).on) 16 with
  | none=>(0,3,W)
  | some i=>(i,0,W.setL i ⟨true,n,p.toNat,to.toNat,w,-1⟩)
def Wd.give (W:Wd) (n:Nat) (p:Int):Int×Wd:=
 if W.mine n p≠0 then (W.mine n p,W)
 else if lentL W.ls n p=true then (8,W)
 else (0,{ W.setO n p.toNat none with free:=W.free+1 })
def Wd.get (W:Wd) (n:Nat) (p:Int):Int×Wd:=
 if p<0∨31<p then (1,W)
 else if W.where_ n p.toNat≠none then (8,W)
 else if (W.vm n).quota≤W.pages n then (9,W)
 else if W.free=0 then (3,W)
 else (0,{ W.setO n p.toNat (some noughts) with free:=W.free-1 })
def Wd.load (W:Wd) (n:Nat) (sec p:Int):Int×Wd:=
 if sec<0∨3<sec then (1,W)
 else if p<0∨31<p then (11,W)
 else match W.where_ n p.toNat with
  | some (m,q,true)=>(0,W.setO m q (some ((W.vm n).disk sec.toNat)))
  | _=>(11,W)
def Bv.setDisk (v:Bv) (k:Nat) (l:List Int):Bv:={ v with disk:=upd v.disk k l }
def Wd.save (W:Wd) (n:Nat) (sec p:Int):Int×Wd:=
 if sec<0∨3<sec then (1,W)
 else if p<0∨31<p then (11,W)
 else match W.where_ n p.toNat with
  | some (m,q,_)=>(0,W.setV n ((W.vm n).setDisk sec.toNat ((W.own m q).getD [])))
  | none=>(11,W)
def Wd.nextKey (W:Wd) (n:Nat):Int×Int×Wd:=match (W.vm n).keys with
 | []=>(0,2,W)
 | x :: l=>(x,0,W.setV n ((W.vm n).setKeys l))
def Wd.setAlarm (W:Wd) (n k:Nat) (w:Int):Wd:={ W with alarm:=upd W.alarm n (upd (W.alarm n) k (some w)) }
def Seat.die (s:Seat):Seat:={ s with st:=2 }
def Wd.call (W:Wd) (n k:Nat) (c w1 w2 w3:Int):Int×Int×Wd:=
 if c=0 then (0,0,W.tell n ⟨3,k,w1%256,0⟩)
 else if c=1 then W.nextKey n
 else if c=2 then ((0:Int),W.ring n (small w1) (small w2))
 else if c=3 then (0,0,W.setAlarm n k w1)
 else if c=4 then W.offer n (small w1) (small w2) (decide (w3≠0))
 else if 5≤c∧c≤7 then ((0:Int),W.lease n c (small w1) (small w2))
 else if c=8 then ((0:Int),W.give n (small w1))
 else if c=9 then ((0:Int),W.get n (small w1))
 else if c=10 then ((0:Int),W.load n (small w1) (small w2))
 else if c=11 then ((0:Int),W.save n (small w1) (small w2))
 else if c=12 then (n,0,W)
 else if c=13 then (0,0,W.setV n ((W.vm n).setSeat k ((W.vm n).seat k).die))
 else (0,1,W)
def told (x n:Int) (k:Int) (pc:Int) (s:Seat):Evt:=if x=1 then ⟨4,k,n,pc⟩ else if x=4 then ⟨5,k,n,pc⟩ else ⟨1,k,pc,s.sum⟩
def Seat.answer (s:Seat) (e v:Int):Seat:=(s.setr 0 e).setr 1 v
def Wd.putSeat (W:Wd) (n k:Nat) (s:Seat):Wd:=W.setV n ((W.vm n).setSeat k s)
def Wd.hyper (W:Wd) (n k:Nat) (c:Int) (s:Seat):Wd:=
 let r:=W.call n k c (s.r 1) (s.r 2) (s.r 3)
 (r.2.2.putSeat n k (((r.2.2.vm n).seat k).answer r.2.1 r.1)).tell n ⟨2,k,ior .u64 (x64 (c*256)) r.2.1,r.1⟩
def Wd.run (W:Wd) (n k:Int):Int×Wd:=
 if ¬W.there n∨k<0∨(W.vm n.toNat).seats.length≤k then (2,W)
 else
  let s:=(W.vm n.toNat).seat k.toNat
  let o:=stepM s (W.gm n.toNat) (W.time n.toNat) k
  if o.k=5 then (10,W)
  else
   let W2:=((W.setDat o.g.dat).putSeat n.toNat k.toNat o.s).tell n.toNat (told o.k o.n k s.pc o.s)
   (0,if o.k=2 then W2.hyper n.toNat k.toNat o.n o.s else W2)
end Go.Cr
end
section
namespace Go.Cr
open Go Go.Pt
def pk (form:Int) (f:Nat) (wr:Bool):Int:=
 if form=1 then 1+256*f+(if wr=true then 2 else 0)
 else 9223372036854775808+(65535-f)+(if wr=true then 4611686018427387904 else 0)
theorem zfg {form:Int} {f:Nat} (hf:f≤65535) {wr:Bool}:W64 (pk form f wr)∧pk form f wr≠0:=by
 unfold pk
 split <;> split <;> exact⟨⟨by omega,by omega⟩,by omega⟩
end Go.Cr
end
section
namespace Go.Cr
open Go Go.Pt
def spB (d:List Int) (off:Nat) (l:List Int):List Int:=d.take off++l++d.drop (off+l.length)
theorem zek {d:List Int} {off:Nat} {l:List Int} (h:off+l.length≤d.length):(spB d off l).length=d.length:=by
 unfold spB;simp only[List.length_append,List.length_take,List.length_drop];omega
theorem zem {d:List Int} {off:Nat} {l:List Int} (h:Byt d) (hl:Byt l):Byt (spB d off l):=fun x hx=>by
 unfold spB at hx
 rcases List.mem_append.1 hx with hx | hx
 ·rcases List.mem_append.1 hx with hx | hx
  ·exact h x (List.mem_of_mem_take hx)
  ·exact hl x hx
 ·exact h x (List.mem_of_mem_drop hx)
def rdB (d:List Int) (off n:Nat):List Int:=(d.drop off).take n
theorem zdw {d:List Int} {off:Nat} {l:List Int} (h:off+l.length≤d.length):rdB (spB d off l) off l.length=l:=by
 unfold rdB spB
 rw[List.append_assoc,List.drop_left' (by rw[List.length_take];omega),List.take_left' rfl]
theorem zel {d:List Int} {off j:Nat} {l:List Int} (h:off+l.length≤d.length):(spB d off l)[j]? = if off≤j∧j<off+l.length then l[j-off]? else d[j]?:=by
 unfold spB
 rw[List.append_assoc,List.getElem?_append,List.length_take,Nat.min_eq_left (by omega)]
 split
 ·rw[if_neg (by omega),List.getElem?_take,if_pos (by omega)]
 ·rw[List.getElem?_append]
  split
  ·rw[if_pos (by omega)]
  ·rw[if_neg (by omega),List.getElem?_drop];congr 1;omega
theorem zcA {d:List Int} {off n j:Nat}:(rdB d off n)[j]? = if j<n then d[off+j]? else none:=by
 unfold rdB
 rw[List.getElem?_take,List.getElem?_drop]
theorem zcz {d:List Int} {off o n:Nat} {l:List Int} (h:off+l.length≤d.length) (h2:o+n≤off∨off+l.length≤o):rdB (spB d off l) o n=rdB d o n:=by
 apply List.ext_getElem?
 intro j
 rw[zcA,zcA]
 by_cases hj:j<n
 ·rw[if_pos hj,if_pos hj,zel h,if_neg (by omega)]
 ·rw[if_neg hj,if_neg hj]
def ld (d:Nat→List Int) (f i:Nat):Int:=num (rdB (d f) (8*i) 8)
def wr (d:Nat→List Int) (f off:Nat) (l:List Int):Nat→List Int:=upd d f (spB (d f) off l)
def unp (form w:Int):Option (Nat×Bool):=
 if w=0 then none
 else
  let f:=if form=1 then (w/256%65536).toNat else (65535-w%65536).toNat
  let b:=if form=1 then decide (w/2%2=1) else decide (w/4611686018427387904%2=1)
  if pk form f b=w then some (f,b) else none
theorem jw {form:Int}:unp form 0=none:=by simp[unp]
theorem zdO {form:Int} {f:Nat} {b:Bool} (h:f≤65535):unp form (pk form f b)=some (f,b):=by
 have h0:=(zfg (form:=form) h (wr:=b)).2
 unfold unp
 rw[if_neg h0]
 by_cases h1:form=1
 ·rw[if_pos h1,if_pos h1]
  have e1:(pk form f b/256%65536).toNat=f:=by unfold pk;rw[if_pos h1];split <;> omega
  have e2:decide (pk form f b/2%2=1)=b:=by
   unfold pk;rw[if_pos h1];cases b
   ·simp;omega
   ·simp;omega
  simp only[e1,e2];rw[if_pos trivial]
 ·rw[if_neg h1,if_neg h1]
  have e1:(65535-pk form f b%65536).toNat=f:=by unfold pk;rw[if_neg h1];split <;> omega
  have e2:decide (pk form f b/4611686018427387904%2=1)=b:=by
   unfold pk;rw[if_neg h1];cases b
   ·simp;omega
   ·simp;omega
  simp only[e1,e2];rw[if_pos trivial]
theorem zeX {form w:Int} {q:Nat×Bool} (h:unp form w=some q):q.1≤65535∧pk form q.1 q.2=w:=by
 unfold unp at h
 by_cases h0:w=0
 ·rw[if_pos h0] at h;cases h
 ·rw[if_neg h0] at h
  dsimp only at h
  obtain⟨h1,h2⟩:=Option.ite_none_right_eq_some.1 h
  simp only[Option.some.injEq] at h2
  subst h2
  exact⟨by dsimp only;split <;> omega,h1⟩
structure Ow where
 kind:Int
 vm:Int
 page:Int
 sh:Int
def ow0:Ow:=⟨0,0,0,0⟩
structure Cw where
 vm:Int
 page:Int
 f:Nat
 w:Bool
structure Kn where
 form:Int
 now:Int
 vm:Nat→Bv
 late:Nat→Int
 tf:Nat→Int
 fr:Nat→List Nat
 ls:Nat→Ls
 turns:Nat→Int
structure Cst extends Kn where
 N:Nat
 dat:Nat→List Int
 used:Nat→Bool
 left:Int
 cache:List Cw
 own:Nat→Ow
 alm:Nat→Nat→Option Int
 region:List Nat
 ev:Nat→List Evt
def leafC (d:Nat→List Int) (N:Nat) (form:Int) (fr:List Nat) (page:Int):Option (Nat×Nat):=
 if page<0∨31<page then none
 else match fr with
  | []=>none
  | r :: _=>if r<N then (unp form (ld d r (page/8).toNat)).map fun x=>(x.1,(page%8).toNat) else none
def walkC (d:Nat→List Int) (N:Nat) (form:Int) (fr:List Nat) (page:Int):Option (Nat×Bool):=match leafC d N form fr page with
 | none=>none
 | some (f,i)=>if f<N then unp form (ld d f i) else none
def setC (d:Nat→List Int) (N:Nat) (form:Int) (fr:List Nat) (page w:Int):Nat→List Int:=match leafC d N form fr page with
 | none=>d
 | some (f,i)=>if f<N then wr d f (8*i) (bytes8 w) else d
def Cst.walk (C:Cst) (n:Nat) (page:Int):Option (Nat×Bool):=walkC C.dat C.N (C.tf n) (C.fr n) page
def dropC (l:List Cw) (vm page:Int):List Cw:=l.filter fun r=>! (decide (r.vm=vm) && decide (r.page=page))
def putC (l:List Cw) (r:Cw):List Cw:=(if (dropC l r.vm r.page).length=8 then (dropC l r.vm r.page).tail else dropC l r.vm r.page)++[r]
def lookC (l:List Cw) (vm page:Int):Option (Nat×Bool):=(l.find? fun r=>decide (r.vm=vm) && decide (r.page=page)).map fun r=>(r.f,r.w)
def Cst.find (C:Cst) (n:Nat) (page:Int):Option (Nat×Bool)×List Cw:=match lookC C.cache n page with
 | some x=>(some x,C.cache)
 | none=>match C.walk n page with
  | some x=>(some x,putC C.cache ⟨n,page,x.1,x.2⟩)
  | none=>(none,C.cache)
def takeN (N:Nat):Nat→(Nat→Bool)→Option (List Nat×(Nat→Bool))
 | 0,u=>some ([],u)
 | k+1,u=>match firstOff u N with
  | none=>none
  | some f=>match takeN N k (upd u f true) with
   | none=>none
   | some (l,u')=>some (f :: l,u')
def donC (own:Nat→Ow) (f:Nat) (n page:Int):Nat→Ow:=if (own f).kind=0 then upd own f ⟨3,n,page,0⟩ else own
def keepC (own:Nat→Ow) (f:Nat) (n:Int):Nat→Ow:=if (own f).kind=0 then upd own f (if 0≤n then ⟨2,n,0,0⟩ else ⟨1,0,0,0⟩) else own
end Go.Cr
end
section
namespace Go.Proofs.YtabdpmnhjlmnlaaGreatDoor
open Go Go.Pt
attribute [local irreducible] Code.wp Back bodyPost wpList FR WL WC WQ WA AW Tr Yc HC AllC
set_option maxRecDepth 20000
set_option maxHeartbeats 4000000
set_option linter.unusedVariables false
def vS (S:Mem) (frames:Int) (Q:Pt→Mem→Prop):Prop:=
 0≤IntKind.i64.wrap (256*(if 512<(if frames<0 then 0 else frames) then 512 else (if frames<0 then 0 else frames)))∧IntKind.i64.wrap (256*(if 512<(if frames<0 then 0 else frames) then 512 else (if frames<0 then 0 else frames)))≤IntKind.i64.wrap (256*(if 512<(if frames<0 then 0 else frames) then 512 else (if frames<0 then 0 else frames)))∧(1:Int)*(IntKind.i64.wrap (256*(if 512<(if frames<0 then 0 else frames) then 512 else (if frames<0 then 0 else frames))))≤281474976710656∧IntKind.i64.wrap (256*(if 512<(if frames<0 then 0 else frames) then 512 else (if frames<0 then 0 else frames)))≤9223372036854775807 ∧
 al S 5 (zrep (Int.toNat (IntKind.i64.wrap (256*(if 512<(if frames<0 then 0 else frames) then 512 else (if frames<0 then 0 else frames))))) [.int .u8 0]) fun b Sx=>
 al Sx 180 ([.slice (some ⟨b,0,none⟩) (Int.toNat (IntKind.i64.wrap (256*(if 512<(if frames<0 then 0 else frames) then 512 else (if frames<0 then 0 else frames))))) (Int.toNat (IntKind.i64.wrap (256*(if 512<(if frames<0 then 0 else frames) then 512 else (if frames<0 then 0 else frames)))))]) fun b_1 Sx_1=>
 Q (some (b_1,0)) Sx_1
theorem zas {S:Mem} {frames:Int} {Q:Pt→Mem→Prop} (H:vS S frames Q):wt S frames Q:=by
 unfold vS at H
 exact Tr.intro Tryz.func50 E Tryz.ntmps50 E fun w0=>csr<|gv E E<|nxr<|mv E E<|s_p E (zcn E E)<|s_p E (zdm E E)<|s_p E (jh E E)<|by obtain⟨c,c_1,c_2,c_3,H1⟩:=H;exact zfb E E E c c_1 c_2 c_3 fun b=>vy 0 E fun hb=>have H2:=H1 b hb;s_p E (zM E E)<|by exact xW E E E fun b_1=>vy 0 E fun hb_1=>have H3:=H2 b_1 hb_1;gv E E<|nx<|zm<|zl Tryz.results50 (zf E zi) ⟨_,E,H3⟩
def yf (S:Mem) (s:Pt) (Q:Int→Mem→Prop):Prop:=
 if s=none then
 Q 0 S
 else
 nn s fun b o=>
 gL (S.cell b o) fun t=>
 Q (IntKind.i64.wrap (Int.tdiv (t.n:Int) 256)) S
theorem vr {S:Mem} {s:Pt} {Q:Int→Mem→Prop} (H:yf S s Q):qj S s Q:=by
 unfold yf at H
 exact Tr.intro Tryz.func35 E Tryz.ntmps35 E fun w0=>csr<|gv E E<|nx<|zx<|csr<|mv E E<|iteK H (fun c H1=>s_p E (yT (qH (p:=s) E E) c)<|nx<|c_t E E<|csr<|gv E E<|nx<|zm<|ze<|zl Tryz.results35 (zf E zi) ⟨_,E,H1⟩) fun c H1=>s_p E (yF (qH (p:=s) E E) c)<|nx<|cfs E E<|zk<|csr<|mv E E<|by obtain⟨b,o,rfl,H2⟩:=H1;exact s_p E (qb E)<|s_p E (zD E E)<|gx H2 fun t ht H3=>s_v E (zB E) (zV ht)<|s_p E (qy E)<|s_p E (zap E E (by decide))<|gv E E<|nx<|zm<|zl Tryz.results35 (zf E zi) ⟨_,E,H3⟩
def xq (S:Mem) (s:Pt) (frame:Int) (off:Int) (n:Int) (Q:Int→Int→Mem→Prop):Prop:=
 jn (fun (Sx:Mem)=>
 Q (IntKind.i64.wrap ((IntKind.i64.wrap (256*frame))+off)) 0 Sx) fun Jx=>
 if frame<0 then
 Q 0 1 S
 else
 qj S s fun t Sx_1=>
 if t≤frame then
 Q 0 1 Sx_1
 else
 if off<0 then
 Q 0 1 Sx_1
 else
 if n<0 then
 Q 0 1 Sx_1
 else
 if 256<off then
 Q 0 1 Sx_1
 else
 if IntKind.i64.wrap (256-off)<n then
 Q 0 1 Sx_1
 else
 Jx Sx_1
theorem ji {S:Mem} {s:Pt} {frame:Int} {off:Int} {n:Int} {Q:Int→Int→Mem→Prop} (H:xq S s frame off n Q):xj S s frame off n Q:=by
 unfold xq at H
 exact Tr.intro Tryz.func143 E Tryz.ntmps143 E fun w0=>csr<|gv E E<|gv E E<|nx<|zo H (fun (J:Mem→Prop) (z:Unit) S=>J S) (fun z=>⟨40,[(1,.int .i64 frame),(2,.int .i64 off)]⟩) (fun z=>[]) (fun _ Sx H1=>csr<|mv E E<|s_p E (jh E E)<|mv E E<|s_p E (zU E E)<|gv E E<|gv E E<|nx<|zm<|zl Tryz.results143 (zf E (zf E zi)) ⟨_,_,E,H1⟩) (fun Jx hJx H2=>csr<|mv E E<|iteK H2 (fun c H3=>s_p E (yT (zw E E) c)<|mv E E<|sk4 E E E E<|pk E E E<|mv E E<|sk2 E E<|pk E E E<|mv E E<|sk2 E E<|pk E E E<|mv E E<|sk2 E E<|pk E E E<|mv E E<|sk4 E E E E<|pk E E E<|nx<|c_t E E<|csr<|gv E E<|gv E E<|nx<|zm<|ze<|zl Tryz.results143 (zf E (zf E zi)) ⟨_,_,E,H3⟩) fun c H3=>s_p E (yF (zw E E) c)<|mv E E<|mv E E<|mv E E<|qW E E H3 fun t Sx_1 H4=>iteK H4 (fun c_1 H5=>s_p E (yT (qL E E) c_1)<|pk E E E<|mv E E<|sk2 E E<|pk E E E<|mv E E<|sk2 E E<|pk E E E<|mv E E<|sk2 E E<|pk E E E<|mv E E<|sk4 E E E E<|pk E E E<|nx<|c_t E E<|csr<|gv E E<|gv E E<|nx<|zm<|ze<|zl Tryz.results143 (zf E (zf E zi)) ⟨_,_,E,H5⟩) fun c_1 H5=>s_p E (yF (qL E E) c_1)<|pk E E E<|mv E E<|mv E E<|iteK H5 (fun c_2 H6=>s_p E (yT (zw E E) c_2)<|pk E E E<|mv E E<|sk2 E E<|pk E E E<|mv E E<|sk2 E E<|pk E E E<|mv E E<|sk4 E E E E<|pk E E E<|nx<|c_t E E<|csr<|gv E E<|gv E E<|nx<|zm<|ze<|zl Tryz.results143 (zf E (zf E zi)) ⟨_,_,E,H6⟩) fun c_2 H6=>s_p E (yF (zw E E) c_2)<|pk E E E<|mv E E<|mv E E<|iteK H6 (fun c_3 H7=>s_p E (yT (zw E E) c_3)<|pk E E E<|mv E E<|sk2 E E<|pk E E E<|mv E E<|sk4 E E E E<|pk E E E<|nx<|c_t E E<|csr<|gv E E<|gv E E<|nx<|zm<|ze<|zl Tryz.results143 (zf E (zf E zi)) ⟨_,_,E,H7⟩) fun c_3 H7=>s_p E (yF (zw E E) c_3)<|pk E E E<|mv E E<|mv E E<|iteK H7 (fun c_4 H8=>s_p E (yT (yu E E) c_4)<|pk E E E<|mv E E<|sk4 E E E E<|pk E E E<|nx<|c_t E E<|csr<|gv E E<|gv E E<|nx<|zm<|ze<|by exact zl Tryz.results143 (zf E (zf E zi)) ⟨_,_,E,H8⟩) fun c_4 H8=>s_p E (yF (yu E E) c_4)<|pk E E E<|mv E E<|mv E E<|mv E E<|s_p E (jC E E)<|iteK H8 (fun c_5 H9=>s_p E (yT (yu E E) c_5)<|pk E E E<|nx<|c_t E E<|csr<|gv E E<|gv E E<|nx<|by exact zm<|ze<|zl Tryz.results143 (zf E (zf E zi)) ⟨_,_,E,H9⟩) fun c_5 H9=>s_p E (yF (yu E E) c_5)<|pk E E E<|nx<|cfs E E<|hJx () _ _ _ _ [] H9 E ⟨E,E,True.intro⟩ E)
def yP (S:Mem) (s:Pt) (frame:Int) (off:Int) (n:Int) (Q:Sl→Int→Mem→Prop):Prop:=
 xj S s frame off n fun t t_1 Sx=>
 jn (fun (Sx_1:Mem)=>
 nn s fun b o=>
 gL (Sx_1.cell b o) fun t_2=>
 (0:Int)≤t∧(t:Int)≤IntKind.i64.wrap (t+n)∧IntKind.i64.wrap (t+n)≤(t_2.c:Int) ∧
 lt (slc 1 t_2 t (IntKind.i64.wrap (t+n))) fun t_3=>
 sp Sx_1 t_3 1 fun vs=>
 ap Sx_1 5 1 1 [.int .u8 0] (⟨none,0,0⟩) t_3.n vs fun t_4 Sx_2=>
 Q t_4 0 Sx_2) fun Jx=>
 if t_1≠0 then
 Q (⟨none,0,0⟩) t_1 Sx
 else
 Jx Sx
theorem kg {S:Mem} {s:Pt} {frame:Int} {off:Int} {n:Int} {Q:Sl→Int→Mem→Prop} (H:yP S s frame off n Q):yr S s frame off n Q:=by
 unfold yP at H
 exact Tr.intro Tryz.func163 E Tryz.ntmps163 E fun w0=>csr<|gv E E<|gv E E<|nxr<|mv E E<|mv E E<|mv E E<|mv E E<|zbe E E H fun t t_1 Sx H1=>mv E E<|s_p E (zp E E)<|s_p E (zp E E)<|gv E E<|gv E E<|nx<|zo H1 (fun (J:Mem→Prop) (z:Unit) S=>J S) (fun z=>⟨33,[(0,eP s),(3,.int .i64 n),(10,.int .i64 t)]⟩) (fun z=>[]) (fun _ Sx_1 H2=>csr<|mv E E<|by obtain⟨b,o,rfl,H3⟩:=H2;exact s_p E (qb E)<|s_p E (zD E E)<|gx H3 fun t_2 ht_2 H4=>s_v E (zB E) (zV ht_2)<|mv E E<|mv E E<|mv E E<|s_p E (zU E E)<|an3 H4 fun c c_1 c_2 H5=>by obtain⟨t_3,et_3,H6⟩:=zdU H5;exact s_p E (eqv (fL (a:=t) (b:=IntKind.i64.wrap (t+n)) E E E c c_1 c_2) (congrArg eL et_3))<|by obtain⟨vs,h,c_3,H7⟩:=H6;exact vN (sx:=⟨none,0,0⟩) (vs:=vs) E E E ((zaN h).1) ((zaN (P:=Tryz.prog) (w0:=w0) (S0:=S) (V:=[]) h).2) c_3 (by decide) H7 fun t_4 Sx_2 H8=>gv E E<|gv E E<|nx<|zm<|zl Tryz.results163 (zf E (zf E zi)) ⟨_,_,E,H8⟩) (fun Jx hJx H9=>csr<|mv E E<|iteK H9 (fun c_4 H10=>s_p E (yT (zI E E) c_4)<|nx<|c_t E E<|csr<|mv E E<|gv E E<|gv E E<|nx<|zm<|ze<|zl Tryz.results163 (zf E (zf E zi)) ⟨_,_,E,H10⟩) fun c_4 H10=>s_p E (yF (zI E E) c_4)<|nx<|cfs E E<|hJx () _ _ _ _ [] H10 E ⟨E,E,E,True.intro⟩ E)
def yv (S:Mem) (s:Pt) (frame:Int) (off:Int) (p:Sl) (Q:Int→Mem→Prop):Prop:=
 xj S s frame off (p.n:Int) fun t t_1 Sx=>
 jn (fun (Sx_1:Mem)=>
 nn s fun b o=>
 gL (Sx_1.cell b o) fun t_2=>
 (0:Int)≤t∧(t:Int)≤(t_2.n:Int)∧(t_2.n:Int)≤(t_2.c:Int) ∧
 lt (slc 1 t_2 t (t_2.n:Int)) fun t_3=>
 cpy Sx_1 1 t_3 p fun t_4 Sx_2=>
 Q 0 Sx_2) fun Jx=>
 if t_1≠0 then
 Q t_1 Sx
 else
 Jx Sx
theorem vH {S:Mem} {s:Pt} {frame:Int} {off:Int} {p:Sl} {Q:Int→Mem→Prop} (H:yv S s frame off p Q):zR S s frame off p Q:=by
 unfold yv at H
 exact Tr.intro Tryz.func76 E Tryz.ntmps76 E fun w0=>csr<|gv E E<|nxr<|mv E E<|mv E E<|mv E E<|mv E E<|s_p E (qy E)<|zbe E E H fun t t_1 Sx H1=>mv E E<|s_p E (zp E E)<|s_p E (zp E E)<|gv E E<|gv E E<|nx<|zo H1 (fun (J:Mem→Prop) (z:Unit) S=>J S) (fun z=>⟨31,[(0,eP s),(3,eL p),(9,.int .i64 t)]⟩) (fun z=>[]) (fun _ Sx_1 H2=>csr<|mv E E<|by obtain⟨b,o,rfl,H3⟩:=H2;exact s_p E (qb E)<|s_p E (zD E E)<|gx H3 fun t_2 ht_2 H4=>s_v E (zB E) (zV ht_2)<|mv E E<|an3 H4 fun c c_1 c_2 H5=>by obtain⟨t_3,et_3,H6⟩:=zdU H5;exact s_p E (eqv (fL (a:=t) (b:=(t_2.n:Int)) E E E c c_1 c_2) (congrArg eL et_3))<|mv E E<|zfH (sd:=t_3) (ss:=p) E E E H6 fun t_4 Sx_2 H7=>nxr<|gv E E<|nx<|zm<|zl Tryz.results76 (zf E zi) ⟨_,E,H7⟩) (fun Jx hJx H8=>csr<|mv E E<|iteK H8 (fun c_3 H9=>s_p E (yT (zI E E) c_3)<|nx<|c_t E E<|csr<|mv E E<|gv E E<|nx<|zm<|ze<|zl Tryz.results76 (zf E zi) ⟨_,E,H9⟩) fun c_3 H9=>s_p E (yF (zI E E) c_3)<|nx<|cfs E E<|hJx () _ _ _ _ [] H9 E ⟨E,E,E,True.intro⟩ E)
def qV (S:Mem) (s:Pt) (frame:Int) (i:Int) (Q:Int→Int→Mem→Prop):Prop:=
 jn (fun (Sx:Mem)=>
 yr Sx s frame (IntKind.i64.wrap (8*i)) 8 fun t t_1 Sx_1=>
 zaq Sx_1 t fun t_2 Sx_2=>
 Q t_2 t_1 Sx_2) fun Jx=>
 if i<0 then
 Q 0 1 S
 else
 if 32≤i then
 Q 0 1 S
 else
 Jx S
theorem xZ {S:Mem} {s:Pt} {frame:Int} {i:Int} {Q:Int→Int→Mem→Prop} (H:qV S s frame i Q):qO S s frame i Q:=by
 unfold qV at H
 exact Tr.intro Tryz.func108 E Tryz.ntmps108 E fun w0=>csr<|gv E E<|gv E E<|nx<|zo H (fun (J:Mem→Prop) (z:Unit) S=>J S) (fun z=>⟨27,[(0,eP s),(1,.int .i64 frame),(2,.int .i64 i)]⟩) (fun z=>[]) (fun _ Sx H1=>csr<|mv E E<|mv E E<|mv E E<|s_p E (jh E E)<|zbe E E H1 fun t t_1 Sx_1 H2=>mv E E<|s_p E (zp E E)<|s_p E (zp E E)<|gv E E<|gv E E<|nxr<|mv E E<|qW E E H2 fun t_2 Sx_2 H3=>mv E E<|gv E E<|gv E E<|nx<|zm<|zl Tryz.results108 (zf E (zf E zi)) ⟨_,_,E,H3⟩) (fun Jx hJx H4=>csr<|mv E E<|iteK H4 (fun c H5=>s_p E (yT (zw E E) c)<|mv E E<|sk2 E E<|pk E E E<|nx<|c_t E E<|csr<|gv E E<|gv E E<|nx<|zm<|ze<|zl Tryz.results108 (zf E (zf E zi)) ⟨_,_,E,H5⟩) fun c H5=>s_p E (yF (zw E E) c)<|mv E E<|mv E E<|iteK H5 (fun c_1 H6=>s_p E (yT (qL E E) c_1)<|pk E E E<|nx<|c_t E E<|csr<|gv E E<|gv E E<|nx<|zm<|ze<|zl Tryz.results108 (zf E (zf E zi)) ⟨_,_,E,H6⟩) fun c_1 H6=>s_p E (yF (qL E E) c_1)<|pk E E E<|nx<|cfs E E<|hJx () _ _ _ _ [] H6 E ⟨E,E,E,True.intro⟩ E)
def qU (S:Mem) (s:Pt) (frame:Int) (i:Int) (w:Int) (Q:Int→Mem→Prop):Prop:=
 jn (fun (Sx:Mem)=>
 kK Sx w fun t Sx_1=>
 zR Sx_1 s frame (IntKind.i64.wrap (8*i)) t fun t_1 Sx_2=>
 Q t_1 Sx_2) fun Jx=>
 if i<0 then
 Q 1 S
 else
 if 32≤i then
 Q 1 S
 else
 Jx S
theorem xY {S:Mem} {s:Pt} {frame:Int} {i:Int} {w:Int} {Q:Int→Mem→Prop} (H:qU S s frame i w Q):qN S s frame i w Q:=by
 unfold qU at H
 exact Tr.intro Tryz.func110 E Tryz.ntmps110 E fun w0=>csr<|gv E E<|nx<|zo H (fun (J:Mem→Prop) (z:Unit) S=>J S) (fun z=>⟨22,[(0,eP s),(1,.int .i64 frame),(2,.int .i64 i),(3,.int .u64 w)]⟩) (fun z=>[]) (fun _ Sx H1=>csr<|mv E E<|mv E E<|mv E E<|s_p E (jh E E)<|mv E E<|qW E E H1 fun t Sx_1 H2=>qW E E H2 fun t_1 Sx_2 H3=>gv E E<|nx<|zm<|zl Tryz.results110 (zf E zi) ⟨_,E,H3⟩) (fun Jx hJx H4=>csr<|mv E E<|iteK H4 (fun c H5=>s_p E (yT (zw E E) c)<|mv E E<|sk2 E E<|pk E E E<|nx<|c_t E E<|csr<|gv E E<|nx<|zm<|ze<|zl Tryz.results110 (zf E zi) ⟨_,E,H5⟩) fun c H5=>s_p E (yF (zw E E) c)<|mv E E<|mv E E<|iteK H5 (fun c_1 H6=>s_p E (yT (qL E E) c_1)<|pk E E E<|nx<|c_t E E<|csr<|gv E E<|nx<|zm<|ze<|zl Tryz.results110 (zf E zi) ⟨_,E,H6⟩) fun c_1 H6=>s_p E (yF (qL E E) c_1)<|pk E E E<|nx<|cfs E E<|hJx () _ _ _ _ [] H6 E ⟨E,E,E,E,True.intro⟩ E)
def yw (S:Mem) (s:Pt) (frame:Int) (Q:Int→Mem→Prop):Prop:=
 al S 5 (zrep 256 [.int .u8 0]) fun b Sx=>
 zR Sx s frame 0 (⟨some (b,0),256,256⟩) fun t Sx_1=>
 Q t Sx_1
theorem vI {S:Mem} {s:Pt} {frame:Int} {Q:Int→Mem→Prop} (H:yw S s frame Q):qA S s frame Q:=by
 unfold yw at H
 exact Tr.intro Tryz.func140 E Tryz.ntmps140 E fun w0=>csr<|gv E E<|nxr<|mv E E<|mv E E<|zfb E E E (by decide) (by decide) (by decide) (by decide) fun b=>vy 0 E fun hb=>have H1:=H b hb;qW E E H1 fun t Sx_1 H2=>gv E E<|nx<|zm<|zl Tryz.results140 (zf E zi) ⟨_,E,H2⟩
end Go.Proofs.YtabdpmnhjlmnlaaGreatDoor
end
