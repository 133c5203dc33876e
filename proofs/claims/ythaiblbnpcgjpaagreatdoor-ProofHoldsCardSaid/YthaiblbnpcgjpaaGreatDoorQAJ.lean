/- Texts of this work,joined by program (pack.py). -/
import Derived.Test.YthaiblbnpcgjpaaGreatDoorQAI
import Derived.Test.YthaiblbnpcgjpaaGreatDoorQAB
import Derived.Test.YthaiblbnpcgjpaaGreatDoorQAC
import Derived.Test.YthaiblbnpcgjpaaGreatDoorQAD
import Derived.Test.YthaiblbnpcgjpaaGreatDoorQAF
import Derived.Test.YthaiblbnpcgjpaaGreatDoorQAG
set_option linter.unusedVariables false
namespace Go.Proofs.YthaiblbnpcgjpaaGreatDoor.Hq
section
open Go Go.Pt Go.Hp
open Go.Proofs.YthaiblbnpcgjpaaGreatDoor
def ce (a:Int):List Value:=[.int .i64 a]
def fl (l:List Int):List Value:=l.flatMap ce
def bf (a b:Int):Bool:=decide (a<b)
theorem zaW (a:Int):bf a a=false:=by simp[bf]
theorem bf_ord:Ord bf:=⟨fun a b h=>by simp only[bf,decide_eq_true_eq,decide_eq_false_iff_not] at *;omega,fun a b c h1 h2=>by simp only[bf,decide_eq_false_iff_not] at *;omega⟩
theorem yk (a:Int):(ce a).length=1:=rfl
theorem fl_length (l:List Int):(fl l).length=l.length*1:=by
 induction l with
 | nil=>rfl
 | cons a l ih=>simp only[fl,List.flatMap_cons,List.length_append,List.length_cons] at *;rw[ih,yk];omega
theorem yU (l r:List Int):fl (l++r)=fl l++fl r:=by simp[fl]
theorem gJ {l:List Int} {i:Nat} (h:i<l.length):fl l=fl (l.take i)++(ce (gt l i)++fl (l.drop (i+1))):=by
 have e:l=l.take i++(gt l i :: l.drop (i+1)):=by
  rw[zea h,List.getElem_cons_drop,List.take_append_drop]
 have e2:fl l=fl (l.take i++(gt l i :: l.drop (i+1))):=congrArg fl e
 rw[e2,yU]
 rfl
theorem zgR {l:List Int} {j:List Value} {i:Nat} (h:i<l.length):lpart (fl l++j) (i*1) 1=some (ce (gt l i)):=by
 have hln:=fl_length l
 rw[qA (by simp only[List.length_append];omega),gJ h]
 have ht:(fl (l.take i)).length=i*1:=by rw[fl_length,List.length_take];omega
 congr 1
 rw[List.append_assoc,List.drop_left' ht,List.append_assoc,List.take_left' (yk _)]
theorem ziS {l:List Int} {j:List Value} {i k:Nat} (h:i<l.length) (hk:k<1):nthL (fl l++j) (i*1+k)=nthL (ce (gt l i)) k:=by
 have hp:=zgR (j:=j) h
 rw[zI,zI,wg hp k hk]
theorem zmi {l:List Int} {j:List Value} {i:Nat} {a:Int} (h:i<l.length):spl (fl l++j) (i*1) (ce a)=fl (l.set i a)++j:=by
 have hln:=fl_length l
 rw[xi _ _ _ (by simp only[List.length_append];omega)]
 have ht:(fl (l.take i)).length=i*1:=by rw[fl_length,List.length_take];omega
 have e1:fl (l.set i a)=fl (l.take i)++(ce a++fl (l.drop (i+1))):=by
  rw[List.set_eq_take_append_cons_drop,if_pos h,yU]
  rfl
 have h1:(fl l++j).take (i*1)=fl (l.take i):=by
  rw[gJ h,List.append_assoc,List.take_left' ht]
 have h2:(fl l++j).drop (i*1+(ce a).length)=fl (l.drop (i+1))++j:=by
  rw[gJ h,yk,←List.drop_drop,List.append_assoc,List.drop_left' ht,List.append_assoc,List.drop_left' (yk _)]
 rw[h1,h2,e1]
 simp
structure Ro (S:Mem) (b o c:Nat) (t:TypeId) (s:Sl) (n:Nat):Prop where
 cell:S.cell b o=some (eL s)
 p:s.p=some (c,0)
 n:s.n=n
 ne:b≠c
def wi (S:Mem) (c:Nat) (t:TypeId) (j:List Value) (l:List Int):Mem:=S.set c (bw t (fl l++j))
theorem wi_c {S:Mem} {c:Nat} {t:TypeId} {j:List Value} {l:List Int}:wi S c t j l c=some (bw t (fl l++j)):=zz
section
variable {S:Mem} {b o c:Nat} {t:TypeId} {s:Sl} {j:List Value} {l:List Int} {n:Nat}
theorem gp (h:b≠c):(wi S c t j l).cell b o=S.cell b o:=by
 unfold Mem.cell wi;rw[zO h]
theorem zfI {i:Nat} {a:Int} {K:Mem→Prop} (h:i<l.length) (hK:K (wi S c t j (l.set i a))):pt (wi S c t j l) c (0+i*1) 1 (ce a) K:=by
 have hln:=fl_length l
 refine zkT (t:=t) (cs:=fl l++j) wi_c (by simp only[List.length_append];omega) ?_
 rw[Nat.zero_add,zmi h]
 simpa [wi] using hK
theorem zbK {i:Nat} (h:i<l.length):(wi S c t j l).cell c (0+i*1)=some (.int .i64 (gt l i)):=by
 rw[qj wi_c,Nat.zero_add,show i*1=i*1+0 by omega,ziS h (by decide)];rfl
theorem ziN {cap:Nat} {x y:Nat} (hx:x<l.length) (hy:y<l.length) (hn:n=l.length) {Q:Bool→Mem→Prop} (hQ:Q (bf (gt l x) (gt l y)) (wi S c t j l)):zaS (wi S c t j l) ⟨some (c,0),n,cap⟩ x y Q:=by
 apply zdI
 unfold vO
 rw[fi]
 refine⟨by omega,by omega,?_⟩
 rw[Int.toNat_natCast,zx (zbK hx)]
 refine⟨by omega,by omega,?_⟩
 rw[Int.toNat_natCast,zx (zbK hy)]
 exact hQ
theorem ziw {cap:Nat} {x y:Nat} (hx:x<l.length) (hy:y<l.length) (hn:n=l.length) {Q:Mem→Prop} (hQ:Q (wi S c t j (sw l x y))):zaR (wi S c t j l) ⟨some (c,0),n,cap⟩ x y Q:=by
 apply zdG
 unfold vM
 rw[fi]
 refine⟨by omega,by omega,?_⟩
 rw[Int.toNat_natCast,Int.toNat_natCast,zx (zbK hy)]
 refine⟨by omega,by omega,?_⟩
 rw[zx (zbK hx)]
 refine⟨by omega,by omega,zfI hx ?_⟩
 refine⟨by omega,by omega,zfI (by simpa using hy) ?_⟩
 exact hQ
abbrev rw_ (b o:Nat):Value:=.iface 228 (.pointer (some ⟨b,o,none⟩))
theorem zbw (hr : Ro S b o c t s l.length) {x y : Nat} (hx : x < l.length) (hy : y < l.length) {R : Value → Mem → Prop} (hR : R (.bool (bf (gt l x) (gt l y))) (wi S c t j l)) : ci Tryz.prog (wi S c t j l) (rw_ b o) "Less" [.int .i64 x, .int .i64 y] R := by
 obtain⟨p,n,cap⟩:=s
 obtain⟨h1,h2,h3,h4⟩:=hr
 simp only at h2 h3
 subst h2;subst h3
 exact zpj (v:=eL ⟨some (c,0),l.length,cap⟩) (by rw[gp h4];exact h1) (Tr.mono (ziN hx hy rfl (Q:=fun r S'=>R (.bool r) S') hR) (by rintro v S' ⟨r,rfl,h⟩;exact h))
theorem zbv (hr : Ro S b o c t s l.length) {x y : Nat} (hx : x < l.length) (hy : y < l.length) {R : Value → Mem → Prop} (hR : R (.tuple #[]) (wi S c t j (sw l x y))) : ci Tryz.prog (wi S c t j l) (rw_ b o) "Swap" [.int .i64 x, .int .i64 y] R := by
 obtain⟨p,n,cap⟩:=s
 obtain⟨h1,h2,h3,h4⟩:=hr
 simp only at h2 h3
 subst h2;subst h3
 exact zpj (v:=eL ⟨some (c,0),l.length,cap⟩) (by rw[gp h4];exact h1) (Tr.mono (ziw hx hy rfl (Q:=fun S'=>R (.tuple #[]) S') hR) (by rintro v S' ⟨rfl,h⟩;exact h))
theorem zdB (hr : S.cell b o = some (eL s)) {R : Value → Mem → Prop} (hR : R (.int .i64 s.n) S) : ci Tryz.prog S (rw_ b o) "Len" [] R :=
 zpj hr (Tr.mono (zer (S:=S) (f:=s) (Q:=fun r S'=>R (.int .i64 r) S') hR) (by rintro v S' ⟨r,rfl,h⟩;exact h))
theorem Ro.len (hr:Ro S b o c t s n) {m:Nat} (h:m=n):Ro S b o c t s m:=h ▸ hr
theorem fS (hr:Ro S b o c t s l.length) {lo n:Nat} (hn:n≤l.length) (hlo:lo<l.length) (hl:l.length<1000000) (h:HpF bf l n (lo+1)) {Q:Bool→Mem→Prop}
  (hQ:∀ r l',l'.Perm l→HpF bf l' n lo→(∀ k,n≤k→gt l' k=gt l k)→Q r (wi S c t j l')):fP (wi S c t j l) (rw_ b o) lo n Q:=by
 apply zeu
 unfold gZ
 simp only[jn]
 refine zC (fun (z:Int) S'=>∃ (i:Nat) (l':List Int),z=(i:Int)∧S'=wi S c t j l'∧l'.Perm l∧Dn bf l' n lo i∧i<l.length∧(∀ k,n≤k→gt l' k=gt l k)) (fun z=>(l.length-z).toNat) ?_
  ⟨lo,l,rfl,rfl,List.Perm.refl _,Dn.start h,hlo,fun _ _=>rfl⟩
 rintro X z S' ⟨i,l',rfl,rfl,hp,hd,hi,hk⟩ ih
 have hlen:=hp.length_eq
 have hr':Ro S b o c t s l'.length:=hr.len hlen
 rw[w64 (x:=2*(i:Int)) (by omega) (by omega),w64 (x:=2*(i:Int)+1) (by omega) (by omega),w64 (x:=2*(i:Int)+1+1) (by omega) (by omega)]
 by_cases h1:(n:Int)≤2*(i:Int)+1
 ·rw[if_pos h1]
  exact hQ _ l' hp (hd.leaf (by omega)) hk
 rw[if_neg h1,if_neg (by omega:¬2*(i:Int)+1<0)]
 have e1:2*(i:Int)+1=((2*i+1:Nat):Int):=by omega
 have e2:2*(i:Int)+1+1=((2*i+2:Nat):Int):=by omega
 rw[e2,e1]
 have rest:∀ jx:Nat,(jx=2*i+1∨jx=2*i+2)→jx<n→(∀ k,k=2*i+1∨k=2*i+2→k<n→bf (gt l' k) (gt l' jx)=false) →
   ci Tryz.prog (wi S c t j l') (rw_ b o) "Less" [.int .i64 (jx : Int), .int .i64 (i : Int)] (fun rv Sx_4 => ∃ t_1 : Bool, rv = .bool t_1 ∧ 
       if t_1=true then
        ci Tryz.prog Sx_4 (rw_ b o) "Swap" [.int .i64 (i : Int), .int .i64 (jx : Int)] fun rv Sx_5 => rv = .tuple #[] ∧ 
        X jx Sx_5
       else
       Q (decide ((lo:Int)<i)) Sx_4):=by
  intro jx hj hjn hm
  refine zbw hr' (by omega) (by omega) ⟨_,rfl,?_⟩
  by_cases hs:bf (gt l' jx) (gt l' i)=true
  ·rw[if_pos hs]
   refine zbv hr' (by omega) (by omega) ⟨rfl,?_⟩
   refine ih _ _ ⟨jx,_,rfl,rfl,(zcM (by omega) (by omega)).trans hp,hd.next bf_ord (by omega) hjn hj hm hs,by omega,fun k hkn=>?_⟩ (by omega)
   rw[zcr (by omega) (by omega),if_neg (by omega),if_neg (by omega)]
   exact hk k hkn
  ·rw[if_neg hs]
   exact hQ _ l' hp (hd.stop bf_ord hm (by simpa using hs)) hk
 by_cases h2:((2*i+2:Nat):Int)<n
 ·rw[if_pos h2]
  refine zbw hr' (by omega) (by omega) ⟨_,rfl,?_⟩
  by_cases hs:bf (gt l' (2*i+2)) (gt l' (2*i+1))=true
  ·rw[if_pos hs]
   refine rest _ (.inr rfl) (by omega) ?_
   rintro k (rfl | rfl) hkn
   ·exact bf_ord.asym _ _ hs
   ·exact zaW _
  ·rw[if_neg hs]
   refine rest _ (.inl rfl) (by omega) ?_
   rintro k (rfl | rfl) hkn
   ·exact zaW _
   ·simpa using hs
 ·rw[if_neg h2]
  refine rest _ (.inl rfl) (by omega) ?_
  rintro k (rfl | rfl) hkn
  ·exact zaW _
  ·omega
theorem zij (hr:Ro S b o c t s l.length) {x:Nat} (hx:x<l.length) (hl:l.length<1000000) (h:Up bf l x) {Q:Mem→Prop}
  (hQ:∀ l',l'.Perm l→Heap bf l'→Q (wi S c t j l')):zgO (wi S c t j l) (rw_ b o) x Q:=by
 apply zhi
 unfold zcv
 simp only[jn]
 refine zC (fun (z:Int) S'=>∃ (i:Nat) (l':List Int),z=(i:Int)∧S'=wi S c t j l'∧l'.Perm l∧Up bf l' i∧i<l.length) (fun z=>z.toNat) ?_ ⟨x,l,rfl,rfl,List.Perm.refl _,h,hx⟩
 rintro X z S' ⟨i,l',rfl,rfl,hp,hu,hi⟩ ih
 have hlen:=hp.length_eq
 have hr':Ro S b o c t s l'.length:=hr.len hlen
 rw[w64 (x:=(i:Int)-1) (by omega) (by omega)]
 by_cases h0:i=0
 ·subst h0
  rw[if_pos (by decide)]
  exact hQ l' hp hu.top
 have e:IntKind.i64.wrap (Int.tdiv ((i:Int)-1) 2)=(((i-1)/2:Nat):Int):=by
  rw[td (by omega),w64 (by omega) (by omega)];omega
 rw[e,if_neg (by omega)]
 refine zbw hr' (by omega) (by omega) ⟨_,rfl,?_⟩
 by_cases hs:bf (gt l' i) (gt l' ((i-1)/2))=true
 ·rw[if_pos hs]
  refine zbv hr' (by omega) (by omega) ⟨rfl,?_⟩
  exact ih _ _ ⟨_,_,rfl,rfl,(zcM (by omega) (by omega)).trans hp,hu.next bf_ord (by omega) (by omega) hs,by omega⟩ (by omega)
 ·rw[if_neg hs]
  exact hQ l' hp (hu.stop (by simpa using hs))
theorem init_spec (hr:Ro S b o c t s l.length) (hl:l.length<1000000) {Q:Mem→Prop} (hQ:∀ l',l'.Perm l→Heap bf l'→Q (wi S c t j l')):gh (wi S c t j l) (rw_ b o) Q:=by
 apply zbf
 unfold jg
 refine zdB (s:=s) (by rw[gp hr.ne];exact hr.cell) ⟨_,rfl,?_⟩
 rw[hr.n,td (by omega),w64 (x:=(l.length:Int)/2) (by omega) (by omega),w64 (by omega) (by omega)]
 refine zC (fun (z:Int) S'=>∃ (i:Nat) (l':List Int),z=(i:Int)-1∧S'=wi S c t j l'∧l'.Perm l∧HpF bf l' l.length i∧i≤l.length/2) (fun z=>(z+1).toNat) ?_ ⟨l.length/2,l,by omega,rfl,List.Perm.refl _,HpF.leafs,by omega⟩
 rintro X z S' ⟨i,l',rfl,rfl,hp,hh,hi⟩ ih
 have hlen:=hp.length_eq
 by_cases h0:0≤(i:Int)-1
 ·rw[if_pos h0]
  have e:(i:Int)-1=((i-1:Nat):Int):=by omega
  rw[e]
  refine fS (hr.len hlen) (by omega) (by omega) (by omega) (by rw[show i-1+1=i by omega];exact hh) fun r l2 hp2 hh2 _=>?_
  rw[w64 (by omega) (by omega)]
  exact ih _ _ ⟨i-1,l2,by omega,rfl,hp2.trans hp,hh2,by omega⟩ (by omega)
 ·rw[if_neg h0]
  have:i=0:=by omega
  subst this
  exact hQ l' hp (by unfold Heap;rw[hlen];exact hh)
end
theorem zgv {S:Mem} {b c:Nat} {k m:Blk} (h:b≠c):(S.set c m).set b k=(S.set b k).set c m:=by
 funext x;simp only[Mem.set]
 by_cases h1:x=b
 ·by_cases h2:x=c
  ·exact absurd (h1.symm.trans h2) h
  ·simp[h1,h]
 ·simp[h1]
def own (s:Sl):List Nat:=match s.p with
 | none=>[]
 | some (c,_)=>[c]
structure Ck (S:Mem) (b o:Nat) (tb:TypeId) (cs:List Value) (s:Sl) (l:List Int):Prop where
 blk:S b=some (bw tb cs)
 cell:nthL cs o=some (eL s)
 row:Row S 1 s (fl l)
 ne:∀ c∈own s,b≠c
 heap:Heap bf l
 len:l.length<100000
section
variable {S:Mem} {b o c:Nat} {tb t:TypeId} {cs j:List Value} {s:Sl} {l:List Int} {cap:Nat}
theorem zlw (h:S c=some (bw t (fl l++j))) (hc:l.length≤cap) (hj:j.length=(cap-l.length)*1):Row S 1 ⟨some (c,0),l.length,cap⟩ (fl l):=by
 have hl:=fl_length l
 refine⟨hl,hc,.inr ⟨c,_,rfl,h,rfl,?_,?_⟩⟩
 ·simp only[List.length_append,hl,hj];rw[←Nat.add_mul];congr 1;omega
 ·simp only;rw[List.take_left' hl]
theorem row_open (h:Row S 1 s (fl l)):(s=⟨none,0,0⟩∧l=[])∨∃ c cap t j,s=⟨some (c,0),l.length,cap⟩∧l.length≤cap∧S c=some (bw t (fl l++j))∧j.length=(cap-l.length)*1:=by
 obtain⟨p,n,cp⟩:=s
 have hl:=fl_length l
 have h1:=h.len
 have h2:=h.cap
 simp only at h1 h2
 have hn:n=l.length:=by omega
 subst hn
 rcases h.lie with ⟨h3,h4⟩ | ⟨c,k,h3,h4,h5,h6,h7⟩
 ·simp only at h3 h4
  subst h3;subst h4
  have:l=[]:=List.length_eq_zero_iff.1 (by omega)
  subst this
  exact .inl ⟨rfl,rfl⟩
 ·simp only at h3 h6 h7
  subst h3
  obtain⟨kt,kc,kf⟩:=k
  simp only at h5 h6 h7
  subst h5
  refine .inr ⟨c,cp,kt,kc.drop (l.length*1),rfl,h2,?_,by rw[List.length_drop,h6,Nat.sub_mul]⟩
  rw[←h7,List.take_append_drop];exact h4
theorem Ck.rd (h:Ck S b o tb cs s l):S.cell b o=some (eL s):=by rw[qj h.blk];exact h.cell
theorem own_row {x:Nat} (h:Row S 1 s (fl l)) (hx:x∈own s):∃ k,S x=some k:=by
 rcases row_open h with ⟨rfl,rfl⟩ | ⟨c,cap,t,j,rfl,_,h2,_⟩
 ·simp[own] at hx
 ·simp only[own,List.mem_singleton] at hx;subst hx;exact⟨_,h2⟩
variable {fv:Value}
end
section
variable {S:Mem} {b o c:Nat} {tb t:TypeId} {cs j:List Value} {s:Sl} {l:List Int} {cap:Nat} 
theorem yo {v w:Value} (h:nthL cs o=some w):nthL (spl cs o [v]) o=some v:=by
 have:=xJ h
 rw[zI,jL (by simp;omega),if_pos (by simp)];simp
theorem wi_of (h:S c=some (bw t (fl l++j))):wi S c t j l=S:=zef h
theorem zjj {k:Blk} (h:b≠c):(wi S c t j l).set b k=wi (S.set b k) c t j l:=zgv h
structure Left' (S S':Mem) (b o:Nat) (tb:TypeId) (cs:List Value) (s s':Sl) (l':List Int):Prop where
 ck:Ck S' b o tb (spl cs o [eL s']) s' l'
 keep:Keeps S S' (b :: own s)
 fresh:∀ x∈own s',x∈own s∨S x=none
 al:Grows S S'
theorem ck_mk {S':Mem} {l':List Int} (hb:S' b=some (bw tb cs)) (hcell:nthL cs o=some (eL ⟨some (c,0),l'.length,cap⟩)) (hc:S' c=some (bw t (fl l'++j))) (hle:l'.length≤cap) (hj:j.length=(cap-l'.length)*1) (hne:b≠c) (hh:Heap bf l') (hl:l'.length<100000) :
  Ck S' b o tb cs ⟨some (c,0),l'.length,cap⟩ l':=⟨hb,hcell,zlw hc hle hj,fun x hx=>by simp only[own,List.mem_singleton] at hx;subst hx;exact hne,hh,hl⟩
theorem push_spec (h:Ck S b o tb cs s l) (hl:l.length+1<100000) {a:Int} {Q:Mem→Prop} (hQ:∀ S' s' l',l'.Perm (a :: l)→Left' S S' b o tb cs s s' l'→Q S') :
  fQ S (rw_ b o) (.iface 3 (.int .i64 a)) Q:=by
 apply zev
 unfold fa
 have hlt:=xJ h.cell
 have hlim:(2*(s.n+1)+1024)*8≤281474976710656:=by
  have h1:=h.row.len
  rw[fl_length] at h1
  omega
 refine zqT (t:=228) (Tr.mono (zdH (S:=S) (f:=some (b,o)) (x:=.iface 3 (.int .i64 a)) (Q:=fun S1=>∃ s1,Row S1 1 s1 (fl (l++[a]))∧Keeps S S1 (b :: own s)∧S1 b=some (bw tb (spl cs o [eL s1]))∧(∀ x∈own s1,b≠x)∧(∀ x∈own s1,x∈own s∨S x=none)∧Grows S S1) ?_) ?_)
 ·unfold vN
  rw[zL,wj h.rd]
  refine⟨a,rfl,?_⟩
  refine wS h.row (by simp) (by decide) rfl hlim fun s1 S1 c1 k hn hp1 hor hS1 hrow=>?_
  have hbc:b≠c1:=by
   rcases hor with e | e
   ·exact h.ne c1 (by simp[own,e])
   ·intro e2;subst e2;rw[h.blk] at e;cases e
  have hb1:S1 b=some (bw tb cs):=by rw[hS1,zO hbc];exact h.blk
  refine zkT hb1 (by omega) ?_
  have hown:own s1=[c1]:=by simp[own,hp1]
  refine⟨s1,?_,?_,zz,?_,?_,by rw[hS1];exact Grows.refl.set.set⟩
  ·rw[yU]
   refine hrow.keep fun x hx=>?_
   have:x=c1:=by rw[hp1] at hx;cases hx;rfl
   subst this
   rw[zO (fun e=>hbc e.symm)]
  ·intro x hx hw
   rw[zO (fun e=>hw (by simp[e])),hS1]
   rcases hor with e | e
   ·exact zO (fun e2=>hw (by simp[own,e,e2]))
   ·exact zO (fun e2=>hx (by rw[e2];exact e))
  ·rw[hown];intro x hx;rw[List.mem_singleton] at hx;subst hx;exact hbc
  ·rw[hown];intro x hx;rw[List.mem_singleton] at hx;subst hx
   exact hor.imp (fun e=>by simp[own,e]) id
 ·rintro v S1 ⟨rfl,s1,hrow,hk,hb1,hne,hfr,hgr⟩
  refine⟨rfl,?_⟩
  rcases row_open hrow with ⟨rfl,h0⟩ | ⟨c,cap,t,j,rfl,hle,hc,hj⟩
  ·simp at h0
  ·have hcell1:S1.cell b o=some (eL ⟨some (c,0),(l++[a]).length,cap⟩):=by rw[qj hb1];exact yo h.cell
   have hbc:=hne c (by simp[own])
   refine zdB hcell1 ⟨_,rfl,?_⟩
   simp only[List.length_append,List.length_singleton]
   rw[w64 (by omega) (by omega),show ((l.length+1:Nat):Int)-1=(l.length:Int) by omega]
   rw[←wi_of hc]
   refine zij (s:=⟨some (c,0),(l++[a]).length,cap⟩) ⟨hcell1,rfl,rfl,hbc⟩ (by simp) (by simp;omega) (Up.start h.heap) fun l' hp hh=>?_
   have hlen:=hp.length_eq
   have hx:(⟨some (c,0),(l++[a]).length,cap⟩:Sl)=⟨some (c,0),l'.length,cap⟩:=by rw[hlen]
   rw[hx] at hb1
   refine hQ _ ⟨some (c,0),l'.length,cap⟩ l' (hp.trans (List.perm_append_comm (l₁:=l) (l₂:=[a]))) ⟨ck_mk (by unfold wi;rw[zO hbc];exact hb1) (yo h.cell) wi_c (by omega) (by rw[hlen];exact hj) hbc hh (by rw[hlen];simp;omega),?_,?_,hgr.set⟩
   ·intro x hx2 hw
    by_cases e:x=c
    ·subst e
     rcases hfr x (by simp[own]) with h3 | h3
     ·exact absurd (List.mem_cons_of_mem _ h3) hw
     ·exact absurd h3 hx2
    ·unfold wi;rw[zO e];exact hk x hx2 hw
   ·intro x hx2;exact hfr x hx2
theorem ziP {l:List Int} {n:Nat} (h:l.length=n+1):l=l.take n++[gt l n]:=by
 rw[zea (by omega),←List.take_succ_eq_append_getElem (by omega),←h,List.take_length]
theorem pop_spec (h:Ck S b o tb cs s l) (h0:l≠[]) {Q:Value→Mem→Prop}
  (hQ:∀ S' s' m l',l.Perm (m :: l')→(∀ x∈l',bf x m=false)→m=gt l 0→own s'=own s→Left' S S' b o tb cs s s' l'→Q (.iface 3 (.int .i64 m)) S'):zcp S (rw_ b o) Q:=by
 apply zfL
 unfold zaz
 have hlt:=xJ h.cell
 have hlen:=h.len
 have hpos:=List.length_pos_iff.2 h0
 rcases row_open h.row with ⟨rfl,rfl⟩ | ⟨c,cap,t,j,rfl,hle,hc,hj⟩
 ·exact absurd rfl h0
 ·have hne:b≠c:=h.ne c (by simp[own])
  refine zdB h.rd ⟨_,rfl,?_⟩
  simp only
  rw[w64 (by omega) (by omega),show (l.length:Int)-1=((l.length-1:Nat):Int) by omega]
  have hr:Ro S b o c t ⟨some (c,0),l.length,cap⟩ l.length:=⟨h.rd,rfl,rfl,hne⟩
  rw[←wi_of hc]
  have e0:(0:Int)=((0:Nat):Int):=rfl
  rw[e0]
  refine zbv hr (by omega) (by omega) ⟨rfl,?_⟩
  have hsl:(sw l 0 (l.length-1)).length=l.length:=zcf _ _ _
  refine fS (hr.len hsl) (by omega) (by omega) (by omega) (h.heap.pop (by omega)) fun r l2 hp2 hh2 hk2=>?_
  have hl2:l2.length=l.length:=by rw[hp2.length_eq,hsl]
  have hlast:gt l2 (l.length-1)=gt l 0:=by
   rw[hk2 _ (Nat.le_refl _),zcr (by omega) (by omega),if_pos rfl]
  have hsplit:l2=l2.take (l.length-1)++[gt l2 (l.length-1)]:=ziP (by omega)
  have hpl:l.Perm (gt l 0 :: l2.take (l.length-1)):=by
   have h1:l2.Perm l:=hp2.trans (zcM (by omega) (by omega))
   rw[hlast] at hsplit
   have h2:l2.Perm (gt l 0 :: l2.take (l.length-1)):=by
    conv=>lhs;rw[hsplit]
    exact List.perm_append_comm (l₂:=[gt l 0])
   exact h1.symm.trans h2
  have hcell2:(wi S c t j l2).cell b o=some (eL ⟨some (c,0),l.length,cap⟩):=by rw[gp hne];exact h.rd
  refine zqT (t:=228) (Tr.mono (zeq (S:=wi S c t j l2) (f:=some (b,o)) (Q:=fun v S1=>Q v S1) ?_) (by rintro v S1 ⟨r,rfl,h⟩;exact⟨_,rfl,h⟩))
  unfold jd
  rw[zL,wj hcell2,fi]
  simp only
  rw[w64 (by omega) (by omega),show (l.length:Int)-1=((l.length-1:Nat):Int) by omega]
  refine⟨by omega,by omega,?_⟩
  rw[Int.toNat_natCast,zx (zbK (by omega)),hlast]
  refine⟨by omega,by omega,?_⟩
  unfold lt
  have e1:slc 1 ⟨some (c,0),l.length,cap⟩ 0 ((l.length-1:Nat):Int)=⟨some (c,0),l.length-1,cap⟩:=by
   simp only[slc]
   rw[if_neg (by simp;omega)];simp
  rw[e1]
  refine zkT (t:=tb) (cs:=cs) (by unfold wi;rw[zO hne];exact h.blk) (by omega) ?_
  have htl:(l2.take (l.length-1)).length=l.length-1:=by rw[List.length_take];omega
  have e2:wi S c t j l2=wi S c t (ce (gt l 0)++j) (l2.take (l.length-1)):=by
   unfold wi
   congr 2
   rw[hlast] at hsplit
   conv=>lhs;rw[hsplit,yU]
   simp[fl]
  rw[e2,zjj hne]
  have e3:(⟨some (c,0),l.length-1,cap⟩:Sl)=⟨some (c,0),(l2.take (l.length-1)).length,cap⟩:=by rw[htl]
  rw[e3]
  refine hQ _ ⟨some (c,0),(l2.take (l.length-1)).length,cap⟩ (gt l 0) (l2.take (l.length-1)) hpl ?_ rfl rfl ⟨ck_mk (by unfold wi;rw[zO hne];exact zz) (yo h.cell) wi_c (by omega) ?_ hne (hh2.take (by omega)) (by omega),?_,fun x hx=>.inl hx,Grows.refl.set.set⟩
  ·intro x hx
   have:x∈l:=hpl.symm.subset (List.mem_cons_of_mem _ hx)
   obtain⟨k,hk,rfl⟩:=List.getElem_of_mem this
   rw[←zea hk]
   exact h.heap.least bf_ord zaW k hk
  ·rw[List.length_append,yk,hj,htl,show cap-(l.length-1)=(cap-l.length)+1 by omega,Nat.add_mul];omega
  ·intro x hx hw
   simp only[own,List.mem_cons,List.not_mem_nil,or_false,not_or] at hw
   unfold wi
   rw[zO hw.2,zO hw.1]
end
end
end Go.Proofs.YthaiblbnpcgjpaaGreatDoor.Hq
namespace Go.Proofs.YthaiblbnpcgjpaaGreatDoor
section
open Go Go.Pt Go.Proofs.Tryz
attribute [local irreducible] lt WD WN Code.wp Back bodyPost wpList FR WL WC WQ WA AW Tr Yc HC AllC
set_option maxRecDepth 20000
set_option maxHeartbeats 4000000
def wI (S:Mem) (c:Pt) (vm:Int) (page:Int) (Q:Mem→Prop):Prop:=
 al S 3 ([.int .i64 vm]) fun b Sx=>
 al Sx 3 ([.int .i64 page]) fun b_1 Sx_1=>
 if c≠none then
 xF Sx_1 c (.func (.func 226) #[] #[.pointer (some ⟨b,0,none⟩),.pointer (some ⟨b_1,0,none⟩)]) fun Sx_2=>
 Q Sx_2
 else
 Q Sx_1
theorem zcc {S:Mem} {c:Pt} {vm:Int} {page:Int} {Q:Mem→Prop} (H:wI S c vm page Q):yE S c vm page Q:=by
 unfold wI at H
 exact Tr.intro func190 E ntmps190 E fun w0=>go results190 H
def yY (S:Mem) (r:List Value) (t:Pt) (t_1:Pt) (Q:Bool→Mem→Prop):Prop:=
 r.length=5 ∧
 gA (lpart r 0 2) fun a=>
 nn t fun b_1 o=>
 gI (S.cell b_1 o) .i64 fun t_2=>
 nn t_1 fun b_2 o_1=>
 gI (S.cell b_2 o_1) .i64 fun t_3=>
 fits [.i .i64,.i .i64] a=true ∧
 Q (!(eqL a ([.int .i64 t_2,.int .i64 t_3]))) S
theorem fG {S:Mem} {r:List Value} {t:Pt} {t_1:Pt} {Q:Bool→Mem→Prop} (H:yY S r t t_1 Q):zbx S r t t_1 Q:=by
 unfold yY at H
 exact Tr.intro func226 E ntmps226 E fun w0=>an H fun hr H1=>csr<|jM E E E fun b=>gv E E<|nxr<|s_p E (zA E E)<|gx H1 fun a ha H2=>by refine s_v E (qk E ((qE ha).2.2)) (zD 0 E ha) ?_;exact by obtain⟨b_1,o,rfl,H3⟩:=H2;exact gx H3 fun t_2 ht_2 H4=>s_v E (zG E) (qh ht_2)<|by obtain⟨b_2,o_1,rfl,H5⟩:=H4;exact gx H5 fun t_3 ht_3 H6=>s_v E (zG E) (qh ht_3)<|s_p E (ql E E)<|by exact an H6 fun c H7=>s_p E (zof E E c E)<|gv E E<|nx<|zu<|zt results226 (zf E zi) ⟨_,E,H7⟩
def wH (S:Mem) (c:Pt) (vm:Int) (page:Int) (Q:List Value→Bool→Mem→Prop):Prop:=
 jn (fun (v:List Value) (Sx:Mem)=>
 v.length=3 ∧
 Q ([.bool false,.int .i64 0,.bool false]) false Sx) fun Jx=>
 if c≠none then
 nn c fun b_1 o=>
 gL (S.cell b_1 o) fun t=>
 lp (fun Xx (z:Int×List Value) (Sx_1:Mem)=>
 match z with
 | (t_1,v_1)=>
 v_1.length=3 ∧
 if t_1<(t.n:Int) then
 sl t fun b_2 o_1 n n_1=>
 0≤t_1∧t_1<((n:Nat):Int) ∧
 gA (Sx_1.part b_2 (o_1+t_1.toNat*5) 5) fun t_2=>
 t_2.all (·.oneCell')=true ∧
 gA (lpart t_2 0 2) fun a=>
 fits [.i .i64,.i .i64] a=true ∧
 if (eqL a ([.int .i64 vm,.int .i64 page]))=true then
 gA (lpart t_2 2 3) fun a_1=>
 a_1.all (·.oneCell')=true ∧
 Q a_1 true Sx_1
 else
 Xx (IntKind.i64.wrap (t_1+1),v_1) Sx_1
 else
 Jx v_1 Sx_1) (0,[.bool false,.int .i64 0,.bool false]) S
 else
 Jx ([.bool false,.int .i64 0,.bool false]) S
theorem zcb {S:Mem} {c:Pt} {vm:Int} {page:Int} {Q:List Value→Bool→Mem→Prop} (H:wH S c vm page Q):vK S c vm page Q:=by
 unfold wH at H
 exact Tr.intro func248 E ntmps248 E fun w0=>csr<|by refine zX E fun b=>?_;exact gv E E<|nx<|zy H (fun (J:List Value→Mem→Prop) (z:List Value) S=>J z S) (fun z=>⟨31,[(6,.pointer (some ⟨b,0,none⟩))]⟩) (fun z=>[⟨b,80,z⟩]) (fun v Sx H1=>an H1 fun hv H2=>csr<|s_p E (ql E E)<|by exact zn 0 E E E E E E hv E<|gv E E<|nx<|zu<|zt results248 (zv E (zD (k:=3) 0 E E) E (zf E zi)) ⟨_,_,E,E,H2⟩) (fun Jx hJx H3=>csr<|mv E E<|iteK H3 (fun c_1 H4=>s_p E (yT (zha (p:=c) E E) c_1)<|nx<|c_t E E<|csr<|mv E E<|by obtain⟨b_1,o,rfl,H5⟩:=H4;exact s_p E (qx E)<|s_p E (zA E E)<|gx H5 fun t ht H6=>s_v E (zG E) (qh ht)<|s_p E (jJ E)<|mv E E<|nx<|zK<|xC (fun z=>⟨31,[(1,.int .i64 vm),(2,.int .i64 page),(6,.pointer (some ⟨b,0,none⟩)),(15,eL t),(16,.int .i64 (t.n:Int)),(17,.int .i64 z.1)]⟩) (fun z=>[⟨b,80,z.2⟩]) (0,[.bool false,.int .i64 0,.bool false]) (idx:=[0]) H6 E ⟨E,E,E,E,E,E,True.intro⟩ E<|by rintro Xx hXx ⟨t_1,v_1⟩ Sx_1 H7;exact an H7 fun hv_1 H8=>csr<|iteK H8 (fun c_2 H9=>s_p E (yT (qq E E) c_2)<|nx<|qb<|c_t E E<|yV<|zB<|qb<|zK<|csr<|by obtain⟨b_2,o_1,n,n_1,rfl,H10⟩:=H9;exact an2 H10 fun c_3 c_4 H11=>s_p E (gn E E c_3 c_4 E)<|gx H11 fun t_2 ht_2 H12=>by refine s_v E (qk E (qL ht_2)) (jw ht_2) ?_;exact by refine zX E fun b_3=>?_;exact an H12 fun c_5 H13=>zn 1 E E E E E (qL ht_2) E c_5<|nxr<|s_p E (zA E E)<|gx H13 fun a ha H14=>by refine s_v E (qk E ((qE ha).2.2)) (zD 1 E ha) ?_;exact mv E E<|mv E E<|s_p E (ql E E)<|by exact an H14 fun c_6 H15=>iteK H15 (fun c_8 H16=>s_p E (yB (zmJ E E c_6 E) c_8)<|nx<|c_t E E<|csr<|s_p E (zA E E)<|gx H16 fun a_1 ha_1 H17=>by refine s_v E (qk E ((qE ha_1).2.2)) (zD 1 E ha_1) ?_;exact an H17 fun c_9 H18=>zn 0 E E E E E ((qE ha_1).2.2) hv_1 c_9<|gv E E<|nx<|zu<|zo<|zd<|zd<|zo<|zd<|zt results248 (zv E (zD (k:=3) 0 E (ze ((qE ha_1).2.2))) ((qE ha_1).2.2) (zf E zi)) ⟨_,_,E,(qE ha_1).2.2,H18⟩) fun c_8 H16=>s_p E (yB (zmJ E E c_6 E) (zfp c_8))<|nx<|cfs E E<|qr<|zB<|zE<|s_p E (qZ E E)<|mv E E<|zr<|hXx (IntKind.i64.wrap (t_1+1),v_1) _ _ _ _ [0] H16 E ⟨E,E,E,E,E,E,True.intro⟩ E) fun c_2 H9=>s_p E (yF (qq E E) c_2)<|nx<|qb<|c_f E E<|qY<|zm<|zm<|zV<|hJx v_1 _ _ _ _ [0] H9 E ⟨E,True.intro⟩ E) fun c_1 H4=>s_p E (yF (zha (p:=c) E E) c_1)<|nx<|cfs E E<|hJx ([.bool false,.int .i64 0,.bool false]) _ _ _ _ [0] H4 E ⟨E,True.intro⟩ E)
def vu (S:Mem) (c:Pt) (vm:Int) (page:Int) (x:List Value) (Q:Mem→Prop):Prop:=
 x.length=3 ∧
 jn (fun (Sx:Mem)=>
 yE Sx c vm page fun Sx_1=>
 jn (fun (Sx_2:Mem)=>
 nn c fun b_1 o=>
 gL (Sx_2.cell b_1 o) fun t=>
 (spl (spl ([.int .i64 0,.int .i64 0,.bool false,.int .i64 0,.bool false]) 0 [.int .i64 vm,.int .i64 page]) 2 x).all (·.oneCell')=true ∧
 ap Sx_2 243 5 40 [.int .i64 0,.int .i64 0,.bool false,.int .i64 0,.bool false] t 1 (spl (spl ([.int .i64 0,.int .i64 0,.bool false,.int .i64 0,.bool false]) 0 [.int .i64 vm,.int .i64 page]) 2 x) fun t_1 Sx_3=>
 pt Sx_3 b_1 o 1 ([eL t_1]) fun Sx_4=>
 Q Sx_4) fun Jx=>
 nn c fun b_3 o_1=>
 gL (Sx_1.cell b_3 o_1) fun t_2=>
 if (t_2.n:Int)=8 then
 gL (Sx_1.cell b_3 o_1) fun t_3=>
 (0:Int)≤1∧(1:Int)≤(t_3.n:Int)∧(t_3.n:Int)≤(t_3.c:Int) ∧
 lt (slc 5 t_3 1 (t_3.n:Int)) fun t_4=>
 sp Sx_1 t_4 5 fun vs=>
 ap Sx_1 243 5 40 [.int .i64 0,.int .i64 0,.bool false,.int .i64 0,.bool false] (⟨none,0,0⟩) t_4.n vs fun t_5 Sx_5=>
 pt Sx_5 b_3 o_1 1 ([eL t_5]) fun Sx_6=>
 Jx Sx_6
 else
 Jx Sx_1) fun Jx_1=>
 if c=none then
 Q S
 else
 Jx_1 S
theorem zcJ {S:Mem} {c:Pt} {vm:Int} {page:Int} {x:List Value} {Q:Mem→Prop} (H:vu S c vm page x Q):jc S c vm page x Q:=by
 unfold vu at H
 exact Tr.intro func249 E ntmps249 E fun w0=>an H fun hx H1=>csr<|jM E E E fun b=>nx<|zy H1 (fun (J:Mem→Prop) (z:Unit) S=>J S) (fun z=>⟨43,[(0,eP c),(1,.int .i64 vm),(2,.int .i64 page),(7,.pointer (some ⟨b,0,none⟩))]⟩) (fun z=>[⟨b,80,x⟩]) (fun _ Sx H2=>csr<|mv E E<|mv E E<|mv E E<|zlu E E H2 fun Sx_1 H3=>nx<|zy H3 (fun (J:Mem→Prop) (z:Unit) S=>J S) (fun z=>⟨43,[(0,eP c),(1,.int .i64 vm),(2,.int .i64 page),(7,.pointer (some ⟨b,0,none⟩))]⟩) (fun z=>[⟨b,80,x⟩]) (fun _ Sx_2 H4=>qa (by kernel_rfl)<|a_takeP 0 E (by decide +kernel) zb E (zp E)<|by exact a_takeP 1 E (by decide +kernel) zb E (zp E)<|by exact by obtain⟨b_1,o,rfl,H5⟩:=H4;exact a_takeP 2 E (by decide +kernel) zb E (qx E)<|by exact a_takeP 3 E (by decide +kernel) zb E (zA E E)<|by exact gx H5 fun t ht H6=>zY 4 E (by decide +kernel) zb E (zG E) (qh ht)<|by exact a_takeP 5 E (by decide +kernel) zb E (zp E)<|by exact a_takeP 6 E (by decide +kernel) zb E (zp E)<|by exact a_takeP 7 E (by decide +kernel) zb E (ql E E)<|by exact by refine zY 8 E (by decide +kernel) zb E (qk E hx) (zD (k:=3) 0 E (ze hx)) ?_;exact a_takeP 9 E (by decide +kernel) zb E (ql E (yC (off:=0) (size:=2) E E (wR (n:=5) E (by decide)) (yC (off:=2) (size:=3) E hx (wR (n:=5) (ge (m:=2) E E (by decide)) (by decide)) zei)))<|by exact zw 10 (by decide +kernel) E<|by exact zjr E E (by decide) (jD (size:=5) E (ge (m:=3) (ge (m:=2) E E (by decide)) hx (by decide))) fun b_2=>zr<|zH (zj (zD (k:=3) 0 E (ze hx)) (zj (qh ht) zq))<|zw 11 (by decide +kernel) E<|by exact an H6 fun c_1 H7=>gf (sx:=t) (vs:=spl (spl ([.int .i64 0,.int .i64 0,.bool false,.int .i64 0,.bool false]) 0 [.int .i64 vm,.int .i64 page]) 2 x) E E E (zgS 1 E (ze (ge (m:=3) (ge (m:=2) E E (by decide)) hx (by decide)))) (ge (m:=3) (ge (m:=2) E E (by decide)) hx (by decide)) c_1 (by decide) H7 fun t_1 Sx_3 H8=>zr<|zH (zj (zD (k:=3) 0 E (ze hx)) zq)<|a_takeP 12 E (by decide +kernel) zb E (qx E)<|by exact a_takeP 13 E (by decide +kernel) zb E (zA E E)<|by exact zw 14 (by decide +kernel) E<|by exact an H8 fun c_2 H9=>vD E E E E E c_2 E<|zr<|zH zq<|zW (by decide +kernel)<|by exact zgz results249 (zi) ⟨E,H9⟩) (fun Jx hJx H10=>csr<|mv E E<|by obtain⟨b_3,o_1,rfl,H11⟩:=H10;exact s_p E (qx E)<|s_p E (zA E E)<|gx H11 fun t_2 ht_2 H12=>s_v E (zG E) (qh ht_2)<|s_p E (jJ E)<|iteK H12 (fun c_3 H13=>ceT E E E (c_3)<|nx<|ctr E E<|mv E E<|mv E E<|s_p E (qx E)<|s_p E (zA E E)<|gx H13 fun t_3 ht_3 H14=>s_v E (zG E) (qh ht_3)<|an3 H14 fun c_4 c_5 c_6 H15=>by obtain⟨t_4,et_4,H16⟩:=zmG H15;exact s_p E (eqv (zft (a:=1) (b:=(t_3.n:Int)) E E E c_4 c_5 c_6) (congrArg eL et_4))<|by obtain⟨vs,h,c_7,H17⟩:=H16;exact gf (sx:=⟨none,0,0⟩) (vs:=vs) E E E ((zbq h).1) ((zbq (P:=prog) (w0:=w0) (S0:=S) (V:=[]) h).2) c_7 (by decide) H17 fun t_5 Sx_5 H18=>s_p E (qx E)<|s_p E (zA E E)<|an H18 fun c_8 H19=>vD E E E E E c_8 E<|zr<|hJx () _ _ _ _ [0] H19 E ⟨E,E,E,E,True.intro⟩ E) fun c_3 H13=>ceF E E E (c_3)<|nx<|cfs E E<|hJx () _ _ _ _ [0] H13 E ⟨E,E,E,E,True.intro⟩ E)) (fun Jx_1 hJx_1 H20=>csr<|mv E E<|iteK H20 (fun c_9 H21=>s_p E (yT (wP (p:=c) E E) c_9)<|nx<|c_t E E<|zu<|zd<|zt results249 (zi) ⟨E,H21⟩) fun c_9 H21=>s_p E (yF (wP (p:=c) E E) c_9)<|nx<|cfs E E<|hJx_1 () _ _ _ _ [0] H21 E ⟨E,E,E,E,True.intro⟩ E)
def wG (S:Mem) (c:Pt) (wants:Value) (Q:Mem→Prop):Prop:=
 jn (fun (l:Sl) (Sx:Mem)=>
 nn c fun b o=>
 pt Sx b o 1 ([eL l]) fun Sx_1=>
 Q Sx_1) fun Jx=>
 nn c fun b_1 o_1=>
 gL (S.cell b_1 o_1) fun t=>
 lp (fun Xx (z:Sl×Int) (Sx_2:Mem)=>
 match z with
 | (l_1,t_1)=>
 if t_1<(t.n:Int) then
 sl t fun b_2 o_2 n n_1=>
 0≤t_1∧t_1<((n:Nat):Int) ∧
 gA (Sx_2.part b_2 (o_2+t_1.toNat*5) 5) fun t_2=>
 t_2.all (·.oneCell')=true ∧
 cv prog Sx_2 wants [valL t_2] fun rv Sx_3=>∃ t_3:Bool,rv=.bool t_3∧
 if t_3=true then
 t_2.all (·.oneCell')=true ∧
 ap Sx_3 243 5 40 [.int .i64 0,.int .i64 0,.bool false,.int .i64 0,.bool false] l_1 1 t_2 fun t_4 Sx_4=>
 Xx (t_4,IntKind.i64.wrap (t_1+1)) Sx_4
 else
 Xx (l_1,IntKind.i64.wrap (t_1+1)) Sx_3
 else
 Jx l_1 Sx_2) (⟨none,0,0⟩,0) S
theorem zca {S:Mem} {c:Pt} {wants:Value} {Q:Mem→Prop} (H:wG S c wants Q):xF S c wants Q:=by
 unfold wG at H
 have:=dj0 (α:=Sl×Unit) 8 [0] (fun z=>[(4,eL z.1)])
 have:=dj0 (α:=Sl×Int) 3 [0,1,10,11] (fun z=>[(4,eL z.1),(12,.int .i64 z.2)])
 exact Tr.intro func156 E ntmps156 E fun w0=>go results156 H
def xx (S:Mem) (c:Pt) (vm:Int) (Q:Mem→Prop):Prop:=
 al S 3 ([.int .i64 vm]) fun b Sx=>
 if c≠none then
 xF Sx c (.func (.func 157) #[] #[.pointer (some ⟨b,0,none⟩)]) fun Sx_1=>
 Q Sx_1
 else
 Q Sx
theorem zaK {S:Mem} {c:Pt} {vm:Int} {Q:Mem→Prop} (H:xx S c vm Q):wt S c vm Q:=by
 unfold xx at H
 exact Tr.intro func105 E ntmps105 E fun w0=>go results105 H
def yw (S:Mem) (r:List Value) (t:Pt) (Q:Bool→Mem→Prop):Prop:=
 r.length=5 ∧
 gI (nthL r 0) .i64 fun t_1=>
 nn t fun b_1 o=>
 gI (S.cell b_1 o) .i64 fun t_2=>
 Q (decide (t_1≠t_2)) S
theorem gz {S:Mem} {r:List Value} {t:Pt} {Q:Bool→Mem→Prop} (H:yw S r t Q):fW S r t Q:=by
 unfold yw at H
 exact Tr.intro func157 E ntmps157 E fun w0=>go results157 H
end
section
open Go Go.Pt Go.Proofs.Tryz
attribute [local irreducible] lt WD WN Code.wp Back bodyPost wpList FR WL WC WQ WA AW Tr Yc HC AllC
set_option maxRecDepth 20000
set_option maxHeartbeats 4000000
def zaa (S:Mem) (form:Int) (x:List Value) (Q:Int→Mem→Prop):Prop:=
 x.length=3 ∧
 jn (fun (Sx:Mem)=>
 jn (fun (Sx_1:Mem)=>
 gI (nthL x 1) .i64 fun t=>
 yc Sx_1 9223372036854775808 0 16 (ineg .u64 (IntKind.u64.wrap t)) fun t_1 Sx_2=>
 gB (nthL x 2) fun t_2=>
 if t_2=true then
 Q (ior .u64 t_1 4611686018427387904) Sx_2
 else
 Q t_1 Sx_2) fun Jx=>
 if form=1 then
 gI (nthL x 1) .i64 fun t_3=>
 yc Sx 1 8 16 (IntKind.u64.wrap t_3) fun t_4 Sx_3=>
 gB (nthL x 2) fun t_5=>
 if t_5=true then
 Q (ior .u64 t_4 2) Sx_3
 else
 Q t_4 Sx_3
 else
 Jx Sx) fun Jx_1=>
 gB (nthL x 0) fun t_6=>
 if t_6=true then
 Jx_1 S
 else
 Q 0 S
theorem zhf {S:Mem} {form:Int} {x:List Value} {Q:Int→Mem→Prop} (H:zaa S form x Q):gb S form x Q:=by
 unfold zaa at H
 have:=dj (α:=Unit) 10 [3] (fun _=>[]) (fun _=>[(0,none)])
 have:=dj (α:=Unit) 4 [0,3] (fun _=>[]) (fun _=>[(0,none)])
 exact Tr.intro func131 E ntmps131 E fun w0=>go results131 H
def jU (S:Mem) (form:Int) (w:Int) (Q:List Value→Bool→Mem→Prop):Prop:=
 yG S w 8 16 fun t Sx=>
 jn (fun (x:List Value) (Sx_1:Mem)=>
 x.length=3 ∧
 jn (fun (v:List Value) (Sx_2:Mem)=>
 v.length=3 ∧
 gb Sx_2 form x fun t_1 Sx_3=>
 if t_1≠w then
 Q ([.bool false,.int .i64 0,.bool false]) false Sx_3
 else
 x.all (·.oneCell')=true ∧
 Q x true Sx_3) fun Jx=>
 if w=0 then
 Q ([.bool false,.int .i64 0,.bool false]) true Sx_1
 else
 Jx ([.bool false,.int .i64 0,.bool false]) Sx_1) fun Jx_1=>
 if form≠1 then
 yG Sx (ineg .u64 w) 0 16 fun t_2 Sx_4=>
 Jx_1 ([.bool true,.int .i64 (IntKind.i64.wrap t_2),.bool (decide (iand .u64 (ishr .u64 w 62) 1=1))]) Sx_4
 else
 Jx_1 ([.bool true,.int .i64 (IntKind.i64.wrap t),.bool (decide (iand .u64 w 2≠0))]) Sx
theorem zfv {S:Mem} {form:Int} {w:Int} {Q:List Value→Bool→Mem→Prop} (H:jU S form w Q):jz S form w Q:=by
 unfold jU at H
 have:=dj (α:=List Value×Unit) 7 [0,1,4,6] (fun _=>[]) (fun z=>[(0,some z.1),(1,none)])
 have:=dj (α:=List Value×Unit) 5 [0,1,4,6] (fun _=>[]) (fun z=>[(0,none),(1,some z.1)])
 exact Tr.intro func75 E ntmps75 E fun w0=>go results75 H
def wu (S:Mem) (t:List Value) (s:Pt) (page:Int) (Q:Int→Int→Int→Mem→Prop):Prop:=
 t.length=2 ∧
 jn (fun (Sx:Mem)=>
 gL (nthL t 1) fun t_1=>
 sl t_1 fun b_1 o n n_1=>
 (0:Int)<(n:Nat) ∧
 gI (Sx.cell b_1 o) .i64 fun t_2=>
 yz Sx s t_2 (IntKind.i64.wrap (Int.tdiv page 8)) fun t_3 t_4 Sx_1=>
 gI (nthL t 0) .i64 fun t_5=>
 jz Sx_1 t_5 t_3 fun t_6 t_7 Sx_2=>
 if t_7=true then
 t_6.all (·.oneCell')=true ∧
 jn (fun (Sx_3:Mem)=>
 gI (nthL t_6 1) .i64 fun t_8=>
 Q t_8 (Int.tmod page 8) 0 Sx_3) fun Jx=>
 if t_4≠0 then
 Q 0 0 11 Sx_2
 else
 gB (nthL t_6 0) fun t_9=>
 if t_9=true then
 Jx Sx_2
 else
 Q 0 0 11 Sx_2
 else
 t_6.all (·.oneCell')=true ∧
 jn (fun (Sx_4:Mem)=>
 gI (nthL t_6 1) .i64 fun t_10=>
 Q t_10 (Int.tmod page 8) 0 Sx_4) fun Jx_1=>
 if t_4≠0 then
 Q 0 0 11 Sx_2
 else
 Q 0 0 11 Sx_2) fun Jx_2=>
 if page<0 then
 Q 0 0 1 S
 else
 if 32≤page then
 Q 0 0 1 S
 else
 gL (nthL t 1) fun t_11=>
 if (t_11.n:Int)=0 then
 Q 0 0 1 S
 else
 Jx_2 S
theorem zbN {S:Mem} {t:List Value} {s:Pt} {page:Int} {Q:Int→Int→Int→Mem→Prop} (H:wu S t s page Q):yy S t s page Q:=by
 unfold wu at H
 have:=dj (α:=Unit) 8 [2,11] (fun _=>[]) (fun _=>[(1,none)])
 have:=dj (α:=Unit) 4 [1,2,3] (fun _=>[]) (fun _=>[(0,none)])
 exact Tr.intro func74 E ntmps74 E fun w0=>go results74 H
def vf (S:Mem) (t:List Value) (s:Pt) (page:Int) (frame:Int) (write:Bool) (Q:Int→Mem→Prop):Prop:=
 t.length=2 ∧
 yy S t s page fun t_1 t_2 t_3 Sx=>
 jn (fun (Sx_1:Mem)=>
 gI (nthL t 0) .i64 fun t_4=>
 gb Sx_1 t_4 ([.bool true,.int .i64 frame,.bool write]) fun t_5 Sx_2=>
 qN Sx_2 s t_1 t_2 t_5 fun t_6 Sx_3=>
 Q t_6 Sx_3) fun Jx=>
 if t_3≠0 then
 Q t_3 Sx
 else
 if frame<0 then
 Q 1 Sx
 else
 qF Sx s fun t_7 Sx_4=>
 if t_7≤frame then
 Q 1 Sx_4
 else
 Jx Sx_4
theorem zcy {S:Mem} {t:List Value} {s:Pt} {page:Int} {frame:Int} {write:Bool} {Q:Int→Mem→Prop} (H:vf S t s page frame write Q):kL S t s page frame write Q:=by
 unfold vf at H
 have:=dj (α:=Unit) 7 [1,3,4,5,11,12] (fun _=>[]) (fun _=>[(0,none)])
 exact Tr.intro func189 E ntmps189 E fun w0=>go results189 H
def xL (S:Mem) (t:List Value) (s:Pt) (page:Int) (Q:Int→Mem→Prop):Prop:=
 t.length=2 ∧
 yy S t s page fun t_1 t_2 t_3 Sx=>
 if t_3≠0 then
 Q t_3 Sx
 else
 qN Sx s t_1 t_2 0 fun t_4 Sx_1=>
 Q t_4 Sx_1
theorem zba {S:Mem} {t:List Value} {s:Pt} {page:Int} {Q:Int→Mem→Prop} (H:xL S t s page Q):wV S t s page Q:=by
 unfold xL at H
 exact Tr.intro func193 E ntmps193 E fun w0=>go results193 H
def wv (S:Mem) (t:List Value) (s:Pt) (page:Int) (Q:List Value→Int→Mem→Prop):Prop:=
 t.length=2 ∧
 yy S t s page fun t_1 t_2 t_3 Sx=>
 jn (fun (v:List Value) (Sx_1:Mem)=>
 v.length=3 ∧
 yz Sx_1 s t_1 t_2 fun t_4 t_5 Sx_2=>
 gI (nthL t 0) .i64 fun t_6=>
 jz Sx_2 t_6 t_4 fun t_7 t_8 Sx_3=>
 if t_8=true then
 t_7.all (·.oneCell')=true ∧
 if t_5≠0 then
 Q ([.bool false,.int .i64 0,.bool false]) 11 Sx_3
 else
 gB (nthL t_7 0) fun t_9=>
 if t_9=true then
 t_7.all (·.oneCell')=true ∧
 Q t_7 0 Sx_3
 else
 Q ([.bool false,.int .i64 0,.bool false]) 11 Sx_3
 else
 t_7.all (·.oneCell')=true ∧
 if t_5≠0 then
 Q ([.bool false,.int .i64 0,.bool false]) 11 Sx_3
 else
 Q ([.bool false,.int .i64 0,.bool false]) 11 Sx_3) fun Jx=>
 if t_3≠0 then
 Q ([.bool false,.int .i64 0,.bool false]) t_3 Sx
 else
 Jx ([.bool false,.int .i64 0,.bool false]) Sx
theorem zbO {S:Mem} {t:List Value} {s:Pt} {page:Int} {Q:List Value→Int→Mem→Prop} (H:wv S t s page Q):zP S t s page Q:=by
 unfold wv at H
 have:=dj (α:=List Value×Unit) 5 [1,3,6,8,9] (fun _=>[]) (fun z=>[(0,none),(1,some z.1)])
 exact Tr.intro func30 E ntmps30 E fun w0=>go results30 H
def zab (S:Mem) (s:Pt) (form:Int) (frames:Sl) (Q:List Value→Int→Mem→Prop):Prop:=
 jn (fun (v:List Value) (Sx:Mem)=>
 v.length=2 ∧
 jn (fun (v_1:List Value) (Sx_1:Mem)=>
 v_1.length=2 ∧
 jn (fun (Sx_2:Mem)=>
 sp Sx_2 frames 1 fun vs=>
 ap Sx_2 3 1 8 [.int .i64 0] (⟨none,0,0⟩) frames.n vs fun t Sx_3=>
 Q ([.int .i64 form,eL t]) 0 Sx_3) fun Jx=>
 (0:Int)≤1∧(1:Int)≤(frames.n:Int)∧(frames.n:Int)≤(frames.c:Int) ∧
 lt (slc 1 frames 1 (frames.n:Int)) fun t_1=>
 lp (fun Xx (t_2:Int) (Sx_4:Mem)=>
 if t_2<(t_1.n:Int) then
 sl t_1 fun b_1 o n n_1=>
 0≤t_2∧t_2<((n:Nat):Int) ∧
 gI (Sx_4.cell b_1 (o+t_2.toNat*1)) .i64 fun t_3=>
 sl frames fun b_2 o_1 n_2 n_3=>
 (0:Int)<(n_2:Nat) ∧
 gI (Sx_4.cell b_2 o_1) .i64 fun t_4=>
 gb Sx_4 form ([.bool true,.int .i64 t_3,.bool true]) fun t_5 Sx_5=>
 Sx_5.cell b_2 o_1=some (.int .i64 t_4) ∧
 qN Sx_5 s t_4 t_2 t_5 fun t_6 Sx_6=>
 Xx (IntKind.i64.wrap (t_2+1)) Sx_6
 else
 Jx Sx_4) 0 Sx_1) fun Jx_1=>
 lp (fun Xx_1 (z:Int×List Value) (Sx_7:Mem)=>
 match z with
 | (t_7,v_2)=>
 v_2.length=2 ∧
 if t_7<(frames.n:Int) then
 sl frames fun b_3 o_2 n_4 n_5=>
 0≤t_7∧t_7<((n_4:Nat):Int) ∧
 gI (Sx_7.cell b_3 (o_2+t_7.toNat*1)) .i64 fun t_8=>
 yf Sx_7 s t_8 fun t_9 Sx_8=>
 if t_9≠0 then
 Q ([.int .i64 0,.slice (none) 0 0]) t_9 Sx_8
 else
 Xx_1 (IntKind.i64.wrap (t_7+1),v_2) Sx_8
 else
 Jx_1 v_2 Sx_7) (0,v) Sx) fun Jx_2=>
 if (frames.n:Int)≠5 then
 Q ([.int .i64 0,.slice (none) 0 0]) 1 S
 else
 if form≠1 then
 if form≠2 then
 Q ([.int .i64 0,.slice (none) 0 0]) 1 S
 else
 Jx_2 ([.int .i64 0,.slice (none) 0 0]) S
 else
 Jx_2 ([.int .i64 0,.slice (none) 0 0]) S
theorem zhg {S:Mem} {s:Pt} {form:Int} {frames:Sl} {Q:List Value→Int→Mem→Prop} (H:zab S s form frames Q):zan S s form frames Q:=by
 unfold zab at H
 exact Tr.intro func68 E ntmps68 E fun w0=>csr<|by refine zX E fun b=>?_;exact gv E E<|nx<|zy H (fun (J:List Value→Mem→Prop) (z:List Value) S=>J z S) (fun z=>⟨62,[(0,eP s),(1,.int .i64 form),(2,eL frames),(6,.pointer (some ⟨b,0,none⟩))]⟩) (fun z=>[⟨b,41,z⟩]) (fun v Sx H1=>an H1 fun hv H2=>zy H2 (fun (J:List Value→Mem→Prop) (z:List Value) S=>J z S) (fun z=>⟨62,[(0,eP s),(1,.int .i64 form),(2,eL frames),(6,.pointer (some ⟨b,0,none⟩))]⟩) (fun z=>[⟨b,41,z⟩]) (fun v_1 Sx_1 H3=>an H3 fun hv_1 H4=>zy H4 (fun (J:Mem→Prop) (z:Unit) S=>J S) (fun z=>⟨62,[(1,.int .i64 form),(2,eL frames),(6,.pointer (some ⟨b,0,none⟩))]⟩) (fun z=>[⟨b,41,v_1⟩]) (fun _ Sx_2 H5=>csr<|mv E E<|mv E E<|by obtain⟨vs,h,c,H6⟩:=H5;exact gf (sx:=⟨none,0,0⟩) (vs:=vs) E E E ((zbq h).1) ((zbq (P:=prog) (w0:=w0) (S0:=S) (V:=[]) h).2) c (by decide) H6 fun t Sx_3 H7=>s_p E (ql E E)<|by exact zn 0 E E E E E E hv_1 E<|gv E E<|nx<|zu<|zt results68 (zv E (zD (k:=2) 0 E E) E (zf E zi)) ⟨_,_,E,E,H7⟩) (fun Jx hJx H8=>csr<|mv E E<|an3 H8 fun c_1 c_2 c_3 H9=>by obtain⟨t_1,et_1,H10⟩:=zmG H9;exact s_p E (eqv (zft (a:=1) (b:=(frames.n:Int)) E E E c_1 c_2 c_3) (congrArg eL et_1))<|s_p E (jJ E)<|mv E E<|nx<|zK<|xC (fun z=>⟨62,[(0,eP s),(1,.int .i64 form),(2,eL frames),(6,.pointer (some ⟨b,0,none⟩)),(40,eL t_1),(41,.int .i64 (t_1.n:Int)),(42,.int .i64 z)]⟩) (fun z=>[⟨b,41,v_1⟩]) 0 (idx:=[0]) H10 E ⟨E,E,E,E,E,E,E,True.intro⟩ E<|fun Xx hXx t_2 Sx_4 H11=>csr<|iteK H11 (fun c_4 H12=>s_p E (yT (qq E E) c_4)<|nx<|qb<|c_t E E<|yV<|zB<|qb<|zK<|csr<|mv E E<|by obtain⟨b_1,o,n,n_1,rfl,H13⟩:=H12;exact an2 H13 fun c_5 c_6 H14=>s_p E (gn E E c_5 c_6 E)<|gx H14 fun t_3 ht_3 H15=>s_v E (zG E) (qh ht_3)<|gv E E<|gv E E<|nx<|qa (by kernel_rfl)<|a_takeP 0 E (by decide +kernel) (zc (za (za (zc (za zb))))) E (zp E)<|by exact a_takeP 1 E (by decide +kernel) (zc (za (za (zc (za zb))))) E (zp E)<|by exact by obtain⟨b_2,o_1,n_2,n_3,rfl,H16⟩:=H15;exact an H16 fun c_8 H17=>a_takeP 2 E (by decide +kernel) (zc (za (za (zc (za zb))))) E (gn E E (by decide) c_8 E)<|by exact gx H17 fun t_4 ht_4 H18=>zY 3 E (by decide +kernel) (zc (za (za (zc (za zb))))) E (zG E) (qh ht_4)<|by exact a_takeP 4 E (by decide +kernel) (zc (za (za (zc (za zb))))) E (zp E)<|by exact a_takeP 5 E (by decide +kernel) (zc (za (za (zc (za zb))))) E (zp E)<|by exact a_takeP 6 E (by decide +kernel) (zc (za (za (zc (za zb))))) E (zp E)<|by exact a_takeP 7 E (by decide +kernel) (zc (za (za (zc (za zb))))) E (ql E E)<|by exact zw 8 (by decide +kernel) E<|by exact kq E E H18 fun t_5 Sx_5 H19=>by obtain⟨k,H20⟩:=H19;exact zr<|zH (zj (qh k) zq)<|zw 9 (by decide +kernel) E<|by exact kq E E H20 fun t_6 Sx_6 H21=>zr<|zH zq<|zW (by decide +kernel)<|by exact qr<|zB<|zE<|s_p E (qZ E E)<|mv E E<|zr<|hXx (IntKind.i64.wrap (t_2+1)) _ _ _ _ [0] H21 E ⟨E,E,E,E,E,E,E,True.intro⟩ E) fun c_4 H12=>s_p E (yF (qq E E) c_4)<|nx<|qb<|c_f E E<|qY<|zm<|zm<|zV<|hJx () _ _ _ _ [0] H12 E ⟨E,E,E,True.intro⟩ E)) (fun Jx_1 hJx_1 H22=>csr<|mv E E<|s_p E (jJ E)<|mv E E<|nx<|zK<|xC (fun z=>⟨62,[(0,eP s),(1,.int .i64 form),(2,eL frames),(6,.pointer (some ⟨b,0,none⟩)),(25,eL frames),(26,.int .i64 (frames.n:Int)),(27,.int .i64 z.1)]⟩) (fun z=>[⟨b,41,z.2⟩]) (0,v) (idx:=[0]) H22 E ⟨E,E,E,E,E,E,E,True.intro⟩ E<|by rintro Xx_1 hXx_1 ⟨t_7,v_2⟩ Sx_7 H23;exact an H23 fun hv_2 H24=>csr<|iteK H24 (fun c_9 H25=>s_p E (yT (qq E E) c_9)<|nx<|qb<|c_t E E<|yV<|zB<|qb<|zK<|csr<|by obtain⟨b_3,o_2,n_4,n_5,rfl,H26⟩:=H25;exact an2 H26 fun c_10 c_11 H27=>s_p E (gn E E c_10 c_11 E)<|gx H27 fun t_8 ht_8 H28=>s_v E (zG E) (qh ht_8)<|gv E E<|nxr<|mv E E<|mv E E<|kq E E H28 fun t_9 Sx_8 H29=>gv E E<|nxr<|mv E E<|iteK H29 (fun c_12 H30=>s_p E (yT (qt E E) c_12)<|nx<|c_t E E<|csr<|s_p E (ql E E)<|by exact mv E E<|zn 0 E E E E E E hv_2 E<|gv E E<|nx<|zu<|zo<|zd<|zd<|zo<|zd<|zt results68 (zv E (zD (k:=2) 0 E E) E (zf E zi)) ⟨_,_,E,E,H30⟩) fun c_12 H30=>s_p E (yF (qt E E) c_12)<|nx<|cfs E E<|qr<|zB<|zE<|s_p E (qZ E E)<|mv E E<|zr<|hXx_1 (IntKind.i64.wrap (t_7+1),v_2) _ _ _ _ [0] H30 E ⟨E,E,E,E,E,E,E,True.intro⟩ E) fun c_9 H25=>s_p E (yF (qq E E) c_9)<|nx<|qb<|c_f E E<|qY<|zm<|zm<|zV<|hJx_1 v_2 _ _ _ _ [0] H25 E ⟨E,E,E,E,True.intro⟩ E)) (fun Jx_2 hJx_2 H31=>csr<|mv E E<|s_p E (jJ E)<|iteK H31 (fun c_13 H32=>s_p E (yT (qt E E) c_13)<|mv E E<|sk4 E E E E<|sk2 E E<|pk E E E<|nx<|c_t E E<|csr<|s_p E (ql E E)<|by exact wX (sz:=2) (vs:=[.int .i64 0,.slice (none) 0 0]) 0 E E E E E E (Nat.le_of_ble_eq_true E) E<|gv E E<|nx<|zu<|zd<|zt results68 (zv E (zD (k:=2) 0 E E) E (zf E zi)) ⟨_,_,E,E,H32⟩) fun c_13 H32=>s_p E (yF (qt E E) c_13)<|mv E E<|mv E E<|iteK H32 (fun c_14 H33=>s_p E (yT (qt E E) c_14)<|mv E E<|mv E E<|iteK H33 (fun c_15 H34=>s_p E (yT (qt E E) c_15)<|pk E E E<|pk E E E<|nx<|c_t E E<|csr<|s_p E (ql E E)<|by exact wX (sz:=2) (vs:=[.int .i64 0,.slice (none) 0 0]) 0 E E E E E E (Nat.le_of_ble_eq_true E) E<|gv E E<|nx<|zu<|zd<|zt results68 (zv E (zD (k:=2) 0 E E) E (zf E zi)) ⟨_,_,E,E,H34⟩) fun c_15 H34=>s_p E (yF (qt E E) c_15)<|pk E E E<|pk E E E<|nx<|cfs E E<|hJx_2 ([.int .i64 0,.slice (none) 0 0]) _ _ _ _ [0] H34 E ⟨E,E,E,E,True.intro⟩ E) fun c_14 H33=>s_p E (yF (qt E E) c_14)<|mv E E<|sk2 E E<|pk E E E<|pk E E E<|nx<|cfs E E<|hJx_2 ([.int .i64 0,.slice (none) 0 0]) _ _ _ _ [0] H33 E ⟨E,E,E,E,True.intro⟩ E)
end
section
open Go Go.Pt Go.Cr
section
variable {S:Mem}
def enL (f:Int) (wr:Bool):List Value:=[.bool true,.int .i64 f,.bool wr]
theorem packw1 {f:Nat} (hf:f≤65535) {Q:Int→Mem→Prop} (hQ:Q ((1+256*f:Nat):Int) S):yc S 1 8 16 (f:Int) Q:=by
 apply gu
 unfold ve
 simp only[jn]
 rw[if_neg (by decide),if_neg (by decide),if_neg (by decide),if_pos (by decide)]
 refine⟨by decide,by decide,by decide,?_⟩
 have e1:iandn .u64 1 (ishl .u64 (IntKind.u64.wrap (ishl .u64 1 16-1)) 8)=((1:Nat):Int):=by decide
 have e2:IntKind.u64.wrap (ishl .u64 1 16-1)=((2 ^ 16-1:Nat):Int):=by decide
 rw[e1,e2,yr (by omega) (by decide),Nat.and_two_pow_sub_one_eq_mod,Nat.mod_eq_of_lt (by omega)]
 have e3:ishl .u64 (f:Int) 8=((f*2 ^ 8:Nat):Int):=jC (a:=f) (s:=8) (by decide) (by omega)
 rw[e3,fO (by omega) (by omega),zlH (by decide)]
 have:1+f*2 ^ 8=1+256*f:=by omega
 rw[this];exact hQ
theorem zgN {x:Nat} (hx:x<18446744073709551616):ineg .u64 (x:Int)=((18446744073709551615-x:Nat):Int):=by
 unfold ineg
 show ixor .u64 18446744073709551615 (x:Int)=_
 have h:=zjJ (a:=18446744073709551615) (b:=x) (by decide) hx
 have e:18446744073709551615 ^^^ x=18446744073709551615-x:=by
  have h2:(BitVec.allOnes 64 ^^^ BitVec.ofNat 64 x).toNat=(~~~ BitVec.ofNat 64 x).toNat:=by rw[BitVec.allOnes_xor]
  rw[BitVec.toNat_xor,BitVec.toNat_allOnes,BitVec.toNat_ofNat,Nat.mod_eq_of_lt hx,BitVec.toNat_not,BitVec.toNat_ofNat,Nat.mod_eq_of_lt hx] at h2
  exact h2
 rw[e] at h
 exact h
theorem packw2 {f:Nat} (hf:f≤65535) {Q:Int→Mem→Prop} (hQ:Q ((9223372036854775808+(65535-f):Nat):Int) S):yc S 9223372036854775808 0 16 (ineg .u64 (f:Int)) Q:=by
 apply gu
 unfold ve
 simp only[jn]
 rw[if_neg (by decide),if_neg (by decide),if_neg (by decide),if_pos (by decide)]
 refine⟨by decide,by decide,by decide,?_⟩
 have e1:iandn .u64 9223372036854775808 (ishl .u64 (IntKind.u64.wrap (ishl .u64 1 16-1)) 0)=((1*2 ^ 63:Nat):Int):=by decide
 have e2:IntKind.u64.wrap (ishl .u64 1 16-1)=((2 ^ 16-1:Nat):Int):=by decide
 rw[e1,e2,zgN (by omega),yr (by omega) (by decide),Nat.and_two_pow_sub_one_eq_mod]
 have e4:(18446744073709551615-f)%2 ^ 16=65535-f:=by omega
 rw[e4]
 have e3:ishl .u64 ((65535-f:Nat):Int) 0=(((65535-f)*2 ^ 0:Nat):Int):=jC (a:=65535-f) (s:=0) (by decide) (by omega)
 rw[e3,fO (by decide) (by omega),zaU (by omega)]
 have:1*2 ^ 63+(65535-f)*2 ^ 0=9223372036854775808+(65535-f):=by omega
 rw[this];exact hQ
theorem or2 {f:Nat}:(1+256*f) ||| 2=1+256*f+2:=by
 have e1:1+256*f=f*2 ^ 8 ||| 1:=by rw[zaU (by decide)];omega
 rw[e1,Nat.or_assoc,show 1 ||| 2=3 by decide,zaU (by decide),zaU (by decide)]
theorem or62 {x:Nat} (hx:x≤65535):(9223372036854775808+x) ||| 4611686018427387904=9223372036854775808+x+4611686018427387904:=by
 have e1:9223372036854775808+x=1*2 ^ 63 ||| x:=by rw[zaU (by omega)]
 rw[e1,Nat.or_assoc,Nat.or_comm x,←Nat.or_assoc,show 1*2 ^ 63 ||| 4611686018427387904=3*2 ^ 62 by decide,zaU (by omega),zaU (by omega)]
 omega
theorem zcO {form:Int} {f:Nat} (hf:f≤65535) {wr:Bool} {Q:Int→Mem→Prop} (hQ:Q (pk form f wr) S):gb S form (enL f wr) Q:=by
 apply zhf
 unfold zaa enL
 refine⟨rfl,?_⟩
 simp only[jn]
 rw[fo (show nthL [Value.bool true,.int .i64 f,.bool wr] 0=some (.bool true) from rfl),if_pos rfl]
 have g1:∀ K,gI (nthL [Value.bool true,.int .i64 f,.bool wr] 1) .i64 K=K (f:Int):=fun K=>zx rfl K
 have g2:∀ K,gB (nthL [Value.bool true,.int .i64 f,.bool wr] 2) K=K wr:=fun K=>fo rfl K
 have eu:IntKind.u64.wrap (f:Int)=(f:Int):=wu64 (by omega) (by omega)
 unfold Go.Cr.pk at hQ
 by_cases h1:form=1
 ·rw[if_pos h1] at hQ
  rw[if_pos h1,g1,eu]
  refine packw1 hf ?_
  rw[g2]
  cases wr
  ·rw[if_neg (by decide)]
   rw[if_neg (by decide)] at hQ
   have e:((1+256*f:Nat):Int)=1+256*(f:Int)+0:=by omega
   rw[e];exact hQ
  ·rw[if_pos rfl]
   rw[if_pos rfl] at hQ
   have:=fO (a:=1+256*f) (b:=2) (by omega) (by decide)
   rw[or2] at this
   have e2:((2:Nat):Int)=2:=rfl
   rw[e2] at this
   rw[this]
   have e:((1+256*f+2:Nat):Int)=1+256*(f:Int)+2:=by omega
   rw[e];exact hQ
 ·rw[if_neg h1] at hQ
  rw[if_neg h1,g1,eu]
  refine packw2 hf ?_
  rw[g2]
  cases wr
  ·rw[if_neg (by decide)]
   rw[if_neg (by decide)] at hQ
   have e:((9223372036854775808+(65535-f):Nat):Int)=9223372036854775808+(65535-(f:Int))+0:=by omega
   rw[e];exact hQ
  ·rw[if_pos rfl]
   rw[if_pos rfl] at hQ
   have:=fO (a:=9223372036854775808+(65535-f)) (b:=4611686018427387904) (by omega) (by decide)
   rw[or62 (by omega)] at this
   have e2:((4611686018427387904:Nat):Int)=4611686018427387904:=rfl
   rw[e2] at this
   rw[this]
   have e:((9223372036854775808+(65535-f)+4611686018427387904:Nat):Int)=9223372036854775808+(65535-(f:Int))+4611686018427387904:=by omega
   rw[e];exact hQ
theorem zeo {w:Nat} (hw:w<18446744073709551616) {k:Nat} (hk:k≤63) {Q:Int→Mem→Prop} (hQ:Q ((w/2 ^ k%65536:Nat):Int) S):yG S (w:Int) (k:Int) 16 Q:=by
 apply zdt
 unfold jG
 simp only[jn]
 rw[if_neg (by omega),if_neg (by omega),if_neg (by decide),if_pos (by decide)]
 refine⟨by omega,by decide,?_⟩
 have e2:IntKind.u64.wrap (ishl .u64 1 16-1)=((2 ^ 16-1:Nat):Int):=by decide
 have hd:w/2 ^ k≤w:=Nat.div_le_self _ _
 rw[e2,kz hk,yr (by omega) (by decide),Nat.and_two_pow_sub_one_eq_mod]
 exact hQ
def noEn:List Value:=[.bool false,.int .i64 0,.bool false]
theorem gr {form w:Int} (hw:W64 w) {Q:List Value→Bool→Mem→Prop}
  (hY:∀ f b,unp form w=some (f,b)→Q (enL f b) true S) (hN:unp form w=none→Q noEn (decide (w=0)) S):jz S form w Q:=by
 obtain⟨n,rfl⟩:∃ n:Nat,w=n:=⟨w.toNat,by have:=hw.1;omega⟩
 have hn:n<18446744073709551616:=by have:=hw.2;omega
 apply zfv
 unfold jU
 refine zeo (k:=8) hn (by decide) ?_
 refine zZ (fun J=>J (enL (if form=1 then ((n:Int)/256%65536).toNat else (65535-(n:Int)%65536).toNat:Nat) (if form=1 then decide ((n:Int)/2%2=1) else decide ((n:Int)/4611686018427387904%2=1))) S) ?_ fun J hJ=>?_
 ·refine⟨rfl,?_⟩
  simp only[jn]
  by_cases h0:(n:Int)=0
  ·rw[if_pos h0]
   have e:unp form (n:Int)=none:=by unfold unp;rw[if_pos h0]
   have:=hN e
   rw[decide_eq_true h0] at this;exact this
  ·rw[if_neg h0]
   refine⟨rfl,?_⟩
   refine zcO (by split <;> omega) ?_
   have hu:unp form (n:Int)=if pk form (if form=1 then ((n:Int)/256%65536).toNat else (65535-(n:Int)%65536).toNat) (if form=1 then decide ((n:Int)/2%2=1) else decide ((n:Int)/4611686018427387904%2=1))=(n:Int) then some (if form=1 then ((n:Int)/256%65536).toNat else (65535-(n:Int)%65536).toNat,if form=1 then decide ((n:Int)/2%2=1) else decide ((n:Int)/4611686018427387904%2=1)) else none:=by
    unfold unp;rw[if_neg h0]
   by_cases hp:pk form (if form=1 then ((n:Int)/256%65536).toNat else (65535-(n:Int)%65536).toNat) (if form=1 then decide ((n:Int)/2%2=1) else decide ((n:Int)/4611686018427387904%2=1))=(n:Int)
   ·rw[if_neg (fun h=>h hp)]
    rw[if_pos hp] at hu
    exact⟨rfl,hY _ _ hu⟩
   ·rw[if_pos hp]
    rw[if_neg hp] at hu
    have:=hN hu
    rw[decide_eq_false h0] at this;exact this
 ·by_cases h1:form=1
  ·simp only[if_pos h1] at hJ
   rw[if_neg (fun h=>h h1)]
   have e1:((n/2 ^ 8%65536:Nat):Int)=((((n:Int)/256%65536).toNat:Nat):Int):=by omega
   have e2:decide (iand .u64 (n:Int) 2≠0)=decide ((n:Int)/2%2=1):=by
    have:=yr (a:=n) (b:=2) hn (by decide)
    have h3:=zjf n 1
    rw[show 2 ^ 1=2 by decide] at h3
    rw[h3] at this
    have e3:((2:Nat):Int)=2:=rfl
    rw[e3] at this
    rw[this]
    apply decide_eq_decide.2
    omega
   rw[e1,w64 (by omega) (by omega),e2];exact hJ
  ·simp only[if_neg h1] at hJ
   rw[if_pos h1,zgN hn]
   refine zeo (k:=0) (by omega) (by decide) ?_
   have hf:(18446744073709551615-n)/2 ^ 0%65536=(65535-(n:Int)%65536).toNat:=by omega
   rw[hf,w64 (by omega) (by omega)]
   have e2:decide (iand .u64 (ishr .u64 (n:Int) 62) 1=1)=decide ((n:Int)/4611686018427387904%2=1):=by
    have h3:=kz (a:=n) (s:=62) (by decide)
    have h4:=yr (a:=n/2 ^ 62) (b:=1) (by omega) (by decide)
    have h5:=zjf (n/2 ^ 62) 0
    rw[show 2 ^ 0=1 by decide] at h5
    have e3:((1:Nat):Int)=1:=rfl
    have e4:((62:Nat):Int)=62:=rfl
    rw[e4] at h3
    rw[e3,h5] at h4
    rw[h3,h4]
    apply decide_eq_decide.2
    omega
   rw[e2];exact hJ
end
end
end Go.Proofs.YthaiblbnpcgjpaaGreatDoor
section
namespace Go.Cr
open Go Go.Pt
theorem _root_.Go.Pt.Rw.claim {S S':Mem} {ρ:Rho} {R:Nat→Prop} {r size:Nat} {t:Sl} {l:List Value} (hg:∀ b r,ρ b=some r→S b≠none) (hk:Keeps S S' []) (hrow:Row S' size t l) (hf:∀ b o,t.p=some (b,o)→S b=none) :
  ∃ ρ',Mv S ρ S' ρ' R∧Rw S' ρ' r size t l:=by
 rcases hrow.lie with ⟨h1,_⟩ | ⟨b,k,h1,h2,_⟩
 ·exact⟨ρ,Mv.keeps hg hk,hrow,fun b o h=>by rw[h1] at h;cases h⟩
 ·refine⟨ρ.upd b r,Mv.claim hg hk (hf b 0 h1) (by rw[h2];simp),hrow,fun b' o h=>?_⟩
  rw[h1] at h;cases h;exact yL
structure StoreD (S:Mem) (ρ:Rho) (m N:Nat) (d:Nat→List Int):Prop where
 ex:∃ B,StoreAt S m B N (cF N d)∧ρ B=some 2
 rol:ρ m=some 1
 len:∀ f,f<N→(d f).length=256
 byt:∀ f,f<N→Byt (d f)
section
variable {S S':Mem} {ρ ρ':Rho} {R:Nat→Prop} {m N:Nat} {d:Nat→List Int}
theorem StoreD.keep (h:StoreD S ρ m N d) (mv:Mv S ρ S' ρ' R) (h1:¬R 1) (h2:¬R 2):StoreD S' ρ' m N d:=by
 obtain⟨B,hB,hr⟩:=h.ex
 have e1:S' m=S m:=mv.kp m (by rw[hB.hd];simp) fun r e=>by rw[h.rol] at e;cases e;exact h1
 have e2:S' B=S B:=mv.kp B (by rw[hB.dt];simp) fun r e=>by rw[hr] at e;cases e;exact h2
 exact⟨⟨B,⟨by rw[e1];exact hB.hd,by rw[e2];exact hB.dt,hB.ne,hB.len,hB.byt,hB.lim⟩,mv.ext B 2 hr⟩,mv.ext m 1 h.rol,h.len,h.byt⟩
theorem StoreD.keeps (h:StoreD S ρ m N d) (hk:Keeps S S' []):StoreD S' ρ m N d:=by
 obtain⟨B,hB,hr⟩:=h.ex
 exact⟨⟨B,hB.keep hk,hr⟩,h.rol,h.len,h.byt⟩
theorem StoreD.lim (h:StoreD S ρ m N d):N≤512:=by obtain⟨B,hB,_⟩:=h.ex;exact hB.lim
theorem zon (hg:∀ b r,ρ b=some r→S b≠none) {B:Nat} (hr:ρ B=some 2) (hk:Keeps S S' [B]) (hB:S' B≠none):Mv S ρ S' ρ (· = 2):=
 Mv.keepsW hg hk fun w hw=>by rw[List.mem_singleton] at hw;subst hw;exact⟨hB,2,hr,rfl⟩
end
end Go.Cr
namespace Go.Proofs.YthaiblbnpcgjpaaGreatDoor
open Go Go.Pt Go.Cr
section
variable {S:Mem} {ρ:Rho} {m N:Nat} {d:Nat→List Int}
theorem framesD (h:StoreD S ρ m N d) {Q:Int→Mem→Prop} (hQ:Q N S):qF S (some (m,0)) Q:=by
 obtain⟨B,hB,_⟩:=h.ex
 exact zfg hB hQ
theorem readD (h:StoreD S ρ m N d) {f off n:Nat} (hf:f<N) (hn:0<n) (ho:off+n≤256) {Q:Sl→Int→Mem→Prop}
  (hQ:∀ t S',Keeps S S' []→Row S' 1 t (bL (rdB (d f) off n))→(∀ b o,t.p=some (b,o)→S b=none)→Q t 0 S'):qO S (some (m,0)) f off n Q:=by
 obtain⟨B,hB,_⟩:=h.ex
 refine zeR hB (by omega) (fun _ _ _ _ _ t S' hk hrow hfr=>?_) (fun hbad=>absurd ⟨by omega,by omega,by omega,by omega,by omega⟩ hbad) (by omega)
 rw[Int.toNat_natCast,Int.toNat_natCast,Int.toNat_natCast,znO h.len hf ho] at hrow
 exact hQ t S' hk hrow hfr
theorem readBad (h:StoreD S ρ m N d) {f off n:Nat} (hf:N≤f) (hn:0<n) (ho:off+n≤256) {Q:Sl→Int→Mem→Prop} (hQ:Q ⟨none,0,0⟩ 1 S):qO S (some (m,0)) f off n Q:=by
 obtain⟨B,hB,_⟩:=h.ex
 exact zeR hB (by omega) (fun _ hl _ _ _ t S' _ _ _=>absurd hl (by omega)) (fun _=>hQ) (by omega)
theorem loadD (h:StoreD S ρ m N d) {f i:Nat} (hi:i<32) {Q:Int→Int→Mem→Prop} (hY:f<N→∀ S',Keeps S S' []→Q (ld d f i) 0 S') (hN:N≤f→Q 0 1 S):yz S (some (m,0)) f i Q:=by
 by_cases hf:f<N
 ·obtain⟨B,hB,_⟩:=h.ex
  refine zke hB hf hi fun S' hk=>?_
  rw[znO h.len hf (by omega)]
  exact hY hf S' hk
 ·apply jB
  unfold yP
  simp only[jn]
  rw[if_neg (by omega),if_neg (by omega),w64 (by omega) (by omega)]
  refine readBad (off:=8*i) (n:=8) h (by omega) (by decide) (by omega) ?_
  exact zcR (xs:=[]) ⟨rfl,Nat.le_refl _,fun _ h=>by simp at h,.inl rfl⟩ (by decide) (hN (by omega))
theorem zrx (h:StoreD S ρ m N d) {f i:Nat} (hf:f<N) (hi:i<32):W64 (ld d f i):=by
 have hl:=h.len f hf
 have hb:Byt (rdB (d f) (8*i) 8):=fun x hx=>h.byt f hf x (List.mem_of_mem_drop (List.mem_of_mem_take hx))
 have:=zfV hb
 have e:(rdB (d f) (8*i) 8).length=8:=by unfold rdB;rw[List.length_take,List.length_drop];omega
 rw[e] at this
 have h8:(256:Int) ^ 8=18446744073709551616:=by decide
 unfold ld
 exact⟨this.1,by omega⟩
theorem writeD (h:StoreD S ρ m N d) (hg:∀ b r,ρ b=some r→S b≠none) {f off:Nat} (hf:f<N) {p:Sl} {l:List Int} (hp:∃ b o,p.p=some (b,o)∧S.part b o (l.length*1)=some (bL l)) (hpl:l.length=p.n) (hl0:l≠[]) (ho:off+l.length≤256) (hb:Byt l) {Q:Int→Mem→Prop}
  (hQ:∀ S',Mv S ρ S' ρ (· = 2)→StoreD S' ρ m N (wr d f off l)→Q 0 S'):qg S (some (m,0)) f off p Q:=by
 obtain⟨B,hB,hr⟩:=h.ex
 refine zak hB (by omega) (l:=l) (.inr hp) hpl hl0 hb (fun _ _ _ _ hs=>?_) (fun hbad=>absurd ⟨by omega,by omega,by omega,by omega,by omega⟩ hbad)
 rw[Int.toNat_natCast,Int.toNat_natCast,zkZ h.len hf ho] at hs ⊢
 refine hQ _ (zon hg hr (Keeps.refl.set (by simp)) (by simp)) ⟨⟨B,hs,hr⟩,h.rol,fun g hg'=>?_,fun g hg'=>zji hb (h.byt g hg')⟩
 rw[zjh (by rw[h.len f hf];exact ho)];exact h.len g hg'
theorem writeBad (h:StoreD S ρ m N d) {f off:Nat} (hf:N≤f) {p:Sl} {l:List Int} (hp:∃ b o,p.p=some (b,o)∧S.part b o (l.length*1)=some (bL l)) (hpl:l.length=p.n) (hl0:l≠[]) (ho:off+l.length≤256) (hb:Byt l) {Q:Int→Mem→Prop} (hQ:Q 1 S):qg S (some (m,0)) f off p Q:=by
 obtain⟨B,hB,hr⟩:=h.ex
 exact zak hB (by omega) (l:=l) (.inr hp) hpl hl0 hb (fun _ h2 _ _ _=>absurd h2 (by omega)) (fun _=>hQ)
theorem saveD (h:StoreD S ρ m N d) (hg:∀ b r,ρ b=some r→S b≠none) {f i:Nat} (hi:i<32) {w:Int} (hw:W64 w) {Q:Int→Mem→Prop}
  (hQ:∀ e S',Mv S ρ S' ρ (· = 2)→StoreD S' ρ m N (if f<N then wr d f (8*i) (bytes8 w) else d)→Q e S'):qN S (some (m,0)) f i w Q:=by
 obtain⟨B,hB,hr⟩:=h.ex
 by_cases hf:f<N
 ·refine zkd hB hf hi hw fun S' hk hs=>?_
  rw[zkZ h.len hf (by rw[xf];omega)] at hs
  refine hQ 0 S' (zon hg hr hk (by rw[hs.dt];simp)) ?_
  rw[if_pos hf]
  refine⟨⟨B,hs,hr⟩,h.rol,fun g hg'=>?_,fun g hg'=>zji (kJ w) (h.byt g hg')⟩
  rw[zjh (by rw[h.len f hf,xf];omega)];exact h.len g hg'
 ·apply jA
  unfold yO
  simp only[jn]
  rw[if_neg (by omega),if_neg (by omega),w64 (by omega) (by omega)]
  refine zdh hw fun c hc=>?_
  have hk:Keeps S (S.set c (bw 5 (bL (bytes8 w)))) []:=Keeps.refl.fresh hc
  have h8:=xf w
  refine writeBad (off:=8*i) (h.keeps hk) (by omega) (l:=bytes8 w) ⟨c,0,rfl,?_⟩ h8 (fun h0=>by rw[h0] at h8;simp at h8) (by omega) (kJ w) ?_
  ·rw[yp zz,qA (by show 0+(bytes8 w).length*1≤(bL (bytes8 w)).length;simp[bL])]
   simp only[bL,List.drop_zero,Nat.mul_one]
   rw[List.take_of_length_le (by simp)]
  ·refine hQ 1 _ (Mv.keeps hg hk) ?_
   rw[if_neg hf];exact h.keeps hk
theorem clearD (h:StoreD S ρ m N d) (hg:∀ b r,ρ b=some r→S b≠none) {f:Nat} (hf:f<N) {Q:Int→Mem→Prop}
  (hQ:∀ S',Mv S ρ S' ρ (· = 2)→StoreD S' ρ m N (upd d f noughts)→Q 0 S'):yf S (some (m,0)) f Q:=by
 obtain⟨B,hB,hr⟩:=h.ex
 refine ziy hB hf fun S' hk hs=>?_
 have hl:=h.len f hf
 have e:wr d f 0 noughts=upd d f noughts:=by
  unfold wr spB
  rw[List.take_zero,List.nil_append,List.drop_of_length_le (by rw[qX];omega),List.append_nil]
 rw[zkp,zkZ h.len hf (by rw[qX];omega),e] at hs
 refine hQ S' (zon hg hr hk (by rw[hs.dt];simp)) ⟨⟨B,hs,hr⟩,h.rol,fun g hg'=>?_,fun g hg'=>?_⟩
 ·by_cases e:g=f
  ·rw[e,zl];exact qX
  ·rw[zh e];exact h.len g hg'
 ·by_cases e:g=f
  ·rw[e,zl];exact fun x hx=>xK hx
  ·rw[zh e];exact h.byt g hg'
end
end Go.Proofs.YthaiblbnpcgjpaaGreatDoor
namespace Go.Cr
open Go Go.Pt
open Go.Proofs.YthaiblbnpcgjpaaGreatDoor (enL noEn)
def tbL (tf:Int) (fs:Sl):List Value:=[.int .i64 tf,eL fs]
theorem zgL {d:Nat→List Int} {N:Nat} {tf:Int} {fr:List Nat} {page:Int} {f i:Nat} (h:leafC d N tf fr page=some (f,i)):i<8∧f≤65535:=by
 unfold leafC at h
 split at h
 ·cases h
 ·cases fr with
  | nil=>cases h
  | cons r l=>
   dsimp only at h
   split at h
   ·cases hu:unp tf (ld d r (page/8).toNat) with
    | none=>rw[hu] at h;cases h
    | some q=>
     rw[hu] at h
     simp only[Option.map_some,Option.some.injEq,Prod.mk.injEq] at h
     have:=(zqa hu).1
     omega
   ·cases h
end Go.Cr
namespace Go.Proofs.YthaiblbnpcgjpaaGreatDoor
open Go Go.Pt Go.Cr
section
variable {S:Mem} {ρ:Rho} {m N:Nat} {d:Nat→List Int} {tf:Int} {fs:Sl} {fr:List Nat}
theorem zoJ (hr:Row S 1 fs (nL fr)) {i:Nat} (hi:i<fr.length):∃ b,fs.p=some (b,0)∧S.cell b i=some (.int .i64 (fr.getD i 0:Nat))∧fs.n=fr.length:=by
 have hl:=hr.len
 have hn:fs.n=fr.length:=by simp[nL] at hl;omega
 rcases hr.lie with ⟨_,h2⟩ | ⟨b,k,h1,h2,h3,h4,h5⟩
 ·have:=hr.cap;omega
 ·refine⟨b,h1,?_,hn⟩
  rw[qj h2,zI]
  have:(k.cs.take (fs.n*1))[i]? = (nL fr)[i]?:=by rw[h5]
  rw[List.getElem?_take,if_pos (by omega)] at this
  rw[this]
  simp[nL,List.getElem?_eq_getElem hi]
theorem leafD (h:StoreD S ρ m N d) (hr:Row S 1 fs (nL fr)) {page:Int} {Q:Int→Int→Int→Mem→Prop}
  (hY:∀ f i S',leafC d N tf fr page=some (f,i)→Keeps S S' []→Q f i 0 S') (hN:∀ e S',leafC d N tf fr page=none→e≠0→Keeps S S' []→Q 0 0 e S'):yy S (tbL tf fs) (some (m,0)) page Q:=by
 have hn:fs.n=fr.length:=by have:=hr.len;simp[nL] at this;omega
 have c0:nthL (tbL tf fs) 0=some (.int .i64 tf):=rfl
 have c1:nthL (tbL tf fs) 1=some (eL fs):=rfl
 have hk0:Keeps S S []:=Keeps.refl
 apply zbN
 unfold wu
 refine⟨rfl,?_⟩
 refine zZ (fun J=>0≤page→page<32→fr≠[]→J S) ?_ fun J hJ=>?_
 rotate_left
 ·by_cases h1:page<0
  ·rw[if_pos h1];exact hN 1 S (by unfold leafC;rw[if_pos (by omega)]) (by decide) hk0
  rw[if_neg h1]
  by_cases h2:32≤page
  ·rw[if_pos h2];exact hN 1 S (by unfold leafC;rw[if_pos (by omega)]) (by decide) hk0
  rw[if_neg h2,wj c1]
  by_cases h3:(fs.n:Int)=0
  ·rw[if_pos h3]
   have:fr=[]:=List.length_eq_zero_iff.1 (by omega)
   refine hN 1 S ?_ (by decide) hk0
   subst this;unfold leafC;rw[if_neg (by omega)]
  ·rw[if_neg h3]
   exact hJ (by omega) (by omega) (fun e=>by rw[e] at hn;simp at hn;omega)
 intro h0 h1 hne
 obtain⟨r,l,hfr⟩:∃ r l,fr=r :: l:=by
  cases fr with
  | nil=>exact absurd rfl hne
  | cons r l=>exact⟨r,l,rfl⟩
 have hlf:leafC d N tf fr page=if r<N then (unp tf (ld d r (page/8).toNat)).map fun x=>(x.1,(page%8).toNat) else none:=by
  unfold leafC;rw[if_neg (by omega),hfr]
 obtain⟨b,hb,hcell,_⟩:=zoJ hr (i:=0) (by rw[hfr];simp)
 rw[hfr,List.getD_cons_zero] at hcell
 have hsl:fs=⟨some (b,0),fs.n,fs.c⟩:=by obtain⟨p,n,c⟩:=fs;simp only at hb;rw[hb]
 rw[wj c1,hsl,fi]
 refine⟨by rw[hfr] at hn;simp at hn;omega,?_⟩
 rw[zx hcell,td h0,w64 (by omega) (by omega)]
 have e8:page/8=(((page/8).toNat:Nat):Int):=by omega
 have em:Int.tmod page 8=(((page%8).toNat:Nat):Int):=by rw[tm h0];omega
 rw[e8]
 have c0:nthL (tbL tf ⟨some (b,0),fs.n,fs.c⟩) 0=some (.int .i64 tf):=rfl
 refine loadD h (by omega) (fun hrN S1 hk=>?_) fun hrN=>?_
 ·rw[zx c0]
  rw[if_pos hrN] at hlf
  refine gr (zrx h hrN (by omega)) (fun f bb hu=>?_) fun hu=>?_
  ·rw[if_pos rfl]
   refine⟨rfl,?_⟩
   simp only[jn]
   rw[if_neg (by decide),fo (show nthL (enL f bb) 0=some (.bool true) from rfl),if_pos rfl,zx (show nthL (enL f bb) 1=some (.int .i64 f) from rfl),em]
   rw[hu] at hlf
   exact hY _ _ _ hlf hk
  ·have hz:leafC d N tf fr page=none:=by rw[hlf,hu];rfl
   by_cases hw:ld d r (page/8).toNat=0
   ·rw[decide_eq_true hw,if_pos rfl]
    refine⟨rfl,?_⟩
    simp only[jn]
    rw[if_neg (by decide),fo (show nthL noEn 0=some (.bool false) from rfl),if_neg (by decide)]
    exact hN _ _ hz (by decide) hk
   ·rw[decide_eq_false hw,if_neg (by decide)]
    refine⟨rfl,?_⟩
    simp only[jn]
    rw[if_neg (by decide)]
    exact hN _ _ hz (by decide) hk
 ·rw[zx c0]
  rw[if_neg (by omega)] at hlf
  refine gr ⟨by decide,by decide⟩ (fun f bb hu=>by rw[zbM] at hu;cases hu) fun _=>?_
  rw[decide_eq_true rfl,if_pos rfl]
  refine⟨rfl,?_⟩
  simp only[jn]
  rw[if_pos (by decide)]
  exact hN _ _ hlf (by decide) hk0
theorem walkD (h:StoreD S ρ m N d) (hr:Row S 1 fs (nL fr)) {page:Int} {Q:List Value→Int→Mem→Prop}
  (hY:∀ f b S',walkC d N tf fr page=some (f,b)→Keeps S S' []→Q (enL f b) 0 S') (hN:∀ e S',walkC d N tf fr page=none→e≠0→Keeps S S' []→Q noEn e S'):zP S (tbL tf fs) (some (m,0)) page Q:=by
 have c0:nthL (tbL tf fs) 0=some (.int .i64 tf):=rfl
 apply zbO
 unfold wv
 refine⟨rfl,?_⟩
 refine leafD h hr (fun f i S1 hl hk=>?_) fun e S1 hl he hk=>?_
 ·simp only[jn]
  rw[if_neg (by decide)]
  refine⟨rfl,?_⟩
  have hb:=zgL hl
  have hw:walkC d N tf fr page=if f<N then unp tf (ld d f i) else none:=by unfold walkC;rw[hl]
  have h1:=h.keeps hk
  refine loadD h1 (by omega) (fun hf S2 hk2=>?_) fun hf=>?_
  ·rw[zx c0]
   rw[if_pos hf] at hw
   refine gr (zrx h1 hf (by omega)) (fun f' bb hu=>?_) fun hu=>?_
   ·rw[if_pos rfl]
    refine⟨rfl,?_⟩
    rw[if_neg (by decide),fo (show nthL (enL f' bb) 0=some (.bool true) from rfl),if_pos rfl]
    exact⟨rfl,hY _ _ _ (by rw[hw,hu]) (hk.trans hk2)⟩
   ·rw[hu] at hw
    by_cases hz:ld d f i=0
    ·rw[decide_eq_true hz,if_pos rfl]
     refine⟨rfl,?_⟩
     rw[if_neg (by decide),fo (show nthL noEn 0=some (.bool false) from rfl),if_neg (by decide)]
     exact hN _ _ hw (by decide) (hk.trans hk2)
    ·rw[decide_eq_false hz,if_neg (by decide)]
     refine⟨rfl,?_⟩
     rw[if_neg (by decide)]
     exact hN _ _ hw (by decide) (hk.trans hk2)
  ·rw[zx c0]
   rw[if_neg (by omega)] at hw
   refine gr ⟨by decide,by decide⟩ (fun f bb hu=>by rw[zbM] at hu;cases hu) fun _=>?_
   rw[decide_eq_true rfl,if_pos rfl]
   refine⟨rfl,?_⟩
   rw[if_pos (by decide)]
   exact hN _ _ hw (by decide) hk
 ·simp only[jn]
  rw[if_pos he]
  exact hN e S1 (by unfold walkC;rw[hl]) he hk
theorem mapD (h:StoreD S ρ m N d) (hg:∀ b r,ρ b=some r→S b≠none) (hr:Row S 1 fs (nL fr)) {page:Int} {f:Nat} (hf:f<N) {wr:Bool} {Q:Int→Mem→Prop}
  (hQ:∀ e S',Mv S ρ S' ρ (· = 2)→StoreD S' ρ m N (setC d N tf fr page (Go.Cr.pk tf f wr))→Q e S'):kL S (tbL tf fs) (some (m,0)) page f wr Q:=by
 have c0:nthL (tbL tf fs) 0=some (.int .i64 tf):=rfl
 have hN:=h.lim
 apply zcy
 unfold vf
 refine⟨rfl,?_⟩
 refine leafD h hr (fun f' i S1 hl hk=>?_) fun e S1 hl he hk=>?_
 ·have hb:=zgL hl
  have h1:=h.keeps hk
  have m1:Mv S ρ S1 ρ (· = 2):=Mv.keeps hg hk
  simp only[jn]
  rw[if_neg (by decide),if_neg (by omega)]
  refine framesD h1 ?_
  rw[if_neg (by omega),zx c0]
  refine zcO (by omega) ?_
  refine saveD h1 m1.rg (by omega) (zpi (by omega)).1 fun e S2 m2 h2=>hQ e S2 (m1.trans m2) ?_
  unfold setC
  rw[hl];exact h2
 ·simp only[jn]
  rw[if_pos he]
  refine hQ e S1 (Mv.keeps hg hk) ?_
  unfold setC
  rw[hl];exact h.keeps hk
theorem unmapD (h:StoreD S ρ m N d) (hg:∀ b r,ρ b=some r→S b≠none) (hr:Row S 1 fs (nL fr)) {page:Int} {Q:Int→Mem→Prop}
  (hQ:∀ e S',Mv S ρ S' ρ (· = 2)→StoreD S' ρ m N (setC d N tf fr page 0)→Q e S'):wV S (tbL tf fs) (some (m,0)) page Q:=by
 apply zba
 unfold xL
 refine⟨rfl,?_⟩
 refine leafD h hr (fun f' i S1 hl hk=>?_) fun e S1 hl he hk=>?_
 ·have hb:=zgL hl
  have h1:=h.keeps hk
  have m1:Mv S ρ S1 ρ (· = 2):=Mv.keeps hg hk
  rw[if_neg (by decide)]
  refine saveD h1 m1.rg (by omega) ⟨by decide,by decide⟩ fun e S2 m2 h2=>hQ e S2 (m1.trans m2) ?_
  unfold setC
  rw[hl];exact h2
 ·rw[if_pos he]
  refine hQ e S1 (Mv.keeps hg hk) ?_
  unfold setC
  rw[hl];exact h.keeps hk
end
end Go.Proofs.YthaiblbnpcgjpaaGreatDoor
end
section
namespace Go.Cr
open Go Go.Pt
theorem zgQ {S S':Mem} {b:Nat} (hk:Keeps S S' []) (h:S' b=none):S b=none:=by
 cases hs:S b with
 | none=>rfl
 | some k=>have:=hk.get hs (by simp);rw[h] at this;cases this
theorem ku {α:Type} {f:α→List Value} {w:Nat} (h:∀ a,(f a).length=w):∀ l:List α,(l.flatMap f).length=l.length*w
 | []=>by simp
 | a :: l=>by rw[List.flatMap_cons,List.length_append,ku h l,h,List.length_cons,Nat.add_mul];omega
theorem zjM {α:Type} {f:α→List Value} {w:Nat} (h:∀ a,(f a).length=w) {l:List α} {j:Nat} (hj:j<l.length):l.flatMap f=(l.take j).flatMap f++(f l[j]++(l.drop (j+1)).flatMap f)∧((l.take j).flatMap f).length=j*w:=by
 constructor
 ·have e:l=l.take j++(l[j] :: l.drop (j+1)):=by rw[List.getElem_cons_drop,List.take_append_drop]
  have e2:=congrArg (List.flatMap f) e
  rw[List.flatMap_append,List.flatMap_cons] at e2
  exact e2
 ·rw[ku h,List.length_take,Nat.min_eq_left (by omega)]
theorem zfh {α:Type} {f:α→List Value} {w:Nat} (h:∀ a,(f a).length=w) {l:List α} {j:Nat} (hj:j<l.length):lpart (l.flatMap f) (j*w) w=some (f l[j]):=by
 obtain⟨e1,e2⟩:=zjM h hj
 have hl:=h l[j]
 rw[e1,show j*w=j*w+0 by omega,xc e2,kF (by omega),←hl,ze rfl]
theorem gj (r:Cw):(cwL r).length=5:=rfl
structure CaP (S:Mem) (ρ:Rho) (r0 h i:Nat) (L:Sl→List Value) (l:List Cw):Prop where
 ex:∃ cs,Pc S ρ r0 h (L cs)∧Rw S ρ 6 5 cs (l.flatMap cwL)
 get:∀ cs,nthL (L cs) i=some (eL cs)
 set:∀ cs cs',spl (L cs) i [eL cs']=L cs'
 ne:r0≠6
variable {S S':Mem} {ρ ρ':Rho} {R:Nat→Prop} {r0 h i:Nat} {L:Sl→List Value} {l:List Cw}
theorem CaP.keep (hc:CaP S ρ r0 h i L l) (m:Mv S ρ S' ρ' R) (h0:¬R r0) (h6:¬R 6):CaP S' ρ' r0 h i L l:=by
 obtain⟨cs,h1,h2⟩:=hc.ex
 exact⟨⟨cs,h1.keep m h0,h2.keep m h6⟩,hc.get,hc.set,hc.ne⟩
theorem CaP.keeps (hc:CaP S ρ r0 h i L l) (hk:Keeps S S' []):CaP S' ρ r0 h i L l:=by
 obtain⟨cs,h1,h2⟩:=hc.ex
 exact⟨⟨cs,h1.keeps hk,h2.keeps hk⟩,hc.get,hc.set,hc.ne⟩
theorem zfY {l:List Cw} {vm page:Int} {i:Nat} (h:∀ j (hj:j<l.length),j<i→¬(l[j].vm=vm∧l[j].page=page)):lookC l vm page=lookC (l.drop i) vm page:=by
 unfold lookC
 congr 1
 have e:l=l.take i++l.drop i:=(List.take_append_drop _ _).symm
 conv=>lhs;rw[e,List.find?_append]
 rw[List.find?_eq_none.2 fun x hx=>?_,Option.none_or]
 obtain⟨j,hj,rfl⟩:=List.getElem_of_mem hx
 rw[List.length_take] at hj
 have:=h j (by omega) (by omega)
 rw[List.getElem_take]
 simpa using this
end Go.Cr
namespace Go.Proofs.YthaiblbnpcgjpaaGreatDoor
open Go Go.Pt Go.Cr
section
variable {S:Mem} {ρ:Rho} {r0 h i:Nat} {L:Sl→List Value} {l:List Cw}
theorem zlT (hc:CaP S ρ r0 h i L l) (hl:l.length≤100) {vm page:Int} {Q:List Value→Bool→Mem→Prop}
  (hY:∀ f b,lookC l vm page=some (f,b)→Q (enL f b) true S) (hN:lookC l vm page=none→Q noEn false S):vK S (some (h,i)) vm page Q:=by
 obtain⟨cs,h1,h2⟩:=hc.ex
 have hn:=h2.n (by decide) (ku gj l)
 have hi:i<(L cs).length:=by have:=xJ (hc.get cs);exact this
 have hcell:S.cell h i=some (eL cs):=(h1.cell i hi rfl).trans (hc.get cs)
 apply zcb
 unfold wH
 simp only[jn]
 rw[if_pos (by simp),zL,wj hcell]
 refine zC (fun (z:Int×List Value) S'=>∃ j:Nat,z=((j:Int),noEn)∧j≤l.length∧S'=S∧∀ k (hk:k<l.length),k<j→¬(l[k].vm=vm∧l[k].page=page)) (fun z=>l.length-z.1.toNat) ?_ ⟨0,rfl,by omega,rfl,fun _ _ h=>by omega⟩
 rintro X z S' ⟨j,rfl,hj,rfl,hno⟩ ih
 dsimp only at ih ⊢
 refine⟨rfl,?_⟩
 by_cases hlt:(j:Int)<(cs.n:Int)
 ·have hjl:j<l.length:=by omega
  have hfl:=ku gj l
  have hj5:j*5+5≤l.length*5:=by omega
  obtain⟨c,e1,e2⟩:=h2.sl (by rw[hfl];omega)
  rw[if_pos hlt]
  rw[e1,fi]
  refine⟨by omega,by omega,?_⟩
  rw[Int.toNat_natCast,xa (by rw[h2.part e2 (j*5) (by rw[hfl];omega) (by omega)];exact zfh gj hjl)]
  refine⟨rfl,?_⟩
  rw[xa (show lpart (cwL l[j]) 0 2=some [.int .i64 l[j].vm,.int .i64 l[j].page] from rfl)]
  refine⟨rfl,?_⟩
  by_cases hm:l[j].vm=vm∧l[j].page=page
  ·have he:eqL [Value.int .i64 l[j].vm,.int .i64 l[j].page] [.int .i64 vm,.int .i64 page]=true:=(zcZ (ks:=[.i .i64,.i .i64]) rfl rfl).2 (by rw[hm.1,hm.2])
   rw[if_pos he,xa (show lpart (cwL l[j]) 2 3=some (enL l[j].f l[j].w) from rfl)]
   refine⟨rfl,hY _ _ ?_⟩
   rw[zfY hno]
   unfold lookC
   rw[List.drop_eq_getElem_cons hjl,List.find?_cons_of_pos (by simpa using hm)];rfl
  ·have he:¬eqL [Value.int .i64 l[j].vm,.int .i64 l[j].page] [.int .i64 vm,.int .i64 page]=true:=fun h=>hm (by
    have:=(zcZ (ks:=[.i .i64,.i .i64]) rfl rfl).1 h
    simpa using this)
   rw[if_neg he,w64 (by omega) (by omega)]
   refine ih _ S' ⟨j+1,rfl,by omega,rfl,fun k hk hkj=>?_⟩ (by dsimp only;omega)
   by_cases e:k=j
   ·subst e;exact hm
   ·exact hno k hk (by omega)
 ·rw[if_neg hlt]
  refine⟨rfl,hN ?_⟩
  rw[zfY hno,List.drop_of_length_le (by omega)];rfl
def Wants (S:Mem) (fv:Value) (p:Cw→Bool):Prop:=∀ S' r (R:Value→Mem→Prop),Keeps S S' []→R (.bool (p r)) S'→cv Tryz.prog S' fv [valL (cwL r)] R
theorem zhI (hc:CaP S ρ r0 h i L l) (hg:∀ b r,ρ b=some r→S b≠none) (hl:l.length≤100) {fv:Value} {p:Cw→Bool} (hf:Wants S fv p) {Q:Mem→Prop}
  (hQ:∀ S' ρ',Mv S ρ S' ρ' (fun r=>r=r0∨r=6)→CaP S' ρ' r0 h i L (l.filter p)→Q S'):xF S (some (h,i)) fv Q:=by
 obtain⟨cs,h1,h2⟩:=hc.ex
 have hn:=h2.n (by decide) (ku gj l)
 have hi:i<(L cs).length:=by have:=xJ (hc.get cs);exact this
 have hcell:S.cell h i=some (eL cs):=(h1.cell i hi rfl).trans (hc.get cs)
 apply zca
 unfold wG
 simp only[jn]
 rw[zL,wj hcell]
 refine zC (fun (z:Sl×Int) S'=>∃ j:Nat,z.2=(j:Int)∧j≤l.length∧Keeps S S' []∧Row S' 5 z.1 (((l.take j).filter p).flatMap cwL)∧∀ b o,z.1.p=some (b,o)→S b=none) (fun z=>l.length-z.2.toNat) ?_ ⟨0,rfl,by omega,Keeps.refl,Row.nil,fun b o h=>by cases h⟩
 rintro X ⟨l1,t⟩ S1 ⟨j,rfl,hj,hk,hrow,hfr⟩ ih
 dsimp only at ih hrow hfr hj ⊢
 have h2':=h2.keeps hk
 by_cases hlt:(j:Int)<(cs.n:Int)
 ·have hjl:j<l.length:=by omega
  have hfl:=ku gj l
  obtain⟨c,e1,e2⟩:=h2.sl (by rw[hfl];omega)
  rw[if_pos hlt]
  rw[e1,fi]
  refine⟨by omega,by omega,?_⟩
  rw[Int.toNat_natCast,xa (by rw[h2'.part e2 (j*5) (by rw[hfl];omega) (by omega)];exact zfh gj hjl)]
  refine⟨rfl,?_⟩
  have ht:l.take (j+1)=l.take j++[l[j]]:=List.take_succ_eq_append_getElem hjl
  refine hf S1 l[j] _ hk ⟨_,rfl,?_⟩
  by_cases hp:p l[j]=true
  ·rw[if_pos hp]
   refine⟨rfl,?_⟩
   have hl1:l1.n=((l.take j).filter p).length:=by
    have:=hrow.len
    rw[ku gj] at this;omega
   have hle:((l.take j).filter p).length≤j:=Nat.le_trans (List.length_filter_le _ _) (by rw[List.length_take];omega)
   refine wS hrow rfl (by decide) rfl (by omega) fun s' S2 b k e3 e4 e5 e6 e7=>?_
   have hb:S b=none:=by
    rcases e5 with e5 | e5
    ·exact hfr b 0 e5
    ·exact zgQ hk e5
   rw[w64 (by omega) (by omega)]
   refine ih _ S2 ⟨j+1,rfl,by omega,by rw[e6];exact hk.fresh hb,?_,fun b' o' h'=>?_⟩ (by dsimp only;omega)
   ·rw[ht,List.filter_append,List.flatMap_append]
    have:([l[j]].filter p).flatMap cwL=cwL l[j]:=by rw[List.filter_cons_of_pos hp];simp
    rw[this];exact e7
   ·rw[e4] at h';cases h';exact hb
  ·rw[if_neg hp,w64 (by omega) (by omega)]
   refine ih _ S1 ⟨j+1,rfl,by omega,hk,?_,hfr⟩ (by dsimp only;omega)
   rw[ht,List.filter_append,List.flatMap_append]
   have:([l[j]].filter p).flatMap cwL=[]:=by rw[List.filter_cons_of_neg hp];rfl
   rw[this,List.append_nil];exact hrow
 ·rw[if_neg hlt,zL]
  have ej:l.take j=l:=List.take_of_length_le (by omega)
  rw[ej] at hrow
  obtain⟨ρ1,m1,h3⟩:=Rw.claim (R:=fun r=>r=r0∨r=6) (r:=6) hg hk hrow hfr
  have m1':Mv S ρ S1 ρ1 (fun _=>False):=⟨m1.ext,m1.old,fun b hb _=>hk b hb (by simp),m1.al,m1.rg⟩
  refine (h1.keep m1' (fun h=>h)).pt m1.rg (vs:=[eL l1]) i rfl hi rfl fun S2 m2 h4=>?_
  rw[hc.set] at h4
  refine hQ S2 ρ1 (m1.trans (m2.mono fun r hr=>.inl hr)) ⟨⟨l1,h4,h3.keep m2 hc.ne.symm⟩,hc.get,hc.set,hc.ne⟩
theorem zhT (hc:CaP S ρ r0 h i L l) (hg:∀ b r,ρ b=some r→S b≠none) (hl:l.length≤100) {vm:Int} {Q:Mem→Prop}
  (hQ:∀ S' ρ',Mv S ρ S' ρ' (fun r=>r=r0∨r=6)→CaP S' ρ' r0 h i L (l.filter fun r=>! decide (r.vm=vm))→Q S'):wt S (some (h,i)) vm Q:=by
 apply zaK
 unfold xx
 intro b1 hb1
 have hk1:Keeps S (S.set b1 (bw 3 [.int .i64 vm])) []:=Keeps.refl.new hb1
 have m1:Mv S ρ (S.set b1 (bw 3 [.int .i64 vm])) ρ (fun r=>r=r0∨r=6):=Mv.keeps hg hk1
 rw[if_pos (by simp)]
 refine zhI (hc.keeps hk1) m1.rg hl (p:=fun r=>! decide (r.vm=vm)) ?_ fun S' ρ' m h=>hQ S' ρ' (m1.trans m) h
 intro S' a R hk hR
 have g1:S' b1=some (bw 3 [.int .i64 vm]):=hk.get zz (by simp)
 refine⟨_,[],[_],rfl,inferInstance,Tr.mono (gz (S:=S') (r:=cwL a) (t:=some (b1,0)) (Q:=fun r S2=>R (.bool r) S2) ?_) (by rintro v S2 ⟨r,rfl,h⟩;exact h)⟩
 unfold yw
 refine⟨rfl,?_⟩
 rw[zx (show nthL (cwL a) 0=some (.int .i64 a.vm) from rfl),zL,zx (by rw[qj g1];rfl)]
 have e:decide (a.vm≠vm) = ! decide (a.vm=vm):=by simp
 rw[e];exact hR
theorem zdb (hc:CaP S ρ r0 h i L l) (hg:∀ b r,ρ b=some r→S b≠none) (hl:l.length≤100) {vm page:Int} {Q:Mem→Prop}
  (hQ:∀ S' ρ',Mv S ρ S' ρ' (fun r=>r=r0∨r=6)→CaP S' ρ' r0 h i L (dropC l vm page)→Q S'):yE S (some (h,i)) vm page Q:=by
 apply zcc
 unfold wI
 intro b1 hb1 b2 hb2
 have hk1:Keeps S (S.set b1 (bw 3 [.int .i64 vm])) []:=Keeps.refl.new hb1
 have hk2:Keeps (S.set b1 (bw 3 [.int .i64 vm])) ((S.set b1 (bw 3 [.int .i64 vm])).set b2 (bw 3 [.int .i64 page])) []:=Keeps.refl.new hb2
 have n12:b1≠b2:=fun e=>by subst e;simp at hb2
 have m1:Mv S ρ ((S.set b1 (bw 3 [.int .i64 vm])).set b2 (bw 3 [.int .i64 page])) ρ (fun r=>r=r0∨r=6):=Mv.keeps hg (hk1.trans hk2)
 rw[if_pos (by simp)]
 refine zhI (hc.keeps (hk1.trans hk2)) m1.rg hl (p:=fun r=>! (decide (r.vm=vm) && decide (r.page=page))) ?_ fun S' ρ' m h=>hQ S' ρ' (m1.trans m) h
 intro S' a R hk hR
 have g1:S' b1=some (bw 3 [.int .i64 vm]):=hk.get (by rw[zO n12];exact zz) (by simp)
 have g2:S' b2=some (bw 3 [.int .i64 page]):=hk.get zz (by simp)
 refine⟨_,[],[_,_],rfl,inferInstance,Tr.mono (fG (S:=S') (r:=cwL a) (t:=some (b1,0)) (t_1:=some (b2,0)) (Q:=fun r S2=>R (.bool r) S2) ?_) (by rintro v S2 ⟨r,rfl,h⟩;exact h)⟩
 unfold yY
 refine⟨rfl,?_⟩
 rw[xa (show lpart (cwL a) 0 2=some [.int .i64 a.vm,.int .i64 a.page] from rfl),zL,zx (by rw[qj g1];rfl),zL,zx (by rw[qj g2];rfl)]
 refine⟨rfl,?_⟩
 have e:eqL [Value.int .i64 a.vm,.int .i64 a.page] [.int .i64 vm,.int .i64 page]=(decide (a.vm=vm) && decide (a.page=page)):=by
  rw[Bool.eq_iff_iff,zcZ (ks:=[.i .i64,.i .i64]) rfl rfl]
  simp
 rw[e];exact hR
theorem zqO {r:Cw}:spl (spl ([.int .i64 0,.int .i64 0,.bool false,.int .i64 0,.bool false]) 0 [.int .i64 r.vm,.int .i64 r.page]) 2 (enL r.f r.w)=cwL r:=rfl
theorem zlD (hc:CaP S ρ r0 h i L l) (hg:∀ b r,ρ b=some r→S b≠none) (hl:l.length≤100) {r:Cw} {Q:Mem→Prop}
  (hQ:∀ S' ρ',Mv S ρ S' ρ' (fun r=>r=r0∨r=6)→CaP S' ρ' r0 h i L (putC l r)→Q S'):jc S (some (h,i)) r.vm r.page (enL r.f r.w) Q:=by
 apply zcJ
 unfold vu
 refine⟨rfl,?_⟩
 refine zZ (fun J=>J S) ?_ fun J hJ=>by rw[if_neg (by simp)];exact hJ
 have hdl:(dropC l r.vm r.page).length≤l.length:=List.length_filter_le _ _
 refine zdb hc hg hl fun S1 ρ1 m1 h1=>?_
 refine zZ (fun J=>∀ S2 ρ2,Mv S ρ S2 ρ2 (fun r=>r=r0∨r=6)→CaP S2 ρ2 r0 h i L (if (dropC l r.vm r.page).length=8 then (dropC l r.vm r.page).tail else dropC l r.vm r.page)→J S2) ?_ fun J hJ=>?_
 ·intro S2 ρ2 m2 h2
  obtain⟨cs,h3,h4⟩:=h2.ex
  have hi:i<(L cs).length:=by have:=xJ (h2.get cs);exact this
  rw[zL,wj ((h3.cell i hi rfl).trans (h2.get cs)),zqO]
  refine⟨rfl,?_⟩
  have hn:=h4.n (by decide) (ku gj _)
  have hle:(if (dropC l r.vm r.page).length=8 then (dropC l r.vm r.page).tail else dropC l r.vm r.page).length≤100:=by
   split
   ·rw[List.length_tail];omega
   ·omega
  refine zkR (R:=fun r=>r=r0∨r=6) m2 (.inr rfl) h4 rfl (by decide) rfl (by omega) fun s' S3 ρ3 m3 m3' h5 _=>?_
  refine (h3.keep m3' h2.ne).pt m3.rg (vs:=[eL s']) i rfl hi rfl fun S4 m4 h6=>?_
  rw[h2.set] at h6
  refine hQ S4 ρ3 (m3.trans (m4.mono fun r hr=>.inl hr)) ⟨⟨s',h6,?_⟩,h2.get,h2.set,h2.ne⟩
  have:=h5.keep m4 h2.ne.symm
  unfold putC
  rw[List.flatMap_append]
  have e:[r].flatMap cwL=cwL r:=by simp
  rw[e];exact this
 ·obtain⟨cs,h3,h4⟩:=h1.ex
  have hi:i<(L cs).length:=by have:=xJ (h1.get cs);exact this
  have hcell:=(h3.cell i hi rfl).trans (h1.get cs)
  have hn:=h4.n (by decide) (ku gj _)
  rw[zL,wj hcell]
  by_cases h8:(dropC l r.vm r.page).length=8
  ·have hJ':=fun S2 ρ2 m h=>hJ S2 ρ2 m (by rw[if_pos h8];exact h)
   rw[if_pos (by omega),wj hcell]
   obtain⟨c,e1,e2⟩:=h4.sl (by rw[ku gj];omega)
   refine⟨by decide,by omega,by have:=h4.row.cap;omega,?_⟩
   have es:slc 5 cs 1 (cs.n:Int)=if cs.c=1 then ⟨some (c,0),cs.n-1,cs.c-1⟩ else ⟨some (c,5),cs.n-1,cs.c-1⟩:=by
    unfold slc
    rw[e2]
    have e3:(1:Int).toNat=1:=rfl
    have e4:((cs.n:Int)-1).toNat=cs.n-1:=by omega
    rw[e3,e4]
    split <;> rfl
   have hcap:=h4.row.cap
   rw[if_neg (by omega)] at es
   show sp S1 (slc 5 cs 1 (cs.n:Int)) 5 _
   rw[es]
   obtain⟨a,tl,hd⟩:∃ a tl,dropC l r.vm r.page=a :: tl:=by
    cases hq:dropC l r.vm r.page with
    | nil=>rw[hq] at h8;simp at h8
    | cons a b=>exact⟨a,b,rfl⟩
   have htl:(dropC l r.vm r.page).tail=tl:=by rw[hd];rfl
   have hfl:=ku gj (dropC l r.vm r.page)
   have hpart:S1.part c 5 ((cs.n-1)*5)=some ((dropC l r.vm r.page).tail.flatMap cwL):=by
    rw[h4.part e2 5 (by rw[hfl];omega) rfl]
    have e3:(dropC l r.vm r.page).flatMap cwL=cwL a++(dropC l r.vm r.page).tail.flatMap cwL:=by
     rw[htl,hd,List.flatMap_cons]
    have e6:=xc (A:=cwL a) (B:=(dropC l r.vm r.page).tail.flatMap cwL) (n:=5) (j:=0) (m:=(cs.n-1)*5) rfl
    rw[Nat.add_zero] at e6
    rw[e3,e6]
    have e5:(cs.n-1)*5=((dropC l r.vm r.page).tail.flatMap cwL).length:=by rw[ku gj,List.length_tail];omega
    rw[e5,ze rfl]
   refine⟨_,.inr ⟨c,5,rfl,hpart⟩,?_,?_⟩
   ·rw[List.all_flatMap]
    exact List.all_eq_true.2 fun x _=>rfl
   ·refine wS (m:=cs.n-1) Row.nil (by rw[ku gj,List.length_tail];omega) (by omega) rfl (by show (2*(0+(cs.n-1))+1024)*40≤_;omega) fun s' S2 b k e3 e4 e5 e6 e7=>?_
    have hb:S1 b=none:=by
     rcases e5 with e5 | e5
     ·cases e5
     ·exact e5
    have hk:Keeps S1 S2 []:=by rw[e6];exact Keeps.refl.fresh hb
    obtain⟨ρ2,m2,h5⟩:=Rw.claim (R:=fun r=>r=r0∨r=6) (r:=6) m1.rg hk e7 fun b' o' h'=>by rw[e4] at h';cases h';exact hb
    have m2':Mv S1 ρ1 S2 ρ2 (fun _=>False):=⟨m2.ext,m2.old,fun b hb _=>hk b hb (by simp),m2.al,m2.rg⟩
    refine (h3.keep m2' (fun h=>h)).pt m2.rg (vs:=[eL s']) i rfl hi rfl fun S3 m3 h6=>?_
    rw[h1.set] at h6
    exact hJ' S3 ρ2 (m1.trans (m2.trans (m3.mono fun r hr=>.inl hr))) ⟨⟨s',h6,by have:=h5.keep m3 h1.ne.symm;rw[List.nil_append] at this;exact this⟩,h1.get,h1.set,h1.ne⟩
  ·rw[if_neg (by omega)]
   have:=hJ S1 ρ1 m1
   rw[if_neg h8] at this
   exact this h1
end
end Go.Proofs.YthaiblbnpcgjpaaGreatDoor
end
