/- Texts of this work,joined by program (pack.py). -/
import Derived.Test.YthaiblbnpcgjpaaGreatDoorQAK
import Derived.Test.YthaiblbnpcgjpaaGreatDoorQAG
import Derived.Test.YthaiblbnpcgjpaaGreatDoorQAE
import Derived.Test.YthaiblbnpcgjpaaGreatDoorQAF
import Derived.Test.YthaiblbnpcgjpaaGreatDoorQAH
set_option linter.unusedVariables false
section
namespace Go.Cr
open Go Go.Pt
def lsC (ls:Nat→Ls):List Value:=cF 16 fun i=>lsL (ls i)
theorem lsC_len {ls:Nat→Ls}:(lsC ls).length=96:=fX (w:=6) fun _ _=>rfl
theorem zgJ {ls:Nat→Ls} {i j x:Nat} (hi:i<16) (hj:j<6) (hx:x=i*6+j):nthL (lsC ls) x=nthL (lsL (ls i)) j:=by
 subst hx;exact zhZ (w:=6) (fun _ _=>rfl) hi hj
theorem zas {ls:Nat→Ls} {i x:Nat} (hi:i<16) (hx:x=i*6):lpart (lsC ls) x 6=some (lsL (ls i)):=by
 subst hx
 have:=zgX (w:=6) (k:=0) (m:=6) (n:=16) (f:=fun i=>lsL (ls i)) (fun _ _=>rfl) hi (by decide)
 rw[Nat.add_zero] at this
 exact this
theorem zeY {ls:Nat→Ls} {i j x:Nat} {vs:List Value} {l:Ls} (hi:i<16) (hx:x=i*6+j) (hj:j+vs.length≤6) (he:spl (lsL (ls i)) j vs=lsL l):spl (lsC ls) x vs=lsC (upd ls i l):=by
 subst hx
 unfold lsC
 rw[zhY (w:=6) (fun _ _=>rfl) hi hj,he]
 refine jF fun g _=>?_
 by_cases e:g=i
 ·subst e;simp only[zl]
 ·simp only[zh e]
theorem zqP {n:Nat} {f:Nat→List Value} (h:∀ i,i<n→(f i).all (·.oneCell')=true):(cF n f).all (·.oneCell')=true:=by
 rw[List.all_eq_true]
 intro x hx
 obtain⟨i,hi,h2⟩:=znU hx
 exact List.all_eq_true.1 (h i hi) x h2
theorem qe {ls:Nat→Ls}:(lsC ls).all (·.oneCell')=true:=zqP fun _ _=>rfl
end Go.Cr
namespace Go.Proofs.YthaiblbnpcgjpaaGreatDoor
open Go Go.Pt Go.Cr
section
variable {S:Mem} {ls:Nat→Ls}
theorem vE {n:Int} {Q:List Value→Int→Mem→Prop} (hY:0≤n→n≤15→(ls n.toNat).on=true→Q (lsL (ls n.toNat)) 0 S) (hN:(n<0∨15<n∨(ls n.toNat).on=false)→Q (lsL ls0) 2 S):qC S (lsC ls) n Q:=by
 apply zdN
 unfold vT
 refine⟨lsC_len,?_⟩
 simp only[jn]
 by_cases h0:n<0
 ·rw[if_pos h0];exact hN (.inl h0)
 rw[if_neg h0]
 by_cases h1:16≤n
 ·rw[if_pos h1];exact hN (.inr (.inl (by omega)))
 rw[if_neg h1]
 refine⟨by omega,by omega,?_⟩
 rw[fo (zgJ (i:=n.toNat) (j:=0) (by omega) (by decide) (by omega))]
 cases hon:(ls n.toNat).on with
 | false=>rw[if_neg (by decide)];exact hN (.inr (.inr hon))
 | true=>
  rw[if_pos rfl]
  refine⟨rfl,by omega,by omega,?_⟩
  rw[xa (zas (i:=n.toNat) (by omega) (by omega))]
  exact⟨rfl,hY (by omega) (by omega) hon⟩
theorem zbl {n:Int} {p:Int} {Q:Bool→Mem→Prop} (hQ:Q (decide (0≤n∧n<6∧0≤p∧p<32)) S):kQ S n p Q:=by
 apply zgn
 unfold gY
 by_cases h0:0≤n
 ·rw[if_pos h0]
  by_cases h1:n<6
  ·rw[if_pos h1]
   by_cases h2:0≤p
   ·rw[if_pos h2]
    have e:decide (0≤n∧n<6∧0≤p∧p<32)=decide (p<32):=decide_eq_decide.2 ⟨fun h=>h.2.2.2,fun h=>⟨h0,h1,h2,h⟩⟩
    rw[e] at hQ;exact hQ
   ·rw[if_neg h2];rw[decide_eq_false (fun h=>h2 h.2.2.1)] at hQ;exact hQ
  ·rw[if_neg h1];rw[decide_eq_false (fun h=>h1 h.2.1)] at hQ;exact hQ
 ·rw[if_neg h0];rw[decide_eq_false (fun h=>h0 h.1)] at hQ;exact hQ
def z96:List Value:=[.bool false,.int .i64 0,.int .i64 0,.int .i64 0,.bool false,.int .i64 0]
theorem zhG {n vm at_:Int} (hvm:0≤vm∧vm<6) {Q:List Value→Int→Mem→Prop}
  (h2:(n<0∨15<n∨(ls n.toNat).on=false)→Q (lsC ls) 2 S)
  (h7:0≤n→n≤15→(ls n.toNat).on=true→((ls n.toNat).to:Int)≠vm→Q (lsC ls) 7 S)
  (h8:0≤n→n≤15→(ls n.toNat).on=true→((ls n.toNat).to:Int)=vm→0≤(ls n.toNat).at_→Q (lsC ls) 8 S)
  (h1:0≤n→n≤15→(ls n.toNat).on=true→((ls n.toNat).to:Int)=vm→(ls n.toNat).at_<0→(at_<0∨31<at_)→Q (lsC ls) 1 S)
  (h0:0≤n→n≤15→(ls n.toNat).on=true→((ls n.toNat).to:Int)=vm→(ls n.toNat).at_<0→0≤at_→at_≤31→Q (lsC (upd ls n.toNat ((ls n.toNat).setA at_))) 0 S):va S (lsC ls) n vm at_ Q:=by
 apply zbe
 unfold xP
 refine⟨lsC_len,?_⟩
 simp only[jn]
 refine vE (fun a b hon=>?_) fun hbad=>?_
 ·refine⟨rfl,?_⟩
  rw[if_neg (by decide),zx (show nthL (lsL (ls n.toNat)) 3=some (.int .i64 (ls n.toNat).to) from rfl)]
  by_cases ht:((ls n.toNat).to:Int)=vm
  ·rw[if_neg (fun h=>h ht),zx (show nthL (lsL (ls n.toNat)) 5=some (.int .i64 (ls n.toNat).at_) from rfl)]
   by_cases hat:0≤(ls n.toNat).at_
   ·rw[if_pos hat];exact⟨qe,h8 a b hon ht hat⟩
   ·rw[if_neg hat]
    refine zbl ?_
    by_cases hp:0≤at_∧at_≤31
    ·rw[decide_eq_true ⟨hvm.1,hvm.2,hp.1,by omega⟩,if_pos rfl]
     refine⟨rfl,a,by omega,?_⟩
     rw[zeY (i:=n.toNat) (j:=5) (l:=((ls n.toNat).setA at_)) (by omega) (by omega) (by simp) rfl]
     exact⟨qe,h0 a b hon ht (by omega) hp.1 hp.2⟩
    ·rw[decide_eq_false (fun h=>hp ⟨h.2.2.1,by omega⟩),if_neg (by decide)]
     exact⟨qe,h1 a b hon ht (by omega) (by omega)⟩
  ·rw[if_pos ht];exact⟨qe,h7 a b hon ht⟩
 ·refine⟨rfl,?_⟩
  rw[if_pos (by decide)]
  exact⟨qe,h2 hbad⟩
theorem ziM {n vm:Int} {Q:List Value→Int→Mem→Prop}
  (h2:(n<0∨15<n∨(ls n.toNat).on=false)→Q (lsC ls) 2 S)
  (h7:0≤n→n≤15→(ls n.toNat).on=true→((ls n.toNat).to:Int)≠vm→Q (lsC ls) 7 S)
  (h10:0≤n→n≤15→(ls n.toNat).on=true→((ls n.toNat).to:Int)=vm→(ls n.toNat).at_<0→Q (lsC ls) 10 S)
  (h0:0≤n→n≤15→(ls n.toNat).on=true→((ls n.toNat).to:Int)=vm→0≤(ls n.toNat).at_→Q (lsC (upd ls n.toNat ((ls n.toNat).setA (-1)))) 0 S):xE S (lsC ls) n vm Q:=by
 apply zbV
 unfold wB
 refine⟨lsC_len,?_⟩
 simp only[jn]
 refine vE (fun a b hon=>?_) fun hbad=>?_
 ·refine⟨rfl,?_⟩
  rw[if_neg (by decide),zx (show nthL (lsL (ls n.toNat)) 3=some (.int .i64 (ls n.toNat).to) from rfl)]
  by_cases ht:((ls n.toNat).to:Int)=vm
  ·rw[if_neg (fun h=>h ht),zx (show nthL (lsL (ls n.toNat)) 5=some (.int .i64 (ls n.toNat).at_) from rfl)]
   by_cases hat:(ls n.toNat).at_<0
   ·rw[if_pos hat];exact⟨qe,h10 a b hon ht hat⟩
   ·rw[if_neg hat]
    refine⟨rfl,a,by omega,?_⟩
    rw[zeY (i:=n.toNat) (j:=5) (l:=((ls n.toNat).setA (-1))) (by omega) (by omega) (by simp) rfl]
    exact⟨qe,h0 a b hon ht (by omega)⟩
  ·rw[if_pos ht];exact⟨qe,h7 a b hon ht⟩
 ·refine⟨rfl,?_⟩
  rw[if_pos (by decide)]
  exact⟨qe,h2 hbad⟩
theorem zfD {n vm:Int} {Q:List Value→Int→Mem→Prop}
  (h2:(n<0∨15<n∨(ls n.toNat).on=false)→Q (lsC ls) 2 S)
  (h7:0≤n→n≤15→(ls n.toNat).on=true→((ls n.toNat).fr:Int)≠vm→Q (lsC ls) 7 S)
  (h8:0≤n→n≤15→(ls n.toNat).on=true→((ls n.toNat).fr:Int)=vm→0≤(ls n.toNat).at_→Q (lsC ls) 8 S)
  (h0:0≤n→n≤15→(ls n.toNat).on=true→((ls n.toNat).fr:Int)=vm→(ls n.toNat).at_<0→Q (lsC (upd ls n.toNat ls0)) 0 S):yq S (lsC ls) n vm Q:=by
 apply fE
 unfold yW
 refine⟨lsC_len,?_⟩
 simp only[jn]
 refine vE (fun a b hon=>?_) fun hbad=>?_
 ·refine⟨rfl,?_⟩
  rw[if_neg (by decide),zx (show nthL (lsL (ls n.toNat)) 1=some (.int .i64 (ls n.toNat).fr) from rfl)]
  by_cases ht:((ls n.toNat).fr:Int)=vm
  ·rw[if_neg (fun h=>h ht),zx (show nthL (lsL (ls n.toNat)) 5=some (.int .i64 (ls n.toNat).at_) from rfl)]
   by_cases hat:0≤(ls n.toNat).at_
   ·rw[if_pos hat];exact⟨qe,h8 a b hon ht hat⟩
   ·rw[if_neg hat]
    refine⟨rfl,a,by omega,?_⟩
    rw[zeY (i:=n.toNat) (j:=0) (l:=ls0) (by omega) (by omega) (by simp) rfl]
    exact⟨qe,h0 a b hon ht (by omega)⟩
  ·rw[if_pos ht];exact⟨qe,h7 a b hon ht⟩
 ·refine⟨rfl,?_⟩
  rw[if_pos (by decide)]
  exact⟨qe,h2 hbad⟩
theorem zkw {n:Nat} (hn:n<16) {Q:List Value→Mem→Prop} (hQ:Q (lsC (upd ls n ls0)) S):kS S (lsC ls) n Q:=by
 apply zcE
 unfold vl
 refine⟨lsC_len,?_⟩
 rw[if_pos (by omega),if_pos (by omega)]
 refine⟨by omega,by omega,?_⟩
 rw[zeY (i:=n) (j:=0) (l:=ls0) hn (by omega) (by simp) rfl]
 exact⟨qe,hQ⟩
theorem zeh {vm page:Int} {Q:Int→Mem→Prop}
  (hY:∀ i:Nat,i<16→(ls i).on=true→((ls i).to:Int)=vm→(ls i).at_=page→0≤page→Q i S)
  (hN:(∀ i,i<16→¬((ls i).on=true∧((ls i).to:Int)=vm∧(ls i).at_=page∧0≤page))→Q (-1) S):wh S (lsC ls) vm page Q:=by
 apply zet
 unfold jf
 refine⟨lsC_len,?_⟩
 simp only[jn]
 refine zC (fun (z:Int) S'=>∃ i:Nat,z=(i:Int)∧i≤16∧S'=S∧∀ j,j<i→¬((ls j).on=true∧((ls j).to:Int)=vm∧(ls j).at_=page∧0≤page)) (fun z=>16-z.toNat) ?_ ⟨0,rfl,by omega,rfl,fun _ h=>by omega⟩
 rintro X z S' ⟨i,rfl,hi,rfl,hno⟩ ih
 by_cases hlt:(i:Int)<16
 ·rw[if_pos hlt]
  refine⟨by omega,by omega,?_⟩
  rw[Int.toNat_natCast,xa (zas (i:=i) (by omega) rfl)]
  refine⟨rfl,?_⟩
  have go:¬((ls i).on=true∧((ls i).to:Int)=vm∧(ls i).at_=page∧0≤page)→X (IntKind.i64.wrap ((i:Int)+1)) S':=fun hn=>by
   rw[w64 (by omega) (by omega)]
   refine ih _ S' ⟨i+1,rfl,by omega,rfl,fun j hj=>?_⟩ (by omega)
   by_cases e:j=i
   ·subst e;exact hn
   ·exact hno j (by omega)
  rw[fo (show nthL (lsL (ls i)) 0=some (.bool (ls i).on) from rfl)]
  by_cases hon:(ls i).on=true
  ·rw[if_pos hon,zx (show nthL (lsL (ls i)) 3=some (.int .i64 (ls i).to) from rfl)]
   by_cases ht:((ls i).to:Int)=vm
   ·rw[if_pos ht,zx (show nthL (lsL (ls i)) 5=some (.int .i64 (ls i).at_) from rfl)]
    by_cases hat:(ls i).at_=page
    ·rw[if_pos hat]
     by_cases h0:0≤page
     ·rw[if_pos h0];exact hY i (by omega) hon ht hat h0
     ·rw[if_neg h0];exact go fun h=>h0 h.2.2.2
    ·rw[if_neg hat];exact go fun h=>hat h.2.2.1
   ·rw[if_neg ht];exact go fun h=>ht h.2.1
  ·rw[if_neg hon];exact go fun h=>hon h.1
 ·rw[if_neg hlt]
  exact hN fun j hj=>hno j (by omega)
theorem zkv {vm:Nat} {page:Int} {Q:Bool→Mem→Prop} (hQ:Q (lentL ls vm page) S):kR S (lsC ls) vm page Q:=by
 apply zcD
 unfold vk
 refine⟨lsC_len,?_⟩
 simp only[jn]
 refine zC (fun (z:Int) S'=>∃ i:Nat,z=(i:Int)∧i≤16∧S'=S∧∀ j,j<i→¬((ls j).on=true∧(ls j).fr=vm∧((ls j).pg:Int)=page)) (fun z=>16-z.toNat) ?_ ⟨0,rfl,by omega,rfl,fun _ h=>by omega⟩
 rintro X z S' ⟨i,rfl,hi,rfl,hno⟩ ih
 by_cases hlt:(i:Int)<16
 ·rw[if_pos hlt]
  refine⟨by omega,by omega,?_⟩
  rw[Int.toNat_natCast,xa (zas (i:=i) (by omega) rfl)]
  refine⟨rfl,?_⟩
  have go:¬((ls i).on=true∧(ls i).fr=vm∧((ls i).pg:Int)=page)→X (IntKind.i64.wrap ((i:Int)+1)) S':=fun hn=>by
   rw[w64 (by omega) (by omega)]
   refine ih _ S' ⟨i+1,rfl,by omega,rfl,fun j hj=>?_⟩ (by omega)
   by_cases e:j=i
   ·subst e;exact hn
   ·exact hno j (by omega)
  rw[fo (show nthL (lsL (ls i)) 0=some (.bool (ls i).on) from rfl)]
  by_cases hon:(ls i).on=true
  ·rw[if_pos hon,zx (show nthL (lsL (ls i)) 1=some (.int .i64 (ls i).fr) from rfl)]
   by_cases ht:((ls i).fr:Int)=vm
   ·rw[if_pos ht,zx (show nthL (lsL (ls i)) 2=some (.int .i64 (ls i).pg) from rfl)]
    by_cases hat:((ls i).pg:Int)=page
    ·rw[if_pos hat]
     have e:lentL ls vm page=true:=by
      unfold lentL
      rw[List.any_eq_true]
      refine⟨i,List.mem_range.2 (by omega),?_⟩
      have:(ls i).fr=vm:=by omega
      simp[hon,this,hat]
     rw[e] at hQ;exact hQ
    ·rw[if_neg hat];exact go fun h=>hat h.2.2
   ·rw[if_neg ht];exact go fun h=>ht (by omega)
  ·rw[if_neg hon];exact go fun h=>hon h.1
 ·rw[if_neg hlt]
  have e:lentL ls vm page=false:=by
   unfold lentL
   rw[List.any_eq_false]
   intro j hj
   have:=hno j (by have:=List.mem_range.1 hj;omega)
   simp only[Bool.and_eq_true,decide_eq_true_eq]
   exact this
  rw[e] at hQ;exact hQ
theorem ziL {vm to p:Nat} {w:Bool} (hvm:vm<6) (hto:to<6) (hp:p<32) {Q:List Value→Int→Int→Mem→Prop}
  (h1:vm=to→Q (lsC ls) 0 1 S)
  (h3:vm≠to→firstOff (fun i=>(ls i).on) 16=none→Q (lsC ls) 0 3 S)
  (h0:∀ i,vm≠to→firstOff (fun i=>(ls i).on) 16=some i→Q (lsC (upd ls i ⟨true,vm,p,to,w,-1⟩)) i 0 S):vG S (lsC ls) vm p to w Q:=by
 apply zbU
 unfold wA
 refine⟨lsC_len,?_⟩
 simp only[jn]
 refine zbl ?_
 rw[decide_eq_true ⟨by omega,by omega,by omega,by omega⟩,if_pos rfl]
 refine zbl ?_
 rw[decide_eq_true ⟨by omega,by omega,by omega,by omega⟩,if_pos rfl]
 by_cases he:vm=to
 ·rw[if_pos (by omega)]
  exact⟨qe,h1 he⟩
 rw[if_neg (by omega)]
 refine⟨rfl,?_⟩
 refine zC (fun (z:Int×List Value×List Value) S'=>∃ (i:Nat) (v:List Value),z=((i:Int),lsC ls,v)∧v.length=96∧i≤16∧S'=S∧∀ j,j<i→(ls j).on=true) (fun z=>16-z.1.toNat) ?_ ⟨0,_,rfl,rfl,by omega,rfl,fun _ h=>by omega⟩
 rintro X z S' ⟨i,v,rfl,hv,hi,rfl,hno⟩ ih
 dsimp only at ih ⊢
 refine⟨lsC_len,hv,?_⟩
 by_cases hlt:(i:Int)<16
 ·rw[if_pos hlt]
  refine⟨by omega,by omega,?_⟩
  rw[Int.toNat_natCast,xa (zas (i:=i) (by omega) rfl)]
  refine⟨rfl,?_⟩
  rw[fo (show nthL (lsL (ls i)) 0=some (.bool (ls i).on) from rfl)]
  cases hon:(ls i).on with
  | true=>
   rw[if_pos rfl,w64 (by omega) (by omega)]
   refine ih _ S' ⟨i+1,v,rfl,hv,by omega,rfl,fun j hj=>?_⟩ (by dsimp only;omega)
   by_cases e:j=i
   ·subst e;exact hon
   ·exact hno j (by omega)
  | false=>
   rw[if_neg (by decide)]
   refine⟨by omega,by omega,?_⟩
   rw[zeY (i:=i) (j:=0) (l:=⟨true,vm,p,to,w,-1⟩) (by omega) (by omega) (by simp) rfl]
   exact⟨qe,h0 i he (gK (by omega) hon hno)⟩
 ·rw[if_neg hlt]
  refine⟨lsC_len,hv,qe,h3 he ?_⟩
  cases hf:firstOff (fun i=>(ls i).on) 16 with
  | none=>rfl
  | some g=>
   obtain⟨a,b,_⟩:=qd hf
   rw[hno g (by omega)] at b;cases b
end
end Go.Proofs.YthaiblbnpcgjpaaGreatDoor
end
namespace Go.Cr
section
open Go Go.Pt
section
variable {C:Cst} {W:Wd} {φ:Nat→Nat→Nat}
theorem zaT {n p:Nat} (h1:W.own n p=none) (h2:leaseAt W.ls n p=none):W.where_ n p=none:=by
 unfold Wd.where_
 rw[h1,h2];rfl
theorem setO_own {n p:Nat} {o:Option (List Int)} {m q:Nat}:(W.setO n p o).own m q=if m=n∧q=p then o else W.own m q:=by
 show upd W.own n (upd (W.own n) p o) m q=_
 by_cases e:m=n
 ·subst e
  rw[zl]
  by_cases e2:q=p
  ·subst e2;rw[zl,if_pos ⟨rfl,rfl⟩]
  ·rw[zh e2,if_neg (fun h=>e2 h.2)]
 ·rw[zh e,if_neg (fun h=>e h.1)]
theorem Rel.clear (h:Rel C W φ) {f:Nat} (hf:(C.own f).kind=0) {l:List Int} (hl:l.length=256∧Byt l):Rel { C with dat:=upd C.dat f l } W φ:=by
 have hk:(C.own f).kind≠2:=by rw[hf];decide
 exact { h with
  len:=fun g hg=>by
   show (upd C.dat f l g).length=256∧Byt (upd C.dat f l g)
   by_cases e:g=f
   ·rw[e,zl];exact hl
   ·rw[zh e];exact h.len g hg
  root:=fun n j hn hj=>by
   show unp C.form (ld (upd C.dat f l) ((C.fr n).getD 0 0) j)=_
   rw[h.ld_keep hk hn (by decide)];exact h.root n j hn hj
  leaf:=fun n p hn hp'=>by
   show LW C.form (ld (upd C.dat f l) ((C.fr n).getD (p/8+1) 0) (p%8)) _
   rw[h.ld_keep hk hn (by omega)];exact h.leaf n p hn hp'
  pg:=fun n p l2 hl2=>by
   have h3:=h.pg n p l2 hl2
   refine⟨h3.1,h3.2.1,?_⟩
   show upd C.dat f l (φ n p)=l2
   rw[zh (fun e=>by have h4:=h3.2.1;rw[e] at h4;rw[h4] at hf;cases hf)]
   exact h3.2.2
  cache:=fun r hr=>by
   obtain⟨n,h1,h2,h3⟩:=h.cache r hr
   exact⟨n,h1,h2,by rw[←h3];exact h.walk_keep hk h2 r.page⟩ }
theorem zlW {ls:Nat→Ls} {n p:Nat}:lentL ls n p=false↔lentN ls n p=0:=by
 unfold lentL lentN count
 rw[List.any_eq_false,List.length_eq_zero_iff,List.filter_eq_nil_iff]
 constructor
 ·intro h i hi
  have:=h i hi
  simp only[Bool.and_eq_true,decide_eq_true_eq,Int.natCast_inj] at this ⊢
  exact this
 ·intro h i hi
  have:=h i hi
  simp only[Bool.and_eq_true,decide_eq_true_eq,Int.natCast_inj] at this ⊢
  exact this
theorem Rel.give (h:Rel C W φ) {n p:Nat} {l:List Int} (ho:W.own n p=some l) (hl:lentL W.ls n p=false) :
  Rel { C with dat:=setC C.dat C.N (C.tf n) (C.fr n) p 0,cache:=dropC C.cache n p,own:=recC C.own (φ n p) n,used:=upd C.used (φ n p) false } { W.setO n p none with free:=W.free+1 } φ∧C.used (φ n p)=true:=by
 have hwp:=h.wk.pg n p l ho
 have hpg:=h.pg n p l ho
 have hon:=hwp.1
 have htf:=(h.tab n hon).1
 have ht:=h.tu hon hwp.2.1 (w:=0) ⟨by decide,by decide⟩
 have h0:=zlW.1 hl
 have hused:C.used (φ n p)=true:=by rw[h.used _ hpg.1,hpg.2.1];rfl
 refine⟨?_,hused⟩
 have hown:recC C.own (φ n p) n=upd C.own (φ n p) ow0:=by
  unfold recC
  rw[hpg.2.1,if_pos ⟨rfl,rfl,by show ((lentN W.ls n p:Nat):Int)≤0;omega⟩]
 rw[hown]
 have hat:leaseAt W.ls n p=none:=by
  cases hf:leaseAt W.ls n p with
  | none=>rfl
  | some j=>
   obtain⟨_,h1,h2,h3⟩:=qR hf
   have:=h.wk.lsa j h1 p h3
   rw[h2,ho] at this;cases this
 have hw:∀ m q,({ W.setO n p none with free:=W.free+1 }:Wd).where_ m q=if m=n∧q=p then none else W.where_ m q:=fun m q=>by
  have e1:({ W.setO n p none with free:=W.free+1 }:Wd).where_ m q=(W.setO n p none).where_ m q:=rfl
  rw[e1]
  by_cases e:m=n∧q=p
  ·rw[if_pos e]
   obtain⟨rfl,rfl⟩:=e
   exact zaT (by rw[setO_own,if_pos ⟨rfl,rfl⟩]) hat
  ·rw[if_neg e]
   unfold Wd.where_
   rw[setO_own,if_neg e];rfl
 have hnl:∀ i,(W.ls i).on=true→¬((W.ls i).fr=n∧(W.ls i).pg=p):=fun i hi e=>by
  have:=zgh h0 i (h.wk.lsr i hi).1
  simp[hi,e.1,e.2] at this
 have hwk:WOk { W.setO n p none with free:=W.free+1 }:=by
  refine { h.wk with off:=fun i hi=>⟨(h.wk.off i hi).1,fun q=>?_,(h.wk.off i hi).2.2⟩,pg:=fun m q l2 hl2=>?_,most:=fun m=>?_,lsr:=fun i hi=>?_,lsa:=fun i hi q hq=>?_ }
  ·show (W.setO n p none).own i q=none
   rw[setO_own];split
   ·rfl
   ·exact (h.wk.off i hi).2.1 q
  ·have hl2':(W.setO n p none).own m q=some l2:=hl2
   rw[setO_own] at hl2'
   split at hl2'
   ·cases hl2'
   ·exact h.wk.pg m q l2 hl2'
  ·refine Int.le_trans ?_ (h.wk.most m)
   have:count (fun q=>((W.setO n p none).own m q).isSome) 32≤count (fun q=>(W.own m q).isSome) 32:=zgi fun q _ hq=>by
    rw[setO_own] at hq
    split at hq
    ·cases hq
    ·exact hq
   exact Int.ofNat_le.2 this
  ·have hh:=h.wk.lsr i hi
   refine⟨hh.1,hh.2.1,hh.2.2.1,hh.2.2.2.1,?_,hh.2.2.2.2.2⟩
   show ((W.setO n p none).own (W.ls i).fr (W.ls i).pg).isSome=true
   rw[setO_own,if_neg (hnl i hi)];exact hh.2.2.2.2.1
  ·show (W.setO n p none).own (W.ls i).to q=none
   rw[setO_own];split
   ·rfl
   ·exact h.wk.lsa i hi q hq
 have hne:∀ m q l2,W.own m q=some l2→¬(m=n∧q=p)→φ m q≠φ n p:=fun m q l2 hl2 e e2=>e (h.inj hl2 ho e2)
 have hk:∀ f,f≠φ n p→upd C.own (φ n p) ow0 f=C.own f:=fun f e=>zh e
 exact { h with
  wk:=hwk
  free:=by
   show W.free+1=(count (fun f=>! upd C.used (φ n p) false f) C.N:Int)
   have e1:(fun f=>! upd C.used (φ n p) false f)=upd (fun f=>! C.used f) (φ n p) true:=by
    funext g;unfold upd;split <;> rfl
   have:=kZ (g:=fun f=>! C.used f) hpg.1 true
   rw[←e1] at this
   simp only[hused,Bool.not_true,Bool.toNat_false,Bool.toNat_true] at this
   rw[h.free];omega
  used:=fun f hf=>by
   show upd C.used (φ n p) false f=decide ((upd C.own (φ n p) ow0 f).kind≠0)
   by_cases e:f=φ n p
   ·rw[e,zl,zl];rfl
   ·rw[zh e,zh e];exact h.used f hf
  own0:=fun f hf hk0=>by
   show upd C.own (φ n p) ow0 f=ow0
   by_cases e:f=φ n p
   ·rw[e,zl]
   ·have hk0':(upd C.own (φ n p) ow0 f).kind=0:=hk0
    rw[zh e] at hk0' ⊢;exact h.own0 f hf hk0'
  kind:=fun f hf=>by
   show 0≤(upd C.own (φ n p) ow0 f).kind∧(upd C.own (φ n p) ow0 f).kind≤3
   by_cases e:f=φ n p
   ·rw[e,zl];exact⟨show (0:Int)≤0 by decide,show (0:Int)≤3 by decide⟩
   ·rw[zh e];exact h.kind f hf
  len:=ht.len
  tabf:=fun m f hm=>by
   have:=h.tabf m f hm
   refine⟨this.1,?_⟩
   show upd C.own (φ n p) ow0 f=_
   rw[zh (fun e=>by rw[e,hpg.2.1] at this;cases this.2)];exact this.2
  tabk:=fun f hf h2=>by
   have h2':(upd C.own (φ n p) ow0 f).kind=2:=h2
   by_cases e:f=φ n p
   ·rw[e,zl] at h2';cases h2'
   ·rw[zh e] at h2';exact h.tabk f hf h2'
  root:=fun m j hm hj=>ht.root h hm hj
  leaf:=fun m q hm hq=>by
   show LW C.form (ld (setC C.dat C.N (C.tf n) (C.fr n) p 0) ((C.fr m).getD (q/8+1) 0) (q%8)) _
   refine (ht.lw h hm hq fun _=>rfl).to ?_
   rw[hw]
   split
   ·rw[zbM];rfl
   ·rfl
  pg:=fun m q l2 hl2=>by
   have hl2':(W.setO n p none).own m q=some l2:=hl2
   rw[setO_own] at hl2'
   by_cases e:m=n∧q=p
   ·rw[if_pos e] at hl2';cases hl2'
   ·rw[if_neg e] at hl2'
    have h3:=h.pg m q l2 hl2'
    refine⟨h3.1,?_,?_⟩
    ·show upd C.own (φ n p) ow0 (φ m q)=_
     rw[zh (hne m q l2 hl2' e)];exact h3.2.1
    ·show setC C.dat C.N (C.tf n) (C.fr n) p _ (φ m q)=l2
     rw[ht.oth _ (by rw[h3.2.1];show (3:Int)≠2;decide)];exact h3.2.2
  pgk:=fun f hf h3=>by
   have h3':(upd C.own (φ n p) ow0 f).kind=3:=h3
   by_cases e:f=φ n p
   ·rw[e,zl] at h3';cases h3'
   ·rw[zh e] at h3'
    obtain⟨m,q,h4,h5⟩:=h.pgk f hf h3'
    refine⟨m,q,?_,h5⟩
    show ((W.setO n p none).own m q).isSome=true
    rw[setO_own,if_neg (fun e2=>e (by rw[←h5,e2.1,e2.2]))];exact h4
  hyp:=⟨h.hyp.1,fun f=>by
   show _↔f<C.N∧(upd C.own (φ n p) ow0 f).kind=1
   by_cases e:f=φ n p
   ·rw[e,zl,h.hyp.2 (φ n p),hpg.2.1]
    exact⟨fun h=>(by cases h.2),fun h=>(by cases h.2)⟩
   ·rw[zh e];exact h.hyp.2 f⟩
  cache:=ht.cache (W:=W) (φ:=φ) h
  csize:=Nat.le_trans fR h.csize }
def upφ (φ:Nat→Nat→Nat) (n p f:Nat):Nat→Nat→Nat:=fun m q=>if m=n∧q=p then f else φ m q
theorem Rel.get (h:Rel C W φ) {n p f:Nat} {l:List Int} (hl:l.length=256∧Byt l) (hon:(W.vm n).on=true) (hp:p<32) (hno:W.where_ n p=none) (hq:(W.pages n:Int)<(W.vm n).quota) (hf:firstOff C.used C.N=some f) (w:Bool) (hww:w=true) :
  Rel { C with dat:=setC (upd C.dat f l) C.N (C.tf n) (C.fr n) p (pk (C.tf n) f w),cache:=dropC C.cache n p,own:=donC C.own f n p,used:=upd C.used f true } { W.setO n p (some l) with free:=W.free-1 } (upφ φ n p f):=by
 subst hww
 obtain⟨hfN,hfu,_⟩:=qd hf
 have hN:=h.N
 have hk0:(C.own f).kind=0:=by
  have:=h.used f hfN
  rw[hfu] at this
  have h2:=of_decide_eq_false this.symm
  exact Classical.byContradiction fun h3=>h2 h3
 have h':=h.clear hk0 hl
 have htf:=(h.tab n hon).1
 have ht:=h'.tu hon hp (w:=pk (C.tf n) f true) (zpi (by omega)).1
 have hn1:=zfJ hno
 have hown:donC C.own f n p=upd C.own f ⟨3,n,p,0⟩:=by unfold donC;rw[if_pos hk0]
 rw[hown]
 have hw:∀ m q,({ W.setO n p (some l) with free:=W.free-1 }:Wd).where_ m q=if m=n∧q=p then some (n,p,true) else W.where_ m q:=fun m q=>by
  have e1:({ W.setO n p (some l) with free:=W.free-1 }:Wd).where_ m q=(W.setO n p (some l)).where_ m q:=rfl
  rw[e1]
  unfold Wd.where_
  rw[setO_own]
  by_cases e:m=n∧q=p
  ·rw[if_pos e,if_pos e,e.1,e.2];rfl
  ·rw[if_neg e,if_neg e];rfl
 have hφ:∀ m q l2,W.own m q=some l2→upφ φ n p f m q=φ m q:=fun m q l2 hl2=>by
  unfold upφ
  rw[if_neg]
  rintro⟨rfl,rfl⟩
  rw[hn1.1] at hl2;cases hl2
 have h0:lentN W.ls n p=0:=xe fun i hi=>by
  cases hb:((W.ls i).on && (decide ((W.ls i).fr=n) && decide ((W.ls i).pg=p))) with
  | false=>rfl
  | true=>
   simp only[Bool.and_eq_true,decide_eq_true_eq] at hb
   have:=(h.wk.lsr i hb.1).2.2.2.2.1
   rw[hb.2.1,hb.2.2,hn1.1] at this;cases this
 have hne:∀ m q l2,W.own m q=some l2→φ m q≠f:=fun m q l2 hl2 e=>by
  have:=(h.pg m q l2 hl2).2.1
  rw[e] at this;rw[this] at hk0;cases hk0
 have hwk:WOk { W.setO n p (some l) with free:=W.free-1 }:=by
  refine { h.wk with off:=fun i hi=>⟨(h.wk.off i hi).1,fun q=>?_,(h.wk.off i hi).2.2⟩,pg:=fun m q l2 hl2=>?_,most:=fun m=>?_,lsr:=fun i hi=>?_,lsa:=fun i hi q hq=>?_ }
  ·show (W.setO n p (some l)).own i q=none
   rw[setO_own,if_neg (fun e=>by rw[e.1] at hi;have:(W.vm n).on=false:=hi;rw[hon] at this;cases this)]
   exact (h.wk.off i hi).2.1 q
  ·have hl2':(W.setO n p (some l)).own m q=some l2:=hl2
   rw[setO_own] at hl2'
   split at hl2'
   ·rename_i e
    cases hl2'
    exact⟨by rw[e.1];exact hon,by rw[e.2];exact hp,hl⟩
   ·exact h.wk.pg m q l2 hl2'
  ·show ((count (fun q=>((W.setO n p (some l)).own m q).isSome) 32:Nat):Int)≤(W.vm m).quota
   by_cases e:m=n
   ·subst e
    have e1:(fun q=>((W.setO m p (some l)).own m q).isSome)=upd (fun q=>(W.own m q).isSome) p true:=by
     funext q
     rw[setO_own]
     by_cases e2:q=p
     ·subst e2;rw[if_pos ⟨rfl,rfl⟩,zl];rfl
     ·rw[if_neg (fun h=>e2 h.2),zh e2]
    have:=kZ (g:=fun q=>(W.own m q).isSome) hp true
    rw[←e1] at this
    simp only[hn1.1,Option.isSome_none,Bool.toNat_false,Bool.toNat_true] at this
    have hq':((count (fun q=>(W.own m q).isSome) 32:Nat):Int)<(W.vm m).quota:=hq
    omega
   ·have:count (fun q=>((W.setO n p (some l)).own m q).isSome) 32=count (fun q=>(W.own m q).isSome) 32:=ja fun q _=>by rw[setO_own,if_neg (fun h=>e h.1)]
    rw[this];exact h.wk.most m
  ·have hh:=h.wk.lsr i hi
   refine⟨hh.1,hh.2.1,hh.2.2.1,hh.2.2.2.1,?_,hh.2.2.2.2.2⟩
   show ((W.setO n p (some l)).own (W.ls i).fr (W.ls i).pg).isSome=true
   rw[setO_own];split
   ·rfl
   ·exact hh.2.2.2.2.1
  ·show (W.setO n p (some l)).own (W.ls i).to q=none
   rw[setO_own,if_neg]
   ·exact h.wk.lsa i hi q hq
   ·rintro⟨e1,e2⟩
    have:=zat h.wk hi hq (by omega)
    rw[e1,e2,hn1.2] at this;cases this
 exact { h with
  wk:=hwk
  free:=by
   show W.free-1=(count (fun g=>! upd C.used f true g) C.N:Int)
   have e1:(fun g=>! upd C.used f true g)=upd (fun g=>! C.used g) f false:=by
    funext g;unfold upd;split <;> rfl
   have:=kZ (g:=fun g=>! C.used g) hfN false
   rw[←e1] at this
   simp only[hfu,Bool.not_false,Bool.toNat_false,Bool.toNat_true] at this
   rw[h.free];omega
  used:=fun g hg=>by
   show upd C.used f true g=decide ((upd C.own f ⟨3,n,p,0⟩ g).kind≠0)
   by_cases e:g=f
   ·rw[e,zl,zl];rfl
   ·rw[zh e,zh e];exact h.used g hg
  own0:=fun g hg hk=>by
   have hk':(upd C.own f ⟨3,n,p,0⟩ g).kind=0:=hk
   show upd C.own f ⟨3,n,p,0⟩ g=ow0
   by_cases e:g=f
   ·rw[e,zl] at hk';cases hk'
   ·rw[zh e] at hk' ⊢;exact h.own0 g hg hk'
  kind:=fun g hg=>by
   show 0≤(upd C.own f ⟨3,n,p,0⟩ g).kind∧(upd C.own f ⟨3,n,p,0⟩ g).kind≤3
   by_cases e:g=f
   ·rw[e,zl];exact⟨show (0:Int)≤3 by decide,show (3:Int)≤3 by decide⟩
   ·rw[zh e];exact h.kind g hg
  len:=ht.len
  tabf:=fun m g hm=>by
   have:=h.tabf m g hm
   refine⟨this.1,?_⟩
   show upd C.own f ⟨3,n,p,0⟩ g=_
   rw[zh (fun e=>by rw[e] at this;rw[this.2] at hk0;cases hk0)];exact this.2
  tabk:=fun g hg h2=>by
   have h2':(upd C.own f ⟨3,n,p,0⟩ g).kind=2:=h2
   by_cases e:g=f
   ·rw[e,zl] at h2';cases h2'
   ·rw[zh e] at h2';exact h.tabk g hg h2'
  root:=fun m j hm hj=>ht.root h' hm hj
  leaf:=fun m q hm hq=>by
   show LW C.form (ld (setC (upd C.dat f l) C.N (C.tf n) (C.fr n) p _) ((C.fr m).getD (q/8+1) 0) (q%8)) _
   refine (ht.lw h' hm hq fun e=>by
    have e:unp C.form _=none:=e
    rw[htf,zhc (by omega)] at e;cases e).to ?_
   rw[hw]
   by_cases e:m=n∧q=p
   ·rw[if_pos e,if_pos e,htf,zhc (by omega),Option.map_some]
    unfold upφ
    rw[if_pos ⟨rfl,rfl⟩]
   ·rw[if_neg e,if_neg e]
    cases hwq:W.where_ m q with
    | none=>rfl
    | some x=>
     obtain⟨l2,hl2⟩:=h.wk.where_own hwq
     rw[Option.map_some,Option.map_some,hφ _ _ l2 hl2]
  pg:=fun m q l2 hl2=>by
   have hl2':(W.setO n p (some l)).own m q=some l2:=hl2
   rw[setO_own] at hl2'
   by_cases e:m=n∧q=p
   ·rw[if_pos e] at hl2'
    cases hl2'
    obtain⟨rfl,rfl⟩:=e
    have e1:upφ φ m q f m q=f:=by unfold upφ;rw[if_pos ⟨rfl,rfl⟩]
    rw[e1]
    refine⟨hfN,?_,?_⟩
    ·show upd C.own f ⟨3,m,q,0⟩ f=⟨3,m,q,lentN W.ls m q⟩
     rw[zl,h0];rfl
    ·show setC (upd C.dat f l) C.N (C.tf m) (C.fr m) q _ f=l
     rw[ht.oth f (by show (C.own f).kind≠2;rw[hk0];decide)]
     exact zl
   ·rw[if_neg e] at hl2'
    have h3:=h.pg m q l2 hl2'
    rw[hφ m q l2 hl2']
    refine⟨h3.1,?_,?_⟩
    ·show upd C.own f ⟨3,n,p,0⟩ (φ m q)=_
     rw[zh (hne m q l2 hl2')];exact h3.2.1
    ·show setC (upd C.dat f l) C.N (C.tf n) (C.fr n) p _ (φ m q)=l2
     rw[ht.oth _ (by show (C.own (φ m q)).kind≠2;rw[h3.2.1];show (3:Int)≠2;decide)]
     show upd C.dat f l (φ m q)=l2
     rw[zh (hne m q l2 hl2')];exact h3.2.2
  pgk:=fun g hg h3=>by
   have h3':(upd C.own f ⟨3,n,p,0⟩ g).kind=3:=h3
   by_cases e:g=f
   ·refine⟨n,p,?_,?_⟩
    ·show ((W.setO n p (some l)).own n p).isSome=true
     rw[setO_own,if_pos ⟨rfl,rfl⟩];rfl
    ·unfold upφ;rw[if_pos ⟨rfl,rfl⟩,e]
   ·rw[zh e] at h3'
    obtain⟨m,q,h4,h5⟩:=h.pgk g hg h3'
    obtain⟨l2,hl2⟩:=Option.isSome_iff_exists.1 h4
    refine⟨m,q,?_,by rw[hφ m q l2 hl2];exact h5⟩
    show ((W.setO n p (some l)).own m q).isSome=true
    rw[setO_own];split
    ·rfl
    ·exact h4
  hyp:=⟨h.hyp.1,fun g=>by
   show _↔g<C.N∧(upd C.own f ⟨3,n,p,0⟩ g).kind=1
   by_cases e:g=f
   ·rw[e,zl,h.hyp.2 f,hk0]
    exact⟨fun h=>(by cases h.2),fun h=>(by cases h.2)⟩
   ·rw[zh e];exact h.hyp.2 g⟩
  cache:=fun r hr=>ht.cache (W:=W) (φ:=φ) h' r hr
  csize:=Nat.le_trans fR h.csize }
end
end
end Go.Cr
namespace Go.Proofs.YthaiblbnpcgjpaaGreatDoor
section
open Go Go.Pt Go.Cr Go.Hp
structure Kp (C C':Cst):Prop where
 N:C'.N=C.N
 form:C'.form=C.form
 region:C'.region=C.region
 turns:C'.turns=C.turns
 now:C'.now=C.now
 late:C'.late=C.late
 tf:C'.tf=C.tf
 fr:C'.fr=C.fr
theorem Kp.refl {C:Cst}:Kp C C:=⟨rfl,rfl,rfl,rfl,rfl,rfl,rfl,rfl⟩
theorem Kp.trans {C C' C'':Cst} (h:Kp C C') (k:Kp C' C''):Kp C C'':=⟨k.N.trans h.N,k.form.trans h.form,k.region.trans h.region,k.turns.trans h.turns,k.now.trans h.now,k.late.trans h.late,k.tf.trans h.tf,k.fr.trans h.fr⟩
def After (h:Nat) (A:Ad) (C:Cst) (S:Mem) (ρ:Rho) (W':Wd) (S':Mem):Prop:=
 ∃ ρ' A' C' φ',Mv S ρ S' ρ' Rc∧CrabA S' ρ' h A' C'∧Rel C' W' φ'∧Kp C C'∧A'.t=A.t∧∀ i,(A'.x i).ss=(A.x i).ss
section
variable {S S':Mem} {ρ ρ':Rho} {h:Nat} {A:Ad} {C:Cst} {W:Wd} {φ:Nat→Nat→Nat}
theorem After.here (hc:CrabA S ρ h A C) (hr:Rel C W φ):After h A C S ρ W S:=⟨ρ,A,C,φ,Mv.refl hc.rg,hc,hr,Kp.refl,rfl,fun _=>rfl⟩
theorem After.keeps (hc:CrabA S ρ h A C) (hr:Rel C W φ) (hk:Keeps S S' []):After h A C S ρ W S':=⟨ρ,A,C,φ,hc.mv0 hk,hc.keeps hk,hr,Kp.refl,rfl,fun _=>rfl⟩
theorem zhV (hc:CrabA S ρ h A C) {n:Nat} (hn:n<6) {page:Int} {f:Nat} (hf:f<C.N) {w:Bool} (hl:C.cache.length≤100) {Q:Mem→Prop}
  (hQ:∀ S' ρ' cs,Mv S ρ S' ρ' (fun r=>r<100)→CrabA S' ρ' h { A with cs:=cs } { C with dat:=setC C.dat C.N (C.tf n) (C.fr n) page (Go.Cr.pk (C.tf n) f w),cache:=dropC C.cache n page }→Q S'):wq S (some (h,0)) n page f w Q:=by
 apply zez
 unfold jk
 rw[zL,zS hc.c3,zL]
 refine⟨by omega,by omega,?_⟩
 rw[Int.toNat_natCast,xa (hc.vtab hn (by omega)),zS hc.c0]
 refine mapD hc.st hc.rg (hc.vs n hn).fr.row hf fun e S1 m1 hs1=>?_
 have hc1:=hc.setStore m1 hs1
 refine⟨hc1.c3,?_⟩
 refine zdb hc1.cap hc1.rg hl fun S2 ρ2 m2 h2=>?_
 obtain⟨cs,h3,h4⟩:=h2.ex
 exact hQ S2 ρ2 cs ((m1.mono fun r hr=>by omega).trans (m2.mono fun r hr=>by omega)) (hc1.setCache m2 h3 h4)
theorem zmo (hc:CrabA S ρ h A C) {n:Nat} (hn:n<6) {page:Int} {f:Nat} (hf:f<C.N) {w:Bool} (hl:C.cache.length≤100) {Q:Mem→Prop}
  (hQ:∀ S' ρ' cs,Mv S ρ S' ρ' Rc→CrabA S' ρ' h { A with cs:=cs } { C with dat:=setC C.dat C.N (C.tf n) (C.fr n) page (Go.Cr.pk (C.tf n) f w),cache:=dropC C.cache n page }→Q S'):wq S (some (h,0)) n page f w Q:=
 zhV hc hn hf hl fun S' ρ' cs m hc'=>hQ S' ρ' cs (m.mono fun r hr=>by unfold Rc;omega) hc'
theorem zbr (hc:CrabA S ρ h A C) {n:Nat} (hn:n<6) {page:Int} (hl:C.cache.length≤100) {Q:Mem→Prop}
  (hQ:∀ S' ρ' cs,Mv S ρ S' ρ' Rc→CrabA S' ρ' h { A with cs:=cs } { C with dat:=setC C.dat C.N (C.tf n) (C.fr n) page 0,cache:=dropC C.cache n page }→Q S'):yj S (some (h,0)) n page Q:=by
 apply zcF
 unfold vp
 rw[zL,zS hc.c3,zL]
 refine⟨by omega,by omega,?_⟩
 rw[Int.toNat_natCast,xa (hc.vtab hn (by omega)),zS hc.c0]
 refine unmapD hc.st hc.rg (hc.vs n hn).fr.row fun e S1 m1 hs1=>?_
 have hc1:=hc.setStore m1 hs1
 refine⟨hc1.c3,?_⟩
 refine zdb hc1.cap hc1.rg hl fun S2 ρ2 m2 h2=>?_
 obtain⟨cs,h3,h4⟩:=h2.ex
 exact hQ S2 ρ2 cs ((m1.mono fun r hr=>by unfold Rc;omega).trans (m2.mono fun r hr=>by unfold Rc;omega)) (hc1.setCache m2 h3 h4)
theorem zjA (hc:CrabA S ρ h A C) {n:Nat} (hn:n<6) {p f:Nat} (hp:p<32) (hf:f<C.N) (hl:C.cache.length≤100) {Q:Mem→Prop}
  (hQ:∀ S' ρ' cs,Mv S ρ S' ρ' (fun r=>r<100)→CrabA S' ρ' h { A with cs:=cs } { C with dat:=setC (upd C.dat f noughts) C.N (C.tf n) (C.fr n) p (Go.Cr.pk (C.tf n) f true),cache:=dropC C.cache n p,own:=donC C.own f n p }→Q S'):crab_Crab_own S (some (h,0)) n p f Q:=by
 apply t_crab_Crab_own
 unfold b_crab_Crab_own
 rw[zL,zS hc.c0]
 refine clearD hc.st hc.rg hf fun S1 m1 hs1=>?_
 have hc1:=hc.setStore m1 hs1
 rw[zS hc1.c3,zL,zS hc1.t74]
 refine ziU hc1.ow hc1.rg hf hn hp fun e S2 m2 hs2=>?_
 have hc2:=hc1.setOwn m2 hs2
 refine zhV hc2 hn hf hl fun S3 ρ3 cs m3 hc3=>?_
 exact hQ S3 ρ3 cs ((m1.mono fun r hr=>by omega).trans ((m2.mono fun r hr=>by omega).trans m3)) hc3
theorem znd (hc:CrabA S ρ h A C) {n:Nat} (hn:n<6) {p f:Nat} (hp:p<32) (hf:f<C.N) (hl:C.cache.length≤100) {Q:Mem→Prop}
  (hQ:∀ S' ρ' cs,Mv S ρ S' ρ' Rc→CrabA S' ρ' h { A with cs:=cs } { C with dat:=setC (upd C.dat f noughts) C.N (C.tf n) (C.fr n) p (Go.Cr.pk (C.tf n) f true),cache:=dropC C.cache n p,own:=donC C.own f n p }→Q S'):crab_Crab_own S (some (h,0)) n p f Q:=
 zjA hc hn hp hf hl fun S' ρ' cs m hc'=>hQ S' ρ' cs (m.mono fun r hr=>by unfold Rc;omega) hc'
theorem zhB (hc:CrabA S ρ h A C) (hr:Rel C W φ) {n:Nat} (hn:n<6) (hon:(W.vm n).on=true) {page:Int} {Q:Int→Int→Mem→Prop}
  (hY:∀ l S',0≤page→page≤31→W.own n page.toNat=some l→Keeps S S' []→Q (φ n page.toNat) 0 S') (hN:∀ S',W.mine n page≠0→Keeps S S' []→Q 0 (W.mine n page) S'):vA S (some (h,0)) n page Q:=by
 apply zdR
 unfold vX
 rw[zL,zS hc.c3,zL]
 refine⟨by omega,by omega,?_⟩
 rw[Int.toNat_natCast,xa (hc.vtab hn (by omega)),zS hc.c0]
 refine walkD hc.st (hc.vs n hn).fr.row (fun f b S1 hw hk=>?_) fun e S1 hw he hk=>?_
 ·have hc1:=hc.keeps hk
  refine⟨hc1.c3,rfl,?_⟩
  obtain⟨m,q,l,h0,h1,h2,h3,h4⟩:=hr.walk_some hon hw
  rw[if_neg (by decide),zS hc1.c3,zL,xa hc1.tls]
  have e32:((page.toNat:Nat):Int)=page:=by omega
  refine zeh (ls:=C.ls) (fun i hi hon' hto hat h0'=>?_) fun hno=>?_
  ·rw[if_pos (by omega)]
   rw[hr.ls] at hon' hto hat
   have e2:=hr.wk.lsa i hon' page.toNat (by rw[hat,e32])
   rw[show (W.ls i).to=n by omega] at e2
   have e:W.mine n page=7:=by
    unfold Wd.mine
    rw[if_neg (by rw[h2];simp;omega),e2,if_neg (by simp)]
   have:=hN S1 (by rw[e];decide) hk
   rw[e] at this;exact this
  ·rw[if_neg (by decide),zx (show nthL (enL f b) 1=some (.int .i64 f) from rfl)]
   have hown:∃ l,W.own n page.toNat=some l:=by
    cases ho:W.own n page.toNat with
    | some l=>exact⟨l,rfl⟩
    | none=>
     unfold Wd.where_ at h2
     rw[ho,if_neg (by simp)] at h2
     cases hf:leaseAt W.ls n page.toNat with
     | none=>rw[hf] at h2;cases h2
     | some i=>
      obtain⟨a1,a2,a3,a4⟩:=qR hf
      exact absurd ⟨by rw[hr.ls];exact a2,by rw[hr.ls,a3],by rw[hr.ls,a4,e32],h0⟩ (hno i a1)
   obtain⟨l',hl'⟩:=hown
   rw[where_own hl'] at h2
   cases h2
   rw[h4]
   exact hY l' S1 h0 h1 hl' hk
 ·have hc1:=hc.keeps hk
  refine⟨hc1.c3,rfl,?_⟩
  rw[if_pos he]
  have e:W.mine n page=11:=by
   unfold Wd.mine
   rw[if_pos (hr.walk_none hon hw)]
  have:=hN S1 (by rw[e];decide) hk
  rw[e] at this;exact this
theorem znb (hr:Rel C W φ) {n:Nat}:count (fun f=>decide ((C.own f).kind=3) && (decide ((3:Int)<2) || decide ((C.own f).vm=n))) C.N=W.pages n:=by
 unfold Wd.pages count
 have hp:((List.range C.N).filter fun f=>decide ((C.own f).kind=3) && (decide ((3:Int)<2) || decide ((C.own f).vm=n))).Perm (((List.range 32).filter fun p=>(W.own n p).isSome).map (φ n)):=by
  refine (List.perm_ext_iff_of_nodup (List.Pairwise.filter _ List.nodup_range) ?_).2 fun f=>?_
  ·unfold List.Nodup
   rw[List.pairwise_map]
   have hnd:=List.Pairwise.filter (fun p=>(W.own n p).isSome) (List.nodup_range (n:=32))
   rw[List.pairwise_iff_forall_sublist] at hnd ⊢
   intro a b hs he
   have ha:a∈(List.range 32).filter fun p=>(W.own n p).isSome:=hs.subset (by simp)
   have hb:b∈(List.range 32).filter fun p=>(W.own n p).isSome:=hs.subset (by simp)
   obtain⟨la,hla⟩:=Option.isSome_iff_exists.1 (List.mem_filter.1 ha).2
   obtain⟨lb,hlb⟩:=Option.isSome_iff_exists.1 (List.mem_filter.1 hb).2
   exact hnd hs (hr.inj hla hlb he).2
  ·rw[List.mem_filter,List.mem_map,List.mem_range]
   constructor
   ·rintro⟨hf,hk⟩
    simp only[Bool.and_eq_true,decide_eq_true_eq,Bool.or_eq_true] at hk
    have hv:(C.own f).vm=n:=by
     rcases hk.2 with h | h
     ·exact absurd h (by decide)
     ·exact h
    obtain⟨m,q,h1,h2⟩:=hr.pgk f hf hk.1
    obtain⟨l,hl⟩:=Option.isSome_iff_exists.1 h1
    have h3:=(hr.pg m q l hl).2.1
    rw[h2] at h3
    rw[h3] at hv
    have:m=n:=by simp only at hv;omega
    subst this
    exact⟨q,List.mem_filter.2 ⟨List.mem_range.2 (hr.wk.pg m q l hl).2.1,h1⟩,h2⟩
   ·rintro⟨p,hp,rfl⟩
    obtain⟨l,hl⟩:=Option.isSome_iff_exists.1 (List.mem_filter.1 hp).2
    have h3:=hr.pg n p l hl
    refine⟨h3.1,?_⟩
    rw[h3.2.1];simp
 rw[hp.length_eq,List.length_map]
theorem zja (hc:CrabA S ρ h A C) (hr:Rel C W φ) {n:Nat} (hn:n<6) (hon:(W.vm n).on=true) {Q:Int→Mem→Prop} (hQ:Q (W.pages n) S):kY S (some (h,0)) n Q:=by
 apply zcI
 unfold vt
 simp only[jn]
 rw[if_neg (by simp),zL,zS hc.c3]
 refine qJ hc ?_
 rw[decide_eq_true ⟨by omega,by omega,by rw[Int.toNat_natCast,hr.vm];exact hon⟩,if_pos rfl,zL,zS hc.c3,zL,zS hc.t74]
 refine gk hc.ow hr.N ?_
 rw[znb hr]
 exact hQ
theorem or32 {a:Int} (ha:0≤a∧a≤255) {i:Nat} (hi:i<8):0≤ior .u32 a (2 ^ i)∧ior .u32 a (2 ^ i)≤255:=by
 obtain⟨m,rfl⟩:∃ m:Nat,a=m:=⟨a.toNat,by omega⟩
 have key:∀ m:Fin 256,∀ i:Fin 8,0≤ior .u32 ((m.1:Nat):Int) (2 ^ i.1)∧ior .u32 ((m.1:Nat):Int) (2 ^ i.1)≤255:=by decide +kernel
 exact key ⟨m,by omega⟩ ⟨i,hi⟩
theorem shl32 {i:Nat} (hi:i<8):ishl .u32 1 (i:Int)=2 ^ i:=by
 have key:∀ i:Fin 8,ishl .u32 1 ((i.1:Nat):Int)=2 ^ i.1:=by decide +kernel
 exact key ⟨i,hi⟩
theorem Seat.raise_ok' {s:Seat} (h:s.Ok) {i:Nat} (hi:i<8):(s.raise i).Ok:=by
 unfold Seat.raise
 split
 ·exact h
 ·exact Seat.wake_ok { h with pend:=or32 h.pend hi }
theorem zmW {b o:Nat} {s:Seat} (hA:At S b o s.L) (hs:s.Ok) {i:Nat} (hi:i<8) {Q:Int→Mem→Prop} (hQ:Q (if s.st=2 then 10 else 0) (S.put b o (s.raise i).L)):kG S (some (b,o)) i Q:=by
 have hl:=hs.len
 have hp:=Pl.of hA hl
 apply zhh
 unfold zad
 simp only[jn]
 rw[if_neg (by simp)]
 apply zdu
 unfold jH
 rw[if_pos (by omega),decide_eq_true (by omega)]
 show if true=true then _ else _
 rw[if_pos rfl,zL,zx ((hA.cell (i:=23) (by rw[Seat.L_len hl];decide)).trans (Seat.g23 hl))]
 unfold Seat.raise at hQ
 by_cases h2:s.st=2
 ·rw[if_pos h2,if_pos h2,hA.self] at hQ
  rw[if_pos h2];exact hQ
 ·rw[if_neg h2,if_neg h2] at hQ
  rw[if_neg h2,zL,zx ((hA.cell (i:=24) (by rw[Seat.L_len hl];decide)).trans (Seat.g24 hl))]
  refine⟨by omega,?_⟩
  rw[shl32 hi]
  have e:=Seat.s24 hl (ior .u32 s.pend (2 ^ i))
  refine hA.pt1 (s':={ s with pend:=ior .u32 s.pend (2 ^ i) }) hl (by decide) e ?_
  exact zhb (s:={ s with pend:=ior .u32 s.pend (2 ^ i) }) hp hl hQ
theorem znr {k:Kn} {x:Nat→Vx} {ob kb n:Nat} {v:Bv} (h1:v.on=(k.vm n).on) (h2:v.quota=(k.vm n).quota) (h3:v.bells=(k.vm n).bells):knL { k with vm:=upd k.vm n v } x ob kb=knL k x ob kb:=by
 unfold knL
 congr 2
 refine jF fun i _=>?_
 by_cases e:i=n
 ·subst e
  simp only[zl]
  unfold vmC
  rw[h1,h2,h3]
 ·simp only[zh e]
theorem gE (hc:CrabA S ρ h A C) {n k c:Nat} (hn:n<6) (hk:k<(C.vm n).seats.length) (hs:(A.x n).ss.p=some (c,0)) {s:Seat} (ho:s.Ok) :
  Mv S ρ (S.put c (k*26) s.L) ρ (· = 30+n)∧CrabA (S.put c (k*26) s.L) ρ h A { C with vm:=upd C.vm n ((C.vm n).setSeat k s) }:=by
 have hv:=hc.vs n hn
 have hk26:k*26+26≤(C.vm n).seats.length*26:=by
  have:=Nat.mul_le_mul_right 26 (show k+1≤(C.vm n).seats.length by omega)
  omega
 obtain⟨m,h1⟩:=hv.se.put hc.rg hs (vs:=s.L) (i:=k*26) (by rw[zfO hv.r,Seat.L_len ho.len];exact hk26)
 refine⟨m,?_⟩
 rw[zqg hv.r hk ho] at h1
 have:=hc.setVm (k:={ C.toKn with vm:=upd C.vm n ((C.vm n).setSeat k s) }) (x:=A.x) m (fun r hr=>by omega) (by
  have e:=znr (k:=C.toKn) (x:=A.x) (ob:=A.ob) (kb:=A.kb) (n:=n) (v:=(C.vm n).setSeat k s) rfl rfl rfl
  have:=hc.tt.keep m (by omega)
  rw[←e] at this;exact this) fun i hi=>?_
 ·exact this
 ·by_cases e:i=n
  ·subst e
   refine⟨?_,?_,hv.fr.keep m (by omega),?_,fun j hj=>?_⟩
   ·show Rw _ ρ (30+i) 26 (A.x i).ss ((upd C.vm i _ i).seats.flatMap Seat.L)
    rw[zl];exact h1
   ·intro s' hs'
    have hs2:s'∈(upd C.vm i ((C.vm i).setSeat k s) i).seats:=hs'
    rw[zl] at hs2
    rcases List.mem_or_eq_of_mem_set hs2 with e | e
    ·exact hv.r s' e
    ·rw[e];exact ho
   ·show Rw _ ρ (50+i) 1 (A.x i).ks (bL (upd C.vm i _ i).keys)
    rw[zl];exact hv.ke.keep m (by omega)
   ·show Rw _ ρ (60+4*i+j) 1 ((A.x i).d j) (bL ((upd C.vm i _ i).disk j))
    rw[zl];exact (hv.di j hj).keep m (by omega)
  ·have hv2:=hc.vs i hi
   refine⟨?_,?_,hv2.fr.keep m (by omega),?_,fun j hj=>?_⟩
   ·show Rw _ ρ (30+i) 26 (A.x i).ss ((upd C.vm n _ i).seats.flatMap Seat.L)
    rw[zh e];exact hv2.se.keep m (by omega)
   ·show ∀ s'∈(upd C.vm n _ i).seats,s'.Ok
    rw[zh e];exact hv2.r
   ·show Rw _ ρ (50+i) 1 (A.x i).ks (bL (upd C.vm n _ i).keys)
    rw[zh e];exact hv2.ke.keep m (by omega)
   ·show Rw _ ρ (60+4*i+j) 1 ((A.x i).d j) (bL ((upd C.vm n _ i).disk j))
    rw[zh e];exact (hv2.di j hj).keep m (by omega)
theorem zeK (hc:CrabA S ρ h A C) {n k c:Nat} (hn:n<6) (hk:k<(C.vm n).seats.length) (hs:(A.x n).ss.p=some (c,0)):At S c (k*26) ((C.vm n).seat k).L∧((C.vm n).seat k).Ok∧ρ c=some (30+n):=by
 have hv:=hc.vs n hn
 have e:(C.vm n).seat k=(C.vm n).seats[k]:=zmQ hk
 rw[e]
 exact⟨hv.se.sub hs (zoy hv.r hk),hv.r _ (List.getElem_mem hk),hv.se.rol c 0 hs⟩
theorem Rel.putSeat (hr:Rel C W φ) {n k:Nat} (hon:(W.vm n).on=true) (hk:k<(W.vm n).seats.length) {s:Seat} (ho:s.Ok):Rel { C with vm:=upd C.vm n ((C.vm n).setSeat k s) } (W.putSeat n k s) φ:=by
 rw[hr.vm]
 have h1:=hr.setV (v:=(W.vm n).setSeat k s) hon hon (hr.wk.setV hon hon (by show ((W.vm n).seats.set k s).length=_;rw[List.length_set]) (fun s' hs'=>by
  rcases List.mem_or_eq_of_mem_set hs' with e | e
  ·exact hr.wk.ok n s' e
  ·rw[e];exact ho) (hr.wk.keys n) (fun j=>hr.wk.disk n j hon) rfl rfl)
 rw[hr.vm] at h1
 exact h1
theorem zbs (hc:CrabA S ρ h A C) (hr:Rel C W φ) {n k c i:Nat} (hn:n<6) (hon:(W.vm n).on=true) (hk:k<(W.vm n).seats.length) (hs:(A.x n).ss.p=some (c,0)) (hi:i<8) {Q:Int→Mem→Prop}
  (hQ:∀ S',After h A C S ρ (W.raise n k i).2 S'→Q (W.raise n k i).1 S'):kG S (some (c,0+k*26)) i Q:=by
 have hk':k<(C.vm n).seats.length:=by rw[hr.vm];exact hk
 obtain⟨hA,hok,hrol⟩:=zeK hc hn hk' hs
 have hok':=Seat.raise_ok' hok hi
 obtain⟨m,h1⟩:=gE hc hn hk' hs hok'
 rw[Nat.zero_add]
 refine zmW hA hok hi ?_
 have e:(C.vm n).seat k=(W.vm n).seat k:=by rw[hr.vm]
 have hr1:=Rel.putSeat hr hon hk (s:=((W.vm n).seat k).raise i) (by rw[←e];exact hok')
 unfold Wd.raise at hQ
 rw[e] at h1 ⊢
 by_cases h2:((W.vm n).seat k).st=2
 ·rw[if_pos h2] at hQ
  rw[if_pos h2]
  have e2:((W.vm n).seat k).raise i=(W.vm n).seat k:=by unfold Seat.raise;rw[if_pos h2]
  have e3:S.put c (k*26) (((W.vm n).seat k).raise i).L=S:=by rw[e2,←e];exact hA.self
  rw[e3]
  exact hQ S (After.here hc hr)
 ·rw[if_neg h2] at hQ
  rw[if_neg h2]
  rw[e] at m
  exact hQ _ ⟨ρ,A,_,φ,m.mono fun r hr=>by unfold Rc;omega,h1,hr1,⟨rfl,rfl,rfl,rfl,rfl,rfl,rfl,rfl⟩,rfl,fun _=>rfl⟩
end
end
section
open Go Go.Pt Go.Cr Go.Hp
section
variable {S S':Mem} {ρ ρ':Rho} {h:Nat} {A:Ad} {C:Cst} {W:Wd} {φ:Nat→Nat→Nat}
theorem kp1 {C:Cst} {f:Nat→List Int} {l:List Cw} {o:Nat→Ow} {g:Nat→Ls} {u:Nat→Bool} {i:Int} {a:Nat→Nat→Option Int} {e:Nat→List Evt} {v:Nat→Bv}:Kp C { C with dat:=f,cache:=l,own:=o,ls:=g,used:=u,left:=i,alm:=a,ev:=e,vm:=v }:=⟨rfl,rfl,rfl,rfl,rfl,rfl,rfl,rfl⟩
theorem zfn (hc:CrabA S ρ h A C) {ls:Nat→Ls} {K:Mem→Prop} (hK:∀ S',Mv S ρ S' ρ (· = 7)→CrabA S' ρ h A { C with ls:=ls }→K S'):pt S A.t (0+75) 96 (lsC ls) K:=by
 refine hc.tt.pt hc.rg 75 lsC_len.symm (by rw[vb,lsC_len];decide) rfl fun S1 m1 h1=>?_
 have e:spl (knL C.toKn A.x A.ob A.kb) 75 (lsC ls)=knL { C.toKn with ls:=ls } A.x A.ob A.kb:=zlY
 rw[e] at h1
 exact hK S1 m1 (hc.setKn (k:={ C.toKn with ls:=ls }) (x:=A.x) m1 h1 fun i hi=>(hc.vs i hi).keep m1 hi fun r h1 h2=>by omega)
theorem qD (hr:Rel C W φ) {n:Int}:thereV C.vm n↔W.there n:=by rw[hr.vm];exact Iff.rfl
theorem zkK (hc:CrabA S ρ h A C) (hr:Rel C W φ) {n:Nat} (hn:n<6) (hon:(W.vm n).on=true) {a b:Int} {Q:Int→Mem→Prop} (hQ:∀ S',After h A C S ρ (W.ring n a b).2 S'→Q (W.ring n a b).1 S'):jQ S (some (h,0)) n a b Q:=by
 unfold Wd.ring at hQ
 apply zdQ
 unfold vW
 simp only[jn]
 rw[zL,zS hc.c3]
 refine zfd hc ?_
 have hn':thereV C.vm (n:Int):=⟨by omega,by omega,by rw[Int.toNat_natCast,hr.vm];exact hon⟩
 rw[decide_eq_true hn',Bool.true_and,Int.toNat_natCast]
 by_cases ht:W.there a
 ·rw[decide_eq_true ((qD hr).2 ht),Bool.true_and,hr.vm]
  cases hb:(W.vm n).bells a.toNat with
  | false=>
   rw[if_pos (.inr hb)] at hQ
   rw[if_neg (by decide)]
   exact hQ S (After.here hc hr)
  | true=>
   rw[if_neg (fun h=>h.elim (fun h=>h ht) (fun h=>by rw[hb] at h;cases h))] at hQ
   rw[if_pos rfl]
   apply zdu
   unfold jH
   by_cases hb0:0≤b
   ·rw[if_pos hb0]
    by_cases hb8:b<8
    ·rw[if_neg (by omega)] at hQ
     rw[decide_eq_true hb8]
     show if true=true then _ else _
     rw[if_pos rfl,zL,zS hc.c3]
     have hlen:=hr.wk.seats a.toNat ht.2.2
     refine wW hc (fun _ _ _ c hs=>?_) fun hbad=>?_
     ·have ha6:a.toNat<6:=by have:=ht.1;have:=ht.2.1;omega
      have e:b=((b.toNat:Nat):Int):=by omega
      have:=zbs hc hr ha6 ht.2.2 (k:=0) (by omega) hs (i:=b.toNat) (by omega) hQ
      rw[←e] at this
      exact this
     ·exact absurd ⟨(qD hr).2 ht,by decide,by rw[hr.vm];omega⟩ hbad
    ·rw[if_pos (by omega)] at hQ
     rw[decide_eq_false hb8]
     show if false=true then _ else _
     rw[if_neg (by decide)]
     exact hQ S (After.here hc hr)
   ·rw[if_pos (by omega)] at hQ
    rw[if_neg hb0]
    show if false=true then _ else _
    rw[if_neg (by decide)]
    exact hQ S (After.here hc hr)
 ·rw[if_pos (.inl ht)] at hQ
  rw[decide_eq_false (fun h=>ht ((qD hr).1 h)),Bool.false_and,if_neg (by decide)]
  exact hQ S (After.here hc hr)
theorem zlO {n:Nat} {p:Int} {l:List Int} (h0:0≤p) (h1:p≤31) (h:W.own n p.toNat=some l):W.mine n p=0:=by
 unfold Wd.mine
 rw[if_neg (by rw[where_own h];simp;omega),h];rfl
theorem zox (hr:Rel C W φ) {n p:Nat} {l:List Int} (h:W.own n p=some l):0≤(C.own (φ n p)).sh∧(C.own (φ n p)).sh≤1000000:=by
 have:=(hr.pg n p l h).2.1
 have h2:lentN W.ls n p≤16:=kD _ _
 rw[this]
 simp only
 omega
theorem zjb (hc:CrabA S ρ h A C) (hr:Rel C W φ) {n:Nat} (hn:n<6) (hon:(W.vm n).on=true) {p to:Int} {w:Bool} {Q:Int→Int→Mem→Prop} (hQ:∀ S',After h A C S ρ (W.offer n p to w).2.2 S'→Q (W.offer n p to w).1 (W.offer n p to w).2.1 S'):kW S (some (h,0)) n p to w Q:=by
 unfold Wd.offer at hQ
 apply zcG
 unfold vq
 refine zhB hc hr hn hon (fun l S1 h0 h1 ho hk=>?_) fun S1 hm hk=>?_
 ·have hc1:=hc.keeps hk
  rw[if_neg (fun h=>h (zlO h0 h1 ho))] at hQ
  simp only[jn]
  rw[if_neg (by decide),zL,zS hc1.c3]
  refine qJ hc1 ?_
  by_cases ht:W.there to
  ·rw[if_neg (fun h=>h ht)] at hQ
   rw[decide_eq_true ((qD hr).2 ht),if_pos rfl,zL,zS hc1.c3,zL,xa hc1.tls]
   have et:to=((to.toNat:Nat):Int):=by have:=ht.1;omega
   have ep:p=((p.toNat:Nat):Int):=by omega
   rw[et,ep] at hQ ⊢
   simp only[Int.toNat_natCast] at hQ
   have h6:to.toNat<6:=by have:=ht.1;have:=ht.2.1;omega
   refine ziL (ls:=C.ls) (w:=w) hn h6 (by omega) (fun he=>?_) (fun he hf=>?_) fun i he hf=>?_
   ·rw[if_pos (by omega)] at hQ
    refine⟨qe,?_⟩
    rw[if_pos (by decide)]
    exact hQ S1 (After.keeps hc hr hk)
   ·rw[if_neg (by omega)] at hQ
    rw[hr.ls] at hf
    rw[hf] at hQ
    refine⟨qe,?_⟩
    rw[if_pos (by decide)]
    exact hQ S1 (After.keeps hc hr hk)
   ·rw[if_neg (by omega)] at hQ
    rw[hr.ls] at hf
    rw[hf] at hQ
    refine⟨qe,?_⟩
    rw[if_neg (by decide),zS hc1.c3,zL]
    refine⟨qe,?_⟩
    refine zfn hc1 fun S2 m2 hc2=>?_
    rw[zS hc2.c3,zL,zS hc2.t74]
    have hpg:=hr.pg n p.toNat l ho
    refine zkf hc2.ow hc2.rg hpg.1 (zox hr ho) fun e S3 m3 hs3=>?_
    have hc3:=hc2.setOwn m3 hs3
    have hi:=(qd hf).1
    rw[wu64 (by omega) (by omega)]
    refine hQ S3 ⟨ρ,A,_,φ,(hc.mv0 hk).trans ((m2.mono fun r hr=>by unfold Rc;omega).trans (m3.mono fun r hr=>by unfold Rc;omega)),hc3,?_,kp1,rfl,fun _=>rfl⟩
    exact hr.offer hon ht.2.2 (by omega) ho hf
  ·rw[if_pos ht] at hQ
   rw[decide_eq_false (fun h=>ht ((qD hr).1 h)),if_neg (by decide)]
   exact hQ S1 (After.keeps hc hr hk)
 ·rw[if_pos hm] at hQ
  simp only[jn]
  rw[if_pos hm]
  exact hQ S1 (After.keeps hc hr hk)
theorem lease5 {n:Nat} {i p:Int}:W.lease n 5 i p=if i<0∨15<i∨(W.ls i.toNat).on=false then (2,W) else if (W.ls i.toNat).to≠n then (7,W) else if 0≤(W.ls i.toNat).at_ then (8,W) else if p<0∨31<p then (1,W) else if W.where_ n p.toNat≠none then (8,W) else (0,W.setL i.toNat ((W.ls i.toNat).setA p)):=by
 unfold Wd.lease
 simp only[show ((5:Int)<7)=True from by simp,show ((5:Int)=7)=False from by simp,show ((5:Int)=6)=False from by simp,true_and,false_and,or_false,if_false]
theorem lease6 {n:Nat} {i p:Int}:W.lease n 6 i p=if i<0∨15<i∨(W.ls i.toNat).on=false then (2,W) else if (W.ls i.toNat).to≠n then (7,W) else if (W.ls i.toNat).at_<0 then (10,W) else (0,W.setL i.toNat ((W.ls i.toNat).setA (-1))):=by
 unfold Wd.lease
 simp only[show ((6:Int)<7)=True from by simp,show ((6:Int)=7)=False from by simp,true_and,false_and,or_false,if_true]
theorem lease7 {n:Nat} {i p:Int}:W.lease n 7 i p=if i<0∨15<i∨(W.ls i.toNat).on=false then (2,W) else if (W.ls i.toNat).fr≠n then (7,W) else if 0≤(W.ls i.toNat).at_ then (8,W) else (0,W.setL i.toNat ls0):=by
 unfold Wd.lease
 simp only[show ((7:Int)<7)=False from by simp,show ((7:Int)=6)=False from by simp,true_and,false_and,false_or,if_true,if_false]
theorem zhX (hc:CrabA S ρ h A C) (hr:Rel C W φ) {n:Nat} (hn:n<6) (hon:(W.vm n).on=true) {i p:Int} {Q:Int→Mem→Prop} (hQ:∀ S',After h A C S ρ (W.lease n 5 i p).2 S'→Q (W.lease n 5 i p).1 S'):vJ S (some (h,0)) n i p Q:=by
 rw[lease5] at hQ
 apply zbY
 unfold wE
 rw[zL,zS hc.c3,zL,xa hc.tls]
 have els:=hr.ls
 refine zhG (ls:=C.ls) ⟨by omega,by omega⟩ (fun hb=>?_) (fun a b ho ht=>?_) (fun a b ho ht hat=>?_) (fun a b ho ht hat hp=>?_) fun a b ho ht hat h0 h1=>?_
 ·rw[els] at hb
  rw[if_pos hb] at hQ
  refine⟨qe,?_⟩
  simp only[jn]
  rw[if_pos (by decide)]
  exact hQ S (After.here hc hr)
 ·rw[els] at ho ht
  rw[if_neg (by rw[ho];simp;omega),if_pos (by omega)] at hQ
  refine⟨qe,?_⟩
  simp only[jn]
  rw[if_pos (by decide)]
  exact hQ S (After.here hc hr)
 ·rw[els] at ho ht hat
  rw[if_neg (by rw[ho];simp;omega),if_neg (by omega),if_pos hat] at hQ
  refine⟨qe,?_⟩
  simp only[jn]
  rw[if_pos (by decide)]
  exact hQ S (After.here hc hr)
 ·rw[els] at ho ht hat
  rw[if_neg (by rw[ho];simp;omega),if_neg (by omega),if_neg (by omega),if_pos hp] at hQ
  refine⟨qe,?_⟩
  simp only[jn]
  rw[if_pos (by decide)]
  exact hQ S (After.here hc hr)
 ·rw[els] at ho ht hat
  rw[if_neg (by rw[ho];simp;omega),if_neg (by omega),if_neg (by omega),if_neg (by omega)] at hQ
  have hto:(W.ls i.toNat).to=n:=by omega
  have hl:=hr.wk.lsr i.toNat ho
  refine⟨qe,?_⟩
  simp only[jn]
  rw[if_neg (by decide),zS hc.c3,zL]
  refine⟨by omega,by omega,?_⟩
  rw[Int.toNat_natCast,xa (hc.vtab hn (by omega)),zS hc.c0]
  refine walkD hc.st (hc.vs n hn).fr.row (fun f b1 S1 hw hk=>?_) fun e S1 hw he hk=>?_
  ·have hc1:=hc.keeps hk
   refine⟨hc1.c3,rfl,?_⟩
   rw[if_pos rfl]
   obtain⟨m,q,l,_,_,h2,_⟩:=hr.walk_some hon hw
   rw[if_pos (by rw[h2];simp)] at hQ
   exact hQ S1 (After.keeps hc hr hk)
  ·have hc1:=hc.keeps hk
   have hno:W.where_ n p.toNat=none:=by
    rcases hr.walk_none hon hw with h | h | h
    ·omega
    ·omega
    ·exact h
   rw[if_neg (fun h=>h hno)] at hQ
   refine⟨hc1.c3,rfl,?_⟩
   rw[if_neg he,zS hc1.c3]
   refine⟨a,by omega,?_⟩
   have hfr6:(W.ls i.toNat).fr<6:=by
    have:=hr.wk.six (W.ls i.toNat).fr
    apply Classical.byContradiction
    intro hge
    have:=this (by omega)
    rw[hl.2.1] at this;cases this
   have efr:(upd C.ls i.toNat ((C.ls i.toNat).setA p) i.toNat)=(W.ls i.toNat).setA p:=by rw[zl,els]
   rw[zx ((zgJ (i:=i.toNat) (j:=1) (by omega) (by decide) (by omega)).trans (by rw[efr];rfl))]
   show nn (some (A.t,0)) _
   rw[zL]
   have c1:((W.ls i.toNat).setA p).fr=(W.ls i.toNat).fr:=rfl
   rw[c1]
   refine⟨by omega,by omega,?_⟩
   rw[Int.toNat_natCast,xa (hc1.vtab hfr6 (by omega)),zS hc1.c0]
   refine⟨a,by omega,?_⟩
   rw[zx ((zgJ (i:=i.toNat) (j:=2) (by omega) (by decide) (by omega)).trans (by rw[efr];rfl))]
   have c2:((W.ls i.toNat).setA p).pg=(W.ls i.toNat).pg:=rfl
   rw[c2]
   obtain⟨l,hl2⟩:=Option.isSome_iff_exists.1 hl.2.2.2.2.1
   have hpg:=hr.pg _ _ l hl2
   have hwk:=hr.walk hl.2.1 (hr.wk.pg _ _ l hl2).2.1
   rw[where_own hl2] at hwk
   refine walkD hc1.st (hc1.vs _ hfr6).fr.row (fun f b1 S2 hw2 hk2=>?_) fun e S2 hw2 he2 hk2=>?_
   ·have hw3:C.walk (W.ls i.toNat).fr ((W.ls i.toNat).pg:Int)=some (f,b1):=hw2
    rw[hwk] at hw3
    simp only[Option.map_some,Option.some.injEq,Prod.mk.injEq] at hw3
    have hc2:=hc1.keeps hk2
    refine⟨hc2.c3,rfl,?_⟩
    rw[zS hc2.c3,zL]
    refine⟨qe,?_⟩
    refine zfn hc2 fun S3 m3 hc3=>?_
    rw[zx (show nthL (enL f b1) 1=some (.int .i64 f) from rfl)]
    refine⟨a,by omega,?_⟩
    rw[fo ((zgJ (i:=i.toNat) (j:=4) (by omega) (by decide) (by omega)).trans (by rw[efr];rfl))]
    have c3:((W.ls i.toNat).setA p).wr=(W.ls i.toNat).wr:=rfl
    rw[c3]
    have hcs:=hr.csize
    have ep:p=((p.toNat:Nat):Int):=by omega
    refine zmo hc3 hn (by rw[←hw3.1];exact hpg.1) (by show C.cache.length≤100;omega) fun S4 ρ4 cs m4 hc4=>?_
    refine hQ S4 ⟨ρ4,{ A with cs:=cs },_,φ,(hc.mv0 (hk.trans hk2)).trans ((m3.mono fun r hr=>by unfold Rc;omega).trans m4),hc4,?_,kp1,rfl,fun _=>rfl⟩
    have:=hr.accept (p:=p.toNat) (by omega) ho hto (by omega) hno
    rw[←ep] at this
    rw[←hw3.1]
    exact this
   ·have hw3:C.walk (W.ls i.toNat).fr ((W.ls i.toNat).pg:Int)=none:=hw2
    rw[hwk] at hw3
    cases hw3
end
end
section
open Go Go.Pt Go.Cr Go.Hp
section
variable {S S':Mem} {ρ ρ':Rho} {h:Nat} {A:Ad} {C:Cst} {W:Wd} {φ:Nat→Nat→Nat}
theorem zjc (hc:CrabA S ρ h A C) (hr:Rel C W φ) {n:Nat} (hn:n<6) {i p:Int} {Q:Int→Mem→Prop} (hQ:∀ S',After h A C S ρ (W.lease n 6 i p).2 S'→Q (W.lease n 6 i p).1 S'):kX S (some (h,0)) n i Q:=by
 rw[lease6] at hQ
 have els:=hr.ls
 apply zcH
 unfold vr
 rw[zL,zS hc.c3,zL,xa hc.tls]
 have key:∀ l:Ls,(0≤i→i≤15→(W.ls i.toNat).on=true→l=W.ls i.toNat)→(lsL l).all (·.oneCell')=true∧gP (S.cell h (0+3)) fun t_4=>nn t_4 fun b_3 o_2=>gA (S.part b_3 (o_2+75) 96) fun t_5=>xE S t_5 i n fun t_6 t_7 Sx_1=>
   t_6.all (·.oneCell')=true∧jn (fun (Sx_2:Mem)=>gP (Sx_2.cell h (0+3)) fun t_8=>nn t_8 fun b_5 o_3=>t_6.all (·.oneCell')=true∧pt Sx_2 b_5 (o_3+75) 96 t_6 fun Sx_3=>gI (nthL (lsL l) 5) .i64 fun t_9=>yj Sx_3 (some (h,0)) n t_9 fun Sx_4=>Q 0 Sx_4) fun Jx=>
   if t_7≠0 then Q t_7 Sx_1 else Jx Sx_1:=by
  intro l hl
  refine⟨rfl,?_⟩
  rw[zS hc.c3,zL,xa hc.tls]
  simp only[jn]
  refine ziM (ls:=C.ls) (fun hb=>?_) (fun a b ho ht=>?_) (fun a b ho ht hat=>?_) fun a b ho ht hat=>?_
  ·rw[els] at hb
   rw[if_pos hb] at hQ
   refine⟨qe,?_⟩
   rw[if_pos (by decide)]
   exact hQ S (After.here hc hr)
  ·rw[els] at ho ht
   rw[if_neg (by rw[ho];simp;omega),if_pos (by omega)] at hQ
   refine⟨qe,?_⟩
   rw[if_pos (by decide)]
   exact hQ S (After.here hc hr)
  ·rw[els] at ho ht hat
   rw[if_neg (by rw[ho];simp;omega),if_neg (by omega),if_pos hat] at hQ
   refine⟨qe,?_⟩
   rw[if_pos (by decide)]
   exact hQ S (After.here hc hr)
  ·rw[els] at ho ht hat
   rw[if_neg (by rw[ho];simp;omega),if_neg (by omega),if_neg (by omega)] at hQ
   refine⟨qe,?_⟩
   rw[if_neg (by decide),zS hc.c3,zL]
   refine⟨qe,?_⟩
   refine zfn hc fun S3 m3 hc3=>?_
   have hll:=hl a b ho
   rw[zx (show nthL (lsL l) 5=some (.int .i64 l.at_) from rfl),hll]
   have hcs:=hr.csize
   refine zbr hc3 hn (by show C.cache.length≤100;omega) fun S4 ρ4 cs m4 hc4=>?_
   have ep:(W.ls i.toNat).at_=(((W.ls i.toNat).at_.toNat:Nat):Int):=by omega
   refine hQ S4 ⟨ρ4,{ A with cs:=cs },_,φ,(m3.mono fun r hr=>by unfold Rc;omega).trans m4,hc4,?_,kp1,rfl,fun _=>rfl⟩
   have:=hr.leave (n:=n) (p:=(W.ls i.toNat).at_.toNat) ho (by omega) ep
   rw[←ep] at this
   exact this
 refine vE (ls:=C.ls) (fun a b ho=>key (C.ls i.toNat) fun _ _ _=>by rw[els]) fun hb=>key ls0 fun a b ho=>?_
 rw[els] at hb
 rcases hb with hb | hb | hb
 ·omega
 ·omega
 ·rw[ho] at hb;cases hb
theorem zfF (hc:CrabA S ρ h A C) (hr:Rel C W φ) {n:Nat} (hn:n<6) {i p:Int} {Q:Int→Mem→Prop} (hQ:∀ S',After h A C S ρ (W.lease n 7 i p).2 S'→Q (W.lease n 7 i p).1 S'):wo S (some (h,0)) n i Q:=by
 rw[lease7] at hQ
 have els:=hr.ls
 apply zaJ
 unfold xw
 rw[zL,zS hc.c3,zL,xa hc.tls]
 have key:∀ l:Ls,(0≤i→i≤15→(W.ls i.toNat).on=true→l=W.ls i.toNat)→(lsL l).all (·.oneCell')=true∧gP (S.cell h (0+3)) fun t_4=>nn t_4 fun b_3 o_2=>gA (S.part b_3 (o_2+75) 96) fun t_5=>yq S t_5 i n fun t_6 t_7 Sx_1=>
   t_6.all (·.oneCell')=true∧jn (fun (Sx_2:Mem)=>gP (Sx_2.cell h (0+3)) fun t_8=>nn t_8 fun b_5 o_3=>t_6.all (·.oneCell')=true∧pt Sx_2 b_5 (o_3+75) 96 t_6 fun Sx_3=>
    gP (Sx_3.cell h (0+3)) fun t_9=>nn t_9 fun b_6 o_4=>0≤(n:Int)∧(n:Int)<6∧gA (Sx_3.part b_6 (o_4+2+(n:Int).toNat*12+2) 2) fun t_10=>gP (Sx_3.cell h 0) fun t_11=>gI (nthL (lsL l) 2) .i64 fun t_12=>
    zP Sx_3 t_10 t_11 t_12 fun t_13 t_14 Sx_4=>Sx_4.cell h (0+3)=some (.pointer (some ⟨b_6,o_4,none⟩))∧t_13.all (·.oneCell')=true∧gP (Sx_4.cell h (0+3)) fun t_15=>nn t_15 fun b_8 o_5=>gP (Sx_4.cell b_8 (o_5+74)) fun t_16=>gI (nthL t_13 1) .i64 fun t_17=>
    qQ Sx_4 t_16 t_17 n fun t_18 Sx_5=>Sx_5.cell h (0+3)=some (.pointer (some ⟨b_8,o_5,none⟩))∧Q t_18 Sx_5) fun Jx=>
   if t_7≠0 then Q t_7 Sx_1 else Jx Sx_1:=by
  intro l hl
  refine⟨rfl,?_⟩
  rw[zS hc.c3,zL,xa hc.tls]
  simp only[jn]
  refine zfD (ls:=C.ls) (fun hb=>?_) (fun a b ho ht=>?_) (fun a b ho ht hat=>?_) fun a b ho ht hat=>?_
  ·rw[els] at hb
   rw[if_pos hb] at hQ
   refine⟨qe,?_⟩
   rw[if_pos (by decide)]
   exact hQ S (After.here hc hr)
  ·rw[els] at ho ht
   rw[if_neg (by rw[ho];simp;omega),if_pos (by omega)] at hQ
   refine⟨qe,?_⟩
   rw[if_pos (by decide)]
   exact hQ S (After.here hc hr)
  ·rw[els] at ho ht hat
   rw[if_neg (by rw[ho];simp;omega),if_neg (by omega),if_pos hat] at hQ
   refine⟨qe,?_⟩
   rw[if_pos (by decide)]
   exact hQ S (After.here hc hr)
  ·rw[els] at ho ht hat
   rw[if_neg (by rw[ho];simp;omega),if_neg (by omega),if_neg (by omega)] at hQ
   refine⟨qe,?_⟩
   rw[if_neg (by decide),zS hc.c3,zL]
   refine⟨qe,?_⟩
   refine zfn hc fun S3 m3 hc3=>?_
   have hll:=hl a b ho
   have hfr:(W.ls i.toNat).fr=n:=by omega
   have hle:=hr.wk.lsr i.toNat ho
   obtain⟨lb,hlb⟩:=Option.isSome_iff_exists.1 hle.2.2.2.2.1
   have hpg:=hr.pg _ _ lb hlb
   have hwk:=hr.walk hle.2.1 (hr.wk.pg _ _ lb hlb).2.1
   rw[where_own hlb,hfr] at hwk
   obtain⟨hrel,hk3,hv3,hs3⟩:=hr.withdraw ho (by omega)
   rw[hfr] at hrel hk3 hv3 hs3 hlb hpg
   rw[zS hc3.c3,zL]
   refine⟨by omega,by omega,?_⟩
   rw[Int.toNat_natCast,xa (hc3.vtab hn (by omega)),zS hc3.c0,zx (show nthL (lsL l) 2=some (.int .i64 l.pg) from rfl),hll]
   refine walkD hc3.st (hc3.vs n hn).fr.row (fun f b1 S4 hw hk=>?_) fun e S4 hw he hk=>?_
   ·have hw3:C.walk n ((W.ls i.toNat).pg:Int)=some (f,b1):=hw
    rw[hwk] at hw3
    simp only[Option.map_some,Option.some.injEq,Prod.mk.injEq] at hw3
    have hc4:=hc3.keeps hk
    refine⟨hc4.c3,rfl,?_⟩
    rw[zS hc4.c3,zL,zS hc4.t74,zx (show nthL (enL f b1) 1=some (.int .i64 f) from rfl),←hw3.1]
    refine zds hc4.ow hc4.rg hpg.1 (zox hr hlb) fun e S5 m5 hs5 he5=>?_
    have hc5:=hc4.setOwn m5 hs5
    refine⟨hc5.c3,?_⟩
    rw[he5 ⟨hk3,hv3,hs3⟩]
    exact hQ S5 ⟨ρ,A,_,φ,(m3.mono fun r hr=>by unfold Rc;omega).trans ((Mv.keeps hc3.rg hk).trans (m5.mono fun r hr=>by unfold Rc;omega)),hc5,by rw[els];rw[els] at hrel;exact hrel,kp1,rfl,fun _=>rfl⟩
   ·have hw3:C.walk n ((W.ls i.toNat).pg:Int)=none:=hw
    rw[hwk] at hw3
    cases hw3
 refine vE (ls:=C.ls) (fun a b ho=>key (C.ls i.toNat) fun _ _ _=>by rw[els]) fun hb=>key ls0 fun a b ho=>?_
 rw[els] at hb
 rcases hb with hb | hb | hb
 ·omega
 ·omega
 ·rw[ho] at hb;cases hb
theorem zkN (hc:CrabA S ρ h A C) (hr:Rel C W φ) {n:Nat} (hn:n<6) (hon:(W.vm n).on=true) {p:Int} {Q:Int→Mem→Prop} (hQ:∀ S',After h A C S ρ (W.give n p).2 S'→Q (W.give n p).1 S'):jS S (some (h,0)) n p Q:=by
 unfold Wd.give at hQ
 apply zdT
 unfold vZ
 refine zhB hc hr hn hon (fun l S1 h0 h1 ho hk=>?_) fun S1 hm hk=>?_
 ·have hc1:=hc.keeps hk
  rw[if_neg (fun h=>h (zlO h0 h1 ho))] at hQ
  simp only[jn]
  rw[if_neg (by decide),zL,zS hc1.c3,zL,xa hc1.tls]
  refine zkv (ls:=C.ls) ?_
  rw[hr.ls]
  cases hlent:lentL W.ls n p with
  | true=>
   rw[if_pos hlent] at hQ
   rw[if_pos rfl]
   exact hQ S1 (After.keeps hc hr hk)
  | false=>
   rw[if_neg (by rw[hlent];decide)] at hQ
   rw[if_neg (by decide)]
   have hcs:=hr.csize
   have ep:p=((p.toNat:Nat):Int):=by omega
   have hpg:=hr.pg n _ l ho
   rw[ep] at hlent
   obtain⟨hrel,hus⟩:=hr.give ho hlent
   refine zbr hc1 hn (by omega) fun S2 ρ2 cs m2 hc2=>?_
   rw[zL,zS hc2.c3,zL,zS hc2.t74]
   refine zdw hc2.ow hc2.rg hpg.1 fun e S3 m3 hs3=>?_
   have hc3:=hc2.setOwn m3 hs3
   rw[zS hc3.c1]
   refine zfe hc3.pl hc3.rg hpg.1 (fun _ S4 ρ4 m4 hp4=>?_) fun hu=>?_
   ·have hc4:=hc3.setPool m4 (fun r hr=>.inl hr) hp4
    rw[←ep] at hrel
    exact hQ S4 ⟨ρ4,{ A with cs:=cs },_,φ,(hc.mv0 hk).trans (m2.trans ((m3.mono fun r hr=>by unfold Rc;omega).trans (m4.mono fun r hr=>by unfold R345 at hr;unfold Rc;omega))),hc4,hrel,kp1,rfl,fun _=>rfl⟩
   ·have hu':C.used (φ n p.toNat)=false:=hu
    rw[hus] at hu';cases hu'
 ·rw[if_pos hm] at hQ
  simp only[jn]
  rw[if_pos hm]
  exact hQ S1 (After.keeps hc hr hk)
theorem zmt (hc:CrabA S ρ h A C) (hr:Rel C W φ) {n:Nat} (hn:n<6) (hon:(W.vm n).on=true) {p:Int} {Q:Int→Mem→Prop} (hQ:∀ S',After h A C S ρ (W.get n p).2 S'→Q (W.get n p).1 S'):gT S (some (h,0)) n p Q:=by
 unfold Wd.get at hQ
 apply zeA
 unfold jl
 simp only[jn]
 by_cases h0:p<0
 ·rw[if_pos (.inl h0)] at hQ
  rw[if_pos h0];exact hQ S (After.here hc hr)
 rw[if_neg h0]
 by_cases h1:32≤p
 ·rw[if_pos (.inr (by omega))] at hQ
  rw[if_pos h1];exact hQ S (After.here hc hr)
 rw[if_neg h1,zL,zS hc.c3,zL]
 rw[if_neg (by omega)] at hQ
 refine⟨by omega,by omega,?_⟩
 rw[Int.toNat_natCast,xa (hc.vtab hn (by omega)),zS hc.c0]
 refine walkD hc.st (hc.vs n hn).fr.row (fun f b1 S1 hw hk=>?_) fun e S1 hw he hk=>?_
 ·have hc1:=hc.keeps hk
  refine⟨hc1.c3,rfl,?_⟩
  rw[if_pos rfl]
  obtain⟨m,q,l,_,_,h2,_⟩:=hr.walk_some hon hw
  rw[if_pos (by rw[h2];simp)] at hQ
  exact hQ S1 (After.keeps hc hr hk)
 ·have hc1:=hc.keeps hk
  have hno:W.where_ n p.toNat=none:=by
   rcases hr.walk_none hon hw with h | h | h
   ·omega
   ·omega
   ·exact h
  rw[if_neg (fun h=>h hno)] at hQ
  refine⟨hc1.c3,rfl,?_⟩
  rw[if_neg he,zL,zS hc1.c3,zL]
  refine⟨by omega,by omega,?_⟩
  have hq:=hc1.vcell (n:=n) (j:=4) hn (by decide) (show 0+2+n*12+4=2+n*12+4 by omega)
  rw[zx hq]
  refine zja hc1 hr hn hon ?_
  refine⟨hq,hc1.c3,?_⟩
  rw[hr.vm]
  by_cases hqq:(W.vm n).quota≤W.pages n
  ·rw[if_pos hqq] at hQ
   rw[if_pos hqq];exact hQ S1 (After.keeps hc hr hk)
  ·rw[if_neg hqq] at hQ
   rw[if_neg hqq,zL,zS hc1.c1]
   have hleft:=hr.left
   refine zfR hc1.pl hc1.rg (by omega) (fun f hl0 hff S2 ρ2 m2 hp2=>?_) fun hbad=>?_
   ·have hc2:=hc1.setPool m2 (fun r hr=>.inl hr) hp2
    have hfree:W.free≠0:=fun e=>by
     have h3:=hr.free
     have h4:=yi (u:=C.used) (N:=C.N)
     rw[hff] at h4
     have:count (fun f=>! C.used f) C.N=0:=by omega
     exact absurd (h4.2 this) (by simp)
    rw[if_neg hfree] at hQ
    rw[if_neg (by decide)]
    have hcs:=hr.csize
    have ep:p=((p.toNat:Nat):Int):=by omega
    have hp32:p.toNat<32:=by omega
    have:=znd hc2 hn (p:=p.toNat) (f:=f) hp32 (qd hff).1 (by show C.cache.length≤100;omega) (Q:=fun Sx=>Q 0 Sx) fun S3 ρ3 cs m3 hc3=>?_
    ·rw[←ep] at this;exact this
    ·refine hQ S3 ⟨ρ3,{ A with cs:=cs },_,upφ φ n p.toNat f,(hc.mv0 hk).trans ((m2.mono fun r hr=>by unfold R345 at hr;unfold Rc;omega).trans m3),hc3,?_,kp1,rfl,fun _=>rfl⟩
     have hrel:=hr.get (l:=noughts) ⟨qX,fun x hx=>xK hx⟩ hon hp32 hno (by omega) hff true rfl
     have e1:(if C.left-1 < -1 then -1 else C.left-1)=C.left:=by rw[hleft];decide
     rw[e1]
     exact hrel
   ·rw[if_pos (by decide)]
    have hfree:W.free=0:=by
     have h3:=hr.free
     rcases hbad with e | e
     ·have e':C.left=0:=e;omega
     ·have:=yi.1 e
      rw[h3,this];rfl
    rw[if_pos hfree] at hQ
    exact hQ S1 (After.keeps hc hr hk)
end
end
section
open Go Go.Pt Go.Cr Go.Hp
theorem znX {S:Mem} {e size bytes m:Nat} {z vs:List Value} {K:Sl→Mem→Prop} (hv:vs.length=m*size) (hz:z.length=size) (lim:(2*(0+m)+1024)*bytes≤281474976710656)
  (hK:∀ (s':Sl) (S':Mem),s'.n=m→Row S' size s' vs→Keeps S S' []→(∀ x o,s'.p=some (x,o)→S x=none)→K s' S'):ap S e size bytes z ⟨none,0,0⟩ m vs K:=by
 by_cases h0:m=0
 ·subst h0
  have:vs=[]:=List.length_eq_zero_iff.1 (by simpa using hv)
  subst this
  exact⟨lim,fun _=>.inl ⟨rfl,rfl,hK _ _ rfl Row.nil Keeps.refl fun x o h=>by cases h⟩,fun h=>by simp at h⟩
 ·refine wS Row.nil hv (by omega) hz lim fun s' S' b k hn hp hor hS hrow=>?_
  have hb:S b=none:=by
   rcases hor with e | e
   ·cases e
   ·exact e
  refine hK s' S' (by simpa using hn) (by simpa using hrow) (by rw[hS];exact Keeps.refl.fresh hb) fun x o h=>?_
  rw[hp] at h;cases h;exact hb
section
variable {S S':Mem} {ρ ρ':Rho} {h:Nat} {A:Ad} {C:Cst}
structure Wide (S:Mem) (ρ ρ':Rho):Prop where
 ext:∀ b r,ρ b=some r→ρ' b=some r
 rg:∀ b r,ρ' b=some r→S b≠none
 g0:ρ 0=none→ρ' 0=none
variable (w:Wide S ρ ρ')
include w
theorem wPc {r b:Nat} {l:List Value} (h:Pc S ρ r b l):Pc S ρ' r b l:=⟨h.at_,w.ext b r h.rol⟩
theorem wRw {r n:Nat} {s:Sl} {l:List Value} (h:Rw S ρ r n s l):Rw S ρ' r n s l:=⟨h.row,fun b o e=>w.ext b r (h.rol b o e)⟩
theorem wVm {i:Nat} {x:Vx} {v:Bv} {fr:List Nat} (h:VmP S ρ i x v fr):VmP S ρ' i x v fr:=⟨wRw w h.se,h.r,wRw w h.fr,wRw w h.ke,fun j hj=>wRw w (h.di j hj)⟩
theorem CrabA.wide (hc:CrabA S ρ h A C):CrabA S ρ' h A C:=
 ⟨w.rg,w.g0 hc.g0,hc.gl,wPc w hc.hd,⟨by obtain⟨B,h1,h2⟩:=hc.st.ex;exact⟨B,h1,w.ext _ _ h2⟩,w.ext _ _ hc.st.rol,hc.st.len,hc.st.byt⟩,
  ⟨by obtain⟨tb,fs,us,F,h1,h2,h3,h4⟩:=hc.pl.ex;exact⟨tb,fs,us,F,h1,fun x hx=>w.ext _ _ (h2 x hx),wRw w h3,h4⟩,w.ext _ _ hc.pl.rol,hc.pl.lim⟩,
  wRw w hc.ca,wPc w hc.tt,by obtain⟨rs,h1,h2⟩:=hc.ow.ex;exact⟨rs,wPc w h1,wRw w h2⟩,⟨by obtain⟨tb,s,l,h1,h2,h3⟩:=hc.ck.ex;exact⟨tb,s,l,h1,fun x hx=>w.ext _ _ (h2 x hx),h3⟩,w.ext _ _ hc.ck.rol⟩,
  wRw w hc.gs,fun i hi=>wRw w (hc.ev i hi),fun i hi=>wVm w (hc.vs i hi)⟩
omit w
theorem zmh {R:Nat→Prop} {r size:Nat} {t:Sl} {l:List Value} (m:Mv S ρ S' ρ' R) (hrow:Row S' size t l) (hf:∀ b o,t.p=some (b,o)→S b=none∧ρ' b=none) (h0:S 0≠none):∃ ρ'',Mv S ρ S' ρ'' R∧Wide S' ρ' ρ''∧Rw S' ρ'' r size t l:=by
 rcases hrow.lie with ⟨h1,_⟩ | ⟨b,k,h1,h2,_⟩
 ·exact⟨ρ',m,⟨fun _ _ h=>h,m.rg,fun h=>h⟩,hrow,fun b o h=>by rw[h1] at h;cases h⟩
 ·obtain⟨hb,hb2⟩:=hf b 0 h1
  have hs:S' b≠none:=by rw[h2];simp
  refine⟨ρ'.upd b r,⟨fun x q e=>?_,fun x q e hx=>?_,m.kp,m.al,fun x q e=>?_⟩,⟨fun x q e=>?_,fun x q e=>?_,fun e=>?_⟩,hrow,fun b' o h=>by rw[h1] at h;cases h;exact yL⟩
  ·rw[ye (fun e2=>by have:=m.ext x q e;rw[e2,hb2] at this;cases this)];exact m.ext x q e
  ·rw[ye (fun e2=>hx (by rw[e2];exact hb))] at e;exact m.old x q e hx
  ·by_cases e2:x=b
   ·rw[e2];exact hs
   ·rw[ye e2] at e;exact m.rg x q e
  ·rw[ye (fun e2=>by rw[e2,hb2] at e;cases e)];exact e
  ·by_cases e2:x=b
   ·rw[e2];exact hs
   ·rw[ye e2] at e;exact m.rg x q e
  ·rw[ye (fun e2=>h0 (by rw[e2];exact hb))];exact e
theorem zdc (hc:CrabA S ρ h A C) {n j m x:Nat} (hn:n<6) {vs:List Value} {x':Vx} {v':Bv} {tf' late':Int} {fr':List Nat} (hx:x=2+n*12+j) (hm:m=vs.length) (hj:j+vs.length≤12) (he:spl (vmC (A.x n) (C.vm n) (C.tf n) (C.late n)) j vs=vmC x' v' tf' late') (hv:VmP S ρ n x' v' fr') {K:Mem→Prop}
  (hK:∀ S',Mv S ρ S' ρ (· = 7)→CrabA S' ρ h { A with x:=upd A.x n x' } { C with vm:=upd C.vm n v',tf:=upd C.tf n tf',late:=upd C.late n late',fr:=upd C.fr n fr' }→K S'):pt S A.t x m vs K:=by
 refine hc.tt.pt hc.rg (2+(n*12+j)) hm (by rw[vb];omega) (by omega) fun S1 m1 h1=>?_
 rw[zlZ (fr':=fr') hn hj he] at h1
 refine hK S1 m1 (hc.setKn (k:={ C.toKn with vm:=upd C.vm n v',tf:=upd C.tf n tf',late:=upd C.late n late',fr:=upd C.fr n fr' }) (x:=upd A.x n x') m1 h1 fun i hi=>?_)
 show VmP S1 ρ i (upd A.x n x' i) (upd C.vm n v' i) (upd C.fr n fr' i)
 by_cases e:i=n
 ·subst e
  rw[zl,zl,zl]
  exact hv.keep m1 hi fun r h1 h2=>by omega
 ·rw[zh e,zh e,zh e]
  exact (hc.vs i hi).keep m1 hi fun r h1 h2=>by omega
theorem zej {C:Cst} {n:Nat} {v':Bv}:({ C with vm:=upd C.vm n v',tf:=upd C.tf n (C.tf n),late:=upd C.late n (C.late n),fr:=upd C.fr n (C.fr n) }:Cst) = { C with vm:=upd C.vm n v' }:=by
 rw[xV,xV,xV]
theorem zjG {b:Nat} {os os':List Nat} {rb rr:Nat} (hg:∀ b r,ρ b=some r→S b≠none) (hk:Keeps S S' (b :: os)) (hb:ρ b=some rb) (ho:∀ x∈os,ρ x=some rr) (hone:∀ x∈os',∀ y∈os',x=y) (hf:∀ x∈os',x∈os∨S x=none) (hal:Grows S S') (hs':∀ x∈os',S' x≠none) :
  ∃ ρ',Mv S ρ S' ρ' (fun r=>r=rb∨r=rr)∧∀ x∈os',ρ' x=some rr:=by
 have m0:Mv S ρ S' ρ (fun r=>r=rb∨r=rr):=Mv.keepsW hg hk fun w hw=>by
  rcases List.mem_cons.1 hw with e | e
  ·subst e;exact⟨hal w (hg w rb hb),rb,hb,.inl rfl⟩
  ·exact⟨hal w (hg w rr (ho w e)),rr,ho w e,.inr rfl⟩
 by_cases hex:∃ c,c∈os'∧S c=none
 ·obtain⟨c,hc,hcn⟩:=hex
  refine⟨ρ.upd c rr,⟨fun x r e=>?_,fun x r e hx=>?_,m0.kp,m0.al,fun x r e=>?_⟩,fun x hx=>by rw[hone x hx c hc];exact yL⟩
  ·rw[ye (fun e2=>hg x r e (by rw[e2];exact hcn))];exact e
  ·rw[ye (fun e2=>hx (by rw[e2];exact hcn))] at e;exact e
  ·by_cases e2:x=c
   ·rw[e2];exact hs' c hc
   ·rw[ye e2] at e;exact m0.rg x r e
 ·refine⟨ρ,m0,fun x hx=>?_⟩
  rcases hf x hx with e | e
  ·exact ho x e
  ·exact absurd ⟨x,hx,e⟩ hex
theorem zlF {s:Sl}:∀ x∈Hk.own s,∀ y∈Hk.own s,x=y:=by
 intro x hx y hy
 unfold Hk.own at hx hy
 cases hp:s.p with
 | none=>rw[hp] at hx;simp at hx
 | some q=>rw[hp] at hx hy;simp at hx hy;rw[hx,hy]
theorem zjP {kb:Nat} {tb:TypeId} {s s':Sl} {l':List Hk.Al} {alm':Nat→Nat→Option Int} (hg:∀ b r,ρ b=some r→S b≠none) (hr:ρ kb=some 10) (ho:∀ x∈Hk.own s,ρ x=some 11) (hL:Hk.Left' S S' kb 0 tb [eL s] s s' l') (ha:AlmOf l' alm') :
  ∃ ρ',Mv S ρ S' ρ' (fun r=>r=10∨r=11)∧ClkP S' ρ' kb alm':=by
 have e1:spl [eL s] 0 [eL s']=[eL s']:=rfl
 have hck:=hL.ck
 rw[e1] at hck
 obtain⟨ρ',m,h2⟩:=zjG (rb:=10) (rr:=11) hg hL.keep hr ho zlF hL.fresh hL.al fun x hx=>by
  obtain⟨k,hk⟩:=Hk.own_row hck.row hx;rw[hk];simp
 exact⟨ρ',m,⟨tb,s',l',hck,h2,ha⟩,m.ext kb 10 hr⟩
theorem zmB {kb:Nat} {alm:Nat→Nat→Option Int} (h:ClkP S ρ kb alm) (hg:∀ b r,ρ b=some r→S b≠none) {n k:Nat} (hn:n<6) (hk:k<3) {tm:Int} {Q:Int→Mem→Prop}
  (hQ:∀ S' ρ',Mv S ρ S' ρ' (fun r=>r=10∨r=11)→ClkP S' ρ' kb (upd alm n (upd (alm n) k (some tm)))→Q 0 S'):wL S (some (kb,0)) n k tm Q:=by
 obtain⟨tb,s,l,hck,ho,ha⟩:=h.ex
 have hlen:=ha.len
 refine Hk.set_spec hck (by omega) (by omega) (by omega) (by omega) (by omega) fun S' s' l' hp hL=>?_
 have hal:AlmOf l' (upd alm n (upd (alm n) k (some tm))):=by
  refine AlmOf.perm ?_ hp
  refine⟨List.nodup_cons.2 ⟨fun hm=>?_,List.Pairwise.filter _ ha.nd⟩,fun a hm=>?_,fun m j t e=>?_⟩
  ·have:=(List.mem_filter.1 hm).2
   simp at this
  ·rcases List.mem_cons.1 hm with e | e
   ·subst e
    refine⟨by simp only;omega,by simp only;omega,by simp only;omega,by simp only;omega,?_⟩
    simp only[Int.toNat_natCast]
    rw[zl,zl]
   ·have h1:=ha.of a (List.mem_filter.1 e).1
    have h2:=(List.mem_filter.1 e).2
    refine⟨h1.1,h1.2.1,h1.2.2.1,h1.2.2.2.1,?_⟩
    by_cases e1:a.vm.toNat=n
    ·have e2:a.seat.toNat≠k:=fun e2=>by
      have:a.vm=n∧a.seat=k:=by omega
      simp[this.1,this.2] at h2
     rw[e1,zl,zh e2,←e1];exact h1.2.2.2.2
    ·rw[zh e1];exact h1.2.2.2.2
  ·by_cases e1:m=n
   ·subst e1
    rw[zl] at e
    by_cases e2:j=k
    ·subst e2
     rw[zl] at e
     cases e;simp
    ·rw[zh e2] at e
     refine List.mem_cons_of_mem _ (List.mem_filter.2 ⟨ha.to m j t e,?_⟩)
     simp;omega
   ·rw[zh e1] at e
    refine List.mem_cons_of_mem _ (List.mem_filter.2 ⟨ha.to m j t e,?_⟩)
    have:¬((m:Int)=n):=by omega
    simp[this]
 obtain⟨ρ',m,h2⟩:=zjP hg h.rol ho hL hal
 exact hQ S' ρ' m h2
end
end
section
open Go Go.Pt Go.Cr Go.Hp
section
variable {S S':Mem} {ρ ρ':Rho} {h:Nat} {A:Ad} {C:Cst} {W:Wd} {φ:Nat→Nat→Nat}
theorem zfM {w:Int} (hw:W64 w) {Q:Int→Mem→Prop} (hQ:Q (small w) S):zax S w Q:=by
 have h1:=hw.1
 apply zhj
 unfold zae
 unfold small at hQ
 by_cases h:65536≤w
 ·rw[if_pos (by omega)] at hQ
  rw[if_pos h];exact hQ
 ·rw[if_neg (by omega)] at hQ
  rw[if_neg h,w64 (by omega) (by omega)];exact hQ
theorem zhA (hc:CrabA S ρ h A C) (hr:Rel C W φ) {n:Nat} (hn:n<6) (hon:(W.vm n).on=true) {Q:Int→Int→Mem→Prop} (hQ:∀ S',After h A C S ρ (W.nextKey n).2.2 S'→Q (W.nextKey n).1 (W.nextKey n).2.1 S') :
  (gL (S.cell A.t (0+2+n*12+6)) fun t_7=>if (t_7.n:Int)=0 then Q 0 2 S else
   gL (S.cell A.t (0+2+n*12+6)) fun t_2=>sl t_2 fun b_3 o_2 n_1 n_2=>(0:Int)<(n_1:Nat)∧gI (S.cell b_3 o_2) .u8 fun t_3=>
   gL (S.cell A.t (0+2+n*12+6)) fun t_4=>(0:Int)≤1∧(1:Int)≤(t_4.n:Int)∧(t_4.n:Int)≤(t_4.c:Int)∧lt (slc 1 t_4 1 (t_4.n:Int)) fun t_5=>
   sp S t_5 1 fun vs=>ap S 5 1 1 [.int .u8 0] (⟨none,0,0⟩) t_5.n vs fun t_6 Sx_4=>pt Sx_4 A.t (0+2+n*12+6) 1 ([eL t_6]) fun Sx_5=>Q (IntKind.u64.wrap t_3) 0 Sx_5):=by
 have hv:=hc.vs n hn
 have hcell:S.cell A.t (0+2+n*12+6)=some (eL (A.x n).ks):=hc.vcell (n:=n) (j:=6) hn (by decide) (by omega)
 have hke:=hv.ke
 rw[hr.vm] at hke
 have hlen:(bL (W.vm n).keys).length=(W.vm n).keys.length*1:=by simp[bL]
 have hkn:=hke.n (by decide) hlen
 have hcap:=hke.row.cap
 have h64:=hr.wk.keys n
 unfold Wd.nextKey at hQ
 rw[wj hcell]
 cases hks:(W.vm n).keys with
 | nil=>
  rw[hks] at hQ hkn
  rw[if_pos (by rw[hkn];rfl)]
  exact hQ S (After.here hc hr)
 | cons x l=>
  rw[hks] at hQ hkn hke h64
  simp only[List.length_cons] at hkn h64
  have hbx:=h64.2 x (by simp)
  obtain⟨c,e1,e2⟩:=hke.sl (by simp[bL])
  rw[if_neg (by omega),wj hcell]
  have hc0:S.cell c 0=some (.int .u8 x):=hke.cell e2 0 (by simp[bL]) rfl
  rw[show sl (A.x n).ks=sl ⟨some (c,0),(A.x n).ks.n,(A.x n).ks.c⟩ by rw[←e1],fi]
  refine⟨by omega,?_⟩
  rw[zx hc0,wj hcell]
  refine⟨by decide,by omega,by omega,?_⟩
  have es:slc 1 (A.x n).ks 1 ((A.x n).ks.n:Int)=if (A.x n).ks.c=1 then ⟨some (c,0),l.length,(A.x n).ks.c-1⟩ else ⟨some (c,1),l.length,(A.x n).ks.c-1⟩:=by
   unfold slc
   rw[e2]
   have e3:(1:Int).toNat=1:=rfl
   have e4:(((A.x n).ks.n:Int)-1).toNat=l.length:=by omega
   rw[e3,e4]
   split <;> rfl
  have hpart:S.part c 1 (l.length*1)=some (bL l):=by
   rw[hke.part e2 1 (by simp[bL];omega) rfl]
   have e3:=xc (A:=[Value.int .u8 x]) (B:=bL l) (n:=1) (j:=0) (m:=l.length*1) rfl
   have e4:bL (x :: l)=[Value.int .u8 x]++bL l:=rfl
   rw[e4]
   rw[Nat.add_zero] at e3
   rw[e3]
   have e5:l.length*1=(bL l).length:=by simp[bL]
   rw[e5,ze rfl]
  show sp S (slc 1 (A.x n).ks 1 ((A.x n).ks.n:Int)) 1 _
  refine⟨bL l,?_,zmy _,?_⟩
  ·rw[es]
   by_cases h1:(A.x n).ks.c=1
   ·rw[if_pos h1]
    have:l=[]:=List.length_eq_zero_iff.1 (by omega)
    subst this
    right
    refine⟨c,0,rfl,?_⟩
    show S.part c 0 0=some []
    obtain⟨k,hk,_⟩:=zgj hc0
    rw[yp hk,qA (by omega)];rfl
   ·rw[if_neg h1]
    exact .inr ⟨c,1,rfl,hpart⟩
  ·have en:(slc 1 (A.x n).ks 1 ((A.x n).ks.n:Int)).n=l.length:=by rw[es];split <;> rfl
   show ap S 5 1 1 [.int .u8 0] ⟨none,0,0⟩ (slc 1 (A.x n).ks 1 ((A.x n).ks.n:Int)).n (bL l) _
   rw[en]
   refine znX (by simp[bL]) rfl (by omega) fun s' S1 hn1 hrow hk hfr=>?_
   obtain⟨ρ1,m1,h3⟩:=Rw.claim (R:=fun _=>False) (r:=50+n) hc.rg hk hrow hfr
   have hc1:=hc.keep m1 fun _ _ h=>h
   have hv1:=hc1.vs n hn
   have hvn:VmP S1 ρ1 n { A.x n with ks:=s' } ((C.vm n).setKeys l) (C.fr n):=⟨hv1.se,hv1.r,hv1.fr,h3,hv1.di⟩
   refine zdc hc1 (j:=6) (vs:=[eL s']) hn (by omega) rfl (by simp) (he:=rfl) hvn fun S2 m2 hc2=>?_
   rw[zej] at hc2
   rw[wu64 (by omega) (by omega)]
   have hw:WOk (W.setV n ((W.vm n).setKeys l)):=hr.wk.setV hon hon rfl (hr.wk.ok n) ⟨by show l.length≤64;omega,fun y hy=>h64.2 y (List.mem_cons_of_mem _ hy)⟩ (fun j=>hr.wk.disk n j hon) rfl rfl
   have hrel:=hr.setV (v:=(W.vm n).setKeys l) hon hon hw
   refine hQ S2 ⟨ρ1,_,_,φ,(m1.mono fun _ h=>h.elim).trans (m2.mono fun r hr=>by unfold Rc;omega),hc2,?_,kp1,rfl,fun i=>?_⟩
   ·rw[hr.vm] at hrel ⊢;exact hrel
   ·show (upd A.x n { A.x n with ks:=s' } i).ss=(A.x i).ss
    by_cases e:i=n
    ·rw[e,zl]
    ·rw[zh e]
theorem zml (hc:CrabA S ρ h A C) {n j:Nat} (hn:n<6) (hj:j<4):S.cell A.t (0+2+n*12+7+j*1)=some (eL ((A.x n).d j)):=by
 rw[hc.vcell (n:=n) (j:=7+j) hn (by omega) (by omega)]
 match j,hj with
 | 0,_=>rfl
 | 1,_=>rfl
 | 2,_=>rfl
 | 3,_=>rfl
theorem zkL (hc:CrabA S ρ h A C) (hr:Rel C W φ) {n:Nat} (hn:n<6) (hon:(W.vm n).on=true) {sec p:Int} {Q:Int→Mem→Prop} (hQ:∀ S',After h A C S ρ (W.load n sec p).2 S'→Q (W.load n sec p).1 S'):jR S (some (h,0)) n sec p Q:=by
 unfold Wd.load at hQ
 apply zdS
 unfold vY
 simp only[jn]
 by_cases h0:sec<0
 ·rw[if_pos (.inl h0)] at hQ
  rw[if_pos h0];exact hQ S (After.here hc hr)
 rw[if_neg h0]
 by_cases h1:4≤sec
 ·rw[if_pos (.inr (by omega))] at hQ
  rw[if_pos h1];exact hQ S (After.here hc hr)
 rw[if_neg h1,zL,zS hc.c3,zL]
 rw[if_neg (by omega)] at hQ
 refine⟨by omega,by omega,by omega,by omega,?_⟩
 have hj:sec.toNat<4:=by omega
 have hdk:=hr.wk.disk n sec.toNat hon
 have hdi:=(hc.vs n hn).di sec.toNat hj
 rw[hr.vm] at hdi
 have hdl:(bL ((W.vm n).disk sec.toNat)).length=256:=by simp only[bL,List.length_map];exact hdk.1
 have hdn:=hdi.n (by decide) (m:=256) (by rw[hdl])
 obtain⟨c,e1,e2⟩:=hdi.sl (by rw[hdl];decide)
 rw[Int.toNat_natCast,wj (zml hc hn hj)]
 have hpart:S.part c 0 (((W.vm n).disk sec.toNat).length*1)=some (bL ((W.vm n).disk sec.toNat)):=by
  rw[hdi.part e2 0 (by rw[hdl,hdk.1];decide) rfl]
  have e5:((W.vm n).disk sec.toNat).length*1=(bL ((W.vm n).disk sec.toNat)).length:=by simp[bL]
  rw[e5,ze rfl]
 refine zdC hc hr hn hon (off:=0) (v:=(W.vm n).disk sec.toNat) ⟨c,0,e2,hpart,fun r e=>by rw[hdi.rol c 0 e2] at e;cases e;omega⟩ (by rw[hdk.1,hdn]) (fun e=>by rw[e] at hdk;have:=hdk.1;simp at this) (by rw[hdk.1];decide) hdk.2 (fun m q l S' ρ' A' ca p0 p1 h2 h3 m1 hc1 hr1 ht hx=>?_) fun e S' ρ' A' ca hbad he m1 hc1 hr1 ht hx=>?_
 ·rw[if_neg (by decide)]
  rw[if_neg (by omega),h2] at hQ
  have hll:=(hr.wk.pg m q l h3).2.2.1
  have e:spB l 0 ((W.vm n).disk sec.toNat)=(W.vm n).disk sec.toNat:=by
   unfold spB
   rw[List.take_zero,List.nil_append,List.drop_of_length_le (by omega),List.append_nil]
  rw[e] at hc1 hr1
  exact hQ S' ⟨ρ',A',_,φ,m1.mono fun r hr=>by unfold Rc;omega,hc1,hr1,kp1,ht,fun i=>by rw[hx]⟩
 ·rw[if_pos he]
  have hA:After h A C S ρ W S':=⟨ρ',A',_,φ,m1.mono fun r hr=>by unfold Rc;omega,hc1,hr1,kp1,ht,fun i=>by rw[hx]⟩
  by_cases hp:p<0∨31<p
  ·rw[if_pos hp] at hQ;exact hQ S' hA
  ·rw[if_neg hp] at hQ
   rcases hbad with h2 | h2 | h2 | ⟨m,q,h2⟩
   ·exact absurd (.inl h2) hp
   ·exact absurd (.inr h2) hp
   ·rw[h2] at hQ;exact hQ S' hA
   ·rw[h2] at hQ;exact hQ S' hA
theorem zkJ (hc:CrabA S ρ h A C) (hr:Rel C W φ) {n:Nat} (hn:n<6) (hon:(W.vm n).on=true) {sec p:Int} {Q:Int→Mem→Prop} (hQ:∀ S',After h A C S ρ (W.save n sec p).2 S'→Q (W.save n sec p).1 S'):jP S (some (h,0)) n sec p Q:=by
 unfold Wd.save at hQ
 apply zdP
 unfold vV
 simp only[jn]
 by_cases h0:sec<0
 ·rw[if_pos (.inl h0)] at hQ
  rw[if_pos h0];exact hQ S (After.here hc hr)
 rw[if_neg h0]
 by_cases h1:4≤sec
 ·rw[if_pos (.inr (by omega))] at hQ
  rw[if_pos h1];exact hQ S (After.here hc hr)
 rw[if_neg h1]
 rw[if_neg (by omega)] at hQ
 have hj:sec.toNat<4:=by omega
 have hb:([eP (some (h,0)),.int .i64 n]:List Value)=busL h n:=rfl
 rw[hb]
 refine zdD hc hr hn hon (off:=0) (k:=256) (by decide) (by decide) (fun m q w l t S1 ρ1 A1 ca p0 p1 h2 h3 m1 hc1 hr1 ht hx hrow hfr=>?_) fun e S1 hbad he hk=>?_
 ·rw[if_neg (by omega),h2] at hQ
  rw[if_neg (by decide),zL,zS hc1.c3,zL]
  refine⟨by omega,by omega,by omega,by omega,?_⟩
  have hll:=hr.wk.pg m q l h3
  have e:rdB l 0 256=l:=by
   unfold rdB
   rw[List.drop_zero,List.take_of_length_le (by omega)]
  rw[e] at hrow
  dsimp only at hQ
  rw[h3,Option.getD_some] at hQ
  obtain⟨ρ2,m2,hw,h4⟩:=zmh (r:=60+4*n+sec.toNat) m1 hrow hfr (zcX hc.gl)
  have hc2:=CrabA.wide hw hc1
  have hv2:=hc2.vs n hn
  have hdisk:∀ j,j<4→Rw S1 ρ2 (60+4*n+j) 1 (upd (A1.x n).d sec.toNat t j) (bL (((C.vm n).setDisk sec.toNat l).disk j)):=fun j hj4=>by
   show Rw S1 ρ2 _ 1 _ (bL (upd (C.vm n).disk sec.toNat l j))
   by_cases e:j=sec.toNat
   ·rw[e,zl,zl];exact h4
   ·rw[zh e,zh e];exact hv2.di j hj4
  have hvn:VmP S1 ρ2 n { A1.x n with d:=upd (A1.x n).d sec.toNat t } ((C.vm n).setDisk sec.toNat l) (C.fr n):=⟨hv2.se,hv2.r,hv2.fr,hv2.ke,hdisk⟩
  have he:∀ j,j<4→spl (vmC (A1.x n) (C.vm n) (C.tf n) (C.late n)) (7+j) [eL t]=vmC { A1.x n with d:=upd (A1.x n).d j t } ((C.vm n).setDisk j l) (C.tf n) (C.late n):=fun j hj4=>by
   match j,hj4 with
   | 0,_=>rfl
   | 1,_=>rfl
   | 2,_=>rfl
   | 3,_=>rfl
  rw[Int.toNat_natCast]
  refine zdc hc2 (j:=7+sec.toNat) hn (by omega) rfl (by simp;omega) (he sec.toNat hj) hvn fun S2 m3 hc3=>?_
  have hsame:=zej (C:={ C with cache:=ca }) (n:=n) (v':=(C.vm n).setDisk sec.toNat l)
  have hc3':CrabA S2 ρ2 h { A1 with x:=upd A1.x n { A1.x n with d:=upd (A1.x n).d sec.toNat t } } { C with cache:=ca,vm:=upd C.vm n ((C.vm n).setDisk sec.toNat l) }:=by
   have:=hc3
   rw[hsame] at this
   exact this
  have hwo:WOk (W.setV n ((W.vm n).setDisk sec.toNat l)):=hr.wk.setV hon hon rfl (hr.wk.ok n) (hr.wk.keys n) (fun j=>by
   show ((upd (W.vm n).disk sec.toNat l) j).length=256∧Byt ((upd (W.vm n).disk sec.toNat l) j)
   by_cases e:j=sec.toNat
   ·rw[e,zl];exact hll.2.2
   ·rw[zh e];exact hr.wk.disk n j hon) rfl rfl
  have hrel:=hr1.setV (v:=(W.vm n).setDisk sec.toNat l) hon hon hwo
  refine hQ S2 ⟨ρ2,_,_,φ,(m2.mono fun r hr=>by unfold Rc;omega).trans (m3.mono fun r hr=>by unfold Rc;omega),hc3',?_,kp1,ht,fun i=>?_⟩
  ·have e2:=hr.vm
   rw[e2] at hrel ⊢;exact hrel
  ·show (upd A1.x n { A1.x n with d:=upd (A1.x n).d sec.toNat t } i).ss=(A.x i).ss
   rw[hx]
   by_cases e:i=n
   ·rw[e,zl]
   ·rw[zh e]
 ·rw[if_pos he]
  have hA:=After.keeps hc hr hk
  by_cases hp:p<0∨31<p
  ·rw[if_pos hp] at hQ;exact hQ S1 hA
  ·rw[if_neg hp] at hQ
   rcases hbad with h2 | h2 | h2
   ·exact absurd (.inl h2) hp
   ·exact absurd (.inr h2) hp
   ·rw[h2] at hQ;exact hQ S1 hA
end
end
end Go.Proofs.YthaiblbnpcgjpaaGreatDoor
namespace Go.Cr
section
open Go Go.Pt
structure Sam (W W':Wd):Prop where
 on:∀ i,(W'.vm i).on=(W.vm i).on
 len:∀ i,(W'.vm i).seats.length=(W.vm i).seats.length
 ev:∀ i,(W'.ev i).length≤(W.ev i).length+1
 time:W'.time=W.time
section
variable {W:Wd}
theorem Sam.refl:Sam W W:=⟨fun _=>rfl,fun _=>rfl,fun _=>Nat.le_succ _,rfl⟩
theorem Sam.setV {n:Nat} {v:Bv} (h1:v.on=(W.vm n).on) (h2:v.seats.length=(W.vm n).seats.length):Sam W (W.setV n v):=by
 refine⟨fun i=>?_,fun i=>?_,fun _=>Nat.le_succ _,rfl⟩
 ·show (upd W.vm n v i).on=_
  by_cases e:i=n
  ·subst e;rw[zl,h1]
  ·rw[zh e]
 ·show (upd W.vm n v i).seats.length=_
  by_cases e:i=n
  ·subst e;rw[zl,h2]
  ·rw[zh e]
theorem Sam.tell {n:Nat} {e:Evt}:Sam W (W.tell n e):=by
 refine⟨fun _=>rfl,fun _=>rfl,fun i=>?_,rfl⟩
 show (upd W.ev n (W.ev n++[e]) i).length≤_
 by_cases h:i=n
 ·subst h;rw[zl];simp
 ·rw[zh h];omega
structure Ans (W:Wd) (r:Int×Int×Wd):Prop where
 v:0≤r.1∧r.1≤255
 e:0≤r.2.1∧r.2.1≤13
 s:Sam W r.2.2
theorem Ans.err {v e:Int} (hv:0≤v∧v≤255) (he:0≤e∧e≤13):Ans W (v,e,W):=⟨hv,he,Sam.refl⟩
theorem zhs {n k i:Nat}:Ans W (0,W.raise n k i):=by
 unfold Wd.raise
 split
 ·exact Ans.err (by decide) (by decide)
 ·exact⟨show (0:Int)≤0∧(0:Int)≤255 by decide,show (0:Int)≤0∧(0:Int)≤13 by decide,Sam.setV rfl (by show ((W.vm n).seats.set k _).length=_;rw[List.length_set])⟩
theorem zlP {n:Nat} {p:Int}:0≤W.mine n p∧W.mine n p≤13:=by
 unfold Wd.mine
 split
 ·decide
 ·split <;> decide
theorem znG (h:WOk W) {n k:Nat} (hn:n<6) {c w1 w2 w3:Int}:Ans W (W.call n k c w1 w2 w3):=by
 have z:(0:Int)≤0∧(0:Int)≤255:=by decide
 have z2:(0:Int)≤0∧(0:Int)≤13:=by decide
 unfold Wd.call
 by_cases h1:c=0
 ·rw[if_pos h1]
  exact⟨z,z2,Sam.tell⟩
 rw[if_neg h1]
 by_cases h2:c=1
 ·rw[if_pos h2]
  unfold Wd.nextKey
  cases hk:(W.vm n).keys with
  | nil=>exact Ans.err z (by decide)
  | cons x l=>
   have:=(h.keys n).2 x (by rw[hk];simp)
   exact⟨this,z2,Sam.setV rfl rfl⟩
 rw[if_neg h2]
 by_cases h3:c=2
 ·rw[if_pos h3]
  unfold Wd.ring
  split
  ·exact Ans.err z (by decide)
  split
  ·exact Ans.err z (by decide)
  ·exact zhs
 rw[if_neg h3]
 by_cases h4:c=3
 ·rw[if_pos h4]
  exact⟨z,z2,⟨fun _=>rfl,fun _=>rfl,fun _=>Nat.le_succ _,rfl⟩⟩
 rw[if_neg h4]
 by_cases h5:c=4
 ·rw[if_pos h5]
  unfold Wd.offer
  split
  ·exact Ans.err z zlP
  split
  ·exact Ans.err z (by decide)
  split
  ·exact Ans.err z (by decide)
  cases hf:firstOff (fun i=>(W.ls i).on) 16 with
  | none=>exact Ans.err z (by decide)
  | some i=>
   have:=(qd hf).1
   exact⟨show (0:Int)≤(i:Int)∧(i:Int)≤255 by omega,z2,⟨fun _=>rfl,fun _=>rfl,fun _=>Nat.le_succ _,rfl⟩⟩
 rw[if_neg h5]
 by_cases h6:5≤c∧c≤7
 ·rw[if_pos h6]
  unfold Wd.lease
  have q:∀ i l,Ans W (0,0,W.setL i l):=fun i l=>⟨z,z2,⟨fun _=>rfl,fun _=>rfl,fun _=>Nat.le_succ _,rfl⟩⟩
  split
  ·exact Ans.err z (by decide)
  split
  ·exact Ans.err z (by decide)
  split
  ·split
   ·exact Ans.err z (by decide)
   ·exact q _ _
  split
  ·exact Ans.err z (by decide)
  split
  ·exact q _ _
  split
  ·exact Ans.err z (by decide)
  split
  ·exact Ans.err z (by decide)
  ·exact q _ _
 rw[if_neg h6]
 have q:∀ (W':Wd),W'.vm=W.vm→W'.ev=W.ev→W'.time=W.time→Ans W (0,0,W'):=fun W' h1 h2 h3=>⟨z,z2,⟨fun i=>by rw[h1],fun i=>by rw[h1],fun i=>by show (W'.ev i).length≤_;rw[h2];omega,h3⟩⟩
 by_cases h7:c=8
 ·rw[if_pos h7]
  unfold Wd.give
  split
  ·exact Ans.err z zlP
  split
  ·exact Ans.err z (by decide)
  ·exact q _ rfl rfl rfl
 rw[if_neg h7]
 by_cases h8:c=9
 ·rw[if_pos h8]
  unfold Wd.get
  split
  ·exact Ans.err z (by decide)
  split
  ·exact Ans.err z (by decide)
  split
  ·exact Ans.err z (by decide)
  split
  ·exact Ans.err z (by decide)
  ·exact q _ rfl rfl rfl
 rw[if_neg h8]
 by_cases h9:c=10
 ·rw[if_pos h9]
  unfold Wd.load
  split
  ·exact Ans.err z (by decide)
  split
  ·exact Ans.err z (by decide)
  cases hw:W.where_ n (small w2).toNat with
  | none=>exact Ans.err z (by decide)
  | some x=>
   obtain⟨m,q',b⟩:=x
   cases b with
   | false=>exact Ans.err z (by decide)
   | true=>exact q _ rfl rfl rfl
 rw[if_neg h9]
 by_cases h10:c=11
 ·rw[if_pos h10]
  unfold Wd.save
  split
  ·exact Ans.err z (by decide)
  split
  ·exact Ans.err z (by decide)
  cases hw:W.where_ n (small w2).toNat with
  | none=>exact Ans.err z (by decide)
  | some x=>exact⟨z,z2,Sam.setV rfl rfl⟩
 rw[if_neg h10]
 by_cases h11:c=12
 ·rw[if_pos h11]
  exact Ans.err (by omega) z2
 rw[if_neg h11]
 by_cases h12:c=13
 ·rw[if_pos h12]
  exact⟨z,z2,Sam.setV rfl (by show ((W.vm n).seats.set k _).length=_;rw[List.length_set])⟩
 rw[if_neg h12]
 exact Ans.err z (by decide)
end
end
end Go.Cr
