/- Texts of this work,joined by program (pack.py). -/
import Derived.Test.YtabdpmnhjlmnlaaGreatDoorQBK
import Derived.Test.YtabdpmnhjlmnlaaGreatDoorQBI
import Derived.Test.YtabdpmnhjlmnlaaGreatDoorQBH
import Derived.Test.YtabdpmnhjlmnlaaGreatDoorQBD
set_option linter.unusedVariables false
section
namespace Go.Cr
open Go Go.Pt
def lsC (ls:Nat→Ls):List Value:=cF 16 fun i=>lsL (ls i)
theorem lsC_len {ls:Nat→Ls}:(lsC ls).length=96:=wd (w:=6) fun _ _=>rfl
theorem zgR {ls:Nat→Ls} {i j x:Nat} (hi:i<16) (hj:j<6) (hx:x=i*6+j):nthL (lsC ls) x=nthL (lsL (ls i)) j:=by
 subst hx;exact zdL (w:=6) (fun _ _=>rfl) hi hj
theorem zeq {ls:Nat→Ls} {i x:Nat} (hi:i<16) (hx:x=i*6):lpart (lsC ls) x 6=some (lsL (ls i)):=by
 subst hx
 have:=zhf (w:=6) (k:=0) (m:=6) (n:=16) (f:=fun i=>lsL (ls i)) (fun _ _=>rfl) hi (by decide)
 rw[Nat.add_zero] at this
 exact this
theorem zgQ {ls:Nat→Ls} {i j x:Nat} {vs:List Value} {l:Ls} (hi:i<16) (hx:x=i*6+j) (hj:j+vs.length≤6) (he:spl (lsL (ls i)) j vs=lsL l):spl (lsC ls) x vs=lsC (upd ls i l):=by
 subst hx
 unfold lsC
 rw[zfA (w:=6) (fun _ _=>rfl) hi hj,he]
 refine yn fun g _=>?_
 by_cases e:g=i
 ·subst e;simp only[zi]
 ·simp only[zk e]
theorem zqT {n:Nat} {f:Nat→List Value} (h:∀ i,i<n→(f i).all (·.oneCell')=true):(cF n f).all (·.oneCell')=true:=by
 rw[List.all_eq_true]
 intro x hx
 obtain⟨i,hi,h2⟩:=znQ hx
 exact List.all_eq_true.1 (h i hi) x h2
theorem ql {ls:Nat→Ls}:(lsC ls).all (·.oneCell')=true:=zqT fun _ _=>rfl
end Go.Cr
namespace Go.Proofs.YtabdpmnhjlmnlaaGreatDoor
open Go Go.Pt Go.Cr
section
variable {S:Mem} {ls:Nat→Ls}
theorem zaw {n:Int} {Q:List Value→Int→Mem→Prop} (hY:0≤n→n≤15→(ls n.toNat).on=true→Q (lsL (ls n.toNat)) 0 S) (hN:(n<0∨15<n∨(ls n.toNat).on=false)→Q (lsL ls0) 2 S):yi S (lsC ls) n Q:=by
 apply zdZ
 unfold kE
 refine⟨lsC_len,?_⟩
 simp only[jn]
 by_cases h0:n<0
 ·rw[if_pos h0];exact hN (.inl h0)
 rw[if_neg h0]
 by_cases h1:16≤n
 ·rw[if_pos h1];exact hN (.inr (.inl (by omega)))
 rw[if_neg h1]
 refine⟨by omega,by omega,?_⟩
 rw[fM (zgR (i:=n.toNat) (j:=0) (by omega) (by decide) (by omega))]
 cases hon:(ls n.toNat).on with
 | false=>rw[if_neg (by decide)];exact hN (.inr (.inr hon))
 | true=>
  rw[if_pos rfl]
  refine⟨rfl,by omega,by omega,?_⟩
  rw[gD (zeq (i:=n.toNat) (by omega) (by omega))]
  exact⟨rfl,hY (by omega) (by omega) hon⟩
theorem zbF {n:Int} {p:Int} {Q:Bool→Mem→Prop} (hQ:Q (decide (0≤n∧n<6∧0≤p∧p<32)) S):je S n p Q:=by
 apply zgy
 unfold fE
 by_cases h0:0≤n
 ·rw[if_pos h0]
  by_cases h1:n<6
  ·rw[if_pos h1]
   by_cases h2:0≤p
   ·rw[if_pos h2]
    have e:decide (0≤n∧n<6∧0≤p∧p<32)=decide (p<32):=decide_eq_decide.2 ⟨fun h=>h.2.2.2,fun h=>⟨h0,h1,h2,h⟩⟩
    rw[e] at hQ;exact hQ
   ·rw[if_neg h2];rw[decide_eq_false (fun h=>h2 h.2.2.1)] at hQ;exact hQ
  ·rw[if_neg h1];rw[decide_eq_false (fun h=>h1 h.2.1)] at hQ;exact hQ
 ·rw[if_neg h0];rw[decide_eq_false (fun h=>h0 h.1)] at hQ;exact hQ
def z96:List Value:=[.bool false,.int .i64 0,.int .i64 0,.int .i64 0,.bool false,.int .i64 0]
theorem zhO {n vm at_:Int} (hvm:0≤vm∧vm<6) {Q:List Value→Int→Mem→Prop}
  (h2:(n<0∨15<n∨(ls n.toNat).on=false)→Q (lsC ls) 2 S)
  (h7:0≤n→n≤15→(ls n.toNat).on=true→((ls n.toNat).to:Int)≠vm→Q (lsC ls) 7 S)
  (h8:0≤n→n≤15→(ls n.toNat).on=true→((ls n.toNat).to:Int)=vm→0≤(ls n.toNat).at_→Q (lsC ls) 8 S)
  (h1:0≤n→n≤15→(ls n.toNat).on=true→((ls n.toNat).to:Int)=vm→(ls n.toNat).at_<0→(at_<0∨31<at_)→Q (lsC ls) 1 S)
  (h0:0≤n→n≤15→(ls n.toNat).on=true→((ls n.toNat).to:Int)=vm→(ls n.toNat).at_<0→0≤at_→at_≤31→Q (lsC (upd ls n.toNat ((ls n.toNat).setA at_))) 0 S):vC S (lsC ls) n vm at_ Q:=by
 apply zby
 unfold wJ
 refine⟨lsC_len,?_⟩
 simp only[jn]
 refine zaw (fun a b hon=>?_) fun hbad=>?_
 ·refine⟨rfl,?_⟩
  rw[if_neg (by decide),zB (show nthL (lsL (ls n.toNat)) 3=some (.int .i64 (ls n.toNat).to) from rfl)]
  by_cases ht:((ls n.toNat).to:Int)=vm
  ·rw[if_neg (fun h=>h ht),zB (show nthL (lsL (ls n.toNat)) 5=some (.int .i64 (ls n.toNat).at_) from rfl)]
   by_cases hat:0≤(ls n.toNat).at_
   ·rw[if_pos hat];exact⟨ql,h8 a b hon ht hat⟩
   ·rw[if_neg hat]
    refine zbF ?_
    by_cases hp:0≤at_∧at_≤31
    ·rw[decide_eq_true ⟨hvm.1,hvm.2,hp.1,by omega⟩,if_pos rfl]
     refine⟨rfl,a,by omega,?_⟩
     rw[zgQ (i:=n.toNat) (j:=5) (l:=((ls n.toNat).setA at_)) (by omega) (by omega) (by simp) rfl]
     exact⟨ql,h0 a b hon ht (by omega) hp.1 hp.2⟩
    ·rw[decide_eq_false (fun h=>hp ⟨h.2.2.1,by omega⟩),if_neg (by decide)]
     exact⟨ql,h1 a b hon ht (by omega) (by omega)⟩
  ·rw[if_pos ht];exact⟨ql,h7 a b hon ht⟩
 ·refine⟨rfl,?_⟩
  rw[if_pos (by decide)]
  exact⟨ql,h2 hbad⟩
theorem ziM {n vm:Int} {Q:List Value→Int→Mem→Prop}
  (h2:(n<0∨15<n∨(ls n.toNat).on=false)→Q (lsC ls) 2 S)
  (h7:0≤n→n≤15→(ls n.toNat).on=true→((ls n.toNat).to:Int)≠vm→Q (lsC ls) 7 S)
  (h10:0≤n→n≤15→(ls n.toNat).on=true→((ls n.toNat).to:Int)=vm→(ls n.toNat).at_<0→Q (lsC ls) 10 S)
  (h0:0≤n→n≤15→(ls n.toNat).on=true→((ls n.toNat).to:Int)=vm→0≤(ls n.toNat).at_→Q (lsC (upd ls n.toNat ((ls n.toNat).setA (-1)))) 0 S):wC S (lsC ls) n vm Q:=by
 apply zcj
 unfold ve
 refine⟨lsC_len,?_⟩
 simp only[jn]
 refine zaw (fun a b hon=>?_) fun hbad=>?_
 ·refine⟨rfl,?_⟩
  rw[if_neg (by decide),zB (show nthL (lsL (ls n.toNat)) 3=some (.int .i64 (ls n.toNat).to) from rfl)]
  by_cases ht:((ls n.toNat).to:Int)=vm
  ·rw[if_neg (fun h=>h ht),zB (show nthL (lsL (ls n.toNat)) 5=some (.int .i64 (ls n.toNat).at_) from rfl)]
   by_cases hat:(ls n.toNat).at_<0
   ·rw[if_pos hat];exact⟨ql,h10 a b hon ht hat⟩
   ·rw[if_neg hat]
    refine⟨rfl,a,by omega,?_⟩
    rw[zgQ (i:=n.toNat) (j:=5) (l:=((ls n.toNat).setA (-1))) (by omega) (by omega) (by simp) rfl]
    exact⟨ql,h0 a b hon ht (by omega)⟩
  ·rw[if_pos ht];exact⟨ql,h7 a b hon ht⟩
 ·refine⟨rfl,?_⟩
  rw[if_pos (by decide)]
  exact⟨ql,h2 hbad⟩
theorem zfM {n vm:Int} {Q:List Value→Int→Mem→Prop}
  (h2:(n<0∨15<n∨(ls n.toNat).on=false)→Q (lsC ls) 2 S)
  (h7:0≤n→n≤15→(ls n.toNat).on=true→((ls n.toNat).fr:Int)≠vm→Q (lsC ls) 7 S)
  (h8:0≤n→n≤15→(ls n.toNat).on=true→((ls n.toNat).fr:Int)=vm→0≤(ls n.toNat).at_→Q (lsC ls) 8 S)
  (h0:0≤n→n≤15→(ls n.toNat).on=true→((ls n.toNat).fr:Int)=vm→(ls n.toNat).at_<0→Q (lsC (upd ls n.toNat ls0)) 0 S):yD S (lsC ls) n vm Q:=by
 apply zai
 unfold xN
 refine⟨lsC_len,?_⟩
 simp only[jn]
 refine zaw (fun a b hon=>?_) fun hbad=>?_
 ·refine⟨rfl,?_⟩
  rw[if_neg (by decide),zB (show nthL (lsL (ls n.toNat)) 1=some (.int .i64 (ls n.toNat).fr) from rfl)]
  by_cases ht:((ls n.toNat).fr:Int)=vm
  ·rw[if_neg (fun h=>h ht),zB (show nthL (lsL (ls n.toNat)) 5=some (.int .i64 (ls n.toNat).at_) from rfl)]
   by_cases hat:0≤(ls n.toNat).at_
   ·rw[if_pos hat];exact⟨ql,h8 a b hon ht hat⟩
   ·rw[if_neg hat]
    refine⟨rfl,a,by omega,?_⟩
    rw[zgQ (i:=n.toNat) (j:=0) (l:=ls0) (by omega) (by omega) (by simp) rfl]
    exact⟨ql,h0 a b hon ht (by omega)⟩
  ·rw[if_pos ht];exact⟨ql,h7 a b hon ht⟩
 ·refine⟨rfl,?_⟩
  rw[if_pos (by decide)]
  exact⟨ql,h2 hbad⟩
theorem znm {vm page:Int} {Q:Int→Mem→Prop}
  (hY:∀ i:Nat,i<16→(ls i).on=true→((ls i).to:Int)=vm→(ls i).at_=page→0≤page→Q i S)
  (hN:(∀ i,i<16→¬((ls i).on=true∧((ls i).to:Int)=vm∧(ls i).at_=page∧0≤page))→Q (-1) S):fc S (lsC ls) vm page Q:=by
 apply zeC
 unfold ju
 refine⟨lsC_len,?_⟩
 simp only[jn]
 refine zM (fun (z:Int) S'=>∃ i:Nat,z=(i:Int)∧i≤16∧S'=S∧∀ j,j<i→¬((ls j).on=true∧((ls j).to:Int)=vm∧(ls j).at_=page∧0≤page)) (fun z=>16-z.toNat) ?_ ⟨0,rfl,by omega,rfl,fun _ h=>by omega⟩
 rintro X z S' ⟨i,rfl,hi,rfl,hno⟩ ih
 by_cases hlt:(i:Int)<16
 ·rw[if_pos hlt]
  refine⟨by omega,by omega,?_⟩
  rw[Int.toNat_natCast,gD (zeq (i:=i) (by omega) rfl)]
  refine⟨rfl,?_⟩
  have go:¬((ls i).on=true∧((ls i).to:Int)=vm∧(ls i).at_=page∧0≤page)→X (IntKind.i64.wrap ((i:Int)+1)) S':=fun hn=>by
   rw[w64 (by omega) (by omega)]
   refine ih _ S' ⟨i+1,rfl,by omega,rfl,fun j hj=>?_⟩ (by omega)
   by_cases e:j=i
   ·subst e;exact hn
   ·exact hno j (by omega)
  rw[fM (show nthL (lsL (ls i)) 0=some (.bool (ls i).on) from rfl)]
  by_cases hon:(ls i).on=true
  ·rw[if_pos hon,zB (show nthL (lsL (ls i)) 3=some (.int .i64 (ls i).to) from rfl)]
   by_cases ht:((ls i).to:Int)=vm
   ·rw[if_pos ht,zB (show nthL (lsL (ls i)) 5=some (.int .i64 (ls i).at_) from rfl)]
    by_cases hat:(ls i).at_=page
    ·rw[if_pos hat]
     by_cases h0:0≤page
     ·rw[if_pos h0];exact hY i (by omega) hon ht hat h0
     ·rw[if_neg h0];exact go fun h=>h0 h.2.2.2
    ·rw[if_neg hat];exact go fun h=>hat h.2.2.1
   ·rw[if_neg ht];exact go fun h=>ht h.2.1
  ·rw[if_neg hon];exact go fun h=>hon h.1
 ·rw[if_neg hlt]
  exact hN fun j hj=>hno j (by omega)
theorem zkx {vm:Nat} {page:Int} {Q:Bool→Mem→Prop} (hQ:Q (lentL ls vm page) S):jf S (lsC ls) vm page Q:=by
 apply zcU
 unfold vL
 refine⟨lsC_len,?_⟩
 simp only[jn]
 refine zM (fun (z:Int) S'=>∃ i:Nat,z=(i:Int)∧i≤16∧S'=S∧∀ j,j<i→¬((ls j).on=true∧(ls j).fr=vm∧((ls j).pg:Int)=page)) (fun z=>16-z.toNat) ?_ ⟨0,rfl,by omega,rfl,fun _ h=>by omega⟩
 rintro X z S' ⟨i,rfl,hi,rfl,hno⟩ ih
 by_cases hlt:(i:Int)<16
 ·rw[if_pos hlt]
  refine⟨by omega,by omega,?_⟩
  rw[Int.toNat_natCast,gD (zeq (i:=i) (by omega) rfl)]
  refine⟨rfl,?_⟩
  have go:¬((ls i).on=true∧(ls i).fr=vm∧((ls i).pg:Int)=page)→X (IntKind.i64.wrap ((i:Int)+1)) S':=fun hn=>by
   rw[w64 (by omega) (by omega)]
   refine ih _ S' ⟨i+1,rfl,by omega,rfl,fun j hj=>?_⟩ (by omega)
   by_cases e:j=i
   ·subst e;exact hn
   ·exact hno j (by omega)
  rw[fM (show nthL (lsL (ls i)) 0=some (.bool (ls i).on) from rfl)]
  by_cases hon:(ls i).on=true
  ·rw[if_pos hon,zB (show nthL (lsL (ls i)) 1=some (.int .i64 (ls i).fr) from rfl)]
   by_cases ht:((ls i).fr:Int)=vm
   ·rw[if_pos ht,zB (show nthL (lsL (ls i)) 2=some (.int .i64 (ls i).pg) from rfl)]
    by_cases hat:((ls i).pg:Int)=page
    ·rw[if_pos hat]
     have e:lentL ls vm page=true:=by
      unfold lentL
      rw[List.any_eq_true]
      refine⟨i,List.mem_range.2 (by omega),?_⟩
      have:(ls i).fr=vm:=by omega
      simp[hon,this,hat]
     rw[e] at hQ;exact hQ
    ·rw[if_neg hat];exact go fun h=>hat h.2.2
   ·rw[if_neg ht];exact go fun h=>ht (by omega)
  ·rw[if_neg hon];exact go fun h=>hon h.1
 ·rw[if_neg hlt]
  have e:lentL ls vm page=false:=by
   unfold lentL
   rw[List.any_eq_false]
   intro j hj
   have:=hno j (by have:=List.mem_range.1 hj;omega)
   simp only[Bool.and_eq_true,decide_eq_true_eq]
   exact this
  rw[e] at hQ;exact hQ
theorem ziL {vm to p:Nat} {w:Bool} (hvm:vm<6) (hto:to<6) (hp:p<32) {Q:List Value→Int→Int→Mem→Prop}
  (h1:vm=to→Q (lsC ls) 0 1 S)
  (h3:vm≠to→firstOff (fun i=>(ls i).on) 16=none→Q (lsC ls) 0 3 S)
  (h0:∀ i,vm≠to→firstOff (fun i=>(ls i).on) 16=some i→Q (lsC (upd ls i ⟨true,vm,p,to,w,-1⟩)) i 0 S):kj S (lsC ls) vm p to w Q:=by
 apply zci
 unfold vd
 refine⟨lsC_len,?_⟩
 simp only[jn]
 refine zbF ?_
 rw[decide_eq_true ⟨by omega,by omega,by omega,by omega⟩,if_pos rfl]
 refine zbF ?_
 rw[decide_eq_true ⟨by omega,by omega,by omega,by omega⟩,if_pos rfl]
 by_cases he:vm=to
 ·rw[if_pos (by omega)]
  exact⟨ql,h1 he⟩
 rw[if_neg (by omega)]
 refine⟨rfl,?_⟩
 refine zM (fun (z:Int×List Value×List Value) S'=>∃ (i:Nat) (v:List Value),z=((i:Int),lsC ls,v)∧v.length=96∧i≤16∧S'=S∧∀ j,j<i→(ls j).on=true) (fun z=>16-z.1.toNat) ?_ ⟨0,_,rfl,rfl,by omega,rfl,fun _ h=>by omega⟩
 rintro X z S' ⟨i,v,rfl,hv,hi,rfl,hno⟩ ih
 dsimp only at ih ⊢
 refine⟨lsC_len,hv,?_⟩
 by_cases hlt:(i:Int)<16
 ·rw[if_pos hlt]
  refine⟨by omega,by omega,?_⟩
  rw[Int.toNat_natCast,gD (zeq (i:=i) (by omega) rfl)]
  refine⟨rfl,?_⟩
  rw[fM (show nthL (lsL (ls i)) 0=some (.bool (ls i).on) from rfl)]
  cases hon:(ls i).on with
  | true=>
   rw[if_pos rfl,w64 (by omega) (by omega)]
   refine ih _ S' ⟨i+1,v,rfl,hv,by omega,rfl,fun j hj=>?_⟩ (by dsimp only;omega)
   by_cases e:j=i
   ·subst e;exact hon
   ·exact hno j (by omega)
  | false=>
   rw[if_neg (by decide)]
   refine⟨by omega,by omega,?_⟩
   rw[zgQ (i:=i) (j:=0) (l:=⟨true,vm,p,to,w,-1⟩) (by omega) (by omega) (by simp) rfl]
   exact⟨ql,h0 i he (jl (by omega) hon hno)⟩
 ·rw[if_neg hlt]
  refine⟨lsC_len,hv,ql,h3 he ?_⟩
  cases hf:firstOff (fun i=>(ls i).on) 16 with
  | none=>rfl
  | some g=>
   obtain⟨a,b,_⟩:=zZ hf
   rw[hno g (by omega)] at b;cases b
end
end Go.Proofs.YtabdpmnhjlmnlaaGreatDoor
end
namespace Go.Cr
section
open Go Go.Pt
section
variable {C:Cst} {W:Wd} {φ:Nat→Nat→Nat}
theorem WOk.setL (h:WOk W) {i:Nat} {l:Ls} (hi:i<16)
  (h1:l.on=true→(W.vm l.fr).on=true∧(W.vm l.to).on=true∧l.fr≠l.to∧(W.own l.fr l.pg).isSome=true∧-1≤l.at_∧l.at_≤31) (h2:l.on=false→l=ls0) (h3:l.on=true→∀ p:Nat,l.at_=p→W.own l.to p=none)
  (h4:l.on=true→0≤l.at_→∀ j,j≠i→(W.ls j).on=true→(W.ls j).to=l.to→(W.ls j).at_≠l.at_):WOk (W.setL i l):=by
 have e0:(W.setL i l).ls i=l:=zi
 have e1:∀ j,j≠i→(W.setL i l).ls j=W.ls j:=fun j hj=>zk hj
 refine { h with lsr:=fun j hj=>?_,lso:=fun j hj=>?_,lsa:=fun j hj=>?_,lsu:=fun j k hj hk ht h0 ha=>?_ }
 ·by_cases e:j=i
  ·subst e;rw[e0] at hj ⊢;exact⟨hi,h1 hj⟩
  ·rw[e1 j e] at hj ⊢;exact h.lsr j hj
 ·by_cases e:j=i
  ·subst e;rw[e0] at hj ⊢;exact h2 hj
  ·rw[e1 j e] at hj ⊢;exact h.lso j hj
 ·by_cases e:j=i
  ·subst e;rw[e0] at hj ⊢;exact h3 hj
  ·rw[e1 j e] at hj ⊢;exact h.lsa j hj
 ·by_cases e:j=i
  ·by_cases e2:k=i
   ·rw[e,e2]
   ·subst e
    rw[e0] at hj h0 ht ha
    rw[e1 k e2] at hk ht ha
    exact absurd ha.symm (h4 hj h0 k e2 hk ht.symm)
  ·by_cases e2:k=i
   ·subst e2
    rw[e0] at hk ht ha
    rw[e1 j e] at hj ht h0 ha
    exact absurd ha (h4 hk (by omega) j e hj ht)
   ·rw[e1 j e] at hj ht h0 ha
    rw[e1 k e2] at hk ht ha
    exact h.lsu j k hj hk ht h0 ha
theorem zkD {p q:Nat→Bool} {n:Nat} (h:∀ i,i<n→p i=q i):(List.range n).find? p=(List.range n).find? q:=by
 have:=zfO (u:=fun i=>! p i) (u':=fun i=>! q i) (N:=n) fun i hi=>by rw[h i hi]
 simpa [firstOff] using this
theorem zfl {ls:Nat→Ls} {i:Nat} {l:Ls} {m:Nat} {p:Int} (h1:¬((ls i).on=true∧(ls i).to=m∧(ls i).at_=p)) (h2:¬(l.on=true∧l.to=m∧l.at_=p)):leaseAt (upd ls i l) m p=leaseAt ls m p:=by
 unfold leaseAt
 apply zkD
 intro j _
 by_cases e:j=i
 ·subst e
  rw[zi]
  rw[Bool.eq_iff_iff]
  simp only[Bool.and_eq_true,decide_eq_true_eq]
  exact⟨fun h=>absurd h h2,fun h=>absurd h h1⟩
 ·rw[zk e]
theorem yb {ls:Nat→Ls} {m i:Nat} {p:Int} (h:leaseAt ls m p=some i):i<16∧(ls i).on=true∧(ls i).to=m∧(ls i).at_=p:=by
 have h1:=List.find?_some h
 have h2:=List.mem_of_find?_eq_some h
 simp only[Bool.and_eq_true,decide_eq_true_eq] at h1
 exact⟨List.mem_range.1 h2,h1⟩
theorem zdj (h:WOk W) {i:Nat} {p:Int} (hon:(W.ls i).on=true) (ha:(W.ls i).at_=p) (h0:0≤p):leaseAt W.ls (W.ls i).to p=some i:=by
 have hi:=(h.lsr i hon).1
 cases hf:leaseAt W.ls (W.ls i).to p with
 | none=>
  have:=List.find?_eq_none.1 hf i (List.mem_range.2 hi)
  simp[hon,ha] at this
 | some j=>
  obtain⟨_,h1,h2,h3⟩:=yb hf
  rw[h.lsu i j hon h1 h2.symm (by omega) (by rw[ha,h3])]
theorem zcE {ls:Nat→Ls} {i:Nat} (hi:i<16) (l:Ls) (n p:Nat):lentN (upd ls i l) n p+((ls i).on && (decide ((ls i).fr=n) && decide ((ls i).pg=p))).toNat=lentN ls n p+(l.on && (decide (l.fr=n) && decide (l.pg=p))).toNat:=by
 unfold lentN
 have e:(fun j=>(upd ls i l j).on && (decide ((upd ls i l j).fr=n) && decide ((upd ls i l j).pg=p)))=upd (fun j=>(ls j).on && (decide ((ls j).fr=n) && decide ((ls j).pg=p))) i (l.on && (decide (l.fr=n) && decide (l.pg=p))):=by
  funext j
  unfold upd
  split <;> rfl
 rw[e]
 exact jq (g:=fun j=>(ls j).on && (decide ((ls j).fr=n) && decide ((ls j).pg=p))) hi _
theorem zkY {d:Nat→List Int} {N:Nat} {tf:Int} {fr:List Nat} (hl:fr.length=5) (hN:∀ j,j<5→fr.getD j 0<N) (hr:∀ j,j<4→unp tf (ld d (fr.getD 0 0) j)=some (fr.getD (j+1) 0,true)) {p:Nat} (hp:p<32):walkC d N tf fr p=unp tf (ld d (fr.getD (p/8+1) 0) (p%8)):=by
 have h1:=hr (p/8) (by omega)
 have h2:=hN (p/8+1) (by omega)
 have h3:=hN 0 (by decide)
 match fr,hl with
 | [a,b,c,e,g],_=>
  unfold walkC leafC
  rw[if_neg (by omega)]
  dsimp only
  rw[List.getD_cons_zero] at h1 h3
  have e1:((p:Int)/8).toNat=p/8:=by omega
  have e2:((p:Int)%8).toNat=p%8:=by omega
  rw[if_pos h3,e1,e2,h1]
  dsimp only [Option.map_some]
  rw[if_pos h2]
structure Tu (C:Cst) (n p:Nat) (w:Int) (d:Nat→List Int):Prop where
 ld:∀ m j i,C.fr m≠[]→j<5→i<32→Go.Cr.ld d ((C.fr m).getD j 0) i=if m=n∧j=p/8+1∧i=p%8 then w else Go.Cr.ld C.dat ((C.fr m).getD j 0) i
 oth:∀ f,(C.own f).kind≠2→d f=C.dat f
 len:∀ f,f<C.N→(d f).length=256∧Byt (d f)
theorem Rel.tu (h:Rel C W φ) {n p:Nat} (hn:(W.vm n).on=true) (hp:p<32) {w:Int} (hw:W64 w):Tu C n p w (setC C.dat C.N (C.tf n) (C.fr n) p w):=by
 have e:setC C.dat C.N (C.tf n) (C.fr n) p w=wr C.dat ((C.fr n).getD (p/8+1) 0) (8*(p%8)) (bytes8 w):=by
  unfold setC
  rw[h.leafC hn hp]
  dsimp only
  rw[if_pos (h.frN hn (by omega)).1]
 have hf:=h.frN hn (j:=p/8+1) (by omega)
 have hl:=(h.len _ hf.1).1
 have h8:=xe w
 rw[e]
 refine⟨fun m j i hm hj hi=>?_,fun f hk=>zqb fun e2=>?_,fun f hf'=>⟨by rw[zji (by rw[hl,h8];omega)];exact (h.len f hf').1,zjj (vF w) (h.len f hf').2⟩⟩
 ·rw[zqC hl (by omega) hi hw]
  have hmo:(W.vm m).on=true:=by
   cases hv:(W.vm m).on with
   | true=>rfl
   | false=>exact absurd (h.off m hv).1 hm
  have hmf:=h.frN hmo hj
  by_cases ee:m=n∧j=p/8+1∧i=p%8
  ·rw[if_pos ee,if_pos ⟨by rw[ee.1,ee.2.1],ee.2.2⟩]
  ·rw[if_neg ee,if_neg]
   rintro⟨e1,e2⟩
   apply ee
   have hmn:m=n:=by
    have:=hmf.2
    rw[e1,hf.2] at this
    simp only[Ow.mk.injEq] at this
    omega
   subst hmn
   refine⟨rfl,?_,e2⟩
   have hnd:=(h.tab m hmo).2.2
   have hlen:=(h.tab m hmo).2.1
   rw[List.getD_eq_getElem?_getD,List.getD_eq_getElem?_getD,List.getElem?_eq_getElem (by omega),List.getElem?_eq_getElem (by omega)] at e1
   exact (List.getElem_inj hnd).1 e1
 ·rw[e2,hf.2] at hk
  exact hk rfl
section
variable {n p:Nat} {w:Int} {d:Nat→List Int}
theorem Tu.root (t:Tu C n p w d) (h:Rel C W φ) {m j:Nat} (hm:(W.vm m).on=true) (hj:j<4):unp C.form (Go.Cr.ld d ((C.fr m).getD 0 0) j)=some ((C.fr m).getD (j+1) 0,true):=by
 have hne:C.fr m≠[]:=fun e=>by have:=(h.tab m hm).2.1;rw[e] at this;simp at this
 rw[t.ld m 0 j hne (by decide) (by omega),if_neg (by omega)]
 exact h.root m j hm hj
theorem Tu.leaf (t:Tu C n p w d) (h:Rel C W φ) {m q:Nat} (hm:(W.vm m).on=true) (hq:q<32):unp C.form (Go.Cr.ld d ((C.fr m).getD (q/8+1) 0) (q%8))=if m=n∧q=p then unp C.form w else (W.where_ m q).map fun x=>(φ x.1 x.2.1,x.2.2):=by
 have hne:C.fr m≠[]:=fun e=>by have:=(h.tab m hm).2.1;rw[e] at this;simp at this
 rw[t.ld m _ _ hne (by omega) (by omega)]
 by_cases e:m=n∧q=p
 ·rw[if_pos e,if_pos ⟨e.1,by rw[e.2],by rw[e.2]⟩]
 ·rw[if_neg e,if_neg (fun h=>e ⟨h.1,by omega⟩)]
  exact h.leaf m q hm hq
theorem Tu.walk (t:Tu C n p w d) (h:Rel C W φ) {m:Nat} (hm:(W.vm m).on=true) {page:Int} (hne:¬(m=n∧page=p)):walkC d C.N (C.tf m) (C.fr m) page=C.walk m page:=by
 by_cases hp:page<0∨31<page
 ·rw[zel hp]
  unfold walkC Go.Cr.leafC
  rw[if_pos hp]
 ·obtain⟨q,rfl⟩:∃ q:Nat,page=q:=⟨page.toNat,by omega⟩
  have hf:=(h.tab m hm).1
  rw[zkY (h.tab m hm).2.1 (fun j hj=>(h.frN hm hj).1) (fun j hj=>by rw[hf];exact t.root h hm hj) (by omega),hf,t.leaf h hm (by omega),if_neg (by omega),h.walk hm (by omega)]
theorem Tu.cache (t:Tu C n p w d) (h:Rel C W φ):∀ r∈dropC C.cache n p,∃ m:Nat,r.vm=m∧(W.vm m).on=true∧walkC d C.N (C.tf m) (C.fr m) r.page=some (r.f,r.w):=fun r hr=>by
 obtain⟨h1,h2⟩:=zft hr
 obtain⟨m,e1,e2,e3⟩:=h.cache r h1
 refine⟨m,e1,e2,?_⟩
 rw[t.walk h e2 (fun e=>h2 ⟨by rw[e1,e.1],e.2⟩)]
 exact e3
end
theorem where_own {n p:Nat} {l:List Int} (h:W.own n p=some l):W.where_ n p=some (n,p,true):=by
 unfold Wd.where_
 rw[h];rfl
theorem Rel.offer (h:Rel C W φ) {n p to i:Nat} {w:Bool} (hon:(W.vm n).on=true) (hto:(W.vm to).on=true) (hne:n≠to) {l:List Int} (ho:W.own n p=some l) (hi:firstOff (fun i=>(W.ls i).on) 16=some i):Rel { C with ls:=upd C.ls i ⟨true,n,p,to,w,-1⟩,own:=shC C.own (φ n p) n } (W.setL i ⟨true,n,p,to,w,-1⟩) φ:=by
 obtain⟨hi16,hioff,_⟩:=zZ hi
 have hpg:=h.pg n p l ho
 have hw:∀ m q,(W.setL i ⟨true,n,p,to,w,-1⟩).where_ m q=W.where_ m q:=fun m q=>by
  have e:=zfl (ls:=W.ls) (i:=i) (l:=⟨true,n,p,to,w,-1⟩) (m:=m) (p:=q) (fun h=>by rw[hioff] at h;cases h.1) (fun h=>by have:=h.2.2;simp only at this;omega)
  unfold Wd.where_
  show (if (W.own m q).isSome=true then _ else (leaseAt (upd W.ls i _) m q).map _)=_
  split
  ·rfl
  ·rw[e]
   cases hf:leaseAt W.ls m q with
   | none=>rfl
   | some j=>
    obtain⟨_,hj,_⟩:=yb hf
    have:j≠i:=fun e=>by subst e;rw[hioff] at hj;cases hj
    simp only[Option.map_some]
    show some ((upd W.ls i _ j).fr,(upd W.ls i _ j).pg,(upd W.ls i _ j).wr)=_
    rw[zk this]
 have hown:shC C.own (φ n p) n=upd C.own (φ n p) ⟨3,n,p,lentN W.ls n p+1⟩:=by
  unfold shC
  rw[hpg.2.1,if_pos ⟨rfl,rfl⟩]
 have hk:∀ f,(upd C.own (φ n p) ⟨3,n,p,lentN W.ls n p+1⟩ f).kind=(C.own f).kind:=fun f=>by
  by_cases e:f=φ n p
  ·rw[e,zi,hpg.2.1]
  ·rw[zk e]
 have hoth:∀ f,(C.own f).kind≠3→upd C.own (φ n p) ⟨3,n,p,lentN W.ls n p+1⟩ f=C.own f:=fun f hf=>zk fun e=>by rw[e,hpg.2.1] at hf;exact hf rfl
 have hlent:∀ m q,lentN (upd W.ls i ⟨true,n,p,to,w,-1⟩) m q=lentN W.ls m q+(decide (n=m) && decide (p=q)).toNat:=fun m q=>by
  have:=zcE (ls:=W.ls) hi16 ⟨true,n,p,to,w,-1⟩ m q
  rw[hioff] at this
  simpa using this
 rw[hown]
 exact { h with
  wk:=h.wk.setL hi16 (fun _=>⟨hon,hto,hne,by show (W.own n p).isSome=true;rw[ho];rfl,show (-1:Int)≤-1 by decide,show (-1:Int)≤31 by decide⟩) (fun h=>by cases h) (fun _ q hq=>by simp only at hq;omega) (fun _ h0=>by simp only at h0;omega)
  ls:=by show upd C.ls i _=upd W.ls i _;rw[h.ls]
  used:=fun f hf=>by show C.used f=decide ((upd C.own _ _ f).kind≠0);rw[hk];exact h.used f hf
  own0:=fun f hf h0=>by
   have h0':(upd C.own (φ n p) ⟨3,n,p,lentN W.ls n p+1⟩ f).kind=0:=h0
   rw[hk] at h0'
   show upd C.own _ _ f=ow0
   rw[hoth f (by rw[h0'];decide)];exact h.own0 f hf h0'
  kind:=fun f hf=>by show 0≤(upd C.own _ _ f).kind∧_;rw[hk];exact h.kind f hf
  tabf:=fun m f hm=>by
   have:=h.tabf m f hm
   refine⟨this.1,?_⟩
   show upd C.own _ _ f=_
   rw[hoth f (by rw[this.2];show (2:Int)≠3;decide)];exact this.2
  tabk:=fun f hf h2=>by
   have h2':(upd C.own (φ n p) ⟨3,n,p,lentN W.ls n p+1⟩ f).kind=2:=h2
   rw[hk] at h2';exact h.tabk f hf h2'
  leaf:=fun m q hm hq=>by rw[hw];exact h.leaf m q hm hq
  pg:=fun m q l2 hl2=>by
   have h3:=h.pg m q l2 hl2
   refine⟨h3.1,?_,h3.2.2⟩
   show upd C.own (φ n p) _ (φ m q)=⟨3,m,q,lentN (upd W.ls i _) m q⟩
   rw[hlent]
   by_cases e:n=m∧p=q
   ·obtain⟨rfl,rfl⟩:=e
    rw[zi];simp
   ·rw[zk (fun e2=>e (by have:=h.inj hl2 ho e2;exact⟨this.1.symm,this.2.symm⟩)),h3.2.1]
    have:(decide (n=m) && decide (p=q))=false:=by simpa using e
    rw[this];simp
  pgk:=fun f hf h3=>by
   have h3':(upd C.own (φ n p) ⟨3,n,p,lentN W.ls n p+1⟩ f).kind=3:=h3
   rw[hk] at h3';exact h.pgk f hf h3'
  hyp:=⟨h.hyp.1,fun f=>by
   show _↔f<C.N∧(upd C.own _ _ f).kind=1
   rw[hk];exact h.hyp.2 f⟩ }
theorem zdb {i:Nat} {l:Ls} {m q:Nat} (h1:¬((W.ls i).on=true∧(W.ls i).to=m∧(W.ls i).at_=q)) (h2:¬(l.on=true∧l.to=m∧l.at_=q)):(W.setL i l).where_ m q=W.where_ m q:=by
 have e:=zfl (ls:=W.ls) (i:=i) (l:=l) (m:=m) (p:=q) h1 h2
 unfold Wd.where_
 show (if (W.own m q).isSome=true then _ else (leaseAt (upd W.ls i l) m q).map _)=_
 split
 ·rfl
 ·rw[e]
  cases hf:leaseAt W.ls m q with
  | none=>rfl
  | some j=>
   obtain⟨_,hj⟩:=yb hf
   have:j≠i:=fun e=>by subst e;exact h1 hj
   simp only[Option.map_some]
   show some ((upd W.ls i l j).fr,(upd W.ls i l j).pg,(upd W.ls i l j).wr)=_
   rw[zk this]
theorem zfT {n p:Nat} (h:W.where_ n p=none):W.own n p=none∧leaseAt W.ls n p=none:=by
 unfold Wd.where_ at h
 split at h
 ·cases h
 ·rename_i hs
  refine⟨by cases ho:W.own n p with | none=>rfl | some l=>rw[ho] at hs;simp at hs,?_⟩
  cases hf:leaseAt W.ls n p with
  | none=>rfl
  | some j=>rw[hf] at h;cases h
theorem Rel.accept (h:Rel C W φ) {n p i:Nat} (hp:p<32) (hi:(W.ls i).on=true) (hto:(W.ls i).to=n) (hat:(W.ls i).at_<0) (hno:W.where_ n p=none) :
  Rel { C with ls:=upd C.ls i ((C.ls i).setA p),dat:=setC C.dat C.N (C.tf n) (C.fr n) p (pk (C.tf n) (φ (W.ls i).fr (W.ls i).pg) (W.ls i).wr),cache:=dropC C.cache n p } (W.setL i ((W.ls i).setA p)) φ:=by
 have hl:=h.wk.lsr i hi
 have hon:(W.vm n).on=true:=by rw[←hto];exact hl.2.2.1
 obtain⟨l,ho⟩:=Option.isSome_iff_exists.1 hl.2.2.2.2.1
 have hpg:=h.pg _ _ l ho
 have hN:=h.N
 have htf:=(h.tab n hon).1
 have ht:=h.tu hon hp (w:=pk (C.tf n) (φ (W.ls i).fr (W.ls i).pg) (W.ls i).wr) (zpj (by omega)).1
 have hn1:=zfT hno
 have hwk:WOk (W.setL i ((W.ls i).setA p)):=h.wk.setL hl.1 (fun _=>⟨hl.2.1,hl.2.2.1,hl.2.2.2.1,hl.2.2.2.2.1,by show (-1:Int)≤p;omega,by show (p:Int)≤31;omega⟩) (fun e=>by have e':(W.ls i).on=false:=e;rw[hi] at e';cases e')
  (fun _ q hq=>by
   have hq':(p:Int)=q:=hq
   have:q=p:=by omega
   show W.own (W.ls i).to q=none
   rw[this,hto];exact hn1.1)
  (fun _ _ j hj hjon hjt hja=>by
   have hja':(W.ls j).at_=(p:Int):=hja
   have hjt':(W.ls j).to=(W.ls i).to:=hjt
   have:=zdj h.wk hjon hja' (by omega)
   rw[hjt',hto,hn1.2] at this;cases this)
 have hw:∀ m q,(W.setL i ((W.ls i).setA p)).where_ m q=if m=n∧q=p then some ((W.ls i).fr,(W.ls i).pg,(W.ls i).wr) else W.where_ m q:=fun m q=>by
  by_cases e:m=n∧q=p
  ·rw[if_pos e]
   obtain⟨rfl,rfl⟩:=e
   have e0:(W.setL i ((W.ls i).setA q)).ls i=((W.ls i).setA q):=zi
   have:=zdj hwk (i:=i) (p:=(q:Int)) (by rw[e0];exact hi) (by rw[e0];rfl) (by omega)
   rw[e0] at this
   have hto2:((W.ls i).setA q).to=m:=hto
   rw[hto2] at this
   unfold Wd.where_
   rw[this,if_neg (by show ¬(W.own m q).isSome=true;rw[hn1.1];simp),Option.map_some,e0];rfl
  ·rw[if_neg e]
   exact zdb (fun h=>by omega) (fun h=>e ⟨(show (W.ls i).to=m from h.2.1).symm.trans hto,by have:(p:Int)=q:=h.2.2;omega⟩)
 have hlent:∀ m q,lentN (upd W.ls i ((W.ls i).setA p)) m q=lentN W.ls m q:=fun m q=>by
  have:=zcE (ls:=W.ls) hl.1 ((W.ls i).setA p) m q
  have e:(((W.ls i).setA p).on && (decide (((W.ls i).setA p).fr=m) && decide (((W.ls i).setA p).pg=q)))=((W.ls i).on && (decide ((W.ls i).fr=m) && decide ((W.ls i).pg=q))):=rfl
  rw[e] at this
  omega
 exact { h with
  wk:=hwk
  ls:=by show upd C.ls i _=upd W.ls i _;rw[h.ls]
  len:=ht.len
  root:=fun m j hm hj=>ht.root h hm hj
  leaf:=fun m q hm hq=>by
   show unp C.form (ld (setC C.dat C.N (C.tf n) (C.fr n) p _) ((C.fr m).getD (q/8+1) 0) (q%8))=_
   rw[ht.leaf h hm hq,hw]
   split
   ·rw[htf,zkZ (by omega)];rfl
   ·rfl
  pg:=fun m q l2 hl2=>by
   have h3:=h.pg m q l2 hl2
   refine⟨h3.1,?_,?_⟩
   ·show C.own (φ m q)=⟨3,m,q,lentN (upd W.ls i _) m q⟩
    rw[hlent];exact h3.2.1
   ·show setC C.dat C.N (C.tf n) (C.fr n) p _ (φ m q)=l2
    rw[ht.oth _ (by rw[h3.2.1];show (3:Int)≠2;decide)];exact h3.2.2
  cache:=ht.cache (W:=W) (φ:=φ) h
  csize:=Nat.le_trans zaB h.csize }
theorem Rel.leave (h:Rel C W φ) {n p i:Nat} (hi:(W.ls i).on=true) (hto:(W.ls i).to=n) (hat:(W.ls i).at_=p) :
  Rel { C with ls:=upd C.ls i ((C.ls i).setA (-1)),dat:=setC C.dat C.N (C.tf n) (C.fr n) p 0,cache:=dropC C.cache n p } (W.setL i ((W.ls i).setA (-1))) φ:=by
 have hl:=h.wk.lsr i hi
 have hp:p<32:=by have:=hl.2.2.2.2.2.2;omega
 have hon:(W.vm n).on=true:=by rw[←hto];exact hl.2.2.1
 have htf:=(h.tab n hon).1
 have ht:=h.tu hon hp (w:=0) ⟨by decide,by decide⟩
 have hwk:WOk (W.setL i ((W.ls i).setA (-1))):=h.wk.setL hl.1 (fun _=>⟨hl.2.1,hl.2.2.1,hl.2.2.2.1,hl.2.2.2.2.1,show (-1:Int)≤-1 by decide,show (-1:Int)≤31 by decide⟩) (fun e=>by have e':(W.ls i).on=false:=e;rw[hi] at e';cases e')
  (fun _ q hq=>by have:(-1:Int)=q:=hq;omega) (fun _ h0=>by have:(0:Int)≤-1:=h0;omega)
 have hown:W.own n p=none:=by rw[←hto];exact h.wk.lsa i hi p hat
 have hw:∀ m q,(W.setL i ((W.ls i).setA (-1))).where_ m q=if m=n∧q=p then none else W.where_ m q:=fun m q=>by
  by_cases e:m=n∧q=p
  ·rw[if_pos e]
   obtain⟨rfl,rfl⟩:=e
   unfold Wd.where_
   rw[if_neg (by show ¬(W.own m q).isSome=true;rw[hown];simp)]
   cases hf:leaseAt (W.setL i ((W.ls i).setA (-1))).ls m q with
   | none=>rfl
   | some j=>
    obtain⟨_,hj,hjt,hja⟩:=yb hf
    by_cases e:j=i
    ·subst e
     have e0:(W.setL j ((W.ls j).setA (-1))).ls j=((W.ls j).setA (-1)):=zi
     rw[e0] at hja
     have:(-1:Int)=q:=hja
     omega
    ·have e0:(W.setL i ((W.ls i).setA (-1))).ls j=W.ls j:=zk e
     rw[e0] at hj hjt hja
     exact absurd (h.wk.lsu j i hj hi (by rw[hjt,hto]) (by omega) (by rw[hja,hat])) e
  ·rw[if_neg e]
   exact zdb (fun h=>e ⟨h.2.1.symm.trans hto,by omega⟩) (fun h=>by have:(-1:Int)=q:=h.2.2;omega)
 have hlent:∀ m q,lentN (upd W.ls i ((W.ls i).setA (-1))) m q=lentN W.ls m q:=fun m q=>by
  have:=zcE (ls:=W.ls) hl.1 ((W.ls i).setA (-1)) m q
  have e:(((W.ls i).setA (-1)).on && (decide (((W.ls i).setA (-1)).fr=m) && decide (((W.ls i).setA (-1)).pg=q)))=((W.ls i).on && (decide ((W.ls i).fr=m) && decide ((W.ls i).pg=q))):=rfl
  rw[e] at this
  omega
 exact { h with
  wk:=hwk
  ls:=by show upd C.ls i _=upd W.ls i _;rw[h.ls]
  len:=ht.len
  root:=fun m j hm hj=>ht.root h hm hj
  leaf:=fun m q hm hq=>by
   show unp C.form (ld (setC C.dat C.N (C.tf n) (C.fr n) p _) ((C.fr m).getD (q/8+1) 0) (q%8))=_
   rw[ht.leaf h hm hq,hw]
   split
   ·rw[zcc];rfl
   ·rfl
  pg:=fun m q l2 hl2=>by
   have h3:=h.pg m q l2 hl2
   refine⟨h3.1,?_,?_⟩
   ·show C.own (φ m q)=⟨3,m,q,lentN (upd W.ls i _) m q⟩
    rw[hlent];exact h3.2.1
   ·show setC C.dat C.N (C.tf n) (C.fr n) p _ (φ m q)=l2
    rw[ht.oth _ (by rw[h3.2.1];show (3:Int)≠2;decide)];exact h3.2.2
  cache:=ht.cache (W:=W) (φ:=φ) h
  csize:=Nat.le_trans zaB h.csize }
theorem Rel.withdraw (h:Rel C W φ) {i:Nat} (hi:(W.ls i).on=true) (hat:(W.ls i).at_<0) :
  Rel { C with ls:=upd C.ls i ls0,own:=unshC C.own (φ (W.ls i).fr (W.ls i).pg) (W.ls i).fr } (W.setL i ls0) φ∧(C.own (φ (W.ls i).fr (W.ls i).pg)).kind=3∧(C.own (φ (W.ls i).fr (W.ls i).pg)).vm=(W.ls i).fr∧(C.own (φ (W.ls i).fr (W.ls i).pg)).sh≠0:=by
 have hl:=h.wk.lsr i hi
 obtain⟨l,ho⟩:=Option.isSome_iff_exists.1 hl.2.2.2.2.1
 have hpg:=h.pg _ _ l ho
 have hwk:WOk (W.setL i ls0):=h.wk.setL hl.1 (fun e=>by cases e) (fun _=>rfl) (fun e=>by cases e) (fun e=>by cases e)
 have hw:∀ m q,(W.setL i ls0).where_ m q=W.where_ m q:=fun m q=>zdb (fun h=>by omega) (fun h=>by cases h.1)
 have hlent:∀ m q,lentN (upd W.ls i ls0) m q+(decide ((W.ls i).fr=m) && decide ((W.ls i).pg=q)).toNat=lentN W.ls m q:=fun m q=>by
  have:=zcE (ls:=W.ls) hl.1 ls0 m q
  rw[hi] at this
  simpa [ls0] using this
 have hl1:=hlent (W.ls i).fr (W.ls i).pg
 simp only[decide_true,Bool.and_self,Bool.toNat_true] at hl1
 have hsh:(C.own (φ (W.ls i).fr (W.ls i).pg)).sh≠0:=by rw[hpg.2.1];simp only;omega
 refine⟨?_,by rw[hpg.2.1],by rw[hpg.2.1],hsh⟩
 generalize hn:(W.ls i).fr=n at *
 generalize hq:(W.ls i).pg=p at *
 have hown:unshC C.own (φ n p) n=upd C.own (φ n p) ⟨3,n,p,(lentN W.ls n p:Int)-1⟩:=by
  unfold unshC
  rw[if_pos ⟨by rw[hpg.2.1],by rw[hpg.2.1],hsh⟩,hpg.2.1]
 have hk:∀ f,(upd C.own (φ n p) ⟨3,n,p,(lentN W.ls n p:Int)-1⟩ f).kind=(C.own f).kind:=fun f=>by
  by_cases e:f=φ n p
  ·rw[e,zi,hpg.2.1]
  ·rw[zk e]
 have hoth:∀ f,(C.own f).kind≠3→upd C.own (φ n p) ⟨3,n,p,(lentN W.ls n p:Int)-1⟩ f=C.own f:=fun f hf=>zk fun e=>by rw[e,hpg.2.1] at hf;exact hf rfl
 rw[hown]
 exact { h with
  wk:=hwk
  ls:=by show upd C.ls i _=upd W.ls i _;rw[h.ls]
  used:=fun f hf=>by show C.used f=decide ((upd C.own _ _ f).kind≠0);rw[hk];exact h.used f hf
  own0:=fun f hf h0=>by
   have h0':(upd C.own (φ n p) ⟨3,n,p,(lentN W.ls n p:Int)-1⟩ f).kind=0:=h0
   rw[hk] at h0'
   show upd C.own _ _ f=ow0
   rw[hoth f (by rw[h0'];decide)];exact h.own0 f hf h0'
  kind:=fun f hf=>by show 0≤(upd C.own _ _ f).kind∧_;rw[hk];exact h.kind f hf
  tabf:=fun m f hm=>by
   have:=h.tabf m f hm
   refine⟨this.1,?_⟩
   show upd C.own _ _ f=_
   rw[hoth f (by rw[this.2];show (2:Int)≠3;decide)];exact this.2
  tabk:=fun f hf h2=>by
   have h2':(upd C.own (φ n p) ⟨3,n,p,(lentN W.ls n p:Int)-1⟩ f).kind=2:=h2
   rw[hk] at h2';exact h.tabk f hf h2'
  leaf:=fun m q hm hq=>by rw[hw];exact h.leaf m q hm hq
  pg:=fun m q l2 hl2=>by
   have h3:=h.pg m q l2 hl2
   refine⟨h3.1,?_,h3.2.2⟩
   show upd C.own (φ n p) _ (φ m q)=⟨3,m,q,lentN (upd W.ls i ls0) m q⟩
   have h4:=hlent m q
   by_cases e:n=m∧p=q
   ·obtain⟨rfl,rfl⟩:=e
    rw[zi]
    congr 1
    omega
   ·rw[zk (fun e2=>e (by have:=h.inj hl2 ho e2;exact⟨this.1.symm,this.2.symm⟩)),h3.2.1]
    have h5:(decide (n=m) && decide (p=q))=false:=by simpa using e
    rw[h5] at h4
    congr 1
    have:Bool.toNat false=0:=rfl
    omega
  pgk:=fun f hf h3=>by
   have h3':(upd C.own (φ n p) ⟨3,n,p,(lentN W.ls n p:Int)-1⟩ f).kind=3:=h3
   rw[hk] at h3';exact h.pgk f hf h3'
  hyp:=⟨h.hyp.1,fun f=>by
   show _↔f<C.N∧(upd C.own _ _ f).kind=1
   rw[hk];exact h.hyp.2 f⟩ }
end
end
section
open Go Go.Pt
section
variable {C:Cst} {W:Wd} {φ:Nat→Nat→Nat}
theorem zbo {n p:Nat} (h1:W.own n p=none) (h2:leaseAt W.ls n p=none):W.where_ n p=none:=by
 unfold Wd.where_
 rw[h1,h2];rfl
theorem setO_own {n p:Nat} {o:Option (List Int)} {m q:Nat}:(W.setO n p o).own m q=if m=n∧q=p then o else W.own m q:=by
 show upd W.own n (upd (W.own n) p o) m q=_
 by_cases e:m=n
 ·subst e
  rw[zi]
  by_cases e2:q=p
  ·subst e2;rw[zi,if_pos ⟨rfl,rfl⟩]
  ·rw[zk e2,if_neg (fun h=>e2 h.2)]
 ·rw[zk e,if_neg (fun h=>e h.1)]
theorem Rel.clear (h:Rel C W φ) {f:Nat} (hf:(C.own f).kind=0) {l:List Int} (hl:l.length=256∧Byt l):Rel { C with dat:=upd C.dat f l } W φ:=by
 have hk:(C.own f).kind≠2:=by rw[hf];decide
 exact { h with
  len:=fun g hg=>by
   show (upd C.dat f l g).length=256∧Byt (upd C.dat f l g)
   by_cases e:g=f
   ·rw[e,zi];exact hl
   ·rw[zk e];exact h.len g hg
  root:=fun n j hn hj=>by
   show unp C.form (ld (upd C.dat f l) ((C.fr n).getD 0 0) j)=_
   rw[h.ld_keep hk hn (by decide)];exact h.root n j hn hj
  leaf:=fun n p hn hp'=>by
   show unp C.form (ld (upd C.dat f l) ((C.fr n).getD (p/8+1) 0) (p%8))=_
   rw[h.ld_keep hk hn (by omega)];exact h.leaf n p hn hp'
  pg:=fun n p l2 hl2=>by
   have h3:=h.pg n p l2 hl2
   refine⟨h3.1,h3.2.1,?_⟩
   show upd C.dat f l (φ n p)=l2
   rw[zk (fun e=>by have h4:=h3.2.1;rw[e] at h4;rw[h4] at hf;cases hf)]
   exact h3.2.2
  cache:=fun r hr=>by
   obtain⟨n,h1,h2,h3⟩:=h.cache r hr
   exact⟨n,h1,h2,by rw[←h3];exact h.walk_keep hk h2 r.page⟩ }
theorem zlX {ls:Nat→Ls} {n p:Nat}:lentL ls n p=false↔lentN ls n p=0:=by
 unfold lentL lentN count
 rw[List.any_eq_false,List.length_eq_zero_iff,List.filter_eq_nil_iff]
 constructor
 ·intro h i hi
  have:=h i hi
  simp only[Bool.and_eq_true,decide_eq_true_eq,Int.natCast_inj] at this ⊢
  exact this
 ·intro h i hi
  have:=h i hi
  simp only[Bool.and_eq_true,decide_eq_true_eq,Int.natCast_inj] at this ⊢
  exact this
theorem Rel.give (h:Rel C W φ) {n p:Nat} {l:List Int} (ho:W.own n p=some l) (hl:lentL W.ls n p=false) :
  Rel { C with dat:=setC C.dat C.N (C.tf n) (C.fr n) p 0,cache:=dropC C.cache n p,own:=recC C.own (φ n p) n,used:=upd C.used (φ n p) false } { W.setO n p none with free:=W.free+1 } φ∧C.used (φ n p)=true:=by
 have hwp:=h.wk.pg n p l ho
 have hpg:=h.pg n p l ho
 have hon:=hwp.1
 have htf:=(h.tab n hon).1
 have ht:=h.tu hon hwp.2.1 (w:=0) ⟨by decide,by decide⟩
 have h0:=zlX.1 hl
 have hused:C.used (φ n p)=true:=by rw[h.used _ hpg.1,hpg.2.1];rfl
 refine⟨?_,hused⟩
 have hown:recC C.own (φ n p) n=upd C.own (φ n p) ow0:=by
  unfold recC
  rw[hpg.2.1,if_pos ⟨rfl,rfl,by show ((lentN W.ls n p:Nat):Int)≤0;omega⟩]
 rw[hown]
 have hat:leaseAt W.ls n p=none:=by
  cases hf:leaseAt W.ls n p with
  | none=>rfl
  | some j=>
   obtain⟨_,h1,h2,h3⟩:=yb hf
   have:=h.wk.lsa j h1 p h3
   rw[h2,ho] at this;cases this
 have hw:∀ m q,({ W.setO n p none with free:=W.free+1 }:Wd).where_ m q=if m=n∧q=p then none else W.where_ m q:=fun m q=>by
  have e1:({ W.setO n p none with free:=W.free+1 }:Wd).where_ m q=(W.setO n p none).where_ m q:=rfl
  rw[e1]
  by_cases e:m=n∧q=p
  ·rw[if_pos e]
   obtain⟨rfl,rfl⟩:=e
   exact zbo (by rw[setO_own,if_pos ⟨rfl,rfl⟩]) hat
  ·rw[if_neg e]
   unfold Wd.where_
   rw[setO_own,if_neg e];rfl
 have hnl:∀ i,(W.ls i).on=true→¬((W.ls i).fr=n∧(W.ls i).pg=p):=fun i hi e=>by
  have:=zgq h0 i (h.wk.lsr i hi).1
  simp[hi,e.1,e.2] at this
 have hwk:WOk { W.setO n p none with free:=W.free+1 }:=by
  refine { h.wk with off:=fun i hi=>⟨(h.wk.off i hi).1,fun q=>?_,(h.wk.off i hi).2.2⟩,pg:=fun m q l2 hl2=>?_,most:=fun m=>?_,lsr:=fun i hi=>?_,lsa:=fun i hi q hq=>?_ }
  ·show (W.setO n p none).own i q=none
   rw[setO_own];split
   ·rfl
   ·exact (h.wk.off i hi).2.1 q
  ·have hl2':(W.setO n p none).own m q=some l2:=hl2
   rw[setO_own] at hl2'
   split at hl2'
   ·cases hl2'
   ·exact h.wk.pg m q l2 hl2'
  ·refine Int.le_trans ?_ (h.wk.most m)
   have:count (fun q=>((W.setO n p none).own m q).isSome) 32≤count (fun q=>(W.own m q).isSome) 32:=zgr fun q _ hq=>by
    rw[setO_own] at hq
    split at hq
    ·cases hq
    ·exact hq
   exact Int.ofNat_le.2 this
  ·have hh:=h.wk.lsr i hi
   refine⟨hh.1,hh.2.1,hh.2.2.1,hh.2.2.2.1,?_,hh.2.2.2.2.2⟩
   show ((W.setO n p none).own (W.ls i).fr (W.ls i).pg).isSome=true
   rw[setO_own,if_neg (hnl i hi)];exact hh.2.2.2.2.1
  ·show (W.setO n p none).own (W.ls i).to q=none
   rw[setO_own];split
   ·rfl
   ·exact h.wk.lsa i hi q hq
 have hne:∀ m q l2,W.own m q=some l2→¬(m=n∧q=p)→φ m q≠φ n p:=fun m q l2 hl2 e e2=>e (h.inj hl2 ho e2)
 have hk:∀ f,f≠φ n p→upd C.own (φ n p) ow0 f=C.own f:=fun f e=>zk e
 exact { h with
  wk:=hwk
  free:=by
   show W.free+1=(count (fun f=>! upd C.used (φ n p) false f) C.N:Int)
   have e1:(fun f=>! upd C.used (φ n p) false f)=upd (fun f=>! C.used f) (φ n p) true:=by
    funext g;unfold upd;split <;> rfl
   have:=jq (g:=fun f=>! C.used f) hpg.1 true
   rw[←e1] at this
   simp only[hused,Bool.not_true,Bool.toNat_false,Bool.toNat_true] at this
   rw[h.free];omega
  used:=fun f hf=>by
   show upd C.used (φ n p) false f=decide ((upd C.own (φ n p) ow0 f).kind≠0)
   by_cases e:f=φ n p
   ·rw[e,zi,zi];rfl
   ·rw[zk e,zk e];exact h.used f hf
  own0:=fun f hf hk0=>by
   show upd C.own (φ n p) ow0 f=ow0
   by_cases e:f=φ n p
   ·rw[e,zi]
   ·have hk0':(upd C.own (φ n p) ow0 f).kind=0:=hk0
    rw[zk e] at hk0' ⊢;exact h.own0 f hf hk0'
  kind:=fun f hf=>by
   show 0≤(upd C.own (φ n p) ow0 f).kind∧(upd C.own (φ n p) ow0 f).kind≤3
   by_cases e:f=φ n p
   ·rw[e,zi];exact⟨show (0:Int)≤0 by decide,show (0:Int)≤3 by decide⟩
   ·rw[zk e];exact h.kind f hf
  len:=ht.len
  tabf:=fun m f hm=>by
   have:=h.tabf m f hm
   refine⟨this.1,?_⟩
   show upd C.own (φ n p) ow0 f=_
   rw[zk (fun e=>by rw[e,hpg.2.1] at this;cases this.2)];exact this.2
  tabk:=fun f hf h2=>by
   have h2':(upd C.own (φ n p) ow0 f).kind=2:=h2
   by_cases e:f=φ n p
   ·rw[e,zi] at h2';cases h2'
   ·rw[zk e] at h2';exact h.tabk f hf h2'
  root:=fun m j hm hj=>ht.root h hm hj
  leaf:=fun m q hm hq=>by
   show unp C.form (ld (setC C.dat C.N (C.tf n) (C.fr n) p 0) ((C.fr m).getD (q/8+1) 0) (q%8))=_
   rw[ht.leaf h hm hq,hw]
   split
   ·rw[zcc];rfl
   ·rfl
  pg:=fun m q l2 hl2=>by
   have hl2':(W.setO n p none).own m q=some l2:=hl2
   rw[setO_own] at hl2'
   by_cases e:m=n∧q=p
   ·rw[if_pos e] at hl2';cases hl2'
   ·rw[if_neg e] at hl2'
    have h3:=h.pg m q l2 hl2'
    refine⟨h3.1,?_,?_⟩
    ·show upd C.own (φ n p) ow0 (φ m q)=_
     rw[zk (hne m q l2 hl2' e)];exact h3.2.1
    ·show setC C.dat C.N (C.tf n) (C.fr n) p _ (φ m q)=l2
     rw[ht.oth _ (by rw[h3.2.1];show (3:Int)≠2;decide)];exact h3.2.2
  pgk:=fun f hf h3=>by
   have h3':(upd C.own (φ n p) ow0 f).kind=3:=h3
   by_cases e:f=φ n p
   ·rw[e,zi] at h3';cases h3'
   ·rw[zk e] at h3'
    obtain⟨m,q,h4,h5⟩:=h.pgk f hf h3'
    refine⟨m,q,?_,h5⟩
    show ((W.setO n p none).own m q).isSome=true
    rw[setO_own,if_neg (fun e2=>e (by rw[←h5,e2.1,e2.2]))];exact h4
  hyp:=⟨h.hyp.1,fun f=>by
   show _↔f<C.N∧(upd C.own (φ n p) ow0 f).kind=1
   by_cases e:f=φ n p
   ·rw[e,zi,h.hyp.2 (φ n p),hpg.2.1]
    exact⟨fun h=>(by cases h.2),fun h=>(by cases h.2)⟩
   ·rw[zk e];exact h.hyp.2 f⟩
  cache:=ht.cache (W:=W) (φ:=φ) h
  csize:=Nat.le_trans zaB h.csize }
def upφ (φ:Nat→Nat→Nat) (n p f:Nat):Nat→Nat→Nat:=fun m q=>if m=n∧q=p then f else φ m q
theorem Rel.get (h:Rel C W φ) {n p f:Nat} {l:List Int} (hl:l.length=256∧Byt l) (hon:(W.vm n).on=true) (hp:p<32) (hno:W.where_ n p=none) (hq:(W.pages n:Int)<(W.vm n).quota) (hf:firstOff C.used C.N=some f) (w:Bool) (hww:w=true) :
  Rel { C with dat:=setC (upd C.dat f l) C.N (C.tf n) (C.fr n) p (pk (C.tf n) f w),cache:=dropC C.cache n p,own:=donC C.own f n p,used:=upd C.used f true } { W.setO n p (some l) with free:=W.free-1 } (upφ φ n p f):=by
 subst hww
 obtain⟨hfN,hfu,_⟩:=zZ hf
 have hN:=h.N
 have hk0:(C.own f).kind=0:=by
  have:=h.used f hfN
  rw[hfu] at this
  have h2:=of_decide_eq_false this.symm
  exact Classical.byContradiction fun h3=>h2 h3
 have h':=h.clear hk0 hl
 have htf:=(h.tab n hon).1
 have ht:=h'.tu hon hp (w:=pk (C.tf n) f true) (zpj (by omega)).1
 have hn1:=zfT hno
 have hown:donC C.own f n p=upd C.own f ⟨3,n,p,0⟩:=by unfold donC;rw[if_pos hk0]
 rw[hown]
 have hw:∀ m q,({ W.setO n p (some l) with free:=W.free-1 }:Wd).where_ m q=if m=n∧q=p then some (n,p,true) else W.where_ m q:=fun m q=>by
  have e1:({ W.setO n p (some l) with free:=W.free-1 }:Wd).where_ m q=(W.setO n p (some l)).where_ m q:=rfl
  rw[e1]
  unfold Wd.where_
  rw[setO_own]
  by_cases e:m=n∧q=p
  ·rw[if_pos e,if_pos e,e.1,e.2];rfl
  ·rw[if_neg e,if_neg e];rfl
 have hφ:∀ m q l2,W.own m q=some l2→upφ φ n p f m q=φ m q:=fun m q l2 hl2=>by
  unfold upφ
  rw[if_neg]
  rintro⟨rfl,rfl⟩
  rw[hn1.1] at hl2;cases hl2
 have h0:lentN W.ls n p=0:=vE fun i hi=>by
  cases hb:((W.ls i).on && (decide ((W.ls i).fr=n) && decide ((W.ls i).pg=p))) with
  | false=>rfl
  | true=>
   simp only[Bool.and_eq_true,decide_eq_true_eq] at hb
   have:=(h.wk.lsr i hb.1).2.2.2.2.1
   rw[hb.2.1,hb.2.2,hn1.1] at this;cases this
 have hne:∀ m q l2,W.own m q=some l2→φ m q≠f:=fun m q l2 hl2 e=>by
  have:=(h.pg m q l2 hl2).2.1
  rw[e] at this;rw[this] at hk0;cases hk0
 have hwk:WOk { W.setO n p (some l) with free:=W.free-1 }:=by
  refine { h.wk with off:=fun i hi=>⟨(h.wk.off i hi).1,fun q=>?_,(h.wk.off i hi).2.2⟩,pg:=fun m q l2 hl2=>?_,most:=fun m=>?_,lsr:=fun i hi=>?_,lsa:=fun i hi q hq=>?_ }
  ·show (W.setO n p (some l)).own i q=none
   rw[setO_own,if_neg (fun e=>by rw[e.1] at hi;have:(W.vm n).on=false:=hi;rw[hon] at this;cases this)]
   exact (h.wk.off i hi).2.1 q
  ·have hl2':(W.setO n p (some l)).own m q=some l2:=hl2
   rw[setO_own] at hl2'
   split at hl2'
   ·rename_i e
    cases hl2'
    exact⟨by rw[e.1];exact hon,by rw[e.2];exact hp,hl⟩
   ·exact h.wk.pg m q l2 hl2'
  ·show ((count (fun q=>((W.setO n p (some l)).own m q).isSome) 32:Nat):Int)≤(W.vm m).quota
   by_cases e:m=n
   ·subst e
    have e1:(fun q=>((W.setO m p (some l)).own m q).isSome)=upd (fun q=>(W.own m q).isSome) p true:=by
     funext q
     rw[setO_own]
     by_cases e2:q=p
     ·subst e2;rw[if_pos ⟨rfl,rfl⟩,zi];rfl
     ·rw[if_neg (fun h=>e2 h.2),zk e2]
    have:=jq (g:=fun q=>(W.own m q).isSome) hp true
    rw[←e1] at this
    simp only[hn1.1,Option.isSome_none,Bool.toNat_false,Bool.toNat_true] at this
    have hq':((count (fun q=>(W.own m q).isSome) 32:Nat):Int)<(W.vm m).quota:=hq
    omega
   ·have:count (fun q=>((W.setO n p (some l)).own m q).isSome) 32=count (fun q=>(W.own m q).isSome) 32:=fq fun q _=>by rw[setO_own,if_neg (fun h=>e h.1)]
    rw[this];exact h.wk.most m
  ·have hh:=h.wk.lsr i hi
   refine⟨hh.1,hh.2.1,hh.2.2.1,hh.2.2.2.1,?_,hh.2.2.2.2.2⟩
   show ((W.setO n p (some l)).own (W.ls i).fr (W.ls i).pg).isSome=true
   rw[setO_own];split
   ·rfl
   ·exact hh.2.2.2.2.1
  ·show (W.setO n p (some l)).own (W.ls i).to q=none
   rw[setO_own,if_neg]
   ·exact h.wk.lsa i hi q hq
   ·rintro⟨e1,e2⟩
    have:=zdj h.wk hi hq (by omega)
    rw[e1,e2,hn1.2] at this;cases this
 exact { h with
  wk:=hwk
  free:=by
   show W.free-1=(count (fun g=>! upd C.used f true g) C.N:Int)
   have e1:(fun g=>! upd C.used f true g)=upd (fun g=>! C.used g) f false:=by
    funext g;unfold upd;split <;> rfl
   have:=jq (g:=fun g=>! C.used g) hfN false
   rw[←e1] at this
   simp only[hfu,Bool.not_false,Bool.toNat_false,Bool.toNat_true] at this
   rw[h.free];omega
  used:=fun g hg=>by
   show upd C.used f true g=decide ((upd C.own f ⟨3,n,p,0⟩ g).kind≠0)
   by_cases e:g=f
   ·rw[e,zi,zi];rfl
   ·rw[zk e,zk e];exact h.used g hg
  own0:=fun g hg hk=>by
   have hk':(upd C.own f ⟨3,n,p,0⟩ g).kind=0:=hk
   show upd C.own f ⟨3,n,p,0⟩ g=ow0
   by_cases e:g=f
   ·rw[e,zi] at hk';cases hk'
   ·rw[zk e] at hk' ⊢;exact h.own0 g hg hk'
  kind:=fun g hg=>by
   show 0≤(upd C.own f ⟨3,n,p,0⟩ g).kind∧(upd C.own f ⟨3,n,p,0⟩ g).kind≤3
   by_cases e:g=f
   ·rw[e,zi];exact⟨show (0:Int)≤3 by decide,show (3:Int)≤3 by decide⟩
   ·rw[zk e];exact h.kind g hg
  len:=ht.len
  tabf:=fun m g hm=>by
   have:=h.tabf m g hm
   refine⟨this.1,?_⟩
   show upd C.own f ⟨3,n,p,0⟩ g=_
   rw[zk (fun e=>by rw[e] at this;rw[this.2] at hk0;cases hk0)];exact this.2
  tabk:=fun g hg h2=>by
   have h2':(upd C.own f ⟨3,n,p,0⟩ g).kind=2:=h2
   by_cases e:g=f
   ·rw[e,zi] at h2';cases h2'
   ·rw[zk e] at h2';exact h.tabk g hg h2'
  root:=fun m j hm hj=>ht.root h' hm hj
  leaf:=fun m q hm hq=>by
   show unp C.form (ld (setC (upd C.dat f l) C.N (C.tf n) (C.fr n) p _) ((C.fr m).getD (q/8+1) 0) (q%8))=_
   rw[ht.leaf h' hm hq,hw]
   by_cases e:m=n∧q=p
   ·rw[if_pos e,if_pos e,htf,zkZ (by omega),Option.map_some]
    unfold upφ
    rw[if_pos ⟨rfl,rfl⟩]
   ·rw[if_neg e,if_neg e]
    cases hwq:W.where_ m q with
    | none=>rfl
    | some x=>
     obtain⟨l2,hl2⟩:=h.wk.where_own hwq
     rw[Option.map_some,Option.map_some,hφ _ _ l2 hl2]
  pg:=fun m q l2 hl2=>by
   have hl2':(W.setO n p (some l)).own m q=some l2:=hl2
   rw[setO_own] at hl2'
   by_cases e:m=n∧q=p
   ·rw[if_pos e] at hl2'
    cases hl2'
    obtain⟨rfl,rfl⟩:=e
    have e1:upφ φ m q f m q=f:=by unfold upφ;rw[if_pos ⟨rfl,rfl⟩]
    rw[e1]
    refine⟨hfN,?_,?_⟩
    ·show upd C.own f ⟨3,m,q,0⟩ f=⟨3,m,q,lentN W.ls m q⟩
     rw[zi,h0];rfl
    ·show setC (upd C.dat f l) C.N (C.tf m) (C.fr m) q _ f=l
     rw[ht.oth f (by show (C.own f).kind≠2;rw[hk0];decide)]
     exact zi
   ·rw[if_neg e] at hl2'
    have h3:=h.pg m q l2 hl2'
    rw[hφ m q l2 hl2']
    refine⟨h3.1,?_,?_⟩
    ·show upd C.own f ⟨3,n,p,0⟩ (φ m q)=_
     rw[zk (hne m q l2 hl2')];exact h3.2.1
    ·show setC (upd C.dat f l) C.N (C.tf n) (C.fr n) p _ (φ m q)=l2
     rw[ht.oth _ (by show (C.own (φ m q)).kind≠2;rw[h3.2.1];show (3:Int)≠2;decide)]
     show upd C.dat f l (φ m q)=l2
     rw[zk (hne m q l2 hl2')];exact h3.2.2
  pgk:=fun g hg h3=>by
   have h3':(upd C.own f ⟨3,n,p,0⟩ g).kind=3:=h3
   by_cases e:g=f
   ·refine⟨n,p,?_,?_⟩
    ·show ((W.setO n p (some l)).own n p).isSome=true
     rw[setO_own,if_pos ⟨rfl,rfl⟩];rfl
    ·unfold upφ;rw[if_pos ⟨rfl,rfl⟩,e]
   ·rw[zk e] at h3'
    obtain⟨m,q,h4,h5⟩:=h.pgk g hg h3'
    obtain⟨l2,hl2⟩:=Option.isSome_iff_exists.1 h4
    refine⟨m,q,?_,by rw[hφ m q l2 hl2];exact h5⟩
    show ((W.setO n p (some l)).own m q).isSome=true
    rw[setO_own];split
    ·rfl
    ·exact h4
  hyp:=⟨h.hyp.1,fun g=>by
   show _↔g<C.N∧(upd C.own f ⟨3,n,p,0⟩ g).kind=1
   by_cases e:g=f
   ·rw[e,zi,h.hyp.2 f,hk0]
    exact⟨fun h=>(by cases h.2),fun h=>(by cases h.2)⟩
   ·rw[zk e];exact h.hyp.2 g⟩
  cache:=fun r hr=>ht.cache (W:=W) (φ:=φ) h' r hr
  csize:=Nat.le_trans zaB h.csize }
end
end
end Go.Cr
namespace Go.Proofs.YtabdpmnhjlmnlaaGreatDoor
section
open Go Go.Pt Go.Cr Go.Hp
structure Kp (C C':Cst):Prop where
 N:C'.N=C.N
 form:C'.form=C.form
 region:C'.region=C.region
 turns:C'.turns=C.turns
 now:C'.now=C.now
 late:C'.late=C.late
 tf:C'.tf=C.tf
 fr:C'.fr=C.fr
theorem Kp.refl {C:Cst}:Kp C C:=⟨rfl,rfl,rfl,rfl,rfl,rfl,rfl,rfl⟩
theorem Kp.trans {C C' C'':Cst} (h:Kp C C') (k:Kp C' C''):Kp C C'':=⟨k.N.trans h.N,k.form.trans h.form,k.region.trans h.region,k.turns.trans h.turns,k.now.trans h.now,k.late.trans h.late,k.tf.trans h.tf,k.fr.trans h.fr⟩
def After (h:Nat) (A:Ad) (C:Cst) (S:Mem) (ρ:Rho) (W':Wd) (S':Mem):Prop:=
 ∃ ρ' A' C' φ',Mv S ρ S' ρ' Rc∧CrabA S' ρ' h A' C'∧Rel C' W' φ'∧Kp C C'∧A'.t=A.t∧∀ i,(A'.x i).ss=(A.x i).ss
section
variable {S S':Mem} {ρ ρ':Rho} {h:Nat} {A:Ad} {C:Cst} {W:Wd} {φ:Nat→Nat→Nat}
theorem After.here (hc:CrabA S ρ h A C) (hr:Rel C W φ):After h A C S ρ W S:=⟨ρ,A,C,φ,Mv.refl hc.rg,hc,hr,Kp.refl,rfl,fun _=>rfl⟩
theorem After.keeps (hc:CrabA S ρ h A C) (hr:Rel C W φ) (hk:Keeps S S' []):After h A C S ρ W S':=⟨ρ,A,C,φ,hc.mv0 hk,hc.keeps hk,hr,Kp.refl,rfl,fun _=>rfl⟩
theorem zhY (hc:CrabA S ρ h A C) {n:Nat} (hn:n<6) {page:Int} {f:Nat} (hf:f<C.N) {w:Bool} (hl:C.cache.length≤100) {Q:Mem→Prop}
  (hQ:∀ S' ρ' cs,Mv S ρ S' ρ' (fun r=>r<100)→CrabA S' ρ' h { A with cs:=cs } { C with dat:=setC C.dat C.N (C.tf n) (C.fr n) page (Go.Cr.pk (C.tf n) f w),cache:=dropC C.cache n page }→Q S'):wX S (some (h,0)) n page f w Q:=by
 apply zeI
 unfold jA
 rw[zV,qQ hc.c3,zV]
 refine⟨by omega,by omega,?_⟩
 rw[Int.toNat_natCast,gD (hc.vtab hn (by omega)),qQ hc.c0]
 refine mapD hc.st hc.rg (hc.vs n hn).fr.row hf fun e S1 m1 hs1=>?_
 have hc1:=hc.setStore m1 hs1
 refine⟨hc1.c3,?_⟩
 refine zdo hc1.cap hc1.rg hl fun S2 ρ2 m2 h2=>?_
 obtain⟨cs,h3,h4⟩:=h2.ex
 exact hQ S2 ρ2 cs ((m1.mono fun r hr=>by omega).trans (m2.mono fun r hr=>by omega)) (hc1.setCache m2 h3 h4)
theorem zmq (hc:CrabA S ρ h A C) {n:Nat} (hn:n<6) {page:Int} {f:Nat} (hf:f<C.N) {w:Bool} (hl:C.cache.length≤100) {Q:Mem→Prop}
  (hQ:∀ S' ρ' cs,Mv S ρ S' ρ' Rc→CrabA S' ρ' h { A with cs:=cs } { C with dat:=setC C.dat C.N (C.tf n) (C.fr n) page (Go.Cr.pk (C.tf n) f w),cache:=dropC C.cache n page }→Q S'):wX S (some (h,0)) n page f w Q:=
 zhY hc hn hf hl fun S' ρ' cs m hc'=>hQ S' ρ' cs (m.mono fun r hr=>by unfold Rc;omega) hc'
theorem zfu (hc:CrabA S ρ h A C) {n:Nat} (hn:n<6) {page:Int} (hl:C.cache.length≤100) {Q:Mem→Prop}
  (hQ:∀ S' ρ' cs,Mv S ρ S' ρ' Rc→CrabA S' ρ' h { A with cs:=cs } { C with dat:=setC C.dat C.N (C.tf n) (C.fr n) page 0,cache:=dropC C.cache n page }→Q S'):xJ S (some (h,0)) n page Q:=by
 apply zcV
 unfold vM
 rw[zV,qQ hc.c3,zV]
 refine⟨by omega,by omega,?_⟩
 rw[Int.toNat_natCast,gD (hc.vtab hn (by omega)),qQ hc.c0]
 refine unmapD hc.st hc.rg (hc.vs n hn).fr.row fun e S1 m1 hs1=>?_
 have hc1:=hc.setStore m1 hs1
 refine⟨hc1.c3,?_⟩
 refine zdo hc1.cap hc1.rg hl fun S2 ρ2 m2 h2=>?_
 obtain⟨cs,h3,h4⟩:=h2.ex
 exact hQ S2 ρ2 cs ((m1.mono fun r hr=>by unfold Rc;omega).trans (m2.mono fun r hr=>by unfold Rc;omega)) (hc1.setCache m2 h3 h4)
theorem zjs (hc:CrabA S ρ h A C) {n:Nat} (hn:n<6) {p f:Nat} (hp:p<32) (hf:f<C.N) (hl:C.cache.length≤100) {Q:Mem→Prop}
  (hQ:∀ S' ρ' cs,Mv S ρ S' ρ' (fun r=>r<100)→CrabA S' ρ' h { A with cs:=cs } { C with dat:=setC (upd C.dat f noughts) C.N (C.tf n) (C.fr n) p (Go.Cr.pk (C.tf n) f true),cache:=dropC C.cache n p,own:=donC C.own f n p }→Q S'):crab_Crab_own S (some (h,0)) n p f Q:=by
 apply t_crab_Crab_own
 unfold b_crab_Crab_own
 rw[zV,qQ hc.c0]
 refine clearD hc.st hc.rg hf fun S1 m1 hs1=>?_
 have hc1:=hc.setStore m1 hs1
 rw[qQ hc1.c3,zV,qQ hc1.t74]
 refine ziT hc1.ow hc1.rg hf hn hp fun e S2 m2 hs2=>?_
 have hc2:=hc1.setOwn m2 hs2
 refine zhY hc2 hn hf hl fun S3 ρ3 cs m3 hc3=>?_
 exact hQ S3 ρ3 cs ((m1.mono fun r hr=>by omega).trans ((m2.mono fun r hr=>by omega).trans m3)) hc3
theorem znb (hc:CrabA S ρ h A C) {n:Nat} (hn:n<6) {p f:Nat} (hp:p<32) (hf:f<C.N) (hl:C.cache.length≤100) {Q:Mem→Prop}
  (hQ:∀ S' ρ' cs,Mv S ρ S' ρ' Rc→CrabA S' ρ' h { A with cs:=cs } { C with dat:=setC (upd C.dat f noughts) C.N (C.tf n) (C.fr n) p (Go.Cr.pk (C.tf n) f true),cache:=dropC C.cache n p,own:=donC C.own f n p }→Q S'):crab_Crab_own S (some (h,0)) n p f Q:=
 zjs hc hn hp hf hl fun S' ρ' cs m hc'=>hQ S' ρ' cs (m.mono fun r hr=>by unfold Rc;omega) hc'
theorem zhM (hc:CrabA S ρ h A C) (hr:Rel C W φ) {n:Nat} (hn:n<6) (hon:(W.vm n).on=true) {page:Int} {Q:Int→Int→Mem→Prop}
  (hY:∀ l S',0≤page→page≤31→W.own n page.toNat=some l→Keeps S S' []→Q (φ n page.toNat) 0 S') (hN:∀ S',W.mine n page≠0→Keeps S S' []→Q 0 (W.mine n page) S'):vW S (some (h,0)) n page Q:=by
 apply zed
 unfold kI
 rw[zV,qQ hc.c3,zV]
 refine⟨by omega,by omega,?_⟩
 rw[Int.toNat_natCast,gD (hc.vtab hn (by omega)),qQ hc.c0]
 refine walkD hc.st (hc.vs n hn).fr.row (fun f b S1 hw hk=>?_) fun e S1 hw he hk=>?_
 ·have hc1:=hc.keeps hk
  refine⟨hc1.c3,rfl,?_⟩
  obtain⟨m,q,l,h0,h1,h2,h3,h4⟩:=hr.walk_some hon hw
  rw[if_neg (by decide),qQ hc1.c3,zV,gD hc1.tls]
  have e32:((page.toNat:Nat):Int)=page:=by omega
  refine znm (ls:=C.ls) (fun i hi hon' hto hat h0'=>?_) fun hno=>?_
  ·rw[if_pos (by omega)]
   rw[hr.ls] at hon' hto hat
   have e2:=hr.wk.lsa i hon' page.toNat (by rw[hat,e32])
   rw[show (W.ls i).to=n by omega] at e2
   have e:W.mine n page=7:=by
    unfold Wd.mine
    rw[if_neg (by rw[h2];simp;omega),e2,if_neg (by simp)]
   have:=hN S1 (by rw[e];decide) hk
   rw[e] at this;exact this
  ·rw[if_neg (by decide),zB (show nthL (enL f b) 1=some (.int .i64 f) from rfl)]
   have hown:∃ l,W.own n page.toNat=some l:=by
    cases ho:W.own n page.toNat with
    | some l=>exact⟨l,rfl⟩
    | none=>
     unfold Wd.where_ at h2
     rw[ho,if_neg (by simp)] at h2
     cases hf:leaseAt W.ls n page.toNat with
     | none=>rw[hf] at h2;cases h2
     | some i=>
      obtain⟨a1,a2,a3,a4⟩:=yb hf
      exact absurd ⟨by rw[hr.ls];exact a2,by rw[hr.ls,a3],by rw[hr.ls,a4,e32],h0⟩ (hno i a1)
   obtain⟨l',hl'⟩:=hown
   rw[where_own hl'] at h2
   cases h2
   rw[h4]
   exact hY l' S1 h0 h1 hl' hk
 ·have hc1:=hc.keeps hk
  refine⟨hc1.c3,rfl,?_⟩
  rw[if_pos he]
  have e:W.mine n page=11:=by
   unfold Wd.mine
   rw[if_pos (hr.walk_none hon hw)]
  have:=hN S1 (by rw[e];decide) hk
  rw[e] at this;exact this
theorem zmY (hr:Rel C W φ) {n:Nat}:count (fun f=>decide ((C.own f).kind=3) && (decide ((3:Int)<2) || decide ((C.own f).vm=n))) C.N=W.pages n:=by
 unfold Wd.pages count
 have hp:((List.range C.N).filter fun f=>decide ((C.own f).kind=3) && (decide ((3:Int)<2) || decide ((C.own f).vm=n))).Perm (((List.range 32).filter fun p=>(W.own n p).isSome).map (φ n)):=by
  refine (List.perm_ext_iff_of_nodup (List.Pairwise.filter _ List.nodup_range) ?_).2 fun f=>?_
  ·unfold List.Nodup
   rw[List.pairwise_map]
   have hnd:=List.Pairwise.filter (fun p=>(W.own n p).isSome) (List.nodup_range (n:=32))
   rw[List.pairwise_iff_forall_sublist] at hnd ⊢
   intro a b hs he
   have ha:a∈(List.range 32).filter fun p=>(W.own n p).isSome:=hs.subset (by simp)
   have hb:b∈(List.range 32).filter fun p=>(W.own n p).isSome:=hs.subset (by simp)
   obtain⟨la,hla⟩:=Option.isSome_iff_exists.1 (List.mem_filter.1 ha).2
   obtain⟨lb,hlb⟩:=Option.isSome_iff_exists.1 (List.mem_filter.1 hb).2
   exact hnd hs (hr.inj hla hlb he).2
  ·rw[List.mem_filter,List.mem_map,List.mem_range]
   constructor
   ·rintro⟨hf,hk⟩
    simp only[Bool.and_eq_true,decide_eq_true_eq,Bool.or_eq_true] at hk
    have hv:(C.own f).vm=n:=by
     rcases hk.2 with h | h
     ·exact absurd h (by decide)
     ·exact h
    obtain⟨m,q,h1,h2⟩:=hr.pgk f hf hk.1
    obtain⟨l,hl⟩:=Option.isSome_iff_exists.1 h1
    have h3:=(hr.pg m q l hl).2.1
    rw[h2] at h3
    rw[h3] at hv
    have:m=n:=by simp only at hv;omega
    subst this
    exact⟨q,List.mem_filter.2 ⟨List.mem_range.2 (hr.wk.pg m q l hl).2.1,h1⟩,h2⟩
   ·rintro⟨p,hp,rfl⟩
    obtain⟨l,hl⟩:=Option.isSome_iff_exists.1 (List.mem_filter.1 hp).2
    have h3:=hr.pg n p l hl
    refine⟨h3.1,?_⟩
    rw[h3.2.1];simp
 rw[hp.length_eq,List.length_map]
theorem zfy (hc:CrabA S ρ h A C) (hr:Rel C W φ) {n:Nat} (hn:n<6) (hon:(W.vm n).on=true) {Q:Int→Mem→Prop} (hQ:Q (W.pages n) S):xK S (some (h,0)) n Q:=by
 apply gq
 unfold wa
 simp only[jn]
 rw[if_neg (by simp),zV,qQ hc.c3]
 refine wN hc ?_
 rw[decide_eq_true ⟨by omega,by omega,by rw[Int.toNat_natCast,hr.vm];exact hon⟩,if_pos rfl,zV,qQ hc.c3,zV,qQ hc.t74]
 refine zkJ hc.ow hr.N ?_
 rw[zmY hr]
 exact hQ
theorem or32 {a:Int} (ha:0≤a∧a≤255) {i:Nat} (hi:i<8):0≤ior .u32 a (2 ^ i)∧ior .u32 a (2 ^ i)≤255:=by
 obtain⟨m,rfl⟩:∃ m:Nat,a=m:=⟨a.toNat,by omega⟩
 have key:∀ m:Fin 256,∀ i:Fin 8,0≤ior .u32 ((m.1:Nat):Int) (2 ^ i.1)∧ior .u32 ((m.1:Nat):Int) (2 ^ i.1)≤255:=by decide +kernel
 exact key ⟨m,by omega⟩ ⟨i,hi⟩
theorem shl32 {i:Nat} (hi:i<8):ishl .u32 1 (i:Int)=2 ^ i:=by
 have key:∀ i:Fin 8,ishl .u32 1 ((i.1:Nat):Int)=2 ^ i.1:=by decide +kernel
 exact key ⟨i,hi⟩
theorem Seat.raise_ok' {s:Seat} (h:s.Ok) {i:Nat} (hi:i<8):(s.raise i).Ok:=by
 unfold Seat.raise
 split
 ·exact h
 ·exact Seat.wake_ok { h with pend:=or32 h.pend hi }
theorem zmV {b o:Nat} {s:Seat} (hA:At S b o s.L) (hs:s.Ok) {i:Nat} (hi:i<8) {Q:Int→Mem→Prop} (hQ:Q (if s.st=2 then 10 else 0) (S.put b o (s.raise i).L)):gz S (some (b,o)) i Q:=by
 have hl:=hs.len
 have hp:=Pl.of hA hl
 apply zhp
 unfold zaK
 simp only[jn]
 rw[if_neg (by simp)]
 apply zdH
 unfold jP
 rw[if_pos (by omega),decide_eq_true (by omega)]
 show if true=true then _ else _
 rw[if_pos rfl,zV,zB ((hA.cell (i:=23) (by rw[Seat.L_len hl];decide)).trans (Seat.g23 hl))]
 unfold Seat.raise at hQ
 by_cases h2:s.st=2
 ·rw[if_pos h2,if_pos h2,hA.self] at hQ
  rw[if_pos h2];exact hQ
 ·rw[if_neg h2,if_neg h2] at hQ
  rw[if_neg h2,zV,zB ((hA.cell (i:=24) (by rw[Seat.L_len hl];decide)).trans (Seat.g24 hl))]
  refine⟨by omega,?_⟩
  rw[shl32 hi]
  have e:=Seat.s24 hl (ior .u32 s.pend (2 ^ i))
  refine hA.pt1 (s':={ s with pend:=ior .u32 s.pend (2 ^ i) }) hl (by decide) e ?_
  exact zhj (s:={ s with pend:=ior .u32 s.pend (2 ^ i) }) hp hl hQ
theorem zno {k:Kn} {x:Nat→Vx} {ob kb n:Nat} {v:Bv} (h1:v.on=(k.vm n).on) (h2:v.quota=(k.vm n).quota) (h3:v.bells=(k.vm n).bells):knL { k with vm:=upd k.vm n v } x ob kb=knL k x ob kb:=by
 unfold knL
 congr 2
 refine yn fun i _=>?_
 by_cases e:i=n
 ·subst e
  simp only[zi]
  unfold vmC
  rw[h1,h2,h3]
 ·simp only[zk e]
theorem fb (hc:CrabA S ρ h A C) {n k c:Nat} (hn:n<6) (hk:k<(C.vm n).seats.length) (hs:(A.x n).ss.p=some (c,0)) {s:Seat} (ho:s.Ok) :
  Mv S ρ (S.put c (k*26) s.L) ρ (· = 30+n)∧CrabA (S.put c (k*26) s.L) ρ h A { C with vm:=upd C.vm n ((C.vm n).setSeat k s) }:=by
 have hv:=hc.vs n hn
 have hk26:k*26+26≤(C.vm n).seats.length*26:=by
  have:=Nat.mul_le_mul_right 26 (show k+1≤(C.vm n).seats.length by omega)
  omega
 obtain⟨m,h1⟩:=hv.se.put hc.rg hs (vs:=s.L) (i:=k*26) (by rw[fL hv.r,Seat.L_len ho.len];exact hk26)
 refine⟨m,?_⟩
 rw[zlq hv.r hk ho] at h1
 have:=hc.setVm (k:={ C.toKn with vm:=upd C.vm n ((C.vm n).setSeat k s) }) (x:=A.x) m (fun r hr=>by omega) (by
  have e:=zno (k:=C.toKn) (x:=A.x) (ob:=A.ob) (kb:=A.kb) (n:=n) (v:=(C.vm n).setSeat k s) rfl rfl rfl
  have:=hc.tt.keep m (by omega)
  rw[←e] at this;exact this) fun i hi=>?_
 ·exact this
 ·by_cases e:i=n
  ·subst e
   refine⟨?_,?_,hv.fr.keep m (by omega),?_,fun j hj=>?_⟩
   ·show Rw _ ρ (30+i) 26 (A.x i).ss ((upd C.vm i _ i).seats.flatMap Seat.L)
    rw[zi];exact h1
   ·intro s' hs'
    have hs2:s'∈(upd C.vm i ((C.vm i).setSeat k s) i).seats:=hs'
    rw[zi] at hs2
    rcases List.mem_or_eq_of_mem_set hs2 with e | e
    ·exact hv.r s' e
    ·rw[e];exact ho
   ·show Rw _ ρ (50+i) 1 (A.x i).ks (bL (upd C.vm i _ i).keys)
    rw[zi];exact hv.ke.keep m (by omega)
   ·show Rw _ ρ (60+4*i+j) 1 ((A.x i).d j) (bL ((upd C.vm i _ i).disk j))
    rw[zi];exact (hv.di j hj).keep m (by omega)
  ·have hv2:=hc.vs i hi
   refine⟨?_,?_,hv2.fr.keep m (by omega),?_,fun j hj=>?_⟩
   ·show Rw _ ρ (30+i) 26 (A.x i).ss ((upd C.vm n _ i).seats.flatMap Seat.L)
    rw[zk e];exact hv2.se.keep m (by omega)
   ·show ∀ s'∈(upd C.vm n _ i).seats,s'.Ok
    rw[zk e];exact hv2.r
   ·show Rw _ ρ (50+i) 1 (A.x i).ks (bL (upd C.vm n _ i).keys)
    rw[zk e];exact hv2.ke.keep m (by omega)
   ·show Rw _ ρ (60+4*i+j) 1 ((A.x i).d j) (bL ((upd C.vm n _ i).disk j))
    rw[zk e];exact (hv2.di j hj).keep m (by omega)
theorem zeS (hc:CrabA S ρ h A C) {n k c:Nat} (hn:n<6) (hk:k<(C.vm n).seats.length) (hs:(A.x n).ss.p=some (c,0)):At S c (k*26) ((C.vm n).seat k).L∧((C.vm n).seat k).Ok∧ρ c=some (30+n):=by
 have hv:=hc.vs n hn
 have e:(C.vm n).seat k=(C.vm n).seats[k]:=zmN hk
 rw[e]
 exact⟨hv.se.sub hs (ziy hv.r hk),hv.r _ (List.getElem_mem hk),hv.se.rol c 0 hs⟩
theorem Rel.putSeat (hr:Rel C W φ) {n k:Nat} (hon:(W.vm n).on=true) (hk:k<(W.vm n).seats.length) {s:Seat} (ho:s.Ok):Rel { C with vm:=upd C.vm n ((C.vm n).setSeat k s) } (W.putSeat n k s) φ:=by
 rw[hr.vm]
 have h1:=hr.setV (v:=(W.vm n).setSeat k s) hon hon (hr.wk.setV hon hon (by show ((W.vm n).seats.set k s).length=_;rw[List.length_set]) (fun s' hs'=>by
  rcases List.mem_or_eq_of_mem_set hs' with e | e
  ·exact hr.wk.ok n s' e
  ·rw[e];exact ho) (hr.wk.keys n) (fun j=>hr.wk.disk n j hon) rfl rfl)
 rw[hr.vm] at h1
 exact h1
theorem zfw (hc:CrabA S ρ h A C) (hr:Rel C W φ) {n k c i:Nat} (hn:n<6) (hon:(W.vm n).on=true) (hk:k<(W.vm n).seats.length) (hs:(A.x n).ss.p=some (c,0)) (hi:i<8) {Q:Int→Mem→Prop}
  (hQ:∀ S',After h A C S ρ (W.raise n k i).2 S'→Q (W.raise n k i).1 S'):gz S (some (c,0+k*26)) i Q:=by
 have hk':k<(C.vm n).seats.length:=by rw[hr.vm];exact hk
 obtain⟨hA,hok,hrol⟩:=zeS hc hn hk' hs
 have hok':=Seat.raise_ok' hok hi
 obtain⟨m,h1⟩:=fb hc hn hk' hs hok'
 rw[Nat.zero_add]
 refine zmV hA hok hi ?_
 have e:(C.vm n).seat k=(W.vm n).seat k:=by rw[hr.vm]
 have hr1:=Rel.putSeat hr hon hk (s:=((W.vm n).seat k).raise i) (by rw[←e];exact hok')
 unfold Wd.raise at hQ
 rw[e] at h1 ⊢
 by_cases h2:((W.vm n).seat k).st=2
 ·rw[if_pos h2] at hQ
  rw[if_pos h2]
  have e2:((W.vm n).seat k).raise i=(W.vm n).seat k:=by unfold Seat.raise;rw[if_pos h2]
  have e3:S.put c (k*26) (((W.vm n).seat k).raise i).L=S:=by rw[e2,←e];exact hA.self
  rw[e3]
  exact hQ S (After.here hc hr)
 ·rw[if_neg h2] at hQ
  rw[if_neg h2]
  rw[e] at m
  exact hQ _ ⟨ρ,A,_,φ,m.mono fun r hr=>by unfold Rc;omega,h1,hr1,⟨rfl,rfl,rfl,rfl,rfl,rfl,rfl,rfl⟩,rfl,fun _=>rfl⟩
end
end
section
open Go Go.Pt Go.Cr Go.Hp
section
variable {S S':Mem} {ρ ρ':Rho} {h:Nat} {A:Ad} {C:Cst} {W:Wd} {φ:Nat→Nat→Nat}
theorem kp1 {C:Cst} {f:Nat→List Int} {l:List Cw} {o:Nat→Ow} {g:Nat→Ls} {u:Nat→Bool} {i:Int} {a:Nat→Nat→Option Int} {e:Nat→List Evt} {v:Nat→Bv}:Kp C { C with dat:=f,cache:=l,own:=o,ls:=g,used:=u,left:=i,alm:=a,ev:=e,vm:=v }:=⟨rfl,rfl,rfl,rfl,rfl,rfl,rfl,rfl⟩
theorem zhe (hc:CrabA S ρ h A C) {ls:Nat→Ls} {K:Mem→Prop} (hK:∀ S',Mv S ρ S' ρ (· = 7)→CrabA S' ρ h A { C with ls:=ls }→K S'):pt S A.t (0+75) 96 (lsC ls) K:=by
 refine hc.tt.pt hc.rg 75 lsC_len.symm (by rw[jg,lsC_len];decide) rfl fun S1 m1 h1=>?_
 have e:spl (knL C.toKn A.x A.ob A.kb) 75 (lsC ls)=knL { C.toKn with ls:=ls } A.x A.ob A.kb:=zma
 rw[e] at h1
 exact hK S1 m1 (hc.setKn (k:={ C.toKn with ls:=ls }) (x:=A.x) m1 h1 fun i hi=>(hc.vs i hi).keep m1 hi fun r h1 h2=>by omega)
theorem xB (hr:Rel C W φ) {n:Int}:thereV C.vm n↔W.there n:=by rw[hr.vm];exact Iff.rfl
theorem zkH (hc:CrabA S ρ h A C) (hr:Rel C W φ) {n:Nat} (hn:n<6) (hon:(W.vm n).on=true) {a b:Int} {Q:Int→Mem→Prop} (hQ:∀ S',After h A C S ρ (W.ring n a b).2 S'→Q (W.ring n a b).1 S'):jZ S (some (h,0)) n a b Q:=by
 unfold Wd.ring at hQ
 apply zec
 unfold kH
 simp only[jn]
 rw[zV,qQ hc.c3]
 refine ziO hc ?_
 have hn':thereV C.vm (n:Int):=⟨by omega,by omega,by rw[Int.toNat_natCast,hr.vm];exact hon⟩
 rw[decide_eq_true hn',Bool.true_and,Int.toNat_natCast]
 by_cases ht:W.there a
 ·rw[decide_eq_true ((xB hr).2 ht),Bool.true_and,hr.vm]
  cases hb:(W.vm n).bells a.toNat with
  | false=>
   rw[if_pos (.inr hb)] at hQ
   rw[if_neg (by decide)]
   exact hQ S (After.here hc hr)
  | true=>
   rw[if_neg (fun h=>h.elim (fun h=>h ht) (fun h=>by rw[hb] at h;cases h))] at hQ
   rw[if_pos rfl]
   apply zdH
   unfold jP
   by_cases hb0:0≤b
   ·rw[if_pos hb0]
    by_cases hb8:b<8
    ·rw[if_neg (by omega)] at hQ
     rw[decide_eq_true hb8]
     show if true=true then _ else _
     rw[if_pos rfl,zV,qQ hc.c3]
     have hlen:=hr.wk.seats a.toNat ht.2.2
     refine kW hc (fun _ _ _ c hs=>?_) fun hbad=>?_
     ·have ha6:a.toNat<6:=by have:=ht.1;have:=ht.2.1;omega
      have e:b=((b.toNat:Nat):Int):=by omega
      have:=zfw hc hr ha6 ht.2.2 (k:=0) (by omega) hs (i:=b.toNat) (by omega) hQ
      rw[←e] at this
      exact this
     ·exact absurd ⟨(xB hr).2 ht,by decide,by rw[hr.vm];omega⟩ hbad
    ·rw[if_pos (by omega)] at hQ
     rw[decide_eq_false hb8]
     show if false=true then _ else _
     rw[if_neg (by decide)]
     exact hQ S (After.here hc hr)
   ·rw[if_pos (by omega)] at hQ
    rw[if_neg hb0]
    show if false=true then _ else _
    rw[if_neg (by decide)]
    exact hQ S (After.here hc hr)
 ·rw[if_pos (.inl ht)] at hQ
  rw[decide_eq_false (fun h=>ht ((xB hr).1 h)),Bool.false_and,if_neg (by decide)]
  exact hQ S (After.here hc hr)
theorem zlP {n:Nat} {p:Int} {l:List Int} (h0:0≤p) (h1:p≤31) (h:W.own n p.toNat=some l):W.mine n p=0:=by
 unfold Wd.mine
 rw[if_neg (by rw[where_own h];simp;omega),h];rfl
theorem zqi (hr:Rel C W φ) {n p:Nat} {l:List Int} (h:W.own n p=some l):0≤(C.own (φ n p)).sh∧(C.own (φ n p)).sh≤1000000:=by
 have:=(hr.pg n p l h).2.1
 have h2:lentN W.ls n p≤16:=fp _ _
 rw[this]
 simp only
 omega
theorem ziY (hc:CrabA S ρ h A C) (hr:Rel C W φ) {n:Nat} (hn:n<6) (hon:(W.vm n).on=true) {p to:Int} {w:Bool} {Q:Int→Int→Mem→Prop} (hQ:∀ S',After h A C S ρ (W.offer n p to w).2.2 S'→Q (W.offer n p to w).1 (W.offer n p to w).2.1 S'):jm S (some (h,0)) n p to w Q:=by
 unfold Wd.offer at hQ
 apply zcW
 unfold vN
 refine zhM hc hr hn hon (fun l S1 h0 h1 ho hk=>?_) fun S1 hm hk=>?_
 ·have hc1:=hc.keeps hk
  rw[if_neg (fun h=>h (zlP h0 h1 ho))] at hQ
  simp only[jn]
  rw[if_neg (by decide),zV,qQ hc1.c3]
  refine wN hc1 ?_
  by_cases ht:W.there to
  ·rw[if_neg (fun h=>h ht)] at hQ
   rw[decide_eq_true ((xB hr).2 ht),if_pos rfl,zV,qQ hc1.c3,zV,gD hc1.tls]
   have et:to=((to.toNat:Nat):Int):=by have:=ht.1;omega
   have ep:p=((p.toNat:Nat):Int):=by omega
   rw[et,ep] at hQ ⊢
   simp only[Int.toNat_natCast] at hQ
   have h6:to.toNat<6:=by have:=ht.1;have:=ht.2.1;omega
   refine ziL (ls:=C.ls) (w:=w) hn h6 (by omega) (fun he=>?_) (fun he hf=>?_) fun i he hf=>?_
   ·rw[if_pos (by omega)] at hQ
    refine⟨ql,?_⟩
    rw[if_pos (by decide)]
    exact hQ S1 (After.keeps hc hr hk)
   ·rw[if_neg (by omega)] at hQ
    rw[hr.ls] at hf
    rw[hf] at hQ
    refine⟨ql,?_⟩
    rw[if_pos (by decide)]
    exact hQ S1 (After.keeps hc hr hk)
   ·rw[if_neg (by omega)] at hQ
    rw[hr.ls] at hf
    rw[hf] at hQ
    refine⟨ql,?_⟩
    rw[if_neg (by decide),qQ hc1.c3,zV]
    refine⟨ql,?_⟩
    refine zhe hc1 fun S2 m2 hc2=>?_
    rw[qQ hc2.c3,zV,qQ hc2.t74]
    have hpg:=hr.pg n p.toNat l ho
    refine zka hc2.ow hc2.rg hpg.1 (zqi hr ho) fun e S3 m3 hs3=>?_
    have hc3:=hc2.setOwn m3 hs3
    have hi:=(zZ hf).1
    rw[wu64 (by omega) (by omega)]
    refine hQ S3 ⟨ρ,A,_,φ,(hc.mv0 hk).trans ((m2.mono fun r hr=>by unfold Rc;omega).trans (m3.mono fun r hr=>by unfold Rc;omega)),hc3,?_,kp1,rfl,fun _=>rfl⟩
    exact hr.offer hon ht.2.2 (by omega) ho hf
  ·rw[if_pos ht] at hQ
   rw[decide_eq_false (fun h=>ht ((xB hr).1 h)),if_neg (by decide)]
   exact hQ S1 (After.keeps hc hr hk)
 ·rw[if_pos hm] at hQ
  simp only[jn]
  rw[if_pos hm]
  exact hQ S1 (After.keeps hc hr hk)
theorem lease5 {n:Nat} {i p:Int}:W.lease n 5 i p=if i<0∨15<i∨(W.ls i.toNat).on=false then (2,W) else if (W.ls i.toNat).to≠n then (7,W) else if 0≤(W.ls i.toNat).at_ then (8,W) else if p<0∨31<p then (1,W) else if W.where_ n p.toNat≠none then (8,W) else (0,W.setL i.toNat ((W.ls i.toNat).setA p)):=by
 unfold Wd.lease
 simp only[show ((5:Int)<7)=True from by simp,show ((5:Int)=7)=False from by simp,show ((5:Int)=6)=False from by simp,true_and,false_and,or_false,if_false]
theorem lease6 {n:Nat} {i p:Int}:W.lease n 6 i p=if i<0∨15<i∨(W.ls i.toNat).on=false then (2,W) else if (W.ls i.toNat).to≠n then (7,W) else if (W.ls i.toNat).at_<0 then (10,W) else (0,W.setL i.toNat ((W.ls i.toNat).setA (-1))):=by
 unfold Wd.lease
 simp only[show ((6:Int)<7)=True from by simp,show ((6:Int)=7)=False from by simp,true_and,false_and,or_false,if_true]
theorem lease7 {n:Nat} {i p:Int}:W.lease n 7 i p=if i<0∨15<i∨(W.ls i.toNat).on=false then (2,W) else if (W.ls i.toNat).fr≠n then (7,W) else if 0≤(W.ls i.toNat).at_ then (8,W) else (0,W.setL i.toNat ls0):=by
 unfold Wd.lease
 simp only[show ((7:Int)<7)=False from by simp,show ((7:Int)=6)=False from by simp,true_and,false_and,false_or,if_true,if_false]
theorem zib (hc:CrabA S ρ h A C) (hr:Rel C W φ) {n:Nat} (hn:n<6) (hon:(W.vm n).on=true) {i p:Int} {Q:Int→Mem→Prop} (hQ:∀ S',After h A C S ρ (W.lease n 5 i p).2 S'→Q (W.lease n 5 i p).1 S'):kn S (some (h,0)) n i p Q:=by
 rw[lease5] at hQ
 apply zcm
 unfold vh
 rw[zV,qQ hc.c3,zV,gD hc.tls]
 have els:=hr.ls
 refine zhO (ls:=C.ls) ⟨by omega,by omega⟩ (fun hb=>?_) (fun a b ho ht=>?_) (fun a b ho ht hat=>?_) (fun a b ho ht hat hp=>?_) fun a b ho ht hat h0 h1=>?_
 ·rw[els] at hb
  rw[if_pos hb] at hQ
  refine⟨ql,?_⟩
  simp only[jn]
  rw[if_pos (by decide)]
  exact hQ S (After.here hc hr)
 ·rw[els] at ho ht
  rw[if_neg (by rw[ho];simp;omega),if_pos (by omega)] at hQ
  refine⟨ql,?_⟩
  simp only[jn]
  rw[if_pos (by decide)]
  exact hQ S (After.here hc hr)
 ·rw[els] at ho ht hat
  rw[if_neg (by rw[ho];simp;omega),if_neg (by omega),if_pos hat] at hQ
  refine⟨ql,?_⟩
  simp only[jn]
  rw[if_pos (by decide)]
  exact hQ S (After.here hc hr)
 ·rw[els] at ho ht hat
  rw[if_neg (by rw[ho];simp;omega),if_neg (by omega),if_neg (by omega),if_pos hp] at hQ
  refine⟨ql,?_⟩
  simp only[jn]
  rw[if_pos (by decide)]
  exact hQ S (After.here hc hr)
 ·rw[els] at ho ht hat
  rw[if_neg (by rw[ho];simp;omega),if_neg (by omega),if_neg (by omega),if_neg (by omega)] at hQ
  have hto:(W.ls i.toNat).to=n:=by omega
  have hl:=hr.wk.lsr i.toNat ho
  refine⟨ql,?_⟩
  simp only[jn]
  rw[if_neg (by decide),qQ hc.c3,zV]
  refine⟨by omega,by omega,?_⟩
  rw[Int.toNat_natCast,gD (hc.vtab hn (by omega)),qQ hc.c0]
  refine walkD hc.st (hc.vs n hn).fr.row (fun f b1 S1 hw hk=>?_) fun e S1 hw he hk=>?_
  ·have hc1:=hc.keeps hk
   refine⟨hc1.c3,rfl,?_⟩
   rw[if_pos rfl]
   obtain⟨m,q,l,_,_,h2,_⟩:=hr.walk_some hon hw
   rw[if_pos (by rw[h2];simp)] at hQ
   exact hQ S1 (After.keeps hc hr hk)
  ·have hc1:=hc.keeps hk
   have hno:W.where_ n p.toNat=none:=by
    rcases hr.walk_none hon hw with h | h | h
    ·omega
    ·omega
    ·exact h
   rw[if_neg (fun h=>h hno)] at hQ
   refine⟨hc1.c3,rfl,?_⟩
   rw[if_neg he,qQ hc1.c3]
   refine⟨a,by omega,?_⟩
   have hfr6:(W.ls i.toNat).fr<6:=by
    have:=hr.wk.six (W.ls i.toNat).fr
    apply Classical.byContradiction
    intro hge
    have:=this (by omega)
    rw[hl.2.1] at this;cases this
   have efr:(upd C.ls i.toNat ((C.ls i.toNat).setA p) i.toNat)=(W.ls i.toNat).setA p:=by rw[zi,els]
   rw[zB ((zgR (i:=i.toNat) (j:=1) (by omega) (by decide) (by omega)).trans (by rw[efr];rfl))]
   show nn (some (A.t,0)) _
   rw[zV]
   have c1:((W.ls i.toNat).setA p).fr=(W.ls i.toNat).fr:=rfl
   rw[c1]
   refine⟨by omega,by omega,?_⟩
   rw[Int.toNat_natCast,gD (hc1.vtab hfr6 (by omega)),qQ hc1.c0]
   refine⟨a,by omega,?_⟩
   rw[zB ((zgR (i:=i.toNat) (j:=2) (by omega) (by decide) (by omega)).trans (by rw[efr];rfl))]
   have c2:((W.ls i.toNat).setA p).pg=(W.ls i.toNat).pg:=rfl
   rw[c2]
   obtain⟨l,hl2⟩:=Option.isSome_iff_exists.1 hl.2.2.2.2.1
   have hpg:=hr.pg _ _ l hl2
   have hwk:=hr.walk hl.2.1 (hr.wk.pg _ _ l hl2).2.1
   rw[where_own hl2] at hwk
   refine walkD hc1.st (hc1.vs _ hfr6).fr.row (fun f b1 S2 hw2 hk2=>?_) fun e S2 hw2 he2 hk2=>?_
   ·have hw3:C.walk (W.ls i.toNat).fr ((W.ls i.toNat).pg:Int)=some (f,b1):=hw2
    rw[hwk] at hw3
    simp only[Option.map_some,Option.some.injEq,Prod.mk.injEq] at hw3
    have hc2:=hc1.keeps hk2
    refine⟨hc2.c3,rfl,?_⟩
    rw[qQ hc2.c3,zV]
    refine⟨ql,?_⟩
    refine zhe hc2 fun S3 m3 hc3=>?_
    rw[zB (show nthL (enL f b1) 1=some (.int .i64 f) from rfl)]
    refine⟨a,by omega,?_⟩
    rw[fM ((zgR (i:=i.toNat) (j:=4) (by omega) (by decide) (by omega)).trans (by rw[efr];rfl))]
    have c3:((W.ls i.toNat).setA p).wr=(W.ls i.toNat).wr:=rfl
    rw[c3]
    have hcs:=hr.csize
    have ep:p=((p.toNat:Nat):Int):=by omega
    refine zmq hc3 hn (by rw[←hw3.1];exact hpg.1) (by show C.cache.length≤100;omega) fun S4 ρ4 cs m4 hc4=>?_
    refine hQ S4 ⟨ρ4,{ A with cs:=cs },_,φ,(hc.mv0 (hk.trans hk2)).trans ((m3.mono fun r hr=>by unfold Rc;omega).trans m4),hc4,?_,kp1,rfl,fun _=>rfl⟩
    have:=hr.accept (p:=p.toNat) (by omega) ho hto (by omega) hno
    rw[←ep] at this
    rw[←hw3.1]
    exact this
   ·have hw3:C.walk (W.ls i.toNat).fr ((W.ls i.toNat).pg:Int)=none:=hw2
    rw[hwk] at hw3
    cases hw3
end
end
section
open Go Go.Pt Go.Cr Go.Hp
section
variable {S S':Mem} {ρ ρ':Rho} {h:Nat} {A:Ad} {C:Cst} {W:Wd} {φ:Nat→Nat→Nat}
theorem ziZ (hc:CrabA S ρ h A C) (hr:Rel C W φ) {n:Nat} (hn:n<6) {i p:Int} {Q:Int→Mem→Prop} (hQ:∀ S',After h A C S ρ (W.lease n 6 i p).2 S'→Q (W.lease n 6 i p).1 S'):jp S (some (h,0)) n i Q:=by
 rw[lease6] at hQ
 have els:=hr.ls
 apply zcX
 unfold vO
 rw[zV,qQ hc.c3,zV,gD hc.tls]
 have key:∀ l:Ls,(0≤i→i≤15→(W.ls i.toNat).on=true→l=W.ls i.toNat)→(lsL l).all (·.oneCell')=true∧gP (S.cell h (0+3)) fun t_4=>nn t_4 fun b_3 o_2=>gA (S.part b_3 (o_2+75) 96) fun t_5=>wC S t_5 i n fun t_6 t_7 Sx_1=>
   t_6.all (·.oneCell')=true∧jn (fun (Sx_2:Mem)=>gP (Sx_2.cell h (0+3)) fun t_8=>nn t_8 fun b_5 o_3=>t_6.all (·.oneCell')=true∧pt Sx_2 b_5 (o_3+75) 96 t_6 fun Sx_3=>gI (nthL (lsL l) 5) .i64 fun t_9=>xJ Sx_3 (some (h,0)) n t_9 fun Sx_4=>Q 0 Sx_4) fun Jx=>
   if t_7≠0 then Q t_7 Sx_1 else Jx Sx_1:=by
  intro l hl
  refine⟨rfl,?_⟩
  rw[qQ hc.c3,zV,gD hc.tls]
  simp only[jn]
  refine ziM (ls:=C.ls) (fun hb=>?_) (fun a b ho ht=>?_) (fun a b ho ht hat=>?_) fun a b ho ht hat=>?_
  ·rw[els] at hb
   rw[if_pos hb] at hQ
   refine⟨ql,?_⟩
   rw[if_pos (by decide)]
   exact hQ S (After.here hc hr)
  ·rw[els] at ho ht
   rw[if_neg (by rw[ho];simp;omega),if_pos (by omega)] at hQ
   refine⟨ql,?_⟩
   rw[if_pos (by decide)]
   exact hQ S (After.here hc hr)
  ·rw[els] at ho ht hat
   rw[if_neg (by rw[ho];simp;omega),if_neg (by omega),if_pos hat] at hQ
   refine⟨ql,?_⟩
   rw[if_pos (by decide)]
   exact hQ S (After.here hc hr)
  ·rw[els] at ho ht hat
   rw[if_neg (by rw[ho];simp;omega),if_neg (by omega),if_neg (by omega)] at hQ
   refine⟨ql,?_⟩
   rw[if_neg (by decide),qQ hc.c3,zV]
   refine⟨ql,?_⟩
   refine zhe hc fun S3 m3 hc3=>?_
   have hll:=hl a b ho
   rw[zB (show nthL (lsL l) 5=some (.int .i64 l.at_) from rfl),hll]
   have hcs:=hr.csize
   refine zfu hc3 hn (by show C.cache.length≤100;omega) fun S4 ρ4 cs m4 hc4=>?_
   have ep:(W.ls i.toNat).at_=(((W.ls i.toNat).at_.toNat:Nat):Int):=by omega
   refine hQ S4 ⟨ρ4,{ A with cs:=cs },_,φ,(m3.mono fun r hr=>by unfold Rc;omega).trans m4,hc4,?_,kp1,rfl,fun _=>rfl⟩
   have:=hr.leave (n:=n) (p:=(W.ls i.toNat).at_.toNat) ho (by omega) ep
   rw[←ep] at this
   exact this
 refine zaw (ls:=C.ls) (fun a b ho=>key (C.ls i.toNat) fun _ _ _=>by rw[els]) fun hb=>key ls0 fun a b ho=>?_
 rw[els] at hb
 rcases hb with hb | hb | hb
 ·omega
 ·omega
 ·rw[ho] at hb;cases hb
theorem zfP (hc:CrabA S ρ h A C) (hr:Rel C W φ) {n:Nat} (hn:n<6) {i p:Int} {Q:Int→Mem→Prop} (hQ:∀ S',After h A C S ρ (W.lease n 7 i p).2 S'→Q (W.lease n 7 i p).1 S'):wW S (some (h,0)) n i Q:=by
 rw[lease7] at hQ
 have els:=hr.ls
 apply zbh
 unfold wx
 rw[zV,qQ hc.c3,zV,gD hc.tls]
 have key:∀ l:Ls,(0≤i→i≤15→(W.ls i.toNat).on=true→l=W.ls i.toNat)→(lsL l).all (·.oneCell')=true∧gP (S.cell h (0+3)) fun t_4=>nn t_4 fun b_3 o_2=>gA (S.part b_3 (o_2+75) 96) fun t_5=>yD S t_5 i n fun t_6 t_7 Sx_1=>
   t_6.all (·.oneCell')=true∧jn (fun (Sx_2:Mem)=>gP (Sx_2.cell h (0+3)) fun t_8=>nn t_8 fun b_5 o_3=>t_6.all (·.oneCell')=true∧pt Sx_2 b_5 (o_3+75) 96 t_6 fun Sx_3=>
    gP (Sx_3.cell h (0+3)) fun t_9=>nn t_9 fun b_6 o_4=>0≤(n:Int)∧(n:Int)<6∧gA (Sx_3.part b_6 (o_4+2+(n:Int).toNat*12+2) 2) fun t_10=>gP (Sx_3.cell h 0) fun t_11=>gI (nthL (lsL l) 2) .i64 fun t_12=>
    qv Sx_3 t_10 t_11 t_12 fun t_13 t_14 Sx_4=>Sx_4.cell h (0+3)=some (.pointer (some ⟨b_6,o_4,none⟩))∧t_13.all (·.oneCell')=true∧gP (Sx_4.cell h (0+3)) fun t_15=>nn t_15 fun b_8 o_5=>gP (Sx_4.cell b_8 (o_5+74)) fun t_16=>gI (nthL t_13 1) .i64 fun t_17=>
    xx Sx_4 t_16 t_17 n fun t_18 Sx_5=>Sx_5.cell h (0+3)=some (.pointer (some ⟨b_8,o_5,none⟩))∧Q t_18 Sx_5) fun Jx=>
   if t_7≠0 then Q t_7 Sx_1 else Jx Sx_1:=by
  intro l hl
  refine⟨rfl,?_⟩
  rw[qQ hc.c3,zV,gD hc.tls]
  simp only[jn]
  refine zfM (ls:=C.ls) (fun hb=>?_) (fun a b ho ht=>?_) (fun a b ho ht hat=>?_) fun a b ho ht hat=>?_
  ·rw[els] at hb
   rw[if_pos hb] at hQ
   refine⟨ql,?_⟩
   rw[if_pos (by decide)]
   exact hQ S (After.here hc hr)
  ·rw[els] at ho ht
   rw[if_neg (by rw[ho];simp;omega),if_pos (by omega)] at hQ
   refine⟨ql,?_⟩
   rw[if_pos (by decide)]
   exact hQ S (After.here hc hr)
  ·rw[els] at ho ht hat
   rw[if_neg (by rw[ho];simp;omega),if_neg (by omega),if_pos hat] at hQ
   refine⟨ql,?_⟩
   rw[if_pos (by decide)]
   exact hQ S (After.here hc hr)
  ·rw[els] at ho ht hat
   rw[if_neg (by rw[ho];simp;omega),if_neg (by omega),if_neg (by omega)] at hQ
   refine⟨ql,?_⟩
   rw[if_neg (by decide),qQ hc.c3,zV]
   refine⟨ql,?_⟩
   refine zhe hc fun S3 m3 hc3=>?_
   have hll:=hl a b ho
   have hfr:(W.ls i.toNat).fr=n:=by omega
   have hle:=hr.wk.lsr i.toNat ho
   obtain⟨lb,hlb⟩:=Option.isSome_iff_exists.1 hle.2.2.2.2.1
   have hpg:=hr.pg _ _ lb hlb
   have hwk:=hr.walk hle.2.1 (hr.wk.pg _ _ lb hlb).2.1
   rw[where_own hlb,hfr] at hwk
   obtain⟨hrel,hk3,hv3,hs3⟩:=hr.withdraw ho (by omega)
   rw[hfr] at hrel hk3 hv3 hs3 hlb hpg
   rw[qQ hc3.c3,zV]
   refine⟨by omega,by omega,?_⟩
   rw[Int.toNat_natCast,gD (hc3.vtab hn (by omega)),qQ hc3.c0,zB (show nthL (lsL l) 2=some (.int .i64 l.pg) from rfl),hll]
   refine walkD hc3.st (hc3.vs n hn).fr.row (fun f b1 S4 hw hk=>?_) fun e S4 hw he hk=>?_
   ·have hw3:C.walk n ((W.ls i.toNat).pg:Int)=some (f,b1):=hw
    rw[hwk] at hw3
    simp only[Option.map_some,Option.some.injEq,Prod.mk.injEq] at hw3
    have hc4:=hc3.keeps hk
    refine⟨hc4.c3,rfl,?_⟩
    rw[qQ hc4.c3,zV,qQ hc4.t74,zB (show nthL (enL f b1) 1=some (.int .i64 f) from rfl),←hw3.1]
    refine zhk hc4.ow hc4.rg hpg.1 (zqi hr hlb) fun e S5 m5 hs5 he5=>?_
    have hc5:=hc4.setOwn m5 hs5
    refine⟨hc5.c3,?_⟩
    rw[he5 ⟨hk3,hv3,hs3⟩]
    exact hQ S5 ⟨ρ,A,_,φ,(m3.mono fun r hr=>by unfold Rc;omega).trans ((Mv.keeps hc3.rg hk).trans (m5.mono fun r hr=>by unfold Rc;omega)),hc5,by rw[els];rw[els] at hrel;exact hrel,kp1,rfl,fun _=>rfl⟩
   ·have hw3:C.walk n ((W.ls i.toNat).pg:Int)=none:=hw
    rw[hwk] at hw3
    cases hw3
 refine zaw (ls:=C.ls) (fun a b ho=>key (C.ls i.toNat) fun _ _ _=>by rw[els]) fun hb=>key ls0 fun a b ho=>?_
 rw[els] at hb
 rcases hb with hb | hb | hb
 ·omega
 ·omega
 ·rw[ho] at hb;cases hb
theorem zkL (hc:CrabA S ρ h A C) (hr:Rel C W φ) {n:Nat} (hn:n<6) (hon:(W.vm n).on=true) {p:Int} {Q:Int→Mem→Prop} (hQ:∀ S',After h A C S ρ (W.give n p).2 S'→Q (W.give n p).1 S'):gb S (some (h,0)) n p Q:=by
 unfold Wd.give at hQ
 apply zef
 unfold kK
 refine zhM hc hr hn hon (fun l S1 h0 h1 ho hk=>?_) fun S1 hm hk=>?_
 ·have hc1:=hc.keeps hk
  rw[if_neg (fun h=>h (zlP h0 h1 ho))] at hQ
  simp only[jn]
  rw[if_neg (by decide),zV,qQ hc1.c3,zV,gD hc1.tls]
  refine zkx (ls:=C.ls) ?_
  rw[hr.ls]
  cases hlent:lentL W.ls n p with
  | true=>
   rw[if_pos hlent] at hQ
   rw[if_pos rfl]
   exact hQ S1 (After.keeps hc hr hk)
  | false=>
   rw[if_neg (by rw[hlent];decide)] at hQ
   rw[if_neg (by decide)]
   have hcs:=hr.csize
   have ep:p=((p.toNat:Nat):Int):=by omega
   have hpg:=hr.pg n _ l ho
   rw[ep] at hlent
   obtain⟨hrel,hus⟩:=hr.give ho hlent
   refine zfu hc1 hn (by omega) fun S2 ρ2 cs m2 hc2=>?_
   rw[zV,qQ hc2.c3,zV,qQ hc2.t74]
   refine zhH hc2.ow hc2.rg hpg.1 fun e S3 m3 hs3=>?_
   have hc3:=hc2.setOwn m3 hs3
   rw[qQ hc3.c1]
   refine zhS hc3.pl hc3.rg hpg.1 (fun _ S4 ρ4 m4 hp4=>?_) fun hu=>?_
   ·have hc4:=hc3.setPool m4 (fun r hr=>.inl hr) hp4
    rw[←ep] at hrel
    exact hQ S4 ⟨ρ4,{ A with cs:=cs },_,φ,(hc.mv0 hk).trans (m2.trans ((m3.mono fun r hr=>by unfold Rc;omega).trans (m4.mono fun r hr=>by unfold R345 at hr;unfold Rc;omega))),hc4,hrel,kp1,rfl,fun _=>rfl⟩
   ·have hu':C.used (φ n p.toNat)=false:=hu
    rw[hus] at hu';cases hu'
 ·rw[if_pos hm] at hQ
  simp only[jn]
  rw[if_pos hm]
  exact hQ S1 (After.keeps hc hr hk)
theorem zmt (hc:CrabA S ρ h A C) (hr:Rel C W φ) {n:Nat} (hn:n<6) (hon:(W.vm n).on=true) {p:Int} {Q:Int→Mem→Prop} (hQ:∀ S',After h A C S ρ (W.get n p).2 S'→Q (W.get n p).1 S'):fo S (some (h,0)) n p Q:=by
 unfold Wd.get at hQ
 apply zeJ
 unfold jB
 simp only[jn]
 by_cases h0:p<0
 ·rw[if_pos (.inl h0)] at hQ
  rw[if_pos h0];exact hQ S (After.here hc hr)
 rw[if_neg h0]
 by_cases h1:32≤p
 ·rw[if_pos (.inr (by omega))] at hQ
  rw[if_pos h1];exact hQ S (After.here hc hr)
 rw[if_neg h1,zV,qQ hc.c3,zV]
 rw[if_neg (by omega)] at hQ
 refine⟨by omega,by omega,?_⟩
 rw[Int.toNat_natCast,gD (hc.vtab hn (by omega)),qQ hc.c0]
 refine walkD hc.st (hc.vs n hn).fr.row (fun f b1 S1 hw hk=>?_) fun e S1 hw he hk=>?_
 ·have hc1:=hc.keeps hk
  refine⟨hc1.c3,rfl,?_⟩
  rw[if_pos rfl]
  obtain⟨m,q,l,_,_,h2,_⟩:=hr.walk_some hon hw
  rw[if_pos (by rw[h2];simp)] at hQ
  exact hQ S1 (After.keeps hc hr hk)
 ·have hc1:=hc.keeps hk
  have hno:W.where_ n p.toNat=none:=by
   rcases hr.walk_none hon hw with h | h | h
   ·omega
   ·omega
   ·exact h
  rw[if_neg (fun h=>h hno)] at hQ
  refine⟨hc1.c3,rfl,?_⟩
  rw[if_neg he,zV,qQ hc1.c3,zV]
  refine⟨by omega,by omega,?_⟩
  have hq:=hc1.vcell (n:=n) (j:=4) hn (by decide) (show 0+2+n*12+4=2+n*12+4 by omega)
  rw[zB hq]
  refine zfy hc1 hr hn hon ?_
  refine⟨hq,hc1.c3,?_⟩
  rw[hr.vm]
  by_cases hqq:(W.vm n).quota≤W.pages n
  ·rw[if_pos hqq] at hQ
   rw[if_pos hqq];exact hQ S1 (After.keeps hc hr hk)
  ·rw[if_neg hqq] at hQ
   rw[if_neg hqq,zV,qQ hc1.c1]
   have hleft:=hr.left
   refine zgb hc1.pl hc1.rg (by omega) (fun f hl0 hff S2 ρ2 m2 hp2=>?_) fun hbad=>?_
   ·have hc2:=hc1.setPool m2 (fun r hr=>.inl hr) hp2
    have hfree:W.free≠0:=fun e=>by
     have h3:=hr.free
     have h4:=yt (u:=C.used) (N:=C.N)
     rw[hff] at h4
     have:count (fun f=>! C.used f) C.N=0:=by omega
     exact absurd (h4.2 this) (by simp)
    rw[if_neg hfree] at hQ
    rw[if_neg (by decide)]
    have hcs:=hr.csize
    have ep:p=((p.toNat:Nat):Int):=by omega
    have hp32:p.toNat<32:=by omega
    have:=znb hc2 hn (p:=p.toNat) (f:=f) hp32 (zZ hff).1 (by show C.cache.length≤100;omega) (Q:=fun Sx=>Q 0 Sx) fun S3 ρ3 cs m3 hc3=>?_
    ·rw[←ep] at this;exact this
    ·refine hQ S3 ⟨ρ3,{ A with cs:=cs },_,upφ φ n p.toNat f,(hc.mv0 hk).trans ((m2.mono fun r hr=>by unfold R345 at hr;unfold Rc;omega).trans m3),hc3,?_,kp1,rfl,fun _=>rfl⟩
     have hrel:=hr.get (l:=noughts) ⟨qz,fun x hx=>xF hx⟩ hon hp32 hno (by omega) hff true rfl
     have e1:(if C.left-1 < -1 then -1 else C.left-1)=C.left:=by rw[hleft];decide
     rw[e1]
     exact hrel
   ·rw[if_pos (by decide)]
    have hfree:W.free=0:=by
     have h3:=hr.free
     rcases hbad with e | e
     ·have e':C.left=0:=e;omega
     ·have:=yt.1 e
      rw[h3,this];rfl
    rw[if_pos hfree] at hQ
    exact hQ S1 (After.keeps hc hr hk)
end
end
end Go.Proofs.YtabdpmnhjlmnlaaGreatDoor
