/- Texts of this work,joined by program (pack.py): Xa,Ro,PsN,Ic,Sk,Id,Ie,Ck,If,Ig,Rs,Xb,Xc. -/
import Derived.Test.YtabdpmnhjlmnlaaGreatDoorQLL
import Derived.Test.YtabdpmnhjlmnlaaGreatDoorQLM
import Derived.Test.YtabdpmnhjlmnlaaGreatDoorQLI
import Derived.Test.YtabdpmnhjlmnlaaGreatDoorQLN
import Derived.Test.YtabdpmnhjlmnlaaGreatDoorQLC
import Derived.Test.YtabdpmnhjlmnlaaGreatDoorQLJ
import Derived.Test.YtabdpmnhjlmnlaaGreatDoorQLF
import Derived.Test.YtabdpmnhjlmnlaaGreatDoorQLG
set_option linter.unusedVariables false
section
namespace Go.Cr
open Go Go.Pt
def slL (a:Nat) (b:Bool):List Value:=[eP (if b=true then some (a,0) else none),.bool b,.bool b]
def imL (x:Vx) (v:Bv) (A:Nat→Nat) (ow:Nat→Bool) (begun:Int):List Value:=vmC x v 0 0++(cF 32 (fun p=>slL (A p) (ow p))++[.int .u64 begun])
section
variable {x:Vx} {v:Bv} {A:Nat→Nat} {ow:Nat→Bool} {begun:Int}
theorem zbB:(cF 32 (fun p=>slL (A p) (ow p))).length=96:=xp (w:=3) fun _ _=>rfl
theorem imL_len:(imL x v A ow begun).length=109:=by
 unfold imL
 simp only[List.length_append,zbB,vI,List.length_cons,List.length_nil]
theorem zly {j:Nat} (hj:j<12):nthL (imL x v A ow begun) j=nthL (vmC x v 0 0) j:=by
 unfold imL;rw[xT (by rw[vI];exact hj)]
theorem zjf {j:Nat} {vs:List Value} (hj:j+vs.length≤12) {x':Vx} {v':Bv} (he:spl (vmC x v 0 0) j vs=vmC x' v' 0 0):spl (imL x v A ow begun) j vs=imL x' v' A ow begun:=by
 unfold imL;rw[xU (by rw[vI];exact hj),he]
theorem zlz:nthL (imL x v A ow begun) 108=some (.int .u64 begun):=by
 unfold imL
 rw[show 108=12+(96+0) by omega,ql (n:=12) vI,ql (n:=96) zbB];rfl
theorem zkR {p j:Nat} (hp:p<32) (hj:j<3):nthL (imL x v A ow begun) (12+(p*3+j))=nthL (slL (A p) (ow p)) j:=by
 unfold imL
 rw[ql (n:=12) vI,xT (by rw[zbB];omega)]
 exact zca (w:=3) (fun _ _=>rfl) hp hj
theorem zjQ:lpart (imL x v A ow begun) 12 96=some (cF 32 fun p=>slL (A p) (ow p)):=by
 unfold imL
 rw[show 12=12+0 by rfl,xD (n:=12) vI,wU (by rw[zbB];decide)]
 exact zg zbB
theorem zjP {p:Nat} (hp:p<32) {a:Nat} {b:Bool}:spl (imL x v A ow begun) (12+p*3) (slL a b)=imL x v (upd A p a) (upd ow p b) begun:=by
 unfold imL
 rw[zU (n:=12) vI,xU (by rw[zbB];show p*3+3≤96;omega)]
 have:=zen (w:=3) (k:=0) (n:=32) (vs:=slL a b) (f:=fun p=>slL (A p) (ow p)) (fun _ _=>rfl) hp (by show 0+3≤3;decide)
 rw[Nat.add_zero] at this
 rw[this]
 have e:cF 32 (upd (fun p=>slL (A p) (ow p)) p (spl (slL (A p) (ow p)) 0 (slL a b)))=cF 32 fun q=>slL (upd A p a q) (upd ow p b q):=yk fun q _=>by
  by_cases e:q=p
  ·subst e;rw[zt,zt,zt];rfl
  ·rw[zv e,zv e,zv e]
 rw[e]
end
structure Ic0 where
 now:Int
 free:Int
 x:Nat→Vx
 vm:Nat→Bv
 A:Nat→Nat
 ow:Nat→Nat→Bool
 be:Nat→Int
 ls:Nat→Ls
 cl:Sl
 es:Nat→Sl
def Ic0.L (c:Ic0):List Value:=
 [.int .u64 c.now,.int .i64 c.free]++(cF 6 (fun n=>imL (c.x n) (c.vm n) (fun p=>c.A (32*n+p)) (c.ow n) (c.be n))++(cF 16 (fun i=>lsL (c.ls i))++([eL c.cl]++cF 6 fun n=>[eL (c.es n)])))
section
variable {c:Ic0}
theorem vA:(cF 6 (fun n=>imL (c.x n) (c.vm n) (fun p=>c.A (32*n+p)) (c.ow n) (c.be n))).length=654:=xp (w:=109) fun _ _=>imL_len
theorem fq:(cF 16 (fun i=>lsL (c.ls i))).length=96:=xp (w:=6) fun _ _=>rfl
theorem zkT:(cF 6 fun n=>[eL (c.es n)]).length=6:=xp (w:=1) fun _ _=>rfl
theorem Ic0.len:c.L.length=759:=by
 unfold Ic0.L
 simp only[List.length_append,vA,fq,zkT,List.length_cons,List.length_nil]
theorem Ic0.get {n j i:Nat} (hn:n<6) (hj:j<109) (hi:i=2+(n*109+j)):nthL c.L i=nthL (imL (c.x n) (c.vm n) (fun p=>c.A (32*n+p)) (c.ow n) (c.be n)) j:=by
 subst hi
 unfold Ic0.L
 rw[ql (n:=2) rfl,xT (by rw[vA];omega)]
 exact zca (w:=109) (fun _ _=>imL_len) hn hj
theorem Ic0.gets {n j m i:Nat} (hn:n<6) (hj:j+m≤109) (hi:i=2+(n*109+j)):lpart c.L i m=lpart (imL (c.x n) (c.vm n) (fun p=>c.A (32*n+p)) (c.ow n) (c.be n)) j m:=by
 subst hi
 unfold Ic0.L
 rw[xD (n:=2) rfl,wU (by rw[vA];omega)]
 exact zbZ (w:=109) (fun _ _=>imL_len) hn hj
theorem Ic0.getls:lpart c.L 656 96=some (cF 16 fun i=>lsL (c.ls i)):=by
 unfold Ic0.L
 rw[show 656=2+(654+0) by rfl,xD (n:=2) rfl,xD (n:=654) vA,wU (by rw[fq];decide)]
 exact zg fq
theorem Ic0.getcl:nthL c.L 752=some (eL c.cl):=by
 unfold Ic0.L
 rw[show 752=2+(654+(96+0)) by rfl,ql (n:=2) rfl,ql (n:=654) vA,ql (n:=96) fq];rfl
theorem Ic0.gete {n i:Nat} (hn:n<6) (hi:i=753+n):nthL c.L i=some (eL (c.es n)):=by
 subst hi
 unfold Ic0.L
 rw[show 753+n=2+(654+(96+(1+n))) by omega,ql (n:=2) rfl,ql (n:=654) vA,ql (n:=96) fq,ql (n:=1) rfl]
 exact fm hn
theorem Ic0.set {n j i:Nat} {vs:List Value} (hn:n<6) (hj:j+vs.length≤109) (hi:i=2+(n*109+j)) {x':Vx} {v':Bv} {A':Nat→Nat} {ow':Nat→Bool} {b':Int} (he:spl (imL (c.x n) (c.vm n) (fun p=>c.A (32*n+p)) (c.ow n) (c.be n)) j vs=imL x' v' (fun p=>A' (32*n+p)) ow' b')
  (hA:∀ f,¬(32*n≤f∧f<32*n+32)→A' f=c.A f) :
  spl c.L i vs=({ c with x:=upd c.x n x',vm:=upd c.vm n v',A:=A',ow:=upd c.ow n ow',be:=upd c.be n b' }:Ic0).L:=by
 subst hi
 unfold Ic0.L
 rw[zU (n:=2) rfl,xU (by rw[vA];omega),zen (w:=109) (fun _ _=>imL_len) hn hj,he]
 have e:cF 6 (upd (fun n=>imL (c.x n) (c.vm n) (fun p=>c.A (32*n+p)) (c.ow n) (c.be n)) n (imL x' v' (fun p=>A' (32*n+p)) ow' b'))=cF 6 fun m=>imL (upd c.x n x' m) (upd c.vm n v' m) (fun p=>A' (32*m+p)) (upd c.ow n ow' m) (upd c.be n b' m):=yk fun m _=>by
  by_cases e:m=n
  ·subst e;simp only[zt]
  ·simp only[zv e]
   unfold imL
   rw[yk (n:=32) (f:=fun p=>slL (c.A (32*m+p)) (c.ow m p)) (g:=fun p=>slL (A' (32*m+p)) (c.ow m p)) fun p hp=>by rw[hA (32*m+p) (by omega)]]
 rw[e]
theorem Ic0.sete {n i:Nat} (hn:n<6) (hi:i=753+n) {s:Sl}:spl c.L i [eL s]=({ c with es:=upd c.es n s }:Ic0).L:=by
 subst hi
 unfold Ic0.L
 rw[show 753+n=2+(654+(96+(1+n))) by omega,zU (n:=2) rfl,zU (n:=654) vA,zU (n:=96) fq,zU (n:=1) rfl]
 rw[gc (g:=fun m=>eL (upd c.es n s m)) hn fun m _=>by unfold upd;split <;> rfl]
theorem Ic0.setc {s:Sl}:spl c.L 752 [eL s]=({ c with cl:=s }:Ic0).L:=by
 unfold Ic0.L
 rw[show 752=2+(654+(96+0)) by rfl,zU (n:=2) rfl,zU (n:=654) vA,zU (n:=96) fq,xU (by simp)]
 rfl
theorem Ic0.setf {f:Int}:spl c.L 1 [.int .i64 f]=({ c with free:=f }:Ic0).L:=rfl
end
end Go.Cr
end
section
namespace Go.Proofs.YtabdpmnhjlmnlaaGreatDoor
open Go Go.Pt Go.Cr Go.Hp
section
variable {S S':Mem} {ρ ρ':Rho} {R:Nat→Prop} {r:Nat} {D:Ra} {W:Wd} {n:Nat}
theorem zhi (h:RefA S ρ r D W) (hwk:WOk W) (hs:Sole W n) (hf : -100000≤W.free∧W.free≤100000) {p:Nat} (hp:p<32) {mb:Nat} (e1:(D.x n).mb=some (mb,0)) {Q:Int→Int→Mem→Prop} (hQ:∀ S',RAft r S ρ (W.setOF n p (some noughts) (W.free-1)) S'→Q 0 0 S') :
  gI (S.cell r (0+1)) .i64 fun t_21=>pt S r (0+1) 1 ([.int .i64 (IntKind.i64.wrap (t_21-1))]) fun Sx_34=>
   al Sx_34 5 (zrep 256 [.int .u8 0]) fun b_4 Sx_35=>0≤(p:Int)∧(p:Int)<32∧pt Sx_35 mb (0+p*1) 1 ([.slice (some ⟨b_4,0,none⟩) 256 256]) fun Sx_36=>
   0≤(p:Int)∧(p:Int)<32∧pt Sx_36 mb (0+32+p*1) 1 ([.bool true]) fun Sx_37=>
   0≤(n:Int)∧(n:Int)<6∧0≤(p:Int)∧(p:Int)<32∧pt Sx_37 r (0+2+n*54+16+p*1) 1 ([.bool true]) fun Sx_38=>Q 0 0 Sx_38:=by
 have hn:=hwk.on6 hs.on
 obtain⟨mb',e1',hme⟩:=h.me n hn hs.on
 have emb:mb'=mb:=by rw[e1] at e1';cases e1';rfl
 subst emb
 rw[zW h.c1,wneg (by omega)]
 refine h.put (i:=1) (vs:=[.int .i64 (W.free-1)]) rfl (by simp) rfl fun S1 m1 h1=>?_
 intro b hb
 rw[zgC]
 have mA:Mv S ρ (S1.set b (bw 5 (bL noughts))) (ρ.upd b (300+(32*n+p))) (fun q=>q=200):=m1.new hb _ _
 have m2:Mv S1 ρ (S1.set b (bw 5 (bL noughts))) (ρ.upd b (300+(32*n+p))) (fun _=>False):=(Mv.refl m1.rg).new hb _ _
 have hbl:Bl (S1.set b (bw 5 (bL noughts))) (ρ.upd b (300+(32*n+p))) (300+(32*n+p)) b (bw 5 (bL noughts)):=⟨qf,yt⟩
 refine⟨by omega,by omega,?_⟩
 refine ((hme.keep m1 (by omega)).keep m2 (fun h=>h)).pt m2.rg (vs:=[eL (pgS b)]) p rfl (by rw[yu];simp;omega) (by omega) fun S3 m3 h3=>?_
 refine⟨by omega,by omega,?_⟩
 refine h3.pt m3.rg (vs:=[.bool true]) (32+p) rfl (by rw[qj (by rw[yu];simp;omega),yu];simp;omega) (by omega) fun S4 m4 h4=>?_
 refine⟨by omega,by omega,by omega,by omega,?_⟩
 refine (((h1.keep m2 (fun h=>h)).keep m3 (by omega)).keep m4 (by omega)).pt m4.rg (vs:=[.bool true]) (2+(n*54+(16+p))) rfl (by rw[qj (by rw[Rc0.len];simp),Rc0.len];simp;omega) (by omega) fun S5 m5 h5=>?_
 have hs2:Sole (W.setO n p (some noughts)) n:=⟨hs.on,hs.off,hs.ls⟩
 have hA:∀ f,f≠32*n+p→upd D.A (32*n+p) b f=D.A f:=fun f e=>zv e
 have hmap:∀ q,q<32→q≠p→mePg (upd D.A (32*n+p) b) (((W.setO n p (some noughts)).gm n).map q)=mePg D.A ((W.gm n).map q)∧meW (((W.setO n p (some noughts)).gm n).map q)=meW ((W.gm n).map q):=fun q hq e=>by
  have:((W.setO n p (some noughts)).gm n).map q=(W.gm n).map q:=by
   rw[hs2.map hq,hs.map hq,yJ,if_neg (c:=n=n∧q=p) fun h=>e h.2]
  rw[this,hs.map hq]
  split
  ·refine⟨?_,rfl⟩
   show pgS (upd D.A (32*n+p) b (32*n+q))=pgS (D.A (32*n+q))
   rw[hA _ (by omega)]
  ·exact⟨rfl,rfl⟩
 have hmp:((W.setO n p (some noughts)).gm n).map p=some (32*n+p,true):=by rw[hs2.map hp,yJ,if_pos (c:=n=n∧p=p) ⟨rfl,rfl⟩];rfl
 have hml:=zeQ (A:=D.A) (A':=upd D.A (32*n+p) b) hp hmap
 rw[hmp] at hml
 have epg:mePg (upd D.A (32*n+p) b) (some (32*n+p,true))=pgS b:=by
  show pgS (upd D.A (32*n+p) b (32*n+p))=_
  rw[zt]
 rw[epg] at hml
 have h4':Pc S4 (ρ.upd b (300+(32*n+p))) (230+n) mb' (meL (upd D.A (32*n+p) b) ((W.setO n p (some noughts)).gm n).map):=by rw[←hml];exact h4
 have h5':Pc S5 (ρ.upd b (300+(32*n+p))) 200 r (({ D with A:=upd D.A (32*n+p) b }:Ra).c (W.setOF n p (some noughts) (W.free-1))).L:=by
  rw[←zka (o:=some noughts) hn hp];exact h5
 have mm:Mv S ρ S5 (ρ.upd b (300+(32*n+p))) (fun q=>q=200∨q=230+n):=(mA.mono fun q hq=>.inl hq).trans ((m3.mono fun q hq=>.inr hq).trans ((m4.mono fun q hq=>.inr hq).trans (m5.mono fun q hq=>.inl hq)))
 have hfin:=h.own (o:=some noughts) (f:=W.free-1) (A':=upd D.A (32*n+p) b) hwk hs hp hA mm (fun q hq=>by omega) e1 h5' (h4'.keep m5 (by omega)) (fun l hl=>by
  cases hl
  rw[zt]
  exact ((hbl.keep m3 (by omega)).keep m4 (by omega)).keep m5 (by omega))
 exact hQ S5 (hfin.aft mm fun q hq=>by omega)
set_option maxRecDepth 20000 in
theorem zfZ (h:RefA S ρ r D W) (hwk:WOk W) (hs:Sole W n) {p sec:Nat} (hp:p<32) (hsec:sec<4) {l:List Int} (ho:W.own n p=some l) {mb db:Nat} (e1:(D.x n).mb=some (mb,0)) (e2:(D.x n).d sec=pgS db) {K:Mem→Prop}
  (hK:∀ S',Mv S ρ S' ρ (· = 300+(32*n+p))→RefA S' ρ r D (W.setO n p (some ((W.vm n).disk sec)))→K S') :
  lp (fun Xx (i:Int) (Sx:Mem)=>if i<256 then
    0≤(p:Int)∧(p:Int)<32∧gL (Sx.cell mb (0+p*1)) fun t_31=>sl (pgS db) fun b_8 o_6 n_3 n_4=>0≤i∧i<((n_3:Nat):Int)∧gI (Sx.cell b_8 (o_6+i.toNat*1)) .u8 fun t_33=>
    sl t_31 fun b_9 o_7 n_5 n_6=>0≤i∧i<((n_5:Nat):Int)∧pt Sx b_9 (o_7+i.toNat*1) 1 ([.int .u8 t_33]) fun Sx_46=>Xx (IntKind.i64.wrap (i+1)) Sx_46
   else K Sx) 0 S:=by
 have hn:=hwk.on6 hs.on
 obtain⟨mb',e1',hme⟩:=h.me n hn hs.on
 have emb:mb'=mb:=by rw[e1] at e1';cases e1';rfl
 subst emb
 obtain⟨db',e2',hdb⟩:=h.sec hn hs.on hsec
 have edb:db'=db:=by rw[e2] at e2';simp[pgS] at e2';exact e2'.symm
 subst edb
 have hpg:=h.pg n p l ho
 have hl:=(hwk.pg n p l ho).2.2
 have hd:=hwk.disk n sec hs.on
 refine qx (fun (z:Int) S'=>∃ i:Nat,z=(i:Int)∧i≤256∧Mv S ρ S' ρ (· = 300+(32*n+p))∧Bl S' ρ (300+(32*n+p)) (D.A (32*n+p)) (bw 5 (bL (((W.vm n).disk sec).take i++l.drop i)))) (fun z=>256-z.toNat) ?_ ⟨0,rfl,by decide,Mv.refl h.rg,by rw[List.take_zero,List.drop_zero,List.nil_append];exact hpg⟩
 rintro X z S1 ⟨i,rfl,hi,m1,hb1⟩ ih
 by_cases hlt:(i:Int)<256
 ·rw[if_pos hlt]
  refine⟨by omega,by omega,?_⟩
  have hmap:mePg D.A ((W.gm n).map p)=pgS (D.A (32*n+p)):=by rw[hs.map hp,ho];rfl
  rw[vP (((hme.keep m1 (by omega)).cell p (by rw[yu];omega) (by omega)).trans ((zba hp).trans (by rw[hmap]))),zah]
  have hil:i<((W.vm n).disk sec).length:=by omega
  refine⟨by omega,by omega,?_⟩
  rw[zW (n:=((W.vm n).disk sec)[i]) ((Bl.cell (hdb.keep m1 (by omega))).trans (by
   show nthL (bL ((W.vm n).disk sec)) (0+(i:Int).toNat*1)=_
   rw[show 0+(i:Int).toNat*1=i by omega,qi]
   unfold bL
   rw[List.getElem?_map,List.getElem?_eq_getElem hil];rfl)),zah]
  refine⟨by omega,by omega,?_⟩
  refine Bl.pt hb1 m1.rg (i:=i) (by unfold bL;rw[List.length_map,List.length_append,List.length_take,List.length_drop];omega) (by omega) fun S2 m2 hb2=>?_
  rw[zfg (by omega) hil] at hb2
  rw[w64 (by omega) (by omega)]
  exact ih _ _ ⟨i+1,by omega,by omega,m1.trans m2,hb2⟩ (by omega)
 ·rw[if_neg hlt]
  have:i=256:=by omega
  subst this
  rw[List.take_of_length_le (by omega),List.drop_of_length_le (by omega),List.append_nil] at hb1
  exact hK S1 m1 (h.page2 hwk ho m1 hb1)
set_option maxRecDepth 20000 in
theorem zfY (h:RefA S ρ r D W) (hwk:WOk W) (hs:Sole W n) {p sec:Nat} (hp:p<32) (hsec:sec<4) {l:List Int} (ho:W.own n p=some l) {mb db:Nat} (e1:(D.x n).mb=some (mb,0)) (e2:(D.x n).d sec=pgS db) {K:Mem→Prop}
  (hK:∀ S',Mv S ρ S' ρ (· = 250+(4*n+sec))→RefA S' ρ r D (W.setV n ((W.vm n).setDisk sec l))→K S') :
  lp (fun Xx (i:Int) (Sx:Mem)=>if i<256 then
    0≤(p:Int)∧(p:Int)<32∧gL (Sx.cell mb (0+p*1)) fun t_36=>sl t_36 fun b_11 o_9 n_7 n_8=>0≤i∧i<((n_7:Nat):Int)∧gI (Sx.cell b_11 (o_9+i.toNat*1)) .u8 fun t_37=>
    sl (pgS db) fun b_12 o_10 n_9 n_10=>0≤i∧i<((n_9:Nat):Int)∧pt Sx b_12 (o_10+i.toNat*1) 1 ([.int .u8 t_37]) fun Sx_47=>Xx (IntKind.i64.wrap (i+1)) Sx_47
   else K Sx) 0 S:=by
 have hn:=hwk.on6 hs.on
 obtain⟨mb',e1',hme⟩:=h.me n hn hs.on
 have emb:mb'=mb:=by rw[e1] at e1';cases e1';rfl
 subst emb
 obtain⟨db',e2',hdb⟩:=h.sec hn hs.on hsec
 have edb:db'=db:=by rw[e2] at e2';simp[pgS] at e2';exact e2'.symm
 subst edb
 have hpg:=h.pg n p l ho
 have hl:=(hwk.pg n p l ho).2.2
 have hd:=hwk.disk n sec hs.on
 refine qx (fun (z:Int) S'=>∃ i:Nat,z=(i:Int)∧i≤256∧Mv S ρ S' ρ (· = 250+(4*n+sec))∧Bl S' ρ (250+(4*n+sec)) db' (bw 5 (bL (l.take i++((W.vm n).disk sec).drop i)))) (fun z=>256-z.toNat) ?_ ⟨0,rfl,by decide,Mv.refl h.rg,by rw[List.take_zero,List.drop_zero,List.nil_append];exact hdb⟩
 rintro X z S1 ⟨i,rfl,hi,m1,hb1⟩ ih
 by_cases hlt:(i:Int)<256
 ·rw[if_pos hlt]
  refine⟨by omega,by omega,?_⟩
  have hmap:mePg D.A ((W.gm n).map p)=pgS (D.A (32*n+p)):=by rw[hs.map hp,ho];rfl
  rw[vP (((hme.keep m1 (by omega)).cell p (by rw[yu];omega) (by omega)).trans ((zba hp).trans (by rw[hmap]))),zah]
  have hil:i<l.length:=by omega
  refine⟨by omega,by omega,?_⟩
  rw[zW (n:=l[i]) ((Bl.cell (hpg.keep m1 (by omega))).trans (by
   show nthL (bL l) (0+(i:Int).toNat*1)=_
   rw[show 0+(i:Int).toNat*1=i by omega,qi]
   unfold bL
   rw[List.getElem?_map,List.getElem?_eq_getElem hil];rfl)),zah]
  refine⟨by omega,by omega,?_⟩
  refine Bl.pt hb1 m1.rg (i:=i) (by unfold bL;rw[List.length_map,List.length_append,List.length_take,List.length_drop];omega) (by omega) fun S2 m2 hb2=>?_
  rw[zfg (by omega) hil] at hb2
  rw[w64 (by omega) (by omega)]
  exact ih _ _ ⟨i+1,by omega,by omega,m1.trans m2,hb2⟩ (by omega)
 ·rw[if_neg hlt]
  have:i=256:=by omega
  subst this
  rw[List.take_of_length_le (by omega),List.drop_of_length_le (by omega),List.append_nil] at hb1
  exact hK S1 m1 (h.disk hwk hn hs.on hsec e2 m1 hb1)
end
end Go.Proofs.YtabdpmnhjlmnlaaGreatDoor
end
section
namespace Go.Proofs.YtabdpmnhjlmnlaaGreatDoor
open Go Go.Pt
attribute [local irreducible] Code.wp Back bodyPost wpList FR WL WC WQ WA AW Tr Yc HC AllC
set_option maxRecDepth 20000
set_option maxHeartbeats 4000000
set_option linter.unusedVariables false
def jl (S:Mem) (Q:List Value→Mem→Prop):Prop:=
 jn (fun (d:List Value) (Sx:Mem)=>
 d.length=4 ∧
 d.all (·.oneCell')=true ∧
 Q d Sx) fun Jx=>
 lp (fun Xx (z:Int×List Value) (Sx_1:Mem)=>
 match z with
 | (t,d_1)=>
 d_1.length=4 ∧
 if t<4 then
 al Sx_1 5 (zrep 256 [.int .u8 0]) fun b_2 Sx_2=>
 0≤t∧t<4 ∧
 Xx (IntKind.i64.wrap (t+1),spl d_1 (0+t.toNat*1) ([.slice (some ⟨b_2,0,none⟩) 256 256])) Sx_2
 else
 Jx d_1 Sx_1) (0,[.slice (none) 0 0,.slice (none) 0 0,.slice (none) 0 0,.slice (none) 0 0]) S
theorem zcY {S:Mem} {Q:List Value→Mem→Prop} (H:jl S Q):fu S Q:=by
 unfold jl at H
 exact Tr.intro Tryz.func115 E Tryz.ntmps115 E fun w0=>csr<|by refine zP E fun b=>?_;exact nxr<|by refine zP E fun b_1=>?_;exact nx<|zm H (fun (J:List Value→Mem→Prop) (z:List Value) S=>J z S) (fun z=>⟨11,[(0,.pointer (some ⟨b,0,none⟩)),(1,.pointer (some ⟨b_1,0,none⟩))]⟩) (fun z=>[⟨b,64,[.slice (none) 0 0,.slice (none) 0 0,.slice (none) 0 0,.slice (none) 0 0]⟩,⟨b_1,64,z⟩]) (fun d Sx H1=>an H1 fun hd H2=>csr<|by refine s_v E (zO E hd) (zD (k:=4) 1 E (zg hd)) ?_;exact an H2 fun c H3=>zq 0 E E E E E hd E c<|nx<|zi<|zh Tryz.results115 (zy E (zD (k:=4) 0 E (zg hd)) hd ze) ⟨_,E,hd,H3⟩) (fun Jx hJx H4=>csr<|mv E E<|nx<|zE<|qS (fun z=>⟨11,[(0,.pointer (some ⟨b,0,none⟩)),(1,.pointer (some ⟨b_1,0,none⟩)),(3,.int .i64 z.1)]⟩) (fun z=>[⟨b,64,[.slice (none) 0 0,.slice (none) 0 0,.slice (none) 0 0,.slice (none) 0 0]⟩,⟨b_1,64,z.2⟩]) (0,[.slice (none) 0 0,.slice (none) 0 0,.slice (none) 0 0,.slice (none) 0 0]) (idx:=[0,0]) H4 E ⟨E,E,E,True.intro⟩ E<|by rintro Xx hXx ⟨t,d_1⟩ Sx_1 H5;exact an H5 fun hd_1 H6=>csr<|iteK H6 (fun c_1 H7=>s_p E (yT (zH E E) c_1)<|nx<|zG<|c_t E E<|qw<|zr<|zG<|zE<|csr<|mv E E<|gv E E<|nx<|zx<|mv E E<|zkC E E E (by decide) (by decide) (by decide) (by decide) fun b_2=>zaj 2 E fun hb_2=>have H8:=H7 b_2 hb_2;an2 H8 fun c_2 c_3 H9=>s_p E (zz E E c_2 c_3 E)<|qv (sz:=1) (vs:=[.slice (some ⟨b_2,0,none⟩) 256 256]) 1 E E E E E E (qt hd_1 (by omega)) E<|zn<|zS<|zr<|zx<|s_p E (qd E E)<|mv E E<|zn<|hXx (IntKind.i64.wrap (t+1),spl d_1 (0+t.toNat*1) ([.slice (some ⟨b_2,0,none⟩) 256 256])) _ _ _ _ [0,0] H9 E ⟨E,E,E,True.intro⟩ E) fun c_1 H7=>s_p E (yF (zH E E) c_1)<|nx<|zG<|c_f E E<|qB<|zo<|zo<|zV<|hJx d_1 _ _ _ _ [0,0] H7 E ⟨E,E,True.intro⟩ E)
def gw (S:Mem) (seats:Int) (quota:Int) (Q:List Value→Int→Mem→Prop):Prop:=
 jn (fun (v:List Value) (Sx:Mem)=>
 v.length=12 ∧
 fu Sx fun t Sx_1=>
 (spl (spl (spl ([.bool false,.slice (none) 0 0,.int .i64 0,.slice (none) 0 0,.int .i64 0,.int .u64 0,.slice (none) 0 0,.slice (none) 0 0,.slice (none) 0 0,.slice (none) 0 0,.slice (none) 0 0,.int .u32 0]) 0 [.bool true]) 4 [.int .i64 quota]) 7 t).all (·.oneCell')=true ∧
 jn (fun (v_1:List Value) (Sx_2:Mem)=>
 v_1.length=12 ∧
 v_1.all (·.oneCell')=true ∧
 Q v_1 0 Sx_2) fun Jx=>
 lp (fun Xx (z:Int×List Value) (Sx_3:Mem)=>
 match z with
 | (t_1,v_2)=>
 v_2.length=12 ∧
 if t_1<seats then
 gL (nthL v_2 1) fun t_2=>
 zfn Sx_3 fun t_3 Sx_4=>
 t_3.all (·.oneCell')=true ∧
 ap Sx_4 43 26 192 z43 t_2 1 t_3 fun t_4 Sx_5=>
 Xx (IntKind.i64.wrap (t_1+1),spl v_2 1 ([eL t_4])) Sx_5
 else
 Jx v_2 Sx_3) (0,spl (spl (spl ([.bool false,.slice (none) 0 0,.int .i64 0,.slice (none) 0 0,.int .i64 0,.int .u64 0,.slice (none) 0 0,.slice (none) 0 0,.slice (none) 0 0,.slice (none) 0 0,.slice (none) 0 0,.int .u32 0]) 0 [.bool true]) 4 [.int .i64 quota]) 7 t) Sx_1) fun Jx_1=>
 if seats<1 then
 Q ([.bool false,.slice (none) 0 0,.int .i64 0,.slice (none) 0 0,.int .i64 0,.int .u64 0,.slice (none) 0 0,.slice (none) 0 0,.slice (none) 0 0,.slice (none) 0 0,.slice (none) 0 0,.int .u32 0]) 1 S
 else
 if 3<seats then
 Q ([.bool false,.slice (none) 0 0,.int .i64 0,.slice (none) 0 0,.int .i64 0,.int .u64 0,.slice (none) 0 0,.slice (none) 0 0,.slice (none) 0 0,.slice (none) 0 0,.slice (none) 0 0,.int .u32 0]) 1 S
 else
 if quota<1 then
 Q ([.bool false,.slice (none) 0 0,.int .i64 0,.slice (none) 0 0,.int .i64 0,.int .u64 0,.slice (none) 0 0,.slice (none) 0 0,.slice (none) 0 0,.slice (none) 0 0,.slice (none) 0 0,.int .u32 0]) 1 S
 else
 if 32<quota then
 Q ([.bool false,.slice (none) 0 0,.int .i64 0,.slice (none) 0 0,.int .i64 0,.int .u64 0,.slice (none) 0 0,.slice (none) 0 0,.slice (none) 0 0,.slice (none) 0 0,.slice (none) 0 0,.int .u32 0]) 1 S
 else
 Jx_1 ([.bool false,.slice (none) 0 0,.int .i64 0,.slice (none) 0 0,.int .i64 0,.int .u64 0,.slice (none) 0 0,.slice (none) 0 0,.slice (none) 0 0,.slice (none) 0 0,.slice (none) 0 0,.int .u32 0]) S
theorem zdD {S:Mem} {seats:Int} {quota:Int} {Q:List Value→Int→Mem→Prop} (H:gw S seats quota Q):zaO S seats quota Q:=by
 unfold gw at H
 exact Tr.intro Tryz.func56 E Tryz.ntmps56 E fun w0=>csr<|by refine zP E fun b=>?_;exact gv E E<|nx<|zm H (fun (J:List Value→Mem→Prop) (z:List Value) S=>J z S) (fun z=>⟨36,[(0,.int .i64 seats),(1,.int .i64 quota),(4,.pointer (some ⟨b,0,none⟩))]⟩) (fun z=>[⟨b,66,z⟩]) (fun v Sx H1=>an H1 fun hv H2=>csr<|mv E E<|qr E E H2 fun rv Sx_1 H3=>by obtain⟨t,rfl,ht,H4⟩:=H3;exact s_p E (zR E (yL (off:=0) (size:=1) E E (qt (n:=12) E (by decide)) (yL (off:=4) (size:=1) E E (qt (n:=12) (zag (m:=1) E E (by decide)) (by decide)) (yL (off:=7) (size:=4) E ht (qt (n:=12) (zag (m:=1) (zag (m:=1) E E (by decide)) E (by decide)) (by decide)) ki))))<|by exact by refine zP E fun b_1=>?_;exact an H4 fun c H5=>zq 1 E E E E E (zag (m:=4) (zag (m:=1) (zag (m:=1) E E (by decide)) E (by decide)) ht (by decide)) E c<|nx<|zm H5 (fun (J:List Value→Mem→Prop) (z:List Value) S=>J z S) (fun z=>⟨36,[(4,.pointer (some ⟨b,0,none⟩)),(6,.pointer (some ⟨b_1,0,none⟩))]⟩) (fun z=>[⟨b,66,v⟩,⟨b_1,66,z⟩]) (fun v_1 Sx_2 H6=>an H6 fun hv_1 H7=>csr<|by refine s_v E (zO E hv_1) (zD (k:=12) 1 E (zg hv_1)) ?_;exact an H7 fun c_1 H8=>zq 0 E E E E E hv_1 hv c_1<|gv E E<|nx<|zi<|zh Tryz.results56 (zy E (zD (k:=12) 0 E (zg hv_1)) hv_1 (zc E ze)) ⟨_,_,E,hv_1,H8⟩) (fun Jx hJx H9=>csr<|mv E E<|mv E E<|nx<|zE<|qS (fun z=>⟨36,[(4,.pointer (some ⟨b,0,none⟩)),(6,.pointer (some ⟨b_1,0,none⟩)),(25,.int .i64 seats),(26,.int .i64 z.1)]⟩) (fun z=>[⟨b,66,v⟩,⟨b_1,66,z.2⟩]) (0,spl (spl (spl ([.bool false,.slice (none) 0 0,.int .i64 0,.slice (none) 0 0,.int .i64 0,.int .u64 0,.slice (none) 0 0,.slice (none) 0 0,.slice (none) 0 0,.slice (none) 0 0,.slice (none) 0 0,.int .u32 0]) 0 [.bool true]) 4 [.int .i64 quota]) 7 t) (idx:=[0,0]) H9 E ⟨E,E,E,E,True.intro⟩ E<|by rintro Xx hXx ⟨t_1,v_2⟩ Sx_3 H10;exact an H10 fun hv_2 H11=>csr<|iteK H11 (fun c_2 H12=>s_p E (yT (zH E E) c_2)<|nx<|zG<|c_t E E<|qw<|zr<|zG<|zE<|zI (by kernel_rfl)<|a_takeP 0 E (by decide +kernel) (zf (za (za (zf (za zd))))) E (zp E E)<|by exact gx H12 fun t_2 ht_2 H13=>qp 1 E (by decide +kernel) (zf (za (za (zf (za zd))))) E (zA E) (zQ 1 E ht_2)<|by exact zw 2 (by decide +kernel) E<|by exact qr E E H13 fun rv Sx_4 H14=>by obtain⟨t_3,rfl,ht_3,H15⟩:=H14;exact zn<|zF (zB (zQ 1 E ht_2) zu)<|zw 3 (by decide +kernel) E<|by exact zgA E E (by decide) (zdr (size:=26) E ht_3) fun b_2=>zn<|zF (zB (zQ 1 E ht_2) zu)<|zw 4 (by decide +kernel) E<|by exact an H15 fun c_3 H16=>zak (sx:=t_2) (vs:=t_3) E E E (zif 2 E (zg ht_3)) ht_3 c_3 (by decide) H16 fun t_4 Sx_5 H17=>zn<|zF zu<|a_takeP 5 E (by decide +kernel) (zf (za (za (zf (za zd))))) E (zp E E)<|by exact zw 6 (by decide +kernel) E<|by exact qv (sz:=1) (vs:=[eL t_4]) 1 E E E E E E (qt hv_2 (by omega)) E<|zn<|zF zu<|zJ (by decide +kernel)<|by exact zS<|zr<|zx<|s_p E (qd E E)<|mv E E<|zn<|hXx (IntKind.i64.wrap (t_1+1),spl v_2 1 ([eL t_4])) _ _ _ _ [0,0] H17 E ⟨E,E,E,E,True.intro⟩ E) fun c_2 H12=>s_p E (yF (zH E E) c_2)<|nx<|zG<|c_f E E<|qB<|zo<|zo<|zV<|hJx v_2 _ _ _ _ [0,0] H12 E ⟨E,E,True.intro⟩ E)) (fun Jx_1 hJx_1 H18=>csr<|mv E E<|iteK H18 (fun c_4 H19=>s_p E (yT (zH E E) c_4)<|mv E E<|sk2 E E<|pk E E E<|mv E E<|sk2 E E<|pk E E E<|mv E E<|sk2 E E<|pk E E E<|nx<|c_t E E<|csr<|s_p E (zR E E)<|by exact qv (sz:=12) (vs:=[.bool false,.slice (none) 0 0,.int .i64 0,.slice (none) 0 0,.int .i64 0,.int .u64 0,.slice (none) 0 0,.slice (none) 0 0,.slice (none) 0 0,.slice (none) 0 0,.slice (none) 0 0,.int .u32 0]) 0 E E E E E E (Nat.le_of_ble_eq_true E) E<|gv E E<|nx<|zi<|zb<|zh Tryz.results56 (zy E (zD (k:=12) 0 E E) E (zc E ze)) ⟨_,_,E,E,H19⟩) fun c_4 H19=>s_p E (yF (zH E E) c_4)<|mv E E<|mv E E<|iteK H19 (fun c_5 H20=>s_p E (yT (qu E E) c_5)<|pk E E E<|mv E E<|sk2 E E<|pk E E E<|mv E E<|sk2 E E<|pk E E E<|nx<|c_t E E<|csr<|s_p E (zR E E)<|by exact qv (sz:=12) (vs:=[.bool false,.slice (none) 0 0,.int .i64 0,.slice (none) 0 0,.int .i64 0,.int .u64 0,.slice (none) 0 0,.slice (none) 0 0,.slice (none) 0 0,.slice (none) 0 0,.slice (none) 0 0,.int .u32 0]) 0 E E E E E E (Nat.le_of_ble_eq_true E) E<|gv E E<|nx<|zi<|zb<|zh Tryz.results56 (zy E (zD (k:=12) 0 E E) E (zc E ze)) ⟨_,_,E,E,H20⟩) fun c_5 H20=>s_p E (yF (qu E E) c_5)<|pk E E E<|mv E E<|mv E E<|iteK H20 (fun c_6 H21=>s_p E (yT (zH E E) c_6)<|pk E E E<|mv E E<|sk2 E E<|pk E E E<|nx<|c_t E E<|csr<|s_p E (zR E E)<|by exact qv (sz:=12) (vs:=[.bool false,.slice (none) 0 0,.int .i64 0,.slice (none) 0 0,.int .i64 0,.int .u64 0,.slice (none) 0 0,.slice (none) 0 0,.slice (none) 0 0,.slice (none) 0 0,.slice (none) 0 0,.int .u32 0]) 0 E E E E E E (Nat.le_of_ble_eq_true E) E<|gv E E<|nx<|zi<|zb<|zh Tryz.results56 (zy E (zD (k:=12) 0 E E) E (zc E ze)) ⟨_,_,E,E,H21⟩) fun c_6 H21=>s_p E (yF (zH E E) c_6)<|pk E E E<|mv E E<|mv E E<|iteK H21 (fun c_7 H22=>s_p E (yT (qu E E) c_7)<|pk E E E<|nx<|c_t E E<|csr<|s_p E (zR E E)<|by exact qv (sz:=12) (vs:=[.bool false,.slice (none) 0 0,.int .i64 0,.slice (none) 0 0,.int .i64 0,.int .u64 0,.slice (none) 0 0,.slice (none) 0 0,.slice (none) 0 0,.slice (none) 0 0,.slice (none) 0 0,.int .u32 0]) 0 E E E E E E (Nat.le_of_ble_eq_true E) E<|gv E E<|nx<|zi<|zb<|zh Tryz.results56 (zy E (zD (k:=12) 0 E E) E (zc E ze)) ⟨_,_,E,E,H22⟩) fun c_7 H22=>s_p E (yF (qu E E) c_7)<|pk E E E<|nx<|cfs E E<|hJx_1 ([.bool false,.slice (none) 0 0,.int .i64 0,.slice (none) 0 0,.int .i64 0,.int .u64 0,.slice (none) 0 0,.slice (none) 0 0,.slice (none) 0 0,.slice (none) 0 0,.slice (none) 0 0,.int .u32 0]) _ _ _ _ [0] H22 E ⟨E,E,E,True.intro⟩ E)
def zaV (S:Mem) (Q:List Value→Mem→Prop):Prop:=
 Q ([.int .u64 0,.int .u64 0,.int .u64 0,.int .u64 0,.int .u64 0,.int .u64 0,.int .u64 0,.int .u64 0,.int .u64 0,.int .u64 0,.int .u64 0,.int .u64 0,.int .u64 0,.int .u64 0,.int .u64 0,.int .u64 0,.int .u64 0,.int .u64 0,.int .u64 0,.int .u64 0,.int .u64 0,.int .u64 0,.bool false,.int .u8 0,.int .u32 0,.int .u32 0]) S
theorem zfQ {S:Mem} {Q:List Value→Mem→Prop} (H:zaV S Q):zfn S Q:=by
 unfold zaV at H
 exact Tr.intro Tryz.func116 E Tryz.ntmps116 E fun w0=>csr<|by refine zP E fun b=>?_;exact nxr<|s_p E (zR E E)<|by exact zq 0 E E E E E E wR E<|nx<|zi<|zh Tryz.results116 (zy E (zD (k:=26) 0 E E) E ze) ⟨_,E,E,H⟩
end Go.Proofs.YtabdpmnhjlmnlaaGreatDoor
end
section
namespace Go.Proofs.YtabdpmnhjlmnlaaGreatDoor
open Go Go.Pt Go.Cr Go.Hp
section
variable {S S':Mem} {ρ ρ':Rho} {h:Nat} {A:Ad} {C:Cst} {W:Wd} {φ:Nat→Nat→Nat}
theorem qQ {w:Int} (hw:W64 w) {Q:Int→Mem→Prop} (hQ:Q (small w) S):qz S w Q:=by
 have h1:=hw.1
 apply zdE
 unfold gy
 unfold small at hQ
 by_cases h:65536≤w
 ·rw[if_pos (by omega)] at hQ
  rw[if_pos h];exact hQ
 ·rw[if_neg (by omega)] at hQ
  rw[if_neg h,w64 (by omega) (by omega)];exact hQ
end
end Go.Proofs.YtabdpmnhjlmnlaaGreatDoor
end
section
namespace Go.Cr
open Go Go.Pt
open Go.Proofs.YtabdpmnhjlmnlaaGreatDoor
theorem wrapu (n:Int):IntKind.u64.wrap n=n%18446744073709551616:=by simp[IntKind.wrap,IntKind.bits,IntKind.signed]
theorem zkq (n:Int):W64 (IntKind.u64.wrap n):=by rw[wrapu];exact⟨by omega,by omega⟩
theorem zkQ {x:Int} (h:W64 x) (k:Int):W64 (ishr .u64 x k):=by
 unfold ishr
 obtain⟨m,rfl⟩:∃ m:Nat,x=m:=⟨x.toNat,by have:=h.1;omega⟩
 have e:Int.fdiv (m:Int) (2 ^ min k.toNat IntKind.u64.bits)=((m/2 ^ min k.toNat IntKind.u64.bits:Nat):Int):=by
  rw[Int.fdiv_eq_ediv_of_nonneg _ (by exact Int.pow_nonneg (by decide))]
  rw[Int.natCast_ediv,Int.natCast_pow];rfl
 rw[e]
 have:=Nat.div_le_self m (2 ^ min k.toNat IntKind.u64.bits)
 have h2:=h.2
 generalize m/2 ^ min k.toNat IntKind.u64.bits=q at *
 exact⟨by omega,by omega⟩
theorem zlq {k b c:Int} (hb:W64 b):W64 (sumM k b c):=by
 unfold sumM
 repeat' split
 all_goals first | exact wv _ | exact zkq _ | exact zkQ hb _
theorem zlB {s:Seat} (h:s.Ok) {time me n:Int} (ht:W64 time) (hm:0≤me∧me≤2):W64 (getR s time me n):=by
 have hk:=h.mask
 unfold getR
 split
 ·exact h.base
 split
 ·exact h.vec
 split
 ·exact h.epc
 split
 ·exact h.cause
 split
 ·exact h.addr
 split
 ·exact⟨by omega,by omega⟩
 split
 ·split <;> exact⟨by decide,by decide⟩
 split
 ·exact ht
 ·exact⟨by omega,by omega⟩
theorem zky {s t:Seat} (h:s.Ok) {n v:Int} (hv:W64 v) (he:setR s n v=some t):t.Ok:=by
 unfold setR at he
 split at he
 ·cases he;exact { h with base:=hv }
 split at he
 ·cases he;exact { h with vec:=hv }
 split at he
 ·cases he;exact { h with epc:=hv }
 split at he
 ·cases he;exact { h with cause:=hv }
 split at he
 ·cases he;exact { h with addr:=hv }
 split at he
 ·cases he;exact { h with mask:=⟨by show 0≤v%256;omega,by show v%256≤255;omega⟩ }
 split at he
 ·cases he;exact { h with }
 ·cases he
theorem r_w {s:Seat} (h:s.Ok) {i:Int}:W64 (s.r i):=by
 unfold Seat.r
 rw[List.getD_eq_getElem?_getD]
 cases hq:s.R[i.toNat]? with
 | none=>exact⟨by decide,by decide⟩
 | some x=>exact h.r x (List.mem_of_getElem? hq)
theorem setr_ok {s:Seat} (h:s.Ok) {i v:Int} (hv:W64 v):(s.setr i v).Ok:={ h with
 len:=by show (s.R.set i.toNat v).length=16;rw[List.length_set];exact h.len
 r:=fun x hx=>by
  rcases List.mem_or_eq_of_mem_set hx with e | e
  ·exact h.r x e
  ·rw[e];exact hv }
theorem gQ {s:Seat} (h:s.Ok) {v:Int} (hv:W64 v):({ s with pc:=v }:Seat).Ok:={ h with pc:=hv }
theorem gF {s:Seat} {g:GM} (h:s.Ok) {c a:Int} (hc:W64 c) (ha:W64 a):(trapM s g c a).s.Ok:=Seat.trap_ok h hc ha
set_option maxHeartbeats 1000000 in
theorem zlD {s:Seat} {g:GM} (hg:g.Ok) (h:s.Ok) {time me k a b c n:Int} (ht:W64 time) (hm:0≤me∧me≤2):(doM s g time me k a b c n).s.Ok:=by
 have w3:W64 3:=⟨by decide,by decide⟩
 have w4:W64 4:=⟨by decide,by decide⟩
 have w1:W64 1:=⟨by decide,by decide⟩
 unfold doM
 dsimp only
 by_cases h1:k=1
 ·rw[if_pos h1];exact gQ (setr_ok h (wv _)) (wv _)
 rw[if_neg h1]
 by_cases h2:k=2
 ·rw[if_pos h2];exact gQ (setr_ok h (wv _)) (wv _)
 rw[if_neg h2]
 by_cases h11:k=11
 ·rw[if_pos h11];exact gQ (setr_ok h (wv _)) (wv _)
 rw[if_neg h11]
 by_cases h12:k=12
 ·rw[if_pos h12]
  cases hw:getW s g (x64 (s.r b+x64 n)) 8 with
  | none=>exact gF h w3 (wv _)
  | some v=>
   have:=zdp hg (wv _) (.inr rfl) hw
   exact gQ (setr_ok h (by first | exact this | exact⟨this.1,by omega⟩)) (wv _)
 rw[if_neg h12]
 by_cases h13:k=13
 ·rw[if_pos h13]
  cases hw:putW s g (x64 (s.r b+x64 n)) (s.r a) with
  | none=>exact gF h w4 (wv _)
  | some v=>exact gQ h (wv _)
 rw[if_neg h13]
 by_cases h14:k=14
 ·rw[if_pos h14];refine gQ h ?_;split <;> exact wv _
 rw[if_neg h14]
 by_cases h15:k=15
 ·rw[if_pos h15];refine gQ h ?_;split <;> exact wv _
 rw[if_neg h15]
 by_cases h16:k=16
 ·rw[if_pos h16];refine gQ h ?_;split <;> exact wv _
 rw[if_neg h16]
 by_cases h17:k=17
 ·rw[if_pos h17];exact gQ (setr_ok h (wv _)) (wv _)
 rw[if_neg h17]
 by_cases h18:k=18
 ·rw[if_pos h18];exact gQ (setr_ok h (zlB h ht hm)) (wv _)
 rw[if_neg h18]
 by_cases h19:k=19
 ·rw[if_pos h19]
  cases hs:setR s n (s.r a) with
  | none=>exact gF h w1 h.pc
  | some t=>exact gQ (zky h (r_w h) hs) (wv _)
 rw[if_neg h19]
 by_cases h20:k=20
 ·rw[if_pos h20];exact gQ h (wv _)
 rw[if_neg h20]
 by_cases h21:k=21
 ·rw[if_pos h21]
  split
  ·exact { gQ h (wv (s.pc+4)) with st:=⟨show (0:Int)≤1 by decide,show (1:Int)≤2 by decide⟩ }
  ·exact gQ h (wv _)
 rw[if_neg h21]
 by_cases h22:k=22
 ·rw[if_pos h22];exact Seat.back_ok h
 rw[if_neg h22]
 by_cases h3:3≤k
 ·rw[if_pos h3];exact gQ (setr_ok h (zlq (r_w h))) (wv _)
 ·rw[if_neg h3];exact gQ h (wv _)
theorem zgT {s:Seat} {g:GM} (hg:g.Ok) (h:s.Ok) {time me:Int} (ht:W64 time) (hm:0≤me∧me≤2):(stepM s g time me).s.Ok:=by
 unfold stepM
 by_cases h0:s.st≠0
 ·rw[if_pos h0];exact h
 rw[if_neg h0]
 cases hn:nextL s with
 | some n=>
  obtain⟨h8,_,_,hge⟩:=zbq h hn
  have hp:=h.pend
  dsimp only
  have hpos:(0:Int)<2 ^ n:=Int.pow_pos (by decide)
  exact gF (s:={ s with pend:=s.pend-2 ^ n }) { h with pend:=⟨by show 0≤s.pend-2 ^ n;omega,by show s.pend-2 ^ n≤255;omega⟩ } ⟨by omega,by omega⟩ ⟨by decide,by decide⟩
 | none=>
  dsimp only
  cases hw:getW s g s.pc 4 with
  | none=>exact gF h ⟨by decide,by decide⟩ h.pc
  | some w=>
   dsimp only
   have:=zdp hg h.pc (.inl rfl) hw
   split
   ·exact zlD hg h ht hm
   ·exact gF h ⟨by decide,by decide⟩ ⟨by omega,by omega⟩
theorem zdJ {s:Seat} {g:GM} {time me:Int} (h:(stepM s g time me).k=5):(stepM s g time me).s=s∧(stepM s g time me).g=g:=by
 have tr:∀ (s:Seat) (g:GM) c a,(trapM s g c a).k≠5:=fun s g c a=>by unfold trapM;dsimp only;split <;> decide
 unfold stepM at h ⊢
 by_cases h0:s.st≠0
 ·rw[if_pos h0];exact⟨rfl,rfl⟩
 rw[if_neg h0] at h
 exfalso
 cases hn:nextL s with
 | some n=>rw[hn] at h;exact tr _ _ _ _ h
 | none=>
  rw[hn] at h
  dsimp only at h
  cases hw:getW s g s.pc 4 with
  | none=>rw[hw] at h;exact tr _ _ _ _ h
  | some w=>
   rw[hw] at h
   dsimp only at h
   split at h
   ·have key:∀ k a b c n,(doM s g time me k a b c n).k≠5:=by
     intro k a b c n
     have t0:(0:Int)≠5:=by decide
     unfold doM
     dsimp only
     by_cases h1:k=1
     ·rw[if_pos h1];exact t0
     rw[if_neg h1]
     by_cases h2:k=2
     ·rw[if_pos h2];exact t0
     rw[if_neg h2]
     by_cases h11:k=11
     ·rw[if_pos h11];exact t0
     rw[if_neg h11]
     by_cases h12:k=12
     ·rw[if_pos h12]
      cases getW s g (x64 (s.r b+x64 n)) 8 with
      | none=>exact tr _ _ _ _
      | some v=>exact t0
     rw[if_neg h12]
     by_cases h13:k=13
     ·rw[if_pos h13]
      cases putW s g (x64 (s.r b+x64 n)) (s.r a) with
      | none=>exact tr _ _ _ _
      | some v=>exact t0
     rw[if_neg h13]
     by_cases h14:k=14
     ·rw[if_pos h14];exact t0
     rw[if_neg h14]
     by_cases h15:k=15
     ·rw[if_pos h15];exact t0
     rw[if_neg h15]
     by_cases h16:k=16
     ·rw[if_pos h16];exact t0
     rw[if_neg h16]
     by_cases h17:k=17
     ·rw[if_pos h17];exact t0
     rw[if_neg h17]
     by_cases h18:k=18
     ·rw[if_pos h18];exact t0
     rw[if_neg h18]
     by_cases h19:k=19
     ·rw[if_pos h19]
      cases setR s n (s.r a) with
      | none=>exact tr _ _ _ _
      | some t=>exact t0
     rw[if_neg h19]
     by_cases h20:k=20
     ·rw[if_pos h20];exact show (2:Int)≠5 by decide
     rw[if_neg h20]
     by_cases h21:k=21
     ·rw[if_pos h21]
      split
      ·exact show (3:Int)≠5 by decide
      ·exact t0
     rw[if_neg h21]
     by_cases h22:k=22
     ·rw[if_pos h22];exact t0
     rw[if_neg h22]
     by_cases h3:3≤k
     ·rw[if_pos h3];exact t0
     ·rw[if_neg h3];exact t0
    exact key _ _ _ _ _ h
   ·exact tr _ _ _ _ h
end Go.Cr
end
section
namespace Go.Proofs.YtabdpmnhjlmnlaaGreatDoor
open Go Go.Pt Go.Cr Go.Hp
section
variable {S S':Mem} {ρ ρ':Rho} {h:Nat} {A:Ad} {C:Cst} {W:Wd} {φ:Nat→Nat→Nat}
theorem and255 {w:Int} (hw:W64 w):iand .u64 w 255=w%256:=by
 obtain⟨n,rfl⟩:∃ n:Nat,w=n:=⟨w.toNat,by have:=hw.1;omega⟩
 have hn:n<18446744073709551616:=by have:=hw.2;omega
 have:=vh (a:=n) (b:=255) hn (by decide)
 have e:n &&& 255=n%256:=Nat.and_two_pow_sub_one_eq_mod n 8
 rw[e] at this
 have e3:((255:Nat):Int)=255:=rfl
 rw[e3] at this
 rw[this];omega
end
end Go.Proofs.YtabdpmnhjlmnlaaGreatDoor
namespace Go.Proofs.YtabdpmnhjlmnlaaGreatDoor
open Go Go.Pt Go.Cr Go.Hp
section
variable {S S':Mem} {ρ ρ':Rho} {h:Nat} {A:Ad} {C:Cst} {W:Wd} {φ:Nat→Nat→Nat}
theorem Seat.r_eq {s:Seat} {i:Nat}:s.R.getD i 0=s.r i:=by unfold Seat.r;rw[Int.toNat_natCast]
theorem Seat.r_w {s:Seat} (h:s.Ok) {i:Nat} (hi:i<16):W64 (s.r i):=by
 rw[←Seat.r_eq,List.getD_eq_getElem?_getD,List.getElem?_eq_getElem (by rw[h.len];exact hi)]
 exact h.r _ (List.getElem_mem _)
theorem Seat.setr_ok {s:Seat} (h:s.Ok) {i v:Int} (hv:W64 v):(s.setr i v).Ok:={ h with
 len:=by show (s.R.set i.toNat v).length=16;rw[List.length_set];exact h.len
 r:=fun x hx=>by
  rcases List.mem_or_eq_of_mem_set hx with e | e
  ·exact h.r x e
  ·rw[e];exact hv }
theorem zgL {x n:Int} {k:Int} {pc:Int} {s:Seat} (hs:s.Ok) {Q:List Value→Mem→Prop} (hQ:∀ S',Keeps S S' []→Q (evL (told x n k pc s)) S'):zbY S (exL x n) k pc s.L Q:=by
 apply zeC
 unfold fS
 refine⟨rfl,Seat.L_len hs.len,?_⟩
 simp only[jn]
 unfold told at hQ
 rw[zW (show nthL (exL x n) 0=some (.int .u8 x) from rfl)]
 by_cases h1:x=1
 ·rw[if_pos h1] at hQ ⊢
  rw[zW (show nthL (exL x n) 1=some (.int .u64 n) from rfl)]
  exact hQ S Keeps.refl
 rw[if_neg h1] at hQ ⊢
 by_cases h4:x=4
 ·rw[if_pos h4] at hQ ⊢
  rw[zW (show nthL (exL x n) 1=some (.int .u64 n) from rfl)]
  exact hQ S Keeps.refl
 rw[if_neg h4] at hQ ⊢
 refine⟨rfl,?_⟩
 exact zgR hs fun S' hk=>hQ S' hk
end
end Go.Proofs.YtabdpmnhjlmnlaaGreatDoor
end
section
namespace Go.Proofs.YtabdpmnhjlmnlaaGreatDoor
open Go Go.Pt Go.Cr Go.Hp
section
variable {S S':Mem} {ρ ρ':Rho} {h:Nat} {A:Ad} {C:Cst} {W:Wd} {φ:Nat→Nat→Nat}
theorem After.comp {A1:Ad} {C1:Cst} {S1 S2:Mem} {ρ1:Rho} {W2:Wd} (m:Mv S ρ S1 ρ1 Rc) (kp:Kp C C1) (ht:A1.t=A.t) (hx:∀ i,(A1.x i).ss=(A.x i).ss) (hA:After h A1 C1 S1 ρ1 W2 S2):After h A C S ρ W2 S2:=by
 obtain⟨ρ',A',C',φ',m',hc',hr',kp',ht',hx'⟩:=hA
 exact⟨ρ',A',C',φ',m.trans m',hc',hr',kp.trans kp',ht'.trans ht,fun i=>(hx' i).trans (hx i)⟩
end
end Go.Proofs.YtabdpmnhjlmnlaaGreatDoor
end
section
namespace Go.Cr
open Go Go.Pt
def clrD (d:Nat→List Int) (fr:List Nat):Nat→List Int:=fr.foldl (fun d f=>upd d f noughts) d
def rootD (d:Nat→List Int) (form:Int) (r:Nat) (fr:List Nat):Nat→Nat→List Int
 | 0=>d
 | i+1=>wr (rootD d form r fr i) r (8*i) (bytes8 (pk form (fr.getD (i+1) 0) true))
def makeD (d:Nat→List Int) (form:Int) (fr:List Nat):Nat→List Int:=rootD (clrD d fr) form (fr.getD 0 0) fr 4
theorem zbr:∀ {fr:List Nat} {d:Nat→List Int} {x:Nat},clrD d fr x=if x∈fr then noughts else d x
 | [],d,x=>by simp[clrD]
 | f :: fr,d,x=>by
  unfold clrD
  rw[List.foldl_cons]
  have:=zbr (fr:=fr) (d:=upd d f noughts) (x:=x)
  unfold clrD at this
  rw[this]
  by_cases e:x∈fr
  ·rw[if_pos e,if_pos (List.mem_cons_of_mem _ e)]
  ·rw[if_neg e]
   by_cases e2:x=f
   ·subst e2;rw[zt,if_pos List.mem_cons_self]
   ·rw[zv e2,if_neg (by simp[e,e2])]
theorem kZ {d:Nat→List Int} {form:Int} {r x:Nat} {fr:List Nat} (h:x≠r):∀ {i:Nat},rootD d form r fr i x=d x
 | 0=>rfl
 | i+1=>by rw[rootD,zkr h,kZ h]
theorem zbJ {d:Nat→List Int} {form:Int} {r:Nat} {fr:List Nat} (h:(d r).length=256∧Byt (d r)):∀ {i:Nat},i≤31→(rootD d form r fr i r).length=256∧Byt (rootD d form r fr i r)
 | 0,_=>h
 | i+1,hi=>by
  have ih:=zbJ (form:=form) (fr:=fr) h (i:=i) (by omega)
  rw[rootD]
  exact⟨by rw[ziX (by rw[ih.1,vF];omega)];exact ih.1,ziY (gJ _) ih.2⟩
theorem zfq {d:Nat→List Int} {form:Int} {r:Nat} {fr:List Nat} (h:(d r).length=256∧Byt (d r)) (hf:∀ f∈fr,f≤65535):∀ {i j:Nat},i≤31→j<i→ld (rootD d form r fr i) r j=pk form (fr.getD (j+1) 0) true
 | 0,j,_,hj=>by omega
 | i+1,j,hi,hj=>by
  have ih:=zbJ (form:=form) (fr:=fr) h (i:=i) (by omega)
  have h6:fr.getD (i+1) 0≤65535:=by
   rw[List.getD_eq_getElem?_getD]
   cases hq:fr[i+1]? with
   | none=>exact Nat.zero_le _
   | some x=>exact hf x (List.mem_of_getElem? hq)
  rw[rootD,zkO ih.1 (by omega) (by omega) (zlw h6).1]
  by_cases e:j=i
  ·rw[if_pos ⟨rfl,e⟩,e]
  ·rw[if_neg (fun h=>e h.2)]
   exact zfq h hf (by omega) (by omega)
theorem zgn {d:Nat→List Int} {f i:Nat} (h:d f=noughts):ld d f i=0:=by
 unfold ld
 rw[h]
 have key:∀ l:List Int,(∀ x∈l,x=0)→num l=0:=by
  intro l
  induction l with
  | nil=>intro _;rfl
  | cons x l ih=>
   intro hl
   simp only[num]
   rw[hl x (by simp),ih fun y hy=>hl y (by simp[hy])];rfl
 exact key _ fun x hx=>zbK (List.mem_of_mem_drop (List.mem_of_mem_take hx))
def keepL (own:Nat→Ow) (n:Nat) (l:List Nat):Nat→Ow:=l.foldl (fun o f=>keepC o f n) own
theorem zeb {n:Nat}:∀ {l:List Nat} {own:Nat→Ow} {x:Nat},(∀ f∈l,(own f).kind=0)→l.Nodup→keepL own n l x=if x∈l then ⟨2,n,0,0⟩ else own x
 | [],own,x,_,_=>by simp[keepL]
 | f :: l,own,x,h,hn=>by
  obtain⟨h1,h2⟩:=List.nodup_cons.1 hn
  have e0:keepC own f n=upd own f ⟨2,n,0,0⟩:=by
   unfold keepC
   rw[if_pos (h f (by simp)),if_pos (by omega)]
  have ih:=zeb (n:=n) (l:=l) (own:=keepC own f n) (x:=x) (fun g hg=>by
   rw[e0,zv (fun e=>by subst e;exact h1 hg)];exact h g (by simp[hg])) h2
  unfold keepL at ih ⊢
  rw[List.foldl_cons,ih]
  by_cases e:x∈l
  ·rw[if_pos e,if_pos (List.mem_cons_of_mem _ e)]
  ·rw[if_neg e,e0]
   by_cases e2:x=f
   ·subst e2;rw[zt,if_pos List.mem_cons_self]
   ·rw[zv e2,if_neg (by simp[e,e2])]
def Wd.newV (W:Wd) (n:Nat) (seats quota:Int):Wd:=
 { W with free:=W.free-5,vm:=upd W.vm n (mkV seats quota),time:=upd W.time n 0,ev:=upd W.ev n [] }
section
variable {C:Cst} {W:Wd} {φ:Nat→Nat→Nat}
theorem zhs (h:WOk W) {n:Nat} (hn:n<6) (hoff:(W.vm n).on=false) {seats quota:Int} (hs:1≤seats∧seats≤3) (hq:1≤quota∧quota≤32):WOk (W.newV n seats quota):=by
 have vn:(W.newV n seats quota).vm n=mkV seats quota:=zt
 have vo:∀ i,i≠n→(W.newV n seats quota).vm i=W.vm i:=fun i e=>zv e
 have h0:=h.off n hoff
 have on_of:∀ i,(W.vm i).on=true→i≠n:=fun i hi e=>by subst e;rw[hoff] at hi;cases hi
 refine { h with off:=fun i hi=>?_,six:=fun i hi=>?_,seats:=fun i hi=>?_,ok:=fun i s hs'=>?_,keys:=fun i=>?_,disk:=fun i j hi=>?_,quota:=fun i=>?_,bells:=fun i k hk=>?_,pg:=fun i p l hl=>?_,most:=fun i=>?_,lsr:=fun i hi=>?_,alarm:=fun i k w hw=>?_ }
 ·have e:i≠n:=fun e=>by subst e;rw[vn] at hi;cases hi
  rw[vo i e] at hi ⊢;exact h.off i hi
 ·rw[vo i (by omega)];exact h.six i hi
 ·by_cases e:i=n
  ·subst e;rw[vn]
   show 1≤(List.replicate seats.toNat seat0).length∧_
   rw[List.length_replicate]
   exact⟨by omega,by show (List.replicate seats.toNat seat0).length≤3;rw[List.length_replicate];omega⟩
  ·rw[vo i e] at hi ⊢;exact h.seats i hi
 ·by_cases e:i=n
  ·subst e;rw[vn] at hs'
   rw[List.eq_of_mem_replicate hs'];exact zfo
  ·rw[vo i e] at hs';exact h.ok i s hs'
 ·by_cases e:i=n
  ·subst e;rw[vn];exact⟨Nat.zero_le _,fun x hx=>by cases hx⟩
  ·rw[vo i e];exact h.keys i
 ·by_cases e:i=n
  ·subst e;rw[vn];exact⟨qJ,fun x hx=>ja hx⟩
  ·rw[vo i e] at hi ⊢;exact h.disk i j hi
 ·by_cases e:i=n
  ·subst e;rw[vn];exact⟨show 0≤quota by omega,hq.2⟩
  ·rw[vo i e];exact h.quota i
 ·by_cases e:i=n
  ·subst e;rw[vn] at hk;cases hk
  ·rw[vo i e] at hk
   obtain⟨a,b,c,d⟩:=h.bells i k hk
   have hkn:=on_of k b
   rw[vo i e,vo k hkn];exact⟨a,b,c,d⟩
 ·obtain⟨a,b⟩:=h.pg i p l hl
  rw[vo i (on_of i a)];exact⟨a,b⟩
 ·by_cases e:i=n
  ·subst e
   have:(W.newV i seats quota).pages i=0:=vE fun p _=>by
    show (W.own i p).isSome=false
    rw[h0.2.1];rfl
   rw[this,vn];show (0:Int)≤quota;omega
  ·rw[vo i e];exact h.most i
 ·obtain⟨a,b,c,d⟩:=h.lsr i hi
  have e1:(W.newV n seats quota).ls i=W.ls i:=rfl
  rw[e1,vo _ (on_of _ b),vo _ (on_of _ c)];exact⟨a,b,c,d⟩
 ·have hw':W.alarm i k=some w:=hw
  have e:i≠n:=fun e=>by subst e;rw[h0.2.2] at hw';cases hw'
  rw[vo i e];exact h.alarm i k w hw'
theorem Rel.newV (h:Rel C W φ) {n:Nat} (hn:n<6) (hoff:(W.vm n).on=false) {seats quota:Int} (hs:1≤seats∧seats≤3) (hq:1≤quota∧quota≤32) {l:List Nat} {u:Nat→Bool} (ht:takeN C.N 5 C.used=some (l,u)) :
  Rel { C with used:=u,own:=keepL C.own n l,dat:=makeD C.dat C.form l,vm:=upd C.vm n (mkV seats quota),tf:=upd C.tf n C.form,fr:=upd C.fr n l,late:=upd C.late n C.now,ev:=upd C.ev n [] } (W.newV n seats quota) φ:=by
 obtain⟨hl5,hnd,hfree,hu,hcnt⟩:=zcs ht
 have hk0:∀ f∈l,(C.own f).kind=0:=fun f hf=>by
  have h1:=hfree f hf
  have:=h.used f h1.1
  rw[h1.2] at this
  have h2:=of_decide_eq_false this.symm
  exact Classical.byContradiction fun h3=>h2 h3
 have hown:∀ x,keepL C.own n l x=if x∈l then ⟨2,n,0,0⟩ else C.own x:=fun x=>zeb hk0 hnd
 have hN:=h.N
 have hmem:∀ j,j<5→l.getD j 0∈l:=fun j hj=>zfB (by omega)
 have h0:=h.wk.off n hoff
 have ht0:=h.off n hoff
 have vo:∀ i,i≠n→(W.newV n seats quota).vm i=W.vm i:=fun i e=>zv e
 have vn:(W.newV n seats quota).vm n=mkV seats quota:=zt
 have hr:l.getD 0 0∈l:=hmem 0 (by decide)
 have hinj:∀ j,j<5→j≠0→l.getD j 0≠l.getD 0 0:=fun j hj hj0 e=>by
  rw[List.getD_eq_getElem?_getD,List.getD_eq_getElem?_getD,List.getElem?_eq_getElem (by omega),List.getElem?_eq_getElem (by omega)] at e
  exact hj0 ((List.getElem_inj hnd).1 e)
 have hclr:∀ x,x∈l→clrD C.dat l x=noughts:=fun x hx=>by rw[zbr,if_pos hx]
 have hnb:noughts.length=256∧Byt noughts:=⟨qJ,fun x hx=>ja hx⟩
 have hdn:∀ x,x∉l→makeD C.dat C.form l x=C.dat x:=fun x hx=>by
  unfold makeD
  rw[kZ (fun e=>hx (by rw[e];exact hr)),zbr,if_neg hx]
 have hlen:∀ f,f<C.N→(makeD C.dat C.form l f).length=256∧Byt (makeD C.dat C.form l f):=fun f hf=>by
  by_cases e:f=l.getD 0 0
  ·unfold makeD
   rw[e]
   exact zbJ (by rw[hclr _ hr];exact hnb) (by decide)
  ·unfold makeD
   rw[kZ e,zbr]
   split
   ·exact hnb
   ·exact h.len f hf
 have hnl:∀ f,(C.own f).kind≠0→f∉l:=fun f hf hm=>hf (hk0 f hm)
 have fr_of:∀ m j,(W.vm m).on=true→j<5→(C.fr m).getD j 0∉l:=fun m j hm hj=>hnl _ (by rw[(h.frN hm hj).2];exact show (2:Int)≠0 by decide)
 have on_of:∀ i,(W.vm i).on=true→i≠n:=fun i hi e=>by subst e;rw[hoff] at hi;cases hi
 have ldn:∀ x i,x∉l→ld (makeD C.dat C.form l) x i=ld C.dat x i:=fun x i hx=>by unfold ld;rw[hdn x hx]
 have hroot:∀ m j,((W.newV n seats quota).vm m).on=true→j<4→unp C.form (ld (makeD C.dat C.form l) ((upd C.fr n l m).getD 0 0) j)=some ((upd C.fr n l m).getD (j+1) 0,true):=fun m j hm hj=>by
  by_cases e:m=n
  ·subst e
   rw[zt]
   have e1:ld (makeD C.dat C.form l) (l.getD 0 0) j=pk C.form (l.getD (j+1) 0) true:=zfq (by rw[hclr _ hr];exact hnb) (fun f hf=>by have:=(hfree f hf).1;omega) (by decide) hj
   rw[e1,ziZ (by have:=(hfree _ (hmem (j+1) (by omega))).1;omega)]
  ·rw[vo m e] at hm
   rw[zv e,ldn _ _ (fr_of m 0 hm (by decide))]
   exact h.root m j hm hj
 have hwhere:∀ m p,(W.newV n seats quota).where_ m p=W.where_ m p:=fun m p=>rfl
 have hwn:∀ p,W.where_ n p=none:=fun p=>by
  unfold Wd.where_
  rw[h0.2.1]
  cases hf:leaseAt W.ls n p with
  | none=>rfl
  | some j=>
   obtain⟨_,h1,h2,_⟩:=vj hf
   have:=(h.wk.lsr j h1).2.2.1
   rw[h2,hoff] at this;cases this
 have hleaf:∀ m p,((W.newV n seats quota).vm m).on=true→p<32→unp C.form (ld (makeD C.dat C.form l) ((upd C.fr n l m).getD (p/8+1) 0) (p%8))=(W.where_ m p).map fun q=>(φ q.1 q.2.1,q.2.2):=fun m p hm hp=>by
  by_cases e:m=n
  ·subst e
   rw[zt,hwn]
   have e1:makeD C.dat C.form l (l.getD (p/8+1) 0)=noughts:=by
    unfold makeD
    rw[kZ (hinj _ (by omega) (by omega)),hclr _ (hmem _ (by omega))]
   rw[zgn e1,zfk];rfl
  ·rw[vo m e] at hm
   rw[zv e,ldn _ _ (fr_of m _ hm (by omega))]
   exact h.leaf m p hm hp
 exact { h with
  wk:=zhs h.wk hn hoff hs hq
  vm:=by show upd C.vm n _=upd W.vm n _;rw[h.vm]
  ev:=by show upd C.ev n _=upd W.ev n _;rw[h.ev]
  time:=fun i hi=>by
   show 0≤upd C.late n C.now i∧upd C.late n C.now i≤C.now∧upd W.time n 0 i=C.now-upd C.late n C.now i
   have hnow:=h.now
   by_cases e:i=n
   ·subst e;rw[zt,zt];omega
   ·rw[vo i e] at hi
    rw[zv e,zv e];exact h.time i hi
  alm:=fun i k=>by
   show C.alm i k=(W.alarm i k).map fun w=>min (w+upd C.late n C.now i) most64
   by_cases e:i=n
   ·subst e
    rw[h.alm i k,h0.2.2];rfl
   ·rw[zv e];exact h.alm i k
  free:=by
   show W.free-5=(count (fun f=>! u f) C.N:Int)
   have:=h.free
   omega
  used:=fun f hf=>by
   show u f=decide ((keepL C.own n l f).kind≠0)
   rw[hu,hown]
   by_cases e:f∈l
   ·rw[if_pos e];simp[e]
   ·rw[if_neg e,h.used f hf];simp[e]
  own0:=fun f hf hk=>by
   have hk':(keepL C.own n l f).kind=0:=hk
   show keepL C.own n l f=ow0
   rw[hown] at hk' ⊢
   by_cases e:f∈l
   ·rw[if_pos e] at hk';cases hk'
   ·rw[if_neg e] at hk' ⊢;exact h.own0 f hf hk'
  kind:=fun f hf=>by
   show 0≤(keepL C.own n l f).kind∧(keepL C.own n l f).kind≤3
   rw[hown]
   split
   ·exact⟨show (0:Int)≤2 by decide,show (2:Int)≤3 by decide⟩
   ·exact h.kind f hf
  len:=hlen
  off:=fun i hi=>by
   have e:i≠n:=fun e=>by subst e;rw[vn] at hi;cases hi
   rw[vo i e] at hi
   show upd C.fr n l i=[]∧upd C.tf n C.form i=0∧upd C.late n C.now i=0
   rw[zv e,zv e,zv e];exact h.off i hi
  tab:=fun i hi=>by
   show upd C.tf n C.form i=C.form∧(upd C.fr n l i).length=5∧(upd C.fr n l i).Nodup
   by_cases e:i=n
   ·subst e;rw[zt,zt];exact⟨rfl,hl5,hnd⟩
   ·rw[vo i e] at hi
    rw[zv e,zv e];exact h.tab i hi
  tabf:=fun m f hm=>by
   have hm':f∈upd C.fr n l m:=hm
   show f<C.N∧keepL C.own n l f=⟨2,m,0,0⟩
   rw[hown]
   by_cases e:m=n
   ·subst e
    rw[zt] at hm'
    rw[if_pos hm'];exact⟨(hfree f hm').1,rfl⟩
   ·rw[zv e] at hm'
    have:=h.tabf m f hm'
    rw[if_neg (hnl f (by rw[this.2];exact show (2:Int)≠0 by decide))];exact this
  tabk:=fun f hf h2=>by
   have h2':(keepL C.own n l f).kind=2:=h2
   rw[hown] at h2'
   by_cases e:f∈l
   ·exact⟨n,by show f∈upd C.fr n l n;rw[zt];exact e⟩
   ·rw[if_neg e] at h2'
    obtain⟨m,hm⟩:=h.tabk f hf h2'
    have hmn:m≠n:=fun e2=>by subst e2;rw[ht0.1] at hm;cases hm
    exact⟨m,by show f∈upd C.fr n l m;rw[zv hmn];exact hm⟩
  root:=hroot
  leaf:=hleaf
  pg:=fun m p l2 hl2=>by
   have h3:=h.pg m p l2 hl2
   have hnm:φ m p∉l:=hnl _ (by rw[h3.2.1];exact show (3:Int)≠0 by decide)
   refine⟨h3.1,?_,?_⟩
   ·show keepL C.own n l (φ m p)=_
    rw[hown,if_neg hnm];exact h3.2.1
   ·show makeD C.dat C.form l (φ m p)=l2
    rw[hdn _ hnm];exact h3.2.2
  pgk:=fun f hf h3=>by
   have h3':(keepL C.own n l f).kind=3:=h3
   rw[hown] at h3'
   by_cases e:f∈l
   ·rw[if_pos e] at h3';cases h3'
   ·rw[if_neg e] at h3';exact h.pgk f hf h3'
  hyp:=⟨h.hyp.1,fun f=>by
   show _↔f<C.N∧(keepL C.own n l f).kind=1
   rw[hown]
   by_cases e:f∈l
   ·rw[if_pos e,h.hyp.2 f,hk0 f e]
    exact⟨fun h=>(by cases h.2),fun h=>(by cases h.2)⟩
   ·rw[if_neg e];exact h.hyp.2 f⟩
  cache:=fun r hr'=>by
   obtain⟨m,h1,h2,h3⟩:=h.cache r hr'
   have hmn:=on_of m h2
   refine⟨m,h1,by rw[vo m hmn];exact h2,?_⟩
   show walkC (makeD C.dat C.form l) C.N (upd C.tf n C.form m) (upd C.fr n l m) r.page=_
   rw[zv hmn,zv hmn,←h3]
   by_cases hp:r.page<0∨31<r.page
   ·rw[zcW hp]
    unfold walkC Go.Cr.leafC
    rw[if_pos hp]
   ·obtain⟨q,hq⟩:∃ q:Nat,r.page=q:=⟨r.page.toNat,by omega⟩
    have hf:=(h.tab m h2).1
    have hr2:=fun j hj=>hroot m j (by rw[vo m hmn];exact h2) hj
    simp only[zv hmn] at hr2
    have hl2:=hleaf m q (by rw[vo m hmn];exact h2) (by omega)
    rw[zv hmn] at hl2
    rw[hq,zgI (h.tab m h2).2.1 (fun j hj=>(h.frN h2 hj).1) (fun j hj=>by rw[hf];exact hr2 j hj) (by omega),hf,hl2,h.walk h2 (by omega)] }
def partB (img:List Int) (p:Nat):List Int:=(img.drop (256*p)).take 256
theorem zcA (img:List Int) (p:Nat):spB noughts 0 (partB img p)=pageB img p:=by
 unfold spB pageB fit256 partB
 rw[List.take_zero,List.nil_append,Nat.zero_add]
 congr 1
 unfold noughts
 rw[List.drop_replicate]
 congr 1
 rw[List.length_take];omega
theorem zgf {img:List Int} {p:Nat} (h:img.length≤256*p):pageB img p=noughts:=by
 unfold pageB fit256
 rw[List.drop_of_length_le h];rfl
theorem ziB {img:List Int} (hb:Byt img) (p:Nat):(pageB img p).length=256∧Byt (pageB img p):=by
 refine⟨zcL _,fun x hx=>?_⟩
 unfold pageB fit256 at hx
 rcases List.mem_append.1 hx with h | h
 ·exact hb x (List.mem_of_mem_drop (List.mem_of_mem_take h))
 ·rw[List.eq_of_mem_replicate h];decide
theorem zgX {n p:Nat} {o o':Option (List Int)}:(W.setO n p o).setO n p o'=W.setO n p o':=by
 have e:upd (W.setO n p o).own n (upd ((W.setO n p o).own n) p o')=upd W.own n (upd (W.own n) p o'):=by
  show upd (upd W.own n (upd (W.own n) p o)) n (upd ((upd W.own n (upd (W.own n) p o)) n) p o')=_
  rw[jQ,zt,jQ]
 exact congrArg (fun x=>({ W with own:=x }:Wd)) e
theorem Rel.page (h:Rel C W φ) {n p f:Nat} {img:List Int} (hb:Byt img) (hon:(W.vm n).on=true) (hp:p<32) (hno:W.where_ n p=none) (hq:(W.pages n:Int)<(W.vm n).quota) (hf:firstOff C.used C.N=some f) :
  Rel { C with dat:=(if 256*p<img.length then wr (setC (upd C.dat f noughts) C.N (C.tf n) (C.fr n) p (pk (C.tf n) f true)) f 0 (partB img p) else setC (upd C.dat f noughts) C.N (C.tf n) (C.fr n) p (pk (C.tf n) f true)),cache:=dropC C.cache n p,own:=donC C.own f n p,used:=upd C.used f true } { W.setO n p (some (pageB img p)) with free:=W.free-1 } (upφ φ n p f):=by
 have hg:=h.get (l:=noughts) ⟨qJ,fun x hx=>ja hx⟩ hon hp hno hq hf true rfl
 by_cases hl:256*p<img.length
 ·rw[if_pos hl]
  have ho:({ W.setO n p (some noughts) with free:=W.free-1 }:Wd).own n p=some noughts:=by
   show (W.setO n p (some noughts)).own n p=_
   rw[setO_own,if_pos ⟨rfl,rfl⟩]
  have h2:=hg.setO (l':=spB noughts 0 (partB img p)) ho (by rw[zcA];exact ziB hb p)
  have hpg:=hg.pg n p noughts ho
  have eφ:upφ φ n p f n p=f:=by unfold upφ;rw[if_pos ⟨rfl,rfl⟩]
  rw[eφ] at h2 hpg
  have ed:(setC (upd C.dat f noughts) C.N (C.tf n) (C.fr n) p (pk (C.tf n) f true)) f=noughts:=hpg.2.2
  have ew:wr (setC (upd C.dat f noughts) C.N (C.tf n) (C.fr n) p (pk (C.tf n) f true)) f 0 (partB img p)=upd (setC (upd C.dat f noughts) C.N (C.tf n) (C.fr n) p (pk (C.tf n) f true)) f (spB noughts 0 (partB img p)):=by unfold wr;rw[ed]
  rw[ew]
  have eo:({ W.setO n p (some noughts) with free:=W.free-1 }:Wd).setO n p (some (spB noughts 0 (partB img p))) = { W.setO n p (some (pageB img p)) with free:=W.free-1 }:=by
   have:=zgX (W:=W) (n:=n) (p:=p) (o:=some noughts) (o':=some (spB noughts 0 (partB img p)))
   rw[zcA] at this ⊢
   exact congrArg (fun w=>({ w with free:=W.free-1 }:Wd)) this
  rw[eo] at h2
  exact h2
 ·rw[if_neg hl,zgf (by omega)]
  exact hg
def Wd.newP (W:Wd) (n:Nat) (seats quota:Int) (img:List Int) (i:Nat):Wd:=
 { W.newV n seats quota with free:=W.free-5-i,own:=upd W.own n fun p=>if p<i then some (pageB img p) else W.own n p }
end
end Go.Cr
end
section
namespace Go.Proofs.YtabdpmnhjlmnlaaGreatDoor
open Go Go.Pt Go.Cr Go.Hp
abbrev pg (b:Nat):Sl:=⟨some (b,0),256,256⟩
structure Pages (S S':Mem) (bs:List Nat):Prop where
 nodup:bs.Nodup
 at_:∀ b∈bs,S b=none∧S' b=some (bw 5 (bL noughts))
 keep:Keeps S S' []
def nilS:Value:=.slice none 0 0
theorem zjo:zrep 256 [Value.int .u8 0]=bL noughts:=by
 rw[zgB];rfl
section
variable {S:Mem}
theorem zgz {Q:List Value→Mem→Prop} (hQ:∀ b0 b1 b2 b3 S',Pages S S' [b0,b1,b2,b3]→Q [eL (pg b0),eL (pg b1),eL (pg b2),eL (pg b3)] S'):fu S Q:=by
 apply zcY
 unfold jl
 simp only[jn]
 refine qx (fun (z:Int×List Value) S'=>∃ bs:List Nat,z=((bs.length:Int),bs.map (fun b=>eL (pg b))++List.replicate (4-bs.length) nilS)∧bs.length≤4∧Pages S S' bs) (fun z=>(4-z.1).toNat) ?_ ⟨[],rfl,by simp,by simp,by simp,Keeps.refl⟩
 rintro X z S' ⟨bs,rfl,hl,hP⟩ ih
 dsimp only at ih ⊢
 have hlen:(bs.map (fun b=>eL (pg b))++List.replicate (4-bs.length) nilS).length=4:=by simp;omega
 refine⟨hlen,?_⟩
 by_cases hlt:(bs.length:Int)<4
 ·rw[if_pos hlt]
  intro b hb
  refine⟨by omega,hlt,?_⟩
  rw[w64 (by omega) (by omega),zjo]
  have hbS:=zfC hP.keep hb
  have hnb:b∉bs:=fun h=>by have:=(hP.at_ b h).2;rw[hb] at this;cases this
  refine ih _ _ ⟨bs++[b],?_,by simp;omega,⟨?_,?_,hP.keep.new hb⟩⟩ (by simp only;omega)
  ·have e:spl (bs.map (fun b=>eL (pg b))++List.replicate (4-bs.length) nilS) (0+(bs.length:Int).toNat*1) [.slice (some ⟨b,0,none⟩) 256 256]=(bs++[b]).map (fun b=>eL (pg b))++List.replicate (4-(bs++[b]).length) nilS:=by
    rw[show 0+(bs.length:Int).toNat*1=bs.length by omega,xF _ _ _ (by rw[hlen];omega)]
    rw[List.take_left' (by simp),←List.drop_drop,List.drop_left' (by simp),show 4-bs.length=(4-(bs++[b]).length)+1 by simp;omega,List.replicate_succ]
    simp
    rfl
   rw[e];simp
  ·rw[List.nodup_append]
   exact⟨hP.nodup,by simp,fun x hx y hy e=>by simp at hy;subst hy;subst e;exact hnb hx⟩
  ·intro x hx
   rcases List.mem_append.1 hx with hx | hx
   ·have hxb:x≠b:=fun e=>hnb (e ▸ hx)
    exact⟨(hP.at_ x hx).1,by rw[yl hxb];exact (hP.at_ x hx).2⟩
   ·rw[List.mem_singleton] at hx;subst hx;exact⟨hbS,qf⟩
 ·rw[if_neg hlt]
  have h4:bs.length=4:=by omega
  match bs,h4 with
  | [b0,b1,b2,b3],_=>exact⟨rfl,rfl,hQ b0 b1 b2 b3 S' hP⟩
structure Made (S S':Mem) (n:Nat) (ss:Sl) (bs:List Nat):Prop where
 pages:Pages S S' bs
 row:Row S' 26 ss ((List.replicate n seat0).flatMap Seat.L)
 fresh:∀ x o,ss.p=some (x,o)→S x=none∧x∉bs
def mk12 (ss:Sl) (quota:Int) (b0 b1 b2 b3:Nat):List Value:=[.bool true,eL ss,.int .i64 0,.slice none 0 0,.int .i64 quota,.int .u64 0,.slice none 0 0,eL (pg b0),eL (pg b1),eL (pg b2),eL (pg b3),.int .u32 0]
theorem zkE:∀ n,∀ s∈List.replicate n seat0,s.Ok:=fun n s hs=>by rw[List.eq_of_mem_replicate hs];exact zfo
theorem zkF (n:Nat):((List.replicate n seat0).flatMap Seat.L).length=n*26:=by rw[gb (zkE n),List.length_replicate]
theorem zhv {n:Nat} {quota:Int} (h1:1≤n) (h2:n≤3) (h3:1≤quota) (h4:quota≤32) {Q:List Value→Int→Mem→Prop}
  (hQ:∀ ss b0 b1 b2 b3 S',Made S S' n ss [b0,b1,b2,b3]→Q (mk12 ss quota b0 b1 b2 b3) 0 S'):zaO S n quota Q:=by
 apply zdD
 unfold gw
 simp only[jn]
 rw[if_neg (by omega),if_neg (by omega),if_neg (by omega),if_neg (by omega)]
 refine⟨rfl,zgz fun b0 b1 b2 b3 S1 hP=>⟨rfl,?_⟩⟩
 refine qx (fun (z:Int×List Value) S'=>∃ (k:Nat) (ss:Sl),z=((k:Int),mk12 ss quota b0 b1 b2 b3)∧k≤n∧Made S S' k ss [b0,b1,b2,b3]) (fun z=>(n-z.1).toNat) ?_
  ⟨0,⟨none,0,0⟩,rfl,by omega,hP,Row.nil,fun x o h=>by cases h⟩
 rintro X z S2 ⟨k,ss,rfl,hk,hM⟩ ih
 dsimp only at ih ⊢
 refine⟨rfl,?_⟩
 by_cases hlt:(k:Int)<(n:Int)
 ·rw[if_pos hlt,vP (show nthL (mk12 ss quota b0 b1 b2 b3) 1=some (eL ss) from rfl)]
  apply zfQ
  unfold zaV
  refine⟨rfl,?_⟩
  have hsn:ss.n=k:=by
   have:=hM.row.len
   rw[zkF] at this;omega
  refine jv hM.row rfl (by decide) (by kernel_rfl) (by omega) fun s' S3 b q e1 e2 e3 e4 e5=>?_
  have hb:S b=none∧b∉[b0,b1,b2,b3]:=by
   rcases e3 with e3 | e3
   ·exact hM.fresh b 0 e3
   ·refine⟨zfC hM.pages.keep e3,fun hm=>?_⟩
    have:=(hM.pages.at_ b hm).2
    rw[e3] at this;cases this
  rw[w64 (by omega) (by omega)]
  refine ih _ _ ⟨k+1,s',?_,by omega,⟨⟨hM.pages.nodup,fun x hx=>⟨(hM.pages.at_ x hx).1,?_⟩,?_⟩,?_,?_⟩⟩ (by simp only;omega)
  ·have:spl (mk12 ss quota b0 b1 b2 b3) 1 [eL s']=mk12 s' quota b0 b1 b2 b3:=rfl
   rw[this];simp
  ·rw[e4,yl (fun e=>by subst e;exact hb.2 hx)];exact (hM.pages.at_ x hx).2
  ·rw[e4];exact hM.pages.keep.fresh hb.1
  ·have e:(List.replicate (k+1) seat0).flatMap Seat.L=(List.replicate k seat0).flatMap Seat.L++seat0.L:=by
    rw[List.replicate_succ',List.flatMap_append];simp
   rw[e];exact e5
  ·intro x o hx;rw[e2] at hx;cases hx;exact hb
 ·rw[if_neg hlt]
  have:k=n:=by omega
  subst this
  exact⟨rfl,rfl,hQ ss b0 b1 b2 b3 S2 hM⟩
variable {ρ:Rho} {m N:Nat} {d:Nat→List Int}
end
end Go.Proofs.YtabdpmnhjlmnlaaGreatDoor
end
section
namespace Go.Cr
open Go Go.Pt
end Go.Cr
namespace Go.Proofs.YtabdpmnhjlmnlaaGreatDoor
open Go Go.Pt Go.Cr Go.Hp
structure ImgAt (S:Mem) (ρ:Rho) (s:Sl) (xs:List Int):Prop where
 len:xs.length=s.n
 cap:s.n≤s.c
 byt:Byt xs
 lie:xs=[]∨∃ b o,s.p=some (b,o)∧S.part b o xs.length=some (bL xs)∧ρ b=none∧S b≠none
section
variable {S S':Mem} {ρ ρ':Rho} {R:Nat→Prop} {h:Nat} {A:Ad} {C:Cst} {W:Wd} {φ:Nat→Nat→Nat}
theorem ImgAt.mv {s:Sl} {xs:List Int} (hi:ImgAt S ρ s xs) (m:Mv S ρ S' ρ' R):ImgAt S' ρ' s xs:=by
 refine⟨hi.len,hi.cap,hi.byt,hi.lie.imp id fun⟨b,o,h1,h2,h3,h4⟩=>?_⟩
 have e:S' b=S b:=m.kp b h4 fun r e=>by rw[h3] at e;cases e
 refine⟨b,o,h1,?_,?_,by rw[e];exact h4⟩
 ·obtain⟨k,e1,e2⟩:=zcz h2
  rw[xG (by rw[e];exact e1)];exact e2
 ·cases hq:ρ' b with
  | none=>rfl
  | some r=>have:=m.old b r hq h4;rw[h3] at this;cases this
theorem kK {r size:Nat} {t:Sl} {l:List Value} (m:Mv S ρ S' ρ' R) (hrow:Row S' size t l) (hf:∀ b o,t.p=some (b,o)→S b=none∧ρ' b=none) (h0:S 0≠none) :
  ∃ ρ'',Mv S ρ S' ρ'' R∧Wide S' ρ' ρ''∧Rw S' ρ'' r size t l∧∀ x,(∀ o,t.p≠some (x,o))→ρ'' x=ρ' x:=by
 rcases hrow.lie with ⟨h1,_⟩ | ⟨b,k,h1,h2,_⟩
 ·exact⟨ρ',m,⟨fun _ _ h=>h,m.rg,fun h=>h⟩,⟨hrow,fun b o h=>by rw[h1] at h;cases h⟩,fun _ _=>rfl⟩
 ·obtain⟨hb,hb2⟩:=hf b 0 h1
  have hs:S' b≠none:=by rw[h2];simp
  refine⟨ρ'.upd b r,⟨fun x q e=>?_,fun x q e hx=>?_,m.kp,m.al,fun x q e=>?_⟩,⟨fun x q e=>?_,fun x q e=>?_,fun e=>?_⟩,⟨hrow,fun b' o h=>by rw[h1] at h;cases h;exact yt⟩,fun x hx=>?_⟩
  ·rw[ky (fun e2=>by have:=m.ext x q e;rw[e2,hb2] at this;cases this)];exact m.ext x q e
  ·rw[ky (fun e2=>hx (by rw[e2];exact hb))] at e;exact m.old x q e hx
  ·by_cases e2:x=b
   ·rw[e2];exact hs
   ·rw[ky e2] at e;exact m.rg x q e
  ·rw[ky (fun e2=>by rw[e2,hb2] at e;cases e)];exact e
  ·by_cases e2:x=b
   ·rw[e2];exact hs
   ·rw[ky e2] at e;exact m.rg x q e
  ·rw[ky (fun e2=>h0 (by rw[e2];exact hb))];exact e
  ·exact ky fun e=>hx 0 (by rw[e];exact h1)
theorem Wide.trans {ρ'':Rho} (h1:Wide S ρ ρ') (h2:Wide S ρ' ρ''):Wide S ρ ρ'':=⟨fun b r e=>h2.ext b r (h1.ext b r e),h2.rg,fun e=>h2.g0 (h1.g0 e)⟩
theorem zfp {b:Nat} (hb:S b=some (bw 5 (bL noughts))):Row S 1 (pg b) (bL noughts):=by
 have hl:(bL noughts).length=256:=by unfold bL;rw[List.length_map];exact qJ
 refine⟨by rw[hl];rfl,Nat.le_refl _,.inr ⟨b,_,rfl,hb,rfl,?_,?_⟩⟩
 ·show (bL noughts).length=256*1;rw[hl]
 ·show (bL noughts).take (256*1)=_
  exact List.take_of_length_le (by rw[hl];decide)
end
end Go.Proofs.YtabdpmnhjlmnlaaGreatDoor
end
section
namespace Go.Cr
open Go Go.Pt
open Go.Proofs.YtabdpmnhjlmnlaaGreatDoor (gb)
section
variable {S S':Mem} {ρ ρ':Rho} {R:Nat→Prop} {r:Nat} {D:Ra} {W:Wd} {n:Nat}
theorem zkG {x:Rv} {v:Bv} {ow al:Nat→Bool} {j:Nat} (hj:j<4) {s:Sl}:spl (rvL x v ow al) (5+j) [eL s]=rvL { x with d:=upd x.d j s } v ow al:=by
 unfold rvL
 rw[zU (n:=5) rfl,xU (by rw[zay];simp;omega)]
 rw[gc (g:=fun p=>eL (upd x.d j s p)) hj fun p _=>by unfold upd;split <;> rfl]
abbrev RN (n:Nat) (q:Nat):Prop:=q=210+n∨q=230+n∨(250+4*n≤q∧q<254+4*n)∨(300+32*n≤q∧q<332+32*n)
theorem zjU {l:List Int} {k:Nat} (hk:k<256):(fit256 l)[k]? = some (l.getD k 0):=by
 unfold fit256
 by_cases h:k<l.length
 ·rw[List.getElem?_append_left (by rw[List.length_take];omega),List.getElem?_take,if_pos hk,List.getD_eq_getElem?_getD,List.getElem?_eq_getElem h];rfl
 ·rw[List.getElem?_append_right (by rw[List.length_take];omega),List.getElem?_replicate,if_pos (by rw[List.length_take];omega),List.getD_eq_getElem?_getD,List.getElem?_eq_none (by omega)];rfl
theorem ziR {l:List Int} {k:Nat} (hk:l.length≤k) (hk2:k≤256):(fit256 l).take k++noughts.drop k=fit256 l:=by
 have e:(fit256 l).drop k=noughts.drop k:=by
  unfold fit256 noughts
  rw[List.drop_append,List.drop_of_length_le (by rw[List.length_take];omega),List.nil_append,List.drop_replicate,List.drop_replicate,List.length_take]
  congr 1
  omega
 rw[←e,List.take_append_drop]
theorem zho {img:List Int} (h:Byt img) (i:Nat):Byt (pageB img i):=fun x hx=>by
 unfold pageB fit256 at hx
 rcases List.mem_append.1 hx with e | e
 ·exact h x (List.mem_of_mem_drop (List.mem_of_mem_take e))
 ·rw[List.eq_of_mem_replicate e];omega
theorem zdX {img:List Int} (i:Nat):(pageB img i).length=256:=zcL _
theorem zjp:Go.Proofs.YtabdpmnhjlmnlaaGreatDoor.z148=meL (fun _=>0) (fun _=>none):=by kernel_rfl
def xn (ss:Sl) (d:Nat→Sl) (mb:Nat) (now:Int):Rv:=⟨ss,nilL,d,some (mb,0),now,fun _=>0⟩
set_option maxRecDepth 20000 in
theorem ziM {img:Sl} {xs:List Int} (hi:Go.Proofs.YtabdpmnhjlmnlaaGreatDoor.ImgAt S ρ img xs) (hl:xs.length≤1000000) {i b q:Nat} (hi32:i<32) (hb:Bl S ρ q b (bw 5 (bL noughts))) (hg:∀ b r,ρ b=some r→S b≠none) {K:Mem→Prop}
  (hK:∀ S',Mv S ρ S' ρ (· = q)→Bl S' ρ q b (bw 5 (bL (pageB xs i)))→K S') :
  lp (fun Xx_1 (k:Int) (Sx_19:Mem)=>if k<256 then if IntKind.i64.wrap ((IntKind.i64.wrap (256*(i:Int)))+k)<(img.n:Int) then
    sl img fun b_6 o_3 n_1 n_2=>0≤IntKind.i64.wrap ((IntKind.i64.wrap (256*(i:Int)))+k)∧IntKind.i64.wrap ((IntKind.i64.wrap (256*(i:Int)))+k)<((n_1:Nat):Int) ∧
    gI (Sx_19.cell b_6 (o_3+(IntKind.i64.wrap ((IntKind.i64.wrap (256*(i:Int)))+k)).toNat*1)) .u8 fun t_4=>0≤k∧k<256∧pt Sx_19 b (0+k.toNat*1) 1 ([.int .u8 t_4]) fun Sx_21=>Xx_1 (IntKind.i64.wrap (k+1)) Sx_21
   else K Sx_19 else K Sx_19) 0 S:=by
 have hlen:=hi.len
 have hpl:=zdX (img:=xs) i
 refine qx (fun (z:Int) S'=>∃ k:Nat,z=(k:Int)∧k≤256∧Mv S ρ S' ρ (· = q)∧Bl S' ρ q b (bw 5 (bL ((pageB xs i).take k++noughts.drop k)))) (fun z=>256-z.toNat) ?_ ⟨0,rfl,by decide,Mv.refl hg,by rw[List.take_zero,List.drop_zero,List.nil_append];exact hb⟩
 rintro X z S1 ⟨k,rfl,hk,m1,hb1⟩ ih
 have ew:IntKind.i64.wrap (IntKind.i64.wrap (256*(i:Int))+k)=((256*i+k:Nat):Int):=by
  rw[w64 (x:=256*(i:Int)) (by omega) (by omega),w64 (by omega) (by omega)];omega
 have fin:(xs.drop (256*i)).length≤k→K S1:=fun hle=>by
  have e:=ziR hle hk
  have e2:(pageB xs i).take k++noughts.drop k=pageB xs i:=e
  rw[e2] at hb1
  exact hK S1 m1 hb1
 by_cases hlt:(k:Int)<256
 ·rw[if_pos hlt,ew]
  by_cases hin:((256*i+k:Nat):Int)<(img.n:Int)
  ·rw[if_pos hin]
   have hkl:256*i+k<xs.length:=by omega
   rcases hi.lie with h0 | ⟨c,o,hp,hpart,hρ,hc⟩
   ·rw[h0] at hkl;simp at hkl
   have hcs:S1 c=S c:=m1.kp c hc fun r' e=>by rw[hρ] at e;cases e
   have hx:S1.cell c (o+(256*i+k))=some (.int .u8 xs[256*i+k]):=by
    obtain⟨kb,k1,k2⟩:=zcz hpart
    have:=vK k2 (256*i+k) (by omega)
    rw[qK (hcs.trans k1),qi,←this]
    unfold bL
    rw[List.getElem?_map,List.getElem?_eq_getElem hkl];rfl
   obtain⟨ip,inn,ic⟩:=img
   simp only at hp hlen hin
   subst hp
   rw[zah]
   refine⟨by omega,hin,?_⟩
   rw[Int.toNat_natCast,Nat.mul_one,zW hx]
   refine⟨by omega,hlt,?_⟩
   have hk256:k<256:=by omega
   have hget:(pageB xs i)[k]'(by rw[hpl];exact hk256)=xs[256*i+k]:=by
    have e:=zjU (l:=xs.drop (256*i)) hk256
    rw[List.getD_eq_getElem?_getD,List.getElem?_drop,List.getElem?_eq_getElem hkl] at e
    exact (List.getElem?_eq_some_iff.1 e).2
   have hst:=zfg (d:=pageB xs i) (l:=noughts) (by rw[hpl,qJ]) (i:=k) (by rw[hpl];exact hk256)
   rw[hget] at hst
   refine Bl.pt hb1 m1.rg (i:=k) (by unfold bL;rw[List.length_map,List.length_append,List.length_take,List.length_drop,hpl,qJ];omega) (by omega) fun S2 m2 hb2=>?_
   rw[hst] at hb2
   rw[w64 (by omega) (by omega)]
   exact ih _ _ ⟨k+1,by omega,by omega,m1.trans m2,hb2⟩ (by omega)
  ·rw[if_neg hin]
   exact fin (by rw[List.length_drop];omega)
 ·rw[if_neg hlt]
  have:k=256:=by omega
  subst this
  rw[List.take_of_length_le (by rw[hpl];exact Nat.le_refl _),List.drop_of_length_le (by rw[qJ];exact Nat.le_refl _),List.append_nil] at hb1
  exact hK S1 m1 hb1
end
end Go.Cr
end
section
namespace Go.Cr
open Go Go.Pt Go.Hp
open Go.Proofs.YtabdpmnhjlmnlaaGreatDoor (AlmOf Gl)
namespace Id
structure Da where
 now:Int
 x:Nat→Vx
 A:Nat→Nat
 be:Nat→Int
 cl:Sl
 es:Nat→Sl
def Da.c (D:Da) (W:Wd):Ic0:=⟨D.now,W.free,D.x,W.vm,D.A,fun n p=>(W.own n p).isSome,D.be,W.ls,D.cl,D.es⟩
structure Al (S:Mem) (ρ:Rho) (s:Sl):Prop where
 ex:∃ l alm,Row S 3 s (Go.Proofs.YtabdpmnhjlmnlaaGreatDoor.Hk.fl l)∧Heap Go.Proofs.YtabdpmnhjlmnlaaGreatDoor.Hk.bf l∧AlmOf l alm
 rol:∀ x∈Go.Proofs.YtabdpmnhjlmnlaaGreatDoor.Hk.own s,ρ x=some 630
structure IdA (S:Mem) (ρ:Rho) (b:Nat) (D:Da) (W:Wd):Prop where
 rg:∀ b r,ρ b=some r→S b≠none
 g0:ρ 0=none
 gl:Gl S
 hd:Bl S ρ 600 b (bw 129 (D.c W).L)
 se:∀ n,n<6→Rw S ρ (610+n) 26 (D.x n).ss ((W.vm n).seats.flatMap Seat.L)
 ke:∀ n,n<6→Kr S ρ (620+n) (D.x n).ks (W.vm n).keys
 di:∀ n,n<6→(W.vm n).on=true→∀ j,j<4→Kr S ρ (650+(4*n+j)) ((D.x n).d j) ((W.vm n).disk j)
 pg:∀ n p l,W.own n p=some l→Bl S ρ (700+(32*n+p)) (D.A (32*n+p)) (bw 145 (bL l))
 ev:∀ n,n<6→Rw S ρ (640+n) 4 (D.es n) ((W.ev n).flatMap evL)
 ck:Al S ρ D.cl
 now:0≤D.now∧D.now≤4611686018427387904
 time:∀ n,(W.vm n).on=true→0≤D.be n∧D.be n≤D.now∧W.time n=D.now-D.be n
section
variable {S S':Mem} {ρ ρ':Rho} {R:Nat→Prop} {b:Nat} {D:Da} {W:Wd} {n:Nat}
theorem zji (h:Gl S) (m:Mv S ρ S' ρ' R) (h0:ρ 0=none):Gl S':=Go.Proofs.YtabdpmnhjlmnlaaGreatDoor.gl_keep h m h0
theorem zjj (h:Gl S) (m:Mv S ρ S' ρ' R) (h0:ρ 0=none):ρ' 0=none:=Go.Proofs.YtabdpmnhjlmnlaaGreatDoor.g0_keep h m h0
theorem Al.keep {s:Sl} (h:Al S ρ s) (m:Mv S ρ S' ρ' R) (hr:¬R 630):Al S' ρ' s:=by
 obtain⟨l,alm,h1,h2,h3⟩:=h.ex
 refine⟨⟨l,alm,h1.keep fun c hc=>?_,h2,h3⟩,fun x hx=>m.ext x 630 (h.rol x hx)⟩
 have hx:c∈Go.Proofs.YtabdpmnhjlmnlaaGreatDoor.Hk.own s:=by simp[Go.Proofs.YtabdpmnhjlmnlaaGreatDoor.Hk.own,hc]
 obtain⟨k,hk⟩:=Go.Proofs.YtabdpmnhjlmnlaaGreatDoor.Hk.own_row h1 hx
 exact m.kp c (by rw[hk];simp) fun r e=>by rw[h.rol c hx] at e;cases e;exact hr
theorem IdA.keep (h:IdA S ρ b D W) (hwk:WOk W) (m:Mv S ρ S' ρ' R) (hR:∀ r,600≤r→r<900→¬R r):IdA S' ρ' b D W:=
 ⟨m.rg,zjj h.gl m h.g0,zji h.gl m h.g0,h.hd.keep m (hR _ (by decide) (by decide)),fun n hn=>(h.se n hn).keep m (hR _ (by omega) (by omega)),fun n hn=>(h.ke n hn).keep m (hR _ (by omega) (by omega)),fun n hn ho j hj=>(h.di n hn ho j hj).keep m (hR _ (by omega) (by omega)),fun n p l hl=>by
  have:=hwk.six' hl
  exact (h.pg n p l hl).keep m (hR _ (by omega) (by omega)),fun n hn=>(h.ev n hn).keep m (hR _ (by omega) (by omega)),h.ck.keep m (hR _ (by decide) (by decide)),h.now,h.time⟩
theorem IdA.keeps (h:IdA S ρ b D W) (hwk:WOk W) (hk:Keeps S S' []):IdA S' ρ b D W:=h.keep hwk (Mv.keeps (R:=fun _=>False) h.rg hk) fun _ _ _ h=>h
theorem IdA.cell (h:IdA S ρ b D W) (i:Nat) {x:Nat} (hx:x=i):S.cell b x=nthL (D.c W).L i:=by subst hx;rw[qK h.hd.at_]
theorem IdA.part (h:IdA S ρ b D W) (i:Nat) {x m:Nat} (hx:x=i):S.part b x m=lpart (D.c W).L i m:=by subst hx;rw[xG h.hd.at_]
theorem IdA.c0 (h:IdA S ρ b D W):S.cell b 0=some (.int .u64 D.now):=h.cell 0 rfl
theorem IdA.c1 (h:IdA S ρ b D W):S.cell b (0+1)=some (.int .i64 W.free):=h.cell 1 rfl
theorem IdA.vcell (h:IdA S ρ b D W) {n j x:Nat} (hn:n<6) (hj:j<12) (hx:x=2+n*109+j):S.cell b x=nthL (vmC (D.x n) (W.vm n) 0 0) j:=
 (h.cell (2+(n*109+j)) (by omega)).trans ((Ic0.get (c:=D.c W) hn (by omega) rfl).trans (zly hj))
theorem IdA.vbe (h:IdA S ρ b D W) {n x:Nat} (hn:n<6) (hx:x=2+n*109+108):S.cell b x=some (.int .u64 (D.be n)):=
 (h.cell (2+(n*109+108)) (by omega)).trans ((Ic0.get (c:=D.c W) hn (by decide) rfl).trans zlz)
theorem IdA.slot (h:IdA S ρ b D W) {n p j x:Nat} (hn:n<6) (hp:p<32) (hj:j<3) (hx:x=2+n*109+12+p*3+j):S.cell b x=nthL (slL (D.A (32*n+p)) (W.own n p).isSome) j:=
 (h.cell (2+(n*109+(12+(p*3+j)))) (by omega)).trans ((Ic0.get (c:=D.c W) hn (by omega) rfl).trans (zkR hp hj))
theorem IdA.slots (h:IdA S ρ b D W) {n x:Nat} (hn:n<6) (hx:x=2+n*109+12):S.part b x 96=some (cF 32 fun p=>slL (D.A (32*n+p)) (W.own n p).isSome):=
 (h.part (2+(n*109+12)) (by omega)).trans ((Ic0.gets (c:=D.c W) hn (by decide) rfl).trans zjQ)
theorem IdA.lss (h:IdA S ρ b D W) {x:Nat} (hx:x=656):S.part b x 96=some (Go.Cr.lsC W.ls):=(h.part 656 hx).trans (Ic0.getls (c:=D.c W))
theorem IdA.ecell (h:IdA S ρ b D W) {n x:Nat} (hn:n<6) (hx:x=753+n):S.cell b x=some (eL (D.es n)):=(h.cell (753+n) hx).trans (Ic0.gete (c:=D.c W) hn rfl)
theorem IdA.on_ (h:IdA S ρ b D W) {n x:Nat} (hn:n<6) (hx:x=2+n*109):S.cell b x=some (.bool (W.vm n).on):=h.vcell hn (j:=0) (by decide) (by omega)
theorem IdA.ss (h:IdA S ρ b D W) {n x:Nat} (hn:n<6) (hx:x=2+n*109+1):S.cell b x=some (eL (D.x n).ss):=h.vcell hn (j:=1) (by decide) (by omega)
theorem IdA.quo (h:IdA S ρ b D W) {n x:Nat} (hn:n<6) (hx:x=2+n*109+4):S.cell b x=some (.int .i64 (W.vm n).quota):=h.vcell hn (j:=4) (by decide) (by omega)
theorem IdA.ks (h:IdA S ρ b D W) {n x:Nat} (hn:n<6) (hx:x=2+n*109+6):S.cell b x=some (eL (D.x n).ks):=h.vcell hn (j:=6) (by decide) (by omega)
theorem IdA.bel (h:IdA S ρ b D W) {n x:Nat} (hn:n<6) (hx:x=2+n*109+11):S.cell b x=some (.int .u32 (bI (W.vm n).bells)):=h.vcell hn (j:=11) (by decide) (by omega)
theorem IdA.dsk (h:IdA S ρ b D W) {n j x:Nat} (hn:n<6) (hj:j<4) (hx:x=2+n*109+7+j):S.cell b x=some (eL ((D.x n).d j)):=by
 rw[h.vcell hn (j:=7+j) (by omega) (by omega)]
 rcases j with _ | _ | _ | _ | j
 ·rfl
 ·rfl
 ·rfl
 ·rfl
 ·omega
theorem Bl.ptN {ty:TypeId} {q:Nat} {cs:List Value} (h:Bl S ρ q b (bw ty cs)) (hg:∀ b r,ρ b=some r→S b≠none) {i x m:Nat} {vs:List Value} (hm:m=vs.length) (hi:i+vs.length≤cs.length) (hx:x=i) {K:Mem→Prop} (hK:∀ S',Mv S ρ S' ρ (· = q)→Bl S' ρ q b (bw ty (spl cs i vs))→K S'):Go.Pt.pt S b x m vs K:=by
 subst hx;subst hm
 refine⟨⟨_,h.at_,rfl,hi⟩,?_⟩
 rw[wu h.at_]
 exact hK _ ((Mv.refl (R:=(· = q)) hg).put h.rol rfl _) ⟨qf,h.rol⟩
theorem IdA.put (h:IdA S ρ b D W) (i:Nat) {x m:Nat} {vs:List Value} (hm:m=vs.length) (hi:i+vs.length≤759) (hx:x=i) {K:Mem→Prop} (hK:∀ S',Mv S ρ S' ρ (· = 600)→Bl S' ρ 600 b (bw 129 (spl (D.c W).L i vs))→K S'):pt S b x m vs K:=
 Bl.ptN h.hd h.rg hm (by rw[Ic0.len];exact hi) hx hK
def Da.setX (D:Da) (n:Nat) (x:Vx):Da:={ D with x:=upd D.x n x }
theorem vJ:D.setX n (D.x n)=D:=by unfold Da.setX;rw[yg]
theorem IdA.putV (h:IdA S ρ b D W) {n j m x:Nat} (hn:n<6) {vs:List Value} (hm:m=vs.length) (hj:j+vs.length≤12) (hx:x=2+n*109+j) {x':Vx} {v':Bv} (he:spl (vmC (D.x n) (W.vm n) 0 0) j vs=vmC x' v' 0 0) {K:Mem→Prop}
  (hK:∀ S',Mv S ρ S' ρ (· = 600)→Bl S' ρ 600 b (bw 129 ((D.setX n x').c (W.setV n v')).L)→K S'):pt S b x m vs K:=
 h.put (2+(n*109+j)) hm (by omega) (by omega) fun S' m' h'=>hK S' m' (by
  have hs:=Ic0.set (c:=D.c W) (n:=n) (j:=j) (vs:=vs) (x':=x') (v':=v') (A':=D.A) (ow':=fun p=>(W.own n p).isSome) (b':=D.be n) hn (by omega) rfl (zjf hj he) fun _ _=>rfl
  rw[hs] at h'
  have e1:upd (D.c W).ow n (fun p=>(W.own n p).isSome)=fun n p=>(W.own n p).isSome:=yg (f:=fun n p=>(W.own n p).isSome)
  have e2:upd (D.c W).be n (D.be n)=D.be:=yg
  rw[e1,e2] at h'
  exact h')
theorem IdA.setV (h:IdA S ρ b D W) (hwk:WOk W) {n:Nat} (hn:n<6) (m:Mv S ρ S' ρ' R) (hR:∀ q,R q→q=600∨q=610+n∨q=620+n∨(650+4*n≤q∧q<654+4*n)) {x':Vx} {v':Bv} (hd:Bl S' ρ' 600 b (bw 129 ((D.setX n x').c (W.setV n v')).L))
  (hse:Rw S' ρ' (610+n) 26 x'.ss (v'.seats.flatMap Seat.L)) (hke:Kr S' ρ' (620+n) x'.ks v'.keys) (hdi:v'.on=true→∀ j,j<4→Kr S' ρ' (650+(4*n+j)) (x'.d j) (v'.disk j)) (hon:v'.on=(W.vm n).on):IdA S' ρ' b (D.setX n x') (W.setV n v'):=by
 have hvm:∀ i,(W.setV n v').vm i=if i=n then v' else W.vm i:=fun i=>rfl
 have hx:∀ i,(D.setX n x').x i=if i=n then x' else D.x i:=fun i=>rfl
 have hno:∀ q,q≠600→q≠610+n→q≠620+n→¬(650+4*n≤q∧q<654+4*n)→¬R q:=fun q h1 h2 h3 h4 h5=>by have:=hR q h5;omega
 refine⟨m.rg,zjj h.gl m h.g0,zji h.gl m h.g0,hd,fun i hi=>?_,fun i hi=>?_,fun i hi ho j hj=>?_,fun i p l hl=>?_,fun i hi=>(h.ev i hi).keep m (hno _ (by omega) (by omega) (by omega) (by omega)),h.ck.keep m (hno _ (by omega) (by omega) (by omega) (by omega)),h.now,fun i ho=>?_⟩
 ·rw[hvm,hx]
  by_cases e:i=n
  ·subst e;rw[if_pos rfl,if_pos rfl];exact hse
  ·rw[if_neg e,if_neg e];exact (h.se i hi).keep m (hno _ (by omega) (by omega) (by omega) (by omega))
 ·rw[hvm,hx]
  by_cases e:i=n
  ·subst e;rw[if_pos rfl,if_pos rfl];exact hke
  ·rw[if_neg e,if_neg e];exact (h.ke i hi).keep m (hno _ (by omega) (by omega) (by omega) (by omega))
 ·rw[hvm] at ho
  rw[hvm,hx]
  by_cases e:i=n
  ·subst e
   rw[if_pos rfl] at ho
   rw[if_pos rfl,if_pos rfl];exact hdi ho j hj
  ·rw[if_neg e] at ho
   rw[if_neg e,if_neg e];exact (h.di i hi ho j hj).keep m (hno _ (by omega) (by omega) (by omega) (by omega))
 ·have:=hwk.six' hl
  exact (h.pg i p l hl).keep m (hno _ (by omega) (by omega) (by omega) (by omega))
 ·rw[hvm] at ho
  have ho':(W.vm i).on=true:=by
   by_cases e:i=n
   ·subst e;rw[if_pos rfl] at ho;rw[←hon];exact ho
   ·rw[if_neg e] at ho;exact ho
  exact h.time i ho'
theorem zjZ {v':Bv} (h1:v'.on=(W.vm n).on) (h2:v'.quota=(W.vm n).quota) (h3:v'.bells=(W.vm n).bells):(D.c (W.setV n v')).L=(D.c W).L:=by
 unfold Ic0.L
 show _++(cF 6 (fun i=>imL (D.x i) ((W.setV n v').vm i) (fun p=>D.A (32*i+p)) (fun p=>(W.own i p).isSome) (D.be i))++_)=_++(cF 6 (fun i=>imL (D.x i) (W.vm i) (fun p=>D.A (32*i+p)) (fun p=>(W.own i p).isSome) (D.be i))++_)
 rw[yk (n:=6) (f:=fun i=>imL (D.x i) ((W.setV n v').vm i) (fun p=>D.A (32*i+p)) (fun p=>(W.own i p).isSome) (D.be i)) (g:=fun i=>imL (D.x i) (W.vm i) (fun p=>D.A (32*i+p)) (fun p=>(W.own i p).isSome) (D.be i)) fun i _=>by
  show imL (D.x i) (upd W.vm n v' i) _ _ _=_
  by_cases e:i=n
  ·subst e
   rw[zt]
   unfold imL vmC
   rw[h1,h2,h3]
  ·rw[zv e]]
 rfl
theorem IdA.seats (h:IdA S ρ b D W) (hwk:WOk W) {n:Nat} (hn:n<6) {seats':List Seat} (hon:(W.vm n).on=true) (m:Mv S ρ S' ρ (· = 610+n)) (hs:Rw S' ρ (610+n) 26 (D.x n).ss (seats'.flatMap Seat.L)):IdA S' ρ b D (W.setV n { W.vm n with seats:=seats' }):=by
 have hd:Bl S' ρ 600 b (bw 129 ((D.setX n (D.x n)).c (W.setV n { W.vm n with seats:=seats' })).L):=by
  rw[vJ,zjZ (D:=D) (W:=W) (n:=n) (v':={ W.vm n with seats:=seats' }) rfl rfl rfl]
  exact h.hd.keep m (by omega)
 have:=h.setV hwk hn (x':=D.x n) (v':={ W.vm n with seats:=seats' }) m (fun q hq=>by omega) hd hs ((h.ke n hn).keep m (by omega)) (fun ho j hj=>(h.di n hn hon j hj).keep m (by omega)) rfl
 rw[vJ] at this
 exact this
theorem IdA.page (h:IdA S ρ b D W) (hwk:WOk W) {m q:Nat} {l l':List Int} (ho:W.own m q=some l) (mv:Mv S ρ S' ρ' (· = 700+(32*m+q))) (hb:Bl S' ρ' (700+(32*m+q)) (D.A (32*m+q)) (bw 145 (bL l'))):IdA S' ρ' b D (W.setO m q (some l')):=by
 have h6:=hwk.six' ho
 refine⟨mv.rg,zjj h.gl mv h.g0,zji h.gl mv h.g0,?_,fun i hi=>(h.se i hi).keep mv (by omega),fun i hi=>(h.ke i hi).keep mv (by omega),fun i hi ho j hj=>(h.di i hi ho j hj).keep mv (by omega),fun n p l2 hl2=>?_,fun i hi=>(h.ev i hi).keep mv (by omega),h.ck.keep mv (by omega),h.now,h.time⟩
 ·have e:(D.c (W.setO m q (some l')))=D.c W:=by
   unfold Da.c
   have:(fun n p=>((W.setO m q (some l')).own n p).isSome)=fun n p=>(W.own n p).isSome:=by
    funext n p;exact zbC ho n p
   rw[this];rfl
  rw[e];exact h.hd.keep mv (by omega)
 ·rw[yJ] at hl2
  by_cases e:n=m∧p=q
  ·rw[if_pos e] at hl2
   cases hl2
   obtain⟨rfl,rfl⟩:=e
   exact hb
  ·rw[if_neg e] at hl2
   have h7:=hwk.six' hl2
   exact (h.pg n p l2 hl2).keep mv (by omega)
end
end Id
end Go.Cr
end
section
namespace Go.Cr.Id
open Go Go.Pt Go.Hp
open Go.Proofs.YtabdpmnhjlmnlaaGreatDoor (Gl)
section
variable {S S':Mem} {ρ ρ':Rho} {R:Nat→Prop} {b:Nat} {D:Da} {W:Wd} {n:Nat}
theorem zgV {l v:List Int} {off:Nat} (h:off+v.length≤l.length):spl (bL l) off (bL v)=bL (spB l off v):=by
 have e1:(bL l).length=l.length:=by unfold bL;rw[List.length_map]
 have e2:(bL v).length=v.length:=by unfold bL;rw[List.length_map]
 rw[xF _ _ _ (by omega),e2]
 unfold bL spB
 rw[List.map_append,List.map_append,List.map_take,List.map_drop]
theorem zdM (h:IdA S ρ b D W) {p x:Nat} (hn:n<6) (hp:p<32) (hx:x=2+n*109+12+p*3):S.cell b x=some (eP (if (W.own n p).isSome=true then some (D.A (32*n+p),0) else none)):=(h.slot hn hp (j:=0) (by decide) (by omega)).trans rfl
theorem zkw (h:IdA S ρ b D W) {p x:Nat} (hn:n<6) (hp:p<32) (hx:x=2+n*109+12+p*3+2):S.cell b x=some (.bool (W.own n p).isSome):=(h.slot hn hp (j:=2) (by decide) (by omega)).trans rfl
theorem zkx (h:IdA S ρ b D W) {p x:Nat} (hn:n<6) (hp:p<32) (hx:x=2+n*109+12+p*3+1):S.cell b x=some (.bool (W.own n p).isSome):=(h.slot hn hp (j:=1) (by decide) (by omega)).trans rfl
end
end Go.Cr.Id
namespace Go.Proofs.YtabdpmnhjlmnlaaGreatDoor
open Go Go.Pt Go.Cr Go.Hp Go.Cr.Id
section
variable {S S':Mem} {ρ ρ':Rho} {R:Nat→Prop} {b:Nat} {D:Da} {W:Wd} {n:Nat}
theorem zcr (h:IdA S ρ b D W) (hwk:WOk W) (hn:n<6) {page:Int} {off k:Nat} (hk:0<k) (ho:off+k≤256) {Q:Sl→Int→Mem→Prop}
  (hY:∀ p l t S',page=(p:Nat)→p<32→W.own n p=some l→Keeps S S' []→Row S' 1 t (bL (rdB l off k))→(∀ c o,t.p=some (c,o)→S c=none)→Q t 0 S')
  (hN:(page<0∨31<page∨W.own n page.toNat=none)→Q ⟨none,0,0⟩ 11 S):jd S (some (b,2+n*109)) page off k Q:=by
 apply zbv
 unfold vU
 simp only[jn]
 by_cases h0:page<0
 ·rw[if_pos h0];exact hN (.inl h0)
 rw[if_neg h0]
 by_cases h1:32≤page
 ·rw[if_pos h1];exact hN (.inr (.inl (by omega)))
 rw[if_neg h1,qY]
 obtain⟨p,rfl⟩:∃ p:Nat,page=p:=⟨page.toNat,by omega⟩
 have hp:p<32:=by omega
 refine⟨by omega,by omega,?_⟩
 rw[Int.toNat_natCast,zbT (zdM h hn hp rfl)]
 cases hw:W.own n p with
 | none=>
  rw[if_pos (by rfl)]
  exact hN (.inr (.inr (by rw[Int.toNat_natCast];exact hw)))
 | some l=>
  have hpg:=h.pg n p l hw
  have hl:=(hwk.pg n p l hw).2.2
  rw[if_neg (by simp),qY]
  refine⟨by omega,by omega,?_⟩
  rw[zbT (zdM h hn hp rfl),hw,if_pos (by rfl),qY]
  have ew:IntKind.i64.wrap ((off:Int)+k)=((off+k:Nat):Int):=by rw[w64 (by omega) (by omega)];omega
  rw[ew]
  refine⟨by omega,by omega,by omega,?_⟩
  have es:slc 1 (⟨some (D.A (32*n+p),0),256,256⟩:Sl) (off:Int) ((off+k:Nat):Int)=⟨some (D.A (32*n+p),off),k,256-off⟩:=by
   unfold slc
   dsimp only
   rw[Int.toNat_natCast,if_neg (by omega),show (((off+k:Nat):Int)-(off:Int)).toNat=k by omega]
   simp
  rw[es]
  have hpart:S.part (D.A (32*n+p)) off k=some (bL (rdB l off k)):=by
   rw[xG hpg.at_,qR (by show off+k≤(bL l).length;unfold bL;rw[List.length_map];omega)]
   show some (((bL l).drop off).take k)=_
   unfold bL rdB
   rw[List.map_take,List.map_drop]
  have hrl:(rdB l off k).length=k:=by unfold rdB;rw[List.length_take,List.length_drop];omega
  refine⟨bL (rdB l off k),.inr ⟨_,off,rfl,by rw[Nat.mul_one];exact hpart⟩,by unfold bL;rw[List.all_map];exact List.all_eq_true.2 fun _ _=>rfl,?_⟩
  refine jv (s:=⟨none,0,0⟩) Row.nil (by unfold bL;rw[List.length_map,hrl];simp) (by simpa using hk) rfl (by simp only;omega) fun t S1 c kb e1 e2 e3 e4 e5=>?_
  have hc:S c=none:=by
   rcases e3 with e3 | e3
   ·cases e3
   ·exact e3
  exact hY p l t S1 rfl hp hw (by rw[e4];exact Keeps.refl.fresh hc) e5 fun c' o' e=>by rw[e2] at e;cases e;exact hc
theorem zcq (h:IdA S ρ b D W) (hwk:WOk W) (hn:n<6) {page:Int} {off:Nat} {sl:Sl} {v:List Int} (hv:∃ c o,sl.p=some (c,o)∧S.part c o (v.length*1)=some (bL v)) (hvl:v.length=sl.n) (hv0:v≠[]) (ho:off+v.length≤256) {Q:Int→Mem→Prop}
  (hY:∀ p l S',page=(p:Nat)→p<32→W.own n p=some l→Mv S ρ S' ρ (· = 700+(32*n+p))→IdA S' ρ b D (W.setO n p (some (spB l off v)))→Q 0 S')
  (hN:(page<0∨31<page∨W.own n page.toNat=none)→Q 11 S):jc S (some (b,2+n*109)) page off sl Q:=by
 apply zbu
 unfold vT
 simp only[jn]
 by_cases h0:page<0
 ·rw[if_pos h0];exact hN (.inl h0)
 rw[if_neg h0]
 by_cases h1:32≤page
 ·rw[if_pos h1];exact hN (.inr (.inl (by omega)))
 rw[if_neg h1,qY]
 obtain⟨p,rfl⟩:∃ p:Nat,page=p:=⟨page.toNat,by omega⟩
 have hp:p<32:=by omega
 refine⟨by omega,by omega,?_⟩
 rw[Int.toNat_natCast,zav (zkw h hn hp rfl)]
 cases hw:W.own n p with
 | none=>
  rw[if_neg (by decide)]
  exact hN (.inr (.inr (by rw[Int.toNat_natCast];exact hw)))
 | some l=>
  have hpg:=h.pg n p l hw
  have hl:=(hwk.pg n p l hw).2.2
  rw[if_pos (by rfl),qY]
  refine⟨by omega,by omega,?_⟩
  rw[zbT (zdM h hn hp rfl),hw,if_pos (by rfl),qY]
  refine⟨by omega,by omega,by omega,?_⟩
  obtain⟨c,o,hc,hpart⟩:=hv
  have hvp:0<v.length:=List.length_pos_iff.2 hv0
  have es:slc 1 (⟨some (D.A (32*n+p),0),256,256⟩:Sl) (off:Int) 256=⟨some (D.A (32*n+p),off),256-off,256-off⟩:=by
   unfold slc
   dsimp only
   rw[Int.toNat_natCast,if_neg (by omega),show ((256:Int)-(off:Int)).toNat=256-off by omega]
   simp
  rw[es]
  have emin:min sl.n (256-off)=v.length:=by omega
  refine⟨bL v,.inr ⟨c,o,hc,by simp only[emin];exact hpart⟩,by unfold bL;rw[List.all_map];exact List.all_eq_true.2 fun _ _=>rfl,.inr ⟨_,off,rfl,⟨_,hpg.at_,rfl,by show off+_≤(bL l).length;unfold bL;rw[List.length_map];simp only[emin];omega⟩,?_⟩⟩
  have hm:Mv S ρ (S.put (D.A (32*n+p)) off (bL v)) ρ (· = 700+(32*n+p)):=by
   rw[wu hpg.at_]
   exact (Mv.refl (R:=(· = 700+(32*n+p))) h.rg).put hpg.rol rfl _
  refine hY p l _ rfl hp hw hm (h.page hwk hw hm ⟨?_,hpg.rol⟩)
  rw[wu hpg.at_,qf]
  show some (⟨145,spl (bL l) off (bL v),(0,0)⟩:Blk)=_
  rw[zgV (by omega)]
def II (b n:Nat) (D:Da) (W:Wd) (S:Mem) (ρ:Rho) (g:GM):Prop:=∃ d,IdA S ρ b D (W.setDat d)∧WOk (W.setDat d)∧g=(W.setDat d).gm n
theorem zhK {b n:Nat} {D:Da} {W:Wd} (hs:Sole W n) (hn:n<6):Bus (.iface 154 (.pointer (some ⟨b,2+n*109,none⟩))) (II b n D W) (fun q=>700≤q∧q<900) where
 ifc:=⟨_,_,rfl⟩
 rg:=fun⟨d,h,_⟩=>h.rg
 ok:=fun⟨d,h,hw,hg⟩=>by rw[hg];exact hw.gm n
 gl:=fun⟨d,h,_⟩=>h.gl
 kp:=fun⟨d,h,hw,hg⟩ hk=>⟨d,h.keeps hw hk,hw,hg⟩
 load:=by
  rintro S ρ g page off k Q ⟨d,h,hw,rfl⟩ hp hk ho hQ
  have hs':Sole (W.setDat d) n:=⟨hs.on,hs.off,hs.ls⟩
  refine zlG (t:=154) (Tr.mono (zcr h hw hn (page:=(page:Int)) hk ho (Q:=fun a e S'=>Q (.tuple #[eL a,.int .i64 e]) S') (fun p l t S1 ep hp2 hown hk1 hrow hfr=>?_) fun hbad=>?_) ?_)
  ·have e:p=page:=by omega
   subst e
   have hl:=hw.pg n p l hown
   refine hQ S1 ρ t 0 (Mv.keeps h.rg hk1) ⟨d,h.keeps hw hk1,hw,rfl⟩ ?_
   have e:ldB ((W.setDat d).gm n) p off k=some (rdB l off k):=by
    unfold ldB
    rw[hs'.map hp2,hown,if_pos (by rfl),Option.map_some,zbR hp2,hown];rfl
   rw[e]
   exact⟨rfl,zlg hrow fun x hx'=>hl.2.2.2 x (List.mem_of_mem_drop (List.mem_of_mem_take hx'))⟩
  ·refine hQ S ρ _ 11 (Mv.refl h.rg) ⟨d,h,hw,rfl⟩ ?_
   have e2:ldB ((W.setDat d).gm n) page off k=none:=by
    unfold ldB
    rw[hs'.map (by omega)]
    rw[Int.toNat_natCast] at hbad
    rcases hbad with h1 | h1 | h1
    ·omega
    ·omega
    ·rw[h1];rfl
   rw[e2]
   exact⟨by decide,rfl,Nat.le_refl _,fun _ h=>by simp at h,.inl rfl⟩
  ·rintro v S' ⟨a,e,rfl,hh⟩;exact hh
 save:=by
  rintro S ρ g page off sl l Q ⟨d,h,hw,rfl⟩ hp ho hby hfr hl8 hQ
  have hs':Sole (W.setDat d) n:=⟨hs.on,hs.off,hs.ls⟩
  obtain⟨c,o,hb1,hb2⟩:=hby.part (by omega)
  have hW:∀ m q l,(W.setDat d).own m q=some l→q<32:=fun m q l h=>(hw.pg m q l h).2.1
  refine zlG (t:=154) (Tr.mono (zcq h hw hn (page:=(page:Int)) (off:=off) (v:=l) ⟨c,o,hb1,hb2⟩ hby.len (fun e=>by rw[e] at hl8;simp at hl8) (by omega) (Q:=fun e S'=>Q (.int .i64 e) S') (fun p l0 S1 ep hp2 hown m1 h1=>?_) fun hbad=>?_) ?_)
  ·have e:p=page:=by omega
   subst e
   have hl:=hw.pg n p l0 hown
   obtain⟨l1,hl1⟩:∃ l1,W.own n p=some l1:=by
    have h4:((W.setDat d).own n p).isSome=true:=by rw[hown];rfl
    rw[zgY] at h4
    exact Option.isSome_iff_exists.1 h4
   have hsp:(spB l0 off l).length=256∧Byt (spB l0 off l):=⟨by rw[zeE (by omega)];exact hl.2.2.1,zeF hl.2.2.2 hby.bd⟩
   have hok:(W.setDat d).setO n p (some (spB l0 off l))=W.setDat (upd d (32*n+p) (spB l0 off l)):=zfm (fun m q l h=>hW m q (d (32*m+q)) (by show (W.own m q).map _=_;rw[h];rfl)) hl1
   rw[hok] at h1
   refine hQ S1 ρ ((W.setDat (upd d (32*n+p) (spB l0 off l))).gm n) 0 (m1.mono fun r hr'=>by omega) ⟨_,h1,by rw[←hok];exact hw.setO hown hsp,rfl⟩ ?_
   rw[hs'.map hp2,hown,if_pos (by rfl)]
   refine⟨rfl,?_⟩
   rw[←hok]
   exact zhM hown hp2 hW rfl
  ·refine hQ S ρ ((W.setDat d).gm n) 11 (Mv.refl h.rg) ⟨d,h,hw,rfl⟩ ?_
   rw[hs'.map (by omega)]
   rw[Int.toNat_natCast] at hbad
   rcases hbad with h1 | h1 | h1
   ·omega
   ·omega
   ·rw[h1,if_neg (by decide)]
    exact⟨by decide,rfl⟩
  ·rintro v S' ⟨e,rfl,hh⟩;exact hh
end
end Go.Proofs.YtabdpmnhjlmnlaaGreatDoor
end
