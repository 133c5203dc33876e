/- Texts of this work,joined by program (pack.py). -/
import Derived.Test.YthaiblbnpcgjpaaGreatDoorQAO
import Derived.Test.YthaiblbnpcgjpaaGreatDoorQAC
import Derived.Test.YthaiblbnpcgjpaaGreatDoorQAD
import Derived.Test.YthaiblbnpcgjpaaGreatDoorQAG
import Derived.Test.YthaiblbnpcgjpaaGreatDoorQAH
import Derived.Test.YthaiblbnpcgjpaaGreatDoorQAE
set_option linter.unusedVariables false
namespace Go.Proofs.YthaiblbnpcgjpaaGreatDoor
section
open Go Go.Pt Go.Cr Go.Hp
def pgEn (d:Nat→List Int) (N:Nat) (tf:Int) (fr:List Nat) (i:Nat):List (Nat×Nat×Bool):=(List.range i).filterMap fun (p:Nat)=>(walkC d N tf fr p).map fun x=>(p,x)
theorem zgD {d:Nat→List Int} {N:Nat} {tf:Int} {fr:List Nat} {i:Nat}:(pgEn d N tf fr i).length≤i:=by
 have:=List.length_filterMap_le (fun (p:Nat)=>(walkC d N tf fr p).map fun x=>(p,x)) (List.range i)
 rw[List.length_range] at this
 exact this
theorem zhx {d:Nat→List Int} {N:Nat} {tf:Int} {fr:List Nat} {i:Nat}:pgEn d N tf fr (i+1)=pgEn d N tf fr i++((walkC d N tf fr (i:Int)).map fun x=>(i,x)).toList:=by
 unfold pgEn
 rw[List.range_succ,List.filterMap_append,List.filterMap_cons]
 cases walkC d N tf fr (i:Int) <;> rfl
theorem zjz {d:Nat→List Int} {N:Nat} {tf:Int} {fr:List Nat} {i:Nat} {q:Nat×Nat×Bool} (h:q∈pgEn d N tf fr i):q.1<i∧walkC d N tf fr q.1=some q.2:=by
 unfold pgEn at h
 obtain⟨p,hp,e⟩:=List.mem_filterMap.1 h
 cases hw:walkC d N tf fr (p:Int) with
 | none=>rw[hw] at e;cases e
 | some x=>
  rw[hw] at e
  simp only[Option.map_some,Option.some.injEq] at e
  subst e
  exact⟨List.mem_range.1 hp,hw⟩
def pgL (l:List (Nat×Nat×Bool)):List Value:=l.map fun q=>Value.int .i64 (q.1:Nat)
def pgE (l:List (Nat×Nat×Bool)):List Value:=l.flatMap fun q=>enP q.2
theorem fJ {l:List (Nat×Nat×Bool)}:(pgE l).length=l.length*3:=ku (f:=fun q:Nat×Nat×Bool=>enP q.2) (fun q=>zda q.2) l
section
variable {S S' S0:Mem} {ρ ρ' ρ0:Rho} {R:Nat→Prop} {h:Nat} {A:Ad} {C:Cst} {W:Wd} {φ:Nat→Nat→Nat}
theorem zib {m N:Nat} {d:Nat→List Int} {tf:Int} {fs:Sl} {fr:List Nat} (h:StoreD S ρ m N d) (hr:Row S 1 fs (nL fr)) {Q:Sl→Sl→Mem→Prop}
  (hQ:∀ t3 t4 S',Keeps S S' []→Row S' 1 t3 (pgL (pgEn d N tf fr 32))→Row S' 3 t4 (pgE (pgEn d N tf fr 32))→Q t3 t4 S'):yR S (tbL tf fs) (some (m,0)) Q:=by
 apply gc
 unfold xg
 refine⟨rfl,?_⟩
 simp only[jn]
 have fr_of:∀ {S1:Mem} {b:Nat},Keeps S S1 []→S1 b=none→S b=none:=fun hk h=>by
  cases hs:S _ with
  | none=>rfl
  | some x=>rw[hk _ (by rw[hs];simp) (by simp),hs] at h;cases h
 refine zC (fun (z:Sl×Sl×Int) S'=>∃ (i:Nat),z.2.2=(i:Int)∧i≤32∧Keeps S S' []∧Row S' 1 z.1 (pgL (pgEn d N tf fr i))∧Row S' 3 z.2.1 (pgE (pgEn d N tf fr i))∧(∀ b o,z.1.p=some (b,o)→S b=none)∧(∀ b o,z.2.1.p=some (b,o)→S b=none)∧∀ b o o',z.1.p=some (b,o)→z.2.1.p≠some (b,o')) (fun z=>32-z.2.2.toNat) ?_
  ⟨0,rfl,by decide,Keeps.refl,Row.nil,Row.nil,fun _ _ e=>(by cases e),fun _ _ e=>(by cases e),fun _ _ _ e=>(by cases e)⟩
 rintro X ⟨pg,l,z⟩ S1 ⟨i,hz,hi,hk,hrow1,hrow2,hf1,hf2,hne⟩ ih
 dsimp only at hz hrow1 hrow2 hf1 hf2 hne ih ⊢
 subst hz
 have hL:=zgD (d:=d) (N:=N) (tf:=tf) (fr:=fr) (i:=i)
 have hn1:pg.n≤i:=by have:=hrow1.len;simp only[pgL,List.length_map] at this;omega
 have hn2:l.n≤i:=by have:=hrow2.len;rw[fJ] at this;omega
 by_cases hlt:(i:Int)<32
 ·rw[if_pos hlt]
  refine walkD (h.keeps hk) (rowK hr hk) (fun f w S2 hw hk2=>?_) fun e S2 hw he hk2=>?_
  ·refine⟨rfl,?_⟩
   rw[if_pos rfl]
   have es:pgEn d N tf fr (i+1)=pgEn d N tf fr i++[(i,f,w)]:=by rw[zhx,hw];rfl
   have hk3:=hk.trans hk2
   have r1:=rowK hrow1 hk2
   have r2:=rowK hrow2 hk2
   refine wS r1 rfl (by decide) rfl (by omega) fun p3 S3 c kb e1 e2 e3 e4 e5=>?_
   have hc:S c=none:=by
    rcases e3 with e3 | e3
    ·exact hf1 c 0 e3
    ·exact fr_of hk3 e3
   have hcl:∀ o,l.p≠some (c,o):=fun o e=>by
    rcases e3 with e3 | e3
    ·exact hne c 0 o e3 e
    ·rcases r2.lie with ⟨h1,_⟩ | ⟨b',k,h1,h2,_⟩
     ·rw[h1] at e;cases e
     ·rw[h1] at e;cases e;rw[h2] at e3;cases e3
   have r2':Row S3 3 l (pgE (pgEn d N tf fr i)):=r2.keep fun b hb=>by
    rw[e4,zO fun e=>hcl 0 (by rw[←e];exact hb)]
   refine⟨rfl,?_⟩
   refine wS r2' rfl (by decide) rfl (by omega) fun l4 S4 c4 kb4 f1 f2 f3 f4 f5=>?_
   have hc3:S3 c=some kb:=by rw[e4];exact zz
   have hc4:S c4=none∧c4≠c:=by
    rcases f3 with f3 | f3
    ·exact⟨hf2 c4 0 f3,fun e=>hcl 0 (by rw[←e];exact f3)⟩
    ·have:c4≠c:=fun e=>by rw[e,hc3] at f3;cases f3
     rw[e4,zO this] at f3
     exact⟨fr_of hk3 f3,this⟩
   have r1':Row S4 1 p3 (pgL (pgEn d N tf fr i)++[.int .i64 (i:Int)]):=e5.keep fun b hb=>by
    rw[e2] at hb;cases hb
    rw[f4,zO hc4.2.symm]
   rw[w64 (by omega) (by omega)]
   refine ih _ _ ⟨i+1,by dsimp only;omega,by omega,?_,?_,?_,fun b o e=>?_,fun b o e=>?_,fun b o o' e e'=>?_⟩ (by dsimp only;omega)
   ·rw[f4,e4];exact (hk3.fresh hc).fresh hc4.1
   ·dsimp only
    rw[es];unfold pgL at r1' ⊢;rw[List.map_append]
    exact r1'
   ·dsimp only
    rw[es];unfold pgE at f5 ⊢;rw[List.flatMap_append]
    exact f5
   ·rw[e2] at e;cases e;exact hc
   ·dsimp only at e;rw[f2] at e;cases e;exact hc4.1
   ·dsimp only at e e'
    rw[e2] at e;rw[f2] at e';cases e;cases e';exact hc4.2 rfl
  ·refine⟨rfl,?_⟩
   have es:pgEn d N tf fr (i+1)=pgEn d N tf fr i:=by rw[zhx,hw];exact List.append_nil _
   rw[if_neg he,w64 (by omega) (by omega)]
   refine ih _ _ ⟨i+1,by dsimp only;omega,by omega,hk.trans hk2,?_,?_,hf1,hf2,hne⟩ (by dsimp only;omega)
   ·dsimp only;rw[es];exact rowK hrow1 hk2
   ·dsimp only;rw[es];exact rowK hrow2 hk2
 ·rw[if_neg hlt]
  have:i=32:=by omega
  subst this
  exact hQ _ _ S1 hk hrow1 hrow2
theorem Row.at_ {w:Nat} {s:Sl} {l:List Value} (hr:Row S w s l):Rw S (fun _=>some 0) 0 w s l:=⟨hr,fun _ _ _=>rfl⟩
theorem ziC (hc:CrabA S ρ h A C) (hk:∀ f,f<C.N→(C.own f).kind=3→thereV C.vm (C.own f).vm) (hls:∀ i,(C.ls i).on=false) {p:Nat} {gs:Sl} {Q:Int→Mem→Prop}
  (hB:(∃ f,f<C.N∧(C.own f).kind=3∧C.walk (C.own f).vm.toNat (C.own f).page≠some (f,true))→∀ S',Keeps S S' []→Q 11 S')
  (hE:(∀ f,f<C.N→(C.own f).kind=3→C.walk (C.own f).vm.toNat (C.own f).page=some (f,true))→∀ i,i<6→(C.vm i).on=true→∀ q,q<32→∀ g w,C.walk i (q:Nat)=some (g,w)→g<C.N∧∃ s,C.own g=⟨3,i,(q:Nat),s⟩)
  (hQ:(∀ f,f<C.N→(C.own f).kind=3→C.walk (C.own f).vm.toNat (C.own f).page=some (f,true))→∀ S',Keeps S S' []→Q 0 S'):xb S (pxL A p gs) Q:=by
 apply kM
 unfold yt
 have hN:=hc.st.lim
 have x3:nthL (pxL A p gs) 3=some (eP (some (A.t,0))):=rfl
 have x0:nthL (pxL A p gs) 0=some (eP (some (A.m,0))):=rfl
 refine⟨rfl,?_⟩
 refine zZ (fun J=>∀ S1,Keeps S S1 []→(∀ f,f<C.N→(C.own f).kind=3→C.walk (C.own f).vm.toNat (C.own f).page=some (f,true))→J S1) ?_ fun J hJ=>?_
 ·intro S1 hk1 hall
  have hc1:=hc.keeps hk1
  have hE:=hE hall
  simp only[jn]
  rw[zS x3,zL,xa hc1.vms]
  refine zC (fun (z:Int) S'=>∃ i:Nat,z=(i:Int)∧i≤6∧Keeps S S' []) (fun z=>6-z.toNat) ?_ ⟨0,rfl,by omega,hk1⟩
  rintro X z S2 ⟨i,rfl,hi,hk2⟩ ih
  try dsimp only at ih ⊢
  have hc2:=hc.keeps hk2
  by_cases hlt:i<6
  ·rw[if_pos (by omega)]
   refine⟨by omega,by omega,?_⟩
   rw[xa (zlb (fun _=>rfl) hlt)]
   refine⟨zbL,?_⟩
   have go:∀ S3,Keeps S S3 []→X (IntKind.i64.wrap ((i:Int)+1)) S3:=fun S3 hk3=>by
    rw[w64 (by omega) (by omega)]
    exact ih _ S3 ⟨i+1,rfl,by omega,hk3⟩ (by omega)
   rw[fo (show nthL (vmC (A.x i) (C.vm i) (C.tf i) (C.late i)) 0=some (.bool (C.vm i).on) from rfl)]
   cases hon:(C.vm i).on with
   | false=>rw[if_neg (by simp)];exact go S2 hk2
   | true=>
    rw[if_pos rfl,xa (show lpart (vmC (A.x i) (C.vm i) (C.tf i) (C.late i)) 2 2=some (tbL (C.tf i) (A.x i).fs) from rfl),zS x0]
    refine zib hc2.st (hc2.vs i hlt).fr.row fun t3 t4 S3 hk3 hr3 hr4=>?_
    have hk3':=hk2.trans hk3
    have w3:=Row.at_ hr3
    have w4:=Row.at_ hr4
    have n3:t3.n=(pgEn C.dat C.N (C.tf i) (C.fr i) 32).length:=w3.n (by decide) (by simp[pgL])
    have n4:t4.n=(pgEn C.dat C.N (C.tf i) (C.fr i) 32).length:=w4.n (by decide) fJ
    have hL:=zgD (d:=C.dat) (N:=C.N) (tf:=C.tf i) (fr:=C.fr i) (i:=32)
    have hc3:=hc.keeps hk3'
    refine zC (fun (z:Int) S'=>∃ k:Nat,z=(k:Int)∧k≤(pgEn C.dat C.N (C.tf i) (C.fr i) 32).length∧S'=S3) (fun z=>(pgEn C.dat C.N (C.tf i) (C.fr i) 32).length-z.toNat) ?_ ⟨0,rfl,by omega,rfl⟩
    rintro Y z S4 ⟨k,rfl,hkl,rfl⟩ ih2
    try dsimp only at ih2 ⊢
    by_cases hkt:k<(pgEn C.dat C.N (C.tf i) (C.fr i) 32).length
    ·rw[if_pos (by omega)]
     obtain⟨c3,e3,p3⟩:=w3.sl (by simp only[pgL,List.length_map];omega)
     obtain⟨c4,e4,p4⟩:=w4.sl (by rw[fJ];omega)
     have hq:=zjz (List.getElem_mem hkt)
     generalize hqe:(pgEn C.dat C.N (C.tf i) (C.fr i) 32)[k]=q at hq
     obtain⟨qp,qf,qw⟩:=q
     have cell3:S4.cell c3 (0+(k:Int).toNat*1)=some (.int .i64 (qp:Nat)):=by
      rw[w3.cell p3 k (by simp only[pgL,List.length_map];omega) (by omega),zI]
      unfold pgL
      rw[List.getElem?_map,List.getElem?_eq_getElem hkt,hqe];rfl
     have cell4:S4.cell c4 (0+(k:Int).toNat*3+1)=some (.int .i64 (qf:Nat)):=by
      rw[w4.cell p4 (k*3+1) (by rw[fJ];omega) (by omega)]
      unfold pgE
      rw[znS (w:=3) (fun q=>zda q.2) hkt (by decide),hqe];rfl
     have hx:=hE i hlt hon qp hq.1 qf qw hq.2
     obtain⟨hx1,s,hx2⟩:=hx
     rw[zmF e3]
     refine⟨by omega,by omega,?_⟩
     rw[zx cell3,zS x3,zL,zS hc3.t74,zmF e4]
     refine⟨by omega,by omega,?_⟩
     rw[zx cell4]
     refine zcs hc3.ow hx1 ?_
     refine⟨rfl,?_⟩
     rw[hx2,if_pos rfl,zx (show nthL (owL ⟨3,(i:Int),(qp:Int),s⟩) 0=some (.int .u8 3) from rfl),if_pos rfl,zx (show nthL (owL ⟨3,(i:Int),(qp:Int),s⟩) 1=some (.int .i64 (i:Int)) from rfl),if_pos rfl,zx (show nthL (owL ⟨3,(i:Int),(qp:Int),s⟩) 2=some (.int .i64 (qp:Int)) from rfl),if_pos rfl,if_pos True.intro,w64 (by omega) (by omega)]
     exact ih2 _ S4 ⟨k+1,rfl,by omega,rfl⟩ (by omega)
    ·rw[if_neg (by omega)]
     exact go _ hk3'
  ·rw[if_neg (by omega)]
   exact hQ hall _ hk2
 ·obtain⟨rs,ho,hn,hrow⟩:=hc.ownL
  simp only[jn]
  rw[zS x3,zL,zS hc.t74,zL,wj ho]
  refine zC (fun (z:Int) S'=>∃ i:Nat,z=(i:Int)∧i≤C.N∧Keeps S S' []∧∀ f,f<i→(C.own f).kind=3→C.walk (C.own f).vm.toNat (C.own f).page=some (f,true)) (fun z=>C.N-z.toNat) ?_ ⟨0,rfl,by omega,Keeps.refl,fun _ h=>by omega⟩
  rintro X z S1 ⟨i,rfl,hi,hk1,hall⟩ ih
  try dsimp only at ih ⊢
  have hc1:=hc.keeps hk1
  by_cases hlt:i<C.N
  ·rw[if_pos (by omega)]
   obtain⟨rs1,ho1,hn1,hrow1⟩:=hc1.ownL
   have er:rs1=rs:=by
    have:=hk1 A.ob (fun e=>by unfold Mem.cell at ho;rw[e] at ho;cases ho) (by simp)
    unfold Mem.cell at ho ho1
    rw[this] at ho1
    rw[ho] at ho1
    simp only[Option.some.injEq] at ho1
    exact (zmk ho1).symm
   subst er
   obtain⟨c,n,e,en,hpart⟩:=hrow1 i hlt
   rw[zmF e]
   refine⟨by omega,by omega,?_⟩
   rw[xa hpart]
   refine⟨rfl,?_⟩
   have go:((C.own i).kind=3→C.walk (C.own i).vm.toNat (C.own i).page=some (i,true))→∀ S2,Keeps S S2 []→X (IntKind.i64.wrap ((i:Int)+1)) S2:=fun hg S2 hk2=>by
    rw[w64 (by omega) (by omega)]
    refine ih _ S2 ⟨i+1,rfl,by omega,hk2,fun f hf=>?_⟩ (by omega)
    by_cases e:f=i
    ·subst e;exact hg
    ·exact hall f (by omega)
   have o1:nthL (owL (C.own i)) 1=some (.int .i64 (C.own i).vm):=rfl
   have o2:nthL (owL (C.own i)) 2=some (.int .i64 (C.own i).page):=rfl
   rw[zx (show nthL (owL (C.own i)) 0=some (.int .u8 (C.own i).kind) from rfl)]
   by_cases h3:(C.own i).kind=3
   ·rw[if_neg (fun hne=>hne h3),zS x3,zx o1]
    have ht:=hk i hlt h3
    refine qJ hc1 ?_
    rw[decide_eq_true ht,if_pos rfl,zS x3,zx o1,zL]
    refine⟨ht.1,ht.2.1,?_⟩
    have h6:(C.own i).vm.toNat<6:=by have:=ht.1;have:=ht.2.1;omega
    rw[xa (hc1.vtab (n:=(C.own i).vm.toNat) h6 (by omega)),zS x0,zx o2]
    refine walkD hc1.st (hc1.vs _ h6).fr.row (fun g w S2 hw hk2=>?_) fun e S2 hw he hk2=>?_
    ·have hk2':=hk1.trans hk2
     have hc2:=hc.keeps hk2'
     refine⟨rfl,?_⟩
     have hww:C.walk (C.own i).vm.toNat (C.own i).page=some (g,w):=hw
     rw[if_neg (by decide),zx (show nthL (enL g w) 1=some (.int .i64 (g:Nat)) from rfl)]
     by_cases e1:g=i
     ·subst e1
      rw[if_neg (by simp),fo (show nthL (enL g w) 2=some (.bool w) from rfl)]
      cases w with
      | true=>
       rw[if_pos rfl,zS x3,zL,xa hc2.tls,zx o1,zx o2]
       refine zeh (fun j _ hj=>by rw[hls j] at hj;cases hj) fun _=>?_
       rw[if_neg (by decide)]
       exact go (fun _=>hww) _ hk2'
      | false=>
       rw[if_neg (by simp)]
       exact hB ⟨g,hlt,h3,by rw[hww];simp⟩ _ hk2'
     ·rw[if_pos (by omega)]
      exact hB ⟨i,hlt,h3,by rw[hww];simp[e1]⟩ _ hk2'
    ·refine⟨rfl,?_⟩
     have hww:C.walk (C.own i).vm.toNat (C.own i).page=none:=hw
     rw[if_pos he]
     exact hB ⟨i,hlt,h3,by rw[hww];simp⟩ _ (hk1.trans hk2)
   ·rw[if_pos h3]
    exact go (fun h=>absurd h h3) _ hk1
  ·rw[if_neg (by omega)]
   exact hJ _ hk1 fun f hf=>hall f (by omega)
end
end
section
open Go Go.Pt Go.Cr Go.Hp
section
variable {S S' S0:Mem} {ρ ρ' ρ0:Rho} {R:Nat→Prop} {h:Nat} {A:Ad} {C:Cst} {W:Wd} {φ:Nat→Nat→Nat}
theorem znw {ob N:Nat} {own:Nat→Ow} (h:OwnP S ρ ob N own) {f:Nat} (hf:N≤f) {Q:List Value→Int→Mem→Prop} (hQ:Q (owL ow0) 1 S):qW S (some (ob,0)) f Q:=by
 obtain⟨rs,h1,h2⟩:=h.ex
 have hn:=h2.n (by decide) xB
 have hc:S.cell ob 0=some (eL rs):=h1.cell 0 (by simp) rfl
 apply fh
 unfold xH
 apply fg
 unfold xG
 simp only[jn]
 rw[if_neg (by simp),if_neg (by omega),zL,wj hc,if_pos (by omega),if_pos (by decide)]
 exact hQ
def lentBy (ls:Nat→Ls) (o:Ow) (i q:Nat) (w:Bool) (j:Nat):Prop:=j<16∧(ls j).on=true∧(ls j).to=i∧(ls j).at_=q∧o.kind=3∧o.vm=(ls j).fr∧o.page=(ls j).pg∧(ls j).wr=w
def Good1 (C:Cst) (f:Nat):Prop:=(C.own f).kind=3→C.walk (C.own f).vm.toNat (C.own f).page=some (f,true)∧∀ j,j<16→¬((C.ls j).on=true∧((C.ls j).to:Int)=(C.own f).vm∧(C.ls j).at_=(C.own f).page∧0≤(C.own f).page)
def Good2 (C:Cst) (i q:Nat):Prop:=∀ g w,C.walk i (q:Nat)=some (g,w)→g<C.N∧((∃ s,C.own g=⟨3,i,(q:Nat),s⟩)∨∃ j,lentBy C.ls (C.own g) i q w j)
def OneAt (ls:Nat→Ls):Prop:=∀ i j,(ls i).on=true→(ls j).on=true→(ls i).to=(ls j).to→0≤(ls i).at_→(ls i).at_=(ls j).at_→i=j
theorem zlV (hc:CrabA S ρ h A C) (hu:OneAt C.ls) {p:Nat} {gs:Sl} {i q g:Nat} {w:Bool} {o:Ow} {Q:Bool→Mem→Prop} (hY:(∃ j,lentBy C.ls o i q w j)→Q true S) (hN:¬(∃ j,lentBy C.ls o i q w j)→Q false S):xD S (pxL A p gs) i q (enL g w) (owL o) Q:=by
 apply zbQ
 unfold wx
 have x3:nthL (pxL A p gs) 3=some (eP (some (A.t,0))):=rfl
 refine⟨rfl,rfl,rfl,?_⟩
 rw[zS x3,zL,xa hc.tls,zS x3,zL,xa hc.tls]
 refine zeh (fun j hj hon hto hat h0=>?_) fun hno=>?_
 ·refine⟨hc.tls,?_⟩
  refine vE (ls:=C.ls) (fun _ _ _=>?_) fun hb=>?_
  ·rw[Int.toNat_natCast]
   refine⟨rfl,?_⟩
   have key:(∃ j,lentBy C.ls o i q w j)→lentBy C.ls o i q w j:=fun⟨k,hk⟩=>by
    have:k=j:=hu k j hk.2.1 hon (by have:=hk.2.2.1;omega) (by have:=hk.2.2.2.1;omega) (by have:=hk.2.2.2.1;omega)
    subst this;exact hk
   rw[if_pos rfl,zx (show nthL (owL o) 0=some (.int .u8 o.kind) from rfl)]
   by_cases h3:o.kind=3
   ·rw[if_pos h3,zx (show nthL (owL o) 1=some (.int .i64 o.vm) from rfl),zx (show nthL (lsL (C.ls j)) 1=some (.int .i64 (C.ls j).fr) from rfl)]
    by_cases h1:o.vm=(C.ls j).fr
    ·rw[if_pos h1,zx (show nthL (owL o) 2=some (.int .i64 o.page) from rfl),zx (show nthL (lsL (C.ls j)) 2=some (.int .i64 (C.ls j).pg) from rfl)]
     by_cases h2:o.page=(C.ls j).pg
     ·rw[if_pos h2,fo (show nthL (enL g w) 2=some (.bool w) from rfl),fo (show nthL (lsL (C.ls j)) 4=some (.bool (C.ls j).wr) from rfl)]
      by_cases hw:w=(C.ls j).wr
      ·rw[decide_eq_true hw]
       exact hY ⟨j,hj,hon,by omega,hat,h3,h1,h2,hw.symm⟩
      ·rw[decide_eq_false hw]
       exact hN fun h=>hw (key h).2.2.2.2.2.2.2.symm
     ·rw[if_neg h2];exact hN fun h=>h2 (key h).2.2.2.2.2.2.1
    ·rw[if_neg h1];exact hN fun h=>h1 (key h).2.2.2.2.2.1
   ·rw[if_neg h3];exact hN fun h=>h3 (key h).2.2.2.2.1
  ·rw[Int.toNat_natCast] at hb
   rcases hb with hb | hb | hb
   ·omega
   ·omega
   ·rw[hon] at hb;cases hb
 ·refine⟨hc.tls,?_⟩
  refine vE (ls:=C.ls) (fun h0 _ _=>absurd h0 (by decide)) fun hb=>⟨rfl,?_⟩
  rw[if_neg (by decide)]
  exact hN fun⟨k,hk⟩=>hno k hk.1 ⟨hk.2.1,by have:=hk.2.2.1;omega,hk.2.2.2.1,by omega⟩
theorem zna {d:Nat→List Int} {N:Nat} {tf:Int} {fr:List Nat} {i q:Nat} {x:Nat×Bool} (hq:q<i) (hw:walkC d N tf fr q=some x):∃ k,∃ hk:k<(pgEn d N tf fr i).length,(pgEn d N tf fr i)[k]=(q,x):=by
 have:(q,x)∈pgEn d N tf fr i:=List.mem_filterMap.2 ⟨q,List.mem_range.2 hq,by rw[hw];rfl⟩
 exact List.mem_iff_getElem.1 this
theorem zkm (hc:CrabA S ρ h A C) (hk:∀ f,f<C.N→(C.own f).kind=3→thereV C.vm (C.own f).vm) (hu:OneAt C.ls) {p:Nat} {gs:Sl} {Q:Int→Mem→Prop}
  (hB:¬((∀ f,f<C.N→Good1 C f)∧∀ i,i<6→(C.vm i).on=true→∀ q,q<32→Good2 C i q)→∀ S',Keeps S S' []→Q 11 S')
  (hQ:(∀ f,f<C.N→Good1 C f)→(∀ i,i<6→(C.vm i).on=true→∀ q,q<32→Good2 C i q)→∀ S',Keeps S S' []→Q 0 S'):xb S (pxL A p gs) Q:=by
 apply kM
 unfold yt
 have hN:=hc.st.lim
 have x3:nthL (pxL A p gs) 3=some (eP (some (A.t,0))):=rfl
 have x0:nthL (pxL A p gs) 0=some (eP (some (A.m,0))):=rfl
 refine⟨rfl,?_⟩
 refine zZ (fun J=>∀ S1,Keeps S S1 []→(∀ f,f<C.N→Good1 C f)→J S1) ?_ fun J hJ=>?_
 ·intro S1 hk1 hall
  have hc1:=hc.keeps hk1
  simp only[jn]
  rw[zS x3,zL,xa hc1.vms]
  refine zC (fun (z:Int) S'=>∃ i:Nat,z=(i:Int)∧i≤6∧Keeps S S' []∧∀ m,m<i→(C.vm m).on=true→∀ q,q<32→Good2 C m q) (fun z=>6-z.toNat) ?_ ⟨0,rfl,by omega,hk1,fun m hm=>by omega⟩
  rintro X z S2 ⟨i,rfl,hi,hk2,hgd⟩ ih
  try dsimp only at ih ⊢
  have hc2:=hc.keeps hk2
  by_cases hlt:i<6
  ·rw[if_pos (by omega)]
   refine⟨by omega,by omega,?_⟩
   rw[xa (zlb (fun _=>rfl) hlt)]
   refine⟨zbL,?_⟩
   have go:((C.vm i).on=true→∀ q,q<32→Good2 C i q)→∀ S3,Keeps S S3 []→X (IntKind.i64.wrap ((i:Int)+1)) S3:=fun hg S3 hk3=>by
    rw[w64 (by omega) (by omega)]
    refine ih _ S3 ⟨i+1,rfl,by omega,hk3,fun m hm=>?_⟩ (by omega)
    by_cases e:m=i
    ·subst e;exact hg
    ·exact hgd m (by omega)
   rw[fo (show nthL (vmC (A.x i) (C.vm i) (C.tf i) (C.late i)) 0=some (.bool (C.vm i).on) from rfl)]
   cases hon:(C.vm i).on with
   | false=>rw[if_neg (by simp)];exact go (fun h=>by rw[hon] at h;cases h) S2 hk2
   | true=>
    rw[if_pos rfl,xa (show lpart (vmC (A.x i) (C.vm i) (C.tf i) (C.late i)) 2 2=some (tbL (C.tf i) (A.x i).fs) from rfl),zS x0]
    refine zib hc2.st (hc2.vs i hlt).fr.row fun t3 t4 S3 hk3 hr3 hr4=>?_
    have hk3':=hk2.trans hk3
    have w3:=Row.at_ hr3
    have w4:=Row.at_ hr4
    have n3:t3.n=(pgEn C.dat C.N (C.tf i) (C.fr i) 32).length:=w3.n (by decide) (by simp[pgL])
    have n4:t4.n=(pgEn C.dat C.N (C.tf i) (C.fr i) 32).length:=w4.n (by decide) fJ
    have hL:=zgD (d:=C.dat) (N:=C.N) (tf:=C.tf i) (fr:=C.fr i) (i:=32)
    have hc3:=hc.keeps hk3'
    refine zC (fun (z:Int) S'=>∃ k:Nat,z=(k:Int)∧k≤(pgEn C.dat C.N (C.tf i) (C.fr i) 32).length∧S'=S3∧∀ m,(hm:m<(pgEn C.dat C.N (C.tf i) (C.fr i) 32).length)→m<k→Good2 C i (pgEn C.dat C.N (C.tf i) (C.fr i) 32)[m].1) (fun z=>(pgEn C.dat C.N (C.tf i) (C.fr i) 32).length-z.toNat) ?_ ⟨0,rfl,by omega,rfl,fun m _ hm=>by omega⟩
    rintro Y z S4 ⟨k,rfl,hkl,rfl,hgk⟩ ih2
    try dsimp only at ih2 ⊢
    by_cases hkt:k<(pgEn C.dat C.N (C.tf i) (C.fr i) 32).length
    ·rw[if_pos (by omega)]
     obtain⟨c3,e3,p3⟩:=w3.sl (by simp only[pgL,List.length_map];omega)
     obtain⟨c4,e4,p4⟩:=w4.sl (by rw[fJ];omega)
     have hq:=zjz (List.getElem_mem hkt)
     generalize hqe:(pgEn C.dat C.N (C.tf i) (C.fr i) 32)[k]=q at hq
     obtain⟨qp,qf,qw⟩:=q
     have cell3:S4.cell c3 (0+(k:Int).toNat*1)=some (.int .i64 (qp:Nat)):=by
      rw[w3.cell p3 k (by simp only[pgL,List.length_map];omega) (by omega),zI]
      unfold pgL
      rw[List.getElem?_map,List.getElem?_eq_getElem hkt,hqe];rfl
     have cell4:S4.cell c4 (0+(k:Int).toNat*3+1)=some (.int .i64 (qf:Nat)):=by
      rw[w4.cell p4 (k*3+1) (by rw[fJ];omega) (by omega)]
      unfold pgE
      rw[znS (w:=3) (fun q=>zda q.2) hkt (by decide),hqe];rfl
     have hww:C.walk i (qp:Nat)=some (qf,qw):=hq.2
     have fin:Good2 C i qp→Y (IntKind.i64.wrap ((k:Int)+1)) S4:=fun hg=>by
      rw[w64 (by omega) (by omega)]
      refine ih2 _ S4 ⟨k+1,rfl,by omega,rfl,fun m hm hmk=>?_⟩ (by omega)
      by_cases e:m=k
      ·subst e;rw[hqe];exact hg
      ·exact hgk m hm (by omega)
     have bad:¬Good2 C i qp→Q 11 S4:=fun hg=>hB (fun h=>hg (h.2 i hlt hon qp hq.1)) S4 hk3'
     rw[zmF e3]
     refine⟨by omega,by omega,?_⟩
     rw[zx cell3,zS x3,zL,zS hc3.t74,zmF e4]
     refine⟨by omega,by omega,?_⟩
     rw[zx cell4]
     have part4:S4.part c4 (0+(k:Int).toNat*3) 3=some (enL qf qw):=by
      rw[w4.part p4 (k*3) (by rw[fJ];omega) (by omega)]
      have:=zfh (f:=fun q:Nat×Nat×Bool=>enP q.2) (w:=3) (fun q=>zda q.2) hkt
      rw[hqe] at this;exact this
     have hlt2:∀ o:Ow,(∀ j,lentBy C.ls o i qp qw j→Good2 C i qp)→((¬ ∃ j,lentBy C.ls o i qp qw j)→¬Good2 C i qp) →
       (0≤(k:Int)∧(k:Int)<((t4.n:Nat):Int)∧gA (S4.part c4 (0+(k:Int).toNat*3) 3) fun t_14=>xD S4 (pxL A p gs) (i:Int) (qp:Int) t_14 (owL o) fun t_15 Sx_10=>if t_15=true then Y (IntKind.i64.wrap ((k:Int)+1)) Sx_10 else Q 11 Sx_10):=fun o h1 h2=>by
      refine⟨by omega,by omega,?_⟩
      rw[xa part4]
      refine zlV hc3 hu (fun⟨j,hj⟩=>?_) fun hno=>?_
      ·rw[if_pos rfl];exact fin (h1 j hj)
      ·rw[if_neg (by decide)];exact bad (h2 hno)
     by_cases hgN:qf<C.N
     ·refine zcs hc3.ow hgN ?_
      refine⟨rfl,?_⟩
      have hl:=hlt2 (C.own qf) (fun j hj g w hgw=>by
       rw[hww] at hgw;cases hgw
       exact⟨hgN,.inr ⟨j,hj⟩⟩)
      have hl':=fun hne:¬(∃ s,C.own qf=⟨3,i,(qp:Nat),s⟩)=>hl fun hno hg=>by
       rcases (hg qf qw hww).2 with h | h
       ·exact hne h
       ·exact hno h
      rw[if_pos rfl,zx (show nthL (owL (C.own qf)) 0=some (.int .u8 (C.own qf).kind) from rfl)]
      by_cases h3:(C.own qf).kind=3
      ·rw[if_pos h3,zx (show nthL (owL (C.own qf)) 1=some (.int .i64 (C.own qf).vm) from rfl)]
       by_cases h1:(C.own qf).vm=i
       ·rw[if_pos h1,zx (show nthL (owL (C.own qf)) 2=some (.int .i64 (C.own qf).page) from rfl)]
        by_cases h2:(C.own qf).page=qp
        ·rw[if_pos h2,if_pos True.intro]
         refine fin fun g w hgw=>?_
         rw[hww] at hgw;cases hgw
         refine⟨hgN,.inl ⟨(C.own qf).sh,?_⟩⟩
         generalize C.own qf=o at h1 h2 h3
         obtain⟨a1,a2,a3,a4⟩:=o
         simp only at h1 h2 h3
         rw[h1,h2,h3]
        ·rw[if_neg h2,if_neg (by decide)]
         exact hl' fun⟨s,e⟩=>h2 (by rw[e])
       ·rw[if_neg h1,if_neg (by decide)]
        exact hl' fun⟨s,e⟩=>h1 (by rw[e])
      ·rw[if_neg h3,if_neg (by decide)]
       exact hl' fun⟨s,e⟩=>h3 (by rw[e])
     ·refine znw hc3.ow (by omega) ?_
      refine⟨rfl,?_⟩
      rw[if_neg (by decide),if_neg (by decide)]
      refine hlt2 ow0 (fun j hj=>absurd hj.2.2.2.2.1 (by decide)) fun _ hg=>?_
      have:=(hg qf qw hww).1
      omega
    ·rw[if_neg (by omega)]
     refine go (fun _ q hq=>?_) _ hk3'
     intro g w hw
     obtain⟨k',hk',e⟩:=zna (i:=32) hq hw
     have:=hgk k' hk' (by omega)
     rw[e] at this
     exact this g w hw
  ·rw[if_neg (by omega)]
   exact hQ hall (fun m hm=>hgd m (by omega)) _ hk2
 ·obtain⟨rs,ho,hn,hrow⟩:=hc.ownL
  simp only[jn]
  rw[zS x3,zL,zS hc.t74,zL,wj ho]
  refine zC (fun (z:Int) S'=>∃ i:Nat,z=(i:Int)∧i≤C.N∧Keeps S S' []∧∀ f,f<i→Good1 C f) (fun z=>C.N-z.toNat) ?_ ⟨0,rfl,by omega,Keeps.refl,fun _ h=>by omega⟩
  rintro X z S1 ⟨i,rfl,hi,hk1,hall⟩ ih
  try dsimp only at ih ⊢
  have hc1:=hc.keeps hk1
  by_cases hlt:i<C.N
  ·rw[if_pos (by omega)]
   obtain⟨rs1,ho1,hn1,hrow1⟩:=hc1.ownL
   have er:rs1=rs:=by
    have:=hk1 A.ob (fun e=>by unfold Mem.cell at ho;rw[e] at ho;cases ho) (by simp)
    unfold Mem.cell at ho ho1
    rw[this] at ho1
    rw[ho] at ho1
    simp only[Option.some.injEq] at ho1
    exact (zmk ho1).symm
   subst er
   obtain⟨c,n,e,en,hpart⟩:=hrow1 i hlt
   rw[zmF e]
   refine⟨by omega,by omega,?_⟩
   rw[xa hpart]
   refine⟨rfl,?_⟩
   have go:Good1 C i→∀ S2,Keeps S S2 []→X (IntKind.i64.wrap ((i:Int)+1)) S2:=fun hg S2 hk2=>by
    rw[w64 (by omega) (by omega)]
    refine ih _ S2 ⟨i+1,rfl,by omega,hk2,fun f hf=>?_⟩ (by omega)
    by_cases e:f=i
    ·subst e;exact hg
    ·exact hall f (by omega)
   have o1:nthL (owL (C.own i)) 1=some (.int .i64 (C.own i).vm):=rfl
   have o2:nthL (owL (C.own i)) 2=some (.int .i64 (C.own i).page):=rfl
   rw[zx (show nthL (owL (C.own i)) 0=some (.int .u8 (C.own i).kind) from rfl)]
   by_cases h3:(C.own i).kind=3
   ·rw[if_neg (fun hne=>hne h3),zS x3,zx o1]
    have ht:=hk i hlt h3
    refine qJ hc1 ?_
    rw[decide_eq_true ht,if_pos rfl,zS x3,zx o1,zL]
    refine⟨ht.1,ht.2.1,?_⟩
    have h6:(C.own i).vm.toNat<6:=by have:=ht.1;have:=ht.2.1;omega
    rw[xa (hc1.vtab (n:=(C.own i).vm.toNat) h6 (by omega)),zS x0,zx o2]
    refine walkD hc1.st (hc1.vs _ h6).fr.row (fun g w S2 hw hk2=>?_) fun e S2 hw he hk2=>?_
    ·have hk2':=hk1.trans hk2
     have hc2:=hc.keeps hk2'
     refine⟨rfl,?_⟩
     have hww:C.walk (C.own i).vm.toNat (C.own i).page=some (g,w):=hw
     rw[if_neg (by decide),zx (show nthL (enL g w) 1=some (.int .i64 (g:Nat)) from rfl)]
     by_cases e1:g=i
     ·subst e1
      rw[if_neg (by simp),fo (show nthL (enL g w) 2=some (.bool w) from rfl)]
      cases w with
      | true=>
       rw[if_pos rfl,zS x3,zL,xa hc2.tls,zx o1,zx o2]
       refine zeh (fun j hj hon hto hat h0=>?_) fun hno=>?_
       ·rw[if_pos (by omega)]
        exact hB (fun hh=>(hh.1 g hlt h3).2 j hj ⟨hon,hto,hat,h0⟩) _ hk2'
       ·rw[if_neg (by decide)]
        exact go (fun _=>⟨hww,hno⟩) _ hk2'
      | false=>
       rw[if_neg (by simp)]
       exact hB (fun hh=>by have:=(hh.1 g hlt h3).1;rw[hww] at this;simp at this) _ hk2'
     ·rw[if_pos (by omega)]
      exact hB (fun hh=>by have:=(hh.1 i hlt h3).1;rw[hww] at this;simp[e1] at this) _ hk2'
    ·refine⟨rfl,?_⟩
     have hww:C.walk (C.own i).vm.toNat (C.own i).page=none:=hw
     rw[if_pos he]
     exact hB (fun hh=>by have:=(hh.1 i hlt h3).1;rw[hww] at this;cases this) _ (hk1.trans hk2)
   ·rw[if_pos h3]
    exact go (fun h=>absurd h h3) _ hk1
  ·rw[if_neg (by omega)]
   exact hJ _ hk1 fun f hf=>hall f (by omega)
end
end
section
open Go Go.Pt Go.Proofs.Tryz
attribute [local irreducible] lt WD WN Code.wp Back bodyPost wpList FR WL WC WQ WA AW Tr Yc HC AllC
set_option maxRecDepth 20000
set_option maxHeartbeats 4000000
def xo (S:Mem) (x:List Value) (Q:Int→Mem→Prop):Prop:=
 x.length=4 ∧
 jn (fun (v:List Value) (Sx:Mem)=>
 v.length=1 ∧
 jn (fun (n:Int) (Sx_1:Mem)=>
 gM v fun m=>
 if n≠((m).length:Int) then
 Q 10 Sx_1
 else
 Q 0 Sx_1) fun Jx=>
 gP (nthL x 3) fun t=>
 nn t fun b_2 o=>
 gP (Sx.cell b_2 (o+74)) fun t_1=>
 nn t_1 fun b_3 o_1=>
 gL (Sx.cell b_3 o_1) fun t_2=>
 lp (fun Xx (z:Int×Int) (Sx_2:Mem)=>
 match z with
 | (n_1,t_3)=>
 if t_3<(t_2.n:Int) then
 jn (fun (n_2:Int) (Sx_3:Mem)=>
 Xx (n_2,IntKind.i64.wrap (t_3+1)) Sx_3) fun Jx_1=>
 sl t_2 fun b_4 o_2 n_3 n_4=>
 0≤t_3∧t_3<((n_3:Nat):Int) ∧
 gA (Sx_2.part b_4 (o_2+t_3.toNat*4) 4) fun t_4=>
 t_4.all (·.oneCell')=true ∧
 jn (fun (Sx_4:Mem)=>
 gI (nthL t_4 0) .u8 fun t_5=>
 if t_5=3 then
 gI (nthL t_4 3) .i64 fun t_6=>
 if 0<t_6 then
 Jx_1 (IntKind.i64.wrap (n_1+1)) Sx_4
 else
 Jx_1 n_1 Sx_4
 else
 Jx_1 n_1 Sx_4) fun Jx_2=>
 gI (nthL t_4 0) .u8 fun t_7=>
 if t_7=3 then
 gI (nthL t_4 3) .i64 fun t_8=>
 gI (nthL t_4 1) .i64 fun t_9=>
 gI (nthL t_4 2) .i64 fun t_10=>
 gM v fun m_1=>
 okM [.i .i64,.i .i64] m_1 ∧
 gI (some (mget m_1 ([.int .i64 t_9,.int .i64 t_10]) (.int .i64 0))) .i64 fun t_11=>
 if t_8≠t_11 then
 Q 10 Sx_2
 else
 Jx_2 Sx_2
 else
 Jx_2 Sx_2
 else
 Jx n_1 Sx_2) (0,0) Sx) fun Jx_3=>
 gP (nthL x 3) fun t_12=>
 nn t_12 fun b_6 o_4=>
 gA (S.part b_6 (o_4+75) 96) fun t_13=>
 lp (fun Xx_1 (z:Int×List Value) (Sx_5:Mem)=>
 match z with
 | (t_14,v_1)=>
 v_1.length=1 ∧
 if t_14<16 then
 jn (fun (v_2:List Value) (Sx_6:Mem)=>
 v_2.length=1 ∧
 Xx_1 (IntKind.i64.wrap (t_14+1),v_2) Sx_6) fun Jx_4=>
 0≤t_14∧t_14<16 ∧
 gA (lpart t_13 (t_14.toNat*6) 6) fun t_15=>
 t_15.all (·.oneCell')=true ∧
 jn (fun (Sx_7:Mem)=>
 jn (fun (Sx_8:Mem)=>
 jn (fun (Sx_9:Mem)=>
 gI (nthL t_15 1) .i64 fun t_16=>
 gI (nthL t_15 2) .i64 fun t_17=>
 gM v_1 fun m_2=>
 okM [.i .i64,.i .i64] m_2 ∧
 gI (some (mget m_2 ([.int .i64 t_16,.int .i64 t_17]) (.int .i64 0))) .i64 fun t_18=>
 Jx_4 (mvL (mset (mput m_2 ([.int .i64 t_16,.int .i64 t_17]) (.int .i64 0)) (mix m_2 ([.int .i64 t_16,.int .i64 t_17])) (.int .i64 (IntKind.i64.wrap (t_18+1))))) Sx_9) fun Jx_5=>
 gI (nthL t_15 5) .i64 fun t_19=>
 if 0≤t_19 then
 gP (nthL x 3) fun t_20=>
 gI (nthL t_15 3) .i64 fun t_21=>
 nn t_20 fun b_8 o_6=>
 0≤t_21∧t_21<6 ∧
 gA (Sx_8.part b_8 (o_6+2+t_21.toNat*12+2) 2) fun t_22=>
 gP (nthL x 0) fun t_23=>
 gI (nthL t_15 5) .i64 fun t_24=>
 zP Sx_8 t_22 t_23 t_24 fun t_25 t_26 Sx_10=>
 t_25.all (·.oneCell')=true ∧
 if t_26≠0 then
 Q 10 Sx_10
 else
 Jx_5 Sx_10
 else
 Jx_5 Sx_8) fun Jx_6=>
 gP (nthL x 3) fun t_27=>
 gI (nthL t_15 1) .i64 fun t_28=>
 zJ Sx_7 t_27 t_28 fun t_29 Sx_11=>
 if t_29=true then
 gP (nthL x 3) fun t_30=>
 gI (nthL t_15 3) .i64 fun t_31=>
 zJ Sx_11 t_30 t_31 fun t_32 Sx_12=>
 if t_32=true then
 gI (nthL t_15 1) .i64 fun t_33=>
 gI (nthL t_15 3) .i64 fun t_34=>
 if t_33=t_34 then
 Q 10 Sx_12
 else
 Jx_6 Sx_12
 else
 Q 10 Sx_12
 else
 Q 10 Sx_11) fun Jx_7=>
 gB (nthL t_15 0) fun t_35=>
 if t_35=true then
 Jx_7 Sx_5
 else
 Jx_4 v_1 Sx_5
 else
 Jx_3 v_1 Sx_5) (0,mvL []) S
theorem zaD {S:Mem} {x:List Value} {Q:Int→Mem→Prop} (H:xo S x Q):wa S x Q:=by
 unfold xo at H
 exact Tr.intro func124 E ntmps124 E fun w0=>an H fun hx H1=>csr<|jM E E E fun b=>gv E E<|nxr<|zqi E fun b_1=>gv E E<|nx<|zy H1 (fun (J:List Value→Mem→Prop) (z:List Value) S=>J z S) (fun z=>⟨120,[(1,.pointer (some ⟨b,0,none⟩)),(3,.map (some b_1))]⟩) (fun z=>[⟨b,200,x⟩,⟨b_1,itT,z⟩]) (fun v Sx H2=>an H2 fun hv H3=>csr<|gv E E<|nx<|zy H3 (fun (J:Int→Mem→Prop) (z:Int) S=>J z S) (fun z=>⟨120,[(3,.map (some b_1)),(8,.int .i64 z)]⟩) (fun z=>[⟨b_1,itT,v⟩]) (fun n Sx_1 H4=>qb<|csr<|mv E E<|mv E E<|by obtain⟨m,rfl,H5⟩:=H4;exact s_v E (zpI (m:=m) E) (zrG 0 E E)<|iteK H5 (fun c H6=>s_p E (yT (qt E E) c)<|nx<|c_t E E<|csr<|gv E E<|nx<|zu<|zd<|zt results124 (zf E zi) ⟨_,E,H6⟩) fun c H6=>s_p E (yF (qt E E) c)<|nx<|cfs E E<|zB<|csr<|gv E E<|nx<|zu<|zt results124 (zf E zi) ⟨_,E,H6⟩) (fun Jx hJx H7=>csr<|s_p E (zA E E)<|gx H7 fun t ht H8=>s_v E (zG E) (zR 0 E ht)<|by obtain⟨b_2,o,rfl,H9⟩:=H8;exact s_p E (qx E)<|s_p E (zA E E)<|gx H9 fun t_1 ht_1 H10=>s_v E (zG E) (qh ht_1)<|by obtain⟨b_3,o_1,rfl,H11⟩:=H10;exact s_p E (qx E)<|s_p E (zA E E)<|gx H11 fun t_2 ht_2 H12=>s_v E (zG E) (qh ht_2)<|s_p E (jJ E)<|mv E E<|nx<|zK<|xC (fun z=>⟨120,[(3,.map (some b_1)),(8,.int .i64 z.1),(84,eL t_2),(85,.int .i64 (t_2.n:Int)),(86,.int .i64 z.2)]⟩) (fun z=>[⟨b_1,itT,v⟩]) (0,0) (idx:=[1]) H12 E ⟨E,E,E,E,E,True.intro⟩ E<|by rintro Xx hXx ⟨n_1,t_3⟩ Sx_2 H13;exact csr<|iteK H13 (fun c_1 H14=>s_p E (yT (qq E E) c_1)<|nx<|qb<|c_t E E<|yV<|zB<|zy H14 (fun (J:Int→Mem→Prop) (z:Int) S=>J z S) (fun z=>⟨120,[(3,.map (some b_1)),(8,.int .i64 z),(84,eL t_2),(85,.int .i64 (t_2.n:Int)),(86,.int .i64 t_3)]⟩) (fun z=>[⟨b_1,itT,v⟩]) (fun n_2 Sx_3 H15=>zE<|s_p E (qZ E E)<|mv E E<|zr<|hXx (n_2,IntKind.i64.wrap (t_3+1)) _ _ _ _ [0] H15 E ⟨E,E,E,E,E,True.intro⟩ E) (fun Jx_1 hJx_1 H16=>zK<|csr<|by obtain⟨b_4,o_2,n_3,n_4,rfl,H17⟩:=H16;exact an2 H17 fun c_2 c_3 H18=>s_p E (gn E E c_2 c_3 E)<|gx H18 fun t_4 ht_4 H19=>by refine s_v E (qk E (qL ht_4)) (jw ht_4) ?_;exact by refine zX E fun b_5=>?_;exact an H19 fun c_4 H20=>zn 1 E E E E E (qL ht_4) E c_4<|nx<|zy H20 (fun (J:Mem→Prop) (z:Unit) S=>J S) (fun z=>⟨120,[(3,.map (some b_1)),(8,.int .i64 n_1),(10,.pointer (some ⟨b_5,0,none⟩)),(84,.slice (some ⟨b_4,o_2,none⟩) n_3 n_4),(85,.int .i64 (n_3:Int)),(86,.int .i64 t_3)]⟩) (fun z=>[⟨b_1,itT,v⟩,⟨b_5,68,t_4⟩]) (fun _ Sx_4 H21=>csr<|s_p E (zA E E)<|gx H21 fun t_5 ht_5 H22=>s_v E (zG E) (zR 1 E ht_5)<|iteK H22 (fun c_5 H23=>ceT E E E (c_5)<|mv E E<|s_p E (zA E E)<|gx H23 fun t_6 ht_6 H24=>s_v E (zG E) (zR 1 E ht_6)<|iteK H24 (fun c_6 H25=>s_p E (yT (jZ E E) c_6)<|pk E E E<|nx<|ctr E E<|mv E E<|s_p E (qZ E E)<|gv E E<|zr<|qr<|hJx_1 (IntKind.i64.wrap (n_1+1)) _ _ _ _ [0] H25 E ⟨E,E,E,E,E,True.intro⟩ E) fun c_6 H25=>s_p E (yF (jZ E E) c_6)<|pk E E E<|nx<|cfs E E<|qr<|hJx_1 n_1 _ _ _ _ [0] H25 E ⟨E,E,E,E,E,True.intro⟩ E) fun c_5 H23=>ceF E E E (c_5)<|mv E E<|sk2 E E<|zF E<|pk E E E<|nx<|cfs E E<|qr<|hJx_1 n_1 _ _ _ _ [0] H23 E ⟨E,E,E,E,E,True.intro⟩ E) (fun Jx_2 hJx_2 H26=>qb<|qa (by kernel_rfl)<|a_takeP 0 E (by decide +kernel) (za (za (zc (za (za (zc (za zb))))))) E (zA E E)<|by exact gx H26 fun t_7 ht_7 H27=>zY 1 E (by decide +kernel) (za (za (zc (za (za (zc (za zb))))))) E (zG E) (zR 1 E ht_7)<|by exact iteK H27 (fun c_7 H28=>a_takeP 2 E (by decide +kernel) (za (za (zc (za (za (zc (za zb))))))) E (yT (zdE E E) c_7)<|by exact a_takeP 3 E (by decide +kernel) (za (za (zc (za (za (zc (za zb))))))) E (zp E)<|by exact a_takeP 4 E (by decide +kernel) (za (za (zc (za (za (zc (za zb))))))) E (zA E E)<|by exact gx H28 fun t_8 ht_8 H29=>zY 5 E (by decide +kernel) (za (za (zc (za (za (zc (za zb))))))) E (zG E) (zR 1 E ht_8)<|by exact a_takeP 6 E (by decide +kernel) (za (za (zc (za (za (zc (za zb))))))) E (zp E)<|by exact a_takeP 7 E (by decide +kernel) (za (za (zc (za (za (zc (za zb))))))) E (zA E E)<|by exact gx H29 fun t_9 ht_9 H30=>zY 8 E (by decide +kernel) (za (za (zc (za (za (zc (za zb))))))) E (zG E) (zR 1 E ht_9)<|by exact a_takeP 9 E (by decide +kernel) (za (za (zc (za (za (zc (za zb))))))) E (zA E E)<|by exact gx H30 fun t_10 ht_10 H31=>zY 10 E (by decide +kernel) (za (za (zc (za (za (zc (za zb))))))) E (zG E) (zR 1 E ht_10)<|by exact a_takeP 11 E (by decide +kernel) (za (za (zc (za (za (zc (za zb))))))) E (ql E E)<|by exact by obtain⟨m_1,rfl,H32⟩:=H31;exact by obtain⟨o_3,H33⟩:=H32;exact gx H33 fun t_11 h H34=>zY 12 E (by decide +kernel) (za (za (zc (za (za (zc (za zb))))))) E (zkW (cs:=[.int .i64 t_9,.int .i64 t_10]) E E E) (zqC 0 E E o_3 (Option.some.inj h))<|by exact iteK H34 (fun c_8 H35=>a_takeP 13 E (by decide +kernel) (za (za (zc (za (za (zc (za zb))))))) E (yT (qt E E) c_8)<|by exact a_takeP 14 E (by decide +kernel) (za (za (zc (za (za (zc (za zb))))))) E (fp E E)<|by exact zW (by decide +kernel)<|by exact zB<|c_t E E<|csr<|gv E E<|nx<|zu<|zd<|zo<|zd<|zd<|zo<|zd<|zt results124 (zf E zi) ⟨_,E,H35⟩) fun c_8 H35=>a_takeP 13 E (by decide +kernel) (za (za (zc (za (za (zc (za zb))))))) E (yF (qt E E) c_8)<|by exact a_takeP 14 E (by decide +kernel) (za (za (zc (za (za (zc (za zb))))))) E (fp E E)<|by exact zW (by decide +kernel)<|by exact zB<|cfs E E<|hJx_2 () _ _ _ _ [0,0] H35 E ⟨E,E,E,E,E,E,True.intro⟩ E) fun c_7 H28=>a_takeP 2 E (by decide +kernel) (za (za (zc (za (za (zc (za zb))))))) E (yF (zdE E E) c_7)<|by exact a_takeP 3 E (by decide +kernel) (za (za (zc (za (za (zc (za zb))))))) E (zp E)<|by exact qH 4 E (by decide +kernel) (za (za (zc (za (za (zc (za zb))))))) E<|by exact qH 5 E (by decide +kernel) (za (za (zc (za (za (zc (za zb))))))) E<|by exact qH 6 E (by decide +kernel) (za (za (zc (za (za (zc (za zb))))))) E<|by exact qH 7 E (by decide +kernel) (za (za (zc (za (za (zc (za zb))))))) E<|by exact qH 8 E (by decide +kernel) (za (za (zc (za (za (zc (za zb))))))) E<|by exact qH 9 E (by decide +kernel) (za (za (zc (za (za (zc (za zb))))))) E<|by exact qH 10 E (by decide +kernel) (za (za (zc (za (za (zc (za zb))))))) E<|by exact qH 11 E (by decide +kernel) (za (za (zc (za (za (zc (za zb))))))) E<|by exact qH 12 E (by decide +kernel) (za (za (zc (za (za (zc (za zb))))))) E<|by exact qH 13 E (by decide +kernel) (za (za (zc (za (za (zc (za zb))))))) E<|by exact a_takeP 14 E (by decide +kernel) (za (za (zc (za (za (zc (za zb))))))) E (fp E E)<|by exact zW (by decide +kernel)<|by exact zB<|cfs E E<|hJx_2 () _ _ _ _ [0,0] H28 E ⟨E,E,E,E,E,E,True.intro⟩ E))) fun c_1 H14=>s_p E (yF (qq E E) c_1)<|nx<|qb<|c_f E E<|qY<|zm<|zm<|zV<|hJx n_1 _ _ _ _ [0] H14 E ⟨E,E,True.intro⟩ E)) (fun Jx_3 hJx_3 H36=>csr<|s_p E (zA E E)<|gx H36 fun t_12 ht_12 H37=>s_v E (zG E) (zR 0 E ht_12)<|by obtain⟨b_6,o_4,rfl,H38⟩:=H37;exact s_p E (qx E)<|s_p E (zA E E)<|gx H38 fun t_13 ht_13 H39=>by refine s_v E (qk E (qL ht_13)) (jw ht_13) ?_;exact mv E E<|nx<|zK<|xC (fun z=>⟨120,[(1,.pointer (some ⟨b,0,none⟩)),(3,.map (some b_1)),(16,valL t_13),(17,.int .i64 z.1)]⟩) (fun z=>[⟨b,200,x⟩,⟨b_1,itT,z.2⟩]) (0,mvL []) (idx:=[0,0]) H39 E ⟨E,E,E,E,True.intro⟩ E<|by rintro Xx_1 hXx_1 ⟨t_14,v_1⟩ Sx_5 H40;exact an H40 fun hv_1 H41=>csr<|iteK H41 (fun c_9 H42=>s_p E (yT (qq E E) c_9)<|nx<|qb<|c_t E E<|yV<|zB<|zy H42 (fun (J:List Value→Mem→Prop) (z:List Value) S=>J z S) (fun z=>⟨120,[(1,.pointer (some ⟨b,0,none⟩)),(3,.map (some b_1)),(16,valL t_13),(17,.int .i64 t_14)]⟩) (fun z=>[⟨b,200,x⟩,⟨b_1,itT,z⟩]) (fun v_2 Sx_6 H43=>an H43 fun hv_2 H44=>zE<|s_p E (qZ E E)<|mv E E<|zr<|hXx_1 (IntKind.i64.wrap (t_14+1),v_2) _ _ _ _ [0,0] H44 E ⟨E,E,E,E,True.intro⟩ E) (fun Jx_4 hJx_4 H45=>zK<|csr<|an2 H45 fun c_10 c_11 H46=>gx H46 fun t_15 ht_15 H47=>s_p E (zkY E E c_10 c_11 ht_15)<|by refine zX E fun b_7=>?_;exact an H47 fun c_12 H48=>zn 2 E E E E E ((qE ht_15).2.2) E c_12<|nx<|zy H48 (fun (J:Mem→Prop) (z:Unit) S=>J S) (fun z=>⟨120,[(1,.pointer (some ⟨b,0,none⟩)),(3,.map (some b_1)),(5,.pointer (some ⟨b_7,0,none⟩)),(16,valL t_13),(17,.int .i64 t_14)]⟩) (fun z=>[⟨b,200,x⟩,⟨b_1,itT,v_1⟩,⟨b_7,51,t_15⟩]) (fun _ Sx_7 H49=>zy H49 (fun (J:Mem→Prop) (z:Unit) S=>J S) (fun z=>⟨120,[(1,.pointer (some ⟨b,0,none⟩)),(3,.map (some b_1)),(5,.pointer (some ⟨b_7,0,none⟩)),(16,valL t_13),(17,.int .i64 t_14)]⟩) (fun z=>[⟨b,200,x⟩,⟨b_1,itT,v_1⟩,⟨b_7,51,t_15⟩]) (fun _ Sx_8 H50=>zy H50 (fun (J:Mem→Prop) (z:Unit) S=>J S) (fun z=>⟨120,[(1,.pointer (some ⟨b,0,none⟩)),(3,.map (some b_1)),(5,.pointer (some ⟨b_7,0,none⟩)),(16,valL t_13),(17,.int .i64 t_14)]⟩) (fun z=>[⟨b,200,x⟩,⟨b_1,itT,v_1⟩,⟨b_7,51,t_15⟩]) (fun _ Sx_9 H51=>qa (by kernel_rfl)<|a_takeP 0 E (by decide +kernel) (zc (za (za (zc (za zb))))) E (zp E)<|by exact a_takeP 1 E (by decide +kernel) (zc (za (za (zc (za zb))))) E (zA E E)<|by exact gx H51 fun t_16 ht_16 H52=>zY 2 E (by decide +kernel) (zc (za (za (zc (za zb))))) E (zG E) (zR 2 E ht_16)<|by exact a_takeP 3 E (by decide +kernel) (zc (za (za (zc (za zb))))) E (zA E E)<|by exact gx H52 fun t_17 ht_17 H53=>zY 4 E (by decide +kernel) (zc (za (za (zc (za zb))))) E (zG E) (zR 2 E ht_17)<|by exact a_takeP 5 E (by decide +kernel) (zc (za (za (zc (za zb))))) E (ql E E)<|by exact by obtain⟨m_2,rfl,H54⟩:=H53;exact by obtain⟨o_5,H55⟩:=H54;exact gx H55 fun t_18 h_1 H56=>zY 6 E (by decide +kernel) (zc (za (za (zc (za zb))))) E (zkW (cs:=[.int .i64 t_16,.int .i64 t_17]) E E E) (zqC 1 E E o_5 (Option.some.inj h_1))<|by exact a_takeP 7 E (by decide +kernel) (zc (za (za (zc (za zb))))) E (qZ E E)<|by exact zw 8 (by decide +kernel) E<|by exact zoA (cs:=[.int .i64 t_16,.int .i64 t_17]) 1 E E E E E o_5 E<|zr<|zH (zj (zqC 1 E E (zoF o_5 E) ((znl (zny (ks:=[.i .i64,.i .i64]) E)).trans (Option.some.inj h_1))) zq)<|a_takeP 9 E (by decide +kernel) (zc (za (za (zc (za zb))))) E (zk E E)<|by exact zw 10 (by decide +kernel) E<|by exact zmS 1 E E E E E E zqq<|zr<|zH zq<|zW (by decide +kernel)<|by exact qr<|hJx_4 (mvL (mset (mput m_2 ([.int .i64 t_16,.int .i64 t_17]) (.int .i64 0)) (mix m_2 ([.int .i64 t_16,.int .i64 t_17])) (.int .i64 (IntKind.i64.wrap (t_18+1))))) _ _ _ _ [0,0] H56 E ⟨E,E,E,E,True.intro⟩ E) (fun Jx_5 hJx_5 H57=>csr<|s_p E (zA E E)<|gx H57 fun t_19 ht_19 H58=>s_v E (zG E) (zR 2 E ht_19)<|iteK H58 (fun c_13 H59=>s_p E (yT (wT E E) c_13)<|nx<|c_t E E<|qb<|qa (by kernel_rfl)<|a_takeP 0 E (by decide +kernel) (za (za (zc (za (za (zc (za zb))))))) E (zA E E)<|by exact gx H59 fun t_20 ht_20 H60=>zY 1 E (by decide +kernel) (za (za (zc (za (za (zc (za zb))))))) E (zG E) (zR 0 E ht_20)<|by exact a_takeP 2 E (by decide +kernel) (za (za (zc (za (za (zc (za zb))))))) E (zA E E)<|by exact gx H60 fun t_21 ht_21 H61=>zY 3 E (by decide +kernel) (za (za (zc (za (za (zc (za zb))))))) E (zG E) (zR 2 E ht_21)<|by exact by obtain⟨b_8,o_6,rfl,H62⟩:=H61;exact a_takeP 4 E (by decide +kernel) (za (za (zc (za (za (zc (za zb))))))) E (qx E)<|by exact a_takeP 5 E (by decide +kernel) (za (za (zc (za (za (zc (za zb))))))) E (zA E E)<|by exact an2 H62 fun c_14 c_15 H63=>a_takeP 6 E (by decide +kernel) (za (za (zc (za (za (zc (za zb))))))) E (wO E E c_14 c_15 E)<|by exact a_takeP 7 E (by decide +kernel) (za (za (zc (za (za (zc (za zb))))))) E (zA E E)<|by exact gx H63 fun t_22 ht_22 H64=>by refine zY 8 E (by decide +kernel) (za (za (zc (za (za (zc (za zb))))))) E (qk E (qL ht_22)) (jw ht_22) ?_;exact a_takeP 9 E (by decide +kernel) (za (za (zc (za (za (zc (za zb))))))) E (zA E E)<|by exact gx H64 fun t_23 ht_23 H65=>zY 10 E (by decide +kernel) (za (za (zc (za (za (zc (za zb))))))) E (zG E) (zR 0 E ht_23)<|by exact a_takeP 11 E (by decide +kernel) (za (za (zc (za (za (zc (za zb))))))) E (zA E E)<|by exact gx H65 fun t_24 ht_24 H66=>zY 12 E (by decide +kernel) (za (za (zc (za (za (zc (za zb))))))) E (zG E) (zR 2 E ht_24)<|by exact ff 13 17 (by decide +kernel) E E (qz E E H66 fun rv Sx_10 H67=>by obtain⟨t_25,t_26,rfl,ht_25,H68⟩:=H67;exact zr<|zH (zj (zR 2 E ht_21) (zj (zR 0 E ht_20) zq))<|a_takeP 14 E (by decide +kernel) (za (za (zc (za (za (zc (za zb))))))) E (zp E)<|by exact a_takeP 15 E (by decide +kernel) (za (za (zc (za (za (zc (za zb))))))) E (zk E E)<|by exact a_takeP 16 E (by decide +kernel) (za (za (zc (za (za (zc (za zb))))))) E (zk E E)<|by exact zw 17 (by decide +kernel) E<|by exact by refine zX E fun b_9=>?_;exact zr<|zH (zj (zR 2 E ht_21) (zj (zR 0 E ht_20) zq))<|zw 18 (by decide +kernel) E<|by exact an H68 fun c_16 H69=>zn 3 E E E E E ht_25 E c_16<|zr<|zH zq<|a_takeP 19 E (by decide +kernel) (za (za (zc (za (za (zc (za zb))))))) E (zT E)<|by exact zW (by decide +kernel)<|by exact zB<|csr<|mv E E<|iteK H69 (fun c_17 H70=>s_p E (yT (qt E E) c_17)<|nx<|c_t E E<|csr<|gv E E<|nx<|zu<|zd<|zo<|zd<|zd<|zo<|zd<|zt results124 (zf E zi) ⟨_,E,H70⟩) fun c_17 H70=>s_p E (yF (qt E E) c_17)<|nx<|cfs E E<|hJx_5 () _ _ _ _ [0,0,0] H70 E ⟨E,E,E,E,E,True.intro⟩ E) (by refine zX E fun b_9=>?_;exact zr<|zH (zj (zR 2 E ht_24) (zj (zR 0 E ht_23) (zj (jw ht_22) (zj (zR 2 E ht_21) (zj (zR 0 E ht_20) zq)))))<|zw 13 (by decide +kernel) E<|by exact qz E E H66 fun rv Sx_10 H71=>by obtain⟨t_25,t_26,rfl,ht_25,H72⟩:=H71;exact zr<|zH (zj (zR 2 E ht_21) (zj (zR 0 E ht_20) zq))<|a_takeP 14 E (by decide +kernel) (za (za (zc (za (za (zc (za zb))))))) E (zp E)<|by exact a_takeP 15 E (by decide +kernel) (za (za (zc (za (za (zc (za zb))))))) E (zk E E)<|by exact a_takeP 16 E (by decide +kernel) (za (za (zc (za (za (zc (za zb))))))) E (zk E E)<|by exact zw 18 (by decide +kernel) E<|by exact an H72 fun c_16 H73=>zn 3 E E E E E ht_25 E c_16<|zr<|zH zq<|a_takeP 19 E (by decide +kernel) (za (za (zc (za (za (zc (za zb))))))) E (zT E)<|by exact zW (by decide +kernel)<|by exact zB<|csr<|mv E E<|iteK H73 (fun c_17 H74=>s_p E (yT (qt E E) c_17)<|nx<|c_t E E<|csr<|gv E E<|nx<|zu<|zd<|zo<|zd<|zd<|zo<|zd<|zt results124 (zf E zi) ⟨_,E,H74⟩) fun c_17 H74=>s_p E (yF (qt E E) c_17)<|nx<|cfs E E<|hJx_5 () _ _ _ _ [0,0,0] H74 E ⟨E,E,E,E,E,True.intro⟩ E)) fun c_13 H59=>s_p E (yF (wT E E) c_13)<|nx<|cfs E E<|hJx_5 () _ _ _ _ [0,0,0] H59 E ⟨E,E,E,E,E,True.intro⟩ E)) (fun Jx_6 hJx_6 H75=>csr<|s_p E (zA E E)<|gx H75 fun t_27 ht_27 H76=>s_v E (zG E) (zR 0 E ht_27)<|s_p E (zA E E)<|gx H76 fun t_28 ht_28 H77=>s_v E (zG E) (zR 2 E ht_28)<|kq E E H77 fun t_29 Sx_11 H78=>by have H79:=zfs H78;rcases H79 with ⟨rfl,H80⟩ | ⟨rfl,H80⟩;exact (s_p E (yB (ym E) E)<|mv E E<|s_p E (zA E E)<|gx H80 fun t_30 ht_30 H81=>s_v E (zG E) (zR 0 E ht_30)<|s_p E (zA E E)<|gx H81 fun t_31 ht_31 H82=>s_v E (zG E) (zR 2 E ht_31)<|kq E E H82 fun t_32 Sx_12 H83=>by have H84:=zfs H83;rcases H84 with ⟨rfl,H85⟩ | ⟨rfl,H85⟩;exact (s_p E (yB (ym E) E)<|pk E E E<|mv E E<|s_p E (zA E E)<|gx H85 fun t_33 ht_33 H86=>s_v E (zG E) (zR 2 E ht_33)<|s_p E (zA E E)<|gx H86 fun t_34 ht_34 H87=>s_v E (zG E) (zR 2 E ht_34)<|iteK H87 (fun c_18 H88=>ceT E E E (c_18)<|pk E E E<|nx<|c_t E E<|csr<|gv E E<|nx<|zu<|zd<|zo<|zd<|zd<|zo<|zd<|zt results124 (zf E zi) ⟨_,E,H88⟩) fun c_18 H88=>ceF E E E (c_18)<|pk E E E<|nx<|cfs E E<|hJx_6 () _ _ _ _ [0,0,0] H88 E ⟨E,E,E,E,E,True.intro⟩ E);exact (s_p E (yB (ym E) E)<|pk E E E<|mv E E<|sk4 E E E E<|zF E<|pk E E E<|nx<|c_t E E<|csr<|gv E E<|nx<|zu<|zd<|zo<|zd<|zd<|zo<|zd<|zt results124 (zf E zi) ⟨_,E,H85⟩));exact (s_p E (yB (ym E) E)<|mv E E<|sk4 E E E E<|sk2 E E<|pk E E E<|mv E E<|sk4 E E E E<|zF E<|pk E E E<|nx<|c_t E E<|csr<|gv E E<|nx<|zu<|zd<|zo<|zd<|zd<|zo<|zd<|zt results124 (zf E zi) ⟨_,E,H80⟩))) (fun Jx_7 hJx_7 H89=>csr<|s_p E (zA E E)<|gx H89 fun t_35 ht_35 H90=>by have H91:=zfs H90;rcases H91 with ⟨rfl,H92⟩ | ⟨rfl,H92⟩;exact (s_v E (zG E) (zR 2 E ht_35)<|s_p E (yB (ym E) E)<|nx<|cfs E E<|hJx_7 () _ _ _ _ [0,0,0] H92 E ⟨E,E,E,E,E,True.intro⟩ E);exact (s_v E (zG E) (zR 2 E ht_35)<|s_p E (yB (ym E) E)<|nx<|c_t E E<|qY<|zm<|zV<|hJx_4 v_1 _ _ _ _ [0,0] H92 E ⟨E,E,E,E,True.intro⟩ E)))) fun c_9 H42=>s_p E (yF (qq E E) c_9)<|nx<|qb<|c_f E E<|qY<|zm<|zm<|zV<|hJx_3 v_1 _ _ _ _ [0,0] H42 E ⟨E,E,True.intro⟩ E)
end
section
open Go Go.Pt Go.Cr Go.Hp
section
variable {S S' S0:Mem} {ρ ρ' ρ0:Rho} {R:Nat→Prop} {h:Nat} {A:Ad} {C:Cst} {W:Wd} {φ:Nat→Nat→Nat}
structure LsOk (C:Cst):Prop where
 ls:∀ i,i<16→(C.ls i).on=true→thereV C.vm (C.ls i).fr∧thereV C.vm (C.ls i).to∧(C.ls i).fr≠(C.ls i).to∧(0≤(C.ls i).at_→∃ x,C.walk (C.ls i).to (C.ls i).at_=some x)
 sh:∀ f,f<C.N→(C.own f).kind=3→∃ n p:Nat,C.own f=⟨3,n,p,lentN C.ls n p⟩
 cnt:∀ K,Keys C.ls 16 K→count (fun f=>decide ((C.own f).kind=3) && decide (0<(C.own f).sh)) C.N=K.length
theorem zeS (hc:CrabA S ρ h A C) (hl:LsOk C) {p:Nat} {gs:Sl} {Q:Int→Mem→Prop} (hQ:∀ S',Keeps S S' []→Q 0 S'):wa S (pxL A p gs) Q:=by
 apply zaD
 unfold xo
 have hN:=hc.st.lim
 have x3:nthL (pxL A p gs) 3=some (eP (some (A.t,0))):=rfl
 have x0:nthL (pxL A p gs) 0=some (eP (some (A.m,0))):=rfl
 refine⟨rfl,?_⟩
 refine zZ (fun J=>∀ K S1,Keeps S S1 []→Keys C.ls 16 K→J (mvL (mapF K (lentK C.ls 16))) S1) ?_ fun J hJ=>?_
 ·intro K S1 hk1 hK
  have hc1:=hc.keeps hk1
  refine⟨rfl,?_⟩
  refine zZ (fun J=>J (K.length:Int) S1) ?_ fun J hJ=>?_
  ·rw[zro,if_neg (by unfold mapF;rw[List.length_map];simp)]
   exact hQ S1 hk1
  obtain⟨rs,ho,hn,hrow⟩:=hc1.ownL
  simp only[jn]
  rw[zS x3,zL,zS hc1.t74,zL,wj ho]
  refine zC (fun (z:Int×Int) S'=>∃ i:Nat,z=(((count (fun f=>decide ((C.own f).kind=3) && decide (0<(C.own f).sh)) i:Nat):Int),(i:Int))∧i≤C.N∧S'=S1) (fun z=>C.N-z.2.toNat) ?_ ⟨0,rfl,by omega,rfl⟩
  rintro X z S' ⟨i,rfl,hi,rfl⟩ ih
  try dsimp only at ih ⊢
  by_cases hlt:i<C.N
  ·rw[if_pos (by omega)]
   obtain⟨c,n,e,en,hpart⟩:=hrow i hlt
   rw[zmF e]
   refine⟨by omega,by omega,?_⟩
   rw[xa hpart]
   refine⟨rfl,?_⟩
   have o0:nthL (owL (C.own i)) 0=some (.int .u8 (C.own i).kind):=rfl
   have o3:nthL (owL (C.own i)) 3=some (.int .i64 (C.own i).sh):=rfl
   have hcl:=kD (fun f=>decide ((C.own f).kind=3) && decide (0<(C.own f).sh)) i
   have go:∀ b:Bool,b=(decide ((C.own i).kind=3) && decide (0<(C.own i).sh))→X (((count (fun f=>decide ((C.own f).kind=3) && decide (0<(C.own f).sh)) i+b.toNat:Nat):Int),IntKind.i64.wrap ((i:Int)+1)) S':=fun b hb=>by
    rw[w64 (by omega) (by omega)]
    refine ih _ S' ⟨i+1,?_,by omega,rfl⟩ (by dsimp only;omega)
    rw[qG,hb];rfl
   rw[zx o0]
   by_cases h3:(C.own i).kind=3
   ·obtain⟨a,b,eo⟩:=hl.sh i hlt h3
    rw[if_pos h3,zx o3,zx (show nthL (owL (C.own i)) 1=some (.int .i64 (a:Nat)) by rw[eo];rfl),zx (show nthL (owL (C.own i)) 2=some (.int .i64 (b:Nat)) by rw[eo];rfl),zro]
    refine⟨zlQ,?_⟩
    have hg:some (mget (mapF K (lentK C.ls 16)) [.int .i64 (a:Nat),.int .i64 (b:Nat)] (.int .i64 0))=some (.int .i64 (C.own i).sh):=by
     have:=hK.get (a,b)
     unfold kk at this
     dsimp only at this
     rw[this,eo];rfl
    rw[zx hg,if_neg (fun h=>h rfl),zx o0,if_pos h3,zx o3]
    by_cases hs:0<(C.own i).sh
    ·rw[if_pos hs]
     have:=go true (by simp[h3,hs])
     rw[w64 (by omega) (by omega)]
     exact this
    ·rw[if_neg hs]
     exact go false (by simp[h3,hs])
   ·rw[if_neg h3,zx o0,if_neg h3]
    exact go false (by simp[h3])
  ·rw[if_neg (by omega)]
   have:i=C.N:=by omega
   subst this
   rw[hl.cnt K hK];exact hJ
 ·rw[zS x3,zL,xa hc.tls]
  refine zC (fun (z:Int×List Value) S'=>∃ (i:Nat) (K:List (Nat×Nat)),z=((i:Int),mvL (mapF K (lentK C.ls i)))∧i≤16∧Keeps S S' []∧Keys C.ls i K) (fun z=>16-z.1.toNat) ?_ ⟨0,[],rfl,by omega,Keeps.refl,Keys.zero⟩
  rintro X z S1 ⟨i,K,rfl,hi,hk1,hK⟩ ih
  try dsimp only at ih ⊢
  have hc1:=hc.keeps hk1
  refine⟨rfl,?_⟩
  by_cases hlt:i<16
  ·rw[if_pos (by omega)]
   refine zZ (fun J=>∀ K S2,Keeps S S2 []→Keys C.ls (i+1) K→J (mvL (mapF K (lentK C.ls (i+1)))) S2) (fun K S2 hk2 hK2=>?_) fun J4 hJ4=>?_
   ·rw[w64 (by omega) (by omega)]
    exact⟨rfl,ih _ S2 ⟨i+1,K,rfl,by omega,hk2,hK2⟩ (by dsimp only;omega)⟩
   refine⟨by omega,by omega,?_⟩
   have hp:lpart (cF 16 fun i=>lsL (C.ls i)) (i*6) 6=some (lsL (C.ls i)):=zas hlt rfl
   rw[Int.toNat_natCast]
   rw[xa hp]
   refine⟨rfl,?_⟩
   have n1:nthL (lsL (C.ls i)) 1=some (.int .i64 (C.ls i).fr):=rfl
   have n2:nthL (lsL (C.ls i)) 2=some (.int .i64 (C.ls i).pg):=rfl
   have n3:nthL (lsL (C.ls i)) 3=some (.int .i64 (C.ls i).to):=rfl
   have n5:nthL (lsL (C.ls i)) 5=some (.int .i64 (C.ls i).at_):=rfl
   simp only[jn]
   rw[fo (show nthL (lsL (C.ls i)) 0=some (.bool (C.ls i).on) from rfl)]
   cases hon:(C.ls i).on with
   | false=>
    rw[if_neg (by decide)]
    have:=hJ4 K S1 hk1 (hK.off hon)
    rw[zhF hon] at this
    exact this
   | true=>
    have hle:=hl.ls i hlt hon
    have hK1:=hK.on hon
    have hinc:=hK.inc hon
    have hcK:=kD (fun j=>(C.ls j).on && (decide ((C.ls j).fr=(C.ls i).fr) && decide ((C.ls j).pg=(C.ls i).pg))) i
    have fin:∀ S2,Keeps S S2 []→(gI (nthL (lsL (C.ls i)) 1) .i64 fun t_16=>gI (nthL (lsL (C.ls i)) 2) .i64 fun t_17=>gM (mvL (mapF K (lentK C.ls i))) fun m_2=>okM [.i .i64,.i .i64] m_2∧gI (some (mget m_2 ([.int .i64 t_16,.int .i64 t_17]) (.int .i64 0))) .i64 fun t_18=>
      J4 (mvL (mset (mput m_2 ([.int .i64 t_16,.int .i64 t_17]) (.int .i64 0)) (mix m_2 ([.int .i64 t_16,.int .i64 t_17])) (.int .i64 (IntKind.i64.wrap (t_18+1))))) S2):=fun S2 hk2=>by
     rw[zx n1,zx n2,zro]
     refine⟨zlQ,?_⟩
     have hg:=hK.get ((C.ls i).fr,(C.ls i).pg)
     unfold kk at hg hinc
     dsimp only at hg hinc
     rw[zx (show some (mget _ _ _)=some (Value.int .i64 (lentK C.ls i ((C.ls i).fr,(C.ls i).pg):Nat)) by rw[hg])]
     have hb:lentK C.ls i ((C.ls i).fr,(C.ls i).pg)≤i:=hcK
     rw[w64 (by omega) (by omega)]
     have e1:((lentK C.ls i ((C.ls i).fr,(C.ls i).pg):Nat):Int)+1=((lentK C.ls i ((C.ls i).fr,(C.ls i).pg)+1:Nat):Int):=by omega
     rw[e1,hinc]
     exact hJ4 _ S2 hk2 hK1
    rw[if_pos rfl,zS x3,zx n1]
    refine qJ hc1 ?_
    rw[decide_eq_true hle.1,if_pos rfl,zS x3,zx n3]
    refine qJ hc1 ?_
    rw[decide_eq_true hle.2.1,if_pos rfl,zx n1,zx n3,if_neg (by have:=hle.2.2.1;omega),zx n5]
    by_cases h0:0≤(C.ls i).at_
    ·have h6:(C.ls i).to<6:=by have:=hle.2.1.2.1;omega
     rw[if_pos h0,zS x3,zx n3,zL]
     refine⟨by omega,by omega,?_⟩
     rw[Int.toNat_natCast,xa (hc1.vtab (n:=(C.ls i).to) h6 (by omega)),zS x0,zx n5]
     obtain⟨x,hx⟩:=hle.2.2.2 h0
     refine walkD hc1.st (hc1.vs _ h6).fr.row (fun g w S2 hw hk2=>?_) fun e S2 hw he hk2=>?_
     ·refine⟨rfl,?_⟩
      rw[if_neg (by decide)]
      exact fin S2 (hk1.trans hk2)
     ·have hww:C.walk (C.ls i).to (C.ls i).at_=none:=hw
      rw[hww] at hx;cases hx
    ·rw[if_neg h0]
     exact fin S1 hk1
  ·rw[if_neg (by omega)]
   have:i=16:=by omega
   subst this
   exact hJ K S1 hk1 hK
end
end
section
open Go Go.Pt Go.Cr Go.Hp
section
variable {S S' S0:Mem} {ρ ρ' ρ0:Rho} {R:Nat→Prop} {h:Nat} {A:Ad} {C:Cst} {W:Wd} {φ:Nat→Nat→Nat}
theorem zoD (hr:Rel C W φ):OneAt C.ls:=by rw[hr.ls];exact hr.wk.lsu
theorem zlx (hr:Rel C W φ):∀ f,f<C.N→(C.own f).kind=3→thereV C.vm (C.own f).vm:=fun f hf hk=>by
 obtain⟨m,p,l,_,_,ho,h6,_,hon⟩:=hr.guest hf hk
 rw[ho,hr.vm]
 exact⟨by simp,by simp;omega,by simpa using hon⟩
theorem znP (hr:Rel C W φ) {n:Nat} (e:(W.vm n).on=true):n<6:=by
 by_cases h6:n<6
 ·exact h6
 ·rw[hr.wk.six n (by omega)] at e;cases e
theorem zlA (hr:Rel C W φ) {f:Nat} (hf:f<C.N):Good1 C f:=fun hk=>by
 obtain⟨m,p,l,hl,hp,ho,h6,h32,hon⟩:=hr.guest hf hk
 rw[ho]
 refine⟨?_,fun j hj=>?_⟩
 ·show C.walk m (p:Int)=_
  rw[hr.walk hon h32,where_own hl,←hp];rfl
 ·rintro⟨h1,h2,h3,_⟩
  rw[hr.ls] at h1 h2 h3
  have h4:(W.ls j).to=m:=by simp only at h2;omega
  have:=hr.wk.lsa j h1 p h3
  rw[h4,hl] at this;cases this
theorem zlz (hr:Rel C W φ) {i q:Nat} (hon:(C.vm i).on=true) (hq:q<32):Good2 C i q:=fun g w hw=>by
 rw[hr.vm] at hon
 rw[hr.walk hon hq] at hw
 unfold Wd.where_ at hw
 cases ho:W.own i q with
 | some l=>
  rw[ho,if_pos (show (some l).isSome=true from rfl)] at hw
  simp only[Option.map_some,Option.some.injEq,Prod.mk.injEq] at hw
  have h1:=hr.pg i q l ho
  rw[hw.1] at h1
  exact⟨h1.1,.inl ⟨_,h1.2.1⟩⟩
 | none=>
  rw[ho,if_neg (by simp)] at hw
  cases hj:leaseAt W.ls i q with
  | none=>rw[hj] at hw;cases hw
  | some j=>
   rw[hj] at hw
   simp only[Option.map_some,Option.some.injEq,Prod.mk.injEq] at hw
   have h2:=qR hj
   obtain⟨l,hl⟩:=Option.isSome_iff_exists.1 (hr.wk.lsr j h2.2.1).2.2.2.2.1
   have h1:=hr.pg _ _ l hl
   rw[hw.1] at h1
   refine⟨h1.1,.inr ⟨j,h2.1,?_⟩⟩
   rw[hr.ls,h1.2.1]
   exact⟨h2.2.1,h2.2.2.1,h2.2.2.2,rfl,rfl,rfl,hw.2⟩
theorem zjx (hr:Rel C W φ):LsOk C:=by
 refine⟨fun i hi hon=>?_,fun f hf hk=>?_,fun K hK=>hr.keys (by rw[←hr.ls];exact hK)⟩
 ·rw[hr.ls] at hon ⊢
  have h1:=hr.wk.lsr i hon
  have h2:=znP hr h1.2.1
  have h3:=znP hr h1.2.2.1
  refine⟨⟨by omega,by omega,by rw[Int.toNat_natCast,hr.vm];exact h1.2.1⟩,⟨by omega,by omega,by rw[Int.toNat_natCast,hr.vm];exact h1.2.2.1⟩,h1.2.2.2.1,fun h0=>?_⟩
  have ep:(W.ls i).at_=((W.ls i).at_.toNat:Nat):=by omega
  have hw:=hr.walk h1.2.2.1 (p:=(W.ls i).at_.toNat) (by omega)
  rw[←ep] at hw
  have hl:=zat hr.wk hon rfl h0
  rw[ep] at hl
  rw[hw]
  unfold Wd.where_
  split
  ·exact⟨_,rfl⟩
  ·rw[hl];exact⟨_,rfl⟩
 ·obtain⟨m,p,l,_,_,ho,_⟩:=hr.guest hf hk
  exact⟨m,p,by rw[ho,hr.ls]⟩
end
end
section
open Go Go.Pt Go.Cr Go.Hp
section
variable {S S' S0:Mem} {ρ ρ' ρ0:Rho} {R:Nat→Prop} {h:Nat} {A:Ad} {C:Cst} {W:Wd} {φ:Nat→Nat→Nat}
theorem ziZ {P:Program} {f:Nat} {x:Value} {args:List Value} {K K':Value→Mem→Prop} [hc:CallT P f] (h:Tr P f S (x :: args) K) (hk:∀ v S',K v S'→K' v S'):cv P S (.func (.func f) #[x] #[]) args K':=
 ⟨f,[x],[],rfl,hc,Tr.mono (by simpa using h) hk⟩
def look (i:Nat) (S:Mem) (x:List Value) (K:Int→Mem→Prop):Prop:=match i with
 | 0=>wb S x K
 | 1=>kP S x K
 | 2=>xY S x K
 | 3=>xb S x K
 | 4=>xZ S x K
 | 5=>wa S x K
 | _=>kO S x K
theorem zoP {i:Nat} (hi:i<7) {x:List Value} {K:Int→Mem→Prop} (hl:look i S x K):cv Tryz.prog S (.func (.func (119+i)) #[valL x] #[]) [] fun rv S'=>∃ t:Int,rv=.int .i64 t∧K t S':=by
 match i,hi with
 | 0,_=>exact ziZ (f:=119) hl fun _ _ h=>h
 | 1,_=>exact ziZ (f:=120) hl fun _ _ h=>h
 | 2,_=>exact ziZ (f:=121) hl fun _ _ h=>h
 | 3,_=>exact ziZ (f:=122) hl fun _ _ h=>h
 | 4,_=>exact ziZ (f:=123) hl fun _ _ h=>h
 | 5,_=>exact ziZ (f:=124) hl fun _ _ h=>h
 | 6,_=>exact ziZ (f:=125) hl fun _ _ h=>h
theorem zhW (hc:CrabA S ρ h A C) {p:Nat} {gs:Sl} {n:Nat} {e:Int} (hn:n≤7)
  (hp:∀ i,i<n→∀ S1,Keeps S S1 []→∀ K:Int→Mem→Prop,(∀ S2,Keeps S1 S2 []→K 0 S2)→look i S1 (pxL A p gs) K)
  (hf:n<7→∀ S1,Keeps S S1 []→∀ K:Int→Mem→Prop,(∀ S2,Keeps S1 S2 []→K e S2)→look n S1 (pxL A p gs) K) (he:n<7→e≠0)
  {Q:Int→Mem→Prop} (hQ:∀ S',Keeps S S' []→Q (if n=7 then 0 else e) S'):wY S (some (A.m,0)) (some (p,0)) gs (some (A.t,0)) Q:=by
 apply zbR
 unfold kE
 obtain⟨rs,ho,hrn,_⟩:=hc.ownL
 refine zZ (fun J=>J S) ?_ fun J hJ=>?_
 ·simp only[jn]
  intro b hb
  have hk0:Keeps S (S.set b (bw 201 ([.func (.func 119) #[valL (pxL A p gs)] #[],.func (.func 120) #[valL (pxL A p gs)] #[],.func (.func 121) #[valL (pxL A p gs)] #[],.func (.func 122) #[valL (pxL A p gs)] #[],.func (.func 123) #[valL (pxL A p gs)] #[],.func (.func 124) #[valL (pxL A p gs)] #[],.func (.func 125) #[valL (pxL A p gs)] #[]]))) []:=Keeps.refl.new hb
  refine zC (fun (z:Int) S'=>∃ i:Nat,z=(i:Int)∧i≤n∧Keeps (S.set b (bw 201 ([.func (.func 119) #[valL (pxL A p gs)] #[],.func (.func 120) #[valL (pxL A p gs)] #[],.func (.func 121) #[valL (pxL A p gs)] #[],.func (.func 122) #[valL (pxL A p gs)] #[],.func (.func 123) #[valL (pxL A p gs)] #[],.func (.func 124) #[valL (pxL A p gs)] #[],.func (.func 125) #[valL (pxL A p gs)] #[]]))) S' []) (fun z=>7-z.toNat) ?_ ⟨0,rfl,by omega,Keeps.refl⟩
  rintro X z S1 ⟨i,rfl,hi,hk⟩ ih
  try dsimp only at ih ⊢
  have hk1:=hk0.trans hk
  by_cases hlt:i<7
  ·rw[if_pos (by omega)]
   refine⟨by omega,by omega,?_⟩
   have hcell:S1.cell b (0+(i:Int).toNat*1)=some (.func (.func (119+i)) #[valL (pxL A p gs)] #[]):=by
    have:=hk b (by rw[zz];simp) (by simp)
    unfold Mem.cell
    rw[this,zz,Int.toNat_natCast]
    match i,hlt with
    | 0,_=>rfl
    | 1,_=>rfl
    | 2,_=>rfl
    | 3,_=>rfl
    | 4,_=>rfl
    | 5,_=>rfl
    | 6,_=>rfl
   rw[zqS hcell]
   refine zoP hlt ?_
   by_cases hin:i<n
   ·refine hp i hin S1 hk1 _ fun S2 hk2=>?_
    rw[if_neg (by decide),w64 (by omega) (by omega)]
    exact ih _ S2 ⟨i+1,rfl,by omega,hk.trans hk2⟩ (by omega)
   ·have e1:i=n:=by omega
    subst e1
    refine hf hlt S1 hk1 _ fun S2 hk2=>?_
    rw[if_pos (he hlt)]
    have:=hQ S2 (hk1.trans hk2)
    rw[if_neg (by omega)] at this
    exact this
  ·rw[if_neg (by omega)]
   have:=hQ S1 hk1
   rw[if_pos (by omega)] at this
   exact this
 ·rw[if_neg (by simp),if_neg (by simp),if_neg (by simp),zL,zS hc.t74,if_neg (by simp),zS hc.t74,zL,wj ho]
  refine framesD hc.st ?_
  refine⟨ho,hc.t74,hc.t74,?_⟩
  rw[hrn,if_neg (by simp)]
  exact hJ
structure Nl (C:Cst) (W:Wd) (φ:Nat→Nat→Nat):Prop where
 rel:Rel C W φ
 ls:∀ i,(W.ls i).on=false
theorem Nl.cls (n:Nl C W φ):∀ i,(C.ls i).on=false:=fun i=>by rw[n.rel.ls];exact n.ls i
theorem Nl.frames (n:Nl C W φ):∀ f,f<C.N→C.used f=decide ((C.own f).kind≠0)∧((C.own f).kind=0→C.own f=ow0):=fun f hf=>⟨n.rel.used f hf,n.rel.own0 f hf⟩
theorem Nl.there (n:Nl C W φ):∀ f,f<C.N→(C.own f).kind=3→thereV C.vm (C.own f).vm:=fun f hf hk=>by
 obtain⟨m,p,l,_,_,ho,h6,_,hon⟩:=n.rel.guest hf hk
 rw[ho,n.rel.vm]
 exact⟨by simp,by simp;omega,by simpa using hon⟩
theorem Nl.where0 (n:Nl C W φ) (m p:Nat):W.where_ m p=if (W.own m p).isSome then some (m,p,true) else none:=by
 unfold Wd.where_
 have:leaseAt W.ls m p=none:=by
  unfold leaseAt
  rw[List.find?_eq_none]
  intro i _
  rw[n.ls i];simp
 rw[this];rfl
theorem Nl.good (n:Nl C W φ):∀ f,f<C.N→(C.own f).kind=3→C.walk (C.own f).vm.toNat (C.own f).page=some (f,true):=fun f hf hk=>by
 obtain⟨m,p,l,hl,hp,ho,h6,h32,hon⟩:=n.rel.guest hf hk
 rw[ho]
 show C.walk m (p:Int)=_
 rw[n.rel.walk hon h32,n.where0,hl,if_pos (show (some l).isSome=true from rfl),←hp];rfl
theorem Nl.found (n:Nl C W φ):∀ i,i<6→(C.vm i).on=true→∀ q,q<32→∀ g w,C.walk i (q:Nat)=some (g,w)→g<C.N∧∃ s,C.own g=⟨3,i,(q:Nat),s⟩:=fun i _ hon q hq g w hw=>by
 rw[n.rel.vm] at hon
 rw[n.rel.walk hon hq,n.where0] at hw
 cases ho:W.own i q with
 | none=>rw[ho] at hw;cases hw
 | some l=>
  rw[ho,if_pos (show (some l).isSome=true from rfl)] at hw
  simp only[Option.map_some,Option.some.injEq,Prod.mk.injEq] at hw
  have h1:=n.rel.pg i q l ho
  rw[hw.1] at h1
  exact⟨h1.1,_,h1.2.1⟩
theorem Nl.rlen (n:Nl C W φ) (hN:C.N≤512):C.region.length≤512:=by
 have:=n.rel.cHyp (n:=0)
 have:=kD (fun f=>decide ((C.own f).kind=1) && (decide ((1:Int)<2) || decide ((C.own f).vm=0))) C.N
 omega
theorem znD (hc:CrabA S ρ h A C) (n:Nl C W φ) {Q:Int→Mem→Prop} (hQ:∀ S',Keeps S S' []→Q 0 S'):wY S (some (A.m,0)) (some (A.p,0)) A.gs (some (A.t,0)) Q:=by
 refine zhW hc (n:=7) (e:=0) (Nat.le_refl _) (fun i hi S1 hk K hK=>?_) (fun h=>absurd h (by decide)) (fun h=>absurd h (by decide)) fun S' hk=>hQ S' hk
 have hc1:=hc.keeps hk
 have hN:=hc.st.lim
 match i,hi with
 | 0,_=>exact zdz hc1 hc1.pl (fun _=>hK _ Keeps.refl) fun h=>absurd n.frames h
 | 1,_=>exact zhv hc1 hc1.gs (fun f hf=>(n.rel.hyp.2 f).1 hf) (n.rlen hN) (by rw[if_pos n.rel.cHyp];exact hK _ Keeps.refl)
 | 2,_=>exact zdx hc1 n.rel.tb (hK _ Keeps.refl)
 | 3,_=>exact ziC hc1 n.there n.cls (fun⟨f,h1,h2,h3⟩=>absurd (n.good f h1 h2) h3) (fun _=>n.found) fun _ S2 hk2=>hK S2 hk2
 | 4,_=>exact zdy hc1 (.of n.rel) (hK _ Keeps.refl)
 | 5,_=>exact zeS hc1 (zjx n.rel) fun S2 hk2=>hK S2 hk2
 | 6,_=>exact zht hc1 (.of n.rel) (hK _ Keeps.refl)
theorem zms (hc:CrabA S ρ h A C) (hr:Rel C W φ) {Q:Int→Mem→Prop} (hQ:∀ S',Keeps S S' []→Q 0 S'):wY S (some (A.m,0)) (some (A.p,0)) A.gs (some (A.t,0)) Q:=by
 refine zhW hc (n:=7) (e:=0) (Nat.le_refl _) (fun i hi S1 hk K hK=>?_) (fun h=>absurd h (by decide)) (fun h=>absurd h (by decide)) fun S' hk=>hQ S' hk
 have hc1:=hc.keeps hk
 have hN:=hc.st.lim
 match i,hi with
 | 0,_=>exact zdz hc1 hc1.pl (fun _=>hK _ Keeps.refl) fun h=>absurd (fun f hf=>⟨hr.used f hf,hr.own0 f hf⟩) h
 | 1,_=>
  have hl5:C.region.length≤512:=by
   have:=hr.cHyp (n:=0)
   have:=kD (fun f=>decide ((C.own f).kind=1) && (decide ((1:Int)<2) || decide ((C.own f).vm=0))) C.N
   omega
  exact zhv hc1 hc1.gs (fun f hf=>(hr.hyp.2 f).1 hf) hl5 (by rw[if_pos hr.cHyp];exact hK _ Keeps.refl)
 | 2,_=>exact zdx hc1 hr.tb (hK _ Keeps.refl)
 | 3,_=>exact zkm hc1 (zlx hr) (zoD hr) (fun h=>absurd ⟨fun f hf=>zlA hr hf,fun i _ hon q hq=>zlz hr hon hq⟩ h) fun _ _ S2 hk2=>hK S2 hk2
 | 4,_=>exact zdy hc1 (.of hr) (hK _ Keeps.refl)
 | 5,_=>exact zeS hc1 (zjx hr) fun S2 hk2=>hK S2 hk2
 | 6,_=>exact zht hc1 (.of hr) (hK _ Keeps.refl)
end
end
section
open Go Go.Pt Go.Proofs.Tryz
attribute [local irreducible] lt WD WN Code.wp Back bodyPost wpList FR WL WC WQ WA AW Tr Yc HC AllC
set_option maxRecDepth 20000
set_option maxHeartbeats 4000000
def yu (S:Mem) (seed:Sl) (Q:Sl→Mem→Prop):Prop:=
 zg S (⟨none,0,0⟩) 1 4 0 0 8 fun t Sx=>
 zg Sx t 14 0 0 0 2 fun t_1 Sx_1=>
 zg Sx_1 t_1 22 0 0 0 0 fun t_2 Sx_2=>
 jn (fun (p:Sl) (Sx_3:Mem)=>
 zg Sx_3 p 14 10 10 0 (IntKind.i16.wrap ((IntKind.i16.wrap (0-(IntKind.i16.wrap (IntKind.i64.wrap (Int.tdiv (p.n:Int) 4)))))+3)) fun t_3 Sx_4=>
 Q t_3 Sx_4) fun Jx=>
 lp (fun Xx (z:Sl×Int) (Sx_5:Mem)=>
 match z with
 | (p_1,i)=>
 jn (fun (Sx_6:Mem)=>
 jn (fun (p_2:Sl) (Sx_7:Mem)=>
 Xx (p_2,IntKind.i64.wrap (i+3)) Sx_7) fun Jx_1=>
 sl seed fun b o n n_1=>
 0≤i∧i<((n:Nat):Int) ∧
 gI (Sx_6.cell b (o+i.toNat*1)) .u8 fun t_4=>
 0≤IntKind.i64.wrap (i+1)∧IntKind.i64.wrap (i+1)<((n:Nat):Int) ∧
 gI (Sx_6.cell b (o+(IntKind.i64.wrap (i+1)).toNat*1)) .u8 fun t_5=>
 0≤IntKind.i64.wrap (i+2)∧IntKind.i64.wrap (i+2)<((n:Nat):Int) ∧
 gI (Sx_6.cell b (o+(IntKind.i64.wrap (i+2)).toNat*1)) .u8 fun t_6=>
 if Int.tmod t_4 16=0 then
 zg Sx_6 p_1 1 (Int.tmod t_5 8) 0 0 (IntKind.i16.wrap t_6) fun t_7 Sx_8=>
 Jx_1 t_7 Sx_8
 else
 if Int.tmod t_4 16=1 then
 zg Sx_6 p_1 11 (Int.tmod t_5 8) (Int.tmod t_6 8) 0 (IntKind.i16.wrap t_4) fun t_8 Sx_9=>
 Jx_1 t_8 Sx_9
 else
 if Int.tmod t_4 16=2 then
 zg Sx_6 p_1 (IntKind.u8.wrap (3+(Int.tmod t_6 8))) (Int.tmod t_5 8) (Int.tmod (IntKind.u8.wrap (Int.tdiv t_6 8)) 8) (Int.tmod (IntKind.u8.wrap (Int.tdiv t_5 8)) 8) 0 fun t_9 Sx_10=>
 Jx_1 t_9 Sx_10
 else
 if Int.tmod t_4 16=3 then
 zg Sx_6 p_1 12 (Int.tmod t_5 8) 9 0 (IntKind.i16.wrap (8*(IntKind.i16.wrap t_6))) fun t_10 Sx_11=>
 Jx_1 t_10 Sx_11
 else
 if Int.tmod t_4 16=4 then
 zg Sx_6 p_1 13 (Int.tmod t_5 8) 9 0 (IntKind.i16.wrap (8*(IntKind.i16.wrap t_6))) fun t_11 Sx_12=>
 Jx_1 t_11 Sx_12
 else
 jn (fun (t_12:Bool) (Sx_13:Mem)=>
 if t_12=true then
 zg Sx_13 p_1 1 1 0 0 (IntKind.i16.wrap (Int.tmod t_5 40)) fun t_13 Sx_14=>
 zg Sx_14 t_13 1 2 0 0 (IntKind.i16.wrap (Int.tmod t_6 40)) fun t_14 Sx_15=>
 zg Sx_15 t_14 1 3 0 0 (IntKind.i16.wrap (Int.tmod (IntKind.u8.wrap (Int.tdiv t_4 16)) 2)) fun t_15 Sx_16=>
 zg Sx_16 t_15 20 0 0 0 (Int.tmod (IntKind.i16.wrap (IntKind.u8.wrap ((IntKind.u8.wrap (Int.tdiv t_5 16))+(Int.tmod t_6 4)))) 16) fun t_16 Sx_17=>
 Jx_1 t_16 Sx_17
 else
 if Int.tmod t_4 16=10 then
 zg Sx_13 p_1 1 1 0 0 (IntKind.i16.wrap (Int.tmod t_6 6)) fun t_17 Sx_18=>
 zg Sx_18 t_17 1 2 0 0 (IntKind.i16.wrap (Int.tmod t_5 6)) fun t_18 Sx_19=>
 zg Sx_19 t_18 1 3 0 0 (IntKind.i16.wrap (Int.tmod t_6 2)) fun t_19 Sx_20=>
 zg Sx_20 t_19 20 0 0 0 (IntKind.i16.wrap (2+(Int.tmod (IntKind.i16.wrap (IntKind.u8.wrap (Int.tdiv t_4 16))) 6))) fun t_20 Sx_21=>
 Jx_1 t_20 Sx_21
 else
 if Int.tmod t_4 16=11 then
 zg Sx_13 p_1 18 (Int.tmod t_5 8) 0 0 (IntKind.i16.wrap (Int.tmod t_6 9)) fun t_21 Sx_22=>
 Jx_1 t_21 Sx_22
 else
 if Int.tmod t_4 16=12 then
 zg Sx_13 p_1 19 4 0 0 1 fun t_22 Sx_23=>
 zg Sx_23 t_22 1 5 0 0 (IntKind.i16.wrap t_5) fun t_23 Sx_24=>
 zg Sx_24 t_23 19 5 0 0 5 fun t_24 Sx_25=>
 zg Sx_25 t_24 19 5 0 0 6 fun t_25 Sx_26=>
 Jx_1 t_25 Sx_26
 else
 if Int.tmod t_4 16=13 then
 zg Sx_13 p_1 21 0 0 0 0 fun t_26 Sx_27=>
 Jx_1 t_26 Sx_27
 else
 if Int.tmod t_4 16=14 then
 zg Sx_13 p_1 (IntKind.u8.wrap (14+(Int.tmod t_6 3))) (Int.tmod t_5 8) (Int.tmod (IntKind.u8.wrap (Int.tdiv t_6 8)) 8) 0 (IntKind.i16.wrap (IntKind.u8.wrap (1+(Int.tmod t_5 3)))) fun t_27 Sx_28=>
 Jx_1 t_27 Sx_28
 else
 if Int.tmod t_6 8=0 then
 ap Sx_13 5 1 1 [.int .u8 0] p_1 4 ([.int .u8 t_5,.int .u8 t_6,.int .u8 t_5,.int .u8 255]) fun t_28 Sx_29=>
 Jx_1 t_28 Sx_29
 else
 zg Sx_13 p_1 12 (Int.tmod t_5 8) (Int.tmod t_6 8) 0 (IntKind.i16.wrap t_5) fun t_29 Sx_30=>
 Jx_1 t_29 Sx_30) fun Jx_2=>
 if Int.tmod t_4 16=5 then
 Jx_2 true Sx_6
 else
 if Int.tmod t_4 16=6 then
 Jx_2 true Sx_6
 else
 if Int.tmod t_4 16=7 then
 Jx_2 true Sx_6
 else
 if Int.tmod t_4 16=8 then
 Jx_2 true Sx_6
 else
 if Int.tmod t_4 16=9 then
 Jx_2 true Sx_6
 else
 Jx_2 false Sx_6) fun Jx_3=>
 if IntKind.i64.wrap (i+2)<(seed.n:Int) then
 if (p_1.n:Int)<350 then
 Jx_3 Sx_5
 else
 Jx p_1 Sx_5
 else
 Jx p_1 Sx_5) (t_2,0) Sx_2
theorem gw {S:Mem} {seed:Sl} {Q:Sl→Mem→Prop} (H:yu S seed Q):qS S seed Q:=by
 unfold yu at H
 have:=dj0 (α:=Sl×Unit) 51 [] (fun z=>[(3,eL z.1)])
 have:=dj0 (α:=Sl×Int) 7 [0] (fun z=>[(3,eL z.1),(4,.int .i64 z.2)])
 have:=dj0 (α:=Sl×Unit) 8 [0,4] (fun z=>[(3,eL z.1)])
 have:=dj0 (α:=Bool×Unit) 31 [0,3,4,5,6,7,41] (fun z=>[(110,.bool z.1)])
 have:=dj1 9 [0,3,4]
 exact Tr.intro func49 E ntmps49 E fun w0=>go results49 H
end
section
open Go Go.Pt Go.Cr Go.Hp
section
variable {S S' S0 S1:Mem} {ρ ρ' ρ0:Rho} {R:Nat→Prop} {h:Nat} {A:Ad} {C:Cst} {W:Wd} {φ:Nat→Nat→Nat}
structure Bys (S S1:Mem) (p:Sl) (xs:List Int):Prop where
 kp:Keeps S S1 []
 row:Row S1 1 p (bL xs)
 byt:Byt xs
 new:∀ b o,p.p=some (b,o)→S b=none
theorem u8_wrap (x:Int):0≤IntKind.u8.wrap x∧IntKind.u8.wrap x≤255:=by
 have:IntKind.u8.wrap x=x%256:=by simp[IntKind.wrap,IntKind.bits,IntKind.signed]
 rw[this];omega
theorem zmX {p:Sl} {xs:List Int} (hb:Bys S S1 p xs) (hl:xs.length≤1000) {code a b c n:Int} (h0:0≤code) (h1:code<23) {Q:Sl→Mem→Prop} (hQ:∀ p' xs' S2,Bys S S2 p' xs'→xs'.length=xs.length+4→Q p' S2):zg S1 p code a b c n Q:=by
 apply fF
 unfold yX
 have key:∀ t S2,Keeps S1 S2 []→ap S2 5 1 1 [.int .u8 0] p 4 ([.int .u8 (IntKind.u8.wrap t),.int .u8 (IntKind.u8.wrap (ishr .u32 t 8)),.int .u8 (IntKind.u8.wrap (ishr .u32 t 16)),.int .u8 (IntKind.u8.wrap (ishr .u32 t 24))]) fun t_1 Sx_1=>Q t_1 Sx_1:=by
  intro t S2 hk
  have hn:p.n=xs.length:=by have:=hb.row.len;simp[bL] at this;omega
  have hk2:=hb.kp.trans hk
  refine wS (rowK hb.row hk) rfl (by decide) rfl (by omega) fun p' S3 c' kb e1 e2 e3 e4 e5=>?_
  have hc:S c'=none:=by
   rcases e3 with e3 | e3
   ·exact hb.new c' 0 e3
   ·cases hs:S c' with
    | none=>rfl
    | some x=>rw[hk2 c' (by rw[hs];simp) (by simp),hs] at e3;cases e3
  refine hQ p' (xs++[IntKind.u8.wrap t,IntKind.u8.wrap (ishr .u32 t 8),IntKind.u8.wrap (ishr .u32 t 16),IntKind.u8.wrap (ishr .u32 t 24)]) S3 ⟨?_,?_,?_,fun b o e=>?_⟩ (by simp)
  ·rw[e4];exact hk2.fresh hc
  ·unfold bL at e5 ⊢;rw[List.map_append];exact e5
  ·intro x hx
   rcases List.mem_append.1 hx with hx | hx
   ·exact hb.byt x hx
   ·simp only[List.mem_cons,List.not_mem_nil,or_false] at hx
    rcases hx with rfl | rfl | rfl | rfl <;> exact u8_wrap _
  ·rw[e2] at e;cases e;exact hc
 apply fk
 unfold yJ
 refine zfA h0 h1 fun S2 hk=>?_
 split
 ·exact key _ S2 hk
 ·exact key _ S2 hk
def Bs (S:Mem) (k:Nat) (p:Sl) (S1:Mem):Prop:=∃ xs,Bys S S1 p xs∧xs.length≤k
theorem Bs.mono {k m:Nat} {p:Sl} (h:Bs S k p S1) (e:k≤m):Bs S m p S1:=let ⟨xs,b,l⟩:=h;⟨xs,b,Nat.le_trans l e⟩
theorem zck {k:Nat} {p:Sl} (hb:Bs S k p S1) (hk:k≤1000) {code a b c n:Int} (h0:0≤code∧code<23) {Q:Sl→Mem→Prop} (hQ:∀ p' S2,Bs S (k+4) p' S2→Q p' S2):zg S1 p code a b c n Q:=
 let ⟨_,b,l⟩:=hb
 zmX b (by omega) h0.1 h0.2 fun p' xs' S2 b' l'=>hQ p' S2 ⟨xs',b',by omega⟩
theorem app4 {k:Nat} {p:Sl} (hb:Bs S k p S1) (hk:k≤1000) {x y z w:Int} (hx:0≤x∧x≤255) (hy:0≤y∧y≤255) (hz:0≤z∧z≤255) (hw:0≤w∧w≤255) {Q:Sl→Mem→Prop} (hQ:∀ p' S2,Bs S (k+4) p' S2→Q p' S2):ap S1 5 1 1 [.int .u8 0] p 4 [.int .u8 x,.int .u8 y,.int .u8 z,.int .u8 w] Q:=by
 obtain⟨xs,hb,hl⟩:=hb
 have hn:p.n=xs.length:=by have:=hb.row.len;simp[bL] at this;omega
 refine wS hb.row rfl (by decide) rfl (by omega) fun p' S3 c' kb e1 e2 e3 e4 e5=>?_
 have hc:S c'=none:=by
  rcases e3 with e3 | e3
  ·exact hb.new c' 0 e3
  ·cases hs:S c' with
   | none=>rfl
   | some x=>rw[hb.kp c' (by rw[hs];simp) (by simp),hs] at e3;cases e3
 refine hQ p' S3 ⟨xs++[x,y,z,w],⟨?_,?_,?_,fun b o e=>?_⟩,by simp;omega⟩
 ·rw[e4];exact hb.kp.fresh hc
 ·unfold bL at e5 ⊢;rw[List.map_append];exact e5
 ·intro v hv
  rcases List.mem_append.1 hv with hv | hv
  ·exact hb.byt v hv
  ·simp only[List.mem_cons,List.not_mem_nil,or_false] at hv
   rcases hv with rfl | rfl | rfl | rfl <;> assumption
 ·rw[e2] at e;cases e;exact hc
theorem itK {p A B:Prop} [Decidable p] (h1:p→A) (h2:¬p→B):if p then A else B:=by
 by_cases h:p
 ·rw[if_pos h];exact h1 h
 ·rw[if_neg h];exact h2 h
theorem u8m {x:Int} (h:0≤x∧x≤255):IntKind.u8.wrap x=x:=by
 have:IntKind.u8.wrap x=x%256:=by simp[IntKind.wrap,IntKind.bits,IntKind.signed]
 omega
theorem zmv {b o:Nat} {v:Value} (h:S.cell b o=some v) (hk:Keeps S S' []):S'.cell b o=some v:=by
 have e:=hk b (fun e=>by simp only[Mem.cell,e] at h;cases h) (by simp)
 simp only[Mem.cell,e] at h ⊢;exact h
structure Byz (S:Mem) (s:Sl) (xs:List Int):Prop where
 n:s.n=xs.length
 at_:xs≠[]→∃ b o,s=⟨some (b,o),s.n,s.c⟩∧∀ i,i<xs.length→∃ x,(0≤x∧x≤255)∧S.cell b (o+i*1)=some (.int .u8 x)
theorem Byz.keep {s:Sl} {xs:List Int} (h:Byz S s xs) (hk:Keeps S S' []):Byz S' s xs:=⟨h.n,fun h0=>by
 obtain⟨b,o,e,hc⟩:=h.at_ h0
 exact⟨b,o,e,fun i hi=>let ⟨x,hx,h1⟩:=hc i hi;⟨x,hx,zmv h1 hk⟩⟩⟩
theorem Byz.nil:Byz S ⟨none,0,0⟩ []:=⟨rfl,fun h=>absurd rfl h⟩
set_option maxRecDepth 20000 in
theorem zgd {seed:Sl} {sd:List Int} (hs:Byz S seed sd) (hn:sd.length≤100000) {Q:Sl→Mem→Prop} (hQ:∀ p xs S2,Bys S S2 p xs→xs.length≤400→Q p S2):qS S seed Q:=by
 apply gw
 unfold yu
 have b0:Bs S 0 ⟨none,0,0⟩ S:=⟨[],⟨Keeps.refl,Row.nil,fun x hx=>(by cases hx),fun b o e=>(by cases e)⟩,Nat.le_refl _⟩
 refine zck b0 (by decide) (by decide) fun p1 S1 b1=>?_
 refine zck b1 (by decide) (by decide) fun p2 S2 b2=>?_
 refine zck b2 (by decide) (by decide) fun p3 S3 b3=>?_
 refine zZ (fun J=>∀ p S',Bs S 365 p S'→J p S') (fun p S' h=>?_) fun J hJ=>?_
 ·exact zck h (by decide) (by decide) fun p' S2 h'=>let ⟨xs,b,l⟩:=h';hQ p' xs S2 b (by omega)
 have hsl:=hs.n
 refine zC (fun (z:Sl×Int) S'=>∃ i:Nat,z.2=(i:Int)∧i≤seed.n+3∧Bs S 365 z.1 S') (fun z=>seed.n+3-z.2.toNat) ?_ ⟨0,rfl,by omega,b3.mono (by decide)⟩
 rintro X ⟨p,z⟩ S4 ⟨i,hz,hi,hp⟩ ih
 dsimp only at hz hp ih ⊢
 subst hz
 refine zZ (fun J=>Bs S 349 p S4→i+2<seed.n→J S4) (fun hp hlt=>?_) fun J2 hJ2=>?_
 ·refine zZ (fun J=>∀ p S',Bs S 365 p S'→J p S') (fun p' S' h=>?_) fun J3 hJ3=>?_
  ·rw[w64 (by omega) (by omega)]
   exact ih _ S' ⟨i+3,rfl,by omega,h⟩ (by dsimp only;omega)
  have hk:Keeps S S4 []:=let ⟨_,b,_⟩:=hp;b.kp
  obtain⟨c,so,e1,cell⟩:=(hs.keep hk).at_ (fun e=>by rw[e] at hsl;simp at hsl;omega)
  obtain⟨x4,h4,c4⟩:=cell i (by omega)
  obtain⟨x5,h5,c5⟩:=cell (i+1) (by omega)
  obtain⟨x6,h6,c6⟩:=cell (i+2) (by omega)
  have w1:IntKind.i64.wrap ((i:Int)+1)=((i+1:Nat):Int):=by rw[w64 (by omega) (by omega)];omega
  have w2:IntKind.i64.wrap ((i:Int)+2)=((i+2:Nat):Int):=by rw[w64 (by omega) (by omega)];omega
  rw[w1,w2,e1,fi]
  refine⟨by omega,by omega,?_⟩
  rw[zx (by rw[Int.toNat_natCast];exact c4)]
  refine⟨by omega,by omega,?_⟩
  rw[zx (by rw[Int.toNat_natCast];exact c5)]
  refine⟨by omega,by omega,?_⟩
  rw[zx (by rw[Int.toNat_natCast];exact c6)]
  have one:∀ {code a b c n:Int},0≤code∧code<23→zg S4 p code a b c n fun t Sx=>J3 t Sx:=fun h0=>zck hp (by decide) h0 fun p' S' h=>hJ3 p' S' (h.mono (by decide))
  have c23:∀ m:Int,0<m→m≤8→∀ k:Int,0≤k→k≤14→0≤IntKind.u8.wrap (k+Int.tmod x6 m)∧IntKind.u8.wrap (k+Int.tmod x6 m)<23:=fun m m0 m8 k k0 k14=>by
   rw[Int.tmod_eq_emod_of_nonneg h6.1]
   have e1:=Int.emod_nonneg x6 (by omega:m≠0)
   have e2:=Int.emod_lt_of_pos x6 m0
   rw[u8m (by omega)];omega
  refine itK (fun _=>one (by decide)) fun _=>?_
  refine itK (fun _=>one (by decide)) fun _=>?_
  refine itK (fun _=>one (c23 8 (by decide) (by decide) 3 (by decide) (by decide))) fun _=>?_
  refine itK (fun _=>one (by decide)) fun _=>?_
  refine itK (fun _=>one (by decide)) fun _=>?_
  refine zZ (fun J=>∀ b,J b S4) (fun b=>?_) fun J4 hJ4=>?_
  ·have four:∀ {a1 a2 a3 a4 b1 b2 b3 b4 k1 k2 k3 k4 n1 n2 n3 n4 m1 m2 m3 m4:Int},0≤k1∧k1<23→0≤k2∧k2<23→0≤k3∧k3<23→0≤k4∧k4<23 →
     zg S4 p k1 a1 b1 m1 n1 fun t Sx=>zg Sx t k2 a2 b2 m2 n2 fun t Sx=>zg Sx t k3 a3 b3 m3 n3 fun t Sx=>zg Sx t k4 a4 b4 m4 n4 fun t Sx=>J3 t Sx:=fun h1 h2 h3 h4=>
    zck hp (by decide) h1 fun p5 S5 b5=>zck b5 (by decide) h2 fun p6 S6 b6=>zck b6 (by decide) h3 fun p7 S7 b7=>zck b7 (by decide) h4 fun p8 S8 b8=>hJ3 p8 S8 (b8.mono (by decide))
   refine itK (fun _=>four (by decide) (by decide) (by decide) (by decide)) fun _=>?_
   refine itK (fun _=>four (by decide) (by decide) (by decide) (by decide)) fun _=>?_
   refine itK (fun _=>one (by decide)) fun _=>?_
   refine itK (fun _=>four (by decide) (by decide) (by decide) (by decide)) fun _=>?_
   refine itK (fun _=>one (by decide)) fun _=>?_
   refine itK (fun _=>one (c23 3 (by decide) (by decide) 14 (by decide) (by decide))) fun _=>?_
   exact itK (fun _=>app4 hp (by decide) h5 h6 h5 (by decide) fun p' S' h=>hJ3 p' S' (h.mono (by decide))) fun _=>one (by decide)
  ·exact itK (fun _=>hJ4 _) fun _=>itK (fun _=>hJ4 _) fun _=>itK (fun _=>hJ4 _) fun _=>itK (fun _=>hJ4 _) fun _=>itK (fun _=>hJ4 _) fun _=>hJ4 _
 ·refine itK (fun hlt=>itK (fun h350=>?_) fun _=>hJ p S4 hp) fun _=>hJ p S4 hp
  refine hJ2 (let ⟨xs,b,l⟩:=hp;⟨xs,b,?_⟩) ?_
  ·have:=b.row.len
   simp only[bL,List.length_map] at this;omega
  ·rw[w64 (by omega) (by omega)] at hlt;omega
theorem zme {Q:Sl→Mem→Prop} (hQ:∀ p xs S2,Bys S S2 p xs→xs.length≤400→Q p S2):qS S ⟨none,0,0⟩ Q:=zgd Byz.nil (by decide) hQ
theorem znA (l:Lv S0 ρ0 h S W) {p:Sl} {xs:List Int} (hb:Bys S S1 p xs) (hl:xs.length≤1000000) {seats quota pages:Int} {Q:Int→Int→Mem→Prop}
  (hQ:∀ S',Lv S0 ρ0 h S' (W.create seats quota pages xs).2.2→Q (W.create seats quota pages xs).1 (W.create seats quota pages xs).2.1 S'):yD S1 (some (h,0)) seats quota pages p Q:=by
 obtain⟨ρ,A,C,φ,m,hc,hr⟩:=l
 have hc1:=hc.keeps hb.kp
 have hn:xs.length=p.n:=by have:=hb.row.len;simp[bL] at this;omega
 refine zfl hc1 hr (xs:=xs) ⟨hn,hb.row.cap,hb.byt,?_⟩ hl fun S' hA=>hQ S' (hA.lv (m.then hb.kp))
 rcases hb.row.lie with ⟨h1,h2⟩ | ⟨b,k,h1,h2,h3,h4,h5⟩
 ·left
  have:=hb.row.cap
  exact List.length_eq_zero_iff.1 (by omega)
 ·right
  refine⟨b,0,h1,?_,?_,by rw[h2];simp⟩
  ·have:=hb.row.part h1
   rw[hn];simpa using this
  ·cases e:ρ b with
   | none=>rfl
   | some r=>exact absurd (hb.new b 0 h1) (hc.rg b r e)
end
end
section
open Go Go.Pt Go.Cr Go.Hp
section
variable {S S' S0 S1:Mem} {ρ ρ' ρ0:Rho} {R:Nat→Prop} {h:Nat} {A:Ad} {C:Cst} {W:Wd} {φ:Nat→Nat→Nat}
theorem zmq {seats quota pages:Int} {xs:List Int}:(W.create seats quota pages xs).2.2.ls=W.ls:=by
 unfold Wd.create
 repeat' split
 all_goals rfl
theorem zpd (l:Lv S0 ρ0 h S W) (hls:∀ i,(W.ls i).on=false) {Q:Int→Mem→Prop} (hQ:∀ S',Lv S0 ρ0 h S' W→Q 0 S'):qT S (some (h,0)) Q:=by
 have l0:=l
 obtain⟨ρ,A,C,φ,m,hc,hr⟩:=l
 apply xW
 unfold qI
 rw[zL,zS hc.c0,zS hc.c1,wj hc.c4,zS hc.c3]
 exact znD hc ⟨hr,hls⟩ fun S' hk=>hQ S' (l0.on hk)
theorem awake21 (hgl:Gl S) {Q:Bool→Mem→Prop} (hQ:∀ S',Keeps S S' []→Q true S'):qi S Q:=by
 apply gy
 unfold yv
 intro b hb
 have hk0:Keeps S (S.set b (bw 5 [.int .u8 0,.int .u8 1])) []:=Keeps.refl.new hb
 generalize hSa:S.set b (bw 5 [.int .u8 0,.int .u8 1])=Sa at hk0
 have hgl':Gl Sa:=by
  obtain⟨t,k,hl⟩:=hgl
  refine⟨t,k,?_⟩
  rw[hk0 0 (by rw[hl];simp) (by simp)];exact hl
 have hcell:∀ S1,Keeps Sa S1 []→∀ i:Nat,i<2→S1.cell b (0+(i:Int).toNat*1)=some (.int .u8 i):=fun S1 hk i hi=>by
  have hs:Sa b=some (bw 5 [.int .u8 0,.int .u8 1]):=by rw[←hSa];exact zz
  unfold Mem.cell
  rw[hk b (by rw[hs];simp) (by simp),hs]
  match i,hi with
  | 0,_=>rfl
  | 1,_=>rfl
 apply wQ
 unfold qM
 refine zrg hgl' (fun h=>absurd h (by decide)) fun _ S1 h l1=>?_
 refine zZ (fun J=>J S1) ?_ fun J hJ=>by rw[if_neg (fun e=>e rfl)];exact hJ
 refine zZ (fun J=>∀ S2 W,Lv Sa rho0 h S2 W→(∀ i,(W.ls i).on=false)→J S2) ?_ fun J0 hJ0=>?_
 ·intro S2 W l2 hls
  refine zZ (fun J=>J S2) ?_ fun J hJ=>by rw[if_neg (by simp)];exact hJ
  refine zpd l2 hls fun S3 l3=>?_
  rw[if_pos rfl]
  apply zbR
  unfold kE
  refine zZ (fun _=>True) trivial fun J2 _=>?_
  rw[if_pos rfl]
  exact hQ S3 (hk0.trans l3.keeps)
 ·refine zC (fun (z:Int) S2=>∃ (i:Nat) (W:Wd),z=(i:Int)∧i≤2∧Lv Sa rho0 h S2 W∧∀ i,(W.ls i).on=false) (fun z=>2-z.toNat) ?_ ⟨0,_,rfl,by decide,l1,fun _=>rfl⟩
  rintro X z S2 ⟨i,W,rfl,hi,l2,hls⟩ ih
  try dsimp only at ih ⊢
  refine zZ (fun J=>i<2→J S2) ?_ fun J hJ=>?_
  ·intro hlt
   refine zZ (fun J=>∀ S3 W',Lv Sa rho0 h S3 W'→(∀ i,(W'.ls i).on=false)→J S3) (fun S3 W' l3 hls3=>?_) fun J2 hJ2=>?_
   ·rw[w64 (by omega) (by omega)]
    exact ih _ S3 ⟨i+1,W',rfl,by omega,l3,hls3⟩ (by omega)
   ·have c2:=hcell S2 l2.keeps i hlt
    rw[fi]
    refine⟨by omega,by omega,?_⟩
    rw[zx c2]
    refine⟨by omega,by omega,?_⟩
    rw[zx c2]
    have hz:Int.tmod (IntKind.u8.wrap (Int.tdiv (i:Int) 3)) 8=0:=by
     match i,hlt with
     | 0,_=>decide
     | 1,_=>decide
    refine zZ (fun J=>J true S2) ?_ fun J3 hJ3=>by rw[if_pos hz];exact hJ3
    rw[if_pos rfl]
    refine⟨by omega,by omega,?_⟩
    rw[zx c2]
    refine zme fun p xs S3 hb3 hl3=>?_
    have l3:=l2.on hb3.kp
    refine⟨hcell S3 l3.keeps i hlt,?_⟩
    refine znA l2 hb3 (by omega) fun S4 l4=>?_
    refine⟨hcell S4 l4.keeps i hlt,?_⟩
    exact hJ2 S4 _ l4 fun j=>by rw[zmq];exact hls j
  ·by_cases hlt:i<2
   ·rw[if_pos (by show (i:Int)<((2:Nat):Int);omega)];exact hJ hlt
   ·rw[if_neg (by show ¬(i:Int)<((2:Nat):Int);omega)]
    exact hJ0 S2 W l2 hls
end
end
section
open Go Go.Pt Go.Cr Go.Hp
def Lk (S0:Mem) (h:Nat) (f:Int) (N e t:Nat) (S:Mem):Prop:=∃ W ρ A C φ,Mv S0 rho0 S ρ Rc∧CrabA S ρ h A C∧Rel C W φ∧W.evB e∧C.now≤t∧C.form=f∧C.N=N
section
variable {S S' S0 S1:Mem} {ρ ρ' ρ0:Rho} {R:Nat→Prop} {h:Nat} {A:Ad} {C:Cst} {W:Wd} {φ:Nat→Nat→Nat} {f:Int} {N e t:Nat}
theorem Lk.kp (l:Lk S0 h f N e t S):Keeps S0 S []:=let ⟨_,_,_,_,_,m,_⟩:=l;zeX m
theorem Lk.mono (l:Lk S0 h f N e t S) {e' t':Nat} (h1:e≤e') (h2:t≤t'):Lk S0 h f N e' t' S:=let ⟨W,ρ,A,C,φ,m,hc,hr,he,ht,r⟩:=l;⟨W,ρ,A,C,φ,m,hc,hr,he.mono h1,by omega,r⟩
theorem zga {W':Wd} (m:Mv S0 rho0 S ρ Rc) (hA:Aft h C S ρ W' S') (he:W'.evB e) (ht:C.now≤t) (hf:C.form=f∧C.N=N):Lk S0 h f N e t S':=
 let ⟨ρ',A',C',φ',m',hc,hr,k⟩:=hA
 ⟨W',ρ',A',C',φ',m.trans m',hc,hr,he,by rw[k.now];exact ht,k.form.trans hf.1,k.N.trans hf.2⟩
theorem znB (l:Lk S0 h f N e t S) {p:Sl} {xs:List Int} (hb:Bys S S1 p xs) (hl:xs.length≤1000000) {seats quota pages:Int} {Q:Int→Int→Mem→Prop} (hQ:∀ a b S',Lk S0 h f N e t S'→Q a b S'):yD S1 (some (h,0)) seats quota pages p Q:=by
 obtain⟨W,ρ,A,C,φ,m,hc,hr,he,ht,hf⟩:=l
 have hc1:=hc.keeps hb.kp
 have hn:xs.length=p.n:=by have:=hb.row.len;simp[bL] at this;omega
 refine zfl hc1 hr (xs:=xs) ⟨hn,hb.row.cap,hb.byt,?_⟩ hl fun S' hA=>hQ _ _ S' (zga (m.then hb.kp) hA he.create ht hf)
 rcases hb.row.lie with ⟨h1,h2⟩ | ⟨b,k,h1,h2,h3,h4,h5⟩
 ·left
  have:=hb.row.cap
  exact List.length_eq_zero_iff.1 (by omega)
 ·right
  refine⟨b,0,h1,?_,?_,by rw[h2];simp⟩
  ·have:=hb.row.part h1
   rw[hn];simpa using this
  ·cases e:ρ b with
   | none=>rfl
   | some r=>exact absurd (hb.new b 0 h1) (hc.rg b r e)
theorem zqx (l:Lk S0 h f N e t S) {a b:Int} {on:Bool} {Q:Int→Mem→Prop} (hQ:∀ a S',Lk S0 h f N e t S'→Q a S'):vC S (some (h,0)) a b on Q:=by
 obtain⟨W,ρ,A,C,φ,m,hc,hr,he,ht,hf⟩:=l
 refine zkM hc hr fun S' hA=>hQ _ S' (zga m hA.aft (he.of ?_) ht hf)
 unfold Wd.join
 split
 ·rfl
 ·split <;> rfl
theorem zrk (l:Lk S0 h f N e t S) {n b:Int} (hb:0≤b∧b≤255) {Q:Int→Mem→Prop} (hQ:∀ a S',Lk S0 h f N e t S'→Q a S'):kB S (some (h,0)) n b Q:=by
 obtain⟨W,ρ,A,C,φ,m,hc,hr,he,ht,hf⟩:=l
 exact zns hc hr hb fun S' hA=>hQ _ S' (zga m hA.aft he.key ht hf)
theorem zqd (l:Lk S0 h f N e t S) (h1:t≤1000000) {Q:Mem→Prop} (hQ:∀ S',Lk S0 h f N e (t+1) S'→Q S'):vB S (some (h,0)) Q:=by
 obtain⟨W,ρ,A,C,φ,m,hc,hr,he,ht,hf⟩:=l
 exact zkI hc hr (by omega) fun S' W' hA hev=>hQ S' (zga m hA (fun i=>by rw[hev];exact he i) (by show C.now+1≤_;omega) hf)
theorem zmm (l:Lk S0 h f N e t S) {n:Int} {Q:Int→Mem→Prop} (hQ:∀ a S',Lk S0 h f N e t S'→Q a S'):xd S (some (h,0)) n Q:=by
 obtain⟨W,ρ,A,C,φ,m,hc,hr,he,ht,hf⟩:=l
 refine ziW hc hr fun S' hA=>hQ _ S' (zga m hA (he.of ?_) ht hf)
 unfold Wd.destroy
 split <;> rfl
theorem zqm (l:Lk S0 h f N e t S) (h1:e≤700000000) {n k:Int} {Q:Int→Mem→Prop} (hQ:∀ a S',Lk S0 h f N (e+3) t S'→Q a S'):ws S (some (h,0)) n k Q:=by
 obtain⟨W,ρ,A,C,φ,m,hc,hr,he,ht,hf⟩:=l
 exact zmp hc hr (fun i=>Nat.le_trans (he i) (by omega)) fun S' hA=>hQ _ S' (zga m hA.aft he.run ht hf)
theorem zrh (hgl:Gl S) {form frames region:Int} (hb:¬badNew form frames region) {Q:Pt→Int→Mem→Prop} (hQ:∀ S' h,Lk S h form frames.toNat 0 0 S'→Q (some (h,0)) 0 S'):zct S form frames region Q:=
 zjE rg0 rfl hgl (fun h=>absurd h hb) fun _ S' _ h _ _ _ m hc ht hl=>hQ S' h ⟨_,_,_,_,_,m,hc,zly hb ht hl,zqF,Int.le_refl 0,rfl,rfl⟩
end
end
section
open Go Go.Pt Go.Cr Go.Hp
section
variable {S:Mem}
set_option maxRecDepth 20000 in
theorem ziK (hgl:Gl S) {form frames region:Int} (hb:¬badNew form frames region) {acts seed:Sl} {al sd:List Int} (ha:Byz S acts al) (hal:al.length≤100) (hs:Byz S seed sd) (hsn:sd.length≤1000) {Q:Pt→Mem→Prop}
  (hQ:∀ S' h,Lk S h form frames.toNat 20000 100 S'→Q (some (h,0)) S'):yb S form frames region acts seed Q:=by
 apply wQ
 unfold qM
 refine zrh hgl hb fun S1 h l1=>?_
 refine zZ (fun J=>J S1) ?_ fun J hJ=>by rw[if_neg (fun e=>e rfl)];exact hJ
 refine zZ (fun J=>∀ S',Lk S h form frames.toNat 20000 100 S'→J S') (fun S' l=>hQ S' h l) fun J hJ=>?_
 have han:=ha.n
 refine zC (fun (z:Int) S'=>∃ i:Nat,z=(i:Int)∧i≤al.length∧Lk S h form frames.toNat (200*i) i S') (fun z=>al.length-z.toNat) ?_ ⟨0,rfl,Nat.zero_le _,l1⟩
 rintro X z S2 ⟨i,rfl,hi,l2⟩ ih
 refine zZ (fun J=>i<al.length→J S2) (fun hlt=>?_) fun J2 hJ2=>?_
 ·refine zZ (fun J=>∀ S',Lk S h form frames.toNat (200*i+180) (i+1) S'→J S') (fun S' l=>?_) fun J3 hJ3=>?_
  ·rw[w64 (by omega) (by omega)]
   exact ih _ S' ⟨i+1,rfl,by omega,l.mono (by omega) (Nat.le_refl _)⟩ (by omega)
  obtain⟨b,o,e1,hcell⟩:=ha.at_ (fun e=>by rw[e] at hlt;simp at hlt)
  obtain⟨x,hx,hc0⟩:=hcell i hlt
  have cx:∀ {S'},Keeps S S' []→S'.cell b (o+(i:Int).toNat*1)=some (.int .u8 x):=fun hk=>by rw[Int.toNat_natCast];exact zmv hc0 hk
  have c2:=cx l2.kp
  rw[e1,fi]
  refine⟨by omega,by omega,?_⟩
  rw[zx c2]
  refine⟨by omega,by omega,?_⟩
  rw[zx c2]
  have fin:∀ {S'},Lk S h form frames.toNat (200*i) i S'→J3 S':=fun l=>hJ3 _ (l.mono (by omega) (by omega))
  refine zZ (fun J=>∀ b,J b S2) (fun bb=>?_) fun J4 hJ4=>?_
  ·refine itK (fun _=>?_) fun _=>itK (fun _=>zqx l2 fun _ S' l=>fin l) fun _=>itK (fun _=>?_) fun _=>itK (fun _=>?_) fun _=>?_
   ·refine⟨by omega,by omega,?_⟩
    rw[zx c2]
    refine zgd (hs.keep l2.kp) (by omega) fun p xs S3 hb3 hl3=>⟨cx (l2.kp.trans hb3.kp),?_⟩
    exact znB l2 hb3 (by omega) fun a b' S4 l4=>⟨cx l4.kp,fin l4⟩
   ·refine⟨by omega,by omega,?_⟩
    rw[zx c2]
    exact zrk l2 hx fun _ S' l=>zqd l (by omega) fun S'' l''=>hJ3 S'' (l''.mono (by omega) (Nat.le_refl _))
   ·refine⟨by omega,by omega,?_⟩
    rw[zx c2]
    exact itK (fun _=>zmm l2 fun _ S' l=>fin l) fun _=>fin l2
   ·refine zC (fun (z:Int) S'=>∃ k:Nat,z=(k:Int)∧k≤30∧Lk S h form frames.toNat (200*i+6*k) i S') (fun z=>30-z.toNat) ?_ ⟨0,rfl,by omega,l2⟩
    rintro Y z S3 ⟨k,rfl,hk,l3⟩ ih2
    refine zZ (fun J=>k<30→J S3) (fun hlt2=>?_) fun J5 hJ5=>?_
    ·refine zqm l3 (by omega) fun _ S4 l4=>zqm l4 (by omega) fun _ S5 l5=>?_
     rw[w64 (by omega) (by omega)]
     exact ih2 _ S5 ⟨k+1,rfl,by omega,l5.mono (by omega) (Nat.le_refl _)⟩ (by omega)
    ·exact itK (fun h30=>hJ5 (by omega)) fun _=>hJ3 S3 (l3.mono (by omega) (by omega))
  ·exact itK (fun _=>hJ4 _) fun _=>itK (fun _=>hJ4 _) fun _=>hJ4 _
 ·rw[han]
  exact itK (fun h=>hJ2 (by omega)) fun _=>hJ S2 (l2.mono (by omega) (by omega))
end
end
section
open Go Go.Pt Go.Proofs.Tryz
attribute [local irreducible] lt WD WN Code.wp Back bodyPost wpList FR WL WC WQ WA AW Tr Yc HC AllC
set_option maxRecDepth 20000
set_option maxHeartbeats 4000000
def qo (S:Mem) (form:Int) (acts:Sl) (seed:Sl) (Q:Bool→Mem→Prop):Prop:=
 jn (fun (Sx:Mem)=>
 yb Sx (IntKind.i64.wrap (1+(IntKind.i64.wrap (Int.tmod form 2)))) 90 4 acts seed fun t Sx_1=>
 qT Sx_1 t fun t_1 Sx_2=>
 Q (decide (t_1=0)) Sx_2) fun Jx=>
 qi S fun t_2 Sx_3=>
 if t_2=true then
 if 25<(acts.n:Int) then
 qi Sx_3 fun t_3 Sx_4=>
 Q t_3 Sx_4
 else
 if 120<(seed.n:Int) then
 qi Sx_3 fun t_4 Sx_5=>
 Q t_4 Sx_5
 else
 Jx Sx_3
 else
 qi Sx_3 fun t_5 Sx_6=>
 Q t_5 Sx_6
theorem ky {S:Mem} {form:Int} {acts:Sl} {seed:Sl} {Q:Bool→Mem→Prop} (H:qo S form acts seed Q):jv S form acts seed Q:=by
 unfold qo at H
 have:=dj1 4 [0,1,2]
 exact Tr.intro func5 E ntmps5 E fun w0=>go results5 H
end
section
open Go Go.Pt Go.Cr Go.Hp
section
variable {S S' S0:Mem} {ρ:Rho} {h:Nat} {A:Ad} {C:Cst} {W:Wd} {φ:Nat→Nat→Nat}
theorem znx {x:Int} (h:0≤x∧x≤255):∃ f,(f=1∨f=2)∧IntKind.i64.wrap (1+(IntKind.i64.wrap (Int.tmod x 2)))=f:=by
 rw[Int.tmod_eq_emod_of_nonneg h.1,w64 (x:=x%2) (by omega) (by omega),w64 (by omega) (by omega)]
 exact⟨1+x%2,by omega,rfl⟩
theorem zfB (hgl:Gl S) {form:Int} (hf:0≤form∧form≤255) {acts seed:Sl} {al sd:List Int} (ha:Byz S acts al) (hs:Byz S seed sd):qo S form acts seed fun r S'=>r=true∧Keeps S S' []:=by
 unfold qo
 refine zZ (fun J=>∀ S1,Keeps S S1 []→al.length≤25→sd.length≤120→J S1) (fun S1 hk1 h20 h100=>?_) fun J hJ=>?_
 rotate_left
 ·refine awake21 hgl fun S1 hk1=>?_
  rw[if_pos rfl,ha.n,hs.n]
  have aw:qi S1 fun t Sx=>t=true∧Keeps S Sx []:=awake21 (hgl.keep (hk1 0 (zcX hgl) (by simp))) fun S2 hk2=>⟨rfl,hk1.trans hk2⟩
  exact itK (fun _=>aw) fun h1=>itK (fun _=>aw) fun h2=>hJ S1 hk1 (by omega) (by omega)
 obtain⟨f,hf12,ef⟩:=znx hf
 simp only[ef]
 refine ziK (hgl.keep (hk1 0 (zcX hgl) (by simp))) (by unfold badNew;omega) (ha.keep hk1) (by omega) (hs.keep hk1) (by omega) fun S2 h l=>?_
 obtain⟨W,ρ,A,C,φ,m,hc,hr,_,hnow,hform,hN⟩:=l
 have hkm:Keeps S1 S2 []:=zeX m
 apply xW
 unfold qI
 rw[zL,zS hc.c0,zS hc.c1,wj hc.c4,zS hc.c3]
 exact zms hc hr fun S3 hk3=>⟨rfl,hk1.trans (hkm.trans hk3)⟩
end
end
end Go.Proofs.YthaiblbnpcgjpaaGreatDoor
