/- Texts of this work,joined by program (pack.py): Cb,Pn,PsG,Ow,Hv,Ry. -/
import Derived.Test.YtabdpmnhjlmnlaaGreatDoorQCJ
import Derived.Test.YtabdpmnhjlmnlaaGreatDoorQCF
import Derived.Test.YtabdpmnhjlmnlaaGreatDoorQCH
import Derived.Test.YtabdpmnhjlmnlaaGreatDoorQCC
set_option linter.unusedVariables false
section
namespace Go.Cr
open Go Go.Pt
theorem zfQ {S S':Mem} {b:Nat} (hk:Keeps S S' []) (h:S' b=none):S b=none:=by
 cases hs:S b with
 | none=>rfl
 | some k=>have:=hk.get hs (by simp);rw[h] at this;cases this
theorem xF {α:Type} {f:α→List Value} {w:Nat} (h:∀ a,(f a).length=w):∀ l:List α,(l.flatMap f).length=l.length*w
 | []=>by simp
 | a :: l=>by rw[List.flatMap_cons,List.length_append,xF h l,h,List.length_cons,Nat.add_mul];omega
theorem zit {α:Type} {f:α→List Value} {w:Nat} (h:∀ a,(f a).length=w) {l:List α} {j:Nat} (hj:j<l.length):l.flatMap f=(l.take j).flatMap f++(f l[j]++(l.drop (j+1)).flatMap f)∧((l.take j).flatMap f).length=j*w:=by
 constructor
 ·have e:l=l.take j++(l[j] :: l.drop (j+1)):=by rw[List.getElem_cons_drop,List.take_append_drop]
  have e2:=congrArg (List.flatMap f) e
  rw[List.flatMap_append,List.flatMap_cons] at e2
  exact e2
 ·rw[xF h,List.length_take,Nat.min_eq_left (by omega)]
theorem zcl {α:Type} {f:α→List Value} {w:Nat} (h:∀ a,(f a).length=w) {l:List α} {j:Nat} (hj:j<l.length):lpart (l.flatMap f) (j*w) w=some (f l[j]):=by
 obtain⟨e1,e2⟩:=zit h hj
 have hl:=h l[j]
 rw[e1,show j*w=j*w+0 by omega,yM e2,ki (by omega),←hl,zk rfl]
theorem jJ (r:Cw):(cwL r).length=5:=rfl
structure CaP (S:Mem) (ρ:Rho) (r0 h i:Nat) (L:Sl→List Value) (l:List Cw):Prop where
 ex:∃ cs,Pc S ρ r0 h (L cs)∧Rw S ρ 6 5 cs (l.flatMap cwL)
 get:∀ cs,nthL (L cs) i=some (eL cs)
 set:∀ cs cs',spl (L cs) i [eL cs']=L cs'
 ne:r0≠6
variable {S S':Mem} {ρ ρ':Rho} {R:Nat→Prop} {r0 h i:Nat} {L:Sl→List Value} {l:List Cw}
theorem CaP.keep (hc:CaP S ρ r0 h i L l) (m:Mv S ρ S' ρ' R) (h0:¬R r0) (h6:¬R 6):CaP S' ρ' r0 h i L l:=by
 obtain⟨cs,h1,h2⟩:=hc.ex
 exact⟨⟨cs,h1.keep m h0,h2.keep m h6⟩,hc.get,hc.set,hc.ne⟩
theorem CaP.keeps (hc:CaP S ρ r0 h i L l) (hk:Keeps S S' []):CaP S' ρ r0 h i L l:=by
 obtain⟨cs,h1,h2⟩:=hc.ex
 exact⟨⟨cs,h1.keeps hk,h2.keeps hk⟩,hc.get,hc.set,hc.ne⟩
theorem zeT {l:List Cw} {vm page:Int} {i:Nat} (h:∀ j (hj:j<l.length),j<i→¬(l[j].vm=vm∧l[j].page=page)):lookC l vm page=lookC (l.drop i) vm page:=by
 unfold lookC
 congr 1
 have e:l=l.take i++l.drop i:=(List.take_append_drop _ _).symm
 conv=>lhs;rw[e,List.find?_append]
 rw[List.find?_eq_none.2 fun x hx=>?_,Option.none_or]
 obtain⟨j,hj,rfl⟩:=List.getElem_of_mem hx
 rw[List.length_take] at hj
 have:=h j (by omega) (by omega)
 rw[List.getElem_take]
 simpa using this
end Go.Cr
namespace Go.Proofs.YtabdpmnhjlmnlaaGreatDoor
open Go Go.Pt Go.Cr
section
variable {S:Mem} {ρ:Rho} {r0 h i:Nat} {L:Sl→List Value} {l:List Cw}
theorem zkI (hc:CaP S ρ r0 h i L l) (hl:l.length≤100) {vm page:Int} {Q:List Value→Bool→Mem→Prop}
  (hY:∀ f b,lookC l vm page=some (f,b)→Q (enL f b) true S) (hN:lookC l vm page=none→Q noEn false S):vx S (some (h,i)) vm page Q:=by
 obtain⟨cs,h1,h2⟩:=hc.ex
 have hn:=h2.n (by decide) (xF jJ l)
 have hi:i<(L cs).length:=by have:=wR (hc.get cs);exact this
 have hcell:S.cell h i=some (eL cs):=(h1.cell i hi rfl).trans (hc.get cs)
 apply zbo
 unfold wG
 simp only[jn]
 rw[if_pos (by simp),qk,jW hcell]
 refine zX (fun (z:Int×List Value) S'=>∃ j:Nat,z=((j:Int),noEn)∧j≤l.length∧S'=S∧∀ k (hk:k<l.length),k<j→¬(l[k].vm=vm∧l[k].page=page)) (fun z=>l.length-z.1.toNat) ?_ ⟨0,rfl,by omega,rfl,fun _ _ h=>by omega⟩
 rintro X z S' ⟨j,rfl,hj,rfl,hno⟩ ih
 dsimp only at ih ⊢
 refine⟨rfl,?_⟩
 by_cases hlt:(j:Int)<(cs.n:Int)
 ·have hjl:j<l.length:=by omega
  have hfl:=xF jJ l
  have hj5:j*5+5≤l.length*5:=by omega
  obtain⟨c,e1,e2⟩:=h2.sl (by rw[hfl];omega)
  rw[if_pos hlt]
  rw[e1,zah]
  refine⟨by omega,by omega,?_⟩
  rw[Int.toNat_natCast,jo (by rw[h2.part e2 (j*5) (by rw[hfl];omega) (by omega)];exact zcl jJ hjl)]
  refine⟨rfl,?_⟩
  rw[jo (show lpart (cwL l[j]) 0 2=some [.int .i64 l[j].vm,.int .i64 l[j].page] from rfl)]
  refine⟨rfl,?_⟩
  by_cases hm:l[j].vm=vm∧l[j].page=page
  ·have he:eqL [Value.int .i64 l[j].vm,.int .i64 l[j].page] [.int .i64 vm,.int .i64 page]=true:=(zee (ks:=[.i .i64,.i .i64]) rfl rfl).2 (by rw[hm.1,hm.2])
   rw[if_pos he,jo (show lpart (cwL l[j]) 2 3=some (enL l[j].f l[j].w) from rfl)]
   refine⟨rfl,hY _ _ ?_⟩
   rw[zeT hno]
   unfold lookC
   rw[List.drop_eq_getElem_cons hjl,List.find?_cons_of_pos (by simpa using hm)];rfl
  ·have he:¬eqL [Value.int .i64 l[j].vm,.int .i64 l[j].page] [.int .i64 vm,.int .i64 page]=true:=fun h=>hm (by
    have:=(zee (ks:=[.i .i64,.i .i64]) rfl rfl).1 h
    simpa using this)
   rw[if_neg he,w64 (by omega) (by omega)]
   refine ih _ S' ⟨j+1,rfl,by omega,rfl,fun k hk hkj=>?_⟩ (by dsimp only;omega)
   by_cases e:k=j
   ·subst e;exact hm
   ·exact hno k hk (by omega)
 ·rw[if_neg hlt]
  refine⟨rfl,hN ?_⟩
  rw[zeT hno,List.drop_of_length_le (by omega)];rfl
def Wants (S:Mem) (fv:Value) (p:Cw→Bool):Prop:=∀ S' r (R:Value→Mem→Prop),Keeps S S' []→R (.bool (p r)) S'→cv Tryz.prog S' fv [valL (cwL r)] R
theorem zgJ (hc:CaP S ρ r0 h i L l) (hg:∀ b r,ρ b=some r→S b≠none) (hl:l.length≤100) {fv:Value} {p:Cw→Bool} (hf:Wants S fv p) {Q:Mem→Prop}
  (hQ:∀ S' ρ',Mv S ρ S' ρ' (fun r=>r=r0∨r=6)→CaP S' ρ' r0 h i L (l.filter p)→Q S'):xI S (some (h,i)) fv Q:=by
 obtain⟨cs,h1,h2⟩:=hc.ex
 have hn:=h2.n (by decide) (xF jJ l)
 have hi:i<(L cs).length:=by have:=wR (hc.get cs);exact this
 have hcell:S.cell h i=some (eL cs):=(h1.cell i hi rfl).trans (hc.get cs)
 apply zbn
 unfold wF
 simp only[jn]
 rw[qk,jW hcell]
 refine zX (fun (z:Sl×Int) S'=>∃ j:Nat,z.2=(j:Int)∧j≤l.length∧Keeps S S' []∧Row S' 5 z.1 (((l.take j).filter p).flatMap cwL)∧∀ b o,z.1.p=some (b,o)→S b=none) (fun z=>l.length-z.2.toNat) ?_ ⟨0,rfl,by omega,Keeps.refl,Row.nil,fun b o h=>by cases h⟩
 rintro X ⟨l1,t⟩ S1 ⟨j,rfl,hj,hk,hrow,hfr⟩ ih
 dsimp only at ih hrow hfr hj ⊢
 have h2':=h2.keeps hk
 by_cases hlt:(j:Int)<(cs.n:Int)
 ·have hjl:j<l.length:=by omega
  have hfl:=xF jJ l
  obtain⟨c,e1,e2⟩:=h2.sl (by rw[hfl];omega)
  rw[if_pos hlt]
  rw[e1,zah]
  refine⟨by omega,by omega,?_⟩
  rw[Int.toNat_natCast,jo (by rw[h2'.part e2 (j*5) (by rw[hfl];omega) (by omega)];exact zcl jJ hjl)]
  refine⟨rfl,?_⟩
  have ht:l.take (j+1)=l.take j++[l[j]]:=List.take_succ_eq_append_getElem hjl
  refine hf S1 l[j] _ hk ⟨_,rfl,?_⟩
  by_cases hp:p l[j]=true
  ·rw[if_pos hp]
   refine⟨rfl,?_⟩
   have hl1:l1.n=((l.take j).filter p).length:=by
    have:=hrow.len
    rw[xF jJ] at this;omega
   have hle:((l.take j).filter p).length≤j:=Nat.le_trans (List.length_filter_le _ _) (by rw[List.length_take];omega)
   refine gr hrow rfl (by decide) rfl (by omega) fun s' S2 b k e3 e4 e5 e6 e7=>?_
   have hb:S b=none:=by
    rcases e5 with e5 | e5
    ·exact hfr b 0 e5
    ·exact zfQ hk e5
   rw[w64 (by omega) (by omega)]
   refine ih _ S2 ⟨j+1,rfl,by omega,by rw[e6];exact hk.fresh hb,?_,fun b' o' h'=>?_⟩ (by dsimp only;omega)
   ·rw[ht,List.filter_append,List.flatMap_append]
    have:([l[j]].filter p).flatMap cwL=cwL l[j]:=by rw[List.filter_cons_of_pos hp];simp
    rw[this];exact e7
   ·rw[e4] at h';cases h';exact hb
  ·rw[if_neg hp,w64 (by omega) (by omega)]
   refine ih _ S1 ⟨j+1,rfl,by omega,hk,?_,hfr⟩ (by dsimp only;omega)
   rw[ht,List.filter_append,List.flatMap_append]
   have:([l[j]].filter p).flatMap cwL=[]:=by rw[List.filter_cons_of_neg hp];rfl
   rw[this,List.append_nil];exact hrow
 ·rw[if_neg hlt,qk]
  have ej:l.take j=l:=List.take_of_length_le (by omega)
  rw[ej] at hrow
  obtain⟨ρ1,m1,h3⟩:=Rw.claim (R:=fun r=>r=r0∨r=6) (r:=6) hg hk hrow hfr
  have m1':Mv S ρ S1 ρ1 (fun _=>False):=⟨m1.ext,m1.old,fun b hb _=>hk b hb (by simp),m1.al,m1.rg⟩
  refine (h1.keep m1' (fun h=>h)).pt m1.rg (vs:=[eL l1]) i rfl hi rfl fun S2 m2 h4=>?_
  rw[hc.set] at h4
  refine hQ S2 ρ1 (m1.trans (m2.mono fun r hr=>.inl hr)) ⟨⟨l1,h4,h3.keep m2 hc.ne.symm⟩,hc.get,hc.set,hc.ne⟩
theorem zgS (hc:CaP S ρ r0 h i L l) (hg:∀ b r,ρ b=some r→S b≠none) (hl:l.length≤100) {vm:Int} {Q:Mem→Prop}
  (hQ:∀ S' ρ',Mv S ρ S' ρ' (fun r=>r=r0∨r=6)→CaP S' ρ' r0 h i L (l.filter fun r=>! decide (r.vm=vm))→Q S'):wq S (some (h,i)) vm Q:=by
 apply zaa
 unfold xB
 intro b1 hb1
 have hk1:Keeps S (S.set b1 (bw 3 [.int .i64 vm])) []:=Keeps.refl.new hb1
 have m1:Mv S ρ (S.set b1 (bw 3 [.int .i64 vm])) ρ (fun r=>r=r0∨r=6):=Mv.keeps hg hk1
 rw[if_pos (by simp)]
 refine zgJ (hc.keeps hk1) m1.rg hl (p:=fun r=>! decide (r.vm=vm)) ?_ fun S' ρ' m h=>hQ S' ρ' (m1.trans m) h
 intro S' a R hk hR
 have g1:S' b1=some (bw 3 [.int .i64 vm]):=hk.get zO (by simp)
 refine⟨_,[],[_],rfl,inferInstance,Tr.mono (jQ (S:=S') (r:=cwL a) (t:=some (b1,0)) (Q:=fun r S2=>R (.bool r) S2) ?_) (by rintro v S2 ⟨r,rfl,h⟩;exact h)⟩
 unfold yC
 refine⟨rfl,?_⟩
 rw[zY (show nthL (cwL a) 0=some (.int .i64 a.vm) from rfl),qk,zY (by rw[qA g1];rfl)]
 have e:decide (a.vm≠vm) = ! decide (a.vm=vm):=by simp
 rw[e];exact hR
theorem zcm (hc:CaP S ρ r0 h i L l) (hg:∀ b r,ρ b=some r→S b≠none) (hl:l.length≤100) {vm page:Int} {Q:Mem→Prop}
  (hQ:∀ S' ρ',Mv S ρ S' ρ' (fun r=>r=r0∨r=6)→CaP S' ρ' r0 h i L (dropC l vm page)→Q S'):yJ S (some (h,i)) vm page Q:=by
 apply zbp
 unfold wH
 intro b1 hb1 b2 hb2
 have hk1:Keeps S (S.set b1 (bw 3 [.int .i64 vm])) []:=Keeps.refl.new hb1
 have hk2:Keeps (S.set b1 (bw 3 [.int .i64 vm])) ((S.set b1 (bw 3 [.int .i64 vm])).set b2 (bw 3 [.int .i64 page])) []:=Keeps.refl.new hb2
 have n12:b1≠b2:=fun e=>by subst e;simp at hb2
 have m1:Mv S ρ ((S.set b1 (bw 3 [.int .i64 vm])).set b2 (bw 3 [.int .i64 page])) ρ (fun r=>r=r0∨r=6):=Mv.keeps hg (hk1.trans hk2)
 rw[if_pos (by simp)]
 refine zgJ (hc.keeps (hk1.trans hk2)) m1.rg hl (p:=fun r=>! (decide (r.vm=vm) && decide (r.page=page))) ?_ fun S' ρ' m h=>hQ S' ρ' (m1.trans m) h
 intro S' a R hk hR
 have g1:S' b1=some (bw 3 [.int .i64 vm]):=hk.get (by rw[qm n12];exact zO) (by simp)
 have g2:S' b2=some (bw 3 [.int .i64 page]):=hk.get zO (by simp)
 refine⟨_,[],[_,_],rfl,inferInstance,Tr.mono (gJ (S:=S') (r:=cwL a) (t:=some (b1,0)) (t_1:=some (b2,0)) (Q:=fun r S2=>R (.bool r) S2) ?_) (by rintro v S2 ⟨r,rfl,h⟩;exact h)⟩
 unfold xi
 refine⟨rfl,?_⟩
 rw[jo (show lpart (cwL a) 0 2=some [.int .i64 a.vm,.int .i64 a.page] from rfl),qk,zY (by rw[qA g1];rfl),qk,zY (by rw[qA g2];rfl)]
 refine⟨rfl,?_⟩
 have e:eqL [Value.int .i64 a.vm,.int .i64 a.page] [.int .i64 vm,.int .i64 page]=(decide (a.vm=vm) && decide (a.page=page)):=by
  rw[Bool.eq_iff_iff,zee (ks:=[.i .i64,.i .i64]) rfl rfl]
  simp
 rw[e];exact hR
theorem zoF {r:Cw}:spl (spl ([.int .i64 0,.int .i64 0,.bool false,.int .i64 0,.bool false]) 0 [.int .i64 r.vm,.int .i64 r.page]) 2 (enL r.f r.w)=cwL r:=rfl
theorem zkn (hc:CaP S ρ r0 h i L l) (hg:∀ b r,ρ b=some r→S b≠none) (hl:l.length≤100) {r:Cw} {Q:Mem→Prop}
  (hQ:∀ S' ρ',Mv S ρ S' ρ' (fun r=>r=r0∨r=6)→CaP S' ρ' r0 h i L (putC l r)→Q S'):kI S (some (h,i)) r.vm r.page (enL r.f r.w) Q:=by
 apply zbX
 unfold vf
 refine⟨rfl,?_⟩
 refine qc (fun J=>J S) ?_ fun J hJ=>by rw[if_neg (by simp)];exact hJ
 have hdl:(dropC l r.vm r.page).length≤l.length:=List.length_filter_le _ _
 refine zcm hc hg hl fun S1 ρ1 m1 h1=>?_
 refine qc (fun J=>∀ S2 ρ2,Mv S ρ S2 ρ2 (fun r=>r=r0∨r=6)→CaP S2 ρ2 r0 h i L (if (dropC l r.vm r.page).length=8 then (dropC l r.vm r.page).tail else dropC l r.vm r.page)→J S2) ?_ fun J hJ=>?_
 ·intro S2 ρ2 m2 h2
  obtain⟨cs,h3,h4⟩:=h2.ex
  have hi:i<(L cs).length:=by have:=wR (h2.get cs);exact this
  rw[qk,jW ((h3.cell i hi rfl).trans (h2.get cs)),zoF]
  refine⟨rfl,?_⟩
  have hn:=h4.n (by decide) (xF jJ _)
  have hle:(if (dropC l r.vm r.page).length=8 then (dropC l r.vm r.page).tail else dropC l r.vm r.page).length≤100:=by
   split
   ·rw[List.length_tail];omega
   ·omega
  refine zjC (R:=fun r=>r=r0∨r=6) m2 (.inr rfl) h4 rfl (by decide) rfl (by omega) fun s' S3 ρ3 m3 m3' h5 _=>?_
  refine (h3.keep m3' h2.ne).pt m3.rg (vs:=[eL s']) i rfl hi rfl fun S4 m4 h6=>?_
  rw[h2.set] at h6
  refine hQ S4 ρ3 (m3.trans (m4.mono fun r hr=>.inl hr)) ⟨⟨s',h6,?_⟩,h2.get,h2.set,h2.ne⟩
  have:=h5.keep m4 h2.ne.symm
  unfold putC
  rw[List.flatMap_append]
  have e:[r].flatMap cwL=cwL r:=by simp
  rw[e];exact this
 ·obtain⟨cs,h3,h4⟩:=h1.ex
  have hi:i<(L cs).length:=by have:=wR (h1.get cs);exact this
  have hcell:=(h3.cell i hi rfl).trans (h1.get cs)
  have hn:=h4.n (by decide) (xF jJ _)
  rw[qk,jW hcell]
  by_cases h8:(dropC l r.vm r.page).length=8
  ·have hJ':=fun S2 ρ2 m h=>hJ S2 ρ2 m (by rw[if_pos h8];exact h)
   rw[if_pos (by omega),jW hcell]
   obtain⟨c,e1,e2⟩:=h4.sl (by rw[xF jJ];omega)
   refine⟨by decide,by omega,by have:=h4.row.cap;omega,?_⟩
   have es:slc 5 cs 1 (cs.n:Int)=if cs.c=1 then ⟨some (c,0),cs.n-1,cs.c-1⟩ else ⟨some (c,5),cs.n-1,cs.c-1⟩:=by
    unfold slc
    rw[e2]
    have e3:(1:Int).toNat=1:=rfl
    have e4:((cs.n:Int)-1).toNat=cs.n-1:=by omega
    rw[e3,e4]
    split <;> rfl
   have hcap:=h4.row.cap
   rw[if_neg (by omega)] at es
   show sp S1 (slc 5 cs 1 (cs.n:Int)) 5 _
   rw[es]
   obtain⟨a,tl,hd⟩:∃ a tl,dropC l r.vm r.page=a :: tl:=by
    cases hq:dropC l r.vm r.page with
    | nil=>rw[hq] at h8;simp at h8
    | cons a b=>exact⟨a,b,rfl⟩
   have htl:(dropC l r.vm r.page).tail=tl:=by rw[hd];rfl
   have hfl:=xF jJ (dropC l r.vm r.page)
   have hpart:S1.part c 5 ((cs.n-1)*5)=some ((dropC l r.vm r.page).tail.flatMap cwL):=by
    rw[h4.part e2 5 (by rw[hfl];omega) rfl]
    have e3:(dropC l r.vm r.page).flatMap cwL=cwL a++(dropC l r.vm r.page).tail.flatMap cwL:=by
     rw[htl,hd,List.flatMap_cons]
    have e6:=yM (A:=cwL a) (B:=(dropC l r.vm r.page).tail.flatMap cwL) (n:=5) (j:=0) (m:=(cs.n-1)*5) rfl
    rw[Nat.add_zero] at e6
    rw[e3,e6]
    have e5:(cs.n-1)*5=((dropC l r.vm r.page).tail.flatMap cwL).length:=by rw[xF jJ,List.length_tail];omega
    rw[e5,zk rfl]
   refine⟨_,.inr ⟨c,5,rfl,hpart⟩,?_,?_⟩
   ·rw[List.all_flatMap]
    exact List.all_eq_true.2 fun x _=>rfl
   ·refine gr (m:=cs.n-1) Row.nil (by rw[xF jJ,List.length_tail];omega) (by omega) rfl (by show (2*(0+(cs.n-1))+1024)*40≤_;omega) fun s' S2 b k e3 e4 e5 e6 e7=>?_
    have hb:S1 b=none:=by
     rcases e5 with e5 | e5
     ·cases e5
     ·exact e5
    have hk:Keeps S1 S2 []:=by rw[e6];exact Keeps.refl.fresh hb
    obtain⟨ρ2,m2,h5⟩:=Rw.claim (R:=fun r=>r=r0∨r=6) (r:=6) m1.rg hk e7 fun b' o' h'=>by rw[e4] at h';cases h';exact hb
    have m2':Mv S1 ρ1 S2 ρ2 (fun _=>False):=⟨m2.ext,m2.old,fun b hb _=>hk b hb (by simp),m2.al,m2.rg⟩
    refine (h3.keep m2' (fun h=>h)).pt m2.rg (vs:=[eL s']) i rfl hi rfl fun S3 m3 h6=>?_
    rw[h1.set] at h6
    exact hJ' S3 ρ2 (m1.trans (m2.trans (m3.mono fun r hr=>.inl hr))) ⟨⟨s',h6,by have:=h5.keep m3 h1.ne.symm;rw[List.nil_append] at this;exact this⟩,h1.get,h1.set,h1.ne⟩
  ·rw[if_neg (by omega)]
   have:=hJ S1 ρ1 m1
   rw[if_neg h8] at this
   exact this h1
end
end Go.Proofs.YtabdpmnhjlmnlaaGreatDoor
end
section
namespace Go.Cr
open Go Go.Pt Go.Hp
def freeL (N:Nat) (used:Nat→Bool):List Int:=((List.range N).filter fun i=>! used i).map fun (n:Nat)=>(n:Int)
theorem wg {N:Nat} {used:Nat→Bool} {f:Int}:f∈freeL N used↔0≤f∧f<N∧used f.toNat=false:=by
 unfold freeL
 simp only[List.mem_map,List.mem_filter,List.mem_range,Bool.not_eq_true']
 constructor
 ·rintro⟨n,⟨h1,h2⟩,rfl⟩
  exact⟨by omega,by omega,by simpa using h2⟩
 ·rintro⟨h0,h1,h2⟩
  exact⟨f.toNat,⟨by omega,h2⟩,by omega⟩
theorem jX {N:Nat} {used:Nat→Bool}:(freeL N used).Nodup:=by
 unfold freeL List.Nodup
 rw[List.pairwise_map]
 exact (List.Pairwise.filter _ List.nodup_range).imp fun {a b} (h:a≠b)=>by omega
theorem zea {N:Nat} {used:Nat→Bool}:(freeL N used).length=count (fun i=>! used i) N:=by simp[freeL,count]
theorem zjl {N:Nat} {used:Nat→Bool} {F F':List Int} {m:Int} (h:F.Perm (freeL N used)) (h2:F.Perm (m :: F')) (h3:∀ x∈F',¬x<m):∃ f:Nat,m=f∧firstOff used N=some f∧F'.Perm (freeL N (upd used f true)):=by
 have hm:m∈freeL N used:=h.subset (h2.symm.subset (by simp))
 have hp:(m :: F').Perm (freeL N used):=h2.symm.trans h
 have hnd:=hp.nodup_iff.2 jX
 obtain⟨h0,h1,hu⟩:=wg.1 hm
 refine⟨m.toNat,by omega,kD (by omega) hu fun g hg=>?_,?_⟩
 ·cases hgu:used g with
  | true=>rfl
  | false=>
   have:(g:Int)∈freeL N used:=wg.2 ⟨by omega,by omega,by simpa using hgu⟩
   have:=hp.symm.subset this
   rcases List.mem_cons.1 this with e | e
   ·omega
   ·have:=h3 _ e;omega
 ·rw[List.perm_ext_iff_of_nodup (List.nodup_cons.1 hnd).2 jX]
  intro a
  rw[wg]
  constructor
  ·intro ha
   have h4:=wg.1 (hp.subset (List.mem_cons_of_mem _ ha))
   have hne:a≠m:=fun e=>by rw[e] at ha;exact (List.nodup_cons.1 hnd).1 ha
   exact⟨h4.1,h4.2.1,by rw[zo (by omega)];exact h4.2.2⟩
  ·rintro⟨a0,a1,a2⟩
   have hne:a≠m:=fun e=>by rw[e,zq] at a2;cases a2
   rw[zo (by omega)] at a2
   rcases List.mem_cons.1 (hp.symm.subset (wg.2 ⟨a0,a1,a2⟩)) with e | e
   ·exact absurd e hne
   ·exact e
theorem zjm {N:Nat} {used:Nat→Bool} {F:List Int} {f:Nat} (h:F.Perm (freeL N used)) (hf:f<N) (hu:used f=true):((f:Int) :: F).Perm (freeL N (upd used f false)):=by
 have hnd:=h.nodup_iff.2 jX
 have hn:(f:Int)∉F:=fun hm=>by
  have:=(wg.1 (h.subset hm)).2.2
  rw[Int.toNat_natCast,hu] at this;cases this
 rw[List.perm_ext_iff_of_nodup (List.nodup_cons.2 ⟨hn,hnd⟩) jX]
 intro a
 rw[wg,List.mem_cons]
 constructor
 ·rintro (rfl | ha)
  ·exact⟨by omega,by omega,by rw[Int.toNat_natCast,zq]⟩
  ·have h4:=wg.1 (h.subset ha)
   have hne:a≠f:=fun e=>hn (e ▸ ha)
   exact⟨h4.1,h4.2.1,by rw[zo (by omega)];exact h4.2.2⟩
 ·rintro⟨a0,a1,a2⟩
  by_cases e:a=f
  ·exact .inl e
  ·rw[zo (by omega)] at a2
   exact .inr (h.symm.subset (wg.2 ⟨a0,a1,a2⟩))
def uL (N:Nat) (used:Nat→Bool):List Value:=cF N fun i=>[Value.bool (used i)]
theorem zdo {N:Nat} {used:Nat→Bool}:(uL N used).length=N*1:=xr (w:=1) fun _ _=>rfl
theorem znX {N f:Nat} {used:Nat→Bool} (hf:f<N):nthL (uL N used) f=some (.bool (used f)):=by
 have:=zeo (w:=1) (k:=0) (n:=N) (f:=fun i=>[Value.bool (used i)]) (fun _ _=>rfl) hf (by decide)
 rw[Nat.mul_one] at this;exact this
theorem znW {N f:Nat} {used:Nat→Bool} (hf:f<N) (b:Bool):spl (uL N used) f [.bool b]=uL N (upd used f b):=by
 have:=zen (w:=1) (k:=0) (n:=N) (vs:=[.bool b]) (f:=fun i=>[Value.bool (used i)]) (fun _ _=>rfl) hf (by simp)
 rw[Nat.mul_one] at this
 unfold uL
 rw[show f=f+0 by rfl,this]
 refine ye fun g _=>?_
 by_cases e:g=f
 ·subst e;simp only[zq,Nat.add_zero];rfl
 ·simp only[zo e,Nat.add_zero]
end Go.Cr
namespace Go.Proofs.YtabdpmnhjlmnlaaGreatDoor
open Go Go.Pt Go.Cr Go.Hp
structure PoolP (S:Mem) (ρ:Rho) (p N:Nat) (used:Nat→Bool) (left:Int):Prop where
 ex:∃ tb fs us F,Hq.Ck S p 0 tb [eL fs,eL us,.int .i64 left] fs F∧(∀ x∈Hq.own fs,ρ x=some 4)∧Rw S ρ 5 1 us (uL N used)∧F.Perm (freeL N used)
 rol:ρ p=some 3
 lim:N≤512
abbrev R345 (r:Nat):Prop:=r=3∨r=4∨r=5
section
variable {S S':Mem} {ρ ρ':Rho} {R:Nat→Prop} {p N:Nat} {used:Nat→Bool} {left:Int}
theorem gR {b r:Nat} (m:Mv S ρ S' ρ' R) (hb:S b≠none) (hr:ρ b=some r) (hR:¬R r):S' b=S b:=m.kp b hb fun r' e=>by rw[hr] at e;cases e;exact hR
theorem PoolP.keep (h:PoolP S ρ p N used left) (m:Mv S ρ S' ρ' R) (h3:¬R 3) (h4:¬R 4) (h5:¬R 5):PoolP S' ρ' p N used left:=by
 obtain⟨tb,fs,us,F,hck,ho,hus,hF⟩:=h.ex
 refine⟨⟨tb,fs,us,F,⟨?_,hck.cell,?_,hck.ne,hck.heap,hck.len⟩,fun x hx=>m.ext x 4 (ho x hx),hus.keep m h5,hF⟩,m.ext p 3 h.rol,h.lim⟩
 ·rw[gR m (by rw[hck.blk];simp) h.rol h3];exact hck.blk
 ·refine hck.row.keep fun b hb=>?_
  have hx:b∈Hq.own fs:=by simp[Hq.own,hb]
  obtain⟨k,hk⟩:=Hq.own_row hck.row hx
  exact gR m (by rw[hk];simp) (ho b hx) h4
theorem PoolP.keeps (h:PoolP S ρ p N used left) (hg:∀ b r,ρ b=some r→S b≠none) (hk:Keeps S S' []):PoolP S' ρ p N used left:=
 h.keep (Mv.keeps (R:=fun _=>False) hg hk) (fun h=>h) (fun h=>h) (fun h=>h)
theorem zkB {b:Nat} {s s':Sl} {rb rr:Nat} (hg:∀ b r,ρ b=some r→S b≠none) (hk:Keeps S S' (b :: Hq.own s)) (hb:ρ b=some rb) (ho:∀ x∈Hq.own s,ρ x=some rr) (hf:∀ x∈Hq.own s',x∈Hq.own s∨S x=none) (hal:Grows S S') (hs':∀ x∈Hq.own s',S' x≠none) :
  ∃ ρ',Mv S ρ S' ρ' (fun r=>r=rb∨r=rr)∧∀ x∈Hq.own s',ρ' x=some rr:=by
 have m0:Mv S ρ S' ρ (fun r=>r=rb∨r=rr):=Mv.keepsW hg hk fun w hw=>by
  rcases List.mem_cons.1 hw with e | e
  ·subst e;exact⟨hal w (hg w rb hb),rb,hb,.inl rfl⟩
  ·exact⟨hal w (hg w rr (ho w e)),rr,ho w e,.inr rfl⟩
 by_cases hex:∃ c,c∈Hq.own s'∧S c=none
 ·obtain⟨c,hc,hcn⟩:=hex
  have hone:∀ x∈Hq.own s',x=c:=by
   intro x hx
   unfold Hq.own at hx hc
   cases hp:s'.p with
   | none=>rw[hp] at hc;simp at hc
   | some q=>rw[hp] at hx hc;simp at hx hc;rw[hx,hc]
  refine⟨ρ.upd c rr,⟨fun x r e=>?_,fun x r e hx=>?_,m0.kp,m0.al,fun x r e=>?_⟩,fun x hx=>by rw[hone x hx];exact qU⟩
  ·rw[yn (fun e2=>hg x r e (by rw[e2];exact hcn))];exact e
  ·rw[yn (fun e2=>hx (by rw[e2];exact hcn))] at e;exact e
  ·by_cases e2:x=c
   ·rw[e2];exact hs' c hc
   ·rw[yn e2] at e;exact m0.rg x r e
 ·refine⟨ρ,m0,fun x hx=>?_⟩
  rcases hf x hx with e | e
  ·exact ho x e
  ·exact absurd ⟨x,hx,e⟩ hex
theorem zgG (h:PoolP S ρ p N used left) {Q:Int→Mem→Prop} (hQ:Q (count (fun i=>! used i) N) S):vj S (some (p,0)) Q:=by
 obtain⟨tb,fs,us,F,hck,ho,hus,hF⟩:=h.ex
 apply zcR
 unfold vE
 rw[if_neg (by simp),qk,jW hck.rd]
 have hn:fs.n=F.length:=by have:=hck.row.len;rw[Hq.fl_length] at this;omega
 rw[hn,hF.length_eq,zea];exact hQ
theorem zgF {tb:TypeId} {fs us:Sl} {F:List Int} (hg:∀ b r,ρ b=some r→S b≠none) (hp:ρ p=some 3) (hlim:N≤512) (hck:Hq.Ck S p 0 tb [eL fs,eL us,.int .i64 left] fs F) (ho:∀ x∈Hq.own fs,ρ x=some 4) (hus:Rw S ρ 5 1 us (uL N used)) {f x n:Nat} (hf:f<N) {b:Bool} {c:Nat} (hc:us.p=some (c,0)) (hx:x=f) (hn:n=1) {K:Mem→Prop}
  (hK:∀ S',Mv S ρ S' ρ (· = 5)→Hq.Ck S' p 0 tb [eL fs,eL us,.int .i64 left] fs F→Rw S' ρ 5 1 us (uL N (upd used f b))→K S'):pt S c x n [.bool b] K:=
 hus.pt hg hc f hn (by rw[zdo];simp;omega) hx fun S' m h1=>by
  rw[znW hf] at h1
  refine hK S' m ⟨?_,hck.cell,?_,hck.ne,hck.heap,hck.len⟩ h1
  ·rw[gR m (by rw[hck.blk];simp) hp (by decide)];exact hck.blk
  ·refine hck.row.keep fun b hb=>?_
   have hx:b∈Hq.own fs:=by simp[Hq.own,hb]
   obtain⟨k,hk⟩:=Hq.own_row hck.row hx
   exact gR m (by rw[hk];simp) (ho b hx) (by decide)
theorem zeJ (h:PoolP S ρ p N used left) (hg:∀ b r,ρ b=some r→S b≠none) (hl : -1≤left∧left≤4294967296) {Q:Int→Int→Mem→Prop}
  (hY:∀ f:Nat,left≠0→firstOff used N=some f→∀ S' ρ',Mv S ρ S' ρ' R345→PoolP S' ρ' p N (upd used f true) (if left-1 < -1 then -1 else left-1)→Q f 0 S')
  (hN:left=0∨firstOff used N=none→Q 0 3 S):vi S (some (p,0)) Q:=by
 obtain⟨tb,fs,us,F,hck,ho,hus,hF⟩:=h.ex
 have hn:fs.n=F.length:=by have:=hck.row.len;rw[Hq.fl_length] at this;omega
 have c0:S.cell p 0=some (eL fs):=hck.rd
 have c2:S.cell p (0+2)=some (.int .i64 left):=by rw[qA hck.blk];rfl
 have hlen:F.length=count (fun i=>! used i) N:=by rw[hF.length_eq,zea]
 apply zcP
 unfold vC
 simp only[jn]
 rw[if_neg (by simp),qk,zY c2]
 by_cases h0:left=0
 ·rw[if_pos h0];exact hN (.inl h0)
 rw[if_neg h0,jW c0]
 by_cases h1:(fs.n:Int)=0
 ·rw[if_pos h1]
  exact hN (.inr (yq.2 (by omega)))
 rw[if_neg h1,qk,zY c2,w64 (by omega) (by omega)]
 refine zko hck.blk (by simp) ?_
 have e0:spl [eL fs,eL us,.int .i64 left] (0+2) [.int .i64 (if left-1 < -1 then -1 else left-1)]=[eL fs,eL us,.int .i64 (if left-1 < -1 then -1 else left-1)]:=rfl
 rw[e0]
 have hpo:∀ x∈Hq.own fs,x≠p:=fun x hx e=>hck.ne x hx e.symm
 have hck1:Hq.Ck (S.set p (bw tb [eL fs,eL us,.int .i64 (if left-1 < -1 then -1 else left-1)])) p 0 tb [eL fs,eL us,.int .i64 (if left-1 < -1 then -1 else left-1)] fs F:=
  ⟨zO,rfl,hck.row.keep fun b hb=>qm (hpo b (by simp[Hq.own,hb])),hck.ne,hck.heap,hck.len⟩
 have m1:Mv S ρ (S.set p (bw tb [eL fs,eL us,.int .i64 (if left-1 < -1 then -1 else left-1)])) ρ R345:=(Mv.refl hg).put h.rol (.inl rfl) _
 have m1':Mv S ρ (S.set p (bw tb [eL fs,eL us,.int .i64 (if left-1 < -1 then -1 else left-1)])) ρ (· = 3):=(Mv.refl (R:=(· = 3)) hg).put h.rol rfl _
 refine Hq.pop_spec hck1 (fun e=>h1 (by rw[hn,e];rfl)) fun S2 s2 m F2 hp hmin _ hown hL=>?_
 obtain⟨f,rfl,hff,hF2⟩:=zjl hF hp fun x hx=>by have:=hmin x hx;simpa [Hq.bf] using this
 have hfN:=(qf hff).1
 have e1:spl [eL fs,eL us,.int .i64 (if left-1 < -1 then -1 else left-1)] 0 [eL s2]=[eL s2,eL us,.int .i64 (if left-1 < -1 then -1 else left-1)]:=rfl
 have hck2:=hL.ck
 rw[e1] at hck2
 obtain⟨ρ2,m2,ho2⟩:=zkB (rb:=3) (rr:=4) m1.rg hL.keep h.rol (by exact ho) hL.fresh hL.al fun x hx=>by
  obtain⟨k,hk⟩:=Hq.own_row hck2.row hx;rw[hk];simp
 have m2':Mv (S.set p (bw tb [eL fs,eL us,.int .i64 (if left-1 < -1 then -1 else left-1)])) ρ S2 ρ2 R345:=m2.mono fun r hr=>by rcases hr with hr | hr <;> simp[hr,R345]
 have hus2:=(hus.keep m1' (by decide)).keep m2 (by decide)
 obtain⟨c,e2,e3⟩:=hus.sl (by rw[zdo];omega)
 have hun:=hus.n (by decide) zdo
 refine⟨f,rfl,?_⟩
 show gL (S2.cell p (0+1)) _
 rw[jW (n:=us) (by rw[qA hck2.blk];rfl),e2,zah]
 refine⟨by omega,by omega,?_⟩
 rw[Int.toNat_natCast]
 refine zgF (f:=f) m2.rg (m2.ext p 3 h.rol) h.lim hck2 ho2 hus2 hfN e3 (by omega) rfl fun S3 m3 hck3 hus3=>?_
 have hm3:=(m1.trans m2').trans (m3.mono (R':=R345) fun r hr=>.inr (.inr hr))
 exact hY f h0 hff S3 ρ2 hm3 ⟨⟨tb,s2,us,F2,hck3,ho2,hus3,hF2⟩,hm3.ext p 3 h.rol,h.lim⟩
theorem zdY (h:PoolP S ρ p N used left) (hg:∀ b r,ρ b=some r→S b≠none) {f:Nat} (hf:f<N) {Q:Int→Mem→Prop}
  (hY:used f=true→∀ S' ρ',Mv S ρ S' ρ' R345→PoolP S' ρ' p N (upd used f false) left→Q 0 S') (hN:used f=false→Q 8 S):yg S (some (p,0)) f Q:=by
 obtain⟨tb,fs,us,F,hck,ho,hus,hF⟩:=h.ex
 have hlim:=h.lim
 have hlen:F.length=count (fun i=>! used i) N:=by rw[hF.length_eq,zea]
 have hcl:=kg (fun i=>! used i) N
 have c1:S.cell p (0+1)=some (eL us):=by rw[qA hck.blk];rfl
 obtain⟨c,e2,e3⟩:=hus.sl (by rw[zdo];omega)
 have hun:=hus.n (by decide) zdo
 apply zcS
 unfold vF
 simp only[jn]
 rw[if_neg (by simp),if_neg (by omega),qk,jW c1,if_neg (by omega),jW c1,e2,zah]
 refine⟨by omega,by omega,?_⟩
 rw[Int.toNat_natCast,zaF (by rw[hus.cell e3 f (by rw[zdo];omega) (by omega)];exact znX hf)]
 cases hu:used f with
 | false=>rw[if_neg (by decide)];exact hN hu
 | true=>
  rw[if_pos rfl,qk,jW c1,e2,zah]
  refine⟨by omega,by omega,?_⟩
  refine zgF (f:=f) hg h.rol h.lim hck ho hus hf e3 (by omega) rfl fun S1 m1 hck1 hus1=>?_
  refine Hq.push_spec hck1 (by omega) fun S2 s2 F2 hp hL=>?_
  have e1:spl [eL fs,eL us,.int .i64 left] 0 [eL s2]=[eL s2,eL us,.int .i64 left]:=rfl
  have hck2:=hL.ck
  rw[e1] at hck2
  obtain⟨ρ2,m2,ho2⟩:=zkB (rb:=3) (rr:=4) m1.rg hL.keep h.rol (by exact ho) hL.fresh hL.al fun x hx=>by
   obtain⟨k,hk⟩:=Hq.own_row hck2.row hx;rw[hk];simp
  have hm:=(m1.mono (R':=R345) fun r hr=>.inr (.inr hr)).trans (m2.mono (R':=R345) fun r hr=>by rcases hr with hr | hr <;> simp[hr,R345])
  exact hY hu S2 ρ2 hm ⟨⟨tb,s2,us,F2,hck2,ho2,hus1.keep m2 (by decide),hp.trans ((hF.cons _).trans (by have:=zjm (List.Perm.refl _) hf hu;exact this))⟩,hm.ext p 3 h.rol,h.lim⟩
end
end Go.Proofs.YtabdpmnhjlmnlaaGreatDoor
namespace Go.Cr
open Go Go.Pt
theorem zeF {N:Nat}:∀ {i:Nat} {u u':Nat→Bool} {l:List Nat} {f:Nat},takeN N i u=some (l,u')→firstOff u' N=some f→takeN N (i+1) u=some (l++[f],upd u' f true)
 | 0,u,u',l,f,h,hf=>by
  simp only[takeN,Option.some.injEq,Prod.mk.injEq] at h
  obtain⟨rfl,rfl⟩:=h
  simp only[takeN,hf,List.nil_append]
 | i+1,u,u',l,f,h,hf=>by
  simp only[takeN] at h
  cases h1:firstOff u N with
  | none=>rw[h1] at h;cases h
  | some g=>
   rw[h1] at h
   dsimp only at h
   cases h2:takeN N i (upd u g true) with
   | none=>rw[h2] at h;cases h
   | some q=>
    obtain⟨l2,u2⟩:=q
    rw[h2] at h
    simp only[Option.some.injEq,Prod.mk.injEq] at h
    obtain⟨rfl,rfl⟩:=h
    have:=zeF h2 hf
    have e:takeN N (i+1+1) u=(match firstOff u N with
     | none=>none
     | some f=>match takeN N (i+1) (upd u f true) with
      | none=>none
      | some (l,u')=>some (f :: l,u')):=rfl
    rw[e]
    simp only[h1,this]
    rfl
def leftN (left:Int) (i:Nat):Int:=if left<0 then -1 else left-i
def unmark (u:Nat→Bool) (l:List Nat):Nat→Bool:=l.foldl (fun u f=>upd u f false) u
theorem zbO:∀ {l:List Nat} {u:Nat→Bool} {x:Nat},unmark u l x=(u x && ! decide (x∈l))
 | [],u,x=>by simp[unmark]
 | f :: l,u,x=>by
  unfold unmark
  rw[List.foldl_cons]
  have:=zbO (l:=l) (u:=upd u f false) (x:=x)
  unfold unmark at this
  rw[this]
  by_cases e:x=f
  ·subst e;rw[zq];simp
  ·rw[zo e];simp[e]
end Go.Cr
namespace Go.Proofs.YtabdpmnhjlmnlaaGreatDoor
open Go Go.Pt Go.Cr Go.Hp
section
variable {S S':Mem} {ρ ρ':Rho} {R:Nat→Prop} {p N:Nat} {used:Nat→Bool} {left:Int}
theorem zom (l:List Nat) (f:Nat):nL l++[.int .i64 (f:Int)]=nL (l++[f]):=by simp[nL]
theorem jG (l:List Nat):(nL l).length=l.length*1:=by simp[nL]
theorem zio {l:List Nat} {i:Nat} (h:i<l.length):nthL (nL l) i=some (.int .i64 (l[i]:Nat)):=by
 rw[qb];simp[nL,List.getElem?_eq_getElem h]
theorem zgs (h:PoolP S ρ p N used left) (hg:∀ b r,ρ b=some r→S b≠none) (hl : -1≤left∧left≤4294967296) {n:Nat} (hn:n≤1000) {r:Nat} (hr:r≠3∧r≠4∧r≠5) {Q:Sl→Int→Mem→Prop}
  (hY:∀ l u',¬(0≤left∧left<n)→takeN N n used=some (l,u')→∀ s S' ρ',Mv S ρ S' ρ' (fun x=>R345 x∨x=r)→PoolP S' ρ' p N u' (leftN left n)→Rw S' ρ' r 1 s (nL l)→Q s 0 S')
  (hN:(0≤left∧left<n)∨takeN N n used=none→∀ S' ρ' left',Mv S ρ S' ρ' (fun x=>R345 x∨x=r)→(left = -1→left' = -1)→-1≤left'→PoolP S' ρ' p N used left'→Q ⟨none,0,0⟩ 3 S'):xE S (some (p,0)) n Q:=by
 have hlim:=h.lim
 apply zcQ
 unfold vD
 simp only[jn]
 rw[if_neg (by simp),if_neg (by omega)]
 refine zX (fun (z:Sl×Int) S'=>∃ (i:Nat) (l:List Nat) (u':Nat→Bool) (ρ':Rho),z.2=(i:Int)∧i≤n∧¬(0≤left∧left<i)∧takeN N i used=some (l,u')∧Mv S ρ S' ρ' (fun x=>R345 x∨x=r)∧PoolP S' ρ' p N u' (leftN left i)∧Rw S' ρ' r 1 z.1 (nL l)) (fun z=>n-z.2.toNat) ?_
  ⟨0,[],used,ρ,rfl,by omega,by omega,rfl,Mv.refl hg,by unfold leftN;split <;> (try (have:left = -1:=by omega)) <;> simp_all,Rw.nil⟩
 rintro X ⟨s,t⟩ S1 ⟨i,l,u',ρ1,rfl,hi,hli,ht,m1,hp1,hrow⟩ ih
 dsimp only at ih hrow hi ⊢
 obtain⟨hll,hnd,hfree,hu',_⟩:=xZ ht
 by_cases hlt:(i:Int)<(n:Int)
 ·rw[if_pos hlt]
  have hlb : -1≤leftN left i∧leftN left i≤4294967296:=by unfold leftN;split <;> omega
  refine zeJ hp1 m1.rg hlb (fun f hl0 hff S2 ρ2 m2 hp2=>?_) fun hbad=>?_
  ·rw[if_neg (by decide)]
   have m2':Mv S1 ρ1 S2 ρ2 (fun x=>R345 x∨x=r):=m2.mono fun x hx=>.inl hx
   have hrow2:=hrow.keep m2 (by unfold R345;omega)
   have hsn:=hrow2.n (by decide) (jG l)
   refine zjC (R:=fun x=>R345 x∨x=r) m2' (.inr rfl) hrow2 rfl (by decide) rfl (by omega) fun s' S3 ρ3 m3 m3' h3 _=>?_
   rw[zom] at h3
   rw[w64 (by omega) (by omega)]
   refine ih _ S3 ⟨i+1,l++[f],_,ρ3,rfl,by omega,?_,zeF ht hff,m1.trans m3,?_,h3⟩ (by dsimp only;omega)
   ·unfold leftN at hl0
    split at hl0 <;> omega
   ·have e:leftN left (i+1)=if leftN left i-1 < -1 then -1 else leftN left i-1:=by
     unfold leftN
     unfold leftN at hl0
     split at hl0 <;> split <;> split <;> omega
    rw[e]
    exact hp2.keep m3' (by omega) (by omega) (by omega)
  ·rw[if_pos (by decide)]
   have hfail:(0≤left∧left<n)∨takeN N n used=none:=by
    rcases hbad with e | e
    ·left
     unfold leftN at e
     split at e <;> omega
    ·right
     rw[jB]
     have h1:=yq.1 e
     obtain⟨_,_,_,_,h5⟩:=xZ ht
     omega
   refine zX (fun (z:Int) S'=>∃ (j:Nat) (ρ':Rho),z=(j:Int)∧j≤l.length∧Mv S1 ρ1 S' ρ' R345∧PoolP S' ρ' p N (unmark u' (l.take j)) (leftN left i)) (fun z=>l.length-z.toNat) ?_ ⟨0,ρ1,rfl,by omega,Mv.refl m1.rg,hp1⟩
   rintro Y z S2 ⟨j,ρ2,rfl,hj,m2,hp2⟩ ih2
   have hrow2:=hrow.keep m2 (by unfold R345;omega)
   have hsn:=hrow.n (by decide) (jG l)
   by_cases hlt2:(j:Int)<(s.n:Int)
   ·have hjl:j<l.length:=by omega
    obtain⟨c,e1,e2⟩:=hrow2.sl (by rw[jG];omega)
    rw[if_pos hlt2]
    rw[e1,zah]
    refine⟨by omega,by omega,?_⟩
    rw[Int.toNat_natCast,zY (by rw[hrow2.cell e2 j (by rw[jG];omega) (by omega)];exact zio hjl)]
    have htk:l.take (j+1)=l.take j++[l[j]]:=List.take_succ_eq_append_getElem hjl
    have hmem:=hfree l[j] (List.getElem_mem hjl)
    have e5:unmark u' (l.take (j+1))=upd (unmark u' (l.take j)) l[j] false:=by
     unfold unmark;rw[htk,List.foldl_append];rfl
    refine zdY hp2 m2.rg hmem.1 (fun _ S3 ρ3 m3 hp3=>?_) fun hf=>?_
    ·rw[w64 (by omega) (by omega)]
     refine ih2 _ S3 ⟨j+1,ρ3,rfl,by omega,m2.trans m3,?_⟩ (by omega)
     rw[e5];exact hp3
    ·exfalso
     rw[zbO,hu'] at hf
     have hnt:l[j]∉l.take j:=by
      intro hm
      have h9:l=l.take j++(l[j] :: l.drop (j+1)):=by rw[List.getElem_cons_drop,List.take_append_drop]
      rw[h9] at hnd
      exact (List.nodup_append.1 hnd).2.2 _ hm _ List.mem_cons_self rfl
     simp[hnt] at hf
   ·rw[if_neg hlt2]
    have hjl:j=l.length:=by omega
    have eu:unmark u' (l.take j)=used:=by
     funext x
     rw[zbO,hu',hjl,List.take_length]
     by_cases hx:x∈l
     ·simp[hx,(hfree x hx).2]
     ·simp[hx]
    rw[eu] at hp2
    exact hN hfail S2 ρ2 _ (m1.trans (m2.mono fun x hx=>.inl hx)) (fun e=>by unfold leftN;rw[if_pos (by omega)]) (by unfold leftN;split <;> omega) hp2
 ·rw[if_neg hlt]
  have:i=n:=by omega
  subst this
  exact hY l u' hli ht s S1 ρ1 m1 hp1 hrow
end
end Go.Proofs.YtabdpmnhjlmnlaaGreatDoor
end
section
namespace Go.Proofs.YtabdpmnhjlmnlaaGreatDoor
open Go Go.Pt
attribute [local irreducible] Code.wp Back bodyPost wpList FR WL WC WQ WA AW Tr Yc HC AllC
set_option maxRecDepth 20000
set_option maxHeartbeats 4000000
set_option linter.unusedVariables false
def wx (S:Mem) (b:Pt) (kind:Int) (n:Int) (Q:Int→Mem→Prop):Prop:=
 jn (fun (Sx:Mem)=>
 jn (fun (k:Int) (Sx_1:Mem)=>
 Q k Sx_1) fun Jx=>
 nn b fun b_1 o=>
 gL (Sx.cell b_1 o) fun t=>
 lp (fun Xx (z:Int×Int) (Sx_2:Mem)=>
 match z with
 | (k_1,t_1)=>
 if t_1<(t.n:Int) then
 jn (fun (k_2:Int) (Sx_3:Mem)=>
 Xx (k_2,IntKind.i64.wrap (t_1+1)) Sx_3) fun Jx_1=>
 sl t fun b_2 o_1 n_1 n_2=>
 0≤t_1∧t_1<((n_1:Nat):Int) ∧
 gA (Sx_2.part b_2 (o_1+t_1.toNat*4) 4) fun t_2=>
 t_2.all (·.oneCell')=true ∧
 gI (nthL t_2 0) .u8 fun t_3=>
 if t_3=kind then
 if kind<2 then
 Jx_1 (IntKind.i64.wrap (k_1+1)) Sx_2
 else
 gI (nthL t_2 1) .i64 fun t_4=>
 if t_4=n then
 Jx_1 (IntKind.i64.wrap (k_1+1)) Sx_2
 else
 Jx_1 k_1 Sx_2
 else
 Jx_1 k_1 Sx_2
 else
 Jx k_1 Sx_2) (0,0) Sx) fun Jx_2=>
 if b=none then
 Q 0 S
 else
 Jx_2 S
theorem zbf {S:Mem} {b:Pt} {kind:Int} {n:Int} {Q:Int→Mem→Prop} (H:wx S b kind n Q):vt S b kind n Q:=by
 unfold wx at H
 exact Tr.intro Tryz.func93 E Tryz.ntmps93 E fun w0=>csr<|gv E E<|nxr<|gv E E<|nx<|zn H (fun (J:Mem→Prop) (z:Unit) S=>J S) (fun z=>⟨39,[(0,eP b),(1,.int .u8 kind),(2,.int .i64 n),(7,.int .i64 0)]⟩) (fun z=>[]) (fun _ Sx H1=>zn H1 (fun (J:Int→Mem→Prop) (z:Int) S=>J z S) (fun z=>⟨39,[(7,.int .i64 z)]⟩) (fun z=>[]) (fun k Sx_1 H2=>csr<|mv E E<|gv E E<|nx<|zi<|zh Tryz.results93 (zd E ze) ⟨_,E,H2⟩) (fun Jx hJx H3=>csr<|mv E E<|by obtain⟨b_1,o,rfl,H4⟩:=H3;exact s_p E (zJ E)<|s_p E (zv E E)<|gx H4 fun t ht H5=>s_v E (zz E) (zH ht)<|s_p E (yk E)<|mv E E<|nx<|zw<|qB (fun z=>⟨39,[(1,.int .u8 kind),(2,.int .i64 n),(7,.int .i64 z.1),(15,eL t),(16,.int .i64 (t.n:Int)),(17,.int .i64 z.2)]⟩) (fun z=>[]) (0,0) (idx:=[]) H5 E ⟨E,E,E,E,E,E,True.intro⟩ E<|by rintro Xx hXx ⟨k_1,t_1⟩ Sx_2 H6;exact csr<|iteK H6 (fun c H7=>s_p E (yT (zD E E) c)<|nx<|zC<|c_t E E<|qg<|zt<|zn H7 (fun (J:Int→Mem→Prop) (z:Int) S=>J z S) (fun z=>⟨39,[(1,.int .u8 kind),(2,.int .i64 n),(7,.int .i64 z),(15,eL t),(16,.int .i64 (t.n:Int)),(17,.int .i64 t_1)]⟩) (fun z=>[]) (fun k_2 Sx_3 H8=>zu<|s_p E (qh E E)<|mv E E<|zr<|hXx (k_2,IntKind.i64.wrap (t_1+1)) _ _ _ _ [] H8 E ⟨E,E,E,E,E,E,True.intro⟩ E) (fun Jx_1 hJx_1 H9=>zw<|csr<|by obtain⟨b_2,o_1,n_1,n_2,rfl,H10⟩:=H9;exact an2 H10 fun c_1 c_2 H11=>s_p E (qS E E c_1 c_2 E)<|gx H11 fun t_2 ht_2 H12=>by refine s_v E (zT E (zG ht_2)) (yi ht_2) ?_;exact by refine zL E fun b_3=>?_;exact an H12 fun c_3 H13=>zp 0 E E E E E (zG ht_2) E c_3<|nxr<|s_p E (zv E E)<|gx H13 fun t_3 ht_3 H14=>s_v E (zz E) (zW 0 E ht_3)<|mv E E<|iteK H14 (fun c_4 H15=>ceT E E E (c_4)<|mv E E<|mv E E<|iteK H15 (fun c_5 H16=>s_p E (yT (zD E E) c_5)<|mv E E<|sk4 E E E E<|pk E E E<|pk E E E<|nx<|ctr E E<|mv E E<|s_p E (qh E E)<|gv E E<|zr<|zU<|hJx_1 (IntKind.i64.wrap (k_1+1)) _ _ _ _ [] H16 E ⟨E,E,E,E,E,E,True.intro⟩ E) fun c_5 H16=>s_p E (yF (zD E E) c_5)<|mv E E<|s_p E (zv E E)<|gx H16 fun t_4 ht_4 H17=>s_v E (zz E) (zW 0 E ht_4)<|mv E E<|iteK H17 (fun c_6 H18=>ceT E E E (c_6)<|pk E E E<|pk E E E<|nx<|ctr E E<|mv E E<|s_p E (qh E E)<|gv E E<|zr<|zU<|hJx_1 (IntKind.i64.wrap (k_1+1)) _ _ _ _ [] H18 E ⟨E,E,E,E,E,E,True.intro⟩ E) fun c_6 H18=>ceF E E E (c_6)<|pk E E E<|pk E E E<|nx<|cfs E E<|zU<|hJx_1 k_1 _ _ _ _ [] H18 E ⟨E,E,E,E,E,E,True.intro⟩ E) fun c_4 H15=>ceF E E E (c_4)<|mv E E<|sk8 E E E E E E E E<|pk E E E<|nx<|cfs E E<|zU<|hJx_1 k_1 _ _ _ _ [] H15 E ⟨E,E,E,E,E,E,True.intro⟩ E)) fun c H7=>s_p E (yF (zD E E) c)<|nx<|zC<|c_f E E<|qt<|zl<|zl<|zI<|hJx k_1 _ _ _ _ [] H7 E ⟨E,True.intro⟩ E)) (fun Jx_2 hJx_2 H19=>csr<|mv E E<|iteK H19 (fun c_7 H20=>s_p E (yT (qE (p:=b) E E) c_7)<|nx<|c_t E E<|csr<|gv E E<|nx<|zi<|zb<|zh Tryz.results93 (zd E ze) ⟨_,E,H20⟩) fun c_7 H20=>s_p E (yF (qE (p:=b) E E) c_7)<|nx<|cfs E E<|hJx_2 () _ _ _ _ [] H20 E ⟨E,E,E,E,True.intro⟩ E)
def xS (S:Mem) (b:Pt) (frame:Int) (n:Int) (page:Int) (Q:Int→Mem→Prop):Prop:=
 yL S b frame fun t t_1 Sx=>
 jn (fun (Sx_1:Mem)=>
 nn t fun b_1 o=>
 pt Sx_1 b_1 o 4 ([.int .u8 3,.int .i64 n,.int .i64 page,.int .i64 0]) fun Sx_2=>
 Q 0 Sx_2) fun Jx=>
 if t_1≠0 then
 Q t_1 Sx
 else
 zfB Sx n page fun t_2 Sx_3=>
 if t_2=true then
 nn t fun b_2 o_1=>
 gI (Sx_3.cell b_2 o_1) .u8 fun t_3=>
 if t_3≠0 then
 Q 8 Sx_3
 else
 Jx Sx_3
 else
 Q 1 Sx_3
theorem zat {S:Mem} {b:Pt} {frame:Int} {n:Int} {page:Int} {Q:Int→Mem→Prop} (H:xS S b frame n page Q):wP S b frame n page Q:=by
 unfold xS at H
 exact Tr.intro Tryz.func141 E Tryz.ntmps141 E fun w0=>csr<|gv E E<|nxr<|mv E E<|mv E E<|gO E E H fun t t_1 Sx H1=>mv E E<|s_p E (zg E E)<|s_p E (zg E E)<|gv E E<|gv E E<|nx<|zn H1 (fun (J:Mem→Prop) (z:Unit) S=>J S) (fun z=>⟨37,[(2,.int .i64 n),(3,.int .i64 page),(9,eP t)]⟩) (fun z=>[]) (fun _ Sx_1 H2=>csr<|mv E E<|mv E E<|mv E E<|s_p E (zF E E)<|by exact by obtain⟨b_1,o,rfl,H3⟩:=H2;exact s_p E (zJ E)<|an H3 fun c H4=>qo E E E E E c E<|nxr<|gv E E<|nx<|zi<|zh Tryz.results141 (zd E ze) ⟨_,E,H4⟩) (fun Jx hJx H5=>zw<|csr<|mv E E<|iteK H5 (fun c_1 H6=>s_p E (yT (zQ E E) c_1)<|gv E E<|nx<|c_t E E<|csr<|mv E E<|gv E E<|nx<|zi<|zj<|zb<|zh Tryz.results141 (zd E ze) ⟨_,E,H6⟩) fun c_1 H6=>s_p E (yF (zQ E E) c_1)<|gv E E<|nx<|c_f E E<|csr<|mv E E<|mv E E<|qC E E H6 fun t_2 Sx_3 H7=>by have H8:=wM H7;rcases H8 with ⟨rfl,H9⟩ | ⟨rfl,H9⟩;exact (s_p E (yB (ql E) E)<|gv E E<|nx<|c_f E E<|csr<|mv E E<|by obtain⟨b_2,o_1,rfl,H10⟩:=H9;exact s_p E (zJ E)<|s_p E (zv E E)<|gx H10 fun t_3 ht_3 H11=>s_v E (zz E) (zH ht_3)<|iteK H11 (fun c_2 H12=>s_p E (yT (zQ E E) c_2)<|gv E E<|nx<|c_t E E<|csr<|gv E E<|nx<|zi<|zj<|zb<|zh Tryz.results141 (zd E ze) ⟨_,E,H12⟩) fun c_2 H12=>s_p E (yF (zQ E E) c_2)<|gv E E<|nx<|cfs E E<|zU<|hJx () _ _ _ _ [] H12 E ⟨E,E,E,True.intro⟩ E);exact (s_p E (yB (ql E) E)<|gv E E<|nx<|c_t E E<|csr<|gv E E<|nx<|zi<|zj<|zb<|zh Tryz.results141 (zd E ze) ⟨_,E,H9⟩))
def va (S:Mem) (b:Pt) (frame:Int) (n:Int) (Q:Int→Mem→Prop):Prop:=
 yL S b frame fun t t_1 Sx=>
 jn (fun (Sx_1:Mem)=>
 nn t fun b_1 o=>
 pt Sx_1 b_1 o 4 ([.int .u8 1,.int .i64 0,.int .i64 0,.int .i64 0]) fun Sx_2=>
 if 0≤n then
 pt Sx_2 b_1 o 4 ([.int .u8 2,.int .i64 n,.int .i64 0,.int .i64 0]) fun Sx_3=>
 Q 0 Sx_3
 else
 Q 0 Sx_2) fun Jx=>
 if t_1≠0 then
 Q t_1 Sx
 else
 if 6≤n then
 Q 1 Sx
 else
 nn t fun b_2 o_1=>
 gI (Sx.cell b_2 o_1) .u8 fun t_2=>
 if t_2≠0 then
 Q 8 Sx
 else
 Jx Sx
theorem zbS {S:Mem} {b:Pt} {frame:Int} {n:Int} {Q:Int→Mem→Prop} (H:va S b frame n Q):yp S b frame n Q:=by
 unfold va at H
 exact Tr.intro Tryz.func72 E Tryz.ntmps72 E fun w0=>csr<|gv E E<|nxr<|mv E E<|mv E E<|gO E E H fun t t_1 Sx H1=>mv E E<|s_p E (zg E E)<|s_p E (zg E E)<|gv E E<|gv E E<|nx<|zn H1 (fun (J:Mem→Prop) (z:Unit) S=>J S) (fun z=>⟨37,[(2,.int .i64 n),(7,eP t)]⟩) (fun z=>[]) (fun _ Sx_1 H2=>csr<|mv E E<|s_p E (zF E E)<|by exact by obtain⟨b_1,o,rfl,H3⟩:=H2;exact s_p E (zJ E)<|an H3 fun c H4=>qo E E E E E c E<|nx<|zC<|csr<|mv E E<|iteK H4 (fun c_1 H5=>s_p E (yT (qj E E) c_1)<|nx<|ctr E E<|mv E E<|mv E E<|s_p E (zF E E)<|by exact s_p E (zJ E)<|an H5 fun c_2 H6=>qo E E E E E c_2 E<|nxr<|gv E E<|nx<|zi<|zh Tryz.results72 (zd E ze) ⟨_,E,H6⟩) fun c_1 H5=>s_p E (yF (qj E E) c_1)<|nx<|cfs E E<|zt<|csr<|gv E E<|nx<|zi<|zh Tryz.results72 (zd E ze) ⟨_,E,H5⟩) (fun Jx hJx H7=>zw<|csr<|mv E E<|iteK H7 (fun c_3 H8=>s_p E (yT (zQ E E) c_3)<|gv E E<|nx<|c_t E E<|csr<|mv E E<|gv E E<|nx<|zi<|zj<|zb<|zh Tryz.results72 (zd E ze) ⟨_,E,H8⟩) fun c_3 H8=>s_p E (yF (zQ E E) c_3)<|gv E E<|nx<|c_f E E<|csr<|mv E E<|iteK H8 (fun c_4 H9=>s_p E (yT (qj E E) c_4)<|gv E E<|nx<|c_t E E<|csr<|gv E E<|nx<|zi<|zj<|zb<|zh Tryz.results72 (zd E ze) ⟨_,E,H9⟩) fun c_4 H9=>s_p E (yF (qj E E) c_4)<|gv E E<|nx<|c_f E E<|csr<|mv E E<|by obtain⟨b_2,o_1,rfl,H10⟩:=H9;exact s_p E (zJ E)<|s_p E (zv E E)<|gx H10 fun t_2 ht_2 H11=>s_v E (zz E) (zH ht_2)<|iteK H11 (fun c_5 H12=>s_p E (yT (zQ E E) c_5)<|gv E E<|nx<|c_t E E<|csr<|gv E E<|nx<|zi<|zj<|zb<|zh Tryz.results72 (zd E ze) ⟨_,E,H12⟩) fun c_5 H12=>s_p E (yF (zQ E E) c_5)<|gv E E<|nx<|cfs E E<|zU<|hJx () _ _ _ _ [] H12 E ⟨E,E,True.intro⟩ E)
def xy (S:Mem) (b:Pt) (frame:Int) (n:Int) (Q:Int→Mem→Prop):Prop:=
 xa S b frame n fun t t_1 Sx=>
 jn (fun (Sx_1:Mem)=>
 nn t fun b_1 o=>
 pt Sx_1 b_1 o 4 ([.int .u8 0,.int .i64 0,.int .i64 0,.int .i64 0]) fun Sx_2=>
 Q 0 Sx_2) fun Jx=>
 if t_1≠0 then
 Q t_1 Sx
 else
 nn t fun b_2 o_1=>
 gI (Sx.cell b_2 (o_1+3)) .i64 fun t_2=>
 if 0<t_2 then
 Q 8 Sx
 else
 Jx Sx
theorem fX {S:Mem} {b:Pt} {frame:Int} {n:Int} {Q:Int→Mem→Prop} (H:xy S b frame n Q):yS S b frame n Q:=by
 unfold xy at H
 exact Tr.intro Tryz.func87 E Tryz.ntmps87 E fun w0=>csr<|gv E E<|nxr<|mv E E<|mv E E<|mv E E<|gO E E H fun t t_1 Sx H1=>mv E E<|s_p E (zg E E)<|s_p E (zg E E)<|gv E E<|gv E E<|nx<|zn H1 (fun (J:Mem→Prop) (z:Unit) S=>J S) (fun z=>⟨29,[(7,eP t)]⟩) (fun z=>[]) (fun _ Sx_1 H2=>csr<|mv E E<|s_p E (zF E E)<|by exact by obtain⟨b_1,o,rfl,H3⟩:=H2;exact s_p E (zJ E)<|an H3 fun c H4=>qo E E E E E c E<|nxr<|gv E E<|nx<|zi<|zh Tryz.results87 (zd E ze) ⟨_,E,H4⟩) (fun Jx hJx H5=>zw<|csr<|mv E E<|iteK H5 (fun c_1 H6=>s_p E (yT (zQ E E) c_1)<|gv E E<|nx<|c_t E E<|csr<|mv E E<|gv E E<|nx<|zi<|zj<|zb<|zh Tryz.results87 (zd E ze) ⟨_,E,H6⟩) fun c_1 H6=>s_p E (yF (zQ E E) c_1)<|gv E E<|nx<|c_f E E<|csr<|mv E E<|by obtain⟨b_2,o_1,rfl,H7⟩:=H6;exact s_p E (zJ E)<|s_p E (zv E E)<|gx H7 fun t_2 ht_2 H8=>s_v E (zz E) (zH ht_2)<|iteK H8 (fun c_2 H9=>s_p E (yT (xu E E) c_2)<|gv E E<|nx<|c_t E E<|csr<|gv E E<|nx<|zi<|zj<|zb<|zh Tryz.results87 (zd E ze) ⟨_,E,H9⟩) fun c_2 H9=>s_p E (yF (xu E E) c_2)<|gv E E<|nx<|cfs E E<|zU<|hJx () _ _ _ _ [] H9 E ⟨E,True.intro⟩ E)
def ww (S:Mem) (b:Pt) (frame:Int) (n:Int) (Q:Int→Mem→Prop):Prop:=
 xa S b frame n fun t t_1 Sx=>
 if t_1=0 then
 nn t fun b_1 o=>
 gI (Sx.cell b_1 (o+3)) .i64 fun t_2=>
 pt Sx b_1 (o+3) 1 ([.int .i64 (IntKind.i64.wrap (t_2+1))]) fun Sx_1=>
 Q t_1 Sx_1
 else
 Q t_1 Sx
theorem zbe {S:Mem} {b:Pt} {frame:Int} {n:Int} {Q:Int→Mem→Prop} (H:ww S b frame n Q):vr S b frame n Q:=by
 unfold ww at H
 exact Tr.intro Tryz.func232 E Tryz.ntmps232 E fun w0=>csr<|gv E E<|nxr<|mv E E<|mv E E<|mv E E<|gO E E H fun t t_1 Sx H1=>mv E E<|s_p E (zg E E)<|s_p E (zg E E)<|gv E E<|gv E E<|nx<|zC<|csr<|mv E E<|iteK H1 (fun c H2=>ceT E E E (c)<|nx<|ctr E E<|mv E E<|by obtain⟨b_1,o,rfl,H3⟩:=H2;exact s_p E (zJ E)<|s_p E (zv E E)<|gx H3 fun t_2 ht_2 H4=>s_v E (zz E) (zH ht_2)<|s_p E (qh E E)<|s_p E (zJ E)<|s_p E (zv E E)<|an H4 fun c_1 H5=>qo E E E E E c_1 E<|nxr<|mv E E<|gv E E<|nx<|zi<|zh Tryz.results232 (zd E ze) ⟨_,E,H5⟩) fun c H2=>ceF E E E (c)<|nx<|cfs E E<|zt<|csr<|mv E E<|gv E E<|nx<|zi<|zh Tryz.results232 (zd E ze) ⟨_,E,H2⟩
def xw (S:Mem) (b:Pt) (frame:Int) (n:Int) (Q:Int→Mem→Prop):Prop:=
 xa S b frame n fun t t_1 Sx=>
 jn (fun (Sx_1:Mem)=>
 nn t fun b_1 o=>
 gI (Sx_1.cell b_1 (o+3)) .i64 fun t_2=>
 pt Sx_1 b_1 (o+3) 1 ([.int .i64 (IntKind.i64.wrap (t_2-1))]) fun Sx_2=>
 Q 0 Sx_2) fun Jx=>
 if t_1≠0 then
 Q t_1 Sx
 else
 nn t fun b_2 o_1=>
 gI (Sx.cell b_2 (o_1+3)) .i64 fun t_3=>
 if t_3=0 then
 Q 8 Sx
 else
 Jx Sx
theorem fV {S:Mem} {b:Pt} {frame:Int} {n:Int} {Q:Int→Mem→Prop} (H:xw S b frame n Q):yR S b frame n Q:=by
 unfold xw at H
 exact Tr.intro Tryz.func147 E Tryz.ntmps147 E fun w0=>csr<|gv E E<|nxr<|mv E E<|mv E E<|mv E E<|gO E E H fun t t_1 Sx H1=>mv E E<|s_p E (zg E E)<|s_p E (zg E E)<|gv E E<|gv E E<|nx<|zn H1 (fun (J:Mem→Prop) (z:Unit) S=>J S) (fun z=>⟨33,[(7,eP t)]⟩) (fun z=>[]) (fun _ Sx_1 H2=>csr<|mv E E<|by obtain⟨b_1,o,rfl,H3⟩:=H2;exact s_p E (zJ E)<|s_p E (zv E E)<|gx H3 fun t_2 ht_2 H4=>s_v E (zz E) (zH ht_2)<|s_p E (gu E E)<|s_p E (zJ E)<|s_p E (zv E E)<|an H4 fun c H5=>qo E E E E E c E<|nxr<|gv E E<|nx<|zi<|zh Tryz.results147 (zd E ze) ⟨_,E,H5⟩) (fun Jx hJx H6=>zw<|csr<|mv E E<|iteK H6 (fun c_1 H7=>s_p E (yT (zQ E E) c_1)<|gv E E<|nx<|c_t E E<|csr<|mv E E<|gv E E<|nx<|zi<|zj<|zb<|zh Tryz.results147 (zd E ze) ⟨_,E,H7⟩) fun c_1 H7=>s_p E (yF (zQ E E) c_1)<|gv E E<|nx<|c_f E E<|csr<|mv E E<|by obtain⟨b_2,o_1,rfl,H8⟩:=H7;exact s_p E (zJ E)<|s_p E (zv E E)<|gx H8 fun t_3 ht_3 H9=>s_v E (zz E) (zH ht_3)<|iteK H9 (fun c_2 H10=>ceT E E E (c_2)<|gv E E<|nx<|c_t E E<|csr<|gv E E<|nx<|zi<|zj<|zb<|zh Tryz.results147 (zd E ze) ⟨_,E,H10⟩) fun c_2 H10=>ceF E E E (c_2)<|gv E E<|nx<|cfs E E<|zU<|hJx () _ _ _ _ [] H10 E ⟨E,True.intro⟩ E)
def wZ (S:Mem) (b:Pt) (frame:Int) (n:Int) (Q:Pt→Int→Mem→Prop):Prop:=
 yL S b frame fun t t_1 Sx=>
 jn (fun (Sx_1:Mem)=>
 Q t 0 Sx_1) fun Jx=>
 if t_1≠0 then
 Q none t_1 Sx
 else
 nn t fun b_1 o=>
 gI (Sx.cell b_1 o) .u8 fun t_2=>
 if t_2≠3 then
 Q none 7 Sx
 else
 gI (Sx.cell b_1 (o+1)) .i64 fun t_3=>
 if t_3≠n then
 Q none 7 Sx
 else
 Jx Sx
theorem zbR {S:Mem} {b:Pt} {frame:Int} {n:Int} {Q:Pt→Int→Mem→Prop} (H:wZ S b frame n Q):xa S b frame n Q:=by
 unfold wZ at H
 exact Tr.intro Tryz.func149 E Tryz.ntmps149 E fun w0=>csr<|gv E E<|gv E E<|nxr<|mv E E<|mv E E<|gO E E H fun t t_1 Sx H1=>mv E E<|s_p E (zg E E)<|s_p E (zg E E)<|gv E E<|gv E E<|nx<|zn H1 (fun (J:Mem→Prop) (z:Unit) S=>J S) (fun z=>⟨35,[(8,eP t)]⟩) (fun z=>[]) (fun _ Sx_1 H2=>csr<|mv E E<|gv E E<|gv E E<|nx<|zi<|zh Tryz.results149 (zd E (zd E ze)) ⟨_,_,E,H2⟩) (fun Jx hJx H3=>zw<|csr<|mv E E<|iteK H3 (fun c H4=>s_p E (yT (zQ E E) c)<|gv E E<|nx<|c_t E E<|csr<|mv E E<|gv E E<|gv E E<|nx<|zi<|zj<|zb<|zh Tryz.results149 (zd E (zd E ze)) ⟨_,_,E,H4⟩) fun c H4=>s_p E (yF (zQ E E) c)<|gv E E<|nx<|c_f E E<|csr<|mv E E<|by obtain⟨b_1,o,rfl,H5⟩:=H4;exact s_p E (zJ E)<|s_p E (zv E E)<|gx H5 fun t_2 ht_2 H6=>s_v E (zz E) (zH ht_2)<|iteK H6 (fun c_1 H7=>s_p E (yT (zQ E E) c_1)<|mv E E<|sk4 E E E E<|sk2 E E<|pk E E E<|gv E E<|nx<|c_t E E<|csr<|gv E E<|gv E E<|nx<|zi<|zj<|zb<|zh Tryz.results149 (zd E (zd E ze)) ⟨_,_,E,H7⟩) fun c_1 H7=>s_p E (yF (zQ E E) c_1)<|mv E E<|mv E E<|s_p E (zJ E)<|s_p E (zv E E)<|gx H7 fun t_3 ht_3 H8=>s_v E (zz E) (zH ht_3)<|mv E E<|iteK H8 (fun c_2 H9=>s_p E (yT (zQ E E) c_2)<|pk E E E<|gv E E<|nx<|c_t E E<|csr<|gv E E<|gv E E<|nx<|zi<|zj<|zb<|zh Tryz.results149 (zd E (zd E ze)) ⟨_,_,E,H9⟩) fun c_2 H9=>s_p E (yF (zQ E E) c_2)<|pk E E E<|gv E E<|nx<|cfs E E<|zU<|hJx () _ _ _ _ [] H9 E ⟨E,True.intro⟩ E)
def vG (S:Mem) (b:Pt) (frame:Int) (Q:Pt→Int→Mem→Prop):Prop:=
 jn (fun (Sx:Mem)=>
 nn b fun b_1 o=>
 gL (Sx.cell b_1 o) fun t=>
 sl t fun b_2 o_1 n n_1=>
 0≤frame∧frame<((n:Nat):Int) ∧
 Q (some (b_2,o_1+frame.toNat*4)) 0 Sx) fun Jx=>
 if b=none then
 Q none 1 S
 else
 if frame<0 then
 Q none 1 S
 else
 nn b fun b_3 o_2=>
 gL (S.cell b_3 o_2) fun t_1=>
 if (t_1.n:Int)≤frame then
 Q none 1 S
 else
 Jx S
theorem zcT {S:Mem} {b:Pt} {frame:Int} {Q:Pt→Int→Mem→Prop} (H:vG S b frame Q):yL S b frame Q:=by
 unfold vG at H
 exact Tr.intro Tryz.func82 E Tryz.ntmps82 E fun w0=>csr<|gv E E<|gv E E<|nx<|zn H (fun (J:Mem→Prop) (z:Unit) S=>J S) (fun z=>⟨27,[(0,eP b),(1,.int .i64 frame)]⟩) (fun z=>[]) (fun _ Sx H1=>csr<|mv E E<|by obtain⟨b_1,o,rfl,H2⟩:=H1;exact s_p E (zJ E)<|s_p E (zv E E)<|gx H2 fun t ht H3=>s_v E (zz E) (zH ht)<|mv E E<|by obtain⟨b_2,o_1,n,n_1,rfl,H4⟩:=H3;exact an2 H4 fun c c_1 H5=>s_p E (qS E E c c_1 E)<|gv E E<|gv E E<|nx<|zi<|zh Tryz.results82 (zd E (zd E ze)) ⟨_,_,E,H5⟩) (fun Jx hJx H6=>csr<|mv E E<|iteK H6 (fun c_2 H7=>s_p E (yT (qE (p:=b) E E) c_2)<|mv E E<|sk2 E E<|pk E E E<|mv E E<|sk4 E E E E<|sk2 E E<|zP E<|pk E E E<|nx<|c_t E E<|csr<|gv E E<|gv E E<|nx<|zi<|zb<|zh Tryz.results82 (zd E (zd E ze)) ⟨_,_,E,H7⟩) fun c_2 H7=>s_p E (yF (qE (p:=b) E E) c_2)<|mv E E<|mv E E<|iteK H7 (fun c_3 H8=>s_p E (yT (zD E E) c_3)<|pk E E E<|mv E E<|sk4 E E E E<|sk2 E E<|zP E<|pk E E E<|nx<|c_t E E<|csr<|gv E E<|gv E E<|nx<|zi<|zb<|zh Tryz.results82 (zd E (zd E ze)) ⟨_,_,E,H8⟩) fun c_3 H8=>s_p E (yF (zD E E) c_3)<|pk E E E<|mv E E<|mv E E<|mv E E<|by obtain⟨b_3,o_2,rfl,H9⟩:=H8;exact s_p E (zJ E)<|s_p E (zv E E)<|gx H9 fun t_1 ht_1 H10=>s_v E (zz E) (zH ht_1)<|s_p E (yk E)<|iteK H10 (fun c_4 H11=>s_p E (yT (qj E E) c_4)<|pk E E E<|nx<|c_t E E<|csr<|gv E E<|gv E E<|nx<|zi<|zb<|zh Tryz.results82 (zd E (zd E ze)) ⟨_,_,E,H11⟩) fun c_4 H11=>s_p E (yF (qj E E) c_4)<|pk E E E<|nx<|cfs E E<|hJx () _ _ _ _ [] H11 E ⟨E,E,True.intro⟩ E)
def zaR (S:Mem) (frames:Int) (Q:Pt→Mem→Prop):Prop:=
 0≤(if 512<(if frames<0 then 0 else frames) then 512 else (if frames<0 then 0 else frames))∧(if 512<(if frames<0 then 0 else frames) then 512 else (if frames<0 then 0 else frames))≤(if 512<(if frames<0 then 0 else frames) then 512 else (if frames<0 then 0 else frames))∧(32:Int)*(if 512<(if frames<0 then 0 else frames) then 512 else (if frames<0 then 0 else frames))≤281474976710656∧(if 512<(if frames<0 then 0 else frames) then 512 else (if frames<0 then 0 else frames))≤9223372036854775807 ∧
 al S 91 (zrep (Int.toNat (if 512<(if frames<0 then 0 else frames) then 512 else (if frames<0 then 0 else frames))) [.int .u8 0,.int .i64 0,.int .i64 0,.int .i64 0]) fun b Sx=>
 al Sx 199 ([.slice (some ⟨b,0,none⟩) (Int.toNat (if 512<(if frames<0 then 0 else frames) then 512 else (if frames<0 then 0 else frames))) (Int.toNat (if 512<(if frames<0 then 0 else frames) then 512 else (if frames<0 then 0 else frames)))]) fun b_1 Sx_1=>
 Q (some (b_1,0)) Sx_1
theorem zhk {S:Mem} {frames:Int} {Q:Pt→Mem→Prop} (H:zaR S frames Q):zdQ S frames Q:=by
 unfold zaR at H
 exact Tr.intro Tryz.func138 E Tryz.ntmps138 E fun w0=>csr<|gv E E<|nxr<|mv E E<|s_p E (zjF E E)<|s_p E (zjE E E)<|by obtain⟨c,c_1,c_2,c_3,H1⟩:=H;exact zmX E E E c c_1 c_2 c_3 fun b=>ku 0 E fun hb=>have H2:=H1 b hb;s_p E (zF E E)<|by exact qM E E E fun b_1=>ku 0 E fun hb_1=>have H3:=H2 b_1 hb_1;gv E E<|nx<|zi<|zh Tryz.results138 (zd E ze) ⟨_,E,H3⟩
def zcz (S:Mem) (n:Int) (page:Int) (Q:Bool→Mem→Prop):Prop:=
 if 0≤n then
 if n<6 then
 if 0≤page then
 Q (decide (page<32)) S
 else
 Q false S
 else
 Q false S
 else
 Q false S
theorem ziL {S:Mem} {n:Int} {page:Int} {Q:Bool→Mem→Prop} (H:zcz S n page Q):zfB S n page Q:=by
 unfold zcz at H
 exact Tr.intro Tryz.func202 E Tryz.ntmps202 E fun w0=>csr<|gv E E<|nxr<|mv E E<|iteK H (fun c H1=>s_p E (yT (qj E E) c)<|mv E E<|mv E E<|iteK H1 (fun c_1 H2=>s_p E (yT (zD E E) c_1)<|pk E E E<|mv E E<|mv E E<|iteK H2 (fun c_2 H3=>s_p E (yT (qj E E) c_2)<|pk E E E<|mv E E<|mv E E<|s_p E (zD E E)<|pk E E E<|gv E E<|nx<|zi<|zh Tryz.results202 (zd E ze) ⟨_,E,H3⟩) fun c_2 H3=>s_p E (yF (qj E E) c_2)<|pk E E E<|mv E E<|sk2 E E<|pk E E E<|gv E E<|nx<|zi<|zh Tryz.results202 (zd E ze) ⟨_,E,H3⟩) fun c_1 H2=>s_p E (yF (zD E E) c_1)<|pk E E E<|mv E E<|sk2 E E<|pk E E E<|mv E E<|sk2 E E<|pk E E E<|gv E E<|nx<|zi<|zh Tryz.results202 (zd E ze) ⟨_,E,H2⟩) fun c H1=>s_p E (yF (qj E E) c)<|mv E E<|sk2 E E<|pk E E E<|mv E E<|sk2 E E<|pk E E E<|mv E E<|sk2 E E<|pk E E E<|gv E E<|nx<|zi<|zh Tryz.results202 (zd E ze) ⟨_,E,H1⟩
def xx (S:Mem) (b:Pt) (frame:Int) (Q:Int→Mem→Prop):Prop:=
 yL S b frame fun t t_1 Sx=>
 jn (fun (Sx_1:Mem)=>
 nn t fun b_1 o=>
 pt Sx_1 b_1 o 4 ([.int .u8 0,.int .i64 0,.int .i64 0,.int .i64 0]) fun Sx_2=>
 Q 0 Sx_2) fun Jx=>
 if t_1≠0 then
 Q t_1 Sx
 else
 nn t fun b_2 o_1=>
 gI (Sx.cell b_2 o_1) .u8 fun t_2=>
 if t_2=3 then
 Q 7 Sx
 else
 gI (Sx.cell b_2 o_1) .u8 fun t_3=>
 if t_3=0 then
 Q 8 Sx
 else
 Jx Sx
theorem fW {S:Mem} {b:Pt} {frame:Int} {Q:Int→Mem→Prop} (H:xx S b frame Q):wc S b frame Q:=by
 unfold xx at H
 exact Tr.intro Tryz.func89 E Tryz.ntmps89 E fun w0=>csr<|gv E E<|nxr<|mv E E<|mv E E<|gO E E H fun t t_1 Sx H1=>mv E E<|s_p E (zg E E)<|s_p E (zg E E)<|gv E E<|gv E E<|nx<|zn H1 (fun (J:Mem→Prop) (z:Unit) S=>J S) (fun z=>⟨32,[(5,eP t)]⟩) (fun z=>[]) (fun _ Sx_1 H2=>csr<|mv E E<|s_p E (zF E E)<|by exact by obtain⟨b_1,o,rfl,H3⟩:=H2;exact s_p E (zJ E)<|an H3 fun c H4=>qo E E E E E c E<|nxr<|gv E E<|nx<|zi<|zh Tryz.results89 (zd E ze) ⟨_,E,H4⟩) (fun Jx hJx H5=>zw<|csr<|mv E E<|iteK H5 (fun c_1 H6=>s_p E (yT (zQ E E) c_1)<|gv E E<|nx<|c_t E E<|csr<|mv E E<|gv E E<|nx<|zi<|zj<|zb<|zh Tryz.results89 (zd E ze) ⟨_,E,H6⟩) fun c_1 H6=>s_p E (yF (zQ E E) c_1)<|gv E E<|nx<|c_f E E<|csr<|mv E E<|by obtain⟨b_2,o_1,rfl,H7⟩:=H6;exact s_p E (zJ E)<|s_p E (zv E E)<|gx H7 fun t_2 ht_2 H8=>s_v E (zz E) (zH ht_2)<|iteK H8 (fun c_2 H9=>ceT E E E (c_2)<|gv E E<|nx<|c_t E E<|csr<|gv E E<|nx<|zi<|zj<|zb<|zh Tryz.results89 (zd E ze) ⟨_,E,H9⟩) fun c_2 H9=>ceF E E E (c_2)<|gv E E<|nx<|c_f E E<|csr<|mv E E<|s_p E (zJ E)<|s_p E (zv E E)<|gx H9 fun t_3 ht_3 H10=>s_v E (zz E) (zH ht_3)<|iteK H10 (fun c_3 H11=>ceT E E E (c_3)<|gv E E<|nx<|c_t E E<|csr<|gv E E<|nx<|zi<|zj<|zb<|zh Tryz.results89 (zd E ze) ⟨_,E,H11⟩) fun c_3 H11=>ceF E E E (c_3)<|gv E E<|nx<|cfs E E<|zU<|hJx () _ _ _ _ [] H11 E ⟨E,True.intro⟩ E)
end Go.Proofs.YtabdpmnhjlmnlaaGreatDoor
end
section
namespace Go.Cr
open Go Go.Pt
def shC (own:Nat→Ow) (f:Nat) (n:Int):Nat→Ow:=if (own f).kind=3∧(own f).vm=n then upd own f { own f with sh:=(own f).sh+1 } else own
def unshC (own:Nat→Ow) (f:Nat) (n:Int):Nat→Ow:=if (own f).kind=3∧(own f).vm=n∧(own f).sh≠0 then upd own f { own f with sh:=(own f).sh-1 } else own
def recC (own:Nat→Ow) (f:Nat) (n:Int):Nat→Ow:=if (own f).kind=3∧(own f).vm=n∧(own f).sh≤0 then upd own f ow0 else own
def relC (own:Nat→Ow) (f:Nat):Nat→Ow:=if (own f).kind=3∨(own f).kind=0 then own else upd own f ow0
theorem zoj {own:Nat→Ow} {N f:Nat} (hf:f<N) {o:Ow} {j:Nat} {vs:List Value} (hj:j+vs.length≤4) (he:spl (owL (own f)) j vs=owL o):spl (cF N fun g=>owL (own g)) (f*4+j) vs=cF N fun g=>owL (upd own f o g):=by
 rw[zen (w:=4) (fun _ _=>rfl) hf hj,he]
 refine ye fun g _=>?_
 by_cases e:g=f
 ·subst e;simp only[zq]
 ·simp only[zo e]
theorem zbA {own:Nat→Ow} {N f j:Nat} (hf:f<N) (hj:j<4):nthL (cF N fun g=>owL (own g)) (f*4+j)=nthL (owL (own f)) j:=zeo (w:=4) (fun _ _=>rfl) hf hj
theorem zne {own:Nat→Ow} {N f:Nat} (hf:f<N):lpart (cF N fun g=>owL (own g)) (f*4) 4=some (owL (own f)):=by
 have:=zfY (w:=4) (k:=0) (m:=4) (n:=N) (f:=fun g=>owL (own g)) (fun _ _=>rfl) hf (by decide)
 rw[Nat.add_zero] at this
 rw[this];rfl
end Go.Cr
namespace Go.Proofs.YtabdpmnhjlmnlaaGreatDoor
open Go Go.Pt Go.Cr
section
variable {S:Mem} {ρ:Rho} {ob N:Nat} {own:Nat→Ow}
theorem zdi (h:OwnP S ρ ob N own) {f:Nat} (hf:f<N) {Q:Pt→Int→Mem→Prop} (hQ:∀ rs rb,Pc S ρ 8 ob [eL rs]→Rw S ρ 9 4 rs (cF N fun f=>owL (own f))→rs.p=some (rb,0)→Q (some (rb,0+f*4)) 0 S):yL S (some (ob,0)) f Q:=by
 obtain⟨rs,h1,h2⟩:=h.ex
 have hn:=h2.n (by decide) vV
 obtain⟨rb,e1,e2⟩:=h2.sl (by rw[vV];omega)
 have hc:S.cell ob 0=some (eL rs):=h1.cell 0 (by simp) rfl
 apply zcT
 unfold vG
 simp only[jn]
 rw[if_neg (by simp),if_neg (by omega),qk,jW hc,if_neg (by omega),qk,jW hc,e1,zah]
 refine⟨by omega,by omega,?_⟩
 rw[Int.toNat_natCast]
 exact hQ rs rb h1 h2 e2
theorem wrow {rs:Sl} {rb f j n x:Nat} {vs:List Value} {o:Ow} (h1:Pc S ρ 8 ob [eL rs]) (h2:Rw S ρ 9 4 rs (cF N fun f=>owL (own f))) (hb:rs.p=some (rb,0)) (hg:∀ b r,ρ b=some r→S b≠none) (hf:f<N) (hn:n=vs.length) (hj:j+vs.length≤4) (hx:x=f*4+j) (he:spl (owL (own f)) j vs=owL o) {K:Mem→Prop}
  (hK:∀ S',Mv S ρ S' ρ (· = 9)→Pc S' ρ 8 ob [eL rs]→Rw S' ρ 9 4 rs (cF N fun g=>owL (upd own f o g))→K S'):pt S rb x n vs K:=
 h2.pt hg hb (f*4+j) hn (by rw[vV];omega) hx fun S' m h3=>hK S' m (h1.keep m (by decide)) (by rw[zoj hf hj he] at h3;exact h3)
theorem zmO {n p:Nat} (hn:n<6) (hp:p<32) {Q:Bool→Mem→Prop} (hQ:Q true S):zfB S n p Q:=by
 apply ziL
 unfold zcz
 rw[if_pos (by omega),if_pos (by omega),if_pos (by omega),decide_eq_true (by omega)]
 exact hQ
theorem zhK (h:OwnP S ρ ob N own) (hg:∀ b r,ρ b=some r→S b≠none) {f n p:Nat} (hf:f<N) (hn:n<6) (hp:p<32) {Q:Int→Mem→Prop} (hQ:∀ e S',Mv S ρ S' ρ (· = 9)→OwnP S' ρ ob N (donC own f n p)→Q e S'):wP S (some (ob,0)) f n p Q:=by
 apply zat
 unfold xS
 refine zdi h hf fun rs rb h1 h2 hb=>?_
 simp only[jn]
 rw[if_neg (by decide)]
 refine zmO hn hp ?_
 rw[if_pos rfl,qk,zY (by rw[h2.cell hb (f*4) (by rw[vV];omega) (by omega)];exact zbA (j:=0) hf (by decide))]
 unfold donC at hQ
 by_cases hk:(own f).kind=0
 ·rw[if_pos hk] at hQ
  rw[if_neg (fun h=>h hk),qk]
  exact wrow (j:=0) h1 h2 hb hg hf (by rfl) (by simp) (by omega) (by rfl) fun S' m h3 h4=>hQ _ S' m ⟨rs,h3,h4⟩
 ·rw[if_neg hk] at hQ
  rw[if_pos hk]
  exact hQ _ S (Mv.refl hg) ⟨rs,h1,h2⟩
theorem zeW (h:OwnP S ρ ob N own) (hg:∀ b r,ρ b=some r→S b≠none) {f:Nat} {n:Int} (hf:f<N) (hn:n<6) {Q:Int→Mem→Prop} (hQ:∀ e S',Mv S ρ S' ρ (· = 9)→OwnP S' ρ ob N (keepC own f n)→Q e S'):yp S (some (ob,0)) f n Q:=by
 apply zbS
 unfold va
 refine zdi h hf fun rs rb h1 h2 hb=>?_
 simp only[jn]
 rw[if_neg (by decide),if_neg (by omega),qk,zY (by rw[h2.cell hb (f*4) (by rw[vV];omega) (by omega)];exact zbA (j:=0) hf (by decide))]
 unfold keepC at hQ
 by_cases hk:(own f).kind=0
 ·rw[if_pos hk] at hQ
  rw[if_neg (fun h=>h hk),qk]
  refine wrow (j:=0) (o:=⟨1,0,0,0⟩) h1 h2 hb hg hf (by rfl) (by simp) (by omega) (by rfl) fun S' m h3 h4=>?_
  by_cases h0:0≤n
  ·rw[if_pos h0] at hQ
   rw[if_pos h0]
   refine wrow (j:=0) (o:=⟨2,n,0,0⟩) (vs:=[.int .u8 2,.int .i64 n,.int .i64 0,.int .i64 0]) h3 h4 hb m.rg hf rfl (by simp) (by omega) rfl fun S2 m2 h5 h6=>hQ _ S2 (m.trans m2) ⟨rs,h5,?_⟩
   rw[zfl] at h6;exact h6
  ·rw[if_neg h0] at hQ
   rw[if_neg h0]
   exact hQ _ S' m ⟨rs,h3,h4⟩
 ·rw[if_neg hk] at hQ
  rw[if_pos hk]
  exact hQ _ S (Mv.refl hg) ⟨rs,h1,h2⟩
theorem zcf (h:OwnP S ρ ob N own) {f:Nat} {n:Int} (hf:f<N) {Q:Pt→Int→Mem→Prop}
  (hY:(own f).kind=3→(own f).vm=n→∀ rs rb,Pc S ρ 8 ob [eL rs]→Rw S ρ 9 4 rs (cF N fun f=>owL (own f))→rs.p=some (rb,0)→Q (some (rb,0+f*4)) 0 S) (hN:¬((own f).kind=3∧(own f).vm=n)→Q none 7 S):xa S (some (ob,0)) f n Q:=by
 apply zbR
 unfold wZ
 refine zdi h hf fun rs rb h1 h2 hb=>?_
 simp only[jn]
 rw[if_neg (by decide),qk,zY (by rw[h2.cell hb (f*4) (by rw[vV];omega) (by omega)];exact zbA (j:=0) hf (by decide))]
 by_cases hk:(own f).kind=3
 ·rw[if_neg (fun h=>h hk),zY (by rw[h2.cell hb (f*4+1) (by rw[vV];omega) (by omega)];exact zbA (j:=1) hf (by decide))]
  by_cases hv:(own f).vm=n
  ·rw[if_neg (fun h=>h hv)];exact hY hk hv rs rb h1 h2 hb
  ·rw[if_pos hv];exact hN fun h=>hv h.2
 ·rw[if_pos hk];exact hN fun h=>hk h.1
theorem ziR (h:OwnP S ρ ob N own) (hg:∀ b r,ρ b=some r→S b≠none) {f:Nat} {n:Int} (hf:f<N) (hb0:0≤(own f).sh∧(own f).sh≤1000000) {Q:Int→Mem→Prop} (hQ:∀ e S',Mv S ρ S' ρ (· = 9)→OwnP S' ρ ob N (shC own f n)→Q e S'):vr S (some (ob,0)) f n Q:=by
 apply zbe
 unfold ww
 unfold shC at hQ
 refine zcf h hf (fun hk hv rs rb h1 h2 hb=>?_) fun hn=>?_
 ·rw[if_pos ⟨hk,hv⟩] at hQ
  rw[if_pos rfl,qk,zY (by rw[h2.cell hb (f*4+3) (by rw[vV];omega) (by omega)];exact zbA (j:=3) hf (by decide)),w64 (by omega) (by omega)]
  exact wrow (j:=3) (o:={ own f with sh:=(own f).sh+1 }) h1 h2 hb hg hf (by rfl) (by simp) (by omega) (by rfl) fun S' m h3 h4=>hQ _ S' m ⟨rs,h3,h4⟩
 ·rw[if_neg hn] at hQ
  rw[if_neg (by decide)]
  exact hQ _ S (Mv.refl hg) h
theorem zge (h:OwnP S ρ ob N own) (hg:∀ b r,ρ b=some r→S b≠none) {f:Nat} {n:Int} (hf:f<N) (hb0:0≤(own f).sh∧(own f).sh≤1000000) {Q:Int→Mem→Prop} (hQ:∀ e S',Mv S ρ S' ρ (· = 9)→OwnP S' ρ ob N (unshC own f n)→((own f).kind=3∧(own f).vm=n∧(own f).sh≠0→e=0)→Q e S'):yR S (some (ob,0)) f n Q:=by
 apply fV
 unfold xw
 unfold unshC at hQ
 refine zcf h hf (fun hk hv rs rb h1 h2 hb=>?_) fun hn=>?_
 ·simp only[jn]
  rw[if_neg (by decide),qk,zY (by rw[h2.cell hb (f*4+3) (by rw[vV];omega) (by omega)];exact zbA (j:=3) hf (by decide))]
  by_cases hs:(own f).sh=0
  ·rw[if_neg (fun h=>h.2.2 hs)] at hQ
   rw[if_pos hs]
   exact hQ _ S (Mv.refl hg) ⟨rs,h1,h2⟩ fun h=>absurd hs h.2.2
  ·rw[if_pos ⟨hk,hv,hs⟩] at hQ
   rw[if_neg hs,qk,zY (by rw[h2.cell hb (f*4+3) (by rw[vV];omega) (by omega)];exact zbA (j:=3) hf (by decide)),w64 (by omega) (by omega)]
   exact wrow (j:=3) (o:={ own f with sh:=(own f).sh-1 }) h1 h2 hb hg hf (by rfl) (by simp) (by omega) (by rfl) fun S' m h3 h4=>hQ _ S' m ⟨rs,h3,h4⟩ fun _=>rfl
 ·rw[if_neg (fun h=>hn ⟨h.1,h.2.1⟩)] at hQ
  simp only[jn]
  rw[if_pos (by decide)]
  exact hQ _ S (Mv.refl hg) h fun h=>absurd ⟨h.1,h.2.1⟩ hn
theorem zcG (h:OwnP S ρ ob N own) (hg:∀ b r,ρ b=some r→S b≠none) {f:Nat} {n:Int} (hf:f<N) {Q:Int→Mem→Prop} (hQ:∀ e S',Mv S ρ S' ρ (· = 9)→OwnP S' ρ ob N (recC own f n)→Q e S'):yS S (some (ob,0)) f n Q:=by
 apply fX
 unfold xy
 unfold recC at hQ
 refine zcf h hf (fun hk hv rs rb h1 h2 hb=>?_) fun hn=>?_
 ·simp only[jn]
  rw[if_neg (by decide),qk,zY (by rw[h2.cell hb (f*4+3) (by rw[vV];omega) (by omega)];exact zbA (j:=3) hf (by decide))]
  by_cases hs:0<(own f).sh
  ·rw[if_neg (fun h=>by omega)] at hQ
   rw[if_pos hs]
   exact hQ _ S (Mv.refl hg) ⟨rs,h1,h2⟩
  ·rw[if_pos ⟨hk,hv,by omega⟩] at hQ
   rw[if_neg hs,qk]
   exact wrow (j:=0) (o:=ow0) h1 h2 hb hg hf (by rfl) (by simp) (by omega) (by rfl) fun S' m h3 h4=>hQ _ S' m ⟨rs,h3,h4⟩
 ·rw[if_neg (fun h=>hn ⟨h.1,h.2.1⟩)] at hQ
  simp only[jn]
  rw[if_pos (by decide)]
  exact hQ _ S (Mv.refl hg) h
theorem zgz (h:OwnP S ρ ob N own) (hg:∀ b r,ρ b=some r→S b≠none) {f:Nat} (hf:f<N) {Q:Int→Mem→Prop} (hQ:∀ e S',Mv S ρ S' ρ (· = 9)→OwnP S' ρ ob N (relC own f)→Q e S'):wc S (some (ob,0)) f Q:=by
 apply fW
 unfold xx
 unfold relC at hQ
 refine zdi h hf fun rs rb h1 h2 hb=>?_
 simp only[jn]
 have e0:=(h2.cell hb (f*4) (by rw[vV];omega) (show 0+f*4=f*4 by omega)).trans (zbA (own:=own) (j:=0) hf (by decide))
 rw[if_neg (by decide),qk,zY e0]
 by_cases h3:(own f).kind=3
 ·rw[if_pos (.inl h3)] at hQ
  rw[if_pos h3]
  exact hQ _ S (Mv.refl hg) h
 ·rw[if_neg h3,zY e0]
  by_cases h0:(own f).kind=0
  ·rw[if_pos (.inr h0)] at hQ
   rw[if_pos h0]
   exact hQ _ S (Mv.refl hg) h
  ·rw[if_neg (fun h=>h.elim h3 h0)] at hQ
   rw[if_neg h0,qk]
   exact wrow (j:=0) (o:=ow0) h1 h2 hb hg hf (by rfl) (by simp) (by omega) (by rfl) fun S' m h3 h4=>hQ _ S' m ⟨rs,h3,h4⟩
theorem zjw (h:OwnP S ρ ob N own) (hN:N≤512) {kind n:Int} {Q:Int→Mem→Prop} (hQ:Q (count (fun f=>decide ((own f).kind=kind) && (decide (kind<2) || decide ((own f).vm=n))) N) S):vt S (some (ob,0)) kind n Q:=by
 obtain⟨rs,h1,h2⟩:=h.ex
 have hn:=h2.n (by decide) vV
 have hc:S.cell ob 0=some (eL rs):=h1.cell 0 (by simp) rfl
 apply zbf
 unfold wx
 simp only[jn]
 rw[if_neg (by simp),qk,jW hc]
 refine zX (fun (z:Int×Int) S'=>∃ i:Nat,z=(((count (fun f=>decide ((own f).kind=kind) && (decide (kind<2) || decide ((own f).vm=n))) i:Nat):Int),(i:Int))∧i≤N∧S'=S) (fun z=>N-z.2.toNat) ?_ ⟨0,rfl,by omega,rfl⟩
 rintro X z S' ⟨i,rfl,hi,rfl⟩ ih
 dsimp only at ih ⊢
 have hcl:=kg (fun f=>decide ((own f).kind=kind) && (decide (kind<2) || decide ((own f).vm=n))) i
 by_cases hlt:(i:Int)<(rs.n:Int)
 ·obtain⟨rb,e1,e2⟩:=h2.sl (by rw[vV];omega)
  rw[if_pos hlt]
  rw[e1,zah]
  refine⟨by omega,by omega,?_⟩
  rw[Int.toNat_natCast,jo (by rw[h2.part e2 (i*4) (by rw[vV];omega) (by omega)];exact zne (by omega))]
  refine⟨rfl,?_⟩
  rw[zY (show nthL (owL (own i)) 0=some (.int .u8 (own i).kind) from rfl),w64 (x:=(i:Int)+1) (by omega) (by omega),w64 (x:=(_:Int)+1) (by omega) (by omega)]
  have hs:=qZ (fun f=>decide ((own f).kind=kind) && (decide (kind<2) || decide ((own f).vm=n))) i
  by_cases hk:(own i).kind=kind
  ·rw[if_pos hk]
   by_cases h2':kind<2
   ·rw[if_pos h2']
    refine ih _ S' ⟨i+1,?_,by omega,rfl⟩ (by dsimp only;omega)
    rw[hs];simp[hk,h2']
   ·rw[if_neg h2',zY (show nthL (owL (own i)) 1=some (.int .i64 (own i).vm) from rfl)]
    by_cases hv:(own i).vm=n
    ·rw[if_pos hv]
     refine ih _ S' ⟨i+1,?_,by omega,rfl⟩ (by dsimp only;omega)
     rw[hs];simp[hk,hv]
    ·rw[if_neg hv]
     refine ih _ S' ⟨i+1,?_,by omega,rfl⟩ (by dsimp only;omega)
     rw[hs];simp[hv,h2']
  ·rw[if_neg hk]
   refine ih _ S' ⟨i+1,?_,by omega,rfl⟩ (by dsimp only;omega)
   rw[hs];simp[hk]
 ·rw[if_neg hlt]
  have:i=N:=by omega
  subst this;exact hQ
end
end Go.Proofs.YtabdpmnhjlmnlaaGreatDoor
end
section
namespace Go.Proofs.YtabdpmnhjlmnlaaGreatDoor
open Go Go.Pt Go.Cr Go.Hp
structure AlmOf (l:List Hk.Al) (alm:Nat→Nat→Option Int):Prop where
 nd:l.Nodup
 of:∀ a∈l,0≤a.vm∧a.vm<6∧0≤a.seat∧a.seat<3∧alm a.vm.toNat a.seat.toNat=some a.tm
 to:∀ n k t,alm n k=some t→(⟨t,n,k⟩:Hk.Al)∈l
theorem AlmOf.eq {l:List Hk.Al} {alm:Nat→Nat→Option Int} (h:AlmOf l alm) {a b:Hk.Al} (ha:a∈l) (hb:b∈l) (e1:a.vm=b.vm) (e2:a.seat=b.seat):a=b:=by
 have h1:=(h.of a ha).2.2.2.2
 have h2:=(h.of b hb).2.2.2.2
 rw[e1,e2,h2] at h1
 obtain⟨t,v,s⟩:=a
 obtain⟨t',v',s'⟩:=b
 simp only at e1 e2 h1
 cases h1;subst e1;subst e2;rfl
theorem AlmOf.len {l:List Hk.Al} {alm:Nat→Nat→Option Int} (h:AlmOf l alm):l.length≤18:=by
 have hnd:(l.map fun a=>(3*a.vm+a.seat).toNat).Nodup:=by
  unfold List.Nodup
  rw[List.pairwise_map]
  have:=h.nd
  rw[List.Nodup,List.pairwise_iff_forall_sublist] at this
  rw[List.pairwise_iff_forall_sublist]
  intro a b hs he
  have ha:a∈l:=hs.subset (by simp)
  have hb:b∈l:=hs.subset (by simp)
  have h1:=h.of a ha
  have h2:=h.of b hb
  exact this hs (h.eq ha hb (by omega) (by omega))
 have:=hnd.length_le_of_subset (l₂:=List.range 18) fun x hx=>by
  obtain⟨a,ha,rfl⟩:=List.mem_map.1 hx
  have h1:=h.of a ha
  rw[List.mem_range];omega
 simpa using this
theorem AlmOf.perm {l l':List Hk.Al} {alm:Nat→Nat→Option Int} (h:AlmOf l alm) (p:l'.Perm l):AlmOf l' alm:=
 ⟨p.nodup_iff.2 h.nd,fun a ha=>h.of a (p.subset ha),fun n k t e=>p.symm.subset (h.to n k t e)⟩
structure ClkP (S:Mem) (ρ:Rho) (kb:Nat) (alm:Nat→Nat→Option Int):Prop where
 ex:∃ tb s l,Hk.Ck S kb 0 tb [eL s] s l∧(∀ x∈Hk.own s,ρ x=some 11)∧AlmOf l alm
 rol:ρ kb=some 10
structure VmP (S:Mem) (ρ:Rho) (i:Nat) (x:Vx) (v:Bv) (fr:List Nat):Prop where
 se:Rw S ρ (30+i) 26 x.ss (v.seats.flatMap Seat.L)
 r:∀ s∈v.seats,s.Ok
 fr:Rw S ρ (40+i) 1 x.fs (nL fr)
 ke:Rw S ρ (50+i) 1 x.ks (bL v.keys)
 di:∀ j,j<4→Rw S ρ (60+4*i+j) 1 (x.d j) (bL (v.disk j))
structure Ad where
 m:Nat
 p:Nat
 t:Nat
 ob:Nat
 kb:Nat
 cs:Sl
 gs:Sl
 es:Nat→Sl
 x:Nat→Vx
def hdL (A:Ad):List Value:=[eP (some (A.m,0)),eP (some (A.p,0)),eL A.cs,eP (some (A.t,0)),eL A.gs]++cF 6 fun i=>[eL (A.es i)]
structure CrabA (S:Mem) (ρ:Rho) (h:Nat) (A:Ad) (C:Cst):Prop where
 rg:∀ b r,ρ b=some r→S b≠none
 g0:ρ 0=none
 gl:Gl S
 hd:Pc S ρ 0 h (hdL A)
 st:StoreD S ρ A.m C.N C.dat
 pl:PoolP S ρ A.p C.N C.used C.left
 ca:Rw S ρ 6 5 A.cs (C.cache.flatMap cwL)
 tt:Pc S ρ 7 A.t (knL C.toKn A.x A.ob A.kb)
 ow:OwnP S ρ A.ob C.N C.own
 ck:ClkP S ρ A.kb C.alm
 gs:Rw S ρ 12 1 A.gs (nL C.region)
 ev:∀ i,i<6→Rw S ρ (20+i) 4 (A.es i) ((C.ev i).flatMap evL)
 vs:∀ i,i<6→VmP S ρ i (A.x i) (C.vm i) (C.fr i)
abbrev Rc (r:Nat):Prop:=r<110
section
variable {S S':Mem} {ρ ρ':Rho} {R:Nat→Prop}
theorem ClkP.keep {kb:Nat} {alm:Nat→Nat→Option Int} (h:ClkP S ρ kb alm) (m:Mv S ρ S' ρ' R) (h1:¬R 10) (h2:¬R 11):ClkP S' ρ' kb alm:=by
 obtain⟨tb,s,l,hck,ho,ha⟩:=h.ex
 refine⟨⟨tb,s,l,⟨?_,hck.cell,?_,hck.ne,hck.heap,hck.len⟩,fun x hx=>m.ext x 11 (ho x hx),ha⟩,m.ext kb 10 h.rol⟩
 ·rw[gR m (by rw[hck.blk];simp) h.rol h1];exact hck.blk
 ·refine hck.row.keep fun b hb=>?_
  have hx:b∈Hk.own s:=by simp[Hk.own,hb]
  obtain⟨k,hk⟩:=Hk.own_row hck.row hx
  exact gR m (by rw[hk];simp) (ho b hx) h2
theorem VmP.keep {i:Nat} {x:Vx} {v:Bv} {fr:List Nat} (h:VmP S ρ i x v fr) (m:Mv S ρ S' ρ' R) (hi:i<6) (hR:∀ r,30≤r→r<90→¬R r):VmP S' ρ' i x v fr:=
 ⟨h.se.keep m (hR _ (by omega) (by omega)),h.r,h.fr.keep m (hR _ (by omega) (by omega)),h.ke.keep m (hR _ (by omega) (by omega)),fun j hj=>(h.di j hj).keep m (hR _ (by omega) (by omega))⟩
theorem zck (h:Gl S):S 0≠none:=by
 obtain⟨t,k,hl⟩:=h
 rw[hl];simp
theorem kA (h:Gl S) (m:Mv S ρ S' ρ' R) (h0:ρ 0=none):Gl S':=by
 exact h.keep (m.kp 0 (zck h) fun r e=>by rw[h0] at e;cases e)
theorem kB (h:Gl S) (m:Mv S ρ S' ρ' R) (h0:ρ 0=none):ρ' 0=none:=by
 cases e:ρ' 0 with
 | none=>rfl
 | some r=>
  have:=m.old 0 r e (zck h)
  rw[h0] at this;cases this
variable {h:Nat} {A:Ad} {C:Cst}
theorem CrabA.keep (hc:CrabA S ρ h A C) (m:Mv S ρ S' ρ' R) (hR:∀ r,r<90→¬R r):CrabA S' ρ' h A C:=
 ⟨m.rg,kB hc.gl m hc.g0,kA hc.gl m hc.g0,hc.hd.keep m (hR _ (by decide)),hc.st.keep m (hR _ (by decide)) (hR _ (by decide)),hc.pl.keep m (hR _ (by decide)) (hR _ (by decide)) (hR _ (by decide)),hc.ca.keep m (hR _ (by decide)),hc.tt.keep m (hR _ (by decide)),hc.ow.keep m (hR _ (by decide)) (hR _ (by decide)),hc.ck.keep m (hR _ (by decide)) (hR _ (by decide)),hc.gs.keep m (hR _ (by decide)),fun i hi=>(hc.ev i hi).keep m (hR _ (by omega)),fun i hi=>(hc.vs i hi).keep m hi fun r _ h2=>hR r h2⟩
theorem CrabA.keeps (hc:CrabA S ρ h A C) (hk:Keeps S S' []):CrabA S' ρ h A C:=hc.keep (Mv.keeps (R:=fun _=>False) hc.rg hk) fun _ _ h=>h
theorem CrabA.mv0 (hc:CrabA S ρ h A C) (hk:Keeps S S' []):Mv S ρ S' ρ Rc:=Mv.keeps hc.rg hk
theorem CrabA.setStore (hc:CrabA S ρ h A C) (m:Mv S ρ S' ρ' (· = 2)) {d:Nat→List Int} (hs:StoreD S' ρ' A.m C.N d):CrabA S' ρ' h A { C with dat:=d }:=
 ⟨m.rg,kB hc.gl m hc.g0,kA hc.gl m hc.g0,hc.hd.keep m (by decide),hs,hc.pl.keep m (by decide) (by decide) (by decide),hc.ca.keep m (by decide),hc.tt.keep m (by decide),hc.ow.keep m (by decide) (by decide),hc.ck.keep m (by decide) (by decide),hc.gs.keep m (by decide),fun i hi=>(hc.ev i hi).keep m (by omega),fun i hi=>(hc.vs i hi).keep m hi fun r h1 h2=>by omega⟩
theorem CrabA.setPool (hc:CrabA S ρ h A C) (m:Mv S ρ S' ρ' R) (hR:∀ r,R r→R345 r∨100≤r) {u:Nat→Bool} {left:Int} (hs:PoolP S' ρ' A.p C.N u left):CrabA S' ρ' h A { C with used:=u,left:=left }:=by
 have n:∀ r,r<90→r≠3→r≠4→r≠5→¬R r:=fun r h1 h2 h3 h4 h5=>by
  rcases hR r h5 with h6 | h6
  ·unfold R345 at h6;omega
  ·omega
 exact⟨m.rg,kB hc.gl m hc.g0,kA hc.gl m hc.g0,hc.hd.keep m (n _ (by decide) (by decide) (by decide) (by decide)),hc.st.keep m (n _ (by decide) (by decide) (by decide) (by decide)) (n _ (by decide) (by decide) (by decide) (by decide)),hs,hc.ca.keep m (n _ (by decide) (by decide) (by decide) (by decide)),hc.tt.keep m (n _ (by decide) (by decide) (by decide) (by decide)),hc.ow.keep m (n _ (by decide) (by decide) (by decide) (by decide)) (n _ (by decide) (by decide) (by decide) (by decide)),hc.ck.keep m (n _ (by decide) (by decide) (by decide) (by decide)) (n _ (by decide) (by decide) (by decide) (by decide)),hc.gs.keep m (n _ (by decide) (by decide) (by decide) (by decide)),fun i hi=>(hc.ev i hi).keep m (n _ (by omega) (by omega) (by omega) (by omega)),fun i hi=>(hc.vs i hi).keep m hi fun r h1 h2=>n r h2 (by omega) (by omega) (by omega)⟩
theorem CrabA.setOwn (hc:CrabA S ρ h A C) (m:Mv S ρ S' ρ' (· = 9)) {o:Nat→Ow} (hs:OwnP S' ρ' A.ob C.N o):CrabA S' ρ' h A { C with own:=o }:=
 ⟨m.rg,kB hc.gl m hc.g0,kA hc.gl m hc.g0,hc.hd.keep m (by decide),hc.st.keep m (by decide) (by decide),hc.pl.keep m (by decide) (by decide) (by decide),hc.ca.keep m (by decide),hc.tt.keep m (by decide),hs,hc.ck.keep m (by decide) (by decide),hc.gs.keep m (by decide),fun i hi=>(hc.ev i hi).keep m (by omega),fun i hi=>(hc.vs i hi).keep m hi fun r h1 h2=>by omega⟩
theorem CrabA.setClk (hc:CrabA S ρ h A C) (m:Mv S ρ S' ρ' R) (hR:∀ r,R r→r=10∨r=11∨100≤r) {a:Nat→Nat→Option Int} (hs:ClkP S' ρ' A.kb a):CrabA S' ρ' h A { C with alm:=a }:=by
 have n:∀ r,r<90→r≠10→r≠11→¬R r:=fun r h1 h2 h3 h5=>by have:=hR r h5;omega
 exact⟨m.rg,kB hc.gl m hc.g0,kA hc.gl m hc.g0,hc.hd.keep m (n _ (by decide) (by decide) (by decide)),hc.st.keep m (n _ (by decide) (by decide) (by decide)) (n _ (by decide) (by decide) (by decide)),hc.pl.keep m (n _ (by decide) (by decide) (by decide)) (n _ (by decide) (by decide) (by decide)) (n _ (by decide) (by decide) (by decide)),hc.ca.keep m (n _ (by decide) (by decide) (by decide)),hc.tt.keep m (n _ (by decide) (by decide) (by decide)),hc.ow.keep m (n _ (by decide) (by decide) (by decide)) (n _ (by decide) (by decide) (by decide)),hs,hc.gs.keep m (n _ (by decide) (by decide) (by decide)),fun i hi=>(hc.ev i hi).keep m (n _ (by omega) (by omega) (by omega)),fun i hi=>(hc.vs i hi).keep m hi fun r h1 h2=>n r h2 (by omega) (by omega)⟩
theorem CrabA.setKn (hc:CrabA S ρ h A C) (m:Mv S ρ S' ρ' (· = 7)) {k:Kn} {x:Nat→Vx} (ht:Pc S' ρ' 7 A.t (knL k x A.ob A.kb)) (hv:∀ i,i<6→VmP S' ρ' i (x i) (k.vm i) (k.fr i)):CrabA S' ρ' h { A with x:=x } { C with toKn:=k }:=
 ⟨m.rg,kB hc.gl m hc.g0,kA hc.gl m hc.g0,hc.hd.keep m (by decide),hc.st.keep m (by decide) (by decide),hc.pl.keep m (by decide) (by decide) (by decide),hc.ca.keep m (by decide),ht,hc.ow.keep m (by decide) (by decide),hc.ck.keep m (by decide) (by decide),hc.gs.keep m (by decide),fun i hi=>(hc.ev i hi).keep m (by omega),hv⟩
theorem CrabA.setVm (hc:CrabA S ρ h A C) (m:Mv S ρ S' ρ' R) (hR:∀ r,R r→r=7∨(30≤r∧r<90)∨100≤r) {k:Kn} {x:Nat→Vx} (ht:Pc S' ρ' 7 A.t (knL k x A.ob A.kb)) (hv:∀ i,i<6→VmP S' ρ' i (x i) (k.vm i) (k.fr i)):CrabA S' ρ' h { A with x:=x } { C with toKn:=k }:=by
 have n:∀ r,r<30→r≠7→¬R r:=fun r h1 h2 h5=>by have:=hR r h5;omega
 exact⟨m.rg,kB hc.gl m hc.g0,kA hc.gl m hc.g0,hc.hd.keep m (n _ (by decide) (by decide)),hc.st.keep m (n _ (by decide) (by decide)) (n _ (by decide) (by decide)),hc.pl.keep m (n _ (by decide) (by decide)) (n _ (by decide) (by decide)) (n _ (by decide) (by decide)),hc.ca.keep m (n _ (by decide) (by decide)),ht,hc.ow.keep m (n _ (by decide) (by decide)) (n _ (by decide) (by decide)),hc.ck.keep m (n _ (by decide) (by decide)) (n _ (by decide) (by decide)),hc.gs.keep m (n _ (by decide) (by decide)),fun i hi=>(hc.ev i hi).keep m (n _ (by omega) (by omega)),hv⟩
theorem CrabA.setCache (hc:CrabA S ρ h A C) (m:Mv S ρ S' ρ' (fun r=>r=0∨r=6)) {cs:Sl} {l:List Cw} (hh:Pc S' ρ' 0 h (hdL { A with cs:=cs })) (hs:Rw S' ρ' 6 5 cs (l.flatMap cwL)):CrabA S' ρ' h { A with cs:=cs } { C with cache:=l }:=
 ⟨m.rg,kB hc.gl m hc.g0,kA hc.gl m hc.g0,hh,hc.st.keep m (by decide) (by decide),hc.pl.keep m (by decide) (by decide) (by decide),hs,hc.tt.keep m (by decide),hc.ow.keep m (by decide) (by decide),hc.ck.keep m (by decide) (by decide),hc.gs.keep m (by decide),fun i hi=>(hc.ev i hi).keep m (by omega),fun i hi=>(hc.vs i hi).keep m hi fun r h1 h2=>by omega⟩
theorem CrabA.setEv (hc:CrabA S ρ h A C) (m:Mv S ρ S' ρ' R) (hR:∀ r,R r→r=0∨(20≤r∧r<26)) {es:Nat→Sl} {ev:Nat→List Evt} (hh:Pc S' ρ' 0 h (hdL { A with es:=es })) (hs:∀ i,i<6→Rw S' ρ' (20+i) 4 (es i) ((ev i).flatMap evL)):CrabA S' ρ' h { A with es:=es } { C with ev:=ev }:=by
 have n:∀ r,r≠0→(r<20∨26≤r)→¬R r:=fun r h1 h2 h5=>by have:=hR r h5;omega
 exact⟨m.rg,kB hc.gl m hc.g0,kA hc.gl m hc.g0,hh,hc.st.keep m (n _ (by decide) (by decide)) (n _ (by decide) (by decide)),hc.pl.keep m (n _ (by decide) (by decide)) (n _ (by decide) (by decide)) (n _ (by decide) (by decide)),hc.ca.keep m (n _ (by decide) (by decide)),hc.tt.keep m (n _ (by decide) (by decide)),hc.ow.keep m (n _ (by decide) (by decide)) (n _ (by decide) (by decide)),hc.ck.keep m (n _ (by decide) (by decide)) (n _ (by decide) (by decide)),hc.gs.keep m (n _ (by decide) (by decide)),hs,fun i hi=>(hc.vs i hi).keep m hi fun r h1 h2=>n r (by omega) (by omega)⟩
theorem fa:(hdL A).length=11:=by
 unfold hdL
 rw[List.length_append,xr (w:=1) fun _ _=>rfl];rfl
theorem CrabA.c0 (hc:CrabA S ρ h A C):S.cell h 0=some (eP (some (A.m,0))):=hc.hd.cell 0 (by rw[fa];decide) rfl
theorem CrabA.c1 (hc:CrabA S ρ h A C):S.cell h (0+1)=some (eP (some (A.p,0))):=hc.hd.cell 1 (by rw[fa];decide) rfl
theorem CrabA.c3 (hc:CrabA S ρ h A C):S.cell h (0+3)=some (eP (some (A.t,0))):=hc.hd.cell 3 (by rw[fa];decide) rfl
theorem CrabA.c4 (hc:CrabA S ρ h A C):S.cell h (0+4)=some (eL A.gs):=hc.hd.cell 4 (by rw[fa];decide) rfl
theorem zou {i:Nat} (hi:i<6):nthL (hdL A) (5+i)=some (eL (A.es i)):=by
 unfold hdL
 rw[qF (n:=5) rfl]
 have:=zeo (w:=1) (k:=0) (n:=6) (f:=fun i=>[eL (A.es i)]) (fun _ _=>rfl) hi (by decide)
 rw[Nat.mul_one] at this;exact this
theorem zkT {i:Nat} (hi:i<6) (s:Sl):spl (hdL A) (5+i) [eL s]=hdL { A with es:=upd A.es i s }:=by
 unfold hdL
 rw[qz (n:=5) rfl]
 have:=zen (w:=1) (k:=0) (n:=6) (vs:=[eL s]) (f:=fun i=>[eL (A.es i)]) (fun _ _=>rfl) hi (by simp)
 rw[Nat.mul_one] at this
 rw[show spl (cF 6 fun i=>[eL (A.es i)]) i [eL s]=_ from this]
 congr 1
 refine ye fun n _=>?_
 by_cases e:n=i
 ·subst e;simp only[zq];rfl
 ·simp only[zo e]
theorem CrabA.cev (hc:CrabA S ρ h A C) {i x:Nat} (hi:i<6) (hx:x=5+i):S.cell h x=some (eL (A.es i)):=(hc.hd.cell (5+i) (by rw[fa];omega) hx).trans (zou hi)
theorem CrabA.t74 (hc:CrabA S ρ h A C):S.cell A.t (0+74)=some (eP (some (A.ob,0))):=(hc.tt.cell 74 (by rw[jm];decide) rfl).trans zmx
theorem CrabA.t171 (hc:CrabA S ρ h A C):S.cell A.t (0+171)=some (eP (some (A.kb,0))):=(hc.tt.cell 171 (by rw[jm];decide) rfl).trans zoq
theorem CrabA.tform (hc:CrabA S ρ h A C):S.cell A.t 0=some (.int .i64 C.form):=hc.tt.cell 0 (by rw[jm];decide) rfl
theorem CrabA.tnow (hc:CrabA S ρ h A C):S.cell A.t (0+1)=some (.int .u64 C.now):=hc.tt.cell 1 (by rw[jm];decide) rfl
theorem CrabA.vcell (hc:CrabA S ρ h A C) {n j x:Nat} (hn:n<6) (hj:j<12) (hx:x=2+n*12+j):S.cell A.t x=nthL (vmC (A.x n) (C.vm n) (C.tf n) (C.late n)) j:=
 (hc.tt.cell (2+(n*12+j)) (by rw[jm];omega) (by omega)).trans (zop hn hj)
theorem CrabA.vtab (hc:CrabA S ρ h A C) {n x:Nat} (hn:n<6) (hx:x=2+n*12+2):S.part A.t x 2=some (tbL (C.tf n) (A.x n).fs):=
 (hc.tt.part (2+(n*12+2)) (by rw[jm];omega) (by omega)).trans (zno hn (by decide))
theorem CrabA.tls (hc:CrabA S ρ h A C):S.part A.t (0+75) 96=some (cF 16 fun i=>lsL (C.ls i)):=(hc.tt.part 75 (by rw[jm];decide) rfl).trans znq
theorem CrabA.cap (hc:CrabA S ρ h A C):CaP S ρ 0 h 2 (fun cs=>hdL { A with cs:=cs }) C.cache:=⟨⟨A.cs,hc.hd,hc.ca⟩,fun _=>rfl,fun _ _=>rfl,by decide⟩
end
end Go.Proofs.YtabdpmnhjlmnlaaGreatDoor
end
section
namespace Go.Pt
open Go Go.RowKit Go.Cr
variable {S S':Mem} {ρ ρ':Rho} {r w:Nat} {s:Sl} {l:List Value}
theorem Rw.put (h:Rw S ρ r w s l) (hg:∀ b r,ρ b=Option.some r→S b≠none) {c:Nat} (hc:s.p=Option.some (c,0)) {vs:List Value} {i:Nat} (hi:i+vs.length≤l.length) :
  Mv S ρ (S.put c i vs) ρ (· = r)∧Rw (S.put c i vs) ρ r w s (spl l i vs):=by
 have hl:=h.row.len
 have hcap:=h.row.cap
 have hr:=h.rol c 0 hc
 rcases h.row.lie with ⟨h1,_⟩ | ⟨b,k,h1,h2,h3,h4,h5⟩
 ·rw[h1] at hc;cases hc
 ·rw[h1] at hc;cases hc
  have hm:s.n*w≤s.c*w:=Nat.mul_le_mul_right _ hcap
  rw[vU h2]
  refine⟨Mv.put (R:=(· = r)) (Mv.refl hg) hr rfl _,⟨by rw[qx hi];exact hl,hcap,.inr ⟨c,_,h1,zO,h3,?_,?_⟩⟩,h.rol⟩
  ·simp only;rw[qx (by omega)];exact h4
  ·simp only
   rw[←h5]
   have hkl:k.cs=k.cs.take (s.n*w)++k.cs.drop (s.n*w):=(List.take_append_drop _ _).symm
   have h6:(k.cs.take (s.n*w)).length=s.n*w:=by rw[List.length_take];omega
   have e:spl k.cs i vs=spl (k.cs.take (s.n*w)) i vs++k.cs.drop (s.n*w):=by
    conv=>lhs;rw[hkl]
    exact vX (by omega)
   rw[e,List.take_left' (by rw[qx (by omega)];exact h6)]
theorem Rw.sub (h:Rw S ρ r w s l) {c:Nat} (hc:s.p=Option.some (c,0)) {i:Nat} {v:List Value} (hv:lpart l i v.length=Option.some v):At S c i v:=by
 have hl:=h.row.len
 have hcap:=h.row.cap
 have hi:=(qG hv).1
 rcases h.row.lie with ⟨h1,_⟩ | ⟨b,k,h1,h2,h3,h4,h5⟩
 ·rw[h1] at hc;cases hc
 ·rw[h1] at hc;cases hc
  have hm:s.n*w≤s.c*w:=Nat.mul_le_mul_right _ hcap
  refine⟨k,h2,h3,?_⟩
  rw[qJ (by omega)]
  rw[qJ hi] at hv
  rw[←hv,←h5]
  congr 1
  apply List.ext_getElem?
  intro j
  simp only[List.getElem?_take,List.getElem?_drop]
  by_cases hj:j<v.length
  ·rw[if_pos hj,if_pos hj,if_pos (by omega)]
  ·rw[if_neg hj,if_neg hj]
end Go.Pt
end
