/- Texts of this work,joined by program (pack.py). -/
import Derived.Test.YtabdpmnhjlmnlaaGreatDoorQBM
import Derived.Test.YtabdpmnhjlmnlaaGreatDoorQBC
import Derived.Test.YtabdpmnhjlmnlaaGreatDoorQBD
import Derived.Test.YtabdpmnhjlmnlaaGreatDoorQBI
set_option linter.unusedVariables false
section
namespace Go.Cr
open Go Go.Pt
theorem zez {N:Nat}:∀ {i k:Nat} {u u':Nat→Bool} {l:List Nat},takeN N (i+k) u=some (l,u')→∃ u1,takeN N i u=some (l.take i,u1)∧takeN N k u1=some (l.drop i,u')
 | 0,k,u,u',l,h=>by
  rw[Nat.zero_add] at h
  exact⟨u,by simp[takeN],by simpa using h⟩
 | i+1,k,u,u',l,h=>by
  rw[show i+1+k=(i+k)+1 by omega] at h
  simp only[takeN] at h
  cases h1:firstOff u N with
  | none=>rw[h1] at h;cases h
  | some f=>
   rw[h1] at h
   dsimp only at h
   cases h2:takeN N (i+k) (upd u f true) with
   | none=>rw[h2] at h;cases h
   | some q=>
    obtain⟨l2,u2⟩:=q
    rw[h2] at h
    simp only[Option.some.injEq,Prod.mk.injEq] at h
    obtain⟨rfl,rfl⟩:=h
    obtain⟨u1,h3,h4⟩:=zez h2
    refine⟨u1,?_,by simpa using h4⟩
    have e:takeN N (i+1) u=(match firstOff u N with
     | none=>none
     | some f=>match takeN N i (upd u f true) with
      | none=>none
      | some (l,u')=>some (f :: l,u')):=rfl
    rw[e]
    simp only[h1,h3]
    rfl
theorem zjN {N k:Nat} {u u':Nat→Bool} {f:Nat} {l:List Nat} (h:takeN N (k+1) u=some (f :: l,u')):firstOff u N=some f∧takeN N k (upd u f true)=some (l,u'):=by
 simp only[takeN] at h
 cases h1:firstOff u N with
 | none=>rw[h1] at h;cases h
 | some g=>
  rw[h1] at h
  dsimp only at h
  cases h2:takeN N k (upd u g true) with
  | none=>rw[h2] at h;cases h
  | some q=>
   obtain⟨l2,u2⟩:=q
   rw[h2] at h
   simp only[Option.some.injEq,Prod.mk.injEq,List.cons.injEq] at h
   obtain⟨⟨rfl,rfl⟩,rfl⟩:=h
   exact⟨rfl,h2⟩
end Go.Cr
namespace Go.Proofs.YtabdpmnhjlmnlaaGreatDoor
open Go Go.Pt Go.Cr Go.Hp
structure ImgAt (S:Mem) (ρ:Rho) (s:Sl) (xs:List Int):Prop where
 len:xs.length=s.n
 cap:s.n≤s.c
 byt:Byt xs
 lie:xs=[]∨∃ b o,s.p=some (b,o)∧S.part b o xs.length=some (bL xs)∧ρ b=none∧S b≠none
section
variable {S S':Mem} {ρ ρ':Rho} {R:Nat→Prop} {h:Nat} {A:Ad} {C:Cst} {W:Wd} {φ:Nat→Nat→Nat}
theorem ImgAt.mv {s:Sl} {xs:List Int} (hi:ImgAt S ρ s xs) (m:Mv S ρ S' ρ' R):ImgAt S' ρ' s xs:=by
 refine⟨hi.len,hi.cap,hi.byt,hi.lie.imp id fun⟨b,o,h1,h2,h3,h4⟩=>?_⟩
 have e:S' b=S b:=m.kp b h4 fun r e=>by rw[h3] at e;cases e
 refine⟨b,o,h1,?_,?_,by rw[e];exact h4⟩
 ·obtain⟨k,e1,e2⟩:=zfc h2
  rw[yh (by rw[e];exact e1)];exact e2
 ·cases hq:ρ' b with
  | none=>rfl
  | some r=>have:=m.old b r hq h4;rw[h3] at this;cases this
theorem kY {r size:Nat} {t:Sl} {l:List Value} (m:Mv S ρ S' ρ' R) (hrow:Row S' size t l) (hf:∀ b o,t.p=some (b,o)→S b=none∧ρ' b=none) (h0:S 0≠none) :
  ∃ ρ'',Mv S ρ S' ρ'' R∧Wide S' ρ' ρ''∧Rw S' ρ'' r size t l∧∀ x,(∀ o,t.p≠some (x,o))→ρ'' x=ρ' x:=by
 rcases hrow.lie with ⟨h1,_⟩ | ⟨b,k,h1,h2,_⟩
 ·exact⟨ρ',m,⟨fun _ _ h=>h,m.rg,fun h=>h⟩,⟨hrow,fun b o h=>by rw[h1] at h;cases h⟩,fun _ _=>rfl⟩
 ·obtain⟨hb,hb2⟩:=hf b 0 h1
  have hs:S' b≠none:=by rw[h2];simp
  refine⟨ρ'.upd b r,⟨fun x q e=>?_,fun x q e hx=>?_,m.kp,m.al,fun x q e=>?_⟩,⟨fun x q e=>?_,fun x q e=>?_,fun e=>?_⟩,⟨hrow,fun b' o h=>by rw[h1] at h;cases h;exact qO⟩,fun x hx=>?_⟩
  ·rw[yp (fun e2=>by have:=m.ext x q e;rw[e2,hb2] at this;cases this)];exact m.ext x q e
  ·rw[yp (fun e2=>hx (by rw[e2];exact hb))] at e;exact m.old x q e hx
  ·by_cases e2:x=b
   ·rw[e2];exact hs
   ·rw[yp e2] at e;exact m.rg x q e
  ·rw[yp (fun e2=>by rw[e2,hb2] at e;cases e)];exact e
  ·by_cases e2:x=b
   ·rw[e2];exact hs
   ·rw[yp e2] at e;exact m.rg x q e
  ·rw[yp (fun e2=>h0 (by rw[e2];exact hb))];exact e
  ·exact yp fun e=>hx 0 (by rw[e];exact h1)
theorem Wide.trans {ρ'':Rho} (h1:Wide S ρ ρ') (h2:Wide S ρ' ρ''):Wide S ρ ρ'':=⟨fun b r e=>h2.ext b r (h1.ext b r e),h2.rg,fun e=>h2.g0 (h1.g0 e)⟩
theorem zjp {b:Nat} (hb:S b=some (bw 5 (bL noughts))):Row S 1 (pg b) (bL noughts):=by
 have hl:(bL noughts).length=256:=by unfold bL;rw[List.length_map];exact qz
 refine⟨by rw[hl];rfl,Nat.le_refl _,.inr ⟨b,_,rfl,hb,rfl,?_,?_⟩⟩
 ·show (bL noughts).length=256*1;rw[hl]
 ·show (bL noughts).take (256*1)=_
  exact List.take_of_length_le (by rw[hl];decide)
theorem pagesLoop {n:Nat} (hn:n<6) {seats quota:Int} (hwk:WOk W) (hoff:(W.vm n).on=false) {pages:Nat} (hp:pages≤32) (hpq:(pages:Int)≤quota) {img:Sl} {xs:List Int} {t:Sl} {l:List Nat} {c:Nat} {u:Nat→Bool} (hll:l.length=5+pages) (hlN:∀ f∈l,f<C.N)
  (hcC:CrabA S ρ h A C) (hu:C.used=u) {u0:Nat→Bool} (htk:takeN C.N pages u0=some (l.drop 5,u)) (hrel:Rel { C with used:=u0 } (W.newV n seats quota) φ)
  (hrow:Rw S ρ 102 1 t (nL l)) (hc:t.p=some (c,0)) (himg:ImgAt S ρ img xs) (hil:(xs.length:Int)≤1000000) {Q:Mem→Prop}
  (hQ:∀ S',After h A C S ρ (W.newP n seats quota xs pages) S'→Q S') :
  lp (fun (Xx:Int→Mem→Prop) (t_15:Int) (Sx_11:Mem)=>
   if t_15<((slc 1 t 5 (t.n:Int)).n:Int) then
    sl (slc 1 t 5 (t.n:Int)) fun b_5 o_4 n_1 n_2=>
    0≤t_15∧t_15<((n_1:Nat):Int) ∧
    gI (Sx_11.cell b_5 (o_4+t_15.toNat*1)) .i64 fun t_16=>
    crab_Crab_own Sx_11 (some (h,0)) n t_15 t_16 fun Sx_12=>
    if IntKind.i64.wrap (256*t_15)<(img.n:Int) then
     gP (Sx_12.cell h 0) fun t_17=>
     (0:Int)≤IntKind.i64.wrap (256*t_15)∧(IntKind.i64.wrap (256*t_15):Int)≤(if (img.n:Int)<IntKind.i64.wrap ((IntKind.i64.wrap (256*t_15))+256) then (img.n:Int) else IntKind.i64.wrap ((IntKind.i64.wrap (256*t_15))+256))∧(if (img.n:Int)<IntKind.i64.wrap ((IntKind.i64.wrap (256*t_15))+256) then (img.n:Int) else IntKind.i64.wrap ((IntKind.i64.wrap (256*t_15))+256))≤(img.c:Int) ∧
     lt (slc 1 img (IntKind.i64.wrap (256*t_15)) (if (img.n:Int)<IntKind.i64.wrap ((IntKind.i64.wrap (256*t_15))+256) then (img.n:Int) else IntKind.i64.wrap ((IntKind.i64.wrap (256*t_15))+256))) fun t_18=>
     qg Sx_12 t_17 t_16 0 t_18 fun t_19 Sx_13=>
     Xx (IntKind.i64.wrap (t_15+1)) Sx_13
    else
    Xx (IntKind.i64.wrap (t_15+1)) Sx_12
   else Q Sx_11) 0 S:=by
 have htn:=hrow.n (by decide) (gy l)
 have hcap:=hrow.row.cap
 have es:slc 1 t 5 (t.n:Int)=if t.c=5 then ⟨some (c,0),pages,t.c-5⟩ else ⟨some (c,5),pages,t.c-5⟩:=by
  unfold slc
  rw[hc]
  have e1:(5:Int).toNat=5:=rfl
  have e2:((t.n:Int)-5).toNat=pages:=by omega
  rw[e1,e2]
  split <;> rfl
 have hN:=hcC.st.lim
 refine zM (fun (z:Int) S'=>∃ (i:Nat) (ρ':Rho) (A':Ad) (C':Cst) (φ':Nat→Nat→Nat) (ui:Nat→Bool),z=(i:Int)∧i≤pages∧Mv S ρ S' ρ' Rc∧CrabA S' ρ' h A' C'∧C'.used=u∧Kp C C'∧A'.t=A.t∧A'.m=A.m∧A'.x=A.x∧takeN C.N (pages-i) ui=some (l.drop (5+i),u)∧Rel { C' with used:=ui } (W.newP n seats quota xs i) φ'∧Rw S' ρ' 102 1 t (nL l)) (fun z=>pages-z.toNat) ?_
  ⟨0,ρ,A,C,φ,u0,rfl,by omega,Mv.refl hcC.rg,hcC,hu,Kp.refl,rfl,rfl,rfl,by simpa using htk,by rw[zlL];exact hrel,hrow⟩
 rintro X z S1 ⟨i,ρ1,A1,C1,φ1,ui,rfl,hi,m1,hc1,hu1,kp1',ht1,hm1,hx1,htk1,hr1,hrow1⟩ ih
 by_cases hlt:(i:Int)<((slc 1 t 5 (t.n:Int)).n:Int)
 ·rw[if_pos hlt]
  have hip:i<pages:=by rw[es] at hlt;split at hlt <;> (dsimp only at hlt;omega)
  have htc:¬t.c=5:=by omega
  rw[if_neg htc] at es
  rw[es,jH]
  refine⟨by omega,by omega,?_⟩
  have h5i:5+i<l.length:=by omega
  rw[Int.toNat_natCast,zB (by rw[hrow1.cell hc (5+i) (by rw[gy];omega) (by omega)];exact zjw h5i)]
  have hdrop:l.drop (5+i)=l[5+i] :: l.drop (5+(i+1)):=by rw[List.drop_eq_getElem_cons h5i];rfl
  rw[show pages-i=(pages-(i+1))+1 by omega,hdrop] at htk1
  obtain⟨hff,htk2⟩:=zjN htk1
  have hfN:l[5+i]<C1.N:=by rw[kp1'.N];exact hlN _ (List.getElem_mem h5i)
  have hcs:=hr1.csize
  have hcs':C1.cache.length≤100:=by have:C1.cache.length≤8:=hcs;omega
  have hon:((W.newP n seats quota xs i).vm n).on=true:=by
   show (upd W.vm n _ n).on=true
   rw[zi];rfl
  have hq:((W.newP n seats quota xs i).vm n).quota=quota:=by
   show (upd W.vm n _ n).quota=_
   rw[zi];rfl
  have hpg:=zkt hwk hoff (seats:=seats) (quota:=quota) (img:=xs) (i:=i)
  have hrp:=hr1.page (n:=n) (p:=i) (f:=l[5+i]) himg.byt hon (by omega) (zks hwk hoff (Nat.le_refl i)) (by rw[hq];omega) (by show firstOff ui C1.N=_;rw[kp1'.N];exact hff)
  rw[zlM] at hrp
  refine zjs hc1 hn (by omega) hfN hcs' fun S2 ρ2 cs m2 hc2=>?_
  have hrow2:Rw S2 ρ2 102 1 t (nL l):=hrow1.keep m2 (by decide)
  have m12:Mv S ρ S2 ρ2 Rc:=m1.trans (m2.mono fun r hr=>by unfold Rc;omega)
  have himg2:=himg.mv m12
  have hlen:=himg.len
  have hicap:=himg.cap
  rw[w64 (x:=256*(i:Int)) (by omega) (by omega),w64 (x:=256*(i:Int)+256) (by omega) (by omega),w64 (x:=(i:Int)+1) (by omega) (by omega)]
  by_cases hat:256*(i:Int)<(img.n:Int)
  ·rw[if_pos hat,qQ hc2.c0]
   have hpl:(partB xs i).length=min 256 (xs.length-256*i):=by unfold partB;rw[List.length_take,List.length_drop]
   rw[if_pos (by omega)] at hrp
   generalize hmx:(if (img.n:Int)<256*(i:Int)+256 then (img.n:Int) else 256*(i:Int)+256)=mx
   have hmx2:mx=256*(i:Int)+(partB xs i).length:=by
    rw[←hmx,hpl]
    split <;> omega
   refine⟨by omega,by omega,by omega,?_⟩
   rcases himg2.lie with h0 | ⟨b,o,hb1,hb2,hb3,hb4⟩
   ·rw[h0] at hlen;simp at hlen;omega
   have eimg:slc 1 img (256*(i:Int)) mx=⟨some (b,o+256*i),(partB xs i).length,img.c-256*i⟩:=by
    unfold slc
    rw[hb1]
    have e1:(256*(i:Int)).toNat=256*i:=by omega
    have e2:(mx-256*(i:Int)).toNat=(partB xs i).length:=by omega
    rw[e1,e2,if_neg (by omega)]
    simp
   show qg S2 (some (A1.m,0)) l[5+i] 0 (slc 1 img (256*(i:Int)) mx) _
   rw[eimg]
   have hpart:S2.part b (o+256*i) ((partB xs i).length*1)=some (bL (partB xs i)):=by
    obtain⟨k,e1,e2⟩:=zfc hb2
    have e3:=qL e2
    rw[yh e1,qA (by omega)]
    refine congrArg some ?_
    have e4:(k.cs.drop o).take xs.length=bL xs:=e3.2.1
    unfold partB
    have e5:bL ((xs.drop (256*i)).take 256)=((bL xs).drop (256*i)).take 256:=by unfold bL;rw[List.map_take,List.map_drop]
    rw[e5,←e4]
    apply List.ext_getElem?
    intro j
    simp only[List.getElem?_take,List.getElem?_drop,List.length_take,List.length_drop,Nat.mul_one]
    by_cases hj:j<min 256 (xs.length-256*i)
    ·rw[if_pos hj,if_pos (by omega),if_pos (by omega)]
     exact congrArg (fun x=>k.cs[x]?) (by omega)
    ·rw[if_neg hj]
     by_cases hj2:j<256
     ·rw[if_pos hj2,if_neg (by omega)]
     ·rw[if_neg hj2]
   have hbp:Byt (partB xs i):=fun x hx=>himg.byt x (List.mem_of_mem_drop (List.mem_of_mem_take hx))
   refine writeD hc2.st hc2.rg (off:=0) hfN ⟨b,_,rfl,hpart⟩ rfl (fun e=>by rw[e] at hpl;simp at hpl;omega) (by omega) hbp fun S3 m3 hs3=>?_
   have hc3:=hc2.setStore m3 hs3
   refine ih _ S3 ⟨i+1,ρ2,{ A1 with cs:=cs },_,_,upd ui l[5+i] true,rfl,by omega,m12.trans (m3.mono fun r hr=>by unfold Rc;omega),hc3,hu1,kp1'.trans kp1,ht1,hm1,hx1,?_,hrp,hrow2.keep m3 (by decide)⟩ (by omega)
   rw[show pages-(i+1)=pages-(i+1) from rfl]
   exact htk2
  ·rw[if_neg hat]
   rw[if_neg (by omega)] at hrp
   exact ih _ S2 ⟨i+1,ρ2,{ A1 with cs:=cs },_,_,upd ui l[5+i] true,rfl,by omega,m12,hc2,hu1,kp1'.trans kp1,ht1,hm1,hx1,htk2,hrp,hrow2⟩ (by omega)
 ·rw[if_neg hlt]
  have hie:i=pages:=by rw[es] at hlt;split at hlt <;> (dsimp only at hlt;omega)
  subst hie
  rw[Nat.sub_self] at htk1
  simp only[takeN,Option.some.injEq,Prod.mk.injEq] at htk1
  have hr2:Rel C1 (W.newP n seats quota xs i) φ1:=by
   have e:({ C1 with used:=ui }:Cst)=C1:=by rw[htk1.2,←hu1]
   rw[e] at hr1;exact hr1
  exact hQ S1 ⟨ρ1,A1,C1,φ1,m1,hc1,hr2,kp1',ht1,fun j=>by rw[hx1]⟩
end
end Go.Proofs.YtabdpmnhjlmnlaaGreatDoor
end
namespace Go.Proofs.YtabdpmnhjlmnlaaGreatDoor
section
open Go Go.Pt Go.Cr Go.Hp
structure Kc (C C':Cst):Prop where
 N:C'.N=C.N
 form:C'.form=C.form
 region:C'.region=C.region
 turns:C'.turns=C.turns
 now:C'.now=C.now
theorem Kc.refl {C:Cst}:Kc C C:=⟨rfl,rfl,rfl,rfl,rfl⟩
theorem Kc.trans {C C' C'':Cst} (h:Kc C C') (k:Kc C' C''):Kc C C'':=⟨k.N.trans h.N,k.form.trans h.form,k.region.trans h.region,k.turns.trans h.turns,k.now.trans h.now⟩
theorem Kp.kc {C C':Cst} (h:Kp C C'):Kc C C':=⟨h.N,h.form,h.region,h.turns,h.now⟩
def Aft (h:Nat) (C:Cst) (S:Mem) (ρ:Rho) (W':Wd) (S':Mem):Prop:=∃ ρ' A' C' φ',Mv S ρ S' ρ' Rc∧CrabA S' ρ' h A' C'∧Rel C' W' φ'∧Kc C C'
section
variable {S S':Mem} {ρ ρ':Rho} {R:Nat→Prop} {h:Nat} {A:Ad} {C:Cst} {W:Wd} {φ:Nat→Nat→Nat}
theorem After.aft {W':Wd} (hA:After h A C S ρ W' S'):Aft h C S ρ W' S':=by
 obtain⟨ρ',A',C',φ',m,hc,hr,kp,_⟩:=hA
 exact⟨ρ',A',C',φ',m,hc,hr,kp.kc⟩
theorem ziI (hwk:WOk W) {n:Nat} (hoff:(W.vm n).on=false) {seats quota:Int} {xs:List Int} {pages:Nat}:W.newP n seats quota xs pages = { W with free:=W.free-(5+(pages:Int)),vm:=upd W.vm n (mkV seats quota),time:=upd W.time n 0,ev:=upd W.ev n [],own:=upd W.own n fun p=>if (p:Int)<pages then some (pageB xs p) else none }:=by
 have h0:=(hwk.off n hoff).2.1
 have key:∀ (a b:Int) (o o':Nat→Nat→Option (List Int)),a=b→o=o'→({ W.newV n seats quota with free:=a,own:=o }:Wd) = { W.newV n seats quota with free:=b,own:=o' }:=by
  rintro a b o o' rfl rfl;rfl
 refine key _ _ _ _ (by omega) ?_
 congr 1
 funext p
 by_cases e:p<pages
 ·rw[if_pos e,if_pos (by omega)]
 ·rw[if_neg e,if_neg (by omega)];exact h0 p
theorem slc5 {t:Sl} {c:Nat} (hc:t.p=some (c,0)) (h:5≤t.c):slc 1 t 0 5=⟨some (c,0),5,t.c⟩:=by
 unfold slc
 rw[hc]
 have e1:(0:Int).toNat=0:=rfl
 have e2:((5:Int)-0).toNat=5:=rfl
 rw[e1,e2,if_neg (by omega)]
 simp
theorem zmP {w:Nat} {s:Sl} {l:List Value} (h:Row S w s l) (m:Mv S ρ S' ρ' R) (hr:∀ b o,s.p=some (b,o)→ρ b=none):Row S' w s l:=
 h.keep fun b hb=>by
  rcases h.lie with ⟨h1,_⟩ | ⟨b',k,h1,h2,_⟩
  ·rw[h1] at hb;cases hb
  ·rw[h1] at hb;cases hb
   exact m.kp b (by rw[h2];simp) fun r e=>by rw[hr b 0 h1] at e;cases e
theorem give6 {n w1:Nat} {ss t:Sl} {b0 b1 b2 b3:Nat} {L1 L2:List Value} (m:Mv S ρ S' ρ' R) (h0:S 0≠none) (hs:Row S' w1 ss L1) (hsf:∀ b o,ss.p=some (b,o)→S b=none∧ρ' b=none) (ht:Row S' 1 t L2) (htf:∀ b o,t.p=some (b,o)→S b=none∧ρ' b=none)
  (hb:∀ b∈[b0,b1,b2,b3],S b=none∧ρ' b=none∧S' b=some (bw 5 (bL noughts))) (hnd:[b0,b1,b2,b3].Nodup) (hsb:∀ b o,ss.p=some (b,o)→b∉[b0,b1,b2,b3]) (htb:∀ b o,t.p=some (b,o)→b∉[b0,b1,b2,b3]) (hst:∀ b o o',ss.p=some (b,o)→t.p≠some (b,o')) :
  ∃ ρ'',Mv S ρ S' ρ'' R∧Wide S' ρ' ρ''∧Rw S' ρ'' (30+n) w1 ss L1∧Rw S' ρ'' (40+n) 1 t L2∧Rw S' ρ'' (60+4*n+0) 1 (pg b0) (bL noughts)∧Rw S' ρ'' (60+4*n+1) 1 (pg b1) (bL noughts)∧Rw S' ρ'' (60+4*n+2) 1 (pg b2) (bL noughts)∧Rw S' ρ'' (60+4*n+3) 1 (pg b3) (bL noughts):=by
 simp only[List.nodup_cons,List.mem_cons,List.not_mem_nil,or_false,not_or,not_false_eq_true,List.nodup_nil,and_true] at hnd
 obtain⟨⟨n01,n02,n03⟩,⟨n12,n13⟩,n23⟩:=hnd
 have B0:=hb b0 (by simp)
 have B1:=hb b1 (by simp)
 have B2:=hb b2 (by simp)
 have B3:=hb b3 (by simp)
 have pgne:∀ {a b:Nat},a≠b→∀ o,(pg a).p≠some (b,o):=fun h o e=>by cases e;exact h rfl
 obtain⟨ρ1,m1,w1',r1,k1⟩:=kY (r:=60+4*n+0) m (zjp B0.2.2) (fun b o e=>by cases e;exact⟨B0.1,B0.2.1⟩) h0
 obtain⟨ρ2,m2,w2,r2,k2⟩:=kY (r:=60+4*n+1) m1 (zjp B1.2.2) (fun b o e=>by cases e;exact⟨B1.1,by rw[k1 _ (pgne n01)];exact B1.2.1⟩) h0
 obtain⟨ρ3,m3,w3,r3,k3⟩:=kY (r:=60+4*n+2) m2 (zjp B2.2.2) (fun b o e=>by cases e;exact⟨B2.1,by rw[k2 _ (pgne n12),k1 _ (pgne n02)];exact B2.2.1⟩) h0
 obtain⟨ρ4,m4,w4,r4,k4⟩:=kY (r:=60+4*n+3) m3 (zjp B3.2.2) (fun b o e=>by cases e;exact⟨B3.1,by rw[k3 _ (pgne n23),k2 _ (pgne n13),k1 _ (pgne n03)];exact B3.2.1⟩) h0
 have kk:∀ x,x∉[b0,b1,b2,b3]→ρ4 x=ρ' x:=fun x hx=>by
  simp only[List.mem_cons,List.not_mem_nil,or_false,not_or] at hx
  rw[k4 _ (pgne (Ne.symm hx.2.2.2)),k3 _ (pgne (Ne.symm hx.2.2.1)),k2 _ (pgne (Ne.symm hx.2.1)),k1 _ (pgne (Ne.symm hx.1))]
 obtain⟨ρ5,m5,w5,r5,k5⟩:=kY (r:=30+n) m4 hs (fun b o e=>⟨(hsf b o e).1,by rw[kk b (hsb b o e)];exact (hsf b o e).2⟩) h0
 obtain⟨ρ6,m6,w6,r6,k6⟩:=kY (r:=40+n) m5 ht (fun b o e=>⟨(htf b o e).1,by rw[k5 b fun o' e'=>hst b o' o e' e,kk b (htb b o e)];exact (htf b o e).2⟩) h0
 have w56:=Wide.trans w5 w6
 have w46:=Wide.trans w4 w56
 have w36:=Wide.trans w3 w46
 have w26:=Wide.trans w2 w36
 exact⟨ρ6,m6,Wide.trans w1' w26,wRw w6 r5,r6,wRw w26 r1,wRw w36 r2,wRw w46 r3,wRw w56 r4⟩
set_option maxHeartbeats 1000000 in
theorem zfv (hc:CrabA S ρ h A C) (hr:Rel C W φ) {seats quota pages:Int} {img:Sl} {xs:List Int} (himg:ImgAt S ρ img xs) (hil:xs.length≤1000000) {Q:Int→Int→Mem→Prop}
  (hQ:∀ S',Aft h C S ρ (W.create seats quota pages xs).2.2 S'→Q (W.create seats quota pages xs).1 (W.create seats quota pages xs).2.1 S'):xa S (some (h,0)) seats quota pages img Q:=by
 have hlen:=himg.len
 apply zco
 unfold vj
 unfold Wd.create at hQ
 by_cases hbad:seats<1∨3<seats∨quota<1∨32<quota
 ·rw[if_pos (by omega)] at hQ
  refine znj hbad fun t ht=>⟨ht,?_⟩
  simp only[jn]
  rw[if_neg (by simp),if_pos (by decide)]
  exact hQ S (After.here hc hr).aft
 obtain⟨sn,rfl⟩:∃ m:Nat,seats=m:=⟨seats.toNat,by omega⟩
 refine zlR (by omega) (by omega) (by omega) (by omega) fun ss b0 b1 b2 b3 S1 hM=>?_
 have hk1:=hM.pages.keep
 have hc1:=hc.keeps hk1
 refine⟨rfl,?_⟩
 refine zI (fun J=>¬(pages<1∨quota<pages)→¬256*pages<xs.length→J S1) ?_ fun J hJ=>?_
 rotate_left
 ·rw[if_neg (by simp),if_neg (by decide)]
  by_cases hp1:pages<1
  ·rw[if_pos (by omega)] at hQ
   rw[if_pos hp1];exact hQ S1 (After.keeps hc hr hk1).aft
  rw[if_neg hp1]
  by_cases hp2:quota<pages
  ·rw[if_pos (by omega)] at hQ
   rw[if_pos hp2];exact hQ S1 (After.keeps hc hr hk1).aft
  rw[if_neg hp2,w64 (by omega) (by omega)]
  by_cases hp3:256*pages<xs.length
  ·rw[if_neg (by omega),if_pos hp3] at hQ
   rw[if_pos (by omega)];exact hQ S1 (After.keeps hc hr hk1).aft
  ·rw[if_neg (by omega)]
   exact hJ (by omega) hp3
 intro hp12 hp3
 rw[if_neg (by omega),if_neg hp3] at hQ
 obtain⟨pn,rfl⟩:∃ m:Nat,pages=m:=⟨pages.toNat,by omega⟩
 have hvm:C.vm=W.vm:=hr.vm
 refine zI (fun J=>(∀ n:Nat,firstOff (fun n=>(W.vm n).on) 6=some n→J n S1)∧(firstOff (fun n=>(W.vm n).on) 6=none→J 6 S1)) ?_ fun J hJ=>?_
 rotate_left
 ·refine zM (fun (z:Int) S'=>∃ i:Nat,z=(i:Int)∧i≤6∧S'=S1∧∀ j,j<i→(W.vm j).on=true) (fun z=>6-z.toNat) ?_ ⟨0,rfl,by omega,rfl,fun _ h=>by omega⟩
  rintro X z S' ⟨i,rfl,hi,rfl,hall⟩ ih
  by_cases hlt:(i:Int)<6
  ·rw[if_pos hlt,zV,qQ hc1.c3,zV]
   refine⟨by omega,hlt,?_⟩
   rw[Int.toNat_natCast,fM (hc1.vcell (n:=i) (j:=0) (by omega) (by decide) (by omega)),hvm]
   cases hon:(W.vm i).on with
   | true=>
    rw[if_pos rfl,w64 (by omega) (by omega)]
    refine ih _ _ ⟨i+1,rfl,by omega,rfl,fun j hj=>?_⟩ (by omega)
    by_cases e:j=i
    ·subst e;exact hon
    ·exact hall j (by omega)
   | false=>
    rw[if_neg (by decide)]
    exact hJ.1 i (jl (by omega) hon hall)
  ·rw[if_neg hlt]
   have:i=6:=by omega
   subst this
   refine hJ.2 ?_
   cases hf:firstOff (fun n=>(W.vm n).on) 6 with
   | none=>rfl
   | some g=>
    obtain⟨a,b,_⟩:=zZ hf
    rw[hall g a] at b;cases b
 constructor
 rotate_left
 ·intro hnone
  rw[hnone] at hQ
  simp only[jn]
  rw[if_pos trivial]
  exact hQ S1 (After.keeps hc hr hk1).aft
 intro n hfirst
 rw[hfirst] at hQ
 dsimp only at hQ
 obtain⟨hn,hoff,_⟩:=zZ hfirst
 simp only[jn]
 rw[if_neg (by omega),zV,qQ hc1.c1,w64 (by omega) (by omega)]
 have hleft:=hr.left
 have hfree:=hr.free
 have e5:5+(pn:Int)=((5+pn:Nat):Int):=by omega
 rw[e5]
 refine zhy hc1.pl hc1.rg (by omega) (n:=5+pn) (by omega) (r:=102) ⟨by decide,by decide,by decide⟩ (fun l u hnl htk t S2 ρ2 m2 hp2 hrow2=>?_) fun hbad2 S2 ρ2 left' m2 hl' _ hp2=>?_
 rotate_left
 ·have hfull:W.free<5+(pn:Int):=by
   rcases hbad2 with e | e
   ·omega
   ·have:=gi.1 e;omega
  rw[if_pos hfull] at hQ
  rw[if_pos (by decide)]
  have hc2:=hc1.setPool m2 (fun r hr=>hr.elim .inl fun h=>.inr (by omega)) hp2
  have e1:left'=C.left:=by rw[hl' hleft,hleft]
  rw[e1] at hc2
  exact hQ S2 ⟨ρ2,A,C,φ,(Mv.keeps hc.rg hk1).trans (m2.mono fun r hr=>by unfold R345 at hr;unfold Rc;omega),hc2,hr,Kc.refl⟩
 have hroom:¬W.free<5+(pn:Int):=by
  intro hlt
  have:=gi (N:=C.N) (k:=5+pn) (u:=C.used)
  rw[htk] at this
  exact absurd (this.2 (by omega)) (by simp)
 rw[if_neg hroom] at hQ
 rw[if_neg (by decide)]
 have hlv:leftN C.left (5+pn)=C.left:=by unfold leftN;rw[if_pos (by omega),hleft]
 rw[hlv] at hp2
 have hc2:=hc1.setPool m2 (fun r hr=>hr.elim .inl fun h=>.inr (by omega)) hp2
 obtain⟨hll,hlnd,hlfree,_,_⟩:=wO htk
 have htn:=hrow2.n (by decide) (gy l)
 have htcap:=hrow2.row.cap
 obtain⟨c,ec1,ec2⟩:=hrow2.sl (by rw[gy];omega)
 obtain⟨u5,htk5,htkp⟩:=zez (i:=5) (k:=pn) htk
 have hl5len:(l.take 5).length=5:=by rw[List.length_take];omega
 have hs5:=slc5 ec2 (by omega)
 refine⟨by decide,by omega,?_⟩
 rw[hs5]
 show lp _ 0 S2
 refine zM (fun (z:Int) S'=>∃ i:Nat,z=(i:Int)∧i≤5∧Mv S2 ρ2 S' ρ2 (· = 9)∧CrabA S' ρ2 h A { C with used:=u,own:=Cr.keepL C.own n (l.take i) }∧Rw S' ρ2 102 1 t (nL l)) (fun z=>5-z.toNat) ?_ ⟨0,rfl,by omega,Mv.refl hc2.rg,hc2,hrow2⟩
 rintro X z S3 ⟨i,rfl,hi,m3,hc3,hrow3⟩ ih
 by_cases hlt:(i:Int)<((5:Nat):Int)
 ·rw[if_pos hlt,jH]
  refine⟨by omega,hlt,?_⟩
  have hil2:i<l.length:=by omega
  rw[Int.toNat_natCast,zB (by rw[hrow3.cell ec2 i (by rw[gy];omega) (by omega)];exact zjw hil2),qQ hc3.c3,zV,qQ hc3.t74]
  refine zgk hc3.ow hc3.rg (hlfree _ (List.getElem_mem hil2)).1 (by omega) fun e S4 m4 hs4=>?_
  rw[w64 (by omega) (by omega)]
  refine ih _ S4 ⟨i+1,rfl,by omega,m3.trans m4,?_,hrow3.keep m4 (by decide)⟩ (by omega)
  have e1:Cr.keepL C.own n (l.take (i+1))=keepC (Cr.keepL C.own n (l.take i)) l[i] n:=by
   unfold Cr.keepL
   rw[List.take_succ_eq_append_getElem hil2,List.foldl_append];rfl
  rw[e1]
  exact hc3.setOwn m4 hs4
 rw[if_neg hlt]
 have hi5:i=5:=by omega
 subst hi5
 rw[qQ hc3.c0,qQ hc3.c3,zV,zB hc3.tform]
 refine⟨by decide,by omega,?_⟩
 show zaT S3 (some (A.m,0)) C.form ⟨some (c,0),5,t.c⟩ _
 refine zkv hc3.st hc3.rg hr.form (by decide) hrow3 ec2 (by omega) (fun f hf=>(hlfree f hf).1) fun t' S4 m4 hs4 hrow4 hfr4=>?_
 have hc4:=hc3.setStore m4 hs4
 have hrow4l:=hrow3.keep m4 (by decide)
 refine⟨hc4.c3,rfl,?_⟩
 rw[qQ hc4.c3,zV,zB hc4.tnow,qQ hc4.c3,zV]
 refine⟨by omega,by omega,rfl,?_⟩
 have mS12:Mv S1 ρ S4 ρ2 Rc:=(m2.mono fun r hr=>by unfold R345 at hr;unfold Rc;omega).trans ((m3.mono fun r hr=>by unfold Rc;omega).trans (m4.mono fun r hr=>by unfold Rc;omega))
 have mS:Mv S ρ S4 ρ2 Rc:=(Mv.keeps hc.rg hk1).trans mS12
 have hnorole:∀ b,S b=none→ρ b=none:=fun b hb=>by
  cases hq:ρ b with
  | none=>rfl
  | some r=>exact absurd hb (hc.rg b r hq)
 have hnew:∀ b,S b=none→S1 b≠none→ρ2 b=none∧S4 b=S1 b:=fun b hb hb1=>by
  refine⟨?_,mS12.kp b hb1 fun r e=>by rw[hnorole b hb] at e;cases e⟩
  cases hq:ρ2 b with
  | none=>rfl
  | some r=>have:=mS12.old b r hq hb1;rw[hnorole b hb] at this;cases this
 have hss:∀ b o,ss.p=some (b,o)→S1 b≠none:=fun b o e=>by
  rcases hM.row.lie with ⟨h1,_⟩ | ⟨b',k,h1,h2,_⟩
  ·rw[h1] at e;cases e
  ·rw[h1] at e;cases e;rw[h2];simp
 have hS3grow:∀ b,S1 b≠none→S3 b≠none:=fun b hb=>m3.al b (m2.al b hb)
 obtain⟨ρ5,m5,w5,g1,g2,g3,g4,g5,g6⟩:=give6 (n:=n) mS (zdm hc.gl) (zmP hM.row mS12 fun b o e=>hnorole b (hM.fresh b o e).1) (fun b o e=>⟨(hM.fresh b o e).1,(hnew b (hM.fresh b o e).1 (hss b o e)).1⟩) hrow4 (fun b o e=>⟨by
   cases hs:S b with
   | none=>rfl
   | some k=>exact absurd (hfr4 b o e).1 (hS3grow b (by rw[hk1 b (by rw[hs];simp) (by simp),hs];simp)),(hfr4 b o e).2⟩)
  (fun b hb=>by
   obtain⟨h1,h2⟩:=hM.pages.at_ b hb
   have:=hnew b h1 (by rw[h2];simp)
   exact⟨h1,this.1,by rw[this.2];exact h2⟩) hM.pages.nodup (fun b o e=>(hM.fresh b o e).2)
  (fun b o e hb=>by
   have h1:=(hfr4 b o e).1
   exact hS3grow b (by rw[(hM.pages.at_ b hb).2];simp) h1)
  (fun b o o' e e'=>by
   have h1:=(hfr4 b o' e').1
   exact hS3grow b (hss b o e) h1)
 have hc5:=CrabA.wide w5 hc4
 have hrow5:=wRw w5 hrow4l
 generalize hdd:(fun j:Nat=>if j=0 then pg b0 else if j=1 then pg b1 else if j=2 then pg b2 else pg b3)=dd
 have hd0:dd 0=pg b0:=by rw[←hdd];rfl
 have hd1:dd 1=pg b1:=by rw[←hdd];rfl
 have hd2:dd 2=pg b2:=by rw[←hdd];rfl
 have hd3:dd 3=pg b3:=by rw[←hdd];rfl
 have hvn:VmP S4 ρ5 n ⟨ss,t',⟨none,0,0⟩,dd⟩ (mkV sn quota) (l.take 5):=⟨g1,zou _,g2,Rw.nil,fun j hj=>by
  match j,hj with
  | 0,_=>show Rw _ _ _ _ (dd 0) _;rw[hd0];exact g3
  | 1,_=>show Rw _ _ _ _ (dd 1) _;rw[hd1];exact g4
  | 2,_=>show Rw _ _ _ _ (dd 2) _;rw[hd2];exact g5
  | 3,_=>show Rw _ _ _ _ (dd 3) _;rw[hd3];exact g6⟩
 have hcells:spl (spl (mk12 ss quota b0 b1 b2 b3) 2 (tbL C.form t')) 5 [.int .u64 C.now]=vmC ⟨ss,t',⟨none,0,0⟩,dd⟩ (mkV sn quota) C.form C.now:=by
  unfold vmC
  simp only[hd0,hd1,hd2,hd3]
  rfl
 rw[Int.toNat_natCast]
 show pt S4 A.t (0+2+n*12) 12 (spl (spl (mk12 ss quota b0 b1 b2 b3) 2 (tbL C.form t')) 5 [.int .u64 C.now]) _
 rw[hcells]
 refine ziW hc5 (j:=0) (vs:=vmC ⟨ss,t',⟨none,0,0⟩,dd⟩ (mkV sn quota) C.form C.now) (tf':=C.form) (late':=C.now) hn (by omega) rfl (by rw[zih];decide) (zeR (by rw[zih,zih])) hvn fun S6 m6 hc6=>?_
 refine⟨by omega,by omega,?_⟩
 refine hc6.hd.pt hc6.rg (vs:=[eL ⟨none,0,0⟩]) (5+n) rfl (by rw[fe];simp;omega) (by omega) fun S7 m7 h7=>?_
 rw[zmi hn] at h7
 have hc7:=hc6.setEv m7 (fun r hr=>.inl hr) (es:=upd A.es n ⟨none,0,0⟩) (ev:=upd C.ev n []) h7 fun i hi=>by
  by_cases e:i=n
  ·subst e;rw[zi,zi];exact Rw.nil
  ·rw[zk e,zk e];exact (hc6.ev i hi).keep m7 (by omega)
 have hrow7:=(hrow5.keep m6 (by decide)).keep m7 (by decide)
 have m57:Mv S ρ S7 ρ5 Rc:=m5.trans ((m6.mono fun r hr=>by unfold Rc;omega).trans (m7.mono fun r hr=>by unfold Rc;omega))
 have hrel0:=hr.newV (seats:=sn) (quota:=quota) hn hoff (by omega) (by omega) htk5
 have himg7:=himg.mv m57
 refine⟨by decide,by omega,by omega,?_⟩
 have hloop:=pagesLoop (C:={ C with used:=u,own:=Cr.keepL C.own n (l.take 5),dat:=makeD C.dat C.form (l.take 5),vm:=upd C.vm n (mkV sn quota),tf:=upd C.tf n C.form,late:=upd C.late n C.now,fr:=upd C.fr n (l.take 5),ev:=upd C.ev n [] }) (W:=W) (pages:=pn) (seats:=sn) (quota:=quota) (t:=t) (l:=l) (c:=c) (u:=u) (u0:=u5) (xs:=xs) (img:=img) (h:=h) hn hr.wk hoff (by omega) (by omega) hll (fun f hf=>(hlfree f hf).1) hc7 rfl htkp hrel0 hrow7 ec2 himg7 (by omega) (Q:=fun Sx=>Q n 0 Sx) fun S8 hA8=>?_
 ·exact hloop
 ·rw[ziI hr.wk hoff] at hA8
  obtain⟨ρ8,A8,C8,φ8,m8,hc8,hr8,kp8,_⟩:=hA8
  exact hQ S8 ⟨ρ8,A8,C8,φ8,m57.trans m8,hc8,hr8,⟨kp8.N,kp8.form,kp8.region,kp8.turns,kp8.now⟩⟩
end
end
end Go.Proofs.YtabdpmnhjlmnlaaGreatDoor
section
namespace Go.Cr
open Go Go.Pt
theorem zbb:∀ N:Nat,cF N (fun _=>noughts)=List.replicate (256*N) (0:Int)
 | 0=>rfl
 | N+1=>by
  simp only[cF]
  rw[zbb N,Nat.mul_add,Nat.mul_one,←List.replicate_append_replicate];rfl
def kn0 (form:Int):Kn:=⟨form,0,fun _=>bv0,fun _=>0,fun _=>0,fun _=>[],fun _=>ls0,fun _=>0⟩
def cst0 (form:Int) (N:Nat):Cst:={ toKn:=kn0 form,N:=N,dat:=fun _=>noughts,used:=fun _=>false,left:=-1,cache:=[],own:=fun _=>ow0,alm:=fun _ _=>none,region:=[],ev:=fun _=>[] }
end Go.Cr
namespace Go.Proofs.YtabdpmnhjlmnlaaGreatDoor
open Go Go.Pt Go.Cr Go.Hp
section
variable {S S':Mem} {ρ ρ':Rho} {R:Nat→Prop}
theorem clamp {N:Nat} (h:N≤512):(if 512<(if (N:Int)<0 then 0 else (N:Int)) then 512 else (if (N:Int)<0 then 0 else (N:Int)))=(N:Int):=by
 rw[if_neg (by omega:¬(N:Int)<0),if_neg (by omega)]
theorem zgD (hg:∀ b r,ρ b=some r→S b≠none) {N:Nat} (h1:1≤N) (hN:N≤512) {Q:Pt→Mem→Prop} (hQ:∀ m S' ρ',Mv S ρ S' ρ' (fun _=>False)→StoreD S' ρ' m N (fun _=>noughts)→Q (some (m,0)) S'):zat S N Q:=by
 apply zij
 unfold zbO
 rw[clamp hN,w64 (by omega) (by omega)]
 refine⟨by omega,Int.le_refl _,by omega,by omega,?_⟩
 have e:(256*(N:Int)).toNat=256*N:=by omega
 rw[e,zgu,←zbb]
 intro B hB m hm
 have m1:Mv S ρ (S.set B (bw 5 (bL (cF N fun _=>noughts)))) (ρ.upd B 2) (fun _=>False):=(Mv.refl hg).new hB _ 2
 have m2:=m1.new hm (bw 180 [.slice (some ⟨B,0,none⟩) (256*N) (256*N)]) 1
 have hne:m≠B:=fun e=>by subst e;simp at hm
 refine hQ m _ _ m2 ⟨⟨B,⟨zy,by rw[qe hne.symm];exact zy,hne,by rw[zbb,List.length_replicate],fun x hx=>?_,hN⟩,by rw[yp hne.symm];exact qO⟩,qO,fun _ _=>qz,fun _ _ x hx=>xF hx⟩
 rw[zbb] at hx
 rw[List.eq_of_mem_replicate hx];decide
theorem ziH (hg:∀ b r,ρ b=some r→S b≠none) {N:Nat} (h1:1≤N) (hN:N≤512) {Q:Pt→Mem→Prop} (hQ:∀ m S' ρ',Mv S ρ S' ρ' (fun _=>False)→OwnP S' ρ' m N (fun _=>ow0)→Q (some (m,0)) S'):zfe S N Q:=by
 apply zio
 unfold zbT
 rw[clamp hN]
 refine⟨by omega,Int.le_refl _,by omega,by omega,?_⟩
 rw[Int.toNat_natCast]
 have hz:zrep N [Value.int .u8 0,.int .i64 0,.int .i64 0,.int .i64 0]=cF N fun _=>owL ow0:=by
  have:∀ n:Nat,zrep n [Value.int .u8 0,.int .i64 0,.int .i64 0,.int .i64 0]=cF n fun _=>owL ow0:=by
   intro n
   induction n with
   | zero=>rfl
   | succ n ih=>
    have hs:∀ (z:List Value) (n:Nat),zrep (n+1) z=zrep n z++z:=by
     intro z n
     induction n with
     | zero=>simp[zrep]
     | succ n ih=>show z++zrep (n+1) z=(z++zrep n z)++z;rw[ih,List.append_assoc]
    rw[hs,ih];rfl
  exact this N
 rw[hz]
 intro B hB m hm
 have hl:(cF N fun _=>owL ow0).length=N*4:=jd (own:=fun _=>ow0)
 have m1:Mv S ρ (S.set B (bw 91 (cF N fun _=>owL ow0))) (ρ.upd B 9) (fun _=>False):=(Mv.refl hg).new hB _ 9
 have m2:=m1.new hm (bw 199 [.slice (some ⟨B,0,none⟩) N N]) 8
 have hne:m≠B:=fun e=>by subst e;simp at hm
 refine hQ m _ _ m2 ⟨⟨some (B,0),N,N⟩,⟨⟨_,zy,rfl,rfl⟩,qO⟩,⟨⟨hl,Nat.le_refl _,.inr ⟨B,_,rfl,by rw[qe hne.symm];exact zy,rfl,hl,?_⟩⟩,fun b o e=>by cases e;rw[yp hne.symm];exact qO⟩⟩
 show (cF N fun _=>owL ow0).take (N*4)=_
 exact List.take_of_length_le (by rw[hl];exact Nat.le_refl _)
def iL (n:Nat):List Int:=(List.range n).map fun (i:Nat)=>(i:Int)
theorem zoP (n:Nat):Hq.fl (iL (n+1))=Hq.fl (iL n)++[.int .i64 (n:Int)]:=by
 unfold iL Hq.fl
 rw[List.range_succ,List.map_append,List.flatMap_append];rfl
theorem zoQ (N:Nat):iL N=freeL N fun _=>false:=by
 unfold iL freeL
 have:(List.range N).filter (fun i=>! false)=List.range N:=by simp
 rw[this]
theorem zoo (n:Nat):uL (n+1) (fun _=>false)=uL n (fun _=>false)++[.bool false]:=rfl
theorem zhJ (hg:∀ b r,ρ b=some r→S b≠none) {N:Nat} (h1:1≤N) (hN:N≤512) {Q:Pt→Mem→Prop} (hQ:∀ p S' ρ',Mv S ρ S' ρ' R345→PoolP S' ρ' p N (fun _=>false) (-1)→Q (some (p,0)) S'):zcA S N Q:=by
 apply zjT
 unfold zdA
 intro p hp
 have m0:Mv S ρ (S.set p (bw 178 [.slice none 0 0,.slice none 0 0,.int .i64 (-1)])) (ρ.upd p 3) R345:=(Mv.refl hg).new hp _ 3
 simp only[jn]
 refine zM (fun (z:Int) S'=>∃ (i:Nat) (ρ':Rho) (fs us:Sl),z=(i:Int)∧i≤N∧Mv S ρ S' ρ' R345∧Pc S' ρ' 3 p [eL fs,eL us,.int .i64 (-1)]∧S' p=some (bw 178 [eL fs,eL us,.int .i64 (-1)])∧Rw S' ρ' 4 1 fs (Hq.fl (iL i))∧Rw S' ρ' 5 1 us (uL i fun _=>false)) (fun z=>N-z.toNat) ?_
  ⟨0,_,⟨none,0,0⟩,⟨none,0,0⟩,rfl,by omega,m0,⟨⟨_,zy,rfl,rfl⟩,qO⟩,zy,Rw.nil,Rw.nil⟩
 rintro X z S1 ⟨i,ρ1,fs,us,rfl,hi,m1,hpc,hblk,hf,hu⟩ ih
 rw[clamp hN]
 have hfl:(Hq.fl (iL i)).length=i*1:=by rw[Hq.fl_length];simp[iL]
 have hfn:=hf.n (by decide) hfl
 have hun:=hu.n (by decide) zey
 by_cases hlt:(i:Int)<(N:Int)
 ·rw[if_pos hlt,wc (hpc.cell 0 (by simp) rfl)]
  refine zid (R:=R345) m1 (.inr (.inl rfl)) hf rfl (by decide) rfl (by omega) fun fs' S2 ρ2 m2 m2' hf2 _=>?_
  have hpc2:=hpc.keep m2' (by decide)
  have hblk2:S2 p=some (bw 178 [eL fs,eL us,.int .i64 (-1)]):=by rw[zav m2' (by rw[hblk];simp) hpc.rol (by decide)];exact hblk
  have hu2:=hu.keep m2' (by decide)
  refine zkS hblk2 (by simp) ?_
  have e1:spl [eL fs,eL us,Value.int .i64 (-1)] 0 [eL fs']=[eL fs',eL us,.int .i64 (-1)]:=rfl
  rw[e1]
  have m3:Mv S ρ (S2.set p (bw 178 [eL fs',eL us,.int .i64 (-1)])) ρ2 R345:=m2.put hpc2.rol (.inl rfl) _
  have m3':Mv S2 ρ2 (S2.set p (bw 178 [eL fs',eL us,.int .i64 (-1)])) ρ2 (· = 3):=(Mv.refl (R:=(· = 3)) m2.rg).put hpc2.rol rfl _
  have hf3:=hf2.keep m3' (by decide)
  have hu3:=hu2.keep m3' (by decide)
  have hpc3:Pc (S2.set p (bw 178 [eL fs',eL us,.int .i64 (-1)])) ρ2 3 p [eL fs',eL us,.int .i64 (-1)]:=⟨⟨_,zy,rfl,rfl⟩,hpc2.rol⟩
  rw[wc (hpc3.cell 1 (by simp) rfl)]
  refine zid (R:=R345) m3 (.inr (.inr rfl)) hu3 rfl (by decide) rfl (by omega) fun us' S4 ρ4 m4 m4' hu4 _=>?_
  have hblk4:S4 p=some (bw 178 [eL fs',eL us,.int .i64 (-1)]):=by rw[zav m4' (by rw[zy];simp) hpc2.rol (by decide)];exact zy
  refine zkS hblk4 (by simp) ?_
  have e2:spl [eL fs',eL us,Value.int .i64 (-1)] 1 [eL us']=[eL fs',eL us',.int .i64 (-1)]:=rfl
  rw[e2]
  have hr4:=m4'.ext p 3 hpc2.rol
  have m5:Mv S ρ (S4.set p (bw 178 [eL fs',eL us',.int .i64 (-1)])) ρ4 R345:=m4.put hr4 (.inl rfl) _
  have m5':Mv S4 ρ4 (S4.set p (bw 178 [eL fs',eL us',.int .i64 (-1)])) ρ4 (· = 3):=(Mv.refl (R:=(· = 3)) m4.rg).put hr4 rfl _
  rw[w64 (by omega) (by omega)]
  refine ih _ _ ⟨i+1,ρ4,fs',us',rfl,by omega,m5,⟨⟨_,zy,rfl,rfl⟩,hr4⟩,zy,?_,?_⟩ (by omega)
  ·rw[zoP];exact (hf3.keep m4' (by decide)).keep m5' (by decide)
  ·rw[zoo];exact hu4.keep m5' (by decide)
 ·rw[if_neg hlt]
  have:i=N:=by omega
  subst this
  have hil:(iL i).length=i:=by simp[iL]
  rcases Hq.row_open hf.row with ⟨_,h0⟩ | ⟨c,cap,t,j,e1,hle,hc,hj⟩
  ·rw[h0] at hil;simp at hil;omega
  have hrc:ρ1 c=some 4:=hf.rol c 0 (by rw[e1])
  have hne:p≠c:=fun e=>by rw[←e,hpc.rol] at hrc;cases hrc
  have hcell:S1.cell p 0=some (eL fs):=hpc.cell 0 (by simp) rfl
  have hw:=Hq.wi_of hc
  rw[←hw]
  refine Hq.init_spec (s:=fs) ⟨hcell,by rw[e1],by rw[e1],hne⟩ (by omega) fun l' hp' hh=>?_
  have hll:=hp'.length_eq
  have m2:Mv S ρ (Hq.wi S1 c t j l') ρ1 R345:=m1.put hrc (.inr (.inl rfl)) _
  have m2':Mv S1 ρ1 (Hq.wi S1 c t j l') ρ1 (· = 4):=(Mv.refl (R:=(· = 4)) m1.rg).put hrc rfl _
  refine hQ p _ ρ1 m2 ⟨⟨178,fs,us,l',?_,fun x hx=>?_,hu.keep m2' (by decide),by rw[←zoQ];exact hp'⟩,hpc.rol,hN⟩
  ·have efs:fs=⟨some (c,0),l'.length,cap⟩:=by rw[e1,hll]
   rw[efs]
   exact Hq.ck_mk (by unfold Hq.wi;rw[qe hne,hblk,efs]) rfl Hq.wi_c (by omega) (by rw[hll];exact hj) hne hh (by omega)
  ·have:x=c:=by rw[e1] at hx;simpa [Hq.own] using hx
   rw[this];exact hrc
theorem znn {form:Int} {ob kb:Nat}:spl (spl (spl z77 0 [.int .i64 form]) 74 [eP (some (ob,0))]) 171 [.pointer (some ⟨kb,0,none⟩)]=knL (kn0 form) (fun _=>vx0) ob kb:=by kernel_rfl
theorem znt {m p t:Nat}:([eP (some (m,0)),eP (some (p,0)),.slice none 0 0,eP (some (t,0)),.slice none 0 0,.slice none 0 0,.slice none 0 0,.slice none 0 0,.slice none 0 0,.slice none 0 0,.slice none 0 0]:List Value)=hdL ⟨m,p,t,0,0,⟨none,0,0⟩,⟨none,0,0⟩,fun _=>⟨none,0,0⟩,fun _=>vx0⟩:=rfl
end
end Go.Proofs.YtabdpmnhjlmnlaaGreatDoor
end
section
namespace Go.Cr
open Go Go.Pt
def ownL (l:List Nat):Nat→Ow:=fun f=>if f∈l then ⟨1,0,0,0⟩ else ow0
theorem zdd {l:List Nat} {f:Nat} (h:f∈l):ownL l f=⟨1,0,0,0⟩:=if_pos h
theorem zaW {l:List Nat} {f:Nat} (h:f∉l):ownL l f=ow0:=if_neg h
theorem zlI {l:List Nat} {g:Nat}:keepC (ownL l) g (-1)=ownL (l++[g]):=by
 unfold keepC
 funext f
 by_cases hm:g∈l
 ·rw[zdd hm,if_neg (by decide)]
  by_cases hf1:f∈l
  ·rw[zdd hf1,zdd (by simp[hf1])]
  ·have:f≠g:=fun e=>hf1 (e ▸ hm)
   rw[zaW hf1,zaW (by simp only[List.mem_append,List.mem_singleton,not_or];exact⟨hf1,this⟩)]
 ·rw[zaW hm,if_pos (show ow0.kind=0 from rfl),if_neg (by decide)]
  by_cases hf1:f=g
  ·subst hf1;rw[zi,zdd (by simp)]
  ·rw[zk hf1]
   by_cases hf2:f∈l
   ·rw[zdd hf2,zdd (by simp[hf2])]
   ·rw[zaW hf2,zaW (by simp only[List.mem_append,List.mem_singleton,not_or];exact⟨hf2,hf1⟩)]
def cstN (form:Int) (N:Nat) (l:List Nat) (u:Nat→Bool):Cst:={ toKn:=kn0 form,N:=N,dat:=fun _=>noughts,used:=u,left:=-1,cache:=[],own:=ownL l,alm:=fun _ _=>none,region:=l,ev:=fun _=>[] }
def cstA (form:Int) (N:Nat) (l:List Nat) (u:Nat→Bool) (o:Nat→Ow):Cst:={ toKn:=kn0 form,N:=N,dat:=fun _=>noughts,used:=u,left:=-1,cache:=[],own:=o,alm:=fun _ _=>none,region:=l,ev:=fun _=>[] }
theorem zqc {free:Int}:WOk (W0 free):=by
 refine⟨fun n _=>⟨rfl,fun _=>rfl,fun _=>rfl⟩,fun n _=>rfl,fun n h=>(by cases h),fun n s h=>(by cases h),fun n=>⟨Nat.zero_le 64,fun x h=>by cases h⟩,fun n j h=>(by cases h),fun n=>⟨Int.le_refl 0,(by decide:(0:Int)≤32)⟩,fun n k h=>(by cases h),fun n p l h=>(by cases h),fun n=>?_,fun i h=>(by cases h),fun i _=>rfl,fun i h=>(by cases h),fun i j h=>(by cases h),fun n k w h=>(by cases h)⟩
 have:(W0 free).pages n=0:=vE fun _ _=>rfl
 rw[this];exact Int.le_refl _
theorem zmS {form:Int} (hf:form=1∨form=2) {N:Nat} (hN:N≤512) {l:List Nat} {u:Nat→Bool} (h:takeN N l.length (fun _=>false)=some (l,u)) {φ:Nat→Nat→Nat}:Rel (cstN form N l u) (W0 (N-l.length)) φ:=by
 obtain⟨_,h2,h3,h4,h5⟩:=wO h
 have hk:∀ f,(cstN form N l u).own f=if f∈l then ⟨1,0,0,0⟩ else ow0:=fun _=>rfl
 have hc:count (fun f=>! (fun _=>false:Nat→Bool) f) N=N:=by
  unfold count
  have:(List.range N).filter (fun f=>! false)=List.range N:=by simp
  rw[this];simp
 refine⟨zqc,rfl,rfl,rfl,hN,hf,⟨Int.le_refl 0,(by decide:(0:Int)≤4611686018427387904)⟩,fun n h=>(by cases h),fun n k=>rfl,?_,rfl,fun f _=>?_,fun f _ h=>?_,fun f _=>?_,fun f _=>⟨qz,fun x hx=>xF hx⟩,fun n _=>⟨rfl,rfl,rfl⟩,fun n h=>(by cases h),fun n f h=>(by cases h),fun f _ h=>?_,fun n j h=>(by cases h),fun n p h=>(by cases h),fun n p l h=>(by cases h),fun f _ h=>?_,⟨h2,fun f=>?_⟩,fun r h=>(by cases h),Nat.zero_le 8⟩
 ·show ((N:Int)-l.length)=count (fun f=>! u f) N
  rw[hc] at h5;omega
 ·show u f=_
  rw[h4 f,hk f]
  by_cases e:f∈l
  ·rw[if_pos e];simp[e]
  ·rw[if_neg e];simp[e,ow0]
 ·rw[hk f] at h ⊢
  split at h
  ·cases h
  ·rename_i e;rw[if_neg e]
 ·rw[hk f]
  by_cases e:f∈l
  ·rw[if_pos e];decide
  ·rw[if_neg e];decide
 ·rw[hk f] at h
  split at h <;> cases h
 ·rw[hk f] at h
  split at h <;> cases h
 ·show f∈l↔_
  rw[hk f]
  constructor
  ·intro e;exact⟨(h3 f e).1,by rw[if_pos e]⟩
  ·rintro⟨_,e⟩
   split at e
   ·assumption
   ·cases e
end Go.Cr
namespace Go.Proofs.YtabdpmnhjlmnlaaGreatDoor
open Go Go.Pt Go.Cr Go.Hp
section
variable {S S':Mem} {ρ ρ':Rho} {R:Nat→Prop}
theorem zor {A:Ad} {s:Sl}:spl (hdL A) 4 [eL s]=hdL { A with gs:=s }:=rfl
theorem zkP (hg:∀ b r,ρ b=some r→S b≠none) (h0:ρ 0=none) (hgl:Gl S) {form:Int} {N:Nat} (h1:1≤N) (hN:N≤512) {Q:Nat→Mem→Prop}
  (hQ:∀ S' ρ' h A,Mv S ρ S' ρ' Rc→CrabA S' ρ' h A (cst0 form N)→Q h S') :
  zat S N fun t Sx_1=>zcA Sx_1 N fun t_1 Sx_2=>zcF Sx_2 form N fun t_2 Sx_3=>
   al Sx_3 86 ([eP t,eP t_1,.slice (none) 0 0,eP t_2,.slice (none) 0 0,.slice (none) 0 0,.slice (none) 0 0,.slice (none) 0 0,.slice (none) 0 0,.slice (none) 0 0,.slice (none) 0 0]) fun b Sx_4=>Q b Sx_4:=by
 refine zgD hg h1 hN fun m S1 ρ1 m1 hs1=>?_
 refine zhJ m1.rg h1 hN fun p S2 ρ2 m2 hp2=>?_
 have hs2:=hs1.keep m2 (by decide) (by decide)
 apply zis
 unfold zbX
 refine ziH m2.rg h1 hN fun ob S3 ρ3 m3 ho3=>?_
 have hs3:=hs2.keep m3 (fun h=>h) (fun h=>h)
 have hp3:=hp2.keep m3 (fun h=>h) (fun h=>h) (fun h=>h)
 intro kb hkb t ht h hh
 rw[znn] at hh ⊢
 rw[znt]
 have M4:Mv S3 ρ3 (S3.set kb (bw 127 [.slice none 0 0])) (ρ3.upd kb 10) (fun _=>False):=(Mv.refl m3.rg).new hkb _ 10
 have M5:=M4.new ht (bw 77 (knL (kn0 form) (fun _=>vx0) ob kb)) 7
 have M6:=M5.new hh (bw 86 (hdL ⟨m,p,t,ob,kb,⟨none,0,0⟩,⟨none,0,0⟩,fun _=>⟨none,0,0⟩,fun _=>vx0⟩)) 0
 have n1:kb≠t:=fun e=>by subst e;simp at ht
 have n2:kb≠h:=fun e=>by subst e;simp[qe n1] at hh
 have n3:t≠h:=fun e=>by subst e;simp at hh
 have mA:Mv S ρ S3 ρ3 Rc:=((m1.mono (fun _ h=>h.elim)).trans (m2.mono fun r hr=>by unfold R345 at hr;show r<110;omega)).trans (m3.mono fun _ h=>h.elim)
 have mB:=mA.trans (M6.mono fun _ h=>h.elim)
 have bk:((S3.set kb (bw 127 [.slice none 0 0])).set t (bw 77 (knL (kn0 form) (fun _=>vx0) ob kb))).set h (bw 86 (hdL ⟨m,p,t,ob,kb,⟨none,0,0⟩,⟨none,0,0⟩,fun _=>⟨none,0,0⟩,fun _=>vx0⟩)) kb=some (bw 127 [.slice none 0 0]):=by
  rw[qe n2,qe n1,zy]
 have pc7:Pc (((S3.set kb (bw 127 [.slice none 0 0])).set t (bw 77 (knL (kn0 form) (fun _=>vx0) ob kb))).set h (bw 86 (hdL ⟨m,p,t,ob,kb,⟨none,0,0⟩,⟨none,0,0⟩,fun _=>⟨none,0,0⟩,fun _=>vx0⟩))) (((ρ3.upd kb 10).upd t 7).upd h 0) 7 t (knL (kn0 form) (fun _=>vx0) ob kb):=by
  generalize knL (kn0 form) (fun _=>vx0) ob kb=L
  exact⟨⟨bw 77 L,by rw[qe n3];exact zy,rfl,ze rfl⟩,by rw[yp n3];exact qO⟩
 refine hQ _ _ h ⟨m,p,t,ob,kb,⟨none,0,0⟩,⟨none,0,0⟩,fun _=>⟨none,0,0⟩,fun _=>vx0⟩ mB
  ⟨mB.rg,jj hgl mB h0,ji hgl mB h0,⟨⟨_,zy,rfl,rfl⟩,qO⟩,hs3.keep M6 (fun h=>h) (fun h=>h),hp3.keep M6 (fun h=>h) (fun h=>h) (fun h=>h),Rw.nil,pc7,ho3.keep M6 (fun h=>h) (fun h=>h),
   ⟨⟨127,⟨none,0,0⟩,[],⟨bk,rfl,Row.nil,fun c hc=>(by cases hc),?_,by decide⟩,fun x hx=>(by cases hx),⟨List.nodup_nil,fun a ha=>(by cases ha),fun n k t h=>(by cases h)⟩⟩,by rw[yp n2,yp n1];exact qO⟩,Rw.nil,fun i _=>Rw.nil,fun i _=>⟨Rw.nil,fun s hs=>(by cases hs),Rw.nil,Rw.nil,fun j _=>Rw.nil⟩⟩
 exact fun i _ h=>absurd h (Nat.not_lt_zero _)
theorem keepLoop {h:Nat} {A:Ad} {form:Int} {N:Nat} {l:List Nat} {u:Nat→Bool} (hl:∀ f∈l,f<N) (hl2:l.length≤1000) {Q:Mem→Prop} (hc:CrabA S ρ h A (cstA form N l u fun _=>ow0)) (hQ:∀ S',Mv S ρ S' ρ Rc→CrabA S' ρ h A (cstN form N l u)→Q S') :
  lp (fun Xx (t_7:Int) (Sx_8:Mem)=>
   if t_7<(A.gs.n:Int) then
   sl A.gs fun b_1 o n n_1=>
   0≤t_7∧t_7<((n:Nat):Int) ∧
   gI (Sx_8.cell b_1 (o+t_7.toNat*1)) .i64 fun t_8=>
   gP (Sx_8.cell h 3) fun t_9=>
   nn t_9 fun b_2 o_1=>
   gP (Sx_8.cell b_2 (o_1+74)) fun t_10=>
   yr Sx_8 t_10 t_8 (-1) fun t_11 Sx_9=>
   Xx (IntKind.i64.wrap (t_7+1)) Sx_9
   else
   Q Sx_8) 0 S:=by
 refine zM (fun (z:Int) S'=>∃ i:Nat,z=(i:Int)∧i≤l.length∧Mv S ρ S' ρ Rc∧CrabA S' ρ h A (cstA form N l u (ownL (l.take i)))) (fun z=>l.length-z.toNat) ?_
  ⟨0,rfl,by omega,Mv.refl hc.rg,by
   have e:ownL (l.take 0)=fun _=>ow0:=by funext f;exact zaW (by simp)
   rw[e];exact hc⟩
 rintro X z S1 ⟨i,rfl,hi,m1,hc1⟩ ih
 have hn:A.gs.n=l.length:=hc1.gs.n (m:=l.length) (by decide) (by show (nL l).length=_;simp[nL])
 by_cases hlt:(i:Int)<(A.gs.n:Int)
 ·rw[if_pos hlt]
  have hil:i<l.length:=by omega
  obtain⟨c,e1,e2⟩:=hc1.gs.sl (by show 0<(nL l).length;simp[nL];omega)
  rw[e1,jH]
  have h3:S1.cell h 3=some (eP (some (A.t,0))):=hc1.c3
  have h74:S1.cell A.t (0+74)=some (eP (some (A.ob,0))):=by rw[hc1.tt.cell 74 (by rw[jg];decide) (by rfl)];exact znM
  have hcell:S1.cell c (0+(i:Int).toNat*1)=some (.int .i64 (l.getD i 0:Nat)):=by
   rw[hc1.gs.cell e2 i (by show i<(nL l).length;simp[nL];omega) (by omega)]
   show nthL (nL l) i=_
   rw[zK]
   unfold nL
   rw[List.getElem?_map,List.getElem?_eq_getElem hil,List.getD_eq_getElem?_getD,List.getElem?_eq_getElem hil];rfl
  refine⟨by omega,by omega,?_⟩
  rw[zB hcell,qQ h3,zV,qQ h74]
  have hf:l.getD i 0<N:=hl _ (zgY hil)
  refine zgk hc1.ow m1.rg hf (by decide) fun e S2 m2 ho2=>?_
  have hc2:=hc1.setOwn m2 ho2
  rw[w64 (by omega) (by omega)]
  refine ih _ _ ⟨i+1,rfl,by omega,m1.trans (m2.mono fun r hr=>by show r<110;omega),?_⟩ (by omega)
  have e3:keepC (ownL (l.take i)) (l.getD i 0) (-1)=ownL (l.take (i+1)):=by
   rw[zlI,List.take_add_one,List.getD_eq_getElem?_getD,List.getElem?_eq_getElem hil];rfl
  rw[←e3]
  exact hc2
 ·rw[if_neg hlt]
  have:i=l.length:=by omega
  subst this
  rw[List.take_length] at hc1
  exact hQ _ m1 hc1
def badNew (form frames region:Int):Prop:=frames<1∨512<frames∨region<1∨frames<region∨(form≠1∧form≠2)
instance (form frames region:Int):Decidable (badNew form frames region):=inferInstanceAs (Decidable (_∨_))
theorem zne (hg:∀ b r,ρ b=some r→S b≠none) (h0:ρ 0=none) (hgl:Gl S) {form frames region:Int} {Q:Pt→Int→Mem→Prop}
  (hE:badNew form frames region→Q none 1 S)
  (hY:¬badNew form frames region→∀ S' ρ' h A l u,Mv S ρ S' ρ' Rc→CrabA S' ρ' h A (cstN form frames.toNat l u)→takeN frames.toNat l.length (fun _=>false)=some (l,u)→(l.length:Int)=region→Q (some (h,0)) 0 S'):zcI S form frames region Q:=by
 apply zjW
 unfold zdD
 simp only[jn]
 by_cases hb:badNew form frames region
 ·have:=hE hb
  unfold badNew at hb
  by_cases h1:frames<1
  ·rw[if_pos h1];exact this
  rw[if_neg h1]
  by_cases h2:512<frames
  ·rw[if_pos h2];exact this
  rw[if_neg h2]
  by_cases h3:region<1
  ·rw[if_pos h3];exact this
  rw[if_neg h3]
  by_cases h4:frames<region
  ·rw[if_pos h4];exact this
  rw[if_neg h4,if_pos (by omega),if_pos (by omega)]
  exact this
 have hY:=hY hb
 unfold badNew at hb
 rw[if_neg (by omega),if_neg (by omega),if_neg (by omega),if_neg (by omega)]
 have hform:form=1∨form=2:=by omega
 obtain⟨N,rfl⟩:∃ N:Nat,frames=N:=⟨frames.toNat,by omega⟩
 obtain⟨r,rfl⟩:∃ r:Nat,region=r:=⟨region.toNat,by omega⟩
 have key:zat S N fun t Sx_1=>zcA Sx_1 N fun t_1 Sx_2=>zcF Sx_2 form N fun t_2 Sx_3=>
   al Sx_3 86 ([eP t,eP t_1,.slice (none) 0 0,eP t_2,.slice (none) 0 0,.slice (none) 0 0,.slice (none) 0 0,.slice (none) 0 0,.slice (none) 0 0,.slice (none) 0 0,.slice (none) 0 0]) fun b Sx_4=>
  gP (Sx_4.cell b 1) fun t_3=>
  wz Sx_4 t_3 r fun t_4 t_5 Sx_5=>
  pt Sx_5 b 4 1 ([eL t_4]) fun Sx_6=>
  gL (Sx_6.cell b 4) fun t_6=>
  lp (fun Xx (t_7:Int) (Sx_8:Mem)=>
   if t_7<(t_6.n:Int) then
   sl t_6 fun b_1 o n n_1=>
   0≤t_7∧t_7<((n:Nat):Int) ∧
   gI (Sx_8.cell b_1 (o+t_7.toNat*1)) .i64 fun t_8=>
   gP (Sx_8.cell b 3) fun t_9=>
   nn t_9 fun b_2 o_1=>
   gP (Sx_8.cell b_2 (o_1+74)) fun t_10=>
   yr Sx_8 t_10 t_8 (-1) fun t_11 Sx_9=>
   Xx (IntKind.i64.wrap (t_7+1)) Sx_9
   else
   Q (some (b,0)) 0 Sx_8) 0 Sx_6:=by
  refine zkP hg h0 hgl (by omega) (by omega) fun S1 ρ1 h A m1 hc1=>?_
  have c1:S1.cell h 1=some (eP (some (A.p,0))):=hc1.c1
  rw[qQ c1]
  refine zhy (r:=12) hc1.pl m1.rg (show (-1:Int)≤-1∧(-1:Int)≤4294967296 by decide) (by omega) (by decide) (fun l u hle ht s S2 ρ2 m2 hp2 hs2=>?_) (fun hN=>?_)
  ·have hll:=(wO ht).1
   refine (hc1.hd.keep m2 (by decide)).pt m2.rg 4 (by rfl) (by rw[fe];exact (by decide:5≤11)) (by rfl) fun S3 m3 hh3=>?_
   rw[zor] at hh3
   have M:Mv S1 ρ1 S3 ρ2 (fun x=>x=0∨R345 x∨x=12):=(m2.mono fun r hr=>.inr hr).trans (m3.mono fun r hr=>.inl hr)
   have hc3:CrabA S3 ρ2 h { A with gs:=s } (cstA form N l u fun _=>ow0):=
    ⟨M.rg,jj hc1.gl M hc1.g0,ji hc1.gl M hc1.g0,hh3,hc1.st.keep M (by decide) (by decide),hp2.keep m3 (by decide) (by decide) (by decide),hc1.ca.keep M (by decide),hc1.tt.keep M (by decide),hc1.ow.keep M (by decide) (by decide),hc1.ck.keep M (by decide) (by decide),hs2.keep m3 (by decide),fun i hi=>(hc1.ev i hi).keep M (by unfold R345;omega),fun i hi=>(hc1.vs i hi).keep M hi fun r h1 h2=>by unfold R345;omega⟩
   have c4:S3.cell h 4=some (eL s):=hc3.c4
   rw[wc c4]
   refine keepLoop (A:={ A with gs:=s }) (fun f hf=>((wO ht).2.2.1 f hf).1) (by omega) hc3 fun S4 m4 hc4=>?_
   have e:((N:Int)).toNat=N:=by omega
   refine hY S4 ρ2 h _ l u (m1.trans ((M.mono fun x hx=>?_).trans m4)) (by rw[e];exact hc4) (by rw[e,hll];exact ht) (by rw[hll])
   unfold R345 at hx;show x<110;omega
  ·exfalso
   rcases hN with h | h
   ·exact absurd h.1 (show ¬(0:Int)≤-1 by decide)
   ·have:=gi.1 h
    have hc:count (fun f=>! (cst0 form N).used f) N=N:=by
     show count (fun f=>! false) N=N
     unfold count
     have:(List.range N).filter (fun f=>! false)=List.range N:=by simp
     rw[this];simp
    rw[show (cst0 form N).N=N from rfl,hc] at this
    omega
 by_cases h5:form≠1
 ·rw[if_pos h5,if_neg (by omega)];exact key
 ·rw[if_neg h5];exact key
theorem zoA {form frames region:Int} (hb:¬badNew form frames region) {l:List Nat} {u:Nat→Bool} (h:takeN frames.toNat l.length (fun _=>false)=some (l,u)) (hl:(l.length:Int)=region):Rel (cstN form frames.toNat l u) (W0 (frames-region)) fun _ _=>0:=by
 unfold badNew at hb
 have:=zmS (φ:=fun _ _=>0) (by omega:form=1∨form=2) (by omega:frames.toNat≤512) h
 have e:((frames.toNat:Nat):Int)-l.length=frames-region:=by omega
 rwa [e] at this
end
end Go.Proofs.YtabdpmnhjlmnlaaGreatDoor
namespace Go.Cr
end Go.Cr
end
namespace Go.Proofs.YtabdpmnhjlmnlaaGreatDoor
section
open Go Go.Pt Go.Proofs.Tryz
attribute [local irreducible] lt WD WN Code.wp Back bodyPost wpList FR WL WC WQ WA AW Tr Yc HC AllC
set_option maxRecDepth 20000
set_option maxHeartbeats 4000000
def yU (S:Mem) (Q:Bool→Mem→Prop):Prop:=
 zcI S 1 40 4 fun t t_1 Sx=>
 jn (fun (Sx_1:Mem)=>
 al Sx_1 5 ([.int .u8 65,.int .u8 0,.int .u8 64,.int .u8 4,.int .u8 0,.int .u8 0,.int .u8 0,.int .u8 80]) fun b Sx_2=>
 fz Sx_2 b fun Sx_3=>
 xa Sx_3 t 1 4 1 (⟨some (b,0),8,8⟩) fun t_2 t_3 Sx_4=>
 yK Sx_4 t t_2 0 fun t_4 Sx_5=>
 yK Sx_5 t t_2 0 fun t_5 Sx_6=>
 yZ Sx_6 t t_2 fun t_6 Sx_7=>
 if t_3=0 then
 if (t_6.n:Int)=4 then
 sl t_6 fun b_1 o n n_1=>
 (0:Int)<(n:Nat) ∧
 gI (Sx_7.cell b_1 o) .u8 fun t_7=>
 if t_7=1 then
 (1:Int)<(n:Nat) ∧
 gI (Sx_7.cell b_1 (o+4)) .u8 fun t_8=>
 if t_8=1 then
 (2:Int)<(n:Nat) ∧
 gA (Sx_7.part b_1 (o+8) 4) fun t_9=>
 fits [.i .u8,.i .i64,.i .u64,.i .u64] t_9=true ∧
 if (eqL t_9 ([.int .u8 3,.int .i64 0,.int .u64 65,.int .u64 0]))=true then
 (3:Int)<(n:Nat) ∧
 gA (Sx_7.part b_1 (o+12) 4) fun t_10=>
 fits [.i .u8,.i .i64,.i .u64,.i .u64] t_10=true ∧
 Q (eqL t_10 ([.int .u8 2,.int .i64 0,.int .u64 0,.int .u64 0])) Sx_7
 else
 Q false Sx_7
 else
 Q false Sx_7
 else
 Q false Sx_7
 else
 Q false Sx_7
 else
 Q false Sx_7) fun Jx=>
 if t_1≠0 then
 Q false Sx
 else
 if t=none then
 Q false Sx
 else
 Jx Sx
theorem gY {S:Mem} {Q:Bool→Mem→Prop} (H:yU S Q):qN S Q:=by
 unfold yU at H
 exact Tr.intro func27 E ntmps27 E fun w0=>csr<|gv E E<|nxr<|zhi E E H fun t t_1 Sx H1=>mv E E<|s_p E (zj E E)<|s_p E (zj E E)<|gv E E<|gv E E<|nx<|zp H1 (fun (J:Mem→Prop) (z:Unit) S=>J S) (fun z=>⟨67,[(1,eP t)]⟩) (fun z=>[]) (fun _ Sx_1 H2=>csr<|mv E E<|zkR E E (by decide) E fun b=>zgJ 0 E fun hb=>have H3:=H2 b hb;zrD E E H3 fun Sx_3 H4=>zhi E E H4 fun t_2 t_3 Sx_4 H5=>mv E E<|s_p E (zj E E)<|s_p E (zj E E)<|gv E E<|gv E E<|nxr<|mv E E<|mv E E<|vv E E H5 fun t_4 Sx_5 H6=>nxr<|mv E E<|mv E E<|vv E E H6 fun t_5 Sx_6 H7=>nxr<|mv E E<|mv E E<|vv E E H7 fun t_6 Sx_7 H8=>gv E E<|nx<|by exact csr<|mv E E<|iteK H8 (fun c H9=>ceT E E E (c)<|mv E E<|mv E E<|s_p E (vX E)<|iteK H9 (fun c_1 H10=>ceT E E E (c_1)<|pk E E E<|mv E E<|mv E E<|by obtain⟨b_1,o,n,n_1,rfl,H11⟩:=H10;exact an H11 fun c_3 H12=>s_p E (vx E E (by decide) c_3 E)<|s_p E (zv E E)<|gx H12 fun t_7 ht_7 H13=>s_v E (zF E) (qh ht_7)<|iteK H13 (fun c_4 H14=>ceT E E E (c_4)<|pk E E E<|mv E E<|mv E E<|an H14 fun c_6 H15=>s_p E (vx E E (by decide) c_6 E)<|s_p E (zv E E)<|gx H15 fun t_8 ht_8 H16=>s_v E (zF E) (qh ht_8)<|iteK H16 (fun c_7 H17=>ceT E E E (c_7)<|pk E E E<|mv E E<|mv E E<|an H17 fun c_9 H18=>s_p E (vx E E (by decide) c_9 E)<|gx H18 fun t_9 ht_9 H19=>by refine s_v E (qa E (qZ ht_9)) (zfN ht_9) ?_;exact s_p E (qj E E)<|by exact an H19 fun c_10 H20=>iteK H20 (fun c_12 H21=>s_p E (yB (zif E E c_10 E) c_12)<|pk E E E<|mv E E<|mv E E<|an H21 fun c_14 H22=>s_p E (vx E E (by decide) c_14 E)<|gx H22 fun t_10 ht_10 H23=>by refine s_v E (qa E (qZ ht_10)) (zfN ht_10) ?_;exact s_p E (qj E E)<|by exact an H23 fun c_15 H24=>s_p E (zif E E c_15 E)<|pk E E E<|gv E E<|nx<|zo<|zn results27 (zd E zg) ⟨_,E,H24⟩) fun c_12 H21=>s_p E (yB (zif E E c_10 E) (zac c_12))<|pk E E E<|mv E E<|sk4 E E E E<|zG E<|pk E E E<|gv E E<|nx<|zo<|zn results27 (zd E zg) ⟨_,E,H21⟩) fun c_7 H17=>ceF E E E (c_7)<|pk E E E<|mv E E<|sk4 E E E E<|zG E<|pk E E E<|mv E E<|sk4 E E E E<|zG E<|pk E E E<|gv E E<|nx<|zo<|zn results27 (zd E zg) ⟨_,E,H17⟩) fun c_4 H14=>ceF E E E (c_4)<|pk E E E<|mv E E<|sk4 E E E E<|zG E<|pk E E E<|mv E E<|sk4 E E E E<|zG E<|pk E E E<|mv E E<|sk4 E E E E<|zG E<|pk E E E<|gv E E<|nx<|zo<|zn results27 (zd E zg) ⟨_,E,H14⟩) fun c_1 H10=>ceF E E E (c_1)<|pk E E E<|mv E E<|sk4 E E E E<|zG E<|pk E E E<|mv E E<|sk4 E E E E<|zG E<|pk E E E<|mv E E<|sk4 E E E E<|zG E<|pk E E E<|mv E E<|sk4 E E E E<|zG E<|pk E E E<|gv E E<|nx<|zo<|zn results27 (zd E zg) ⟨_,E,H10⟩) fun c H9=>ceF E E E (c)<|mv E E<|sk2 E E<|zG E<|pk E E E<|mv E E<|sk4 E E E E<|zG E<|pk E E E<|mv E E<|sk4 E E E E<|zG E<|pk E E E<|mv E E<|sk4 E E E E<|zG E<|pk E E E<|mv E E<|sk4 E E E E<|zG E<|pk E E E<|gv E E<|nx<|zo<|zn results27 (zd E zg) ⟨_,E,H9⟩) (fun Jx hJx H25=>csr<|mv E E<|iteK H25 (fun c_17 H26=>s_p E (yT (qw E E) c_17)<|mv E E<|sk2 E E<|pk E E E<|nx<|c_t E E<|csr<|gv E E<|nx<|zo<|zb<|zn results27 (zd E zg) ⟨_,E,H26⟩) fun c_17 H26=>s_p E (yF (qw E E) c_17)<|mv E E<|mv E E<|iteK H26 (fun c_18 H27=>s_p E (yT (wb (p:=t) E E) c_18)<|pk E E E<|nx<|c_t E E<|csr<|gv E E<|nx<|zo<|zb<|zn results27 (zd E zg) ⟨_,E,H27⟩) fun c_18 H27=>s_p E (yF (wb (p:=t) E E) c_18)<|pk E E E<|nx<|cfs E E<|hJx () _ _ _ _ [] H27 E ⟨E,True.intro⟩ E)
end
end Go.Proofs.YtabdpmnhjlmnlaaGreatDoor
namespace Go.Cr
section
open Go Go.Pt
def awImg:List Int:=[65,0,64,4,0,0,0,80]
def awW1:Wd:=((W0 36).create 1 4 1 awImg).2.2
def awW2:Wd:=(awW1.run 0 0).2
def awW3:Wd:=(awW2.run 0 0).2
def Evt.q (e:Evt):Int×Int×Int×Int:=(e.kind,e.seat,e.a,e.b)
theorem Evt.of_q {e:Evt} {k s a b:Int} (h:e.q=(k,s,a,b)):e=⟨k,s,a,b⟩:=by
 obtain⟨_,_,_,_⟩:=e
 simp only[Evt.q,Prod.mk.injEq] at h
 obtain⟨rfl,rfl,rfl,rfl⟩:=h;rfl
theorem zqX:(awW3.ev 0).length=4:=by decide +kernel
theorem zrR:((awW3.ev 0).getD 0 ⟨0,0,0,0⟩).kind=1:=by decide +kernel
theorem zrQ:((awW3.ev 0).getD 1 ⟨0,0,0,0⟩).kind=1:=by decide +kernel
theorem zrP:((awW3.ev 0).getD 2 ⟨0,0,0,0⟩).q=(3,0,65,0):=by decide +kernel
theorem zrO:((awW3.ev 0).getD 3 ⟨0,0,0,0⟩).q=(2,0,0,0):=by decide +kernel
theorem zrN:((W0 36).create 1 4 1 awImg).1=0∧((W0 36).create 1 4 1 awImg).2.1=0:=by decide +kernel
theorem zrB:∃ e1 e2:Evt,e1.kind=1∧e2.kind=1∧awW3.ev 0=[e1,e2,⟨3,0,65,0⟩,⟨2,0,0,0⟩]:=by
 have h1:=zrR
 have h2:=zrQ
 have h3:=zrP
 have h4:=zrO
 have h0:=zqX
 match h:awW3.ev 0,h0 with
 | [a,b,c,d],_=>
  rw[h] at h1 h2 h3 h4
  have e3:c=_:=Evt.of_q h3
  have e4:d=_:=Evt.of_q h4
  exact⟨a,b,h1,h2,by rw[e3,e4]⟩
end
section
open Go Go.Pt
def Wd.evB (W:Wd) (m:Nat):Prop:=∀ i,(W.ev i).length≤m
section
variable {W:Wd} {m:Nat}
theorem Wd.evB.mono (h:W.evB m) {k:Nat} (hk:m≤k):W.evB k:=fun i=>Nat.le_trans (h i) hk
theorem Wd.evB.of {W':Wd} (h:W.evB m) (e:W'.ev=W.ev):W'.evB m:=fun i=>by rw[e];exact h i
theorem evB_W0 {f:Int}:(W0 f).evB 0:=fun _=>Nat.le_refl 0
theorem Wd.evB.tell (h:W.evB m) {n:Nat} {e:Evt}:(W.tell n e).evB (m+1):=fun i=>by
 unfold Wd.tell
 show (upd W.ev n (W.ev n++[e]) i).length≤m+1
 by_cases ei:i=n
 ·subst ei;rw[zi,List.length_append];have:=h i;simp;omega
 ·rw[zk ei];have:=h i;omega
theorem zjr {n k i:Nat}:(W.raise n k i).2.ev=W.ev:=by unfold Wd.raise;split <;> rfl
theorem zoz {n:Nat} {a b:Int}:(W.ring n a b).2.ev=W.ev:=by
 unfold Wd.ring;split
 ·rfl
 ·split
  ·rfl
  ·exact zjr
theorem zkr {n:Nat}:(W.nextKey n).2.2.ev=W.ev:=by unfold Wd.nextKey;split <;> rfl
theorem znd {n:Nat} {p to:Int} {w:Bool}:(W.offer n p to w).2.2.ev=W.ev:=by
 unfold Wd.offer;split
 ·rfl
 ·split
  ·rfl
  ·split
   ·rfl
   ·split <;> rfl
theorem znl {n:Nat} {c i p:Int}:(W.lease n c i p).2.ev=W.ev:=by
 unfold Wd.lease;split
 ·rfl
 ·split
  ·rfl
  ·split
   ·split <;> rfl
   ·split
    ·rfl
    ·split
     ·rfl
     ·split
      ·rfl
      ·split <;> rfl
theorem zoS {n:Nat} {p:Int}:(W.give n p).2.ev=W.ev:=by
 unfold Wd.give;split
 ·rfl
 ·split <;> rfl
theorem zqI {n:Nat} {p:Int}:(W.get n p).2.ev=W.ev:=by
 unfold Wd.get;split
 ·rfl
 ·split
  ·rfl
  ·split
   ·rfl
   ·split <;> rfl
theorem zoJ {n:Nat} {s p:Int}:(W.load n s p).2.ev=W.ev:=by
 unfold Wd.load;split
 ·rfl
 ·split
  ·rfl
  ·split <;> rfl
theorem zot {n:Nat} {s p:Int}:(W.save n s p).2.ev=W.ev:=by
 unfold Wd.save;split
 ·rfl
 ·split
  ·rfl
  ·split <;> rfl
theorem zJ {α:Type} {P:α→Prop} {c:Prop} [Decidable c] {a b:α} (h1:c→P a) (h2:¬c→P b):P (if c then a else b):=by
 by_cases h:c
 ·rw[if_pos h];exact h1 h
 ·rw[if_neg h];exact h2 h
theorem Wd.evB.call (h:W.evB m) {n k:Nat} {c w1 w2 w3:Int}:(W.call n k c w1 w2 w3).2.2.evB (m+1):=by
 have h1:=h.mono (Nat.le_succ m)
 unfold Wd.call
 refine zJ (P:=fun r:Int×Int×Wd=>r.2.2.evB (m+1)) (fun _=>h.tell) fun _=>?_
 refine zJ (P:=fun r:Int×Int×Wd=>r.2.2.evB (m+1)) (fun _=>h1.of zkr) fun _=>?_
 refine zJ (P:=fun r:Int×Int×Wd=>r.2.2.evB (m+1)) (fun _=>h1.of zoz) fun _=>?_
 refine zJ (P:=fun r:Int×Int×Wd=>r.2.2.evB (m+1)) (fun _=>h1) fun _=>?_
 refine zJ (P:=fun r:Int×Int×Wd=>r.2.2.evB (m+1)) (fun _=>h1.of znd) fun _=>?_
 refine zJ (P:=fun r:Int×Int×Wd=>r.2.2.evB (m+1)) (fun _=>h1.of znl) fun _=>?_
 refine zJ (P:=fun r:Int×Int×Wd=>r.2.2.evB (m+1)) (fun _=>h1.of zoS) fun _=>?_
 refine zJ (P:=fun r:Int×Int×Wd=>r.2.2.evB (m+1)) (fun _=>h1.of zqI) fun _=>?_
 refine zJ (P:=fun r:Int×Int×Wd=>r.2.2.evB (m+1)) (fun _=>h1.of zoJ) fun _=>?_
 refine zJ (P:=fun r:Int×Int×Wd=>r.2.2.evB (m+1)) (fun _=>h1.of zot) fun _=>?_
 refine zJ (P:=fun r:Int×Int×Wd=>r.2.2.evB (m+1)) (fun _=>h1) fun _=>?_
 refine zJ (P:=fun r:Int×Int×Wd=>r.2.2.evB (m+1)) (fun _=>h1.of (W':=W.setV n _) rfl) fun _=>?_
 exact h1
theorem Wd.evB.run (h:W.evB m) {n k:Int}:(W.run n k).2.evB (m+3):=by
 unfold Wd.run
 by_cases h1:¬W.there n∨k<0∨(W.vm n.toNat).seats.length≤k
 ·rw[if_pos h1];exact h.mono (by omega)
 rw[if_neg h1]
 dsimp only
 generalize stepM ((W.vm n.toNat).seat k.toNat) (W.gm n.toNat) (W.time n.toNat) k=o
 by_cases h2:o.k=5
 ·rw[if_pos h2];exact h.mono (by omega)
 rw[if_neg h2]
 have h3:(((W.setDat o.g.dat).putSeat n.toNat k.toNat o.s).tell n.toNat (told o.k o.n k ((W.vm n.toNat).seat k.toNat).pc o.s)).evB (m+1):=(h.of (W':=(W.setDat o.g.dat).putSeat n.toNat k.toNat o.s) rfl).tell
 split
 ·unfold Wd.hyper
  dsimp only
  exact Wd.evB.tell (m:=m+2) (Wd.evB.of (h3.call (n:=n.toNat) (k:=k.toNat) (c:=o.n)) rfl)
 ·exact h3.mono (by omega)
theorem Wd.evB.create (h:W.evB m) {s q p:Int} {img:List Int}:(W.create s q p img).2.2.evB m:=by
 unfold Wd.create
 split
 ·exact h
 split
 ·exact h
 split
 ·exact h
 split
 ·exact h
 ·rename_i n _ _
  intro i
  show (upd W.ev n [] i).length≤m
  by_cases e:i=n
  ·rw[e,zi];exact Nat.zero_le _
  ·rw[zk e];exact h i
theorem Wd.evB.key (h:W.evB m) {n b:Int}:(W.key n b).2.evB m:=by
 unfold Wd.key
 split
 ·exact h
 split
 ·exact h
 ·exact h.of zjr
def Wd.runs (W:Wd) (n k:Int):Nat→Wd
 | 0=>W
 | j+1=>((W.runs n k j).run n k).2
theorem Wd.evB.runs (h:W.evB m) {n k:Int}:∀ {j:Nat},(W.runs n k j).evB (m+3*j)
 | 0=>h
 | j+1=>(Wd.evB.run (h.runs (j:=j))).mono (by omega)
end
end
end Go.Cr
namespace Go.Proofs.YtabdpmnhjlmnlaaGreatDoor
section
open Go Go.Pt Go.Cr Go.Hp
def Lv (S0:Mem) (ρ0:Rho) (h:Nat) (S:Mem) (W:Wd):Prop:=∃ ρ A C φ,Mv S0 ρ0 S ρ Rc∧CrabA S ρ h A C∧Rel C W φ
def rho0:Rho:=fun _=>none
section
variable {S S' S0:Mem} {ρ ρ' ρ0:Rho} {R:Nat→Prop} {h:Nat} {A:Ad} {C:Cst} {W:Wd} {φ:Nat→Nat→Nat}
theorem rg0 {S:Mem}:∀ b r,rho0 b=some r→S b≠none:=fun b r h=>by cases h
theorem zfh (m:Mv S rho0 S' ρ R):Keeps S S' []:=fun b hb _=>m.kp b hb fun r e=>by cases e
theorem Lv.keeps (l:Lv S rho0 h S' W):Keeps S S' []:=by
 obtain⟨ρ,A,C,φ,m,_⟩:=l
 exact zfh m
theorem After.lv {W':Wd} (m:Mv S0 ρ0 S ρ Rc) (hA:After h A C S ρ W' S'):Lv S0 ρ0 h S' W':=by
 obtain⟨ρ',A',C',φ',m',hc,hr,_⟩:=hA
 exact⟨ρ',A',C',φ',m.trans m',hc,hr⟩
theorem Aft.lv {W':Wd} (m:Mv S0 ρ0 S ρ Rc) (hA:Aft h C S ρ W' S'):Lv S0 ρ0 h S' W':=by
 obtain⟨ρ',A',C',φ',m',hc,hr,_⟩:=hA
 exact⟨ρ',A',C',φ',m.trans m',hc,hr⟩
theorem Lv.on (l:Lv S0 ρ0 h S W) (hk:Keeps S S' []):Lv S0 ρ0 h S' W:=by
 obtain⟨ρ,A,C,φ,m,hc,hr⟩:=l
 exact⟨ρ,A,C,φ,m.then hk,hc.keeps hk,hr⟩
theorem zqw (hgl:Gl S) {form frames region:Int} {Q:Pt→Int→Mem→Prop} (hE:badNew form frames region→Q none 1 S)
  (hY:¬badNew form frames region→∀ S' h,Lv S rho0 h S' (W0 (frames-region))→Q (some (h,0)) 0 S'):zcI S form frames region Q:=
 zne rg0 rfl hgl hE fun hb S' ρ' h A l u m hc ht hl=>hY hb S' h ⟨ρ',A,_,_,m,hc,zoA hb ht hl⟩
theorem zqs (l:Lv S0 ρ0 h S W) {e:Nat} (he:W.evB e) (hel:e≤800000000) {n k:Int} {Q:Int→Mem→Prop} (hQ:∀ S',Lv S0 ρ0 h S' (W.run n k).2→Q (W.run n k).1 S'):yK S (some (h,0)) n k Q:=by
 obtain⟨ρ,A,C,φ,m,hc,hr⟩:=l
 exact zhZ hc hr (fun i=>Nat.le_trans (he i) hel) fun S' hA=>hQ S' (hA.lv m)
theorem znw (l:Lv S0 ρ0 h S W) {n:Nat} (hn:n<6) {e:Nat} (he:W.evB e) (hel:e≤800000000) {Q:Sl→Mem→Prop}
  (hQ:∀ t S',Keeps S S' []→Row S' 4 t ((W.ev n).flatMap evL)→(∀ b o,t.p=some (b,o)→S b=none)→Q t S'):yZ S (some (h,0)) n Q:=by
 obtain⟨ρ,A,C,φ,m,hc,hr⟩:=l
 rw[←hr.ev] at hQ
 exact zfq hc hn (by rw[hr.ev];have:=he n;omega) hQ
theorem zoO {b:Nat} (hb:S b=none) (hg:∀ b r,ρ b=some r→S b≠none) {k:Blk} {xs:List Int} (hk:k.cs=bL xs) (hf:lpart k.cs 0 xs.length=some (bL xs)) (hx:Byt xs) {c:Nat} (hS:S' b=some k) (hc:xs.length≤c) (hp:S'.part b 0 xs.length=some (bL xs)):ImgAt S' ρ ⟨some (b,0),xs.length,c⟩ xs:=
 ⟨rfl,hc,hx,.inr ⟨b,0,rfl,hp,by
  cases e:ρ b with
  | none=>rfl
  | some r=>exact absurd hb (hg b r e),by rw[hS];simp⟩⟩
theorem zqJ {α:Type} {f:α→List Value} {w:Nat} (h:∀ a,(f a).length=w) {l:List α} {j k:Nat} (hj:j<l.length) (hk:k<w):nthL (l.flatMap f) (j*w+k)=nthL (f l[j]) k:=by
 obtain⟨e1,e2⟩:=zjD h hj
 rw[e1,qd e2,vZ (by rw[h];exact hk)]
theorem zoy {S:Mem} {t:Sl} {l:List Evt} (h:Row S 4 t (l.flatMap evL)) (h0:l≠[]):t.n=l.length∧∃ b,t=⟨some (b,0),t.n,t.c⟩∧(∀ i j x,(hi:i<l.length)→j<4→x=i*4+j→S.cell b x=nthL (evL l[i]) j)∧∀ i x,(hi:i<l.length)→x=i*4→S.part b x 4=some (evL l[i]):=by
 have hlen:(l.flatMap evL).length=l.length*4:=wB fP l
 have hpos:0<l.length:=List.length_pos_iff.2 h0
 have hw:Rw S (fun _=>some 0) 0 4 t (l.flatMap evL):=⟨h,fun _ _ _=>rfl⟩
 refine⟨hw.n (by decide) hlen,?_⟩
 obtain⟨b,e1,e2⟩:=hw.sl (by omega)
 refine⟨b,e1,fun i j x hi hj hx=>?_,fun i x hi hx=>?_⟩
 ·rw[hw.cell e2 (i*4+j) (by omega) hx,zqJ fP hi hj]
 ·rw[hw.part e2 (i*4) (by omega) hx,zfp fP hi]
theorem zqU:Byt awImg:=fun x hx=>by
 simp only[awImg,List.mem_cons,List.not_mem_nil,or_false] at hx
 omega
theorem zgt (hgl:Gl S) {Q:Bool→Mem→Prop} (hQ:∀ S',Keeps S S' []→Q true S'):qN S Q:=by
 apply gY
 unfold yU
 refine zqw hgl (fun h=>absurd h (by decide)) fun _ S1 h l1=>?_
 simp only[jn]
 rw[if_neg (by decide),if_neg (by simp)]
 obtain⟨ρ,A,C,φ,m1,hc1,hr1⟩:=l1
 intro b hb
 refine⟨_,zy,rfl,?_⟩
 have hk:Keeps S1 ((S1.set b (bw 5 [.int .u8 65,.int .u8 0,.int .u8 64,.int .u8 4,.int .u8 0,.int .u8 0,.int .u8 0,.int .u8 80])).set b ⟨5,[.int .u8 65,.int .u8 0,.int .u8 64,.int .u8 4,.int .u8 0,.int .u8 0,.int .u8 0,.int .u8 80],(8,9)⟩) []:=fun x hx _=>by
  have:x≠b:=fun e=>hx (e ▸ hb)
  rw[qe this,qe this]
 have hc2:=hc1.keeps hk
 refine zfv (xs:=awImg) hc2 hr1 (zoO hb hc1.rg (k:=⟨5,bL awImg,(8,9)⟩) rfl rfl zqU zy (by decide) (by rw[yh zy];rfl)) (by decide) fun S2 hA=>?_
 have l2:=hA.lv (m1.then hk)
 have ec:((W0 (40-4)).create 1 4 1 awImg).1=0∧((W0 (40-4)).create 1 4 1 awImg).2.1=0:=zrN
 rw[ec.1,ec.2]
 have e1:awW1.evB 0:=evB_W0.create
 refine zqs l2 e1 (by decide) fun S3 l3=>?_
 refine zqs l3 e1.run (by decide) fun S4 l4=>?_
 obtain⟨x1,x2,h1,h2,he⟩:=zrB
 refine znw (n:=0) l4 (by decide) e1.run.run (by decide) fun t S5 hk5 hrow _=>?_
 have hrow':Row S5 4 t ([x1,x2,⟨3,0,65,0⟩,⟨2,0,0,0⟩].flatMap evL):=by
  rw[←he];exact hrow
 obtain⟨hn,c,ht,hcell,hpart⟩:=zoy hrow' (by simp)
 have hn4:t.n=4:=hn
 rw[if_pos rfl,if_pos (by omega),ht,jH]
 refine⟨by omega,?_⟩
 rw[zB (hcell 0 0 _ (by simp) (by decide) rfl)]
 rw[List.getElem_cons_zero,if_pos h1]
 refine⟨by omega,?_⟩
 rw[zB (hcell 1 0 _ (by simp) (by decide) rfl)]
 rw[show [x1,x2,(⟨3,0,65,0⟩:Evt),⟨2,0,0,0⟩][1]=x2 from rfl,if_pos h2]
 refine⟨by omega,?_⟩
 rw[gD (hpart 2 _ (by simp) rfl)]
 refine⟨rfl,?_⟩
 rw[if_pos (by rfl)]
 refine⟨by omega,?_⟩
 rw[gD (hpart 3 _ (by simp) rfl)]
 exact⟨rfl,hQ _ (l4.keeps.trans hk5)⟩
end
end
end Go.Proofs.YtabdpmnhjlmnlaaGreatDoor
namespace Go.Cr
section
open Go Go.Pt
structure Rv where
 ss:Sl
 ks:Sl
 d:Nat→Sl
 mb:Pt
 begun:Int
 at_:Nat→Int
def nilL:Sl:=⟨none,0,0⟩
def rv0:Rv:=⟨nilL,nilL,fun _=>nilL,none,0,fun _=>0⟩
def rvL (x:Rv) (v:Bv) (ow al:Nat→Bool):List Value:=
 [.bool v.on,eL x.ss,.int .i64 v.quota,.int .u64 x.begun,eL x.ks]++(cF 4 (fun j=>[eL (x.d j)])++(cF 6 (fun j=>[.bool (v.bells j)])++([eP x.mb]++(cF 32 (fun p=>[.bool (ow p)])++(cF 3 (fun k=>[.bool (al k)])++cF 3 fun k=>[.int .u64 (x.at_ k)])))))
section
variable {x:Rv} {v:Bv} {ow al:Nat→Bool}
theorem zcK:(cF 4 (fun j=>[eL (x.d j)])).length=4:=wd (w:=1) fun _ _=>rfl
theorem zfB:(cF 6 (fun j=>[Value.bool (v.bells j)])).length=6:=wd (w:=1) fun _ _=>rfl
theorem zfC:(cF 32 (fun j=>[Value.bool (ow j)])).length=32:=wd (w:=1) fun _ _=>rfl
theorem zmx:(cF 3 (fun j=>[Value.bool (al j)])).length=3:=wd (w:=1) fun _ _=>rfl
theorem zpe:(cF 3 (fun j=>[Value.int .u64 (x.at_ j)])).length=3:=wd (w:=1) fun _ _=>rfl
theorem xf:(rvL x v ow al).length=54:=by
 unfold rvL
 simp only[List.length_append,zcK,zfB,zfC,zmx,zpe,List.length_cons,List.length_nil]
theorem zde {f:Nat→Value} {n i:Nat} (hi:i<n):nthL (cF n fun j=>[f j]) i=some (f i):=by
 have:=zdL (w:=1) (k:=0) (n:=n) (f:=fun j=>[f j]) (fun _ _=>rfl) hi (by decide)
 rw[Nat.mul_one] at this;exact this
theorem zbD {f g:Nat→Value} {n i:Nat} {y:Value} (hi:i<n) (hg:∀ j,j<n→g j=if j=i then y else f j):spl (cF n fun j=>[f j]) i [y]=cF n fun j=>[g j]:=by
 have:=zfA (w:=1) (k:=0) (n:=n) (vs:=[y]) (f:=fun j=>[f j]) (fun _ _=>rfl) hi (by simp)
 rw[Nat.mul_one] at this
 rw[show spl (cF n fun j=>[f j]) i [y]=_ from this]
 refine yn fun j hj=>?_
 rw[hg j hj]
 unfold upd
 split <;> rfl
theorem zqr {j:Nat} (hj:j<4):nthL (rvL x v ow al) (5+j)=some (eL (x.d j)):=by
 unfold rvL
 rw[qd (n:=5) rfl,vZ (by rw[zcK];omega)]
 exact zde hj
theorem zmO {j:Nat} (hj:j<6):nthL (rvL x v ow al) (9+j)=some (.bool (v.bells j)):=by
 unfold rvL
 rw[show 9+j=5+(4+j) by omega,qd (n:=5) rfl,qd (n:=4) zcK,vZ (by rw[zfB];omega)]
 exact zde hj
theorem rvL_m:nthL (rvL x v ow al) 15=some (eP x.mb):=by
 unfold rvL
 rw[show 15=5+(4+(6+0)) by omega,qd (n:=5) rfl,qd (n:=4) zcK,qd (n:=6) zfB];rfl
theorem rvL_own {j:Nat} (hj:j<32):nthL (rvL x v ow al) (16+j)=some (.bool (ow j)):=by
 unfold rvL
 rw[show 16+j=5+(4+(6+(1+j))) by omega,qd (n:=5) rfl,qd (n:=4) zcK,qd (n:=6) zfB,qd (n:=1) rfl,vZ (by rw[zfC];omega)]
 exact zde hj
theorem zeo {j:Nat} (hj:j<32) {b:Bool}:spl (rvL x v ow al) (16+j) [.bool b]=rvL x v (upd ow j b) al:=by
 unfold rvL
 rw[show 16+j=5+(4+(6+(1+j))) by omega,zL (n:=5) rfl,zL (n:=4) zcK,zL (n:=6) zfB,zL (n:=1) rfl,vS (by rw[zfC];simp;omega)]
 rw[zbD (g:=fun p=>.bool (upd ow j b p)) hj fun p _=>by unfold upd;split <;> rfl]
theorem zox {j:Nat} (hj:j<3) {b:Bool}:spl (rvL x v ow al) (48+j) [.bool b]=rvL x v ow (upd al j b):=by
 unfold rvL
 rw[show 48+j=5+(4+(6+(1+(32+j)))) by omega,zL (n:=5) rfl,zL (n:=4) zcK,zL (n:=6) zfB,zL (n:=1) rfl,zL (n:=32) zfC,vS (by rw[zmx];simp;omega)]
 rw[zbD (g:=fun p=>.bool (upd al j b p)) hj fun p _=>by unfold upd;split <;> rfl]
theorem zow {j:Nat} (hj:j<3) {t:Int}:spl (rvL x v ow al) (51+j) [.int .u64 t]=rvL { x with at_:=upd x.at_ j t } v ow al:=by
 unfold rvL
 rw[show 51+j=5+(4+(6+(1+(32+(3+j))))) by omega,zL (n:=5) rfl,zL (n:=4) zcK,zL (n:=6) zfB,zL (n:=1) rfl,zL (n:=32) zfC,zL (n:=3) zmx]
 rw[zbD (g:=fun p=>.int .u64 (upd x.at_ j t p)) hj fun p _=>by unfold upd;split <;> rfl]
end
structure Rc0 where
 now:Int
 free:Int
 x:Nat→Rv
 vm:Nat→Bv
 ow:Nat→Nat→Bool
 al:Nat→Nat→Bool
 ls:Nat→Ls
 es:Nat→Sl
def Rc0.L (c:Rc0):List Value:=
 [.int .u64 c.now,.int .i64 c.free]++(cF 6 (fun n=>rvL (c.x n) (c.vm n) (c.ow n) (c.al n))++(cF 16 (fun i=>lsL (c.ls i))++cF 6 fun n=>[eL (c.es n)]))
section
variable {c:Rc0}
theorem fD:(cF 6 (fun n=>rvL (c.x n) (c.vm n) (c.ow n) (c.al n))).length=324:=wd (w:=54) fun _ _=>xf
theorem zhg:(cF 16 (fun i=>lsL (c.ls i))).length=96:=wd (w:=6) fun _ _=>rfl
theorem zpd:(cF 6 fun n=>[eL (c.es n)]).length=6:=wd (w:=1) fun _ _=>rfl
theorem Rc0.len:c.L.length=428:=by
 unfold Rc0.L
 simp only[List.length_append,fD,zhg,zpd,List.length_cons,List.length_nil]
theorem Rc0.get {n j i:Nat} (hn:n<6) (hj:j<54) (hi:i=2+(n*54+j)):nthL c.L i=nthL (rvL (c.x n) (c.vm n) (c.ow n) (c.al n)) j:=by
 subst hi
 unfold Rc0.L
 rw[qd (n:=2) rfl,vZ (by rw[fD];omega)]
 exact zdL (w:=54) (fun _ _=>xf) hn hj
theorem Rc0.gets {n j m i:Nat} (hn:n<6) (hj:j+m≤54) (hi:i=2+(n*54+j)):lpart c.L i m=lpart (rvL (c.x n) (c.vm n) (c.ow n) (c.al n)) j m:=by
 subst hi
 unfold Rc0.L
 rw[xZ (n:=2) rfl,kX (by rw[fD];omega)]
 exact zhf (w:=54) (fun _ _=>xf) hn hj
theorem Rc0.getl {i j k:Nat} (hi:i<16) (hj:j<6) (hk:k=326+(i*6+j)):nthL c.L k=nthL (lsL (c.ls i)) j:=by
 subst hk
 unfold Rc0.L
 rw[show 326+(i*6+j)=2+(324+(i*6+j)) by omega,qd (n:=2) rfl,qd (n:=324) fD,vZ (by rw[zhg];omega)]
 exact zdL (w:=6) (fun _ _=>rfl) hi hj
theorem Rc0.gete {n k:Nat} (hn:n<6) (hk:k=422+n):nthL c.L k=some (eL (c.es n)):=by
 subst hk
 unfold Rc0.L
 rw[show 422+n=2+(324+(96+n)) by omega,qd (n:=2) rfl,qd (n:=324) fD,qd (n:=96) zhg]
 exact zde hn
theorem Rc0.set {n j i:Nat} {vs:List Value} (hn:n<6) (hj:j+vs.length≤54) (hi:i=2+(n*54+j)) {x':Rv} {v':Bv} {ow' al':Nat→Bool} (he:spl (rvL (c.x n) (c.vm n) (c.ow n) (c.al n)) j vs=rvL x' v' ow' al') :
  spl c.L i vs=({ c with x:=upd c.x n x',vm:=upd c.vm n v',ow:=upd c.ow n ow',al:=upd c.al n al' }:Rc0).L:=by
 subst hi
 unfold Rc0.L
 rw[zL (n:=2) rfl,vS (by rw[fD];omega),zfA (w:=54) (fun _ _=>xf) hn hj,he]
 have e:cF 6 (upd (fun n=>rvL (c.x n) (c.vm n) (c.ow n) (c.al n)) n (rvL x' v' ow' al'))=cF 6 fun m=>rvL (upd c.x n x' m) (upd c.vm n v' m) (upd c.ow n ow' m) (upd c.al n al' m):=yn fun m _=>by
  by_cases e:m=n
  ·subst e;simp only[zi]
  ·simp only[zk e]
 rw[e]
theorem Rc0.sete {n k:Nat} (hn:n<6) (hk:k=422+n) {s:Sl}:spl c.L k [eL s]=({ c with es:=upd c.es n s }:Rc0).L:=by
 subst hk
 unfold Rc0.L
 rw[show 422+n=2+(324+(96+n)) by omega,zL (n:=2) rfl,zL (n:=324) fD,zL (n:=96) zhg]
 rw[zbD (g:=fun m=>eL (upd c.es n s m)) hn fun m _=>by unfold upd;split <;> rfl]
theorem Rc0.setf {f:Int}:spl c.L 1 [.int .i64 f]=({ c with free:=f }:Rc0).L:=rfl
end
end
end Go.Cr
