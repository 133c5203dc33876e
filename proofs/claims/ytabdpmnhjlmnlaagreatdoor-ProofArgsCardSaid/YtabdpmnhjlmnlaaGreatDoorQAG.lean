/- Texts of this work,joined by program (pack.py): Cb,Pn,PsG,Ow,Hv,Ry,Cj,Ct,Hw,Hx,PsL,Lz. -/
import Derived.Test.YtabdpmnhjlmnlaaGreatDoorQAF
import Derived.Test.YtabdpmnhjlmnlaaGreatDoorQAE
import Derived.Test.YtabdpmnhjlmnlaaGreatDoorQAB
import Derived.Test.YtabdpmnhjlmnlaaGreatDoorQAD
set_option linter.unusedVariables false
section
namespace Go.Cr
open Go Go.Pt
theorem fG {S S':Mem} {b:Nat} (hk:Keeps S S' []) (h:S' b=none):S b=none:=by
 cases hs:S b with
 | none=>rfl
 | some k=>have:=hk.get hs (by simp);rw[h] at this;cases this
theorem gT {α:Type} {f:α→List Value} {w:Nat} (h:∀ a,(f a).length=w):∀ l:List α,(l.flatMap f).length=l.length*w
 | []=>by simp
 | a :: l=>by rw[List.flatMap_cons,List.length_append,gT h l,h,List.length_cons,Nat.add_mul];omega
theorem zbr {α:Type} {f:α→List Value} {w:Nat} (h:∀ a,(f a).length=w) {l:List α} {j:Nat} (hj:j<l.length):l.flatMap f=(l.take j).flatMap f++(f l[j]++(l.drop (j+1)).flatMap f)∧((l.take j).flatMap f).length=j*w:=by
 constructor
 ·have e:l=l.take j++(l[j] :: l.drop (j+1)):=by rw[List.getElem_cons_drop,List.take_append_drop]
  have e2:=congrArg (List.flatMap f) e
  rw[List.flatMap_append,List.flatMap_cons] at e2
  exact e2
 ·rw[gT h,List.length_take,Nat.min_eq_left (by omega)]
theorem zeI {α:Type} {f:α→List Value} {w:Nat} (h:∀ a,(f a).length=w) {l:List α} {j:Nat} (hj:j<l.length):lpart (l.flatMap f) (j*w) w=some (f l[j]):=by
 obtain⟨e1,e2⟩:=zbr h hj
 have hl:=h l[j]
 rw[e1,show j*w=j*w+0 by omega,xE e2,wx (by omega),←hl,zC rfl]
theorem zbu (r:Cw):(cwL r).length=5:=rfl
structure CaP (S:Mem) (ρ:Rho) (r0 h i:Nat) (L:Sl→List Value) (l:List Cw):Prop where
 ex:∃ cs,Pc S ρ r0 h (L cs)∧Rw S ρ 6 5 cs (l.flatMap cwL)
 get:∀ cs,nthL (L cs) i=some (eL cs)
 set:∀ cs cs',spl (L cs) i [eL cs']=L cs'
 ne:r0≠6
variable {S S':Mem} {ρ ρ':Rho} {R:Nat→Prop} {r0 h i:Nat} {L:Sl→List Value} {l:List Cw}
theorem CaP.keep (hc:CaP S ρ r0 h i L l) (m:Mv S ρ S' ρ' R) (h0:¬R r0) (h6:¬R 6):CaP S' ρ' r0 h i L l:=by
 obtain⟨cs,h1,h2⟩:=hc.ex
 exact⟨⟨cs,h1.keep m h0,h2.keep m h6⟩,hc.get,hc.set,hc.ne⟩
theorem CaP.keeps (hc:CaP S ρ r0 h i L l) (hk:Keeps S S' []):CaP S' ρ r0 h i L l:=by
 obtain⟨cs,h1,h2⟩:=hc.ex
 exact⟨⟨cs,h1.keeps hk,h2.keeps hk⟩,hc.get,hc.set,hc.ne⟩
end Go.Cr
namespace Go.Proofs.YtabdpmnhjlmnlaaGreatDoor
open Go Go.Pt Go.Cr
section
variable {S:Mem} {ρ:Rho} {r0 h i:Nat} {L:Sl→List Value} {l:List Cw}
def Wants (S:Mem) (fv:Value) (p:Cw→Bool):Prop:=∀ S' r (R:Value→Mem→Prop),Keeps S S' []→R (.bool (p r)) S'→cv Tryz.prog S' fv [valL (cwL r)] R
theorem zcT (hc:CaP S ρ r0 h i L l) (hg:∀ b r,ρ b=some r→S b≠none) (hl:l.length≤100) {fv:Value} {p:Cw→Bool} (hf:Wants S fv p) {Q:Mem→Prop}
  (hQ:∀ S' ρ',Mv S ρ S' ρ' (fun r=>r=r0∨r=6)→CaP S' ρ' r0 h i L (l.filter p)→Q S'):xo S (some (h,i)) fv Q:=by
 obtain⟨cs,h1,h2⟩:=hc.ex
 have hn:=h2.n (by decide) (gT zbu l)
 have hi:i<(L cs).length:=by have:=jS (hc.get cs);exact this
 have hcell:S.cell h i=some (eL cs):=(h1.cell i hi rfl).trans (hc.get cs)
 apply km
 unfold yS
 simp only[jn]
 rw[yo,wb hcell]
 refine zO (fun (z:Sl×Int) S'=>∃ j:Nat,z.2=(j:Int)∧j≤l.length∧Keeps S S' []∧Row S' 5 z.1 (((l.take j).filter p).flatMap cwL)∧∀ b o,z.1.p=some (b,o)→S b=none) (fun z=>l.length-z.2.toNat) ?_ ⟨0,rfl,by omega,Keeps.refl,Row.nil,fun b o h=>by cases h⟩
 rintro X ⟨l1,t⟩ S1 ⟨j,rfl,hj,hk,hrow,hfr⟩ ih
 dsimp only at ih hrow hfr hj ⊢
 have h2':=h2.keeps hk
 by_cases hlt:(j:Int)<(cs.n:Int)
 ·have hjl:j<l.length:=by omega
  have hfl:=gT zbu l
  obtain⟨c,e1,e2⟩:=h2.sl (by rw[hfl];omega)
  rw[if_pos hlt]
  rw[e1,gr]
  refine⟨by omega,by omega,?_⟩
  rw[Int.toNat_natCast,gj (by rw[h2'.part e2 (j*5) (by rw[hfl];omega) (by omega)];exact zeI zbu hjl)]
  refine⟨rfl,?_⟩
  have ht:l.take (j+1)=l.take j++[l[j]]:=List.take_succ_eq_append_getElem hjl
  refine hf S1 l[j] _ hk ⟨_,rfl,?_⟩
  by_cases hp:p l[j]=true
  ·rw[if_pos hp]
   refine⟨rfl,?_⟩
   have hl1:l1.n=((l.take j).filter p).length:=by
    have:=hrow.len
    rw[gT zbu] at this;omega
   have hle:((l.take j).filter p).length≤j:=Nat.le_trans (List.length_filter_le _ _) (by rw[List.length_take];omega)
   refine kJ hrow rfl (by decide) rfl (by omega) fun s' S2 b k e3 e4 e5 e6 e7=>?_
   have hb:S b=none:=by
    rcases e5 with e5 | e5
    ·exact hfr b 0 e5
    ·exact fG hk e5
   rw[w64 (by omega) (by omega)]
   refine ih _ S2 ⟨j+1,rfl,by omega,by rw[e6];exact hk.fresh hb,?_,fun b' o' h'=>?_⟩ (by dsimp only;omega)
   ·rw[ht,List.filter_append,List.flatMap_append]
    have:([l[j]].filter p).flatMap cwL=cwL l[j]:=by rw[List.filter_cons_of_pos hp];simp
    rw[this];exact e7
   ·rw[e4] at h';cases h';exact hb
  ·rw[if_neg hp,w64 (by omega) (by omega)]
   refine ih _ S1 ⟨j+1,rfl,by omega,hk,?_,hfr⟩ (by dsimp only;omega)
   rw[ht,List.filter_append,List.flatMap_append]
   have:([l[j]].filter p).flatMap cwL=[]:=by rw[List.filter_cons_of_neg hp];rfl
   rw[this,List.append_nil];exact hrow
 ·rw[if_neg hlt,yo]
  have ej:l.take j=l:=List.take_of_length_le (by omega)
  rw[ej] at hrow
  obtain⟨ρ1,m1,h3⟩:=Rw.claim (R:=fun r=>r=r0∨r=6) (r:=6) hg hk hrow hfr
  have m1':Mv S ρ S1 ρ1 (fun _=>False):=⟨m1.ext,m1.old,fun b hb _=>hk b hb (by simp),m1.al,m1.rg⟩
  refine (h1.keep m1' (fun h=>h)).pt m1.rg (vs:=[eL l1]) i rfl hi rfl fun S2 m2 h4=>?_
  rw[hc.set] at h4
  refine hQ S2 ρ1 (m1.trans (m2.mono fun r hr=>.inl hr)) ⟨⟨l1,h4,h3.keep m2 hc.ne.symm⟩,hc.get,hc.set,hc.ne⟩
theorem zch (hc:CaP S ρ r0 h i L l) (hg:∀ b r,ρ b=some r→S b≠none) (hl:l.length≤100) {vm page:Int} {Q:Mem→Prop}
  (hQ:∀ S' ρ',Mv S ρ S' ρ' (fun r=>r=r0∨r=6)→CaP S' ρ' r0 h i L (dropC l vm page)→Q S'):xp S (some (h,i)) vm page Q:=by
 apply kn
 unfold yU
 intro b1 hb1 b2 hb2
 have hk1:Keeps S (S.set b1 (bw 3 [.int .i64 vm])) []:=Keeps.refl.new hb1
 have hk2:Keeps (S.set b1 (bw 3 [.int .i64 vm])) ((S.set b1 (bw 3 [.int .i64 vm])).set b2 (bw 3 [.int .i64 page])) []:=Keeps.refl.new hb2
 have n12:b1≠b2:=fun e=>by subst e;simp at hb2
 have m1:Mv S ρ ((S.set b1 (bw 3 [.int .i64 vm])).set b2 (bw 3 [.int .i64 page])) ρ (fun r=>r=r0∨r=6):=Mv.keeps hg (hk1.trans hk2)
 rw[if_pos (by simp)]
 refine zcT (hc.keeps (hk1.trans hk2)) m1.rg hl (p:=fun r=>! (decide (r.vm=vm) && decide (r.page=page))) ?_ fun S' ρ' m h=>hQ S' ρ' (m1.trans m) h
 intro S' a R hk hR
 have g1:S' b1=some (bw 3 [.int .i64 vm]):=hk.get (by rw[qk n12];exact zG) (by simp)
 have g2:S' b2=some (bw 3 [.int .i64 page]):=hk.get zG (by simp)
 refine⟨_,[],[_,_],rfl,inferInstance,Tr.mono (wV (S:=S') (r:=cwL a) (t:=some (b1,0)) (t_1:=some (b2,0)) (Q:=fun r S2=>R (.bool r) S2) ?_) (by rintro v S2 ⟨r,rfl,h⟩;exact h)⟩
 unfold yc
 refine⟨rfl,?_⟩
 rw[gj (show lpart (cwL a) 0 2=some [.int .i64 a.vm,.int .i64 a.page] from rfl),yo,yd (by rw[qE g1];rfl),yo,yd (by rw[qE g2];rfl)]
 refine⟨rfl,?_⟩
 have e:eqL [Value.int .i64 a.vm,.int .i64 a.page] [.int .i64 vm,.int .i64 page]=(decide (a.vm=vm) && decide (a.page=page)):=by
  rw[Bool.eq_iff_iff,zcZ (ks:=[.i .i64,.i .i64]) rfl rfl]
  simp
 rw[e];exact hR
end
end Go.Proofs.YtabdpmnhjlmnlaaGreatDoor
end
section
namespace Go.Cr
open Go Go.Pt Go.Hp
def freeL (N:Nat) (used:Nat→Bool):List Int:=((List.range N).filter fun i=>! used i).map fun (n:Nat)=>(n:Int)
theorem yM {N:Nat} {used:Nat→Bool} {f:Int}:f∈freeL N used↔0≤f∧f<N∧used f.toNat=false:=by
 unfold freeL
 simp only[List.mem_map,List.mem_filter,List.mem_range,Bool.not_eq_true']
 constructor
 ·rintro⟨n,⟨h1,h2⟩,rfl⟩
  exact⟨by omega,by omega,by simpa using h2⟩
 ·rintro⟨h0,h1,h2⟩
  exact⟨f.toNat,⟨by omega,h2⟩,by omega⟩
theorem wI {N:Nat} {used:Nat→Bool}:(freeL N used).Nodup:=by
 unfold freeL List.Nodup
 rw[List.pairwise_map]
 exact (List.Pairwise.filter _ List.nodup_range).imp fun {a b} (h:a≠b)=>by omega
theorem zaj {N:Nat} {used:Nat→Bool}:(freeL N used).length=count (fun i=>! used i) N:=by simp[freeL,count]
theorem zcc {N:Nat} {used:Nat→Bool} {F F':List Int} {m:Int} (h:F.Perm (freeL N used)) (h2:F.Perm (m :: F')) (h3:∀ x∈F',¬x<m):∃ f:Nat,m=f∧firstOff used N=some f∧F'.Perm (freeL N (upd used f true)):=by
 have hm:m∈freeL N used:=h.subset (h2.symm.subset (by simp))
 have hp:(m :: F').Perm (freeL N used):=h2.symm.trans h
 have hnd:=hp.nodup_iff.2 wI
 obtain⟨h0,h1,hu⟩:=yM.1 hm
 refine⟨m.toNat,by omega,vQ (by omega) hu fun g hg=>?_,?_⟩
 ·cases hgu:used g with
  | true=>rfl
  | false=>
   have:(g:Int)∈freeL N used:=yM.2 ⟨by omega,by omega,by simpa using hgu⟩
   have:=hp.symm.subset this
   rcases List.mem_cons.1 this with e | e
   ·omega
   ·have:=h3 _ e;omega
 ·rw[List.perm_ext_iff_of_nodup (List.nodup_cons.1 hnd).2 wI]
  intro a
  rw[yM]
  constructor
  ·intro ha
   have h4:=yM.1 (hp.subset (List.mem_cons_of_mem _ ha))
   have hne:a≠m:=fun e=>by rw[e] at ha;exact (List.nodup_cons.1 hnd).1 ha
   exact⟨h4.1,h4.2.1,by rw[zn (by omega)];exact h4.2.2⟩
  ·rintro⟨a0,a1,a2⟩
   have hne:a≠m:=fun e=>by rw[e,zt] at a2;cases a2
   rw[zn (by omega)] at a2
   rcases List.mem_cons.1 (hp.symm.subset (yM.2 ⟨a0,a1,a2⟩)) with e | e
   ·exact absurd e hne
   ·exact e
theorem zcd {N:Nat} {used:Nat→Bool} {F:List Int} {f:Nat} (h:F.Perm (freeL N used)) (hf:f<N) (hu:used f=true):((f:Int) :: F).Perm (freeL N (upd used f false)):=by
 have hnd:=h.nodup_iff.2 wI
 have hn:(f:Int)∉F:=fun hm=>by
  have:=(yM.1 (h.subset hm)).2.2
  rw[Int.toNat_natCast,hu] at this;cases this
 rw[List.perm_ext_iff_of_nodup (List.nodup_cons.2 ⟨hn,hnd⟩) wI]
 intro a
 rw[yM,List.mem_cons]
 constructor
 ·rintro (rfl | ha)
  ·exact⟨by omega,by omega,by rw[Int.toNat_natCast,zt]⟩
  ·have h4:=yM.1 (h.subset ha)
   have hne:a≠f:=fun e=>hn (e ▸ ha)
   exact⟨h4.1,h4.2.1,by rw[zn (by omega)];exact h4.2.2⟩
 ·rintro⟨a0,a1,a2⟩
  by_cases e:a=f
  ·exact .inl e
  ·rw[zn (by omega)] at a2
   exact .inr (h.symm.subset (yM.2 ⟨a0,a1,a2⟩))
def uL (N:Nat) (used:Nat→Bool):List Value:=cF N fun i=>[Value.bool (used i)]
theorem vz {N:Nat} {used:Nat→Bool}:(uL N used).length=N*1:=vF (w:=1) fun _ _=>rfl
theorem zdP {N f:Nat} {used:Nat→Bool} (hf:f<N):nthL (uL N used) f=some (.bool (used f)):=by
 have:=zdf (w:=1) (k:=0) (n:=N) (f:=fun i=>[Value.bool (used i)]) (fun _ _=>rfl) hf (by decide)
 rw[Nat.mul_one] at this;exact this
theorem zeY {N f:Nat} {used:Nat→Bool} (hf:f<N) (b:Bool):spl (uL N used) f [.bool b]=uL N (upd used f b):=by
 have:=zby (w:=1) (k:=0) (n:=N) (vs:=[.bool b]) (f:=fun i=>[Value.bool (used i)]) (fun _ _=>rfl) hf (by simp)
 rw[Nat.mul_one] at this
 unfold uL
 rw[show f=f+0 by rfl,this]
 refine vq fun g _=>?_
 by_cases e:g=f
 ·subst e;simp only[zt,Nat.add_zero];rfl
 ·simp only[zn e,Nat.add_zero]
end Go.Cr
namespace Go.Proofs.YtabdpmnhjlmnlaaGreatDoor
open Go Go.Pt Go.Cr Go.Hp
structure PoolP (S:Mem) (ρ:Rho) (p N:Nat) (used:Nat→Bool) (left:Int):Prop where
 ex:∃ tb fs us F,Hq.Ck S p 0 tb [eL fs,eL us,.int .i64 left] fs F∧(∀ x∈Hq.own fs,ρ x=some 4)∧Rw S ρ 5 1 us (uL N used)∧F.Perm (freeL N used)
 rol:ρ p=some 3
 lim:N≤512
abbrev R345 (r:Nat):Prop:=r=3∨r=4∨r=5
section
variable {S S':Mem} {ρ ρ':Rho} {R:Nat→Prop} {p N:Nat} {used:Nat→Bool} {left:Int}
theorem wY {b r:Nat} (m:Mv S ρ S' ρ' R) (hb:S b≠none) (hr:ρ b=some r) (hR:¬R r):S' b=S b:=m.kp b hb fun r' e=>by rw[hr] at e;cases e;exact hR
theorem PoolP.keep (h:PoolP S ρ p N used left) (m:Mv S ρ S' ρ' R) (h3:¬R 3) (h4:¬R 4) (h5:¬R 5):PoolP S' ρ' p N used left:=by
 obtain⟨tb,fs,us,F,hck,ho,hus,hF⟩:=h.ex
 refine⟨⟨tb,fs,us,F,⟨?_,hck.cell,?_,hck.ne,hck.heap,hck.len⟩,fun x hx=>m.ext x 4 (ho x hx),hus.keep m h5,hF⟩,m.ext p 3 h.rol,h.lim⟩
 ·rw[wY m (by rw[hck.blk];simp) h.rol h3];exact hck.blk
 ·refine hck.row.keep fun b hb=>?_
  have hx:b∈Hq.own fs:=by simp[Hq.own,hb]
  obtain⟨k,hk⟩:=Hq.own_row hck.row hx
  exact wY m (by rw[hk];simp) (ho b hx) h4
theorem PoolP.keeps (h:PoolP S ρ p N used left) (hg:∀ b r,ρ b=some r→S b≠none) (hk:Keeps S S' []):PoolP S' ρ p N used left:=
 h.keep (Mv.keeps (R:=fun _=>False) hg hk) (fun h=>h) (fun h=>h) (fun h=>h)
theorem zcK {b:Nat} {s s':Sl} {rb rr:Nat} (hg:∀ b r,ρ b=some r→S b≠none) (hk:Keeps S S' (b :: Hq.own s)) (hb:ρ b=some rb) (ho:∀ x∈Hq.own s,ρ x=some rr) (hf:∀ x∈Hq.own s',x∈Hq.own s∨S x=none) (hal:Grows S S') (hs':∀ x∈Hq.own s',S' x≠none) :
  ∃ ρ',Mv S ρ S' ρ' (fun r=>r=rb∨r=rr)∧∀ x∈Hq.own s',ρ' x=some rr:=by
 have m0:Mv S ρ S' ρ (fun r=>r=rb∨r=rr):=Mv.keepsW hg hk fun w hw=>by
  rcases List.mem_cons.1 hw with e | e
  ·subst e;exact⟨hal w (hg w rb hb),rb,hb,.inl rfl⟩
  ·exact⟨hal w (hg w rr (ho w e)),rr,ho w e,.inr rfl⟩
 by_cases hex:∃ c,c∈Hq.own s'∧S c=none
 ·obtain⟨c,hc,hcn⟩:=hex
  have hone:∀ x∈Hq.own s',x=c:=by
   intro x hx
   unfold Hq.own at hx hc
   cases hp:s'.p with
   | none=>rw[hp] at hc;simp at hc
   | some q=>rw[hp] at hx hc;simp at hx hc;rw[hx,hc]
  refine⟨ρ.upd c rr,⟨fun x r e=>?_,fun x r e hx=>?_,m0.kp,m0.al,fun x r e=>?_⟩,fun x hx=>by rw[hone x hx];exact yp⟩
  ·rw[yV (fun e2=>hg x r e (by rw[e2];exact hcn))];exact e
  ·rw[yV (fun e2=>hx (by rw[e2];exact hcn))] at e;exact e
  ·by_cases e2:x=c
   ·rw[e2];exact hs' c hc
   ·rw[yV e2] at e;exact m0.rg x r e
 ·refine⟨ρ,m0,fun x hx=>?_⟩
  rcases hf x hx with e | e
  ·exact ho x e
  ·exact absurd ⟨x,hx,e⟩ hex
theorem zcs (h:PoolP S ρ p N used left) {f:Nat} (hf:f<N) {Q:Bool→Mem→Prop} (hQ:Q (used f) S):we S (some (p,0)) f Q:=by
 obtain⟨tb,fs,us,F,hck,ho,hus,hF⟩:=h.ex
 have c1:S.cell p (0+1)=some (eL us):=by rw[qE hck.blk];rfl
 have hn:=hus.n (by decide) vz
 obtain⟨c,e1,e2⟩:=hus.sl (by rw[vz];omega)
 apply jm
 unfold xw
 rw[if_pos (by simp),if_pos (by omega),yo,wb c1,if_pos (by omega),wb c1,e1,gr]
 refine⟨by omega,by omega,?_⟩
 rw[Int.toNat_natCast,fK (by rw[hus.cell e2 f (by rw[vz];omega) (by omega)];exact zdP hf)]
 exact hQ
theorem zae {tb:TypeId} {fs us:Sl} {F:List Int} (hg:∀ b r,ρ b=some r→S b≠none) (hp:ρ p=some 3) (hlim:N≤512) (hck:Hq.Ck S p 0 tb [eL fs,eL us,.int .i64 left] fs F) (ho:∀ x∈Hq.own fs,ρ x=some 4) (hus:Rw S ρ 5 1 us (uL N used)) {f x n:Nat} (hf:f<N) {b:Bool} {c:Nat} (hc:us.p=some (c,0)) (hx:x=f) (hn:n=1) {K:Mem→Prop}
  (hK:∀ S',Mv S ρ S' ρ (· = 5)→Hq.Ck S' p 0 tb [eL fs,eL us,.int .i64 left] fs F→Rw S' ρ 5 1 us (uL N (upd used f b))→K S'):pt S c x n [.bool b] K:=
 hus.pt hg hc f hn (by rw[vz];simp;omega) hx fun S' m h1=>by
  rw[zeY hf] at h1
  refine hK S' m ⟨?_,hck.cell,?_,hck.ne,hck.heap,hck.len⟩ h1
  ·rw[wY m (by rw[hck.blk];simp) hp (by decide)];exact hck.blk
  ·refine hck.row.keep fun b hb=>?_
   have hx:b∈Hq.own fs:=by simp[Hq.own,hb]
   obtain⟨k,hk⟩:=Hq.own_row hck.row hx
   exact wY m (by rw[hk];simp) (ho b hx) (by decide)
theorem zbR (h:PoolP S ρ p N used left) (hg:∀ b r,ρ b=some r→S b≠none) (hl : -1≤left∧left≤4294967296) {Q:Int→Int→Mem→Prop}
  (hY:∀ f:Nat,left≠0→firstOff used N=some f→∀ S' ρ',Mv S ρ S' ρ' R345→PoolP S' ρ' p N (upd used f true) (if left-1 < -1 then -1 else left-1)→Q f 0 S')
  (hN:left=0∨firstOff used N=none→Q 0 3 S):wg S (some (p,0)) Q:=by
 obtain⟨tb,fs,us,F,hck,ho,hus,hF⟩:=h.ex
 have hn:fs.n=F.length:=by have:=hck.row.len;rw[Hq.fl_length] at this;omega
 have c0:S.cell p 0=some (eL fs):=hck.rd
 have c2:S.cell p (0+2)=some (.int .i64 left):=by rw[qE hck.blk];rfl
 have hlen:F.length=count (fun i=>! used i) N:=by rw[hF.length_eq,zaj]
 apply jo
 unfold xx
 simp only[jn]
 rw[if_neg (by simp),yo,yd c2]
 by_cases h0:left=0
 ·rw[if_pos h0];exact hN (.inl h0)
 rw[if_neg h0,wb c0]
 by_cases h1:(fs.n:Int)=0
 ·rw[if_pos h1]
  exact hN (.inr (xb.2 (by omega)))
 rw[if_neg h1,yo,yd c2,w64 (by omega) (by omega)]
 refine zeq hck.blk (by simp) ?_
 have e0:spl [eL fs,eL us,.int .i64 left] (0+2) [.int .i64 (if left-1 < -1 then -1 else left-1)]=[eL fs,eL us,.int .i64 (if left-1 < -1 then -1 else left-1)]:=rfl
 rw[e0]
 have hpo:∀ x∈Hq.own fs,x≠p:=fun x hx e=>hck.ne x hx e.symm
 have hck1:Hq.Ck (S.set p (bw tb [eL fs,eL us,.int .i64 (if left-1 < -1 then -1 else left-1)])) p 0 tb [eL fs,eL us,.int .i64 (if left-1 < -1 then -1 else left-1)] fs F:=
  ⟨zG,rfl,hck.row.keep fun b hb=>qk (hpo b (by simp[Hq.own,hb])),hck.ne,hck.heap,hck.len⟩
 have m1:Mv S ρ (S.set p (bw tb [eL fs,eL us,.int .i64 (if left-1 < -1 then -1 else left-1)])) ρ R345:=(Mv.refl hg).put h.rol (.inl rfl) _
 have m1':Mv S ρ (S.set p (bw tb [eL fs,eL us,.int .i64 (if left-1 < -1 then -1 else left-1)])) ρ (· = 3):=(Mv.refl (R:=(· = 3)) hg).put h.rol rfl _
 refine Hq.pop_spec hck1 (fun e=>h1 (by rw[hn,e];rfl)) fun S2 s2 m F2 hp hmin _ hown hL=>?_
 obtain⟨f,rfl,hff,hF2⟩:=zcc hF hp fun x hx=>by have:=hmin x hx;simpa [Hq.bf] using this
 have hfN:=(zX hff).1
 have e1:spl [eL fs,eL us,.int .i64 (if left-1 < -1 then -1 else left-1)] 0 [eL s2]=[eL s2,eL us,.int .i64 (if left-1 < -1 then -1 else left-1)]:=rfl
 have hck2:=hL.ck
 rw[e1] at hck2
 obtain⟨ρ2,m2,ho2⟩:=zcK (rb:=3) (rr:=4) m1.rg hL.keep h.rol (by exact ho) hL.fresh hL.al fun x hx=>by
  obtain⟨k,hk⟩:=Hq.own_row hck2.row hx;rw[hk];simp
 have m2':Mv (S.set p (bw tb [eL fs,eL us,.int .i64 (if left-1 < -1 then -1 else left-1)])) ρ S2 ρ2 R345:=m2.mono fun r hr=>by rcases hr with hr | hr <;> simp[hr,R345]
 have hus2:=(hus.keep m1' (by decide)).keep m2 (by decide)
 obtain⟨c,e2,e3⟩:=hus.sl (by rw[vz];omega)
 have hun:=hus.n (by decide) vz
 refine⟨f,rfl,?_⟩
 show gL (S2.cell p (0+1)) _
 rw[wb (n:=us) (by rw[qE hck2.blk];rfl),e2,gr]
 refine⟨by omega,by omega,?_⟩
 rw[Int.toNat_natCast]
 refine zae (f:=f) m2.rg (m2.ext p 3 h.rol) h.lim hck2 ho2 hus2 hfN e3 (by omega) rfl fun S3 m3 hck3 hus3=>?_
 have hm3:=(m1.trans m2').trans (m3.mono (R':=R345) fun r hr=>.inr (.inr hr))
 exact hY f h0 hff S3 ρ2 hm3 ⟨⟨tb,s2,us,F2,hck3,ho2,hus3,hF2⟩,hm3.ext p 3 h.rol,h.lim⟩
theorem zcW (h:PoolP S ρ p N used left) (hg:∀ b r,ρ b=some r→S b≠none) {f:Nat} (hf:f<N) {Q:Int→Mem→Prop}
  (hY:used f=true→∀ S' ρ',Mv S ρ S' ρ' R345→PoolP S' ρ' p N (upd used f false) left→Q 0 S') (hN:used f=false→Q 8 S):wh S (some (p,0)) f Q:=by
 obtain⟨tb,fs,us,F,hck,ho,hus,hF⟩:=h.ex
 have hlim:=h.lim
 have hlen:F.length=count (fun i=>! used i) N:=by rw[hF.length_eq,zaj]
 have hcl:=jA (fun i=>! used i) N
 have c1:S.cell p (0+1)=some (eL us):=by rw[qE hck.blk];rfl
 obtain⟨c,e2,e3⟩:=hus.sl (by rw[vz];omega)
 have hun:=hus.n (by decide) vz
 apply jq
 unfold xz
 simp only[jn]
 rw[if_neg (by simp),if_neg (by omega),yo,wb c1,if_neg (by omega),wb c1,e2,gr]
 refine⟨by omega,by omega,?_⟩
 rw[Int.toNat_natCast,fK (by rw[hus.cell e3 f (by rw[vz];omega) (by omega)];exact zdP hf)]
 cases hu:used f with
 | false=>rw[if_neg (by decide)];exact hN hu
 | true=>
  rw[if_pos rfl,yo,wb c1,e2,gr]
  refine⟨by omega,by omega,?_⟩
  refine zae (f:=f) hg h.rol h.lim hck ho hus hf e3 (by omega) rfl fun S1 m1 hck1 hus1=>?_
  refine Hq.push_spec hck1 (by omega) fun S2 s2 F2 hp hL=>?_
  have e1:spl [eL fs,eL us,.int .i64 left] 0 [eL s2]=[eL s2,eL us,.int .i64 left]:=rfl
  have hck2:=hL.ck
  rw[e1] at hck2
  obtain⟨ρ2,m2,ho2⟩:=zcK (rb:=3) (rr:=4) m1.rg hL.keep h.rol (by exact ho) hL.fresh hL.al fun x hx=>by
   obtain⟨k,hk⟩:=Hq.own_row hck2.row hx;rw[hk];simp
  have hm:=(m1.mono (R':=R345) fun r hr=>.inr (.inr hr)).trans (m2.mono (R':=R345) fun r hr=>by rcases hr with hr | hr <;> simp[hr,R345])
  exact hY hu S2 ρ2 hm ⟨⟨tb,s2,us,F2,hck2,ho2,hus1.keep m2 (by decide),hp.trans ((hF.cons _).trans (by have:=zcd (List.Perm.refl _) hf hu;exact this))⟩,hm.ext p 3 h.rol,h.lim⟩
end
end Go.Proofs.YtabdpmnhjlmnlaaGreatDoor
namespace Go.Cr
open Go Go.Pt
theorem gF {N:Nat}:∀ {i:Nat} {u u':Nat→Bool} {l:List Nat} {f:Nat},takeN N i u=some (l,u')→firstOff u' N=some f→takeN N (i+1) u=some (l++[f],upd u' f true)
 | 0,u,u',l,f,h,hf=>by
  simp only[takeN,Option.some.injEq,Prod.mk.injEq] at h
  obtain⟨rfl,rfl⟩:=h
  simp only[takeN,hf,List.nil_append]
 | i+1,u,u',l,f,h,hf=>by
  simp only[takeN] at h
  cases h1:firstOff u N with
  | none=>rw[h1] at h;cases h
  | some g=>
   rw[h1] at h
   dsimp only at h
   cases h2:takeN N i (upd u g true) with
   | none=>rw[h2] at h;cases h
   | some q=>
    obtain⟨l2,u2⟩:=q
    rw[h2] at h
    simp only[Option.some.injEq,Prod.mk.injEq] at h
    obtain⟨rfl,rfl⟩:=h
    have:=gF h2 hf
    have e:takeN N (i+1+1) u=(match firstOff u N with
     | none=>none
     | some f=>match takeN N (i+1) (upd u f true) with
      | none=>none
      | some (l,u')=>some (f :: l,u')):=rfl
    rw[e]
    simp only[h1,this]
    rfl
def leftN (left:Int) (i:Nat):Int:=if left<0 then -1 else left-i
def unmark (u:Nat→Bool) (l:List Nat):Nat→Bool:=l.foldl (fun u f=>upd u f false) u
theorem kL:∀ {l:List Nat} {u:Nat→Bool} {x:Nat},unmark u l x=(u x && ! decide (x∈l))
 | [],u,x=>by simp[unmark]
 | f :: l,u,x=>by
  unfold unmark
  rw[List.foldl_cons]
  have:=kL (l:=l) (u:=upd u f false) (x:=x)
  unfold unmark at this
  rw[this]
  by_cases e:x=f
  ·subst e;rw[zt];simp
  ·rw[zn e];simp[e]
end Go.Cr
namespace Go.Proofs.YtabdpmnhjlmnlaaGreatDoor
open Go Go.Pt Go.Cr Go.Hp
section
variable {S S':Mem} {ρ ρ':Rho} {R:Nat→Prop} {p N:Nat} {used:Nat→Bool} {left:Int}
theorem zfi (l:List Nat) (f:Nat):nL l++[.int .i64 (f:Int)]=nL (l++[f]):=by simp[nL]
theorem ww (l:List Nat):(nL l).length=l.length*1:=by simp[nL]
theorem zbm {l:List Nat} {i:Nat} (h:i<l.length):nthL (nL l) i=some (.int .i64 (l[i]:Nat)):=by
 rw[zK];simp[nL,List.getElem?_eq_getElem h]
theorem fR (h:PoolP S ρ p N used left) (hg:∀ b r,ρ b=some r→S b≠none) (hl : -1≤left∧left≤4294967296) {n:Nat} (hn:n≤1000) {r:Nat} (hr:r≠3∧r≠4∧r≠5) {Q:Sl→Int→Mem→Prop}
  (hY:∀ l u',¬(0≤left∧left<n)→takeN N n used=some (l,u')→∀ s S' ρ',Mv S ρ S' ρ' (fun x=>R345 x∨x=r)→PoolP S' ρ' p N u' (leftN left n)→Rw S' ρ' r 1 s (nL l)→Q s 0 S')
  (hN:(0≤left∧left<n)∨takeN N n used=none→∀ S' ρ' left',Mv S ρ S' ρ' (fun x=>R345 x∨x=r)→(left = -1→left' = -1)→-1≤left'→PoolP S' ρ' p N used left'→Q ⟨none,0,0⟩ 3 S'):ym S (some (p,0)) n Q:=by
 have hlim:=h.lim
 apply jp
 unfold xy
 simp only[jn]
 rw[if_neg (by simp),if_neg (by omega)]
 refine zO (fun (z:Sl×Int) S'=>∃ (i:Nat) (l:List Nat) (u':Nat→Bool) (ρ':Rho),z.2=(i:Int)∧i≤n∧¬(0≤left∧left<i)∧takeN N i used=some (l,u')∧Mv S ρ S' ρ' (fun x=>R345 x∨x=r)∧PoolP S' ρ' p N u' (leftN left i)∧Rw S' ρ' r 1 z.1 (nL l)) (fun z=>n-z.2.toNat) ?_
  ⟨0,[],used,ρ,rfl,by omega,by omega,rfl,Mv.refl hg,by unfold leftN;split <;> (try (have:left = -1:=by omega)) <;> simp_all,Rw.nil⟩
 rintro X ⟨s,t⟩ S1 ⟨i,l,u',ρ1,rfl,hi,hli,ht,m1,hp1,hrow⟩ ih
 dsimp only at ih hrow hi ⊢
 obtain⟨hll,hnd,hfree,hu',_⟩:=yC ht
 by_cases hlt:(i:Int)<(n:Int)
 ·rw[if_pos hlt]
  have hlb : -1≤leftN left i∧leftN left i≤4294967296:=by unfold leftN;split <;> omega
  refine zbR hp1 m1.rg hlb (fun f hl0 hff S2 ρ2 m2 hp2=>?_) fun hbad=>?_
  ·rw[if_neg (by decide)]
   have m2':Mv S1 ρ1 S2 ρ2 (fun x=>R345 x∨x=r):=m2.mono fun x hx=>.inl hx
   have hrow2:=hrow.keep m2 (by unfold R345;omega)
   have hsn:=hrow2.n (by decide) (ww l)
   refine zeP (R:=fun x=>R345 x∨x=r) m2' (.inr rfl) hrow2 rfl (by decide) rfl (by omega) fun s' S3 ρ3 m3 m3' h3 _=>?_
   rw[zfi] at h3
   rw[w64 (by omega) (by omega)]
   refine ih _ S3 ⟨i+1,l++[f],_,ρ3,rfl,by omega,?_,gF ht hff,m1.trans m3,?_,h3⟩ (by dsimp only;omega)
   ·unfold leftN at hl0
    split at hl0 <;> omega
   ·have e:leftN left (i+1)=if leftN left i-1 < -1 then -1 else leftN left i-1:=by
     unfold leftN
     unfold leftN at hl0
     split at hl0 <;> split <;> split <;> omega
    rw[e]
    exact hp2.keep m3' (by omega) (by omega) (by omega)
  ·rw[if_pos (by decide)]
   have hfail:(0≤left∧left<n)∨takeN N n used=none:=by
    rcases hbad with e | e
    ·left
     unfold leftN at e
     split at e <;> omega
    ·right
     rw[wo]
     have h1:=xb.1 e
     obtain⟨_,_,_,_,h5⟩:=yC ht
     omega
   refine zO (fun (z:Int) S'=>∃ (j:Nat) (ρ':Rho),z=(j:Int)∧j≤l.length∧Mv S1 ρ1 S' ρ' R345∧PoolP S' ρ' p N (unmark u' (l.take j)) (leftN left i)) (fun z=>l.length-z.toNat) ?_ ⟨0,ρ1,rfl,by omega,Mv.refl m1.rg,hp1⟩
   rintro Y z S2 ⟨j,ρ2,rfl,hj,m2,hp2⟩ ih2
   have hrow2:=hrow.keep m2 (by unfold R345;omega)
   have hsn:=hrow.n (by decide) (ww l)
   by_cases hlt2:(j:Int)<(s.n:Int)
   ·have hjl:j<l.length:=by omega
    obtain⟨c,e1,e2⟩:=hrow2.sl (by rw[ww];omega)
    rw[if_pos hlt2]
    rw[e1,gr]
    refine⟨by omega,by omega,?_⟩
    rw[Int.toNat_natCast,yd (by rw[hrow2.cell e2 j (by rw[ww];omega) (by omega)];exact zbm hjl)]
    have htk:l.take (j+1)=l.take j++[l[j]]:=List.take_succ_eq_append_getElem hjl
    have hmem:=hfree l[j] (List.getElem_mem hjl)
    have e5:unmark u' (l.take (j+1))=upd (unmark u' (l.take j)) l[j] false:=by
     unfold unmark;rw[htk,List.foldl_append];rfl
    refine zcW hp2 m2.rg hmem.1 (fun _ S3 ρ3 m3 hp3=>?_) fun hf=>?_
    ·rw[w64 (by omega) (by omega)]
     refine ih2 _ S3 ⟨j+1,ρ3,rfl,by omega,m2.trans m3,?_⟩ (by omega)
     rw[e5];exact hp3
    ·exfalso
     rw[kL,hu'] at hf
     have hnt:l[j]∉l.take j:=by
      intro hm
      have h9:l=l.take j++(l[j] :: l.drop (j+1)):=by rw[List.getElem_cons_drop,List.take_append_drop]
      rw[h9] at hnd
      exact (List.nodup_append.1 hnd).2.2 _ hm _ List.mem_cons_self rfl
     simp[hnt] at hf
   ·rw[if_neg hlt2]
    have hjl:j=l.length:=by omega
    have eu:unmark u' (l.take j)=used:=by
     funext x
     rw[kL,hu',hjl,List.take_length]
     by_cases hx:x∈l
     ·simp[hx,(hfree x hx).2]
     ·simp[hx]
    rw[eu] at hp2
    exact hN hfail S2 ρ2 _ (m1.trans (m2.mono fun x hx=>.inl hx)) (fun e=>by unfold leftN;rw[if_pos (by omega)]) (by unfold leftN;split <;> omega) hp2
 ·rw[if_neg hlt]
  have:i=n:=by omega
  subst this
  exact hY l u' hli ht s S1 ρ1 m1 hp1 hrow
end
end Go.Proofs.YtabdpmnhjlmnlaaGreatDoor
end
section
namespace Go.Proofs.YtabdpmnhjlmnlaaGreatDoor
open Go Go.Pt
attribute [local irreducible] Code.wp Back bodyPost wpList FR WL WC WQ WA AW Tr Yc HC AllC
set_option maxRecDepth 20000
set_option maxHeartbeats 4000000
set_option linter.unusedVariables false
def yQ (S:Mem) (b:Pt) (kind:Int) (n:Int) (Q:Int→Mem→Prop):Prop:=
 jn (fun (Sx:Mem)=>
 jn (fun (k:Int) (Sx_1:Mem)=>
 Q k Sx_1) fun Jx=>
 nn b fun b_1 o=>
 gL (Sx.cell b_1 o) fun t=>
 lp (fun Xx (z:Int×Int) (Sx_2:Mem)=>
 match z with
 | (k_1,t_1)=>
 if t_1<(t.n:Int) then
 jn (fun (k_2:Int) (Sx_3:Mem)=>
 Xx (k_2,IntKind.i64.wrap (t_1+1)) Sx_3) fun Jx_1=>
 sl t fun b_2 o_1 n_1 n_2=>
 0≤t_1∧t_1<((n_1:Nat):Int) ∧
 gA (Sx_2.part b_2 (o_1+t_1.toNat*4) 4) fun t_2=>
 t_2.all (·.oneCell')=true ∧
 gI (nthL t_2 0) .u8 fun t_3=>
 if t_3=kind then
 if kind<2 then
 Jx_1 (IntKind.i64.wrap (k_1+1)) Sx_2
 else
 gI (nthL t_2 1) .i64 fun t_4=>
 if t_4=n then
 Jx_1 (IntKind.i64.wrap (k_1+1)) Sx_2
 else
 Jx_1 k_1 Sx_2
 else
 Jx_1 k_1 Sx_2
 else
 Jx k_1 Sx_2) (0,0) Sx) fun Jx_2=>
 if b=none then
 Q 0 S
 else
 Jx_2 S
theorem ki {S:Mem} {b:Pt} {kind:Int} {n:Int} {Q:Int→Mem→Prop} (H:yQ S b kind n Q):qP S b kind n Q:=by
 unfold yQ at H
 exact Tr.intro Tryz.func93 E Tryz.ntmps93 E fun w0=>csr<|gv E E<|nxr<|gv E E<|nx<|zo H (fun (J:Mem→Prop) (z:Unit) S=>J S) (fun z=>⟨39,[(0,eP b),(1,.int .u8 kind),(2,.int .i64 n),(7,.int .i64 0)]⟩) (fun z=>[]) (fun _ Sx H1=>zo H1 (fun (J:Int→Mem→Prop) (z:Int) S=>J z S) (fun z=>⟨39,[(7,.int .i64 z)]⟩) (fun z=>[]) (fun k Sx_1 H2=>csr<|mv E E<|gv E E<|nx<|zm<|zl Tryz.results93 (zf E zi) ⟨_,E,H2⟩) (fun Jx hJx H3=>csr<|mv E E<|by obtain⟨b_1,o,rfl,H4⟩:=H3;exact s_p E (qb E)<|s_p E (zD E E)<|gx H4 fun t ht H5=>s_v E (zB E) (zV ht)<|s_p E (qy E)<|mv E E<|nx<|zs<|qh (fun z=>⟨39,[(1,.int .u8 kind),(2,.int .i64 n),(7,.int .i64 z.1),(15,eL t),(16,.int .i64 (t.n:Int)),(17,.int .i64 z.2)]⟩) (fun z=>[]) (0,0) (idx:=[]) H5 E ⟨E,E,E,E,E,E,True.intro⟩ E<|by rintro Xx hXx ⟨k_1,t_1⟩ Sx_2 H6;exact csr<|iteK H6 (fun c H7=>s_p E (yT (zw E E) c)<|nx<|zx<|c_t E E<|qg<|zk<|zo H7 (fun (J:Int→Mem→Prop) (z:Int) S=>J z S) (fun z=>⟨39,[(1,.int .u8 kind),(2,.int .i64 n),(7,.int .i64 z),(15,eL t),(16,.int .i64 (t.n:Int)),(17,.int .i64 t_1)]⟩) (fun z=>[]) (fun k_2 Sx_3 H8=>zr<|s_p E (zU E E)<|mv E E<|zu<|hXx (k_2,IntKind.i64.wrap (t_1+1)) _ _ _ _ [] H8 E ⟨E,E,E,E,E,E,True.intro⟩ E) (fun Jx_1 hJx_1 H9=>zs<|csr<|by obtain⟨b_2,o_1,n_1,n_2,rfl,H10⟩:=H9;exact an2 H10 fun c_1 c_2 H11=>s_p E (qG E E c_1 c_2 E)<|gx H11 fun t_2 ht_2 H12=>by refine s_v E (qu E (zH ht_2)) (wm ht_2) ?_;exact by refine zN E fun b_3=>?_;exact an H12 fun c_3 H13=>zz 0 E E E E E (zH ht_2) E c_3<|nxr<|s_p E (zD E E)<|gx H13 fun t_3 ht_3 H14=>s_v E (zB E) (zL 0 E ht_3)<|mv E E<|iteK H14 (fun c_4 H15=>ceT E E E (c_4)<|mv E E<|mv E E<|iteK H15 (fun c_5 H16=>s_p E (yT (zw E E) c_5)<|mv E E<|sk4 E E E E<|pk E E E<|pk E E E<|nx<|ctr E E<|mv E E<|s_p E (zU E E)<|gv E E<|zu<|zQ<|hJx_1 (IntKind.i64.wrap (k_1+1)) _ _ _ _ [] H16 E ⟨E,E,E,E,E,E,True.intro⟩ E) fun c_5 H16=>s_p E (yF (zw E E) c_5)<|mv E E<|s_p E (zD E E)<|gx H16 fun t_4 ht_4 H17=>s_v E (zB E) (zL 0 E ht_4)<|mv E E<|iteK H17 (fun c_6 H18=>ceT E E E (c_6)<|pk E E E<|pk E E E<|nx<|ctr E E<|mv E E<|s_p E (zU E E)<|gv E E<|zu<|zQ<|hJx_1 (IntKind.i64.wrap (k_1+1)) _ _ _ _ [] H18 E ⟨E,E,E,E,E,E,True.intro⟩ E) fun c_6 H18=>ceF E E E (c_6)<|pk E E E<|pk E E E<|nx<|cfs E E<|zQ<|hJx_1 k_1 _ _ _ _ [] H18 E ⟨E,E,E,E,E,E,True.intro⟩ E) fun c_4 H15=>ceF E E E (c_4)<|mv E E<|sk8 E E E E E E E E<|pk E E E<|nx<|cfs E E<|zQ<|hJx_1 k_1 _ _ _ _ [] H15 E ⟨E,E,E,E,E,E,True.intro⟩ E)) fun c H7=>s_p E (yF (zw E E) c)<|nx<|zx<|c_f E E<|zT<|zg<|zg<|zv<|hJx k_1 _ _ _ _ [] H7 E ⟨E,True.intro⟩ E)) (fun Jx_2 hJx_2 H19=>csr<|mv E E<|iteK H19 (fun c_7 H20=>s_p E (yT (qH (p:=b) E E) c_7)<|nx<|c_t E E<|csr<|gv E E<|nx<|zm<|ze<|zl Tryz.results93 (zf E zi) ⟨_,E,H20⟩) fun c_7 H20=>s_p E (yF (qH (p:=b) E E) c_7)<|nx<|cfs E E<|hJx_2 () _ _ _ _ [] H20 E ⟨E,E,E,E,True.intro⟩ E)
def yy (S:Mem) (b:Pt) (frame:Int) (n:Int) (page:Int) (Q:Int→Mem→Prop):Prop:=
 yn S b frame fun t t_1 Sx=>
 jn (fun (Sx_1:Mem)=>
 nn t fun b_1 o=>
 pt Sx_1 b_1 o 4 ([.int .u8 3,.int .i64 n,.int .i64 page,.int .i64 0]) fun Sx_2=>
 Q 0 Sx_2) fun Jx=>
 if t_1≠0 then
 Q t_1 Sx
 else
 fq Sx n page fun t_2 Sx_3=>
 if t_2=true then
 nn t fun b_2 o_1=>
 gI (Sx_3.cell b_2 o_1) .u8 fun t_3=>
 if t_3≠0 then
 Q 8 Sx_3
 else
 Jx Sx_3
 else
 Q 1 Sx_3
theorem vK {S:Mem} {b:Pt} {frame:Int} {n:Int} {page:Int} {Q:Int→Mem→Prop} (H:yy S b frame n page Q):yY S b frame n page Q:=by
 unfold yy at H
 exact Tr.intro Tryz.func141 E Tryz.ntmps141 E fun w0=>csr<|gv E E<|nxr<|mv E E<|mv E E<|zbe E E H fun t t_1 Sx H1=>mv E E<|s_p E (zp E E)<|s_p E (zp E E)<|gv E E<|gv E E<|nx<|zo H1 (fun (J:Mem→Prop) (z:Unit) S=>J S) (fun z=>⟨37,[(2,.int .i64 n),(3,.int .i64 page),(9,eP t)]⟩) (fun z=>[]) (fun _ Sx_1 H2=>csr<|mv E E<|mv E E<|mv E E<|s_p E (zM E E)<|by exact by obtain⟨b_1,o,rfl,H3⟩:=H2;exact s_p E (qb E)<|an H3 fun c H4=>wW E E E E E c E<|nxr<|gv E E<|nx<|zm<|zl Tryz.results141 (zf E zi) ⟨_,E,H4⟩) (fun Jx hJx H5=>zs<|csr<|mv E E<|iteK H5 (fun c_1 H6=>s_p E (yT (zI E E) c_1)<|gv E E<|nx<|c_t E E<|csr<|mv E E<|gv E E<|nx<|zm<|zh<|ze<|zl Tryz.results141 (zf E zi) ⟨_,E,H6⟩) fun c_1 H6=>s_p E (yF (zI E E) c_1)<|gv E E<|nx<|c_f E E<|csr<|mv E E<|mv E E<|qW E E H6 fun t_2 Sx_3 H7=>by have H8:=vY H7;rcases H8 with ⟨rfl,H9⟩ | ⟨rfl,H9⟩;exact (s_p E (yB (qt E) E)<|gv E E<|nx<|c_f E E<|csr<|mv E E<|by obtain⟨b_2,o_1,rfl,H10⟩:=H9;exact s_p E (qb E)<|s_p E (zD E E)<|gx H10 fun t_3 ht_3 H11=>s_v E (zB E) (zV ht_3)<|iteK H11 (fun c_2 H12=>s_p E (yT (zI E E) c_2)<|gv E E<|nx<|c_t E E<|csr<|gv E E<|nx<|zm<|zh<|ze<|zl Tryz.results141 (zf E zi) ⟨_,E,H12⟩) fun c_2 H12=>s_p E (yF (zI E E) c_2)<|gv E E<|nx<|cfs E E<|zQ<|hJx () _ _ _ _ [] H12 E ⟨E,E,E,True.intro⟩ E);exact (s_p E (yB (qt E) E)<|gv E E<|nx<|c_t E E<|csr<|gv E E<|nx<|zm<|zh<|ze<|zl Tryz.results141 (zf E zi) ⟨_,E,H9⟩))
def xB (S:Mem) (b:Pt) (frame:Int) (Q:List Value→Int→Mem→Prop):Prop:=
 yn S b frame fun t t_1 Sx=>
 if t_1≠0 then
 Q ([.int .u8 0,.int .i64 0,.int .i64 0,.int .i64 0]) t_1 Sx
 else
 nn t fun b_2 o=>
 gA (Sx.part b_2 o 4) fun t_2=>
 t_2.all (·.oneCell')=true ∧
 Q t_2 0 Sx
theorem js {S:Mem} {b:Pt} {frame:Int} {Q:List Value→Int→Mem→Prop} (H:xB S b frame Q):qQ S b frame Q:=by
 unfold xB at H
 exact Tr.intro Tryz.func36 E Tryz.ntmps36 E fun w0=>csr<|by refine zN E fun b_1=>?_;exact gv E E<|nxr<|mv E E<|mv E E<|zbe E E H fun t t_1 Sx H1=>mv E E<|s_p E (zp E E)<|s_p E (zp E E)<|gv E E<|gv E E<|nx<|zx<|csr<|mv E E<|iteK H1 (fun c H2=>s_p E (yT (zI E E) c)<|nx<|c_t E E<|csr<|s_p E (zM E E)<|by exact mv E E<|wP (sz:=4) (vs:=[.int .u8 0,.int .i64 0,.int .i64 0,.int .i64 0]) 0 E E E E E E (Nat.le_of_ble_eq_true E) E<|gv E E<|nx<|zm<|ze<|zl Tryz.results36 (qa E (qi (k:=4) 0 E E) E (zf E zi)) ⟨_,_,E,E,H2⟩) fun c H2=>s_p E (yF (zI E E) c)<|nx<|cfs E E<|zk<|csr<|mv E E<|by obtain⟨b_2,o,rfl,H3⟩:=H2;exact s_p E (qb E)<|gx H3 fun t_2 ht_2 H4=>by refine s_v E (qu E (zH ht_2)) (wm ht_2) ?_;exact an H4 fun c_1 H5=>zz 0 E E E E E (zH ht_2) E c_1<|gv E E<|nx<|zm<|zl Tryz.results36 (qa E (qi (k:=4) 0 E (zC (zH ht_2))) (zH ht_2) (zf E zi)) ⟨_,_,E,zH ht_2,H5⟩
def xi (S:Mem) (b:Pt) (frame:Int) (n:Int) (Q:Int→Mem→Prop):Prop:=
 yn S b frame fun t t_1 Sx=>
 jn (fun (Sx_1:Mem)=>
 nn t fun b_1 o=>
 pt Sx_1 b_1 o 4 ([.int .u8 1,.int .i64 0,.int .i64 0,.int .i64 0]) fun Sx_2=>
 if 0≤n then
 pt Sx_2 b_1 o 4 ([.int .u8 2,.int .i64 n,.int .i64 0,.int .i64 0]) fun Sx_3=>
 Q 0 Sx_3
 else
 Q 0 Sx_2) fun Jx=>
 if t_1≠0 then
 Q t_1 Sx
 else
 if 6≤n then
 Q 1 Sx
 else
 nn t fun b_2 o_1=>
 gI (Sx.cell b_2 o_1) .u8 fun t_2=>
 if t_2≠0 then
 Q 8 Sx
 else
 Jx Sx
theorem kR {S:Mem} {b:Pt} {frame:Int} {n:Int} {Q:Int→Mem→Prop} (H:xi S b frame n Q):qB S b frame n Q:=by
 unfold xi at H
 exact Tr.intro Tryz.func72 E Tryz.ntmps72 E fun w0=>csr<|gv E E<|nxr<|mv E E<|mv E E<|zbe E E H fun t t_1 Sx H1=>mv E E<|s_p E (zp E E)<|s_p E (zp E E)<|gv E E<|gv E E<|nx<|zo H1 (fun (J:Mem→Prop) (z:Unit) S=>J S) (fun z=>⟨37,[(2,.int .i64 n),(7,eP t)]⟩) (fun z=>[]) (fun _ Sx_1 H2=>csr<|mv E E<|s_p E (zM E E)<|by exact by obtain⟨b_1,o,rfl,H3⟩:=H2;exact s_p E (qb E)<|an H3 fun c H4=>wW E E E E E c E<|nx<|zx<|csr<|mv E E<|iteK H4 (fun c_1 H5=>s_p E (yT (qL E E) c_1)<|nx<|ctr E E<|mv E E<|mv E E<|s_p E (zM E E)<|by exact s_p E (qb E)<|an H5 fun c_2 H6=>wW E E E E E c_2 E<|nxr<|gv E E<|nx<|zm<|zl Tryz.results72 (zf E zi) ⟨_,E,H6⟩) fun c_1 H5=>s_p E (yF (qL E E) c_1)<|nx<|cfs E E<|zk<|csr<|gv E E<|nx<|zm<|zl Tryz.results72 (zf E zi) ⟨_,E,H5⟩) (fun Jx hJx H7=>zs<|csr<|mv E E<|iteK H7 (fun c_3 H8=>s_p E (yT (zI E E) c_3)<|gv E E<|nx<|c_t E E<|csr<|mv E E<|gv E E<|nx<|zm<|zh<|ze<|zl Tryz.results72 (zf E zi) ⟨_,E,H8⟩) fun c_3 H8=>s_p E (yF (zI E E) c_3)<|gv E E<|nx<|c_f E E<|csr<|mv E E<|iteK H8 (fun c_4 H9=>s_p E (yT (qL E E) c_4)<|gv E E<|nx<|c_t E E<|csr<|gv E E<|nx<|zm<|zh<|ze<|zl Tryz.results72 (zf E zi) ⟨_,E,H9⟩) fun c_4 H9=>s_p E (yF (qL E E) c_4)<|gv E E<|nx<|c_f E E<|csr<|mv E E<|by obtain⟨b_2,o_1,rfl,H10⟩:=H9;exact s_p E (qb E)<|s_p E (zD E E)<|gx H10 fun t_2 ht_2 H11=>s_v E (zB E) (zV ht_2)<|iteK H11 (fun c_5 H12=>s_p E (yT (zI E E) c_5)<|gv E E<|nx<|c_t E E<|csr<|gv E E<|nx<|zm<|zh<|ze<|zl Tryz.results72 (zf E zi) ⟨_,E,H12⟩) fun c_5 H12=>s_p E (yF (zI E E) c_5)<|gv E E<|nx<|cfs E E<|zQ<|hJx () _ _ _ _ [] H12 E ⟨E,E,True.intro⟩ E)
def xA (S:Mem) (b:Pt) (frame:Int) (Q:Pt→Int→Mem→Prop):Prop:=
 jn (fun (Sx:Mem)=>
 nn b fun b_1 o=>
 gL (Sx.cell b_1 o) fun t=>
 sl t fun b_2 o_1 n n_1=>
 0≤frame∧frame<((n:Nat):Int) ∧
 Q (some (b_2,o_1+frame.toNat*4)) 0 Sx) fun Jx=>
 if b=none then
 Q none 1 S
 else
 if frame<0 then
 Q none 1 S
 else
 nn b fun b_3 o_2=>
 gL (S.cell b_3 o_2) fun t_1=>
 if (t_1.n:Int)≤frame then
 Q none 1 S
 else
 Jx S
theorem jr {S:Mem} {b:Pt} {frame:Int} {Q:Pt→Int→Mem→Prop} (H:xA S b frame Q):yn S b frame Q:=by
 unfold xA at H
 exact Tr.intro Tryz.func82 E Tryz.ntmps82 E fun w0=>csr<|gv E E<|gv E E<|nx<|zo H (fun (J:Mem→Prop) (z:Unit) S=>J S) (fun z=>⟨27,[(0,eP b),(1,.int .i64 frame)]⟩) (fun z=>[]) (fun _ Sx H1=>csr<|mv E E<|by obtain⟨b_1,o,rfl,H2⟩:=H1;exact s_p E (qb E)<|s_p E (zD E E)<|gx H2 fun t ht H3=>s_v E (zB E) (zV ht)<|mv E E<|by obtain⟨b_2,o_1,n,n_1,rfl,H4⟩:=H3;exact an2 H4 fun c c_1 H5=>s_p E (qG E E c c_1 E)<|gv E E<|gv E E<|nx<|zm<|zl Tryz.results82 (zf E (zf E zi)) ⟨_,_,E,H5⟩) (fun Jx hJx H6=>csr<|mv E E<|iteK H6 (fun c_2 H7=>s_p E (yT (qH (p:=b) E E) c_2)<|mv E E<|sk2 E E<|pk E E E<|mv E E<|sk4 E E E E<|sk2 E E<|zP E<|pk E E E<|nx<|c_t E E<|csr<|gv E E<|gv E E<|nx<|zm<|ze<|zl Tryz.results82 (zf E (zf E zi)) ⟨_,_,E,H7⟩) fun c_2 H7=>s_p E (yF (qH (p:=b) E E) c_2)<|mv E E<|mv E E<|iteK H7 (fun c_3 H8=>s_p E (yT (zw E E) c_3)<|pk E E E<|mv E E<|sk4 E E E E<|sk2 E E<|zP E<|pk E E E<|nx<|c_t E E<|csr<|gv E E<|gv E E<|nx<|zm<|ze<|zl Tryz.results82 (zf E (zf E zi)) ⟨_,_,E,H8⟩) fun c_3 H8=>s_p E (yF (zw E E) c_3)<|pk E E E<|mv E E<|mv E E<|mv E E<|by obtain⟨b_3,o_2,rfl,H9⟩:=H8;exact s_p E (qb E)<|s_p E (zD E E)<|gx H9 fun t_1 ht_1 H10=>s_v E (zB E) (zV ht_1)<|s_p E (qy E)<|iteK H10 (fun c_4 H11=>s_p E (yT (qL E E) c_4)<|pk E E E<|nx<|c_t E E<|csr<|gv E E<|gv E E<|nx<|zm<|ze<|zl Tryz.results82 (zf E (zf E zi)) ⟨_,_,E,H11⟩) fun c_4 H11=>s_p E (yF (qL E E) c_4)<|pk E E E<|nx<|cfs E E<|hJx () _ _ _ _ [] H11 E ⟨E,E,True.intro⟩ E)
def vT (S:Mem) (frames:Int) (Q:Pt→Mem→Prop):Prop:=
 0≤(if 512<(if frames<0 then 0 else frames) then 512 else (if frames<0 then 0 else frames))∧(if 512<(if frames<0 then 0 else frames) then 512 else (if frames<0 then 0 else frames))≤(if 512<(if frames<0 then 0 else frames) then 512 else (if frames<0 then 0 else frames))∧(32:Int)*(if 512<(if frames<0 then 0 else frames) then 512 else (if frames<0 then 0 else frames))≤281474976710656∧(if 512<(if frames<0 then 0 else frames) then 512 else (if frames<0 then 0 else frames))≤9223372036854775807 ∧
 al S 91 (zrep (Int.toNat (if 512<(if frames<0 then 0 else frames) then 512 else (if frames<0 then 0 else frames))) [.int .u8 0,.int .i64 0,.int .i64 0,.int .i64 0]) fun b Sx=>
 al Sx 199 ([.slice (some ⟨b,0,none⟩) (Int.toNat (if 512<(if frames<0 then 0 else frames) then 512 else (if frames<0 then 0 else frames))) (Int.toNat (if 512<(if frames<0 then 0 else frames) then 512 else (if frames<0 then 0 else frames)))]) fun b_1 Sx_1=>
 Q (some (b_1,0)) Sx_1
theorem zat {S:Mem} {frames:Int} {Q:Pt→Mem→Prop} (H:vT S frames Q):jR S frames Q:=by
 unfold vT at H
 exact Tr.intro Tryz.func138 E Tryz.ntmps138 E fun w0=>csr<|gv E E<|nxr<|mv E E<|s_p E (zcn E E)<|s_p E (zdm E E)<|by obtain⟨c,c_1,c_2,c_3,H1⟩:=H;exact zfb E E E c c_1 c_2 c_3 fun b=>vy 0 E fun hb=>have H2:=H1 b hb;s_p E (zM E E)<|by exact xW E E E fun b_1=>vy 0 E fun hb_1=>have H3:=H2 b_1 hb_1;gv E E<|nx<|zm<|zl Tryz.results138 (zf E zi) ⟨_,E,H3⟩
def ja (S:Mem) (n:Int) (page:Int) (Q:Bool→Mem→Prop):Prop:=
 if 0≤n then
 if n<6 then
 if 0≤page then
 Q (decide (page<32)) S
 else
 Q false S
 else
 Q false S
 else
 Q false S
theorem zbI {S:Mem} {n:Int} {page:Int} {Q:Bool→Mem→Prop} (H:ja S n page Q):fq S n page Q:=by
 unfold ja at H
 exact Tr.intro Tryz.func202 E Tryz.ntmps202 E fun w0=>csr<|gv E E<|nxr<|mv E E<|iteK H (fun c H1=>s_p E (yT (qL E E) c)<|mv E E<|mv E E<|iteK H1 (fun c_1 H2=>s_p E (yT (zw E E) c_1)<|pk E E E<|mv E E<|mv E E<|iteK H2 (fun c_2 H3=>s_p E (yT (qL E E) c_2)<|pk E E E<|mv E E<|mv E E<|s_p E (zw E E)<|pk E E E<|gv E E<|nx<|zm<|zl Tryz.results202 (zf E zi) ⟨_,E,H3⟩) fun c_2 H3=>s_p E (yF (qL E E) c_2)<|pk E E E<|mv E E<|sk2 E E<|pk E E E<|gv E E<|nx<|zm<|zl Tryz.results202 (zf E zi) ⟨_,E,H3⟩) fun c_1 H2=>s_p E (yF (zw E E) c_1)<|pk E E E<|mv E E<|sk2 E E<|pk E E E<|mv E E<|sk2 E E<|pk E E E<|gv E E<|nx<|zm<|zl Tryz.results202 (zf E zi) ⟨_,E,H2⟩) fun c H1=>s_p E (yF (qL E E) c)<|mv E E<|sk2 E E<|pk E E E<|mv E E<|sk2 E E<|pk E E E<|mv E E<|sk2 E E<|pk E E E<|gv E E<|nx<|zm<|zl Tryz.results202 (zf E zi) ⟨_,E,H1⟩
end Go.Proofs.YtabdpmnhjlmnlaaGreatDoor
end
section
namespace Go.Cr
open Go Go.Pt
def shC (own:Nat→Ow) (f:Nat) (n:Int):Nat→Ow:=if (own f).kind=3∧(own f).vm=n then upd own f { own f with sh:=(own f).sh+1 } else own
def unshC (own:Nat→Ow) (f:Nat) (n:Int):Nat→Ow:=if (own f).kind=3∧(own f).vm=n∧(own f).sh≠0 then upd own f { own f with sh:=(own f).sh-1 } else own
def recC (own:Nat→Ow) (f:Nat) (n:Int):Nat→Ow:=if (own f).kind=3∧(own f).vm=n∧(own f).sh≤0 then upd own f ow0 else own
def relC (own:Nat→Ow) (f:Nat):Nat→Ow:=if (own f).kind=3∨(own f).kind=0 then own else upd own f ow0
theorem zfh {own:Nat→Ow} {N f:Nat} (hf:f<N) {o:Ow} {j:Nat} {vs:List Value} (hj:j+vs.length≤4) (he:spl (owL (own f)) j vs=owL o):spl (cF N fun g=>owL (own g)) (f*4+j) vs=cF N fun g=>owL (upd own f o g):=by
 rw[zby (w:=4) (fun _ _=>rfl) hf hj,he]
 refine vq fun g _=>?_
 by_cases e:g=f
 ·subst e;simp only[zt]
 ·simp only[zn e]
theorem zdS {own:Nat→Ow} {N f j:Nat} (hf:f<N) (hj:j<4):nthL (cF N fun g=>owL (own g)) (f*4+j)=nthL (owL (own f)) j:=zdf (w:=4) (fun _ _=>rfl) hf hj
theorem zaF {own:Nat→Ow} {N f:Nat} (hf:f<N):lpart (cF N fun g=>owL (own g)) (f*4) 4=some (owL (own f)):=by
 have:=fJ (w:=4) (k:=0) (m:=4) (n:=N) (f:=fun g=>owL (own g)) (fun _ _=>rfl) hf (by decide)
 rw[Nat.add_zero] at this
 rw[this];rfl
end Go.Cr
namespace Go.Proofs.YtabdpmnhjlmnlaaGreatDoor
open Go Go.Pt Go.Cr
section
variable {S:Mem} {ρ:Rho} {ob N:Nat} {own:Nat→Ow}
theorem fj (h:OwnP S ρ ob N own) {f:Nat} (hf:f<N) {Q:Pt→Int→Mem→Prop} (hQ:∀ rs rb,Pc S ρ 8 ob [eL rs]→Rw S ρ 9 4 rs (cF N fun f=>owL (own f))→rs.p=some (rb,0)→Q (some (rb,0+f*4)) 0 S):yn S (some (ob,0)) f Q:=by
 obtain⟨rs,h1,h2⟩:=h.ex
 have hn:=h2.n (by decide) wu
 obtain⟨rb,e1,e2⟩:=h2.sl (by rw[wu];omega)
 have hc:S.cell ob 0=some (eL rs):=h1.cell 0 (by simp) rfl
 apply jr
 unfold xA
 simp only[jn]
 rw[if_neg (by simp),if_neg (by omega),yo,wb hc,if_neg (by omega),yo,wb hc,e1,gr]
 refine⟨by omega,by omega,?_⟩
 rw[Int.toNat_natCast]
 exact hQ rs rb h1 h2 e2
theorem jZ (h:OwnP S ρ ob N own) {f:Nat} (hf:f<N) {Q:List Value→Int→Mem→Prop} (hQ:Q (owL (own f)) 0 S):qQ S (some (ob,0)) f Q:=by
 apply js
 unfold xB
 refine fj h hf fun rs rb h1 h2 hb=>?_
 rw[if_neg (by decide),yo,gj (by rw[h2.part hb (f*4) (by rw[wu];omega) (by omega)];exact zaF hf)]
 exact⟨rfl,hQ⟩
theorem wrow {rs:Sl} {rb f j n x:Nat} {vs:List Value} {o:Ow} (h1:Pc S ρ 8 ob [eL rs]) (h2:Rw S ρ 9 4 rs (cF N fun f=>owL (own f))) (hb:rs.p=some (rb,0)) (hg:∀ b r,ρ b=some r→S b≠none) (hf:f<N) (hn:n=vs.length) (hj:j+vs.length≤4) (hx:x=f*4+j) (he:spl (owL (own f)) j vs=owL o) {K:Mem→Prop}
  (hK:∀ S',Mv S ρ S' ρ (· = 9)→Pc S' ρ 8 ob [eL rs]→Rw S' ρ 9 4 rs (cF N fun g=>owL (upd own f o g))→K S'):pt S rb x n vs K:=
 h2.pt hg hb (f*4+j) hn (by rw[wu];omega) hx fun S' m h3=>hK S' m (h1.keep m (by decide)) (by rw[zfh hf hj he] at h3;exact h3)
theorem zee {n p:Nat} (hn:n<6) (hp:p<32) {Q:Bool→Mem→Prop} (hQ:Q true S):fq S n p Q:=by
 apply zbI
 unfold ja
 rw[if_pos (by omega),if_pos (by omega),if_pos (by omega),decide_eq_true (by omega)]
 exact hQ
theorem zaP (h:OwnP S ρ ob N own) (hg:∀ b r,ρ b=some r→S b≠none) {f n p:Nat} (hf:f<N) (hn:n<6) (hp:p<32) {Q:Int→Mem→Prop} (hQ:∀ e S',Mv S ρ S' ρ (· = 9)→OwnP S' ρ ob N (donC own f n p)→Q e S'):yY S (some (ob,0)) f n p Q:=by
 apply vK
 unfold yy
 refine fj h hf fun rs rb h1 h2 hb=>?_
 simp only[jn]
 rw[if_neg (by decide)]
 refine zee hn hp ?_
 rw[if_pos rfl,yo,yd (by rw[h2.cell hb (f*4) (by rw[wu];omega) (by omega)];exact zdS (j:=0) hf (by decide))]
 unfold donC at hQ
 by_cases hk:(own f).kind=0
 ·rw[if_pos hk] at hQ
  rw[if_neg (fun h=>h hk),yo]
  exact wrow (j:=0) h1 h2 hb hg hf (by rfl) (by simp) (by omega) (by rfl) fun S' m h3 h4=>hQ _ S' m ⟨rs,h3,h4⟩
 ·rw[if_neg hk] at hQ
  rw[if_pos hk]
  exact hQ _ S (Mv.refl hg) ⟨rs,h1,h2⟩
theorem gQ (h:OwnP S ρ ob N own) (hg:∀ b r,ρ b=some r→S b≠none) {f:Nat} {n:Int} (hf:f<N) (hn:n<6) {Q:Int→Mem→Prop} (hQ:∀ e S',Mv S ρ S' ρ (· = 9)→OwnP S' ρ ob N (keepC own f n)→Q e S'):qB S (some (ob,0)) f n Q:=by
 apply kR
 unfold xi
 refine fj h hf fun rs rb h1 h2 hb=>?_
 simp only[jn]
 rw[if_neg (by decide),if_neg (by omega),yo,yd (by rw[h2.cell hb (f*4) (by rw[wu];omega) (by omega)];exact zdS (j:=0) hf (by decide))]
 unfold keepC at hQ
 by_cases hk:(own f).kind=0
 ·rw[if_pos hk] at hQ
  rw[if_neg (fun h=>h hk),yo]
  refine wrow (j:=0) (o:=⟨1,0,0,0⟩) h1 h2 hb hg hf (by rfl) (by simp) (by omega) (by rfl) fun S' m h3 h4=>?_
  by_cases h0:0≤n
  ·rw[if_pos h0] at hQ
   rw[if_pos h0]
   refine wrow (j:=0) (o:=⟨2,n,0,0⟩) (vs:=[.int .u8 2,.int .i64 n,.int .i64 0,.int .i64 0]) h3 h4 hb m.rg hf rfl (by simp) (by omega) rfl fun S2 m2 h5 h6=>hQ _ S2 (m.trans m2) ⟨rs,h5,?_⟩
   rw[fg] at h6;exact h6
  ·rw[if_neg h0] at hQ
   rw[if_neg h0]
   exact hQ _ S' m ⟨rs,h3,h4⟩
 ·rw[if_neg hk] at hQ
  rw[if_pos hk]
  exact hQ _ S (Mv.refl hg) ⟨rs,h1,h2⟩
theorem vl (h:OwnP S ρ ob N own) (hN:N≤512) {kind n:Int} {Q:Int→Mem→Prop} (hQ:Q (count (fun f=>decide ((own f).kind=kind) && (decide (kind<2) || decide ((own f).vm=n))) N) S):qP S (some (ob,0)) kind n Q:=by
 obtain⟨rs,h1,h2⟩:=h.ex
 have hn:=h2.n (by decide) wu
 have hc:S.cell ob 0=some (eL rs):=h1.cell 0 (by simp) rfl
 apply ki
 unfold yQ
 simp only[jn]
 rw[if_neg (by simp),yo,wb hc]
 refine zO (fun (z:Int×Int) S'=>∃ i:Nat,z=(((count (fun f=>decide ((own f).kind=kind) && (decide (kind<2) || decide ((own f).vm=n))) i:Nat):Int),(i:Int))∧i≤N∧S'=S) (fun z=>N-z.2.toNat) ?_ ⟨0,rfl,by omega,rfl⟩
 rintro X z S' ⟨i,rfl,hi,rfl⟩ ih
 dsimp only at ih ⊢
 have hcl:=jA (fun f=>decide ((own f).kind=kind) && (decide (kind<2) || decide ((own f).vm=n))) i
 by_cases hlt:(i:Int)<(rs.n:Int)
 ·obtain⟨rb,e1,e2⟩:=h2.sl (by rw[wu];omega)
  rw[if_pos hlt]
  rw[e1,gr]
  refine⟨by omega,by omega,?_⟩
  rw[Int.toNat_natCast,gj (by rw[h2.part e2 (i*4) (by rw[wu];omega) (by omega)];exact zaF (by omega))]
  refine⟨rfl,?_⟩
  rw[yd (show nthL (owL (own i)) 0=some (.int .u8 (own i).kind) from rfl),w64 (x:=(i:Int)+1) (by omega) (by omega),w64 (x:=(_:Int)+1) (by omega) (by omega)]
  have hs:=qD (fun f=>decide ((own f).kind=kind) && (decide (kind<2) || decide ((own f).vm=n))) i
  by_cases hk:(own i).kind=kind
  ·rw[if_pos hk]
   by_cases h2':kind<2
   ·rw[if_pos h2']
    refine ih _ S' ⟨i+1,?_,by omega,rfl⟩ (by dsimp only;omega)
    rw[hs];simp[hk,h2']
   ·rw[if_neg h2',yd (show nthL (owL (own i)) 1=some (.int .i64 (own i).vm) from rfl)]
    by_cases hv:(own i).vm=n
    ·rw[if_pos hv]
     refine ih _ S' ⟨i+1,?_,by omega,rfl⟩ (by dsimp only;omega)
     rw[hs];simp[hk,hv]
    ·rw[if_neg hv]
     refine ih _ S' ⟨i+1,?_,by omega,rfl⟩ (by dsimp only;omega)
     rw[hs];simp[hv,h2']
  ·rw[if_neg hk]
   refine ih _ S' ⟨i+1,?_,by omega,rfl⟩ (by dsimp only;omega)
   rw[hs];simp[hk]
 ·rw[if_neg hlt]
  have:i=N:=by omega
  subst this;exact hQ
end
end Go.Proofs.YtabdpmnhjlmnlaaGreatDoor
end
section
namespace Go.Proofs.YtabdpmnhjlmnlaaGreatDoor
open Go Go.Pt Go.Cr Go.Hp
structure AlmOf (l:List Hk.Al) (alm:Nat→Nat→Option Int):Prop where
 nd:l.Nodup
 of:∀ a∈l,0≤a.vm∧a.vm<6∧0≤a.seat∧a.seat<3∧alm a.vm.toNat a.seat.toNat=some a.tm
 to:∀ n k t,alm n k=some t→(⟨t,n,k⟩:Hk.Al)∈l
theorem AlmOf.eq {l:List Hk.Al} {alm:Nat→Nat→Option Int} (h:AlmOf l alm) {a b:Hk.Al} (ha:a∈l) (hb:b∈l) (e1:a.vm=b.vm) (e2:a.seat=b.seat):a=b:=by
 have h1:=(h.of a ha).2.2.2.2
 have h2:=(h.of b hb).2.2.2.2
 rw[e1,e2,h2] at h1
 obtain⟨t,v,s⟩:=a
 obtain⟨t',v',s'⟩:=b
 simp only at e1 e2 h1
 cases h1;subst e1;subst e2;rfl
theorem AlmOf.len {l:List Hk.Al} {alm:Nat→Nat→Option Int} (h:AlmOf l alm):l.length≤18:=by
 have hnd:(l.map fun a=>(3*a.vm+a.seat).toNat).Nodup:=by
  unfold List.Nodup
  rw[List.pairwise_map]
  have:=h.nd
  rw[List.Nodup,List.pairwise_iff_forall_sublist] at this
  rw[List.pairwise_iff_forall_sublist]
  intro a b hs he
  have ha:a∈l:=hs.subset (by simp)
  have hb:b∈l:=hs.subset (by simp)
  have h1:=h.of a ha
  have h2:=h.of b hb
  exact this hs (h.eq ha hb (by omega) (by omega))
 have:=hnd.length_le_of_subset (l₂:=List.range 18) fun x hx=>by
  obtain⟨a,ha,rfl⟩:=List.mem_map.1 hx
  have h1:=h.of a ha
  rw[List.mem_range];omega
 simpa using this
structure ClkP (S:Mem) (ρ:Rho) (kb:Nat) (alm:Nat→Nat→Option Int):Prop where
 ex:∃ tb s l,Hk.Ck S kb 0 tb [eL s] s l∧(∀ x∈Hk.own s,ρ x=some 11)∧AlmOf l alm
 rol:ρ kb=some 10
structure VmP (S:Mem) (ρ:Rho) (i:Nat) (x:Vx) (v:Bv) (fr:List Nat):Prop where
 se:Rw S ρ (30+i) 26 x.ss (v.seats.flatMap Seat.L)
 r:∀ s∈v.seats,s.Ok
 fr:Rw S ρ (40+i) 1 x.fs (nL fr)
 ke:Rw S ρ (50+i) 1 x.ks (bL v.keys)
 di:∀ j,j<4→Rw S ρ (60+4*i+j) 1 (x.d j) (bL (v.disk j))
structure Ad where
 m:Nat
 p:Nat
 t:Nat
 ob:Nat
 kb:Nat
 cs:Sl
 gs:Sl
 es:Nat→Sl
 x:Nat→Vx
def hdL (A:Ad):List Value:=[eP (some (A.m,0)),eP (some (A.p,0)),eL A.cs,eP (some (A.t,0)),eL A.gs]++cF 6 fun i=>[eL (A.es i)]
structure CrabA (S:Mem) (ρ:Rho) (h:Nat) (A:Ad) (C:Cst):Prop where
 rg:∀ b r,ρ b=some r→S b≠none
 g0:ρ 0=none
 gl:Gl S
 hd:Pc S ρ 0 h (hdL A)
 st:StoreD S ρ A.m C.N C.dat
 pl:PoolP S ρ A.p C.N C.used C.left
 ca:Rw S ρ 6 5 A.cs (C.cache.flatMap cwL)
 tt:Pc S ρ 7 A.t (knL C.toKn A.x A.ob A.kb)
 ow:OwnP S ρ A.ob C.N C.own
 ck:ClkP S ρ A.kb C.alm
 gs:Rw S ρ 12 1 A.gs (nL C.region)
 ev:∀ i,i<6→Rw S ρ (20+i) 4 (A.es i) ((C.ev i).flatMap evL)
 vs:∀ i,i<6→VmP S ρ i (A.x i) (C.vm i) (C.fr i)
abbrev Rc (r:Nat):Prop:=r<110
section
variable {S S':Mem} {ρ ρ':Rho} {R:Nat→Prop}
theorem ClkP.keep {kb:Nat} {alm:Nat→Nat→Option Int} (h:ClkP S ρ kb alm) (m:Mv S ρ S' ρ' R) (h1:¬R 10) (h2:¬R 11):ClkP S' ρ' kb alm:=by
 obtain⟨tb,s,l,hck,ho,ha⟩:=h.ex
 refine⟨⟨tb,s,l,⟨?_,hck.cell,?_,hck.ne,hck.heap,hck.len⟩,fun x hx=>m.ext x 11 (ho x hx),ha⟩,m.ext kb 10 h.rol⟩
 ·rw[wY m (by rw[hck.blk];simp) h.rol h1];exact hck.blk
 ·refine hck.row.keep fun b hb=>?_
  have hx:b∈Hk.own s:=by simp[Hk.own,hb]
  obtain⟨k,hk⟩:=Hk.own_row hck.row hx
  exact wY m (by rw[hk];simp) (ho b hx) h2
theorem VmP.keep {i:Nat} {x:Vx} {v:Bv} {fr:List Nat} (h:VmP S ρ i x v fr) (m:Mv S ρ S' ρ' R) (hi:i<6) (hR:∀ r,30≤r→r<90→¬R r):VmP S' ρ' i x v fr:=
 ⟨h.se.keep m (hR _ (by omega) (by omega)),h.r,h.fr.keep m (hR _ (by omega) (by omega)),h.ke.keep m (hR _ (by omega) (by omega)),fun j hj=>(h.di j hj).keep m (hR _ (by omega) (by omega))⟩
theorem zaM (h:Gl S):S 0≠none:=by
 obtain⟨t,k,hl⟩:=h
 rw[hl];simp
theorem wG (h:Gl S) (m:Mv S ρ S' ρ' R) (h0:ρ 0=none):Gl S':=by
 exact h.keep (m.kp 0 (zaM h) fun r e=>by rw[h0] at e;cases e)
theorem wH (h:Gl S) (m:Mv S ρ S' ρ' R) (h0:ρ 0=none):ρ' 0=none:=by
 cases e:ρ' 0 with
 | none=>rfl
 | some r=>
  have:=m.old 0 r e (zaM h)
  rw[h0] at this;cases this
variable {h:Nat} {A:Ad} {C:Cst}
theorem CrabA.keep (hc:CrabA S ρ h A C) (m:Mv S ρ S' ρ' R) (hR:∀ r,r<90→¬R r):CrabA S' ρ' h A C:=
 ⟨m.rg,wH hc.gl m hc.g0,wG hc.gl m hc.g0,hc.hd.keep m (hR _ (by decide)),hc.st.keep m (hR _ (by decide)) (hR _ (by decide)),hc.pl.keep m (hR _ (by decide)) (hR _ (by decide)) (hR _ (by decide)),hc.ca.keep m (hR _ (by decide)),hc.tt.keep m (hR _ (by decide)),hc.ow.keep m (hR _ (by decide)) (hR _ (by decide)),hc.ck.keep m (hR _ (by decide)) (hR _ (by decide)),hc.gs.keep m (hR _ (by decide)),fun i hi=>(hc.ev i hi).keep m (hR _ (by omega)),fun i hi=>(hc.vs i hi).keep m hi fun r _ h2=>hR r h2⟩
theorem CrabA.keeps (hc:CrabA S ρ h A C) (hk:Keeps S S' []):CrabA S' ρ h A C:=hc.keep (Mv.keeps (R:=fun _=>False) hc.rg hk) fun _ _ h=>h
theorem CrabA.mv0 (hc:CrabA S ρ h A C) (hk:Keeps S S' []):Mv S ρ S' ρ Rc:=Mv.keeps hc.rg hk
theorem CrabA.setStore (hc:CrabA S ρ h A C) (m:Mv S ρ S' ρ' (· = 2)) {d:Nat→List Int} (hs:StoreD S' ρ' A.m C.N d):CrabA S' ρ' h A { C with dat:=d }:=
 ⟨m.rg,wH hc.gl m hc.g0,wG hc.gl m hc.g0,hc.hd.keep m (by decide),hs,hc.pl.keep m (by decide) (by decide) (by decide),hc.ca.keep m (by decide),hc.tt.keep m (by decide),hc.ow.keep m (by decide) (by decide),hc.ck.keep m (by decide) (by decide),hc.gs.keep m (by decide),fun i hi=>(hc.ev i hi).keep m (by omega),fun i hi=>(hc.vs i hi).keep m hi fun r h1 h2=>by omega⟩
theorem CrabA.setPool (hc:CrabA S ρ h A C) (m:Mv S ρ S' ρ' R) (hR:∀ r,R r→R345 r∨100≤r) {u:Nat→Bool} {left:Int} (hs:PoolP S' ρ' A.p C.N u left):CrabA S' ρ' h A { C with used:=u,left:=left }:=by
 have n:∀ r,r<90→r≠3→r≠4→r≠5→¬R r:=fun r h1 h2 h3 h4 h5=>by
  rcases hR r h5 with h6 | h6
  ·unfold R345 at h6;omega
  ·omega
 exact⟨m.rg,wH hc.gl m hc.g0,wG hc.gl m hc.g0,hc.hd.keep m (n _ (by decide) (by decide) (by decide) (by decide)),hc.st.keep m (n _ (by decide) (by decide) (by decide) (by decide)) (n _ (by decide) (by decide) (by decide) (by decide)),hs,hc.ca.keep m (n _ (by decide) (by decide) (by decide) (by decide)),hc.tt.keep m (n _ (by decide) (by decide) (by decide) (by decide)),hc.ow.keep m (n _ (by decide) (by decide) (by decide) (by decide)) (n _ (by decide) (by decide) (by decide) (by decide)),hc.ck.keep m (n _ (by decide) (by decide) (by decide) (by decide)) (n _ (by decide) (by decide) (by decide) (by decide)),hc.gs.keep m (n _ (by decide) (by decide) (by decide) (by decide)),fun i hi=>(hc.ev i hi).keep m (n _ (by omega) (by omega) (by omega) (by omega)),fun i hi=>(hc.vs i hi).keep m hi fun r h1 h2=>n r h2 (by omega) (by omega) (by omega)⟩
theorem CrabA.setOwn (hc:CrabA S ρ h A C) (m:Mv S ρ S' ρ' (· = 9)) {o:Nat→Ow} (hs:OwnP S' ρ' A.ob C.N o):CrabA S' ρ' h A { C with own:=o }:=
 ⟨m.rg,wH hc.gl m hc.g0,wG hc.gl m hc.g0,hc.hd.keep m (by decide),hc.st.keep m (by decide) (by decide),hc.pl.keep m (by decide) (by decide) (by decide),hc.ca.keep m (by decide),hc.tt.keep m (by decide),hs,hc.ck.keep m (by decide) (by decide),hc.gs.keep m (by decide),fun i hi=>(hc.ev i hi).keep m (by omega),fun i hi=>(hc.vs i hi).keep m hi fun r h1 h2=>by omega⟩
theorem CrabA.setKn (hc:CrabA S ρ h A C) (m:Mv S ρ S' ρ' (· = 7)) {k:Kn} {x:Nat→Vx} (ht:Pc S' ρ' 7 A.t (knL k x A.ob A.kb)) (hv:∀ i,i<6→VmP S' ρ' i (x i) (k.vm i) (k.fr i)):CrabA S' ρ' h { A with x:=x } { C with toKn:=k }:=
 ⟨m.rg,wH hc.gl m hc.g0,wG hc.gl m hc.g0,hc.hd.keep m (by decide),hc.st.keep m (by decide) (by decide),hc.pl.keep m (by decide) (by decide) (by decide),hc.ca.keep m (by decide),ht,hc.ow.keep m (by decide) (by decide),hc.ck.keep m (by decide) (by decide),hc.gs.keep m (by decide),fun i hi=>(hc.ev i hi).keep m (by omega),hv⟩
theorem CrabA.setCache (hc:CrabA S ρ h A C) (m:Mv S ρ S' ρ' (fun r=>r=0∨r=6)) {cs:Sl} {l:List Cw} (hh:Pc S' ρ' 0 h (hdL { A with cs:=cs })) (hs:Rw S' ρ' 6 5 cs (l.flatMap cwL)):CrabA S' ρ' h { A with cs:=cs } { C with cache:=l }:=
 ⟨m.rg,wH hc.gl m hc.g0,wG hc.gl m hc.g0,hh,hc.st.keep m (by decide) (by decide),hc.pl.keep m (by decide) (by decide) (by decide),hs,hc.tt.keep m (by decide),hc.ow.keep m (by decide) (by decide),hc.ck.keep m (by decide) (by decide),hc.gs.keep m (by decide),fun i hi=>(hc.ev i hi).keep m (by omega),fun i hi=>(hc.vs i hi).keep m hi fun r h1 h2=>by omega⟩
theorem CrabA.setEv (hc:CrabA S ρ h A C) (m:Mv S ρ S' ρ' R) (hR:∀ r,R r→r=0∨(20≤r∧r<26)) {es:Nat→Sl} {ev:Nat→List Evt} (hh:Pc S' ρ' 0 h (hdL { A with es:=es })) (hs:∀ i,i<6→Rw S' ρ' (20+i) 4 (es i) ((ev i).flatMap evL)):CrabA S' ρ' h { A with es:=es } { C with ev:=ev }:=by
 have n:∀ r,r≠0→(r<20∨26≤r)→¬R r:=fun r h1 h2 h5=>by have:=hR r h5;omega
 exact⟨m.rg,wH hc.gl m hc.g0,wG hc.gl m hc.g0,hh,hc.st.keep m (n _ (by decide) (by decide)) (n _ (by decide) (by decide)),hc.pl.keep m (n _ (by decide) (by decide)) (n _ (by decide) (by decide)) (n _ (by decide) (by decide)),hc.ca.keep m (n _ (by decide) (by decide)),hc.tt.keep m (n _ (by decide) (by decide)),hc.ow.keep m (n _ (by decide) (by decide)) (n _ (by decide) (by decide)),hc.ck.keep m (n _ (by decide) (by decide)) (n _ (by decide) (by decide)),hc.gs.keep m (n _ (by decide) (by decide)),hs,fun i hi=>(hc.vs i hi).keep m hi fun r h1 h2=>n r (by omega) (by omega)⟩
theorem kV:(hdL A).length=11:=by
 unfold hdL
 rw[List.length_append,vF (w:=1) fun _ _=>rfl];rfl
theorem CrabA.c0 (hc:CrabA S ρ h A C):S.cell h 0=some (eP (some (A.m,0))):=hc.hd.cell 0 (by rw[kV];decide) rfl
theorem CrabA.c1 (hc:CrabA S ρ h A C):S.cell h (0+1)=some (eP (some (A.p,0))):=hc.hd.cell 1 (by rw[kV];decide) rfl
theorem CrabA.c3 (hc:CrabA S ρ h A C):S.cell h (0+3)=some (eP (some (A.t,0))):=hc.hd.cell 3 (by rw[kV];decide) rfl
theorem CrabA.c4 (hc:CrabA S ρ h A C):S.cell h (0+4)=some (eL A.gs):=hc.hd.cell 4 (by rw[kV];decide) rfl
theorem zeF {i:Nat} (hi:i<6) (s:Sl):spl (hdL A) (5+i) [eL s]=hdL { A with es:=upd A.es i s }:=by
 unfold hdL
 rw[kq (n:=5) rfl]
 have:=zby (w:=1) (k:=0) (n:=6) (vs:=[eL s]) (f:=fun i=>[eL (A.es i)]) (fun _ _=>rfl) hi (by simp)
 rw[Nat.mul_one] at this
 rw[show spl (cF 6 fun i=>[eL (A.es i)]) i [eL s]=_ from this]
 congr 1
 refine vq fun n _=>?_
 by_cases e:n=i
 ·subst e;simp only[zt];rfl
 ·simp only[zn e]
theorem CrabA.t74 (hc:CrabA S ρ h A C):S.cell A.t (0+74)=some (eP (some (A.ob,0))):=(hc.tt.cell 74 (by rw[wF];decide) rfl).trans zdV
theorem CrabA.tform (hc:CrabA S ρ h A C):S.cell A.t 0=some (.int .i64 C.form):=hc.tt.cell 0 (by rw[wF];decide) rfl
theorem CrabA.tnow (hc:CrabA S ρ h A C):S.cell A.t (0+1)=some (.int .u64 C.now):=hc.tt.cell 1 (by rw[wF];decide) rfl
theorem CrabA.vcell (hc:CrabA S ρ h A C) {n j x:Nat} (hn:n<6) (hj:j<12) (hx:x=2+n*12+j):S.cell A.t x=nthL (vmC (A.x n) (C.vm n) (C.tf n) (C.late n)) j:=
 (hc.tt.cell (2+(n*12+j)) (by rw[wF];omega) (by omega)).trans (zfk hn hj)
theorem CrabA.vtab (hc:CrabA S ρ h A C) {n x:Nat} (hn:n<6) (hx:x=2+n*12+2):S.part A.t x 2=some (tbL (C.tf n) (A.x n).fs):=
 (hc.tt.part (2+(n*12+2)) (by rw[wF];omega) (by omega)).trans (zez hn (by decide))
theorem CrabA.tls (hc:CrabA S ρ h A C):S.part A.t (0+75) 96=some (cF 16 fun i=>lsL (C.ls i)):=(hc.tt.part 75 (by rw[wF];decide) rfl).trans zeB
theorem CrabA.cap (hc:CrabA S ρ h A C):CaP S ρ 0 h 2 (fun cs=>hdL { A with cs:=cs }) C.cache:=⟨⟨A.cs,hc.hd,hc.ca⟩,fun _=>rfl,fun _ _=>rfl,by decide⟩
end
end Go.Proofs.YtabdpmnhjlmnlaaGreatDoor
end
section
namespace Go.Pt
open Go Go.RowKit Go.Cr
variable {S S':Mem} {ρ ρ':Rho} {r w:Nat} {s:Sl} {l:List Value}
theorem Rw.put (h:Rw S ρ r w s l) (hg:∀ b r,ρ b=Option.some r→S b≠none) {c:Nat} (hc:s.p=Option.some (c,0)) {vs:List Value} {i:Nat} (hi:i+vs.length≤l.length) :
  Mv S ρ (S.put c i vs) ρ (· = r)∧Rw (S.put c i vs) ρ r w s (spl l i vs):=by
 have hl:=h.row.len
 have hcap:=h.row.cap
 have hr:=h.rol c 0 hc
 rcases h.row.lie with ⟨h1,_⟩ | ⟨b,k,h1,h2,h3,h4,h5⟩
 ·rw[h1] at hc;cases hc
 ·rw[h1] at hc;cases hc
  have hm:s.n*w≤s.c*w:=Nat.mul_le_mul_right _ hcap
  rw[wa h2]
  refine⟨Mv.put (R:=(· = r)) (Mv.refl hg) hr rfl _,⟨by rw[qn hi];exact hl,hcap,.inr ⟨c,_,h1,zG,h3,?_,?_⟩⟩,h.rol⟩
  ·simp only;rw[qn (by omega)];exact h4
  ·simp only
   rw[←h5]
   have hkl:k.cs=k.cs.take (s.n*w)++k.cs.drop (s.n*w):=(List.take_append_drop _ _).symm
   have h6:(k.cs.take (s.n*w)).length=s.n*w:=by rw[List.length_take];omega
   have e:spl k.cs i vs=spl (k.cs.take (s.n*w)) i vs++k.cs.drop (s.n*w):=by
    conv=>lhs;rw[hkl]
    exact fi (by omega)
   rw[e,List.take_left' (by rw[qn (by omega)];exact h6)]
theorem Rw.sub (h:Rw S ρ r w s l) {c:Nat} (hc:s.p=Option.some (c,0)) {i:Nat} {v:List Value} (hv:lpart l i v.length=Option.some v):At S c i v:=by
 have hl:=h.row.len
 have hcap:=h.row.cap
 have hi:=(qv hv).1
 rcases h.row.lie with ⟨h1,_⟩ | ⟨b,k,h1,h2,h3,h4,h5⟩
 ·rw[h1] at hc;cases hc
 ·rw[h1] at hc;cases hc
  have hm:s.n*w≤s.c*w:=Nat.mul_le_mul_right _ hcap
  refine⟨k,h2,h3,?_⟩
  rw[qq (by omega)]
  rw[qq hi] at hv
  rw[←hv,←h5]
  congr 1
  apply List.ext_getElem?
  intro j
  simp only[List.getElem?_take,List.getElem?_drop]
  by_cases hj:j<v.length
  ·rw[if_pos hj,if_pos hj,if_pos (by omega)]
  ·rw[if_neg hj,if_neg hj]
end Go.Pt
end
section
namespace Go.Cr
open Go Go.Pt
section
variable {C:Cst} {W:Wd} {φ:Nat→Nat→Nat}
theorem Rel.tell (h:Rel C W φ) (n:Nat) (e:Evt):Rel { C with ev:=upd C.ev n (C.ev n++[e]) } (W.tell n e) φ:=
 { h with wk:={ h.wk with off:=h.wk.off },ev:=by show upd C.ev n (C.ev n++[e])=upd W.ev n (W.ev n++[e]);rw[h.ev] }
theorem WOk.setV (h:WOk W) {n:Nat} {v:Bv} (hon:(W.vm n).on=true) (h1:v.on=true) (h2:v.seats.length=(W.vm n).seats.length) (h3:∀ s∈v.seats,s.Ok) (h4:v.keys.length≤64∧Byt v.keys) (h5:∀ j,(v.disk j).length=256∧Byt (v.disk j)) (h6:v.quota=(W.vm n).quota) (h7:v.bells=(W.vm n).bells):WOk (W.setV n v):=by
 have on':∀ i,((W.setV n v).vm i).on=(W.vm i).on:=fun i=>by
  show (upd W.vm n v i).on=_
  by_cases e:i=n
  ·subst e;rw[zt,h1,hon]
  ·rw[zn e]
 have vm':∀ i,i≠n→(W.setV n v).vm i=W.vm i:=fun i e=>zn e
 have vn:(W.setV n v).vm n=v:=zt
 have be':∀ i,((W.setV n v).vm i).bells=(W.vm i).bells:=fun i=>by
  by_cases e:i=n
  ·subst e;rw[vn,h7]
  ·rw[vm' i e]
 have ql':∀ i,((W.setV n v).vm i).quota=(W.vm i).quota:=fun i=>by
  by_cases e:i=n
  ·subst e;rw[vn,h6]
  ·rw[vm' i e]
 have sl':∀ i,((W.setV n v).vm i).seats.length=(W.vm i).seats.length:=fun i=>by
  by_cases e:i=n
  ·subst e;rw[vn,h2]
  ·rw[vm' i e]
 refine { h with off:=fun i hi=>?_,six:=fun i hi=>by rw[on'];exact h.six i hi,seats:=fun i hi=>?_,ok:=fun i=>?_,keys:=fun i=>?_,disk:=fun i j hi=>?_,quota:=fun i=>by rw[ql'];exact h.quota i,bells:=fun i k=>?_,pg:=fun i p l hl=>?_,most:=fun i=>by rw[ql'];exact h.most i,lsr:=fun i hi=>?_,alarm:=fun i k w hw=>by rw[sl'];exact h.alarm i k w hw }
 ·rw[on'] at hi
  have:i≠n:=fun e=>by subst e;rw[hon] at hi;cases hi
  rw[vm' i this];exact h.off i hi
 ·rw[on'] at hi;rw[sl'];exact h.seats i hi
 ·by_cases e:i=n
  ·subst e;rw[vn];exact h3
  ·rw[vm' i e];exact h.ok i
 ·by_cases e:i=n
  ·subst e;rw[vn];exact h4
  ·rw[vm' i e];exact h.keys i
 ·by_cases e:i=n
  ·subst e;rw[vn];exact h5 j
  ·rw[on'] at hi
   rw[vm' i e];exact h.disk i j hi
 ·rw[be',be',on',on'];exact h.bells i k
 ·rw[on'];exact h.pg i p l hl
 ·rw[on',on'];exact h.lsr i hi
theorem Rel.setV (h:Rel C W φ) {n:Nat} {v:Bv} (hon:(W.vm n).on=true) (h1:v.on=true) (hk:WOk (W.setV n v)):Rel { C with vm:=upd C.vm n v } (W.setV n v) φ:=by
 have on':∀ i,((W.setV n v).vm i).on=(W.vm i).on:=fun i=>by
  show (upd W.vm n v i).on=_
  by_cases e:i=n
  ·subst e;rw[zt,h1,hon]
  ·rw[zn e]
 exact { h with
  wk:=hk
  vm:=by show upd C.vm n v=upd W.vm n v;rw[h.vm]
  time:=fun i hi=>by rw[on'] at hi;exact h.time i hi
  off:=fun i hi=>by rw[on'] at hi;exact h.off i hi
  tab:=fun i hi=>by rw[on'] at hi;exact h.tab i hi
  root:=fun i j hi=>by rw[on'] at hi;exact h.root i j hi
  leaf:=fun i p hi=>by rw[on'] at hi;exact h.leaf i p hi
  cache:=fun r hr=>by
   obtain⟨i,h1,h2,h3⟩:=h.cache r hr
   exact⟨i,h1,by rw[on'];exact h2,h3⟩ }
theorem Rel.setCache (h:Rel C W φ) {l:List Cw} (h1:∀ r∈l,∃ n:Nat,r.vm=n∧(W.vm n).on=true∧C.walk n r.page=some (r.f,r.w)) (h2:l.length≤8):Rel { C with cache:=l } W φ:=
 { h with cache:=h1,csize:=h2 }
theorem zcO {l:List Cw} {vm page:Int} {q:Nat×Bool} (h:lookC l vm page=some q):∃ r∈l,r.vm=vm∧r.page=page∧(r.f,r.w)=q:=by
 unfold lookC at h
 cases hf:l.find? (fun r=>decide (r.vm=vm) && decide (r.page=page)) with
 | none=>rw[hf] at h;cases h
 | some r=>
  rw[hf] at h
  simp only[Option.map_some,Option.some.injEq] at h
  have:=List.find?_some hf
  simp only[Bool.and_eq_true,decide_eq_true_eq] at this
  exact⟨r,List.mem_of_find?_eq_some hf,this.1,this.2,h⟩
theorem gc {l:List Cw} {vm page:Int} {r:Cw} (h:r∈dropC l vm page):r∈l∧¬(r.vm=vm∧r.page=page):=by
 unfold dropC at h
 rw[List.mem_filter] at h
 exact⟨h.1,fun hh=>by have:=h.2;simp[hh.1,hh.2] at this⟩
theorem gd {l:List Cw} {vm page:Int}:(dropC l vm page).length≤l.length:=List.length_filter_le _ _
theorem zdx {l:List Cw} {r x:Cw} (h:x∈putC l r):x∈l∨x=r:=by
 unfold putC at h
 rw[List.mem_append,List.mem_singleton] at h
 rcases h with h | h
 ·left
  split at h
  ·exact (gc (List.mem_of_mem_tail h)).1
  ·exact (gc h).1
 ·exact .inr h
theorem zdy {l:List Cw} {r:Cw} (h:l.length≤8):(putC l r).length≤8:=by
 unfold putC
 have:=gd (l:=l) (vm:=r.vm) (page:=r.page)
 rw[List.length_append]
 split
 ·rw[List.length_tail];simp;omega
 ·simp;omega
theorem Rel.find (h:Rel C W φ) {n:Nat} (hn:(W.vm n).on=true) {page:Int} {q:Nat×Bool} (hl:lookC C.cache n page=some q):C.walk n page=some q:=by
 obtain⟨r,hr,h1,h2,h3⟩:=zcO hl
 obtain⟨m,e1,e2,e3⟩:=h.cache r hr
 have:m=n:=by rw[h1] at e1;omega
 subst this
 rw[h2,h3] at e3;exact e3
theorem Rel.put (h:Rel C W φ) {n:Nat} (hn:(W.vm n).on=true) {page:Int} {f:Nat} {w:Bool} (hw:C.walk n page=some (f,w)):Rel { C with cache:=putC C.cache ⟨n,page,f,w⟩ } W φ:=
 h.setCache (fun r hr=>by
  rcases zdx hr with e | e
  ·exact h.cache r e
  ·subst e;exact⟨n,rfl,hn,hw⟩) (zdy h.csize)
theorem WOk.setO (h:WOk W) {m q:Nat} {l l':List Int} (ho:W.own m q=some l) (hl:l'.length=256∧Byt l'):WOk (W.setO m q (some l')):=by
 have is':∀ i p,((W.setO m q (some l')).own i p).isSome=(W.own i p).isSome:=fun i p=>by
  show (upd W.own m (upd (W.own m) q (some l')) i p).isSome=_
  by_cases e:i=m
  ·subst e
   rw[zt]
   by_cases e2:p=q
   ·subst e2;rw[zt,ho];rfl
   ·rw[zn e2]
  ·rw[zn e]
 have no':∀ i p,(W.setO m q (some l')).own i p=none↔W.own i p=none:=fun i p=>by
  rw[←Option.not_isSome_iff_eq_none,←Option.not_isSome_iff_eq_none,is']
 have hon:=(h.pg m q l ho)
 refine { h with off:=fun i hi=>⟨(h.off i hi).1,fun p=>(no' i p).2 ((h.off i hi).2.1 p),(h.off i hi).2.2⟩,pg:=fun i p l2 hl2=>?_,most:=fun i=>?_,lsr:=fun i hi=>?_,lsa:=fun i hi p hp=>(no' _ _).2 (h.lsa i hi p hp) }
 ·by_cases e:i=m∧p=q
  ·obtain⟨rfl,rfl⟩:=e
   have:l'=l2:=by
    have h2:(W.setO i p (some l')).own i p=some l':=by show upd W.own i (upd (W.own i) p (some l')) i p=_;rw[zt,zt]
    rw[h2] at hl2;exact Option.some.inj hl2
   subst this
   exact⟨hon.1,hon.2.1,hl⟩
  ·refine h.pg i p l2 ?_
   have:(W.setO m q (some l')).own i p=W.own i p:=by
    show upd W.own m (upd (W.own m) q (some l')) i p=_
    by_cases e1:i=m
    ·subst e1;rw[zt,zn (fun e2=>e ⟨rfl,e2⟩)]
    ·rw[zn e1]
   rw[this] at hl2;exact hl2
 ·have:(W.setO m q (some l')).pages i=W.pages i:=xQ fun p _=>is' i p
  rw[this];exact h.most i
 ·rw[is'];exact h.lsr i hi
theorem zbN {m q:Nat} {l l':List Int} (ho:W.own m q=some l) {n p:Nat}:(W.setO m q (some l')).where_ n p=W.where_ n p:=by
 unfold Wd.where_
 have:((W.setO m q (some l')).own n p).isSome=(W.own n p).isSome:=by
  show (upd W.own m (upd (W.own m) q (some l')) n p).isSome=_
  by_cases e:n=m
  ·subst e
   rw[zt]
   by_cases e2:p=q
   ·subst e2;rw[zt,ho];rfl
   ·rw[zn e2]
  ·rw[zn e]
 rw[this];rfl
theorem Rel.walk_keep (h:Rel C W φ) {f:Nat} (hf:(C.own f).kind≠2) {l:List Int} {n:Nat} (hn:(W.vm n).on=true) (page:Int):walkC (upd C.dat f l) C.N (C.tf n) (C.fr n) page=C.walk n page:=by
 by_cases hp:page<0∨31<page
 ·rw[ff hp]
  unfold walkC Go.Cr.leafC
  rw[if_pos hp]
 ·have e:page=((page.toNat:Nat):Int):=by omega
  have h32:page.toNat<32:=by omega
  have key:∀ j i,j<5→ld (upd C.dat f l) ((C.fr n).getD j 0) i=ld C.dat ((C.fr n).getD j 0) i:=fun j i hj=>h.ld_keep hf hn hj
  obtain⟨a,b,c,d,g,hfr⟩:=h.cons hn
  have k0:=key 0 (page/8).toNat (by decide)
  have hlf:=h.leafC hn h32
  rw[←e] at hlf
  unfold Cst.walk walkC
  have hlf2:Go.Cr.leafC (upd C.dat f l) C.N (C.tf n) (C.fr n) page=Go.Cr.leafC C.dat C.N (C.tf n) (C.fr n) page:=by
   unfold Go.Cr.leafC
   rw[if_neg hp,if_neg hp,hfr]
   rw[hfr,List.getD_cons_zero] at k0
   dsimp only
   rw[k0]
  rw[hlf2,hlf]
  dsimp only
  rw[key _ _ (by omega)]
theorem Rel.setO (h:Rel C W φ) {m q:Nat} {l l':List Int} (ho:W.own m q=some l) (hl:l'.length=256∧Byt l'):Rel { C with dat:=upd C.dat (φ m q) l' } (W.setO m q (some l')) φ:=by
 have hp:=h.pg m q l ho
 have hk:(C.own (φ m q)).kind≠2:=by rw[hp.2.1];exact (show (3:Int)≠2 by decide)
 exact { h with
  wk:=h.wk.setO ho hl
  len:=fun f hf=>by
   show (upd C.dat (φ m q) l' f).length=256∧Byt (upd C.dat (φ m q) l' f)
   by_cases e:f=φ m q
   ·rw[e,zt];exact hl
   ·rw[zn e];exact h.len f hf
  root:=fun n j hn hj=>by
   show unp C.form (ld (upd C.dat (φ m q) l') ((C.fr n).getD 0 0) j)=_
   rw[h.ld_keep hk hn (by decide)];exact h.root n j hn hj
  leaf:=fun n p hn hp'=>by
   show unp C.form (ld (upd C.dat (φ m q) l') ((C.fr n).getD (p/8+1) 0) (p%8))=_
   rw[h.ld_keep hk hn (by omega),zbN ho];exact h.leaf n p hn hp'
  pg:=fun n p l2 hl2=>by
   show φ n p<C.N∧C.own (φ n p)=_∧upd C.dat (φ m q) l' (φ n p)=l2
   by_cases e:n=m∧p=q
   ·obtain⟨rfl,rfl⟩:=e
    have h2:(W.setO n p (some l')).own n p=some l':=by show upd W.own n (upd (W.own n) p (some l')) n p=_;rw[zt,zt]
    rw[h2] at hl2
    cases hl2
    exact⟨hp.1,hp.2.1,zt⟩
   ·have h2:(W.setO m q (some l')).own n p=W.own n p:=by
     show upd W.own m (upd (W.own m) q (some l')) n p=_
     by_cases e1:n=m
     ·subst e1;rw[zt,zn (fun e2=>e ⟨rfl,e2⟩)]
     ·rw[zn e1]
    rw[h2] at hl2
    have h3:=h.pg n p l2 hl2
    refine⟨h3.1,h3.2.1,?_⟩
    rw[zn (fun e2=>e (h.inj hl2 ho e2))];exact h3.2.2
  pgk:=fun f hf hk'=>by
   obtain⟨n,p,h1,h2⟩:=h.pgk f hf hk'
   refine⟨n,p,?_,h2⟩
   show (upd W.own m (upd (W.own m) q (some l')) n p).isSome=true
   by_cases e:n=m
   ·subst e
    rw[zt]
    by_cases e2:p=q
    ·subst e2;rw[zt];rfl
    ·rw[zn e2];exact h1
   ·rw[zn e];exact h1
  cache:=fun r hr=>by
   obtain⟨n,h1,h2,h3⟩:=h.cache r hr
   exact⟨n,h1,h2,by rw[←h3];exact h.walk_keep hk h2 r.page⟩ }
theorem Rel.setAlarm (h:Rel C W φ) {n k:Nat} (hk:k<(W.vm n).seats.length) {w:Int} (hw:W64 w):Rel { C with alm:=upd C.alm n (upd (C.alm n) k (some (min (w+C.late n) most64))) } (W.setAlarm n k w) φ:=by
 have hon:(W.vm n).on=true:=by
  cases e:(W.vm n).on with
  | true=>rfl
  | false=>rw[(h.wk.off n e).1] at hk;simp[bv0] at hk
 refine { h with wk:={ h.wk with off:=fun i hi=>⟨(h.wk.off i hi).1,(h.wk.off i hi).2.1,fun j=>?_⟩,alarm:=fun i j w' hw'=>?_ },alm:=fun i j=>?_ }
 ·show upd W.alarm n (upd (W.alarm n) k (some w)) i j=none
  have:i≠n:=fun e=>by subst e;have hi':(W.vm i).on=false:=hi;rw[hon] at hi';cases hi'
  rw[zn this];exact (h.wk.off i hi).2.2 j
 ·have hw'':upd W.alarm n (upd (W.alarm n) k (some w)) i j=some w':=hw'
  by_cases e:i=n
  ·subst e
   rw[zt] at hw''
   by_cases e2:j=k
   ·subst e2;rw[zt] at hw'';cases hw'';exact⟨hk,hw⟩
   ·rw[zn e2] at hw'';exact h.wk.alarm i j w' hw''
  ·rw[zn e] at hw'';exact h.wk.alarm i j w' hw''
 ·show upd C.alm n (upd (C.alm n) k (some (min (w+C.late n) most64))) i j=(upd W.alarm n (upd (W.alarm n) k (some w)) i j).map _
  by_cases e:i=n
  ·subst e
   rw[zt,zt]
   by_cases e2:j=k
   ·subst e2;rw[zt,zt];rfl
   ·rw[zn e2,zn e2];exact h.alm i j
  ·rw[zn e,zn e];exact h.alm i j
end
end Go.Cr
end
section
namespace Go.Cr
open Go Go.Pt
end Go.Cr
namespace Go.Proofs.YtabdpmnhjlmnlaaGreatDoor
open Go Go.Pt Go.Cr
section
variable {bus:Value} {I:Mem→Rho→GM→Prop} {R:Nat→Prop} {S:Mem} {ρ:Rho} {g:GM} {b o:Nat} {s:Seat} {time me:Int}
end
end Go.Proofs.YtabdpmnhjlmnlaaGreatDoor
end
section
namespace Go.Proofs.YtabdpmnhjlmnlaaGreatDoor
open Go Go.Pt Go.Cr Go.Hp
def thereV (vm:Nat→Bv) (n:Int):Prop:=0≤n∧n<6∧(vm n.toNat).on=true
instance (vm:Nat→Bv) (n:Int):Decidable (thereV vm n):=inferInstanceAs (Decidable (_∧_∧_))
theorem zdQ {l:List Seat} (h:∀ s∈l,s.Ok):(l.flatMap Seat.L).length=l.length*26:=by
 induction l with
 | nil=>simp
 | cons s l ih=>
  rw[List.flatMap_cons,List.length_append,ih fun x hx=>h x (by simp[hx]),Seat.L_len (h s (by simp)).len,List.length_cons,Nat.add_mul];omega
section
variable {S S':Mem} {ρ ρ':Rho} {h:Nat} {A:Ad} {C:Cst}
theorem kM (hc:CrabA S ρ h A C) {n:Int} {Q:Bool→Mem→Prop} (hQ:Q (decide (thereV C.vm n)) S):qe S (some (A.t,0)) n Q:=by
 apply vL
 unfold yz
 rw[if_pos (by simp)]
 by_cases h0:0≤n
 ·rw[if_pos h0]
  by_cases h6:n<6
  ·rw[if_pos h6,yo]
   refine⟨h0,h6,?_⟩
   rw[fK (hc.vcell (n:=n.toNat) (j:=0) (by omega) (by decide) (by omega))]
   have e:decide (thereV C.vm n)=(C.vm n.toNat).on:=by
    cases hv:(C.vm n.toNat).on with
    | true=>exact decide_eq_true ⟨h0,h6,hv⟩
    | false=>exact decide_eq_false fun h=>by rw[h.2.2] at hv;cases hv
   rw[e] at hQ;exact hQ
  ·rw[if_neg h6]
   rw[decide_eq_false (fun h=>h6 h.2.1)] at hQ;exact hQ
 ·rw[if_neg h0]
  rw[decide_eq_false (fun h=>h0 h.1)] at hQ;exact hQ
theorem zfA:∀ f:Nat→Bool,∀ k,k<6→bI f/2 ^ k%2=(f k).toNat:=by
 intro f k hk
 have b (i:Nat):(f i).toNat≤1:=Bool.toNat_le _
 have:=b 0;have:=b 1;have:=b 2;have:=b 3;have:=b 4;have:=b 5
 unfold bI
 match k,hk with
 | 0,_=>omega
 | 1,_=>omega
 | 2,_=>omega
 | 3,_=>omega
 | 4,_=>omega
 | 5,_=>omega
theorem zfz (f:Nat→Bool):bI f<64:=by
 have b (i:Nat):(f i).toNat≤1:=Bool.toNat_le _
 have:=b 0;have:=b 1;have:=b 2;have:=b 3;have:=b 4;have:=b 5
 unfold bI;omega
theorem zbA (f:Nat→Bool) {k:Nat} (hk:k<6):decide (iand .u32 (ishr .u32 (bI f:Int) (k:Int)) 1=1)=f k:=by
 have h1:=zfA f k hk
 have h2:=zfz f
 have key:∀ m:Fin 64,∀ j:Fin 6,decide (iand .u32 (ishr .u32 ((m.1:Nat):Int) ((j.1:Nat):Int)) 1=1)=decide (m.1/2 ^ j.1%2=1):=by decide
 have:=key ⟨bI f,h2⟩ ⟨k,hk⟩
 rw[this,h1]
 cases f k <;> rfl
theorem zaJ (hc:CrabA S ρ h A C) {a b:Int} {Q:Bool→Mem→Prop} (hQ:Q (decide (thereV C.vm a) && (decide (thereV C.vm b) && (C.vm a.toNat).bells b.toNat)) S):yL S (some (A.t,0)) a b Q:=by
 apply vx
 unfold yk
 refine kM hc ?_
 by_cases ha:thereV C.vm a
 ·rw[decide_eq_true ha] at hQ ⊢
  rw[if_pos rfl]
  refine kM hc ?_
  by_cases hb:thereV C.vm b
  ·rw[decide_eq_true hb] at hQ ⊢
   rw[if_pos rfl,yo]
   refine⟨ha.1,ha.2.1,?_⟩
   have h6:a.toNat<6:=by have:=ha.1;have:=ha.2.1;omega
   rw[yd (hc.vcell (n:=a.toNat) (j:=11) h6 (by decide) (by omega))]
   refine⟨hb.1,?_⟩
   have e:b=((b.toNat:Nat):Int):=by have:=hb.1;omega
   have hb6:b.toNat<6:=by have:=hb.1;have:=hb.2.1;omega
   have:=zbA (C.vm a.toNat).bells hb6
   rw[←e] at this
   rw[this]
   simpa using hQ
  ·rw[decide_eq_false hb] at hQ ⊢
   rw[if_neg (by decide)]
   simpa using hQ
 ·rw[decide_eq_false ha] at hQ ⊢
  rw[if_neg (by decide)]
  simpa using hQ
variable {W:Wd} {φ:Nat→Nat→Nat}
def busL (h n:Nat):List Value:=[.pointer (some ⟨h,0,none⟩),.int .i64 n]
end
end Go.Proofs.YtabdpmnhjlmnlaaGreatDoor
end
section
namespace Go.Cr
open Go Go.Pt
variable {W:Wd}
theorem zfl {n p:Nat} (hp:p<32):(W.gm n).map p=(W.where_ n p).map fun q=>(32*q.1+q.2.1,q.2.2):=by
 show (if 32≤p then none else _)=_
 rw[if_neg (by omega)]
theorem zfm {n m q:Nat} (hq:q<32):(W.gm n).dat (32*m+q)=(W.own m q).getD []:=by
 show (W.own ((32*m+q)/32) ((32*m+q)%32)).getD []=_
 rw[show (32*m+q)/32=m by omega,show (32*m+q)%32=q by omega]
theorem WOk.gm (h:WOk W) (n:Nat):(W.gm n).Ok:=by
 have key:∀ p f w,(W.gm n).map p=some (f,w)→∃ l,(W.gm n).dat f=l∧l.length=256∧Byt l:=by
  intro p f w hm
  by_cases hp:p<32
  ·rw[zfl hp] at hm
   cases hq:W.where_ n p with
   | none=>rw[hq] at hm;cases hm
   | some q=>
    rw[hq] at hm
    simp only[Option.map_some,Option.some.injEq,Prod.mk.injEq] at hm
    obtain⟨l,hl⟩:=h.where_own hq
    have h2:=h.pg _ _ l hl
    refine⟨l,?_,h2.2.2⟩
    rw[←hm.1,zfm h2.2.1,hl];rfl
  ·have:(W.gm n).map p=none:=by show (if 32≤p then none else _)=none;rw[if_pos (by omega)]
   rw[this] at hm;cases hm
 refine⟨fun p hp=>by show (if 32≤p then none else _)=none;rw[if_pos hp],fun p f w hm=>?_,fun p f w hm=>?_⟩
 ·obtain⟨l,h1,h2,_⟩:=key p f w hm;rw[h1];exact h2
 ·obtain⟨l,h1,_,h2⟩:=key p f w hm;rw[h1];exact h2
theorem By.part {S:Mem} {p:Sl} {xs:List Int} (h:By S p xs) (h0:0<xs.length):∃ b o,p.p=some (b,o)∧S.part b o (xs.length*1)=some (bL xs):=by
 have hl:=h.len
 rcases h.lie with h1 | ⟨b,o,h1,h2⟩
 ·omega
 ·refine⟨b,o,h1,?_⟩
  obtain⟨k,hk,_⟩:=zbw (h2 0 h0)
  have hc:∀ i (hi:i<xs.length),nthL k.cs (o+i)=some (.int .u8 xs[i]):=fun i hi=>by have:=h2 i hi;rwa [qE hk] at this
  have hlast:=jS (hc (xs.length-1) (by omega))
  rw[xL hk,qq (by omega)]
  congr 1
  apply List.ext_getElem?
  intro i
  rw[List.getElem?_take,List.getElem?_drop,Nat.mul_one]
  by_cases hi:i<xs.length
  ·rw[if_pos hi]
   have:=hc i hi
   rw[zK] at this
   rw[this]
   simp[bL,List.getElem?_eq_getElem hi]
  ·rw[if_neg hi,List.getElem?_eq_none (by simp[bL];omega)]
end Go.Cr
namespace Go.Proofs.YtabdpmnhjlmnlaaGreatDoor
open Go Go.Pt Go.Cr Go.Hp
section
variable {S S':Mem} {ρ ρ':Rho} {h:Nat} {A:Ad} {C:Cst} {W:Wd} {φ:Nat→Nat→Nat}
def BI (h n:Nat) (C:Cst) (W:Wd) (φ:Nat→Nat→Nat) (t:Nat) (x:Nat→Vx) (S:Mem) (ρ:Rho) (g:GM):Prop:=
 ∃ A d ca dt,CrabA S ρ h A { C with cache:=ca,dat:=dt }∧Rel { C with cache:=ca,dat:=dt } (W.setDat d) φ∧g=(W.setDat d).gm n∧A.t=t∧A.x=x
abbrev R026 (r:Nat):Prop:=r=0∨r=6∨r=2
end
end Go.Proofs.YtabdpmnhjlmnlaaGreatDoor
end
section
namespace Go.Proofs.YtabdpmnhjlmnlaaGreatDoor
open Go Go.Pt
attribute [local irreducible] Code.wp Back bodyPost wpList FR WL WC WQ WA AW Tr Yc HC AllC
set_option maxRecDepth 20000
set_option maxHeartbeats 4000000
set_option linter.unusedVariables false
def xT (S:Mem) (b:List Value) (vm:Int) (page:Int) (Q:Int→Mem→Prop):Prop:=
 b.length=96 ∧
 jn (fun (Sx:Mem)=>
 Q (-1) Sx) fun Jx=>
 lp (fun Xx (t:Int) (Sx_1:Mem)=>
 if t<16 then
 0≤t∧t<16 ∧
 gA (lpart b (t.toNat*6) 6) fun t_1=>
 t_1.all (·.oneCell')=true ∧
 gB (nthL t_1 0) fun t_2=>
 if t_2=true then
 gI (nthL t_1 3) .i64 fun t_3=>
 if t_3=vm then
 gI (nthL t_1 5) .i64 fun t_4=>
 if t_4=page then
 if 0≤page then
 Q t Sx_1
 else
 Xx (IntKind.i64.wrap (t+1)) Sx_1
 else
 Xx (IntKind.i64.wrap (t+1)) Sx_1
 else
 Xx (IntKind.i64.wrap (t+1)) Sx_1
 else
 Xx (IntKind.i64.wrap (t+1)) Sx_1
 else
 Jx Sx_1) 0 S
theorem jL {S:Mem} {b:List Value} {vm:Int} {page:Int} {Q:Int→Mem→Prop} (H:xT S b vm page Q):wE S b vm page Q:=by
 unfold xT at H
 exact Tr.intro Tryz.func159 E Tryz.ntmps159 E fun w0=>an H fun hb H1=>csr<|xW E E E fun b_1=>gv E E<|nx<|zo H1 (fun (J:Mem→Prop) (z:Unit) S=>J S) (fun z=>⟨34,[]⟩) (fun z=>[]) (fun _ Sx H2=>csr<|gv E E<|nx<|zm<|zl Tryz.results159 (zf E zi) ⟨_,E,H2⟩) (fun Jx hJx H3=>csr<|by refine s_v E (qu E hb) (qi (k:=96) 0 E (zC hb)) ?_;exact mv E E<|nx<|zs<|qh (fun z=>⟨34,[(1,.int .i64 vm),(2,.int .i64 page),(9,valL b),(10,.int .i64 z)]⟩) (fun z=>[]) 0 (idx:=[]) H3 E ⟨E,E,E,E,True.intro⟩ E<|fun Xx hXx t Sx_1 H4=>csr<|iteK H4 (fun c H5=>s_p E (yT (zw E E) c)<|nx<|zx<|c_t E E<|qg<|zk<|zx<|zs<|csr<|mv E E<|an2 H5 fun c_1 c_2 H6=>gx H6 fun t_1 ht_1 H7=>s_p E (gD E E c_1 c_2 ht_1)<|by refine zN E fun b_2=>?_;exact gv E E<|an H7 fun c_3 H8=>zz 0 E E E E E ((qv ht_1).2.2) E c_3<|nxr<|s_p E (zD E E)<|gx H8 fun t_2 ht_2 H9=>by have H10:=vY H9;rcases H10 with ⟨rfl,H11⟩ | ⟨rfl,H11⟩;exact (s_v E (zB E) (zL 0 E ht_2)<|mv E E<|s_p E (zD E E)<|gx H11 fun t_3 ht_3 H12=>s_v E (zB E) (zL 0 E ht_3)<|mv E E<|iteK H12 (fun c_4 H13=>ceT E E E (c_4)<|pk E E E<|mv E E<|s_p E (zD E E)<|gx H13 fun t_4 ht_4 H14=>s_v E (zB E) (zL 0 E ht_4)<|mv E E<|iteK H14 (fun c_5 H15=>ceT E E E (c_5)<|pk E E E<|mv E E<|mv E E<|iteK H15 (fun c_6 H16=>s_p E (yT (qL E E) c_6)<|pk E E E<|nx<|c_t E E<|csr<|mv E E<|gv E E<|nx<|zm<|zh<|ze<|ze<|zh<|ze<|zl Tryz.results159 (zf E zi) ⟨_,E,H16⟩) fun c_6 H16=>s_p E (yF (qL E E) c_6)<|pk E E E<|nx<|cfs E E<|zQ<|zk<|zr<|s_p E (zU E E)<|mv E E<|zu<|hXx (IntKind.i64.wrap (t+1)) _ _ _ _ [] H16 E ⟨E,E,E,E,True.intro⟩ E) fun c_5 H15=>ceF E E E (c_5)<|pk E E E<|mv E E<|sk2 E E<|pk E E E<|nx<|cfs E E<|zQ<|zk<|zr<|s_p E (zU E E)<|mv E E<|zu<|hXx (IntKind.i64.wrap (t+1)) _ _ _ _ [] H15 E ⟨E,E,E,E,True.intro⟩ E) fun c_4 H13=>ceF E E E (c_4)<|pk E E E<|mv E E<|sk4 E E E E<|pk E E E<|mv E E<|sk2 E E<|pk E E E<|nx<|cfs E E<|zQ<|zk<|zr<|s_p E (zU E E)<|mv E E<|zu<|hXx (IntKind.i64.wrap (t+1)) _ _ _ _ [] H13 E ⟨E,E,E,E,True.intro⟩ E);exact (s_v E (zB E) (zL 0 E ht_2)<|mv E E<|sk4 E E E E<|pk E E E<|mv E E<|sk4 E E E E<|pk E E E<|mv E E<|sk2 E E<|pk E E E<|nx<|cfs E E<|zQ<|zk<|zr<|s_p E (zU E E)<|mv E E<|zu<|hXx (IntKind.i64.wrap (t+1)) _ _ _ _ [] H11 E ⟨E,E,E,E,True.intro⟩ E)) fun c H5=>s_p E (yF (zw E E) c)<|nx<|zx<|c_f E E<|zT<|zg<|zg<|zv<|hJx () _ _ _ _ [] H5 E True.intro E)
end Go.Proofs.YtabdpmnhjlmnlaaGreatDoor
end
section
namespace Go.Cr
open Go Go.Pt
def lsC (ls:Nat→Ls):List Value:=cF 16 fun i=>lsL (ls i)
theorem zev {ls:Nat→Ls}:(lsC ls).length=96:=vF (w:=6) fun _ _=>rfl
theorem zbo {ls:Nat→Ls} {i x:Nat} (hi:i<16) (hx:x=i*6):lpart (lsC ls) x 6=some (lsL (ls i)):=by
 subst hx
 have:=fJ (w:=6) (k:=0) (m:=6) (n:=16) (f:=fun i=>lsL (ls i)) (fun _ _=>rfl) hi (by decide)
 rw[Nat.add_zero] at this
 exact this
end Go.Cr
namespace Go.Proofs.YtabdpmnhjlmnlaaGreatDoor
open Go Go.Pt Go.Cr
section
variable {S:Mem} {ls:Nat→Ls}
def z96:List Value:=[.bool false,.int .i64 0,.int .i64 0,.int .i64 0,.bool false,.int .i64 0]
theorem zdG {vm page:Int} {Q:Int→Mem→Prop}
  (hY:∀ i:Nat,i<16→(ls i).on=true→((ls i).to:Int)=vm→(ls i).at_=page→0≤page→Q i S)
  (hN:(∀ i,i<16→¬((ls i).on=true∧((ls i).to:Int)=vm∧(ls i).at_=page∧0≤page))→Q (-1) S):wE S (lsC ls) vm page Q:=by
 apply jL
 unfold xT
 refine⟨zev,?_⟩
 simp only[jn]
 refine zO (fun (z:Int) S'=>∃ i:Nat,z=(i:Int)∧i≤16∧S'=S∧∀ j,j<i→¬((ls j).on=true∧((ls j).to:Int)=vm∧(ls j).at_=page∧0≤page)) (fun z=>16-z.toNat) ?_ ⟨0,rfl,by omega,rfl,fun _ h=>by omega⟩
 rintro X z S' ⟨i,rfl,hi,rfl,hno⟩ ih
 by_cases hlt:(i:Int)<16
 ·rw[if_pos hlt]
  refine⟨by omega,by omega,?_⟩
  rw[Int.toNat_natCast,gj (zbo (i:=i) (by omega) rfl)]
  refine⟨rfl,?_⟩
  have go:¬((ls i).on=true∧((ls i).to:Int)=vm∧(ls i).at_=page∧0≤page)→X (IntKind.i64.wrap ((i:Int)+1)) S':=fun hn=>by
   rw[w64 (by omega) (by omega)]
   refine ih _ S' ⟨i+1,rfl,by omega,rfl,fun j hj=>?_⟩ (by omega)
   by_cases e:j=i
   ·subst e;exact hn
   ·exact hno j (by omega)
  rw[fK (show nthL (lsL (ls i)) 0=some (.bool (ls i).on) from rfl)]
  by_cases hon:(ls i).on=true
  ·rw[if_pos hon,yd (show nthL (lsL (ls i)) 3=some (.int .i64 (ls i).to) from rfl)]
   by_cases ht:((ls i).to:Int)=vm
   ·rw[if_pos ht,yd (show nthL (lsL (ls i)) 5=some (.int .i64 (ls i).at_) from rfl)]
    by_cases hat:(ls i).at_=page
    ·rw[if_pos hat]
     by_cases h0:0≤page
     ·rw[if_pos h0];exact hY i (by omega) hon ht hat h0
     ·rw[if_neg h0];exact go fun h=>h0 h.2.2.2
    ·rw[if_neg hat];exact go fun h=>hat h.2.2.1
   ·rw[if_neg ht];exact go fun h=>ht h.2.1
  ·rw[if_neg hon];exact go fun h=>hon h.1
 ·rw[if_neg hlt]
  exact hN fun j hj=>hno j (by omega)
end
end Go.Proofs.YtabdpmnhjlmnlaaGreatDoor
end
