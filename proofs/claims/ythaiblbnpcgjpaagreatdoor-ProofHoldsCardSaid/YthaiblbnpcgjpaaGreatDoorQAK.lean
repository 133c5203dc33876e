/- Texts of this work,joined by program (pack.py). -/
import Derived.Test.YthaiblbnpcgjpaaGreatDoorQAJ
import Derived.Test.YthaiblbnpcgjpaaGreatDoorQAG
import Derived.Test.YthaiblbnpcgjpaaGreatDoorQAF
import Derived.Test.YthaiblbnpcgjpaaGreatDoorQAE
import Derived.Test.YthaiblbnpcgjpaaGreatDoorQAI
import Derived.Test.YthaiblbnpcgjpaaGreatDoorQAH
import Derived.Test.YthaiblbnpcgjpaaGreatDoorQAC
import Derived.Test.YthaiblbnpcgjpaaGreatDoorQAD
set_option linter.unusedVariables false
section
namespace Go.Cr
open Go Go.Pt Go.Hp
def freeL (N:Nat) (used:Nat→Bool):List Int:=((List.range N).filter fun i=>! used i).map fun (n:Nat)=>(n:Int)
theorem wl {N:Nat} {used:Nat→Bool} {f:Int}:f∈freeL N used↔0≤f∧f<N∧used f.toNat=false:=by
 unfold freeL
 simp only[List.mem_map,List.mem_filter,List.mem_range,Bool.not_eq_true']
 constructor
 ·rintro⟨n,⟨h1,h2⟩,rfl⟩
  exact⟨by omega,by omega,by simpa using h2⟩
 ·rintro⟨h0,h1,h2⟩
  exact⟨f.toNat,⟨by omega,h2⟩,by omega⟩
theorem gH {N:Nat} {used:Nat→Bool}:(freeL N used).Nodup:=by
 unfold freeL List.Nodup
 rw[List.pairwise_map]
 exact (List.Pairwise.filter _ List.nodup_range).imp fun {a b} (h:a≠b)=>by omega
theorem zhN {N:Nat} {used:Nat→Bool}:(freeL N used).length=count (fun i=>! used i) N:=by simp[freeL,count]
theorem zkA {N:Nat} {used:Nat→Bool} {F F':List Int} {m:Int} (h:F.Perm (freeL N used)) (h2:F.Perm (m :: F')) (h3:∀ x∈F',¬x<m):∃ f:Nat,m=f∧firstOff used N=some f∧F'.Perm (freeL N (upd used f true)):=by
 have hm:m∈freeL N used:=h.subset (h2.symm.subset (by simp))
 have hp:(m :: F').Perm (freeL N used):=h2.symm.trans h
 have hnd:=hp.nodup_iff.2 gH
 obtain⟨h0,h1,hu⟩:=wl.1 hm
 refine⟨m.toNat,by omega,gK (by omega) hu fun g hg=>?_,?_⟩
 ·cases hgu:used g with
  | true=>rfl
  | false=>
   have:(g:Int)∈freeL N used:=wl.2 ⟨by omega,by omega,by simpa using hgu⟩
   have:=hp.symm.subset this
   rcases List.mem_cons.1 this with e | e
   ·omega
   ·have:=h3 _ e;omega
 ·rw[List.perm_ext_iff_of_nodup (List.nodup_cons.1 hnd).2 gH]
  intro a
  rw[wl]
  constructor
  ·intro ha
   have h4:=wl.1 (hp.subset (List.mem_cons_of_mem _ ha))
   have hne:a≠m:=fun e=>by rw[e] at ha;exact (List.nodup_cons.1 hnd).1 ha
   exact⟨h4.1,h4.2.1,by rw[zh (by omega)];exact h4.2.2⟩
  ·rintro⟨a0,a1,a2⟩
   have hne:a≠m:=fun e=>by rw[e,zl] at a2;cases a2
   rw[zh (by omega)] at a2
   rcases List.mem_cons.1 (hp.symm.subset (wl.2 ⟨a0,a1,a2⟩)) with e | e
   ·exact absurd e hne
   ·exact e
theorem zkB {N:Nat} {used:Nat→Bool} {F:List Int} {f:Nat} (h:F.Perm (freeL N used)) (hf:f<N) (hu:used f=true):((f:Int) :: F).Perm (freeL N (upd used f false)):=by
 have hnd:=h.nodup_iff.2 gH
 have hn:(f:Int)∉F:=fun hm=>by
  have:=(wl.1 (h.subset hm)).2.2
  rw[Int.toNat_natCast,hu] at this;cases this
 rw[List.perm_ext_iff_of_nodup (List.nodup_cons.2 ⟨hn,hnd⟩) gH]
 intro a
 rw[wl,List.mem_cons]
 constructor
 ·rintro (rfl | ha)
  ·exact⟨by omega,by omega,by rw[Int.toNat_natCast,zl]⟩
  ·have h4:=wl.1 (h.subset ha)
   have hne:a≠f:=fun e=>hn (e ▸ ha)
   exact⟨h4.1,h4.2.1,by rw[zh (by omega)];exact h4.2.2⟩
 ·rintro⟨a0,a1,a2⟩
  by_cases e:a=f
  ·exact .inl e
  ·rw[zh (by omega)] at a2
   exact .inr (h.symm.subset (wl.2 ⟨a0,a1,a2⟩))
def uL (N:Nat) (used:Nat→Bool):List Value:=cF N fun i=>[Value.bool (used i)]
theorem zaQ {N:Nat} {used:Nat→Bool}:(uL N used).length=N*1:=fX (w:=1) fun _ _=>rfl
theorem znM {N f:Nat} {used:Nat→Bool} (hf:f<N):nthL (uL N used) f=some (.bool (used f)):=by
 have:=zhZ (w:=1) (k:=0) (n:=N) (f:=fun i=>[Value.bool (used i)]) (fun _ _=>rfl) hf (by decide)
 rw[Nat.mul_one] at this;exact this
theorem zqb {N f:Nat} {used:Nat→Bool} (hf:f<N) (b:Bool):spl (uL N used) f [.bool b]=uL N (upd used f b):=by
 have:=zhY (w:=1) (k:=0) (n:=N) (vs:=[.bool b]) (f:=fun i=>[Value.bool (used i)]) (fun _ _=>rfl) hf (by simp)
 rw[Nat.mul_one] at this
 unfold uL
 rw[show f=f+0 by rfl,this]
 refine jF fun g _=>?_
 by_cases e:g=f
 ·subst e;simp only[zl,Nat.add_zero];rfl
 ·simp only[zh e,Nat.add_zero]
end Go.Cr
namespace Go.Proofs.YthaiblbnpcgjpaaGreatDoor
open Go Go.Pt Go.Cr Go.Hp
structure PoolP (S:Mem) (ρ:Rho) (p N:Nat) (used:Nat→Bool) (left:Int):Prop where
 ex:∃ tb fs us F,Hq.Ck S p 0 tb [eL fs,eL us,.int .i64 left] fs F∧(∀ x∈Hq.own fs,ρ x=some 4)∧Rw S ρ 5 1 us (uL N used)∧F.Perm (freeL N used)
 rol:ρ p=some 3
 lim:N≤512
abbrev R345 (r:Nat):Prop:=r=3∨r=4∨r=5
section
variable {S S':Mem} {ρ ρ':Rho} {R:Nat→Prop} {p N:Nat} {used:Nat→Bool} {left:Int}
theorem fL {b r:Nat} (m:Mv S ρ S' ρ' R) (hb:S b≠none) (hr:ρ b=some r) (hR:¬R r):S' b=S b:=m.kp b hb fun r' e=>by rw[hr] at e;cases e;exact hR
theorem PoolP.keep (h:PoolP S ρ p N used left) (m:Mv S ρ S' ρ' R) (h3:¬R 3) (h4:¬R 4) (h5:¬R 5):PoolP S' ρ' p N used left:=by
 obtain⟨tb,fs,us,F,hck,ho,hus,hF⟩:=h.ex
 refine⟨⟨tb,fs,us,F,⟨?_,hck.cell,?_,hck.ne,hck.heap,hck.len⟩,fun x hx=>m.ext x 4 (ho x hx),hus.keep m h5,hF⟩,m.ext p 3 h.rol,h.lim⟩
 ·rw[fL m (by rw[hck.blk];simp) h.rol h3];exact hck.blk
 ·refine hck.row.keep fun b hb=>?_
  have hx:b∈Hq.own fs:=by simp[Hq.own,hb]
  obtain⟨k,hk⟩:=Hq.own_row hck.row hx
  exact fL m (by rw[hk];simp) (ho b hx) h4
theorem PoolP.keeps (h:PoolP S ρ p N used left) (hg:∀ b r,ρ b=some r→S b≠none) (hk:Keeps S S' []):PoolP S' ρ p N used left:=
 h.keep (Mv.keeps (R:=fun _=>False) hg hk) (fun h=>h) (fun h=>h) (fun h=>h)
theorem zlN {b:Nat} {s s':Sl} {rb rr:Nat} (hg:∀ b r,ρ b=some r→S b≠none) (hk:Keeps S S' (b :: Hq.own s)) (hb:ρ b=some rb) (ho:∀ x∈Hq.own s,ρ x=some rr) (hf:∀ x∈Hq.own s',x∈Hq.own s∨S x=none) (hal:Grows S S') (hs':∀ x∈Hq.own s',S' x≠none) :
  ∃ ρ',Mv S ρ S' ρ' (fun r=>r=rb∨r=rr)∧∀ x∈Hq.own s',ρ' x=some rr:=by
 have m0:Mv S ρ S' ρ (fun r=>r=rb∨r=rr):=Mv.keepsW hg hk fun w hw=>by
  rcases List.mem_cons.1 hw with e | e
  ·subst e;exact⟨hal w (hg w rb hb),rb,hb,.inl rfl⟩
  ·exact⟨hal w (hg w rr (ho w e)),rr,ho w e,.inr rfl⟩
 by_cases hex:∃ c,c∈Hq.own s'∧S c=none
 ·obtain⟨c,hc,hcn⟩:=hex
  have hone:∀ x∈Hq.own s',x=c:=by
   intro x hx
   unfold Hq.own at hx hc
   cases hp:s'.p with
   | none=>rw[hp] at hc;simp at hc
   | some q=>rw[hp] at hx hc;simp at hx hc;rw[hx,hc]
  refine⟨ρ.upd c rr,⟨fun x r e=>?_,fun x r e hx=>?_,m0.kp,m0.al,fun x r e=>?_⟩,fun x hx=>by rw[hone x hx];exact yL⟩
  ·rw[ye (fun e2=>hg x r e (by rw[e2];exact hcn))];exact e
  ·rw[ye (fun e2=>hx (by rw[e2];exact hcn))] at e;exact e
  ·by_cases e2:x=c
   ·rw[e2];exact hs' c hc
   ·rw[ye e2] at e;exact m0.rg x r e
 ·refine⟨ρ,m0,fun x hx=>?_⟩
  rcases hf x hx with e | e
  ·exact ho x e
  ·exact absurd ⟨x,hx,e⟩ hex
theorem zlc (h:PoolP S ρ p N used left) {f:Nat} (hf:f<N) {Q:Bool→Mem→Prop} (hQ:Q (used f) S):jN S (some (p,0)) f Q:=by
 obtain⟨tb,fs,us,F,hck,ho,hus,hF⟩:=h.ex
 have c1:S.cell p (0+1)=some (eL us):=by rw[qj hck.blk];rfl
 have hn:=hus.n (by decide) zaQ
 obtain⟨c,e1,e2⟩:=hus.sl (by rw[zaQ];omega)
 apply zdJ
 unfold vP
 rw[if_pos (by simp),if_pos (by omega),zL,wj c1,if_pos (by omega),wj c1,e1,fi]
 refine⟨by omega,by omega,?_⟩
 rw[Int.toNat_natCast,fo (by rw[hus.cell e2 f (by rw[zaQ];omega) (by omega)];exact znM hf)]
 exact hQ
theorem zhE {tb:TypeId} {fs us:Sl} {F:List Int} (hg:∀ b r,ρ b=some r→S b≠none) (hp:ρ p=some 3) (hlim:N≤512) (hck:Hq.Ck S p 0 tb [eL fs,eL us,.int .i64 left] fs F) (ho:∀ x∈Hq.own fs,ρ x=some 4) (hus:Rw S ρ 5 1 us (uL N used)) {f x n:Nat} (hf:f<N) {b:Bool} {c:Nat} (hc:us.p=some (c,0)) (hx:x=f) (hn:n=1) {K:Mem→Prop}
  (hK:∀ S',Mv S ρ S' ρ (· = 5)→Hq.Ck S' p 0 tb [eL fs,eL us,.int .i64 left] fs F→Rw S' ρ 5 1 us (uL N (upd used f b))→K S'):pt S c x n [.bool b] K:=
 hus.pt hg hc f hn (by rw[zaQ];simp;omega) hx fun S' m h1=>by
  rw[zqb hf] at h1
  refine hK S' m ⟨?_,hck.cell,?_,hck.ne,hck.heap,hck.len⟩ h1
  ·rw[fL m (by rw[hck.blk];simp) hp (by decide)];exact hck.blk
  ·refine hck.row.keep fun b hb=>?_
   have hx:b∈Hq.own fs:=by simp[Hq.own,hb]
   obtain⟨k,hk⟩:=Hq.own_row hck.row hx
   exact fL m (by rw[hk];simp) (ho b hx) (by decide)
theorem zfR (h:PoolP S ρ p N used left) (hg:∀ b r,ρ b=some r→S b≠none) (hl : -1≤left∧left≤4294967296) {Q:Int→Int→Mem→Prop}
  (hY:∀ f:Nat,left≠0→firstOff used N=some f→∀ S' ρ',Mv S ρ S' ρ' R345→PoolP S' ρ' p N (upd used f true) (if left-1 < -1 then -1 else left-1)→Q f 0 S')
  (hN:left=0∨firstOff used N=none→Q 0 3 S):vy S (some (p,0)) Q:=by
 obtain⟨tb,fs,us,F,hck,ho,hus,hF⟩:=h.ex
 have hn:fs.n=F.length:=by have:=hck.row.len;rw[Hq.fl_length] at this;omega
 have c0:S.cell p 0=some (eL fs):=hck.rd
 have c2:S.cell p (0+2)=some (.int .i64 left):=by rw[qj hck.blk];rfl
 have hlen:F.length=count (fun i=>! used i) N:=by rw[hF.length_eq,zhN]
 apply zdK
 unfold vQ
 simp only[jn]
 rw[if_neg (by simp),zL,zx c2]
 by_cases h0:left=0
 ·rw[if_pos h0];exact hN (.inl h0)
 rw[if_neg h0,wj c0]
 by_cases h1:(fs.n:Int)=0
 ·rw[if_pos h1]
  exact hN (.inr (yi.2 (by omega)))
 rw[if_neg h1,zL,zx c2,w64 (by omega) (by omega)]
 refine zkT hck.blk (by simp) ?_
 have e0:spl [eL fs,eL us,.int .i64 left] (0+2) [.int .i64 (if left-1 < -1 then -1 else left-1)]=[eL fs,eL us,.int .i64 (if left-1 < -1 then -1 else left-1)]:=rfl
 rw[e0]
 have hpo:∀ x∈Hq.own fs,x≠p:=fun x hx e=>hck.ne x hx e.symm
 have hck1:Hq.Ck (S.set p (bw tb [eL fs,eL us,.int .i64 (if left-1 < -1 then -1 else left-1)])) p 0 tb [eL fs,eL us,.int .i64 (if left-1 < -1 then -1 else left-1)] fs F:=
  ⟨zz,rfl,hck.row.keep fun b hb=>zO (hpo b (by simp[Hq.own,hb])),hck.ne,hck.heap,hck.len⟩
 have m1:Mv S ρ (S.set p (bw tb [eL fs,eL us,.int .i64 (if left-1 < -1 then -1 else left-1)])) ρ R345:=(Mv.refl hg).put h.rol (.inl rfl) _
 have m1':Mv S ρ (S.set p (bw tb [eL fs,eL us,.int .i64 (if left-1 < -1 then -1 else left-1)])) ρ (· = 3):=(Mv.refl (R:=(· = 3)) hg).put h.rol rfl _
 refine Hq.pop_spec hck1 (fun e=>h1 (by rw[hn,e];rfl)) fun S2 s2 m F2 hp hmin _ hown hL=>?_
 obtain⟨f,rfl,hff,hF2⟩:=zkA hF hp fun x hx=>by have:=hmin x hx;simpa [Hq.bf] using this
 have hfN:=(qd hff).1
 have e1:spl [eL fs,eL us,.int .i64 (if left-1 < -1 then -1 else left-1)] 0 [eL s2]=[eL s2,eL us,.int .i64 (if left-1 < -1 then -1 else left-1)]:=rfl
 have hck2:=hL.ck
 rw[e1] at hck2
 obtain⟨ρ2,m2,ho2⟩:=zlN (rb:=3) (rr:=4) m1.rg hL.keep h.rol (by exact ho) hL.fresh hL.al fun x hx=>by
  obtain⟨k,hk⟩:=Hq.own_row hck2.row hx;rw[hk];simp
 have m2':Mv (S.set p (bw tb [eL fs,eL us,.int .i64 (if left-1 < -1 then -1 else left-1)])) ρ S2 ρ2 R345:=m2.mono fun r hr=>by rcases hr with hr | hr <;> simp[hr,R345]
 have hus2:=(hus.keep m1' (by decide)).keep m2 (by decide)
 obtain⟨c,e2,e3⟩:=hus.sl (by rw[zaQ];omega)
 have hun:=hus.n (by decide) zaQ
 refine⟨f,rfl,?_⟩
 show gL (S2.cell p (0+1)) _
 rw[wj (n:=us) (by rw[qj hck2.blk];rfl),e2,fi]
 refine⟨by omega,by omega,?_⟩
 rw[Int.toNat_natCast]
 refine zhE (f:=f) m2.rg (m2.ext p 3 h.rol) h.lim hck2 ho2 hus2 hfN e3 (by omega) rfl fun S3 m3 hck3 hus3=>?_
 have hm3:=(m1.trans m2').trans (m3.mono (R':=R345) fun r hr=>.inr (.inr hr))
 exact hY f h0 hff S3 ρ2 hm3 ⟨⟨tb,s2,us,F2,hck3,ho2,hus3,hF2⟩,hm3.ext p 3 h.rol,h.lim⟩
theorem zfe (h:PoolP S ρ p N used left) (hg:∀ b r,ρ b=some r→S b≠none) {f:Nat} (hf:f<N) {Q:Int→Mem→Prop}
  (hY:used f=true→∀ S' ρ',Mv S ρ S' ρ' R345→PoolP S' ρ' p N (upd used f false) left→Q 0 S') (hN:used f=false→Q 8 S):qU S (some (p,0)) f Q:=by
 obtain⟨tb,fs,us,F,hck,ho,hus,hF⟩:=h.ex
 have hlim:=h.lim
 have hlen:F.length=count (fun i=>! used i) N:=by rw[hF.length_eq,zhN]
 have hcl:=kD (fun i=>! used i) N
 have c1:S.cell p (0+1)=some (eL us):=by rw[qj hck.blk];rfl
 obtain⟨c,e2,e3⟩:=hus.sl (by rw[zaQ];omega)
 have hun:=hus.n (by decide) zaQ
 apply zdM
 unfold vS
 simp only[jn]
 rw[if_neg (by simp),if_neg (by omega),zL,wj c1,if_neg (by omega),wj c1,e2,fi]
 refine⟨by omega,by omega,?_⟩
 rw[Int.toNat_natCast,fo (by rw[hus.cell e3 f (by rw[zaQ];omega) (by omega)];exact znM hf)]
 cases hu:used f with
 | false=>rw[if_neg (by decide)];exact hN hu
 | true=>
  rw[if_pos rfl,zL,wj c1,e2,fi]
  refine⟨by omega,by omega,?_⟩
  refine zhE (f:=f) hg h.rol h.lim hck ho hus hf e3 (by omega) rfl fun S1 m1 hck1 hus1=>?_
  refine Hq.push_spec hck1 (by omega) fun S2 s2 F2 hp hL=>?_
  have e1:spl [eL fs,eL us,.int .i64 left] 0 [eL s2]=[eL s2,eL us,.int .i64 left]:=rfl
  have hck2:=hL.ck
  rw[e1] at hck2
  obtain⟨ρ2,m2,ho2⟩:=zlN (rb:=3) (rr:=4) m1.rg hL.keep h.rol (by exact ho) hL.fresh hL.al fun x hx=>by
   obtain⟨k,hk⟩:=Hq.own_row hck2.row hx;rw[hk];simp
  have hm:=(m1.mono (R':=R345) fun r hr=>.inr (.inr hr)).trans (m2.mono (R':=R345) fun r hr=>by rcases hr with hr | hr <;> simp[hr,R345])
  exact hY hu S2 ρ2 hm ⟨⟨tb,s2,us,F2,hck2,ho2,hus1.keep m2 (by decide),hp.trans ((hF.cons _).trans (by have:=zkB (List.Perm.refl _) hf hu;exact this))⟩,hm.ext p 3 h.rol,h.lim⟩
end
end Go.Proofs.YthaiblbnpcgjpaaGreatDoor
namespace Go.Cr
open Go Go.Pt
theorem zfK {N:Nat}:∀ {i:Nat} {u u':Nat→Bool} {l:List Nat} {f:Nat},takeN N i u=some (l,u')→firstOff u' N=some f→takeN N (i+1) u=some (l++[f],upd u' f true)
 | 0,u,u',l,f,h,hf=>by
  simp only[takeN,Option.some.injEq,Prod.mk.injEq] at h
  obtain⟨rfl,rfl⟩:=h
  simp only[takeN,hf,List.nil_append]
 | i+1,u,u',l,f,h,hf=>by
  simp only[takeN] at h
  cases h1:firstOff u N with
  | none=>rw[h1] at h;cases h
  | some g=>
   rw[h1] at h
   dsimp only at h
   cases h2:takeN N i (upd u g true) with
   | none=>rw[h2] at h;cases h
   | some q=>
    obtain⟨l2,u2⟩:=q
    rw[h2] at h
    simp only[Option.some.injEq,Prod.mk.injEq] at h
    obtain⟨rfl,rfl⟩:=h
    have:=zfK h2 hf
    have e:takeN N (i+1+1) u=(match firstOff u N with
     | none=>none
     | some f=>match takeN N (i+1) (upd u f true) with
      | none=>none
      | some (l,u')=>some (f :: l,u')):=rfl
    rw[e]
    simp only[h1,this]
    rfl
def leftN (left:Int) (i:Nat):Int:=if left<0 then -1 else left-i
def unmark (u:Nat→Bool) (l:List Nat):Nat→Bool:=l.foldl (fun u f=>upd u f false) u
theorem zcx:∀ {l:List Nat} {u:Nat→Bool} {x:Nat},unmark u l x=(u x && ! decide (x∈l))
 | [],u,x=>by simp[unmark]
 | f :: l,u,x=>by
  unfold unmark
  rw[List.foldl_cons]
  have:=zcx (l:=l) (u:=upd u f false) (x:=x)
  unfold unmark at this
  rw[this]
  by_cases e:x=f
  ·subst e;rw[zl];simp
  ·rw[zh e];simp[e]
end Go.Cr
namespace Go.Proofs.YthaiblbnpcgjpaaGreatDoor
open Go Go.Pt Go.Cr Go.Hp
section
variable {S S':Mem} {ρ ρ':Rho} {R:Nat→Prop} {p N:Nat} {used:Nat→Bool} {left:Int}
theorem zqp (l:List Nat) (f:Nat):nL l++[.int .i64 (f:Int)]=nL (l++[f]):=by simp[nL]
theorem gg (l:List Nat):(nL l).length=l.length*1:=by simp[nL]
theorem zjF {l:List Nat} {i:Nat} (h:i<l.length):nthL (nL l) i=some (.int .i64 (l[i]:Nat)):=by
 rw[zI];simp[nL,List.getElem?_eq_getElem h]
theorem zho (h:PoolP S ρ p N used left) (hg:∀ b r,ρ b=some r→S b≠none) (hl : -1≤left∧left≤4294967296) {n:Nat} (hn:n≤1000) {r:Nat} (hr:r≠3∧r≠4∧r≠5) {Q:Sl→Int→Mem→Prop}
  (hY:∀ l u',¬(0≤left∧left<n)→takeN N n used=some (l,u')→∀ s S' ρ',Mv S ρ S' ρ' (fun x=>R345 x∨x=r)→PoolP S' ρ' p N u' (leftN left n)→Rw S' ρ' r 1 s (nL l)→Q s 0 S')
  (hN:(0≤left∧left<n)∨takeN N n used=none→∀ S' ρ' left',Mv S ρ S' ρ' (fun x=>R345 x∨x=r)→(left = -1→left' = -1)→-1≤left'→PoolP S' ρ' p N used left'→Q ⟨none,0,0⟩ 3 S'):xA S (some (p,0)) n Q:=by
 have hlim:=h.lim
 apply zdL
 unfold vR
 simp only[jn]
 rw[if_neg (by simp),if_neg (by omega)]
 refine zC (fun (z:Sl×Int) S'=>∃ (i:Nat) (l:List Nat) (u':Nat→Bool) (ρ':Rho),z.2=(i:Int)∧i≤n∧¬(0≤left∧left<i)∧takeN N i used=some (l,u')∧Mv S ρ S' ρ' (fun x=>R345 x∨x=r)∧PoolP S' ρ' p N u' (leftN left i)∧Rw S' ρ' r 1 z.1 (nL l)) (fun z=>n-z.2.toNat) ?_
  ⟨0,[],used,ρ,rfl,by omega,by omega,rfl,Mv.refl hg,by unfold leftN;split <;> (try (have:left = -1:=by omega)) <;> simp_all,Rw.nil⟩
 rintro X ⟨s,t⟩ S1 ⟨i,l,u',ρ1,rfl,hi,hli,ht,m1,hp1,hrow⟩ ih
 dsimp only at ih hrow hi ⊢
 obtain⟨hll,hnd,hfree,hu',_⟩:=xU ht
 by_cases hlt:(i:Int)<(n:Int)
 ·rw[if_pos hlt]
  have hlb : -1≤leftN left i∧leftN left i≤4294967296:=by unfold leftN;split <;> omega
  refine zfR hp1 m1.rg hlb (fun f hl0 hff S2 ρ2 m2 hp2=>?_) fun hbad=>?_
  ·rw[if_neg (by decide)]
   have m2':Mv S1 ρ1 S2 ρ2 (fun x=>R345 x∨x=r):=m2.mono fun x hx=>.inl hx
   have hrow2:=hrow.keep m2 (by unfold R345;omega)
   have hsn:=hrow2.n (by decide) (gg l)
   refine zkR (R:=fun x=>R345 x∨x=r) m2' (.inr rfl) hrow2 rfl (by decide) rfl (by omega) fun s' S3 ρ3 m3 m3' h3 _=>?_
   rw[zqp] at h3
   rw[w64 (by omega) (by omega)]
   refine ih _ S3 ⟨i+1,l++[f],_,ρ3,rfl,by omega,?_,zfK ht hff,m1.trans m3,?_,h3⟩ (by dsimp only;omega)
   ·unfold leftN at hl0
    split at hl0 <;> omega
   ·have e:leftN left (i+1)=if leftN left i-1 < -1 then -1 else leftN left i-1:=by
     unfold leftN
     unfold leftN at hl0
     split at hl0 <;> split <;> split <;> omega
    rw[e]
    exact hp2.keep m3' (by omega) (by omega) (by omega)
  ·rw[if_pos (by decide)]
   have hfail:(0≤left∧left<n)∨takeN N n used=none:=by
    rcases hbad with e | e
    ·left
     unfold leftN at e
     split at e <;> omega
    ·right
     rw[ga]
     have h1:=yi.1 e
     obtain⟨_,_,_,_,h5⟩:=xU ht
     omega
   refine zC (fun (z:Int) S'=>∃ (j:Nat) (ρ':Rho),z=(j:Int)∧j≤l.length∧Mv S1 ρ1 S' ρ' R345∧PoolP S' ρ' p N (unmark u' (l.take j)) (leftN left i)) (fun z=>l.length-z.toNat) ?_ ⟨0,ρ1,rfl,by omega,Mv.refl m1.rg,hp1⟩
   rintro Y z S2 ⟨j,ρ2,rfl,hj,m2,hp2⟩ ih2
   have hrow2:=hrow.keep m2 (by unfold R345;omega)
   have hsn:=hrow.n (by decide) (gg l)
   by_cases hlt2:(j:Int)<(s.n:Int)
   ·have hjl:j<l.length:=by omega
    obtain⟨c,e1,e2⟩:=hrow2.sl (by rw[gg];omega)
    rw[if_pos hlt2]
    rw[e1,fi]
    refine⟨by omega,by omega,?_⟩
    rw[Int.toNat_natCast,zx (by rw[hrow2.cell e2 j (by rw[gg];omega) (by omega)];exact zjF hjl)]
    have htk:l.take (j+1)=l.take j++[l[j]]:=List.take_succ_eq_append_getElem hjl
    have hmem:=hfree l[j] (List.getElem_mem hjl)
    have e5:unmark u' (l.take (j+1))=upd (unmark u' (l.take j)) l[j] false:=by
     unfold unmark;rw[htk,List.foldl_append];rfl
    refine zfe hp2 m2.rg hmem.1 (fun _ S3 ρ3 m3 hp3=>?_) fun hf=>?_
    ·rw[w64 (by omega) (by omega)]
     refine ih2 _ S3 ⟨j+1,ρ3,rfl,by omega,m2.trans m3,?_⟩ (by omega)
     rw[e5];exact hp3
    ·exfalso
     rw[zcx,hu'] at hf
     have hnt:l[j]∉l.take j:=by
      intro hm
      have h9:l=l.take j++(l[j] :: l.drop (j+1)):=by rw[List.getElem_cons_drop,List.take_append_drop]
      rw[h9] at hnd
      exact (List.nodup_append.1 hnd).2.2 _ hm _ List.mem_cons_self rfl
     simp[hnt] at hf
   ·rw[if_neg hlt2]
    have hjl:j=l.length:=by omega
    have eu:unmark u' (l.take j)=used:=by
     funext x
     rw[zcx,hu',hjl,List.take_length]
     by_cases hx:x∈l
     ·simp[hx,(hfree x hx).2]
     ·simp[hx]
    rw[eu] at hp2
    exact hN hfail S2 ρ2 _ (m1.trans (m2.mono fun x hx=>.inl hx)) (fun e=>by unfold leftN;rw[if_pos (by omega)]) (by unfold leftN;split <;> omega) hp2
 ·rw[if_neg hlt]
  have:i=n:=by omega
  subst this
  exact hY l u' hli ht s S1 ρ1 m1 hp1 hrow
end
end Go.Proofs.YthaiblbnpcgjpaaGreatDoor
end
namespace Go.Proofs.YthaiblbnpcgjpaaGreatDoor
section
open Go Go.Pt Go.Cr Go.Hp
structure AlmOf (l:List Hk.Al) (alm:Nat→Nat→Option Int):Prop where
 nd:l.Nodup
 of:∀ a∈l,0≤a.vm∧a.vm<6∧0≤a.seat∧a.seat<3∧alm a.vm.toNat a.seat.toNat=some a.tm
 to:∀ n k t,alm n k=some t→(⟨t,n,k⟩:Hk.Al)∈l
theorem AlmOf.eq {l:List Hk.Al} {alm:Nat→Nat→Option Int} (h:AlmOf l alm) {a b:Hk.Al} (ha:a∈l) (hb:b∈l) (e1:a.vm=b.vm) (e2:a.seat=b.seat):a=b:=by
 have h1:=(h.of a ha).2.2.2.2
 have h2:=(h.of b hb).2.2.2.2
 rw[e1,e2,h2] at h1
 obtain⟨t,v,s⟩:=a
 obtain⟨t',v',s'⟩:=b
 simp only at e1 e2 h1
 cases h1;subst e1;subst e2;rfl
theorem AlmOf.len {l:List Hk.Al} {alm:Nat→Nat→Option Int} (h:AlmOf l alm):l.length≤18:=by
 have hnd:(l.map fun a=>(3*a.vm+a.seat).toNat).Nodup:=by
  unfold List.Nodup
  rw[List.pairwise_map]
  have:=h.nd
  rw[List.Nodup,List.pairwise_iff_forall_sublist] at this
  rw[List.pairwise_iff_forall_sublist]
  intro a b hs he
  have ha:a∈l:=hs.subset (by simp)
  have hb:b∈l:=hs.subset (by simp)
  have h1:=h.of a ha
  have h2:=h.of b hb
  exact this hs (h.eq ha hb (by omega) (by omega))
 have:=hnd.length_le_of_subset (l₂:=List.range 18) fun x hx=>by
  obtain⟨a,ha,rfl⟩:=List.mem_map.1 hx
  have h1:=h.of a ha
  rw[List.mem_range];omega
 simpa using this
theorem AlmOf.perm {l l':List Hk.Al} {alm:Nat→Nat→Option Int} (h:AlmOf l alm) (p:l'.Perm l):AlmOf l' alm:=
 ⟨p.nodup_iff.2 h.nd,fun a ha=>h.of a (p.subset ha),fun n k t e=>p.symm.subset (h.to n k t e)⟩
structure ClkP (S:Mem) (ρ:Rho) (kb:Nat) (alm:Nat→Nat→Option Int):Prop where
 ex:∃ tb s l,Hk.Ck S kb 0 tb [eL s] s l∧(∀ x∈Hk.own s,ρ x=some 11)∧AlmOf l alm
 rol:ρ kb=some 10
structure VmP (S:Mem) (ρ:Rho) (i:Nat) (x:Vx) (v:Bv) (fr:List Nat):Prop where
 se:Rw S ρ (30+i) 26 x.ss (v.seats.flatMap Seat.L)
 r:∀ s∈v.seats,s.Ok
 fr:Rw S ρ (40+i) 1 x.fs (nL fr)
 ke:Rw S ρ (50+i) 1 x.ks (bL v.keys)
 di:∀ j,j<4→Rw S ρ (60+4*i+j) 1 (x.d j) (bL (v.disk j))
structure Ad where
 m:Nat
 p:Nat
 t:Nat
 ob:Nat
 kb:Nat
 cs:Sl
 gs:Sl
 es:Nat→Sl
 x:Nat→Vx
def hdL (A:Ad):List Value:=[eP (some (A.m,0)),eP (some (A.p,0)),eL A.cs,eP (some (A.t,0)),eL A.gs]++cF 6 fun i=>[eL (A.es i)]
structure CrabA (S:Mem) (ρ:Rho) (h:Nat) (A:Ad) (C:Cst):Prop where
 rg:∀ b r,ρ b=some r→S b≠none
 g0:ρ 0=none
 gl:Gl S
 hd:Pc S ρ 0 h (hdL A)
 st:StoreD S ρ A.m C.N C.dat
 pl:PoolP S ρ A.p C.N C.used C.left
 ca:Rw S ρ 6 5 A.cs (C.cache.flatMap cwL)
 tt:Pc S ρ 7 A.t (knL C.toKn A.x A.ob A.kb)
 ow:OwnP S ρ A.ob C.N C.own
 ck:ClkP S ρ A.kb C.alm
 gs:Rw S ρ 12 1 A.gs (nL C.region)
 ev:∀ i,i<6→Rw S ρ (20+i) 4 (A.es i) ((C.ev i).flatMap evL)
 vs:∀ i,i<6→VmP S ρ i (A.x i) (C.vm i) (C.fr i)
abbrev Rc (r:Nat):Prop:=r<110
section
variable {S S':Mem} {ρ ρ':Rho} {R:Nat→Prop}
theorem ClkP.keep {kb:Nat} {alm:Nat→Nat→Option Int} (h:ClkP S ρ kb alm) (m:Mv S ρ S' ρ' R) (h1:¬R 10) (h2:¬R 11):ClkP S' ρ' kb alm:=by
 obtain⟨tb,s,l,hck,ho,ha⟩:=h.ex
 refine⟨⟨tb,s,l,⟨?_,hck.cell,?_,hck.ne,hck.heap,hck.len⟩,fun x hx=>m.ext x 11 (ho x hx),ha⟩,m.ext kb 10 h.rol⟩
 ·rw[fL m (by rw[hck.blk];simp) h.rol h1];exact hck.blk
 ·refine hck.row.keep fun b hb=>?_
  have hx:b∈Hk.own s:=by simp[Hk.own,hb]
  obtain⟨k,hk⟩:=Hk.own_row hck.row hx
  exact fL m (by rw[hk];simp) (ho b hx) h2
theorem VmP.keep {i:Nat} {x:Vx} {v:Bv} {fr:List Nat} (h:VmP S ρ i x v fr) (m:Mv S ρ S' ρ' R) (hi:i<6) (hR:∀ r,30≤r→r<90→¬R r):VmP S' ρ' i x v fr:=
 ⟨h.se.keep m (hR _ (by omega) (by omega)),h.r,h.fr.keep m (hR _ (by omega) (by omega)),h.ke.keep m (hR _ (by omega) (by omega)),fun j hj=>(h.di j hj).keep m (hR _ (by omega) (by omega))⟩
theorem zcX (h:Gl S):S 0≠none:=by
 obtain⟨t,k,hl⟩:=h
 rw[hl];simp
theorem kT (h:Gl S) (m:Mv S ρ S' ρ' R) (h0:ρ 0=none):Gl S':=by
 exact h.keep (m.kp 0 (zcX h) fun r e=>by rw[h0] at e;cases e)
theorem kU (h:Gl S) (m:Mv S ρ S' ρ' R) (h0:ρ 0=none):ρ' 0=none:=by
 cases e:ρ' 0 with
 | none=>rfl
 | some r=>
  have:=m.old 0 r e (zcX h)
  rw[h0] at this;cases this
variable {h:Nat} {A:Ad} {C:Cst}
theorem CrabA.keep (hc:CrabA S ρ h A C) (m:Mv S ρ S' ρ' R) (hR:∀ r,r<90→¬R r):CrabA S' ρ' h A C:=
 ⟨m.rg,kU hc.gl m hc.g0,kT hc.gl m hc.g0,hc.hd.keep m (hR _ (by decide)),hc.st.keep m (hR _ (by decide)) (hR _ (by decide)),hc.pl.keep m (hR _ (by decide)) (hR _ (by decide)) (hR _ (by decide)),hc.ca.keep m (hR _ (by decide)),hc.tt.keep m (hR _ (by decide)),hc.ow.keep m (hR _ (by decide)) (hR _ (by decide)),hc.ck.keep m (hR _ (by decide)) (hR _ (by decide)),hc.gs.keep m (hR _ (by decide)),fun i hi=>(hc.ev i hi).keep m (hR _ (by omega)),fun i hi=>(hc.vs i hi).keep m hi fun r _ h2=>hR r h2⟩
theorem CrabA.keeps (hc:CrabA S ρ h A C) (hk:Keeps S S' []):CrabA S' ρ h A C:=hc.keep (Mv.keeps (R:=fun _=>False) hc.rg hk) fun _ _ h=>h
theorem CrabA.mv0 (hc:CrabA S ρ h A C) (hk:Keeps S S' []):Mv S ρ S' ρ Rc:=Mv.keeps hc.rg hk
theorem CrabA.setStore (hc:CrabA S ρ h A C) (m:Mv S ρ S' ρ' (· = 2)) {d:Nat→List Int} (hs:StoreD S' ρ' A.m C.N d):CrabA S' ρ' h A { C with dat:=d }:=
 ⟨m.rg,kU hc.gl m hc.g0,kT hc.gl m hc.g0,hc.hd.keep m (by decide),hs,hc.pl.keep m (by decide) (by decide) (by decide),hc.ca.keep m (by decide),hc.tt.keep m (by decide),hc.ow.keep m (by decide) (by decide),hc.ck.keep m (by decide) (by decide),hc.gs.keep m (by decide),fun i hi=>(hc.ev i hi).keep m (by omega),fun i hi=>(hc.vs i hi).keep m hi fun r h1 h2=>by omega⟩
theorem CrabA.setPool (hc:CrabA S ρ h A C) (m:Mv S ρ S' ρ' R) (hR:∀ r,R r→R345 r∨100≤r) {u:Nat→Bool} {left:Int} (hs:PoolP S' ρ' A.p C.N u left):CrabA S' ρ' h A { C with used:=u,left:=left }:=by
 have n:∀ r,r<90→r≠3→r≠4→r≠5→¬R r:=fun r h1 h2 h3 h4 h5=>by
  rcases hR r h5 with h6 | h6
  ·unfold R345 at h6;omega
  ·omega
 exact⟨m.rg,kU hc.gl m hc.g0,kT hc.gl m hc.g0,hc.hd.keep m (n _ (by decide) (by decide) (by decide) (by decide)),hc.st.keep m (n _ (by decide) (by decide) (by decide) (by decide)) (n _ (by decide) (by decide) (by decide) (by decide)),hs,hc.ca.keep m (n _ (by decide) (by decide) (by decide) (by decide)),hc.tt.keep m (n _ (by decide) (by decide) (by decide) (by decide)),hc.ow.keep m (n _ (by decide) (by decide) (by decide) (by decide)) (n _ (by decide) (by decide) (by decide) (by decide)),hc.ck.keep m (n _ (by decide) (by decide) (by decide) (by decide)) (n _ (by decide) (by decide) (by decide) (by decide)),hc.gs.keep m (n _ (by decide) (by decide) (by decide) (by decide)),fun i hi=>(hc.ev i hi).keep m (n _ (by omega) (by omega) (by omega) (by omega)),fun i hi=>(hc.vs i hi).keep m hi fun r h1 h2=>n r h2 (by omega) (by omega) (by omega)⟩
theorem CrabA.setOwn (hc:CrabA S ρ h A C) (m:Mv S ρ S' ρ' (· = 9)) {o:Nat→Ow} (hs:OwnP S' ρ' A.ob C.N o):CrabA S' ρ' h A { C with own:=o }:=
 ⟨m.rg,kU hc.gl m hc.g0,kT hc.gl m hc.g0,hc.hd.keep m (by decide),hc.st.keep m (by decide) (by decide),hc.pl.keep m (by decide) (by decide) (by decide),hc.ca.keep m (by decide),hc.tt.keep m (by decide),hs,hc.ck.keep m (by decide) (by decide),hc.gs.keep m (by decide),fun i hi=>(hc.ev i hi).keep m (by omega),fun i hi=>(hc.vs i hi).keep m hi fun r h1 h2=>by omega⟩
theorem CrabA.setClk (hc:CrabA S ρ h A C) (m:Mv S ρ S' ρ' R) (hR:∀ r,R r→r=10∨r=11∨100≤r) {a:Nat→Nat→Option Int} (hs:ClkP S' ρ' A.kb a):CrabA S' ρ' h A { C with alm:=a }:=by
 have n:∀ r,r<90→r≠10→r≠11→¬R r:=fun r h1 h2 h3 h5=>by have:=hR r h5;omega
 exact⟨m.rg,kU hc.gl m hc.g0,kT hc.gl m hc.g0,hc.hd.keep m (n _ (by decide) (by decide) (by decide)),hc.st.keep m (n _ (by decide) (by decide) (by decide)) (n _ (by decide) (by decide) (by decide)),hc.pl.keep m (n _ (by decide) (by decide) (by decide)) (n _ (by decide) (by decide) (by decide)) (n _ (by decide) (by decide) (by decide)),hc.ca.keep m (n _ (by decide) (by decide) (by decide)),hc.tt.keep m (n _ (by decide) (by decide) (by decide)),hc.ow.keep m (n _ (by decide) (by decide) (by decide)) (n _ (by decide) (by decide) (by decide)),hs,hc.gs.keep m (n _ (by decide) (by decide) (by decide)),fun i hi=>(hc.ev i hi).keep m (n _ (by omega) (by omega) (by omega)),fun i hi=>(hc.vs i hi).keep m hi fun r h1 h2=>n r h2 (by omega) (by omega)⟩
theorem CrabA.setKn (hc:CrabA S ρ h A C) (m:Mv S ρ S' ρ' (· = 7)) {k:Kn} {x:Nat→Vx} (ht:Pc S' ρ' 7 A.t (knL k x A.ob A.kb)) (hv:∀ i,i<6→VmP S' ρ' i (x i) (k.vm i) (k.fr i)):CrabA S' ρ' h { A with x:=x } { C with toKn:=k }:=
 ⟨m.rg,kU hc.gl m hc.g0,kT hc.gl m hc.g0,hc.hd.keep m (by decide),hc.st.keep m (by decide) (by decide),hc.pl.keep m (by decide) (by decide) (by decide),hc.ca.keep m (by decide),ht,hc.ow.keep m (by decide) (by decide),hc.ck.keep m (by decide) (by decide),hc.gs.keep m (by decide),fun i hi=>(hc.ev i hi).keep m (by omega),hv⟩
theorem CrabA.setVm (hc:CrabA S ρ h A C) (m:Mv S ρ S' ρ' R) (hR:∀ r,R r→r=7∨(30≤r∧r<90)∨100≤r) {k:Kn} {x:Nat→Vx} (ht:Pc S' ρ' 7 A.t (knL k x A.ob A.kb)) (hv:∀ i,i<6→VmP S' ρ' i (x i) (k.vm i) (k.fr i)):CrabA S' ρ' h { A with x:=x } { C with toKn:=k }:=by
 have n:∀ r,r<30→r≠7→¬R r:=fun r h1 h2 h5=>by have:=hR r h5;omega
 exact⟨m.rg,kU hc.gl m hc.g0,kT hc.gl m hc.g0,hc.hd.keep m (n _ (by decide) (by decide)),hc.st.keep m (n _ (by decide) (by decide)) (n _ (by decide) (by decide)),hc.pl.keep m (n _ (by decide) (by decide)) (n _ (by decide) (by decide)) (n _ (by decide) (by decide)),hc.ca.keep m (n _ (by decide) (by decide)),ht,hc.ow.keep m (n _ (by decide) (by decide)) (n _ (by decide) (by decide)),hc.ck.keep m (n _ (by decide) (by decide)) (n _ (by decide) (by decide)),hc.gs.keep m (n _ (by decide) (by decide)),fun i hi=>(hc.ev i hi).keep m (n _ (by omega) (by omega)),hv⟩
theorem CrabA.setCache (hc:CrabA S ρ h A C) (m:Mv S ρ S' ρ' (fun r=>r=0∨r=6)) {cs:Sl} {l:List Cw} (hh:Pc S' ρ' 0 h (hdL { A with cs:=cs })) (hs:Rw S' ρ' 6 5 cs (l.flatMap cwL)):CrabA S' ρ' h { A with cs:=cs } { C with cache:=l }:=
 ⟨m.rg,kU hc.gl m hc.g0,kT hc.gl m hc.g0,hh,hc.st.keep m (by decide) (by decide),hc.pl.keep m (by decide) (by decide) (by decide),hs,hc.tt.keep m (by decide),hc.ow.keep m (by decide) (by decide),hc.ck.keep m (by decide) (by decide),hc.gs.keep m (by decide),fun i hi=>(hc.ev i hi).keep m (by omega),fun i hi=>(hc.vs i hi).keep m hi fun r h1 h2=>by omega⟩
theorem CrabA.setEv (hc:CrabA S ρ h A C) (m:Mv S ρ S' ρ' R) (hR:∀ r,R r→r=0∨(20≤r∧r<26)) {es:Nat→Sl} {ev:Nat→List Evt} (hh:Pc S' ρ' 0 h (hdL { A with es:=es })) (hs:∀ i,i<6→Rw S' ρ' (20+i) 4 (es i) ((ev i).flatMap evL)):CrabA S' ρ' h { A with es:=es } { C with ev:=ev }:=by
 have n:∀ r,r≠0→(r<20∨26≤r)→¬R r:=fun r h1 h2 h5=>by have:=hR r h5;omega
 exact⟨m.rg,kU hc.gl m hc.g0,kT hc.gl m hc.g0,hh,hc.st.keep m (n _ (by decide) (by decide)) (n _ (by decide) (by decide)),hc.pl.keep m (n _ (by decide) (by decide)) (n _ (by decide) (by decide)) (n _ (by decide) (by decide)),hc.ca.keep m (n _ (by decide) (by decide)),hc.tt.keep m (n _ (by decide) (by decide)),hc.ow.keep m (n _ (by decide) (by decide)) (n _ (by decide) (by decide)),hc.ck.keep m (n _ (by decide) (by decide)) (n _ (by decide) (by decide)),hc.gs.keep m (n _ (by decide) (by decide)),hs,fun i hi=>(hc.vs i hi).keep m hi fun r h1 h2=>n r (by omega) (by omega)⟩
theorem gG:(hdL A).length=11:=by
 unfold hdL
 rw[List.length_append,fX (w:=1) fun _ _=>rfl];rfl
theorem CrabA.c0 (hc:CrabA S ρ h A C):S.cell h 0=some (eP (some (A.m,0))):=hc.hd.cell 0 (by rw[gG];decide) rfl
theorem CrabA.c1 (hc:CrabA S ρ h A C):S.cell h (0+1)=some (eP (some (A.p,0))):=hc.hd.cell 1 (by rw[gG];decide) rfl
theorem CrabA.c3 (hc:CrabA S ρ h A C):S.cell h (0+3)=some (eP (some (A.t,0))):=hc.hd.cell 3 (by rw[gG];decide) rfl
theorem CrabA.c4 (hc:CrabA S ρ h A C):S.cell h (0+4)=some (eL A.gs):=hc.hd.cell 4 (by rw[gG];decide) rfl
theorem zqB {i:Nat} (hi:i<6):nthL (hdL A) (5+i)=some (eL (A.es i)):=by
 unfold hdL
 rw[we (n:=5) rfl]
 have:=zhZ (w:=1) (k:=0) (n:=6) (f:=fun i=>[eL (A.es i)]) (fun _ _=>rfl) hi (by decide)
 rw[Nat.mul_one] at this;exact this
theorem zmg {i:Nat} (hi:i<6) (s:Sl):spl (hdL A) (5+i) [eL s]=hdL { A with es:=upd A.es i s }:=by
 unfold hdL
 rw[xX (n:=5) rfl]
 have:=zhY (w:=1) (k:=0) (n:=6) (vs:=[eL s]) (f:=fun i=>[eL (A.es i)]) (fun _ _=>rfl) hi (by simp)
 rw[Nat.mul_one] at this
 rw[show spl (cF 6 fun i=>[eL (A.es i)]) i [eL s]=_ from this]
 congr 1
 refine jF fun n _=>?_
 by_cases e:n=i
 ·subst e;simp only[zl];rfl
 ·simp only[zh e]
theorem CrabA.cev (hc:CrabA S ρ h A C) {i x:Nat} (hi:i<6) (hx:x=5+i):S.cell h x=some (eL (A.es i)):=(hc.hd.cell (5+i) (by rw[gG];omega) hx).trans (zqB hi)
theorem CrabA.t74 (hc:CrabA S ρ h A C):S.cell A.t (0+74)=some (eP (some (A.ob,0))):=(hc.tt.cell 74 (by rw[vb];decide) rfl).trans znQ
theorem CrabA.t171 (hc:CrabA S ρ h A C):S.cell A.t (0+171)=some (eP (some (A.kb,0))):=(hc.tt.cell 171 (by rw[vb];decide) rfl).trans zqv
theorem CrabA.tform (hc:CrabA S ρ h A C):S.cell A.t 0=some (.int .i64 C.form):=hc.tt.cell 0 (by rw[vb];decide) rfl
theorem CrabA.tnow (hc:CrabA S ρ h A C):S.cell A.t (0+1)=some (.int .u64 C.now):=hc.tt.cell 1 (by rw[vb];decide) rfl
theorem CrabA.vcell (hc:CrabA S ρ h A C) {n j x:Nat} (hn:n<6) (hj:j<12) (hx:x=2+n*12+j):S.cell A.t x=nthL (vmC (A.x n) (C.vm n) (C.tf n) (C.late n)) j:=
 (hc.tt.cell (2+(n*12+j)) (by rw[vb];omega) (by omega)).trans (zqu hn hj)
theorem CrabA.vtab (hc:CrabA S ρ h A C) {n x:Nat} (hn:n<6) (hx:x=2+n*12+2):S.part A.t x 2=some (tbL (C.tf n) (A.x n).fs):=
 (hc.tt.part (2+(n*12+2)) (by rw[vb];omega) (by omega)).trans (zoR hn (by decide))
theorem CrabA.tls (hc:CrabA S ρ h A C):S.part A.t (0+75) 96=some (cF 16 fun i=>lsL (C.ls i)):=(hc.tt.part 75 (by rw[vb];decide) rfl).trans zoS
theorem CrabA.cap (hc:CrabA S ρ h A C):CaP S ρ 0 h 2 (fun cs=>hdL { A with cs:=cs }) C.cache:=⟨⟨A.cs,hc.hd,hc.ca⟩,fun _=>rfl,fun _ _=>rfl,by decide⟩
end
end
end Go.Proofs.YthaiblbnpcgjpaaGreatDoor
namespace Go.Pt
section
open Go Go.RowKit Go.Cr
variable {S S':Mem} {ρ ρ':Rho} {r w:Nat} {s:Sl} {l:List Value}
theorem Rw.put (h:Rw S ρ r w s l) (hg:∀ b r,ρ b=Option.some r→S b≠none) {c:Nat} (hc:s.p=Option.some (c,0)) {vs:List Value} {i:Nat} (hi:i+vs.length≤l.length) :
  Mv S ρ (S.put c i vs) ρ (· = r)∧Rw (S.put c i vs) ρ r w s (spl l i vs):=by
 have hl:=h.row.len
 have hcap:=h.row.cap
 have hr:=h.rol c 0 hc
 rcases h.row.lie with ⟨h1,_⟩ | ⟨b,k,h1,h2,h3,h4,h5⟩
 ·rw[h1] at hc;cases hc
 ·rw[h1] at hc;cases hc
  have hm:s.n*w≤s.c*w:=Nat.mul_le_mul_right _ hcap
  rw[kN h2]
  refine⟨Mv.put (R:=(· = r)) (Mv.refl hg) hr rfl _,⟨by rw[qK hi];exact hl,hcap,.inr ⟨c,_,h1,zz,h3,?_,?_⟩⟩,h.rol⟩
  ·simp only;rw[qK (by omega)];exact h4
  ·simp only
   rw[←h5]
   have hkl:k.cs=k.cs.take (s.n*w)++k.cs.drop (s.n*w):=(List.take_append_drop _ _).symm
   have h6:(k.cs.take (s.n*w)).length=s.n*w:=by rw[List.length_take];omega
   have e:spl k.cs i vs=spl (k.cs.take (s.n*w)) i vs++k.cs.drop (s.n*w):=by
    conv=>lhs;rw[hkl]
    exact zee (by omega)
   rw[e,List.take_left' (by rw[qK (by omega)];exact h6)]
theorem Rw.sub (h:Rw S ρ r w s l) {c:Nat} (hc:s.p=Option.some (c,0)) {i:Nat} {v:List Value} (hv:lpart l i v.length=Option.some v):At S c i v:=by
 have hl:=h.row.len
 have hcap:=h.row.cap
 have hi:=(qE hv).1
 rcases h.row.lie with ⟨h1,_⟩ | ⟨b,k,h1,h2,h3,h4,h5⟩
 ·rw[h1] at hc;cases hc
 ·rw[h1] at hc;cases hc
  have hm:s.n*w≤s.c*w:=Nat.mul_le_mul_right _ hcap
  refine⟨k,h2,h3,?_⟩
  rw[qA (by omega)]
  rw[qA hi] at hv
  rw[←hv,←h5]
  congr 1
  apply List.ext_getElem?
  intro j
  simp only[List.getElem?_take,List.getElem?_drop]
  by_cases hj:j<v.length
  ·rw[if_pos hj,if_pos hj,if_pos (by omega)]
  ·rw[if_neg hj,if_neg hj]
end
end Go.Pt
section
namespace Go.Cr
open Go Go.Pt
theorem znz:∀ p:Fin 256,∀ n:Fin 8,p.1/2 ^ n.1%2=1→iandn .u32 (p.1:Int) (ishl .u32 1 (n.1:Int))=(p.1:Int)-2 ^ n.1∧2 ^ n.1≤p.1:=by decide +kernel
theorem zpf {a b i:Nat} (h:(a &&& b)/2 ^ i%2=1):a/2 ^ i%2=1∧b/2 ^ i%2=1:=by
 have h1:(a &&& b).testBit i=true:=by rw[Nat.testBit_eq_decide_div_mod_eq];exact decide_eq_true h
 rw[Nat.testBit_and,Bool.and_eq_true,Nat.testBit_eq_decide_div_mod_eq,Nat.testBit_eq_decide_div_mod_eq] at h1
 exact⟨of_decide_eq_true h1.1,of_decide_eq_true h1.2⟩
theorem zgG {s:Seat} (hs:s.Ok) {n:Nat} (h:nextL s=some n):n<8∧s.pend.toNat/2 ^ n%2=1∧iandn .u32 s.pend (ishl .u32 1 (n:Int))=s.pend-2 ^ n∧0≤s.pend-2 ^ n:=by
 unfold nextL at h
 split at h
 ·rename_i hc
  obtain⟨m,e,hm,hm2⟩:=Seat.may_nat hs
  rw[e,Int.toNat_natCast] at h
  simp only[Option.some.injEq] at h
  have h0:m≠0:=fun h0=>hc.2 (by rw[e,h0];rfl)
  obtain⟨_,_,_,h4,h5⟩:=znN ⟨m,by omega⟩ h0
  simp only at h4 h5
  rw[h] at h4 h5
  rw[hm] at h5
  have hb:=zpf h5
  have hp:=hs.pend
  have hd:=znz ⟨s.pend.toNat,by omega⟩ ⟨n,h4⟩ hb.1
  simp only at hd
  have ep:((s.pend.toNat:Nat):Int)=s.pend:=by omega
  rw[ep] at hd
  refine⟨h4,hb.1,hd.1,?_⟩
  have:((2 ^ n:Nat):Int)=(2:Int) ^ n:=by rw[Int.natCast_pow];rfl
  rw[←this]
  omega
 ·cases h
theorem ziQ {s:Seat} {g:GM} (hg:g.Ok) {addr:Int} (ha:W64 addr) {n:Nat} (hn:n=4∨n=8) {w:Int} (h:getW s g addr n=some w):0≤w∧w<256 ^ n:=by
 unfold getW at h
 split at h
 ·cases h
 ·rename_i q hq
  have hp:=zgC hg ha hq
  split at h
  ·cases h
  ·rename_i hm
   cases hd:ldB g q.1 q.2 n with
   | none=>rw[hd] at h;cases h
   | some l=>
    rw[hd] at h
    simp only[Option.map_some,Option.some.injEq] at h
    subst h
    obtain⟨h1,h2⟩:=zgM hg hd (by rcases hn with rfl | rfl <;> omega)
    have:=zfV h2
    rw[h1] at this
    exact this
end Go.Cr
namespace Go.Proofs.YthaiblbnpcgjpaaGreatDoor
open Go Go.Pt Go.Cr
section
variable {bus:Value} {I:Mem→Rho→GM→Prop} {R:Nat→Prop} {S:Mem} {ρ:Rho} {g:GM} {b o:Nat} {s:Seat} {time me:Int}
theorem zlh (hA:At S b o s.L) (hg:Gl S) (hs:s.Ok) {Q:Int→Bool→Mem→Prop} (hQ:match nextL s with | some n=>Q n true (S.put b o ({ s with pend:=s.pend-2 ^ n }:Seat).L) | none=>∀ x,Q x false S):zfa S (some (b,o)) Q:=by
 have hl:=hs.len
 have hp:=Pl.of hA hl
 apply zis
 unfold zbF
 have h:=zlJ (S:=S) (b:=b) (o:=o) (s:=s) (by rw[hA.self];exact hg) hp hs (Q:=fun t t_1 Sx=>if t_1=true then nn (some (b,o)) fun b o=>gI (Sx.cell b (o+24)) .u32 fun t_2=>0≤t∧Go.Pt.pt Sx b (o+24) 1 ([.int .u32 (iandn .u32 t_2 (ishl .u32 1 t))]) fun Sx_1=>Q t true Sx_1 else Q t false Sx) ?_
 ·rw[hA.self] at h;exact h
 ·cases hn:nextL s with
  | none=>
   rw[hn] at hQ
   dsimp only at hQ ⊢
   rw[if_neg (by decide),hA.self];exact hQ _
  | some n=>
   rw[hn] at hQ
   dsimp only at hQ ⊢
   obtain⟨h8,_,e,_⟩:=zgG hs hn
   rw[if_pos rfl,zL,zx ((hp.cell hl (by decide)).trans (Seat.g24 hl)),e]
   exact⟨by omega,hp.pt (s:=s) hl (by decide) (Seat.s24 (s:=s) hl _) hQ⟩
theorem zll (hB:Bus bus I R) (hx:Cx I R S ρ g b o s) (hs:s.Ok) (ht:W64 time) (hme:0≤me∧me≤2) {Q:List Value→Mem→Prop}
  (hQ:∀ S1 ρ1,Mv S ρ S1 ρ1 R→I S1 ρ1 (stepM s g time me).g→At S1 b o s.L→Q (exL (stepM s g time me).k (stepM s g time me).n) (S1.put b o (stepM s g time me).s.L)):zgW S (some (b,o)) bus time me Q:=by
 have hl:=hs.len
 have hA:=hx.at_
 have hp:=Pl.of hA hl
 have m0:Mv S ρ S ρ R:=Mv.refl (hB.rg hx.i)
 have hres:∀ c u:Int,(exL c u).all (·.oneCell')=true:=fun _ _=>rfl
 obtain⟨bt,bv,hbus⟩:=hB.ifc
 have hone:bus.oneCell'=true:=by rw[hbus];rfl
 have hall:([eP (some (b,o)),bus,.int .u64 time,.int .i64 me]:List Value).all (·.oneCell')=true:=by
  simp only[List.all_cons,List.all_nil,hone];rfl
 have ec:([eP (some (b,o)),bus,.int .u64 time,.int .i64 me]:List Value)=cL b o bus time me:=rfl
 have ec2:([.pointer (some ⟨b,o,none⟩),bus,.int .u64 time,.int .i64 me]:List Value)=cL b o bus time me:=rfl
 apply zkc
 unfold zdr
 refine⟨hone,hall,?_⟩
 unfold stepM at hQ
 refine zZ (fun J=>s.st=0→∀ v,v.length=2→J v S) ?_ fun J hJ=>?_
 rotate_left
 ·rw[if_neg (by simp)]
  refine⟨false,.inr ⟨⟨bt,bv,hbus⟩,rfl⟩,?_⟩
  show (if false=true then _ else _)
  rw[if_neg (by decide),zL,zx ((hx.cell hl (by decide)).trans (Seat.g23 hl))]
  by_cases h0:s.st≠0
  ·have hq:=hQ S ρ m0
   rw[if_pos h0] at hq
   rw[if_pos h0]
   have:=hq hx.i hA
   rw[hA.self] at this
   exact this
  ·rw[if_neg h0];exact hJ (by omega) _ rfl
 intro hst v hv
 rw[if_neg (by omega)] at hQ
 refine⟨hv,?_⟩
 refine zZ (fun J=>nextL s=none→∀ v,v.length=2→J v S) ?_ fun J hJ=>?_
 rotate_left
 ·refine zlh hA (hB.gl hx.i) hs ?_
  cases hn:nextL s with
  | none=>
   dsimp only
   intro x
   rw[if_neg (by decide)]
   exact hJ hn _ hv
  | some n=>
   dsimp only
   have hq:=hQ S ρ m0
   rw[hn] at hq
   obtain⟨h8,_,_,hge⟩:=zgG hs hn
   rw[if_pos rfl,ec,wu64 (x:=(n:Int)) (by omega) (by omega),wu64 (x:=16+(n:Int)) (by omega) (by omega)]
   have hl2:({ s with pend:=s.pend-2 ^ n }:Seat).R.length=16:=hl
   have hA2:At (S.put b o ({ s with pend:=s.pend-2 ^ n }:Seat).L) b o ({ s with pend:=s.pend-2 ^ n }:Seat).L:=hp.at_ hl2
   refine kI hA2 hl2 ⟨hres _ _,?_⟩
   have hl3:(({ s with pend:=s.pend-2 ^ n }:Seat).trap (16+n) 0).R.length=16:=by unfold Seat.trap;split <;> exact hl
   rw[hA.put2 (by rw[Seat.L_len hl2,Seat.L_len hl]) (by rw[Seat.L_len hl3,Seat.L_len hl])]
   exact hq hx.i hA
 intro hn v2 hv2
 refine⟨hv2,?_⟩
 rw[hn] at hQ
 dsimp only at hQ
 refine zZ (fun J=>∀ S1 ρ1,Mv S ρ S1 ρ1 R→Cx I R S1 ρ1 g b o s→match getW s g s.pc 4 with | some w=>J w true S1 | none=>∀ x,J x false S1) ?_ fun J hJ=>?_
 rotate_left
 ·rw[zL,zx ((hx.cell hl (by decide)).trans (Seat.g16 hl)),ec2]
  refine zfZ hB hx hs hs.pc (n:=4) (.inl rfl) fun S1 ρ1 hm hx1=>?_
  have h:=hJ S1 ρ1 hm hx1
  cases hg:getW s g s.pc 4 with
  | none=>
   rw[hg] at h
   dsimp only at h ⊢
   intro x
   rw[if_neg (by decide)];exact h x
  | some w=>
   rw[hg] at h
   dsimp only at h ⊢
   rw[if_pos rfl];exact h
 intro S1 ρ1 hm hx1
 have hq:=hQ S1 ρ1 hm
 cases hg:getW s g s.pc 4 with
 | none=>
  rw[hg] at hq
  dsimp only at hq ⊢
  intro x
  rw[if_neg (by decide),zL,zx ((hx1.cell hl (by decide)).trans (Seat.g16 hl)),ec2]
  exact kI hx1.at_ hl ⟨hres _ _,hq hx1.i hx1.at_⟩
 | some w=>
  rw[hg] at hq
  dsimp only at hq ⊢
  have hw:=ziQ (hB.ok hx.i) hs.pc (.inl rfl) hg
  rw[if_pos rfl,wu32 (by omega) (by omega)]
  refine ziY (by omega) (by omega) (fun hY=>?_) fun hN=>?_
  ·rw[if_pos hY] at hq
   rw[if_pos rfl,ec]
   refine⟨rfl,?_⟩
   refine zpb hB hx1 hs (zry w) hY.1 hst ht hme fun S2 ρ2 hm2 hi2 hA2=>⟨hres _ _,?_⟩
   have hq2:=hQ S2 ρ2 (hm.trans hm2)
   rw[hg] at hq2
   dsimp only at hq2
   rw[if_pos hY] at hq2
   exact hq2 hi2 hA2
  ·rw[if_neg hN] at hq
   rw[if_neg (by decide),ec]
   exact⟨rfl,kI hx1.at_ hl ⟨hres _ _,hq hx1.i hx1.at_⟩⟩
end
end Go.Proofs.YthaiblbnpcgjpaaGreatDoor
end
namespace Go.Proofs.YthaiblbnpcgjpaaGreatDoor
section
open Go Go.Pt Go.Cr Go.Hp
def thereV (vm:Nat→Bv) (n:Int):Prop:=0≤n∧n<6∧(vm n.toNat).on=true
instance (vm:Nat→Bv) (n:Int):Decidable (thereV vm n):=inferInstanceAs (Decidable (_∧_∧_))
theorem zfO {l:List Seat} (h:∀ s∈l,s.Ok):(l.flatMap Seat.L).length=l.length*26:=by
 induction l with
 | nil=>simp
 | cons s l ih=>
  rw[List.flatMap_cons,List.length_append,ih fun x hx=>h x (by simp[hx]),Seat.L_len (h s (by simp)).len,List.length_cons,Nat.add_mul];omega
theorem zjq {l:List Seat} (h:∀ s∈l,s.Ok) {j:Nat} (hj:j<l.length):∃ A B,A.length=j*26∧l.flatMap Seat.L=A++(l[j].L++B)∧∀ s,(l.set j s).flatMap Seat.L=A++(s.L++B):=by
 refine⟨(l.take j).flatMap Seat.L,(l.drop (j+1)).flatMap Seat.L,?_,?_,fun s=>?_⟩
 ·rw[zfO fun s hs=>h s (List.mem_of_mem_take hs),List.length_take,Nat.min_eq_left (by omega)]
 ·have e:l=l.take j++(l[j] :: l.drop (j+1)):=by rw[List.getElem_cons_drop,List.take_append_drop]
  have e2:=congrArg (List.flatMap Seat.L) e
  rw[List.flatMap_append,List.flatMap_cons] at e2
  exact e2
 ·rw[List.set_eq_take_append_cons_drop,if_pos hj,List.flatMap_append,List.flatMap_cons]
theorem zoy {l:List Seat} (h:∀ s∈l,s.Ok) {j:Nat} (hj:j<l.length):lpart (l.flatMap Seat.L) (j*26) (l[j].L).length=some l[j].L:=by
 obtain⟨A,B,h1,h2,_⟩:=zjq h hj
 rw[h2,show j*26=j*26+0 by omega,xc h1,kF (by omega),ze rfl]
theorem zqg {l:List Seat} (h:∀ s∈l,s.Ok) {j:Nat} (hj:j<l.length) {s:Seat} (hs:s.Ok):spl (l.flatMap Seat.L) (j*26) s.L=(l.set j s).flatMap Seat.L:=by
 obtain⟨A,B,h1,h2,h3⟩:=zjq h hj
 have hl:=Seat.L_len (h l[j] (List.getElem_mem hj)).len
 have hl2:=Seat.L_len hs.len
 rw[h3,h2,show j*26=j*26+0 by omega,xX h1]
 congr 1
 rw[xi _ _ _ (by simp),List.take_zero,List.nil_append,Nat.zero_add,List.drop_left' (by omega)]
theorem zmQ {l:List Seat} {k:Nat} (hk:k<l.length):l.getD k seat0=l[k]:=by rw[List.getD_eq_getElem?_getD,List.getElem?_eq_getElem hk];rfl
section
variable {S S':Mem} {ρ ρ':Rho} {h:Nat} {A:Ad} {C:Cst}
theorem qJ (hc:CrabA S ρ h A C) {n:Int} {Q:Bool→Mem→Prop} (hQ:Q (decide (thereV C.vm n)) S):zJ S (some (A.t,0)) n Q:=by
 apply zbg
 unfold xQ
 rw[if_pos (by simp)]
 by_cases h0:0≤n
 ·rw[if_pos h0]
  by_cases h6:n<6
  ·rw[if_pos h6,zL]
   refine⟨h0,h6,?_⟩
   rw[fo (hc.vcell (n:=n.toNat) (j:=0) (by omega) (by decide) (by omega))]
   have e:decide (thereV C.vm n)=(C.vm n.toNat).on:=by
    cases hv:(C.vm n.toNat).on with
    | true=>exact decide_eq_true ⟨h0,h6,hv⟩
    | false=>exact decide_eq_false fun h=>by rw[h.2.2] at hv;cases hv
   rw[e] at hQ;exact hQ
  ·rw[if_neg h6]
   rw[decide_eq_false (fun h=>h6 h.2.1)] at hQ;exact hQ
 ·rw[if_neg h0]
  rw[decide_eq_false (fun h=>h0 h.1)] at hQ;exact hQ
theorem wW (hc:CrabA S ρ h A C) {n k:Int} {Q:Pt→Mem→Prop}
  (hY:thereV C.vm n→0≤k→k<(C.vm n.toNat).seats.length→∀ c,(A.x n.toNat).ss.p=some (c,0)→Q (some (c,0+k.toNat*26)) S)
  (hN:¬(thereV C.vm n∧0≤k∧k<(C.vm n.toNat).seats.length)→Q none S):qm S (some (A.t,0)) n k Q:=by
 apply zbX
 unfold wD
 simp only[jn]
 refine qJ hc ?_
 by_cases ht:thereV C.vm n
 ·rw[decide_eq_true ht,if_pos rfl]
  have hn6:n.toNat<6:=by have:=ht.1;have:=ht.2.1;omega
  by_cases hk:k<0
  ·rw[if_pos hk];exact hN fun h=>by omega
  ·have hv:=hc.vs n.toNat hn6
   have hlen:=hv.se.n (by decide) (zfO hv.r)
   have hcell:S.cell A.t (0+2+n.toNat*12+1)=some (eL (A.x n.toNat).ss):=hc.vcell (n:=n.toNat) (j:=1) hn6 (by decide) (by omega)
   rw[if_neg hk,zL]
   refine⟨ht.1,ht.2.1,?_⟩
   rw[wj hcell]
   by_cases hl:((A.x n.toNat).ss.n:Int)≤k
   ·rw[if_pos hl];exact hN fun h=>by omega
   ·rw[if_neg hl,zL]
    refine⟨ht.1,ht.2.1,?_⟩
    obtain⟨c,e1,e2⟩:=hv.se.sl (by rw[zfO hv.r];omega)
    rw[wj hcell,e1,fi]
    exact⟨by omega,by omega,hY ht (by omega) (by omega) c e2⟩
 ·rw[decide_eq_false ht,if_neg (by decide)]
  exact hN fun h=>ht h.1
theorem zlf (hc:CrabA S ρ h A C) {n:Nat} (hn:n<6) {Q:Int→Mem→Prop} (hQ:Q (IntKind.u64.wrap (C.now-C.late n)) S):vI S (some (A.t,0)) n Q:=by
 apply zbW
 unfold wC
 rw[zL,zx hc.tnow]
 refine⟨by omega,by omega,?_⟩
 rw[Int.toNat_natCast,zx (hc.vcell (n:=n) (j:=5) hn (by decide) (by omega))]
 exact hQ
theorem zmz:∀ f:Nat→Bool,∀ k,k<6→bI f/2 ^ k%2=(f k).toNat:=by
 intro f k hk
 have b (i:Nat):(f i).toNat≤1:=Bool.toNat_le _
 have:=b 0;have:=b 1;have:=b 2;have:=b 3;have:=b 4;have:=b 5
 unfold bI
 match k,hk with
 | 0,_=>omega
 | 1,_=>omega
 | 2,_=>omega
 | 3,_=>omega
 | 4,_=>omega
 | 5,_=>omega
theorem znI (f:Nat→Bool):bI f<64:=by
 have b (i:Nat):(f i).toNat≤1:=Bool.toNat_le _
 have:=b 0;have:=b 1;have:=b 2;have:=b 3;have:=b 4;have:=b 5
 unfold bI;omega
theorem zjR (f:Nat→Bool) {k:Nat} (hk:k<6):decide (iand .u32 (ishr .u32 (bI f:Int) (k:Int)) 1=1)=f k:=by
 have h1:=zmz f k hk
 have h2:=znI f
 have key:∀ m:Fin 64,∀ j:Fin 6,decide (iand .u32 (ishr .u32 ((m.1:Nat):Int) ((j.1:Nat):Int)) 1=1)=decide (m.1/2 ^ j.1%2=1):=by decide
 have:=key ⟨bI f,h2⟩ ⟨k,hk⟩
 rw[this,h1]
 cases f k <;> rfl
theorem zfd (hc:CrabA S ρ h A C) {a b:Int} {Q:Bool→Mem→Prop} (hQ:Q (decide (thereV C.vm a) && (decide (thereV C.vm b) && (C.vm a.toNat).bells b.toNat)) S):yN S (some (A.t,0)) a b Q:=by
 apply zaI
 unfold xv
 refine qJ hc ?_
 by_cases ha:thereV C.vm a
 ·rw[decide_eq_true ha] at hQ ⊢
  rw[if_pos rfl]
  refine qJ hc ?_
  by_cases hb:thereV C.vm b
  ·rw[decide_eq_true hb] at hQ ⊢
   rw[if_pos rfl,zL]
   refine⟨ha.1,ha.2.1,?_⟩
   have h6:a.toNat<6:=by have:=ha.1;have:=ha.2.1;omega
   rw[zx (hc.vcell (n:=a.toNat) (j:=11) h6 (by decide) (by omega))]
   refine⟨hb.1,?_⟩
   have e:b=((b.toNat:Nat):Int):=by have:=hb.1;omega
   have hb6:b.toNat<6:=by have:=hb.1;have:=hb.2.1;omega
   have:=zjR (C.vm a.toNat).bells hb6
   rw[←e] at this
   rw[this]
   simpa using hQ
  ·rw[decide_eq_false hb] at hQ ⊢
   rw[if_neg (by decide)]
   simpa using hQ
 ·rw[decide_eq_false ha] at hQ ⊢
  rw[if_neg (by decide)]
  simpa using hQ
theorem zqE (e:Evt):(evL e).length=4:=rfl
theorem zlg (hc:CrabA S ρ h A C) {n:Nat} (hn:n<6) (hl:(C.ev n).length≤1000000000) {e:Evt} {Q:Mem→Prop}
  (hQ:∀ S' ρ' A',Mv S ρ S' ρ' (fun r=>r=0∨(20≤r∧r<26))→CrabA S' ρ' h A' { C with ev:=upd C.ev n (C.ev n++[e]) }→A'.t=A.t→A'.x=A.x→Q S'):yH S (some (h,0)) n (evL e) Q:=by
 apply zdO
 unfold vU
 refine⟨rfl,?_⟩
 have hrow:=hc.ev n hn
 have hsn:=hrow.n (by decide) (ku zqE _)
 rw[zL]
 refine⟨by omega,by omega,?_⟩
 rw[Int.toNat_natCast,wj (hc.cev hn (by omega))]
 refine⟨rfl,?_⟩
 refine zkR (R:=fun r=>r=0∨(20≤r∧r<26)) (Mv.refl hc.rg) (by omega) hrow rfl (by decide) rfl (by omega) fun s' S1 ρ1 m1 m1' h1 _=>?_
 refine⟨by omega,by omega,?_⟩
 refine (hc.hd.keep m1' (by omega)).pt m1.rg (vs:=[eL s']) (5+n) rfl (by rw[gG];simp;omega) (by omega) fun S2 m2 h2=>?_
 rw[zmg hn] at h2
 have m2':Mv S1 ρ1 S2 ρ1 (fun r=>r=0∨(20≤r∧r<26)):=m2.mono fun r hr=>.inl hr
 refine hQ S2 ρ1 _ (m1.trans m2') (hc.setEv (m1.trans m2') (fun r hr=>hr) h2 fun i hi=>?_) rfl rfl
 by_cases e2:i=n
 ·subst e2
  rw[zl,zl,List.flatMap_append]
  have e3:[e].flatMap evL=evL e:=by simp
  rw[e3]
  exact h1.keep m2 (by omega)
 ·rw[zh e2,zh e2]
  exact ((hc.ev i hi).keep m1' (by omega)).keep m2 (by omega)
variable {W:Wd} {φ:Nat→Nat→Nat}
def busL (h n:Nat):List Value:=[.pointer (some ⟨h,0,none⟩),.int .i64 n]
theorem bus0 {h n:Nat}:nthL (busL h n) 0=some (eP (some (h,0))):=rfl
theorem bus1 {h n:Nat}:nthL (busL h n) 1=some (.int .i64 n):=rfl
theorem zhQ (hc:CrabA S ρ h A C) (hr:Rel C W φ) {n:Nat} (hn:n<6) (hon:(W.vm n).on=true) {page:Int} {Q:List Value→Int→Mem→Prop}
  (hY:∀ f w S' ρ' A' l,C.walk n page=some (f,w)→Mv S ρ S' ρ' (fun r=>r=0∨r=6)→CrabA S' ρ' h A' { C with cache:=l }→Rel { C with cache:=l } W φ→A'.m=A.m→A'.t=A.t→A'.x=A.x→Q (enL f w) 0 S')
  (hN:∀ e S',C.walk n page=none→e≠0→Keeps S S' []→Q noEn e S'):kA S (busL h n) page Q:=by
 have hcs:=hr.csize
 apply zew
 unfold jh
 refine⟨rfl,?_⟩
 refine zZ (fun J=>lookC C.cache n page=none→J noEn S) ?_ fun J hJ=>?_
 ·intro hl
  refine⟨rfl,?_⟩
  rw[zS bus0,zL,zS hc.c3,zx bus1,zL]
  refine⟨by omega,by omega,?_⟩
  rw[Int.toNat_natCast,xa (hc.vtab hn (by omega)),zS bus0,zL,zS hc.c0]
  have hv:=hc.vs n hn
  refine walkD hc.st hv.fr.row (fun f b S1 hw hk=>?_) fun e S1 hw he hk=>?_
  ·have hc1:=hc.keeps hk
   refine⟨hc1.c3,rfl,?_⟩
   rw[if_pos rfl,zS bus0,zL,zx bus1]
   refine zlD (r:=⟨n,page,f,b⟩) hc1.cap hc1.rg (by omega) fun S2 ρ2 m2 h2=>?_
   obtain⟨cs,h3,h4⟩:=h2.ex
   refine⟨rfl,hY f b S2 ρ2 _ _ hw ((Mv.keeps hc.rg hk).trans m2) (hc1.setCache m2 h3 h4) (hr.put hon hw) rfl rfl rfl⟩
  ·have hc1:=hc.keeps hk
   refine⟨hc1.c3,rfl,?_⟩
   rw[if_neg he]
   exact⟨rfl,hN e S1 hw he hk⟩
 ·rw[zS bus0,zL,zx bus1]
  refine zlT hc.cap (by omega) (fun f b hl=>?_) fun hl=>?_
  ·rw[if_pos rfl]
   exact⟨rfl,rfl,hY f b S ρ A C.cache (hr.find hon hl) (Mv.refl hc.rg) hc hr rfl rfl rfl⟩
  ·rw[if_neg (by decide)]
   exact⟨rfl,hJ hl⟩
end
end
end Go.Proofs.YthaiblbnpcgjpaaGreatDoor
section
namespace Go.Cr
open Go Go.Pt
variable {W:Wd}
theorem zlr {d:Nat→List Int} {n p:Nat}:((W.setDat d).own n p).isSome=(W.own n p).isSome:=by
 show ((W.own n p).map _).isSome=_
 cases W.own n p <;> rfl
theorem zhL {n p:Nat} (hp:p<32):(W.gm n).map p=(W.where_ n p).map fun q=>(32*q.1+q.2.1,q.2.2):=by
 show (if 32≤p then none else _)=_
 rw[if_neg (by omega)]
theorem zhM {n m q:Nat} (hq:q<32):(W.gm n).dat (32*m+q)=(W.own m q).getD []:=by
 show (W.own ((32*m+q)/32) ((32*m+q)%32)).getD []=_
 rw[show (32*m+q)/32=m by omega,show (32*m+q)%32=q by omega]
theorem WOk.gm (h:WOk W) (n:Nat):(W.gm n).Ok:=by
 have key:∀ p f w,(W.gm n).map p=some (f,w)→∃ l,(W.gm n).dat f=l∧l.length=256∧Byt l:=by
  intro p f w hm
  by_cases hp:p<32
  ·rw[zhL hp] at hm
   cases hq:W.where_ n p with
   | none=>rw[hq] at hm;cases hm
   | some q=>
    rw[hq] at hm
    simp only[Option.map_some,Option.some.injEq,Prod.mk.injEq] at hm
    obtain⟨l,hl⟩:=h.where_own hq
    have h2:=h.pg _ _ l hl
    refine⟨l,?_,h2.2.2⟩
    rw[←hm.1,zhM h2.2.1,hl];rfl
  ·have:(W.gm n).map p=none:=by show (if 32≤p then none else _)=none;rw[if_pos (by omega)]
   rw[this] at hm;cases hm
 refine⟨fun p hp=>by show (if 32≤p then none else _)=none;rw[if_pos hp],fun p f w hm=>?_,fun p f w hm=>?_⟩
 ·obtain⟨l,h1,h2,_⟩:=key p f w hm;rw[h1];exact h2
 ·obtain⟨l,h1,_,h2⟩:=key p f w hm;rw[h1];exact h2
theorem zoX {n m q:Nat} {l l':List Int} (ho:W.own m q=some l) (hq:q<32) (hW:∀ m q l,W.own m q=some l→q<32) {off:Nat} {v:List Int} (hl:l'=spB l off v):(W.setO m q (some l')).gm n=wrB (W.gm n) (32*m+q) off v:=by
 have hd:(W.gm n).dat (32*m+q)=l:=by rw[zhM hq,ho];rfl
 have hmap:((W.setO m q (some l')).gm n).map=(W.gm n).map:=by
  funext p
  show (if 32≤p then none else ((W.setO m q (some l')).where_ n p).map _)=(if 32≤p then none else (W.where_ n p).map _)
  rw[zfN ho]
 have hdat:((W.setO m q (some l')).gm n).dat=(wrB (W.gm n) (32*m+q) off v).dat:=by
  funext x
  show (upd W.own m (upd (W.own m) q (some l')) (x/32) (x%32)).getD []=if x=32*m+q then _ else (W.own (x/32) (x%32)).getD []
  by_cases e:x=32*m+q
  ·rw[if_pos e]
   subst e
   rw[show (32*m+q)/32=m by omega,show (32*m+q)%32=q by omega,zl,zl,hd,hl];rfl
  ·rw[if_neg e]
   by_cases e1:x/32=m
   ·rw[e1,zl,zh (by omega)]
   ·rw[zh e1]
 show GM.mk _ _=GM.mk _ _
 congr 1
theorem zjm {d:Nat→List Int} {m q:Nat} {l l':List Int} (hW:∀ m q l,W.own m q=some l→q<32) (ho:W.own m q=some l):(W.setDat d).setO m q (some l')=W.setDat (upd d (32*m+q) l'):=by
 have e:upd (W.setDat d).own m (upd ((W.setDat d).own m) q (some l'))=(W.setDat (upd d (32*m+q) l')).own:=by
  funext n p
  show upd (W.setDat d).own m (upd ((W.setDat d).own m) q (some l')) n p=(W.own n p).map fun _=>upd d (32*m+q) l' (32*n+p)
  by_cases e1:n=m
  ·subst e1
   rw[zl]
   by_cases e2:p=q
   ·subst e2;rw[zl,ho,Option.map_some,zl]
   ·rw[zh e2]
    show (W.own n p).map _=_
    rw[zh (by omega)]
  ·rw[zh e1]
   show (W.own n p).map _=_
   cases hp:W.own n p with
   | none=>rfl
   | some l2=>
    have h1:=hW n p l2 hp
    have h2:=hW m q l ho
    rw[Option.map_some,Option.map_some,zh (by omega)]
 show ({ W.setDat d with own:=_ }:Wd)=_
 rw[e];rfl
theorem zls {d:Nat→List Int} {n:Nat} (hW:∀ m q l,W.own m q=some l→q<32):W.setDat ((W.setDat d).gm n).dat=W.setDat d:=by
 have e:(W.setDat ((W.setDat d).gm n).dat).own=(W.setDat d).own:=by
  funext m q
  show (W.own m q).map _=(W.own m q).map _
  cases ho:W.own m q with
  | none=>rfl
  | some l=>
   have h1:=hW m q l ho
   rw[Option.map_some,Option.map_some,zhM h1]
   show some (((W.own m q).map _).getD [])=_
   rw[ho];rfl
 exact congrArg (fun o=>({ W with own:=o }:Wd)) e
theorem zbk {n:Nat} (hW:∀ m q l,W.own m q=some l→q<32):W.setDat (W.gm n).dat=W:=by
 have e:(W.setDat (W.gm n).dat).own=W.own:=by
  funext m q
  show (W.own m q).map _=W.own m q
  cases ho:W.own m q with
  | none=>rfl
  | some l=>
   rw[Option.map_some,zhM (hW m q l ho),ho];rfl
 exact congrArg (fun o=>({ W with own:=o }:Wd)) e
theorem By.part {S:Mem} {p:Sl} {xs:List Int} (h:By S p xs) (h0:0<xs.length):∃ b o,p.p=some (b,o)∧S.part b o (xs.length*1)=some (bL xs):=by
 have hl:=h.len
 rcases h.lie with h1 | ⟨b,o,h1,h2⟩
 ·omega
 ·refine⟨b,o,h1,?_⟩
  obtain⟨k,hk,_⟩:=zgj (h2 0 h0)
  have hc:∀ i (hi:i<xs.length),nthL k.cs (o+i)=some (.int .u8 xs[i]):=fun i hi=>by have:=h2 i hi;rwa [qj hk] at this
  have hlast:=xJ (hc (xs.length-1) (by omega))
  rw[yp hk,qA (by omega)]
  congr 1
  apply List.ext_getElem?
  intro i
  rw[List.getElem?_take,List.getElem?_drop,Nat.mul_one]
  by_cases hi:i<xs.length
  ·rw[if_pos hi]
   have:=hc i hi
   rw[zI] at this
   rw[this]
   simp[bL,List.getElem?_eq_getElem hi]
  ·rw[if_neg hi,List.getElem?_eq_none (by simp[bL];omega)]
end Go.Cr
namespace Go.Proofs.YthaiblbnpcgjpaaGreatDoor
open Go Go.Pt Go.Cr Go.Hp
section
variable {S S':Mem} {ρ ρ':Rho} {h:Nat} {A:Ad} {C:Cst} {W:Wd} {φ:Nat→Nat→Nat}
theorem zdD (hc:CrabA S ρ h A C) (hr:Rel C W φ) {n:Nat} (hn:n<6) (hon:(W.vm n).on=true) {page:Int} {off k:Nat} (hk:0<k) (ho:off+k≤256) {Q:Sl→Int→Mem→Prop}
  (hY:∀ m q w l t S' ρ' A' ca,0≤page→page≤31→W.where_ n page.toNat=some (m,q,w)→W.own m q=some l→Mv S ρ S' ρ' (fun r=>r=0∨r=6)→CrabA S' ρ' h A' { C with cache:=ca }→Rel { C with cache:=ca } W φ→A'.t=A.t→A'.x=A.x→Row S' 1 t (bL (rdB l off k))→(∀ b o,t.p=some (b,o)→S b=none∧ρ' b=none)→Q t 0 S')
  (hN:∀ e S',(page<0∨31<page∨W.where_ n page.toNat=none)→e≠0→Keeps S S' []→Q ⟨none,0,0⟩ e S'):gR S (busL h n) page off k Q:=by
 apply zey
 unfold jj
 refine⟨rfl,?_⟩
 refine zhQ hc hr hn hon (fun f w S1 ρ1 A1 ca hw m1 hc1 hr1 hm ht hx=>?_) fun e S1 hw he hk1=>?_
 ·refine⟨rfl,?_⟩
  simp only[jn]
  obtain⟨m,q,l,h0,h1,h2,h3,h4⟩:=hr.walk_some hon hw
  have hp:=hr.pg m q l h3
  rw[if_neg (by decide),zS bus0,zL,zS hc1.c0,zx (show nthL (enL f w) 1=some (.int .i64 f) from rfl)]
  refine readD hc1.st (by rw[h4];exact hp.1) hk ho fun t S2 hk2 hrow hfr=>?_
  have hd:C.dat f=l:=by rw[h4];exact hp.2.2
  have hrow':Row S2 1 t (bL (rdB (C.dat f) off k)):=hrow
  rw[hd] at hrow'
  refine hY m q w l t S2 ρ1 A1 ca h0 h1 h2 h3 (m1.trans (Mv.keeps hc1.rg hk2)) (hc1.keeps hk2) hr1 ht hx hrow' fun b o hb=>?_
  have hn1:=hfr b o hb
  refine⟨?_,?_⟩
  ·cases hs:S b with
   | none=>rfl
   | some kk=>have:=m1.al b (by rw[hs];simp);exact absurd hn1 this
  ·cases hs:ρ1 b with
   | none=>rfl
   | some r=>exact absurd hn1 (m1.rg b r hs)
 ·refine⟨rfl,?_⟩
  simp only[jn]
  rw[if_pos he]
  exact hN e S1 (hr.walk_none hon hw) he hk1
theorem zdC (hc:CrabA S ρ h A C) (hr:Rel C W φ) {n:Nat} (hn:n<6) (hon:(W.vm n).on=true) {page:Int} {off:Nat} {p:Sl} {v:List Int} (hp:∃ b o,p.p=some (b,o)∧S.part b o (v.length*1)=some (bL v)∧(∀ r,ρ b=some r→r≠0∧r≠6)) (hpl:v.length=p.n) (hv0:v≠[]) (ho:off+v.length≤256) (hb:Byt v) {Q:Int→Mem→Prop}
  (hY:∀ m q l S' ρ' A' ca,0≤page→page≤31→W.where_ n page.toNat=some (m,q,true)→W.own m q=some l→Mv S ρ S' ρ' (fun r=>r=0∨r=6∨r=2)→CrabA S' ρ' h A' { C with cache:=ca,dat:=upd C.dat (φ m q) (spB l off v) }→Rel { C with cache:=ca,dat:=upd C.dat (φ m q) (spB l off v) } (W.setO m q (some (spB l off v))) φ→A'.t=A.t→A'.x=A.x→Q 0 S')
  (hN:∀ e S' ρ' A' ca,(page<0∨31<page∨W.where_ n page.toNat=none∨∃ m q,W.where_ n page.toNat=some (m,q,false))→e≠0→Mv S ρ S' ρ' (fun r=>r=0∨r=6∨r=2)→CrabA S' ρ' h A' { C with cache:=ca }→Rel { C with cache:=ca } W φ→A'.t=A.t→A'.x=A.x→Q e S'):gQ S (busL h n) page off p Q:=by
 apply zex
 unfold ji
 refine⟨rfl,?_⟩
 refine zhQ hc hr hn hon (fun f w S1 ρ1 A1 ca hw m1 hc1 hr1 hm ht hx=>?_) fun e S1 hw he hk1=>?_
 ·refine⟨rfl,?_⟩
  simp only[jn]
  obtain⟨m,q,l,h0,h1,h2,h3,h4⟩:=hr.walk_some hon hw
  have hpg:=hr.pg m q l h3
  have m1':Mv S ρ S1 ρ1 (fun r=>r=0∨r=6∨r=2):=m1.mono fun r hr'=>by omega
  rw[if_neg (by decide),fo (show nthL (enL f w) 2=some (.bool w) from rfl)]
  cases w with
  | true=>
   rw[if_pos rfl,zS bus0,zL,zS hc1.c0,zx (show nthL (enL f true) 1=some (.int .i64 f) from rfl)]
   obtain⟨b,o,hb1,hb2,hb3⟩:=hp
   have hpart:S1.part b o (v.length*1)=some (bL v):=by
    obtain⟨k,e1,e2⟩:=zhy hb2
    have:S1 b=S b:=m1.kp b (by rw[e1];simp) fun r e=>by have:=hb3 r e;omega
    rw[yp (by rw[this];exact e1)];exact e2
   refine writeD hc1.st hc1.rg (by rw[h4];exact hpg.1) ⟨b,o,hb1,hpart⟩ hpl hv0 ho hb fun S2 m2 hs2=>?_
   have hd:C.dat f=l:=by rw[h4];exact hpg.2.2
   have hwk:=hr.wk.pg m q l h3
   have e:wr C.dat f off v=upd C.dat (φ m q) (spB l off v):=by unfold wr;rw[hd,h4]
   have hs2':StoreD S2 ρ1 A1.m C.N (upd C.dat (φ m q) (spB l off v)):=by rw[←e];exact hs2
   refine hY m q l S2 ρ1 A1 ca h0 h1 h2 h3 (m1'.trans (m2.mono fun r hr'=>by omega)) (hc1.setStore m2 hs2') (hr1.setO h3 ⟨by rw[zln (by rw[hwk.2.2.1];exact ho)];exact hwk.2.2.1,zlo hwk.2.2.2 hb⟩) ht hx
  | false=>
   rw[if_neg (by decide)]
   exact hN 11 S1 ρ1 A1 ca (.inr (.inr (.inr ⟨m,q,h2⟩))) (by decide) m1' hc1 hr1 ht hx
 ·refine⟨rfl,?_⟩
  simp only[jn]
  rw[if_pos he]
  refine hN e S1 ρ A C.cache ?_ he (Mv.keeps hc.rg hk1) (hc.keeps hk1) hr rfl rfl
  rcases hr.walk_none hon hw with e | e | e
  ·exact .inl e
  ·exact .inr (.inl e)
  ·exact .inr (.inr (.inl e))
def BI (h n:Nat) (C:Cst) (W:Wd) (φ:Nat→Nat→Nat) (t:Nat) (x:Nat→Vx) (S:Mem) (ρ:Rho) (g:GM):Prop:=
 ∃ A d ca dt,CrabA S ρ h A { C with cache:=ca,dat:=dt }∧Rel { C with cache:=ca,dat:=dt } (W.setDat d) φ∧g=(W.setDat d).gm n∧A.t=t∧A.x=x
abbrev R026 (r:Nat):Prop:=r=0∨r=6∨r=2
theorem znC {n:Nat} (hn:n<6) (hon:(W.vm n).on=true) (hwk:WOk W) (t:Nat) (x:Nat→Vx):Bus (.iface 184 (valL (busL h n))) (BI h n C W φ t x) R026 where
 ifc:=⟨_,_,rfl⟩
 rg:=fun⟨A,d,ca,dt,hc,_⟩=>hc.rg
 ok:=fun⟨A,d,ca,dt,hc,hr,hg,_⟩=>by rw[hg];exact hr.wk.gm n
 gl:=fun⟨A,d,ca,dt,hc,_⟩=>hc.gl
 kp:=fun⟨A,d,ca,dt,hc,hr,hg,ht,hx⟩ hk=>⟨A,d,ca,dt,hc.keeps hk,hr,hg,ht,hx⟩
 load:=by
  rintro S ρ g page off k Q ⟨A,d,ca,dt,hc,hr,rfl,ht,hx⟩ hp hk ho hQ
  have hon':((W.setDat d).vm n).on=true:=hon
  refine zrz (Tr.mono (zdD hc hr hn hon' hk ho (Q:=fun a b S'=>Q (.tuple #[eL a,.int .i64 b]) S') (fun m q w l t' S' ρ' A' ca' h0 h1 h2 h3 m1 hc1 hr1 ht1 hx1 hrow hfr=>?_) fun e S' hbad he hk1=>?_) ?_)
  ·rw[Int.toNat_natCast] at h2
   have hl:=hr.wk.pg m q l h3
   refine hQ S' ρ' t' 0 (m1.mono fun r hr'=>by unfold R026;omega) ⟨A',d,ca',dt,hc1,hr1,rfl,by rw[ht1,ht],by rw[hx1,hx]⟩ ?_
   have e:ldB ((W.setDat d).gm n) page off k=some (rdB l off k):=by
    unfold ldB
    rw[zhL (by omega),h2,Option.map_some,Option.map_some,zhM hl.2.1,h3];rfl
   rw[e]
   exact⟨rfl,znV hrow fun x hx'=>hl.2.2.2 x (List.mem_of_mem_drop (List.mem_of_mem_take hx'))⟩
  ·refine hQ S' ρ _ e (Mv.keeps hc.rg hk1) ⟨A,d,ca,dt,hc.keeps hk1,hr,rfl,ht,hx⟩ ?_
   have e2:ldB ((W.setDat d).gm n) page off k=none:=by
    unfold ldB
    rw[zhL (by omega)]
    rw[Int.toNat_natCast] at hbad
    rcases hbad with h1 | h1 | h1
    ·omega
    ·omega
    ·rw[h1];rfl
   rw[e2]
   exact⟨he,rfl,Nat.le_refl _,fun _ h=>by simp at h,.inl rfl⟩
  ·rintro v S' ⟨a,b,rfl,h⟩;exact h
 save:=by
  rintro S ρ g page off sl l Q ⟨A,d,ca,dt,hc,hr,rfl,ht,hx⟩ hp ho hby hfr hl8 hQ
  have hon':((W.setDat d).vm n).on=true:=hon
  obtain⟨b,o,hb1,hb2⟩:=hby.part (by omega)
  have hW:=fun m q l h=>((hwk.pg m q l h).2.1:q<32)
  refine zrz (Tr.mono (zdC hc hr hn hon' (v:=l) (off:=off) ⟨b,o,hb1,hb2,fun r e=>by rw[hfr b o hb1] at e;cases e⟩ hby.len (fun e=>by rw[e] at hl8;simp at hl8) (by omega) hby.bd (Q:=fun b S'=>Q (.int .i64 b) S') (fun m q l2 S' ρ' A' ca' h0 h1 h2 h3 m1 hc1 hr1 ht1 hx1=>?_) fun e S' ρ' A' ca' hbad he m1 hc1 hr1 ht1 hx1=>?_) ?_)
  ·rw[Int.toNat_natCast] at h2
   have hl:=hr.wk.pg m q l2 h3
   have hW':∀ m q l,(W.setDat d).own m q=some l→q<32:=fun m q l h=>(hr.wk.pg m q l h).2.1
   obtain⟨l0,hl0⟩:∃ l0,W.own m q=some l0:=by
    have h4:((W.setDat d).own m q).isSome=true:=by rw[h3];rfl
    rw[zlr] at h4
    exact Option.isSome_iff_exists.1 h4
   rw[zjm hW hl0] at hr1
   refine hQ S' ρ' _ 0 (m1.mono fun r hr'=>hr') ⟨A',_,ca',_,hc1,hr1,rfl,by rw[ht1,ht],by rw[hx1,hx]⟩ ?_
   rw[zhL (by omega),h2]
   refine⟨rfl,?_⟩
   rw[←zjm hW hl0]
   exact zoX h3 hl.2.1 hW' rfl
  ·refine hQ S' ρ' _ e (m1.mono fun r hr'=>hr') ⟨A',d,ca',dt,hc1,hr1,rfl,by rw[ht1,ht],by rw[hx1,hx]⟩ ?_
   rw[zhL (by omega)]
   rw[Int.toNat_natCast] at hbad
   rcases hbad with h1 | h1 | h1 | ⟨m,q,h1⟩
   ·omega
   ·omega
   ·rw[h1];exact⟨he,rfl⟩
   ·rw[h1];exact⟨he,rfl⟩
  ·rintro v S' ⟨r,rfl,h⟩;exact h
end
end Go.Proofs.YthaiblbnpcgjpaaGreatDoor
end
namespace Go.Proofs.YthaiblbnpcgjpaaGreatDoor
section
open Go Go.Pt Go.Proofs.Tryz
attribute [local irreducible] lt WD WN Code.wp Back bodyPost wpList FR WL WC WQ WA AW Tr Yc HC AllC
set_option maxRecDepth 20000
set_option maxHeartbeats 4000000
def xP (S:Mem) (b:List Value) (n:Int) (vm:Int) (atx:Int) (Q:List Value→Int→Mem→Prop):Prop:=
 b.length=96 ∧
 qC S b n fun t t_1 Sx=>
 t.all (·.oneCell')=true ∧
 jn (fun (v:List Value) (Sx_1:Mem)=>
 v.length=96 ∧
 0≤n∧n<16 ∧
 (spl b (0+n.toNat*6+5) ([.int .i64 atx])).all (·.oneCell')=true ∧
 Q (spl b (0+n.toNat*6+5) ([.int .i64 atx])) 0 Sx_1) fun Jx=>
 if t_1≠0 then
 b.all (·.oneCell')=true ∧
 Q b t_1 Sx
 else
 gI (nthL t 3) .i64 fun t_2=>
 if t_2≠vm then
 b.all (·.oneCell')=true ∧
 Q b 7 Sx
 else
 gI (nthL t 5) .i64 fun t_3=>
 if 0≤t_3 then
 b.all (·.oneCell')=true ∧
 Q b 8 Sx
 else
 kQ Sx vm atx fun t_4 Sx_2=>
 if t_4=true then
 Jx z53 Sx_2
 else
 b.all (·.oneCell')=true ∧
 Q b 1 Sx_2
theorem zbe {S:Mem} {b:List Value} {n:Int} {vm:Int} {atx:Int} {Q:List Value→Int→Mem→Prop} (H:xP S b n vm atx Q):va S b n vm atx Q:=by
 unfold xP at H
 exact Tr.intro func236 E ntmps236 E fun w0=>an H fun hb H1=>csr<|jM E E E fun b_1=>by refine zX E fun b_2=>?_;exact gv E E<|nxr<|by refine s_v E (qk E hb) (zD (k:=96) 0 E (ze hb)) ?_;exact mv E E<|qz E E H1 fun rv Sx H2=>by obtain⟨t,t_1,rfl,ht,H3⟩:=H2;exact mv E E<|s_p E (zk E E)<|s_p E (zk E E)<|by refine zX E fun b_3=>?_;exact an H3 fun c H4=>zn 2 E E E E E ht E c<|gv E E<|nx<|zy H4 (fun (J:List Value→Mem→Prop) (z:List Value) S=>J z S) (fun z=>⟨45,[(1,.int .i64 n),(3,.int .i64 atx),(4,.pointer (some ⟨b_1,0,none⟩)),(8,.pointer (some ⟨b_2,0,none⟩))]⟩) (fun z=>[⟨b_1,53,b⟩,⟨b_2,53,z⟩]) (fun v Sx_1 H5=>an H5 fun hv H6=>csr<|mv E E<|mv E E<|an2 H6 fun c_1 c_2 H7=>s_p E (wO E E c_1 c_2 E)<|s_p E (zA E E)<|wX (sz:=1) (vs:=[.int .i64 atx]) 0 E E E E E E (wR hb (by omega)) E<|nxr<|by refine s_v E (qk E (qn hb (by have:=True.intro;(try simp only[List.length_cons,List.length_nil]);omega))) (zD (k:=96) 0 E (ze (qn hb (by have:=True.intro;(try simp only[List.length_cons,List.length_nil]);omega)))) ?_;exact an H7 fun c_3 H8=>zn 1 E E E E E (qn hb (by have:=True.intro;(try simp only[List.length_cons,List.length_nil]);omega)) hv c_3<|gv E E<|nx<|zu<|zt results236 (zv E (zD (k:=96) 1 E (ze (qn hb (by have:=True.intro;(try simp only[List.length_cons,List.length_nil]);omega)))) (qn hb (by have:=True.intro;(try simp only[List.length_cons,List.length_nil]);omega)) (zf E zi)) ⟨_,_,E,qn hb (by have:=True.intro;(try simp only[List.length_cons,List.length_nil]);omega),H8⟩) (fun Jx hJx H9=>zK<|csr<|mv E E<|iteK H9 (fun c_4 H10=>s_p E (yT (qt E E) c_4)<|gv E E<|nx<|c_t E E<|csr<|by refine s_v E (qk E hb) (zD (k:=96) 0 E (ze hb)) ?_;exact mv E E<|an H10 fun c_5 H11=>zn 1 E E E E E hb xj c_5<|gv E E<|nx<|zu<|zo<|zd<|zt results236 (zv E (zD (k:=96) 1 E (ze hb)) hb (zf E zi)) ⟨_,_,E,hb,H11⟩) fun c_4 H10=>s_p E (yF (qt E E) c_4)<|gv E E<|nx<|c_f E E<|csr<|s_p E (zA E E)<|gx H10 fun t_2 ht_2 H12=>s_v E (zG E) (zR 2 E ht_2)<|mv E E<|iteK H12 (fun c_6 H13=>s_p E (yT (qt E E) c_6)<|gv E E<|nx<|c_t E E<|csr<|by refine s_v E (qk E hb) (zD (k:=96) 0 E (ze hb)) ?_;exact an H13 fun c_7 H14=>zn 1 E E E E E hb xj c_7<|gv E E<|nx<|zu<|zo<|zd<|zt results236 (zv E (zD (k:=96) 1 E (ze hb)) hb (zf E zi)) ⟨_,_,E,hb,H14⟩) fun c_6 H13=>s_p E (yF (qt E E) c_6)<|gv E E<|nx<|c_f E E<|csr<|s_p E (zA E E)<|gx H13 fun t_3 ht_3 H15=>s_v E (zG E) (zR 2 E ht_3)<|iteK H15 (fun c_8 H16=>s_p E (yT (wT E E) c_8)<|gv E E<|nx<|c_t E E<|csr<|by refine s_v E (qk E hb) (zD (k:=96) 0 E (ze hb)) ?_;exact an H16 fun c_9 H17=>zn 1 E E E E E hb xj c_9<|gv E E<|nx<|zu<|zo<|zd<|zt results236 (zv E (zD (k:=96) 1 E (ze hb)) hb (zf E zi)) ⟨_,_,E,hb,H17⟩) fun c_8 H16=>s_p E (yF (wT E E) c_8)<|gv E E<|nx<|c_f E E<|csr<|mv E E<|mv E E<|kq E E H16 fun t_4 Sx_2 H18=>by have H19:=zfs H18;rcases H19 with ⟨rfl,H20⟩ | ⟨rfl,H20⟩;exact (s_p E (yB (ym E) E)<|gv E E<|nx<|cfs E E<|qr<|hJx z53 _ _ _ _ [0,0] H20 E ⟨E,E,E,E,True.intro⟩ E);exact (s_p E (yB (ym E) E)<|gv E E<|nx<|c_t E E<|csr<|by refine s_v E (qk E hb) (zD (k:=96) 0 E (ze hb)) ?_;exact an H20 fun c_10 H21=>zn 1 E E E E E hb xj c_10<|gv E E<|nx<|zu<|zo<|zd<|zt results236 (zv E (zD (k:=96) 1 E (ze hb)) hb (zf E zi)) ⟨_,_,E,hb,H21⟩))
def jf (S:Mem) (b:List Value) (vm:Int) (page:Int) (Q:Int→Mem→Prop):Prop:=
 b.length=96 ∧
 jn (fun (Sx:Mem)=>
 Q (-1) Sx) fun Jx=>
 lp (fun Xx (t:Int) (Sx_1:Mem)=>
 if t<16 then
 0≤t∧t<16 ∧
 gA (lpart b (t.toNat*6) 6) fun t_1=>
 t_1.all (·.oneCell')=true ∧
 gB (nthL t_1 0) fun t_2=>
 if t_2=true then
 gI (nthL t_1 3) .i64 fun t_3=>
 if t_3=vm then
 gI (nthL t_1 5) .i64 fun t_4=>
 if t_4=page then
 if 0≤page then
 Q t Sx_1
 else
 Xx (IntKind.i64.wrap (t+1)) Sx_1
 else
 Xx (IntKind.i64.wrap (t+1)) Sx_1
 else
 Xx (IntKind.i64.wrap (t+1)) Sx_1
 else
 Xx (IntKind.i64.wrap (t+1)) Sx_1
 else
 Jx Sx_1) 0 S
theorem zet {S:Mem} {b:List Value} {vm:Int} {page:Int} {Q:Int→Mem→Prop} (H:jf S b vm page Q):wh S b vm page Q:=by
 unfold jf at H
 have:=dj1 8 []
 have:=dj0 (α:=Int) 3 [1,2,9] (fun z=>[(10,.int .i64 z)])
 exact Tr.intro func184 E ntmps184 E fun w0=>go results184 H
def vT (S:Mem) (b:List Value) (n:Int) (Q:List Value→Int→Mem→Prop):Prop:=
 b.length=96 ∧
 jn (fun (v:List Value) (Sx:Mem)=>
 v.length=6 ∧
 0≤n∧n<16 ∧
 gA (lpart b (0+n.toNat*6) 6) fun a=>
 a.all (·.oneCell')=true ∧
 Q a 0 Sx) fun Jx=>
 if n<0 then
 Q ([.bool false,.int .i64 0,.int .i64 0,.int .i64 0,.bool false,.int .i64 0]) 2 S
 else
 if 16≤n then
 Q ([.bool false,.int .i64 0,.int .i64 0,.int .i64 0,.bool false,.int .i64 0]) 2 S
 else
 0≤n∧n<16 ∧
 gB (nthL b (0+n.toNat*6)) fun t=>
 if t=true then
 Jx ([.bool false,.int .i64 0,.int .i64 0,.int .i64 0,.bool false,.int .i64 0]) S
 else
 Q ([.bool false,.int .i64 0,.int .i64 0,.int .i64 0,.bool false,.int .i64 0]) 2 S
theorem zdN {S:Mem} {b:List Value} {n:Int} {Q:List Value→Int→Mem→Prop} (H:vT S b n Q):qC S b n Q:=by
 unfold vT at H
 have:=dj (α:=List Value×Unit) 4 [1,2,4] (fun _=>[]) (fun z=>[(0,none),(1,some z.1)])
 exact Tr.intro func150 E ntmps150 E fun w0=>go results150 H
def wB (S:Mem) (b:List Value) (n:Int) (vm:Int) (Q:List Value→Int→Mem→Prop):Prop:=
 b.length=96 ∧
 qC S b n fun t t_1 Sx=>
 t.all (·.oneCell')=true ∧
 jn (fun (v:List Value) (Sx_1:Mem)=>
 v.length=96 ∧
 0≤n∧n<16 ∧
 (spl b (0+n.toNat*6+5) ([.int .i64 (-1)])).all (·.oneCell')=true ∧
 Q (spl b (0+n.toNat*6+5) ([.int .i64 (-1)])) 0 Sx_1) fun Jx=>
 if t_1≠0 then
 b.all (·.oneCell')=true ∧
 Q b t_1 Sx
 else
 gI (nthL t 3) .i64 fun t_2=>
 if t_2≠vm then
 b.all (·.oneCell')=true ∧
 Q b 7 Sx
 else
 gI (nthL t 5) .i64 fun t_3=>
 if t_3<0 then
 b.all (·.oneCell')=true ∧
 Q b 10 Sx
 else
 Jx z53 Sx
theorem zbV {S:Mem} {b:List Value} {n:Int} {vm:Int} {Q:List Value→Int→Mem→Prop} (H:wB S b n vm Q):xE S b n vm Q:=by
 unfold wB at H
 exact Tr.intro func237 E ntmps237 E fun w0=>an H fun hb H1=>csr<|jM E E E fun b_1=>by refine zX E fun b_2=>?_;exact gv E E<|nxr<|by refine s_v E (qk E hb) (zD (k:=96) 0 E (ze hb)) ?_;exact mv E E<|qz E E H1 fun rv Sx H2=>by obtain⟨t,t_1,rfl,ht,H3⟩:=H2;exact mv E E<|s_p E (zk E E)<|s_p E (zk E E)<|by refine zX E fun b_3=>?_;exact an H3 fun c H4=>zn 2 E E E E E ht E c<|gv E E<|nx<|zy H4 (fun (J:List Value→Mem→Prop) (z:List Value) S=>J z S) (fun z=>⟨36,[(1,.int .i64 n),(3,.pointer (some ⟨b_1,0,none⟩)),(6,.pointer (some ⟨b_2,0,none⟩))]⟩) (fun z=>[⟨b_1,53,b⟩,⟨b_2,53,z⟩]) (fun v Sx_1 H5=>an H5 fun hv H6=>csr<|mv E E<|an2 H6 fun c_1 c_2 H7=>s_p E (wO E E c_1 c_2 E)<|s_p E (zA E E)<|wX (sz:=1) (vs:=[.int .i64 (-1)]) 0 E E E E E E (wR hb (by omega)) E<|nxr<|by refine s_v E (qk E (qn hb (by have:=True.intro;(try simp only[List.length_cons,List.length_nil]);omega))) (zD (k:=96) 0 E (ze (qn hb (by have:=True.intro;(try simp only[List.length_cons,List.length_nil]);omega)))) ?_;exact an H7 fun c_3 H8=>zn 1 E E E E E (qn hb (by have:=True.intro;(try simp only[List.length_cons,List.length_nil]);omega)) hv c_3<|gv E E<|nx<|zu<|zt results237 (zv E (zD (k:=96) 1 E (ze (qn hb (by have:=True.intro;(try simp only[List.length_cons,List.length_nil]);omega)))) (qn hb (by have:=True.intro;(try simp only[List.length_cons,List.length_nil]);omega)) (zf E zi)) ⟨_,_,E,qn hb (by have:=True.intro;(try simp only[List.length_cons,List.length_nil]);omega),H8⟩) (fun Jx hJx H9=>zK<|csr<|mv E E<|iteK H9 (fun c_4 H10=>s_p E (yT (qt E E) c_4)<|gv E E<|nx<|c_t E E<|csr<|by refine s_v E (qk E hb) (zD (k:=96) 0 E (ze hb)) ?_;exact mv E E<|an H10 fun c_5 H11=>zn 1 E E E E E hb xj c_5<|gv E E<|nx<|zu<|zo<|zd<|zt results237 (zv E (zD (k:=96) 1 E (ze hb)) hb (zf E zi)) ⟨_,_,E,hb,H11⟩) fun c_4 H10=>s_p E (yF (qt E E) c_4)<|gv E E<|nx<|c_f E E<|csr<|s_p E (zA E E)<|gx H10 fun t_2 ht_2 H12=>s_v E (zG E) (zR 2 E ht_2)<|mv E E<|iteK H12 (fun c_6 H13=>s_p E (yT (qt E E) c_6)<|gv E E<|nx<|c_t E E<|csr<|by refine s_v E (qk E hb) (zD (k:=96) 0 E (ze hb)) ?_;exact an H13 fun c_7 H14=>zn 1 E E E E E hb xj c_7<|gv E E<|nx<|zu<|zo<|zd<|zt results237 (zv E (zD (k:=96) 1 E (ze hb)) hb (zf E zi)) ⟨_,_,E,hb,H14⟩) fun c_6 H13=>s_p E (yF (qt E E) c_6)<|gv E E<|nx<|c_f E E<|csr<|s_p E (zA E E)<|gx H13 fun t_3 ht_3 H15=>s_v E (zG E) (zR 2 E ht_3)<|iteK H15 (fun c_8 H16=>s_p E (yT (qq E E) c_8)<|gv E E<|nx<|c_t E E<|csr<|by refine s_v E (qk E hb) (zD (k:=96) 0 E (ze hb)) ?_;exact an H16 fun c_9 H17=>zn 1 E E E E E hb xj c_9<|gv E E<|nx<|zu<|zo<|zd<|zt results237 (zv E (zD (k:=96) 1 E (ze hb)) hb (zf E zi)) ⟨_,_,E,hb,H17⟩) fun c_8 H16=>s_p E (yF (qq E E) c_8)<|gv E E<|nx<|cfs E E<|qr<|hJx z53 _ _ _ _ [0,0] H16 E ⟨E,E,E,True.intro⟩ E)
def vk (S:Mem) (b:List Value) (vm:Int) (page:Int) (Q:Bool→Mem→Prop):Prop:=
 b.length=96 ∧
 jn (fun (Sx:Mem)=>
 Q false Sx) fun Jx=>
 lp (fun Xx (t:Int) (Sx_1:Mem)=>
 if t<16 then
 0≤t∧t<16 ∧
 gA (lpart b (t.toNat*6) 6) fun t_1=>
 t_1.all (·.oneCell')=true ∧
 gB (nthL t_1 0) fun t_2=>
 if t_2=true then
 gI (nthL t_1 1) .i64 fun t_3=>
 if t_3=vm then
 gI (nthL t_1 2) .i64 fun t_4=>
 if t_4=page then
 Q true Sx_1
 else
 Xx (IntKind.i64.wrap (t+1)) Sx_1
 else
 Xx (IntKind.i64.wrap (t+1)) Sx_1
 else
 Xx (IntKind.i64.wrap (t+1)) Sx_1
 else
 Jx Sx_1) 0 S
theorem zcD {S:Mem} {b:List Value} {vm:Int} {page:Int} {Q:Bool→Mem→Prop} (H:vk S b vm page Q):kR S b vm page Q:=by
 unfold vk at H
 have:=dj1 8 []
 have:=dj0 (α:=Int) 3 [1,2,9] (fun z=>[(10,.int .i64 z)])
 exact Tr.intro func239 E ntmps239 E fun w0=>go results239 H
def wA (S:Mem) (b:List Value) (fromx:Int) (page:Int) (to:Int) (write:Bool) (Q:List Value→Int→Int→Mem→Prop):Prop:=
 b.length=96 ∧
 jn (fun (v:List Value) (Sx:Mem)=>
 v.length=96 ∧
 jn (fun (b_3:List Value) (v_1:List Value) (Sx_1:Mem)=>
 b_3.length=96 ∧
 v_1.length=96 ∧
 b_3.all (·.oneCell')=true ∧
 Q b_3 0 3 Sx_1) fun Jx=>
 lp (fun Xx (z:Int×List Value×List Value) (Sx_2:Mem)=>
 match z with
 | (t,b_4,v_2)=>
 b_4.length=96 ∧
 v_2.length=96 ∧
 if t<16 then
 0≤t∧t<16 ∧
 gA (lpart b (t.toNat*6) 6) fun t_1=>
 t_1.all (·.oneCell')=true ∧
 gB (nthL t_1 0) fun t_2=>
 if t_2=true then
 Xx (IntKind.i64.wrap (t+1),b_4,v_2) Sx_2
 else
 0≤t∧t<16 ∧
 (spl b_4 (0+t.toNat*6) ([.bool true,.int .i64 fromx,.int .i64 page,.int .i64 to,.bool write,.int .i64 (-1)])).all (·.oneCell')=true ∧
 Q (spl b_4 (0+t.toNat*6) ([.bool true,.int .i64 fromx,.int .i64 page,.int .i64 to,.bool write,.int .i64 (-1)])) t 0 Sx_2
 else
 Jx b_4 v_2 Sx_2) (0,b,v) Sx) fun Jx_1=>
 kQ S fromx page fun t_3 Sx_3=>
 if t_3=true then
 kQ Sx_3 to 0 fun t_4 Sx_4=>
 if t_4=true then
 if fromx=to then
 b.all (·.oneCell')=true ∧
 Q b 0 1 Sx_4
 else
 Jx_1 z53 Sx_4
 else
 b.all (·.oneCell')=true ∧
 Q b 0 1 Sx_4
 else
 b.all (·.oneCell')=true ∧
 Q b 0 1 Sx_3
theorem zbU {S:Mem} {b:List Value} {fromx:Int} {page:Int} {to:Int} {write:Bool} {Q:List Value→Int→Int→Mem→Prop} (H:wA S b fromx page to write Q):vG S b fromx page to write Q:=by
 unfold wA at H
 exact Tr.intro func234 E ntmps234 E fun w0=>an H fun hb H1=>csr<|jM E E E fun b_1=>by refine zX E fun b_2=>?_;exact gv E E<|gv E E<|nx<|zy H1 (fun (J:List Value→Mem→Prop) (z:List Value) S=>J z S) (fun z=>⟨49,[(1,.int .i64 fromx),(2,.int .i64 page),(3,.int .i64 to),(4,.bool write),(5,.pointer (some ⟨b_1,0,none⟩)),(10,.pointer (some ⟨b_2,0,none⟩))]⟩) (fun z=>[⟨b_1,53,b⟩,⟨b_2,53,z⟩]) (fun v Sx H2=>an H2 fun hv H3=>zy H3 (fun (J:List Value→List Value→Mem→Prop) (z:List Value×List Value) S=>J z.1 z.2 S) (fun z=>⟨49,[(5,.pointer (some ⟨b_1,0,none⟩)),(10,.pointer (some ⟨b_2,0,none⟩))]⟩) (fun z=>[⟨b_1,53,z.1⟩,⟨b_2,53,z.2⟩]) (by rintro⟨b_3,v_1⟩ Sx_1 H4;exact an H4 fun hb_3 H5=>an H5 fun hv_1 H6=>csr<|by refine s_v E (qk E hb_3) (zD (k:=96) 0 E (ze hb_3)) ?_;exact an H6 fun c H7=>zn 1 E E E E E hb_3 hv_1 c<|gv E E<|gv E E<|nx<|zu<|zt results234 (zv E (zD (k:=96) 1 E (ze hb_3)) hb_3 (zf E (zf E zi))) ⟨_,_,_,E,hb_3,H7⟩) (fun Jx hJx H8=>csr<|by refine s_v E (qk E hb) (zD (k:=96) 0 E (ze hb)) ?_;exact mv E E<|nx<|zK<|xC (fun z=>⟨49,[(1,.int .i64 fromx),(2,.int .i64 page),(3,.int .i64 to),(4,.bool write),(5,.pointer (some ⟨b_1,0,none⟩)),(10,.pointer (some ⟨b_2,0,none⟩)),(30,valL b),(31,.int .i64 z.1)]⟩) (fun z=>[⟨b_1,53,z.2.1⟩,⟨b_2,53,z.2.2⟩]) (0,b,v) (idx:=[0,0]) H8 E ⟨E,E,E,E,E,E,E,E,True.intro⟩ E<|by rintro Xx hXx ⟨t,b_4,v_2⟩ Sx_2 H9;exact an H9 fun hb_4 H10=>an H10 fun hv_2 H11=>csr<|iteK H11 (fun c_1 H12=>s_p E (yT (qq E E) c_1)<|nx<|qb<|c_t E E<|yV<|zB<|qb<|zK<|csr<|mv E E<|an2 H12 fun c_2 c_3 H13=>gx H13 fun t_1 ht_1 H14=>s_p E (zkY E E c_2 c_3 ht_1)<|by refine zX E fun b_5=>?_;exact gv E E<|an H14 fun c_4 H15=>zn 2 E E E E E ((qE ht_1).2.2) E c_4<|nxr<|s_p E (zA E E)<|gx H15 fun t_2 ht_2 H16=>by have H17:=zfs H16;rcases H17 with ⟨rfl,H18⟩ | ⟨rfl,H18⟩;exact (s_v E (zG E) (zR 2 E ht_2)<|s_p E (yB (ym E) E)<|nx<|cfs E E<|qr<|zB<|zE<|s_p E (qZ E E)<|mv E E<|zr<|hXx (IntKind.i64.wrap (t+1),b_4,v_2) _ _ _ _ [0,0] H18 E ⟨E,E,E,E,E,E,E,E,True.intro⟩ E);exact (s_v E (zG E) (zR 2 E ht_2)<|s_p E (yB (ym E) E)<|nx<|c_t E E<|csr<|mv E E<|mv E E<|mv E E<|mv E E<|mv E E<|s_p E (ql E E)<|by exact an2 H18 fun c_5 c_6 H19=>s_p E (wO E E c_5 c_6 E)<|wX (sz:=6) (vs:=[.bool true,.int .i64 fromx,.int .i64 page,.int .i64 to,.bool write,.int .i64 (-1)]) 0 E E E E E E (wR hb_4 (by omega)) E<|nxr<|by refine s_v E (qk E (qn hb_4 (by have:=True.intro;(try simp only[List.length_cons,List.length_nil]);omega))) (zD (k:=96) 0 E (ze (qn hb_4 (by have:=True.intro;(try simp only[List.length_cons,List.length_nil]);omega)))) ?_;exact mv E E<|an H19 fun c_7 H20=>zn 1 E E E E E (qn hb_4 (by have:=True.intro;(try simp only[List.length_cons,List.length_nil]);omega)) hv_2 c_7<|gv E E<|gv E E<|nx<|zu<|zo<|zd<|zd<|zo<|zd<|zt results234 (zv E (zD (k:=96) 1 E (ze (qn hb_4 (by have:=True.intro;(try simp only[List.length_cons,List.length_nil]);omega)))) (qn hb_4 (by have:=True.intro;(try simp only[List.length_cons,List.length_nil]);omega)) (zf E (zf E zi))) ⟨_,_,_,E,qn hb_4 (by have:=True.intro;(try simp only[List.length_cons,List.length_nil]);omega),H20⟩)) fun c_1 H12=>s_p E (yF (qq E E) c_1)<|nx<|qb<|c_f E E<|qY<|zm<|zm<|zV<|hJx (b_4,v_2) _ _ _ _ [0,0] H12 E ⟨E,E,True.intro⟩ E)) (fun Jx_1 hJx_1 H21=>csr<|mv E E<|mv E E<|kq E E H21 fun t_3 Sx_3 H22=>by have H23:=zfs H22;rcases H23 with ⟨rfl,H24⟩ | ⟨rfl,H24⟩;exact (s_p E (yB (ym E) E)<|mv E E<|mv E E<|kq E E H24 fun t_4 Sx_4 H25=>by have H26:=zfs H25;rcases H26 with ⟨rfl,H27⟩ | ⟨rfl,H27⟩;exact (s_p E (yB (ym E) E)<|pk E E E<|mv E E<|mv E E<|mv E E<|iteK H27 (fun c_8 H28=>ceT E E E (c_8)<|pk E E E<|nx<|c_t E E<|csr<|by refine s_v E (qk E hb) (zD (k:=96) 0 E (ze hb)) ?_;exact an H28 fun c_9 H29=>zn 1 E E E E E hb xj c_9<|gv E E<|gv E E<|nx<|zu<|zd<|zt results234 (zv E (zD (k:=96) 1 E (ze hb)) hb (zf E (zf E zi))) ⟨_,_,_,E,hb,H29⟩) fun c_8 H28=>ceF E E E (c_8)<|pk E E E<|nx<|cfs E E<|hJx_1 z53 _ _ _ _ [0,0] H28 E ⟨E,E,E,E,E,E,True.intro⟩ E);exact (s_p E (yB (ym E) E)<|pk E E E<|mv E E<|sk2 E E<|zF E<|pk E E E<|nx<|c_t E E<|csr<|by refine s_v E (qk E hb) (zD (k:=96) 0 E (ze hb)) ?_;exact an H27 fun c_10 H30=>zn 1 E E E E E hb xj c_10<|gv E E<|gv E E<|nx<|zu<|zd<|zt results234 (zv E (zD (k:=96) 1 E (ze hb)) hb (zf E (zf E zi))) ⟨_,_,_,E,hb,H30⟩));exact (s_p E (yB (ym E) E)<|mv E E<|sk2 E E<|zF E<|pk E E E<|mv E E<|sk2 E E<|zF E<|pk E E E<|nx<|c_t E E<|csr<|by refine s_v E (qk E hb) (zD (k:=96) 0 E (ze hb)) ?_;exact an H24 fun c_11 H31=>zn 1 E E E E E hb xj c_11<|gv E E<|gv E E<|nx<|zu<|zd<|zt results234 (zv E (zD (k:=96) 1 E (ze hb)) hb (zf E (zf E zi))) ⟨_,_,_,E,hb,H31⟩))
def yW (S:Mem) (b:List Value) (n:Int) (vm:Int) (Q:List Value→Int→Mem→Prop):Prop:=
 b.length=96 ∧
 qC S b n fun t t_1 Sx=>
 t.all (·.oneCell')=true ∧
 jn (fun (v:List Value) (Sx_1:Mem)=>
 v.length=96 ∧
 0≤n∧n<16 ∧
 (spl b (0+n.toNat*6) ([.bool false,.int .i64 0,.int .i64 0,.int .i64 0,.bool false,.int .i64 0])).all (·.oneCell')=true ∧
 Q (spl b (0+n.toNat*6) ([.bool false,.int .i64 0,.int .i64 0,.int .i64 0,.bool false,.int .i64 0])) 0 Sx_1) fun Jx=>
 if t_1≠0 then
 b.all (·.oneCell')=true ∧
 Q b t_1 Sx
 else
 gI (nthL t 1) .i64 fun t_2=>
 if t_2≠vm then
 b.all (·.oneCell')=true ∧
 Q b 7 Sx
 else
 gI (nthL t 5) .i64 fun t_3=>
 if 0≤t_3 then
 b.all (·.oneCell')=true ∧
 Q b 8 Sx
 else
 Jx z53 Sx
theorem fE {S:Mem} {b:List Value} {n:Int} {vm:Int} {Q:List Value→Int→Mem→Prop} (H:yW S b n vm Q):yq S b n vm Q:=by
 unfold yW at H
 exact Tr.intro func238 E ntmps238 E fun w0=>an H fun hb H1=>csr<|jM E E E fun b_1=>by refine zX E fun b_2=>?_;exact gv E E<|nxr<|by refine s_v E (qk E hb) (zD (k:=96) 0 E (ze hb)) ?_;exact mv E E<|qz E E H1 fun rv Sx H2=>by obtain⟨t,t_1,rfl,ht,H3⟩:=H2;exact mv E E<|s_p E (zk E E)<|s_p E (zk E E)<|by refine zX E fun b_3=>?_;exact an H3 fun c H4=>zn 2 E E E E E ht E c<|gv E E<|nx<|zy H4 (fun (J:List Value→Mem→Prop) (z:List Value) S=>J z S) (fun z=>⟨36,[(1,.int .i64 n),(3,.pointer (some ⟨b_1,0,none⟩)),(6,.pointer (some ⟨b_2,0,none⟩))]⟩) (fun z=>[⟨b_1,53,b⟩,⟨b_2,53,z⟩]) (fun v Sx_1 H5=>an H5 fun hv H6=>csr<|mv E E<|s_p E (ql E E)<|by exact an2 H6 fun c_1 c_2 H7=>s_p E (wO E E c_1 c_2 E)<|wX (sz:=6) (vs:=[.bool false,.int .i64 0,.int .i64 0,.int .i64 0,.bool false,.int .i64 0]) 0 E E E E E E (wR hb (by omega)) E<|nxr<|by refine s_v E (qk E (qn hb (by have:=True.intro;(try simp only[List.length_cons,List.length_nil]);omega))) (zD (k:=96) 0 E (ze (qn hb (by have:=True.intro;(try simp only[List.length_cons,List.length_nil]);omega)))) ?_;exact an H7 fun c_3 H8=>zn 1 E E E E E (qn hb (by have:=True.intro;(try simp only[List.length_cons,List.length_nil]);omega)) hv c_3<|gv E E<|nx<|zu<|zt results238 (zv E (zD (k:=96) 1 E (ze (qn hb (by have:=True.intro;(try simp only[List.length_cons,List.length_nil]);omega)))) (qn hb (by have:=True.intro;(try simp only[List.length_cons,List.length_nil]);omega)) (zf E zi)) ⟨_,_,E,qn hb (by have:=True.intro;(try simp only[List.length_cons,List.length_nil]);omega),H8⟩) (fun Jx hJx H9=>zK<|csr<|mv E E<|iteK H9 (fun c_4 H10=>s_p E (yT (qt E E) c_4)<|gv E E<|nx<|c_t E E<|csr<|by refine s_v E (qk E hb) (zD (k:=96) 0 E (ze hb)) ?_;exact mv E E<|an H10 fun c_5 H11=>zn 1 E E E E E hb xj c_5<|gv E E<|nx<|zu<|zo<|zd<|zt results238 (zv E (zD (k:=96) 1 E (ze hb)) hb (zf E zi)) ⟨_,_,E,hb,H11⟩) fun c_4 H10=>s_p E (yF (qt E E) c_4)<|gv E E<|nx<|c_f E E<|csr<|s_p E (zA E E)<|gx H10 fun t_2 ht_2 H12=>s_v E (zG E) (zR 2 E ht_2)<|mv E E<|iteK H12 (fun c_6 H13=>s_p E (yT (qt E E) c_6)<|gv E E<|nx<|c_t E E<|csr<|by refine s_v E (qk E hb) (zD (k:=96) 0 E (ze hb)) ?_;exact an H13 fun c_7 H14=>zn 1 E E E E E hb xj c_7<|gv E E<|nx<|zu<|zo<|zd<|zt results238 (zv E (zD (k:=96) 1 E (ze hb)) hb (zf E zi)) ⟨_,_,E,hb,H14⟩) fun c_6 H13=>s_p E (yF (qt E E) c_6)<|gv E E<|nx<|c_f E E<|csr<|s_p E (zA E E)<|gx H13 fun t_3 ht_3 H15=>s_v E (zG E) (zR 2 E ht_3)<|iteK H15 (fun c_8 H16=>s_p E (yT (wT E E) c_8)<|gv E E<|nx<|c_t E E<|csr<|by refine s_v E (qk E hb) (zD (k:=96) 0 E (ze hb)) ?_;exact an H16 fun c_9 H17=>zn 1 E E E E E hb xj c_9<|gv E E<|nx<|zu<|zo<|zd<|zt results238 (zv E (zD (k:=96) 1 E (ze hb)) hb (zf E zi)) ⟨_,_,E,hb,H17⟩) fun c_8 H16=>s_p E (yF (wT E E) c_8)<|gv E E<|nx<|cfs E E<|qr<|hJx z53 _ _ _ _ [0,0] H16 E ⟨E,E,E,True.intro⟩ E)
def gY (S:Mem) (vm:Int) (page:Int) (Q:Bool→Mem→Prop):Prop:=
 if 0≤vm then
 if vm<6 then
 if 0≤page then
 Q (decide (page<32)) S
 else
 Q false S
 else
 Q false S
 else
 Q false S
theorem zgn {S:Mem} {vm:Int} {page:Int} {Q:Bool→Mem→Prop} (H:gY S vm page Q):kQ S vm page Q:=by
 unfold gY at H
 exact Tr.intro func246 E ntmps246 E fun w0=>go results246 H
def vl (S:Mem) (b:List Value) (n:Int) (Q:List Value→Mem→Prop):Prop:=
 b.length=96 ∧
 if 0≤n then
 if n<16 then
 0≤n∧n<16 ∧
 (spl b (0+n.toNat*6) ([.bool false,.int .i64 0,.int .i64 0,.int .i64 0,.bool false,.int .i64 0])).all (·.oneCell')=true ∧
 Q (spl b (0+n.toNat*6) ([.bool false,.int .i64 0,.int .i64 0,.int .i64 0,.bool false,.int .i64 0])) S
 else
 b.all (·.oneCell')=true ∧
 Q b S
 else
 b.all (·.oneCell')=true ∧
 Q b S
theorem zcE {S:Mem} {b:List Value} {n:Int} {Q:List Value→Mem→Prop} (H:vl S b n Q):kS S b n Q:=by
 unfold vl at H
 exact Tr.intro func153 E ntmps153 E fun w0=>an H fun hb H1=>csr<|jM E E E fun b_1=>by refine zX E fun b_2=>?_;exact nx<|qb<|csr<|mv E E<|iteK H1 (fun c H2=>s_p E (yT (wT E E) c)<|mv E E<|mv E E<|iteK H2 (fun c_1 H3=>s_p E (yT (qq E E) c_1)<|pk E E E<|nx<|ctr E E<|mv E E<|s_p E (ql E E)<|by exact an2 H3 fun c_2 c_3 H4=>s_p E (wO E E c_2 c_3 E)<|wX (sz:=6) (vs:=[.bool false,.int .i64 0,.int .i64 0,.int .i64 0,.bool false,.int .i64 0]) 0 E E E E E E (wR hb (by omega)) E<|nxr<|by refine s_v E (qk E (qn hb (by have:=True.intro;(try simp only[List.length_cons,List.length_nil]);omega))) (zD (k:=96) 0 E (ze (qn hb (by have:=True.intro;(try simp only[List.length_cons,List.length_nil]);omega)))) ?_;exact an H4 fun c_4 H5=>zn 1 E E E E E (qn hb (by have:=True.intro;(try simp only[List.length_cons,List.length_nil]);omega)) xj c_4<|nx<|zu<|zt results153 (zv E (zD (k:=96) 1 E (ze (qn hb (by have:=True.intro;(try simp only[List.length_cons,List.length_nil]);omega)))) (qn hb (by have:=True.intro;(try simp only[List.length_cons,List.length_nil]);omega)) zi) ⟨_,E,qn hb (by have:=True.intro;(try simp only[List.length_cons,List.length_nil]);omega),H5⟩) fun c_1 H3=>s_p E (yF (qq E E) c_1)<|pk E E E<|nx<|cfs E E<|zB<|csr<|by refine s_v E (qk E hb) (zD (k:=96) 0 E (ze hb)) ?_;exact an H3 fun c_5 H6=>zn 1 E E E E E hb xj c_5<|nx<|zu<|zt results153 (zv E (zD (k:=96) 1 E (ze hb)) hb zi) ⟨_,E,hb,H6⟩) fun c H2=>s_p E (yF (wT E E) c)<|mv E E<|sk2 E E<|pk E E E<|nx<|cfs E E<|zB<|csr<|by refine s_v E (qk E hb) (zD (k:=96) 0 E (ze hb)) ?_;exact an H2 fun c_6 H7=>zn 1 E E E E E hb xj c_6<|nx<|zu<|zt results153 (zv E (zD (k:=96) 1 E (ze hb)) hb zi) ⟨_,E,hb,H7⟩
def je (S:Mem) (b:List Value) (vm:Int) (Q:Sl→Mem→Prop):Prop:=
 b.length=96 ∧
 jn (fun (out:Sl) (Sx:Mem)=>
 Q out Sx) fun Jx=>
 lp (fun Xx (z:Sl×Int) (Sx_1:Mem)=>
 match z with
 | (out_1,t)=>
 if t<16 then
 jn (fun (out_2:Sl) (Sx_2:Mem)=>
 Xx (out_2,IntKind.i64.wrap (t+1)) Sx_2) fun Jx_1=>
 0≤t∧t<16 ∧
 gA (lpart b (t.toNat*6) 6) fun t_1=>
 t_1.all (·.oneCell')=true ∧
 jn (fun (t_2:Bool) (Sx_3:Mem)=>
 if t_2=true then
 ap Sx_3 3 1 8 [.int .i64 0] out_1 1 ([.int .i64 t]) fun t_3 Sx_4=>
 Jx_1 t_3 Sx_4
 else
 Jx_1 out_1 Sx_3) fun Jx_2=>
 gB (nthL t_1 0) fun t_4=>
 if t_4=true then
 gI (nthL t_1 1) .i64 fun t_5=>
 if t_5=vm then
 Jx_2 true Sx_1
 else
 gI (nthL t_1 3) .i64 fun t_6=>
 if t_6=vm then
 Jx_2 true Sx_1
 else
 Jx_2 false Sx_1
 else
 Jx_2 false Sx_1
 else
 Jx out_1 Sx_1) (⟨none,0,0⟩,0) S
theorem zes {S:Mem} {b:List Value} {vm:Int} {Q:Sl→Mem→Prop} (H:je S b vm Q):gF S b vm Q:=by
 unfold je at H
 have:=dj0 (α:=Sl×Unit) 9 [] (fun z=>[(5,eL z.1)])
 have:=dj0 (α:=Sl×Int) 4 [1,8] (fun z=>[(5,eL z.1),(9,.int .i64 z.2)])
 have:=dj0 (α:=Sl×Unit) 8 [1,8,9] (fun z=>[(5,eL z.1)])
 have:=dj0 (α:=Bool×Unit) 7 [1,5,6,8,9] (fun z=>[(26,.bool z.1)])
 exact Tr.intro func99 E ntmps99 E fun w0=>go results99 H
end
end Go.Proofs.YthaiblbnpcgjpaaGreatDoor
