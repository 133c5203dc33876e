/- Texts of this work,joined by program (pack.py). -/
import Derived.Test.YtabdpmnhjlmnlaaGreatDoorQBJ
import Derived.Test.YtabdpmnhjlmnlaaGreatDoorQBI
import Derived.Test.YtabdpmnhjlmnlaaGreatDoorQBH
import Derived.Test.YtabdpmnhjlmnlaaGreatDoorQBF
import Derived.Test.YtabdpmnhjlmnlaaGreatDoorQBE
import Derived.Test.YtabdpmnhjlmnlaaGreatDoorQBC
import Derived.Test.YtabdpmnhjlmnlaaGreatDoorQBD
set_option linter.unusedVariables false
section
namespace Go.Cr
open Go Go.Pt
def shC (own:Nat→Ow) (f:Nat) (n:Int):Nat→Ow:=if (own f).kind=3∧(own f).vm=n then upd own f { own f with sh:=(own f).sh+1 } else own
def unshC (own:Nat→Ow) (f:Nat) (n:Int):Nat→Ow:=if (own f).kind=3∧(own f).vm=n∧(own f).sh≠0 then upd own f { own f with sh:=(own f).sh-1 } else own
def recC (own:Nat→Ow) (f:Nat) (n:Int):Nat→Ow:=if (own f).kind=3∧(own f).vm=n∧(own f).sh≤0 then upd own f ow0 else own
def relC (own:Nat→Ow) (f:Nat):Nat→Ow:=if (own f).kind=3∨(own f).kind=0 then own else upd own f ow0
theorem zqt {own:Nat→Ow} {N f:Nat} (hf:f<N) {o:Ow} {j:Nat} {vs:List Value} (hj:j+vs.length≤4) (he:spl (owL (own f)) j vs=owL o):spl (cF N fun g=>owL (own g)) (f*4+j) vs=cF N fun g=>owL (upd own f o g):=by
 rw[zfA (w:=4) (fun _ _=>rfl) hf hj,he]
 refine yn fun g _=>?_
 by_cases e:g=f
 ·subst e;simp only[zi]
 ·simp only[zk e]
theorem zdJ {own:Nat→Ow} {N f j:Nat} (hf:f<N) (hj:j<4):nthL (cF N fun g=>owL (own g)) (f*4+j)=nthL (owL (own f)) j:=zdL (w:=4) (fun _ _=>rfl) hf hj
theorem zoD {own:Nat→Ow} {N f:Nat} (hf:f<N):lpart (cF N fun g=>owL (own g)) (f*4) 4=some (owL (own f)):=by
 have:=zhf (w:=4) (k:=0) (m:=4) (n:=N) (f:=fun g=>owL (own g)) (fun _ _=>rfl) hf (by decide)
 rw[Nat.add_zero] at this
 rw[this];rfl
end Go.Cr
namespace Go.Proofs.YtabdpmnhjlmnlaaGreatDoor
open Go Go.Pt Go.Cr
section
variable {S:Mem} {ρ:Rho} {ob N:Nat} {own:Nat→Ow}
theorem zgK (h:OwnP S ρ ob N own) {f:Nat} (hf:f<N) {Q:Pt→Int→Mem→Prop} (hQ:∀ rs rb,Pc S ρ 8 ob [eL rs]→Rw S ρ 9 4 rs (cF N fun f=>owL (own f))→rs.p=some (rb,0)→Q (some (rb,0+f*4)) 0 S):wA S (some (ob,0)) f Q:=by
 obtain⟨rs,h1,h2⟩:=h.ex
 have hn:=h2.n (by decide) jd
 obtain⟨rb,e1,e2⟩:=h2.sl (by rw[jd];omega)
 have hc:S.cell ob 0=some (eL rs):=h1.cell 0 (by simp) rfl
 apply zdY
 unfold kD
 simp only[jn]
 rw[if_neg (by simp),if_neg (by omega),zV,wc hc,if_neg (by omega),zV,wc hc,e1,jH]
 refine⟨by omega,by omega,?_⟩
 rw[Int.toNat_natCast]
 exact hQ rs rb h1 h2 e2
theorem wrow {rs:Sl} {rb f j n x:Nat} {vs:List Value} {o:Ow} (h1:Pc S ρ 8 ob [eL rs]) (h2:Rw S ρ 9 4 rs (cF N fun f=>owL (own f))) (hb:rs.p=some (rb,0)) (hg:∀ b r,ρ b=some r→S b≠none) (hf:f<N) (hn:n=vs.length) (hj:j+vs.length≤4) (hx:x=f*4+j) (he:spl (owL (own f)) j vs=owL o) {K:Mem→Prop}
  (hK:∀ S',Mv S ρ S' ρ (· = 9)→Pc S' ρ 8 ob [eL rs]→Rw S' ρ 9 4 rs (cF N fun g=>owL (upd own f o g))→K S'):pt S rb x n vs K:=
 h2.pt hg hb (f*4+j) hn (by rw[jd];omega) hx fun S' m h3=>hK S' m (h1.keep m (by decide)) (by rw[zqt hf hj he] at h3;exact h3)
theorem zon {n p:Nat} (hn:n<6) (hp:p<32) {Q:Bool→Mem→Prop} (hQ:Q true S):zgN S n p Q:=by
 apply zjU
 unfold zdB
 rw[if_pos (by omega),if_pos (by omega),if_pos (by omega),decide_eq_true (by omega)]
 exact hQ
theorem ziT (h:OwnP S ρ ob N own) (hg:∀ b r,ρ b=some r→S b≠none) {f n p:Nat} (hf:f<N) (hn:n<6) (hp:p<32) {Q:Int→Mem→Prop} (hQ:∀ e S',Mv S ρ S' ρ (· = 9)→OwnP S' ρ ob N (donC own f n p)→Q e S'):vA S (some (ob,0)) f n p Q:=by
 apply zbx
 unfold wI
 refine zgK h hf fun rs rb h1 h2 hb=>?_
 simp only[jn]
 rw[if_neg (by decide)]
 refine zon hn hp ?_
 rw[if_pos rfl,zV,zB (by rw[h2.cell hb (f*4) (by rw[jd];omega) (by omega)];exact zdJ (j:=0) hf (by decide))]
 unfold donC at hQ
 by_cases hk:(own f).kind=0
 ·rw[if_pos hk] at hQ
  rw[if_neg (fun h=>h hk),zV]
  exact wrow (j:=0) h1 h2 hb hg hf (by rfl) (by simp) (by omega) (by rfl) fun S' m h3 h4=>hQ _ S' m ⟨rs,h3,h4⟩
 ·rw[if_neg hk] at hQ
  rw[if_pos hk]
  exact hQ _ S (Mv.refl hg) ⟨rs,h1,h2⟩
theorem zgk (h:OwnP S ρ ob N own) (hg:∀ b r,ρ b=some r→S b≠none) {f:Nat} {n:Int} (hf:f<N) (hn:n<6) {Q:Int→Mem→Prop} (hQ:∀ e S',Mv S ρ S' ρ (· = 9)→OwnP S' ρ ob N (keepC own f n)→Q e S'):yr S (some (ob,0)) f n Q:=by
 apply zcT
 unfold vK
 refine zgK h hf fun rs rb h1 h2 hb=>?_
 simp only[jn]
 rw[if_neg (by decide),if_neg (by omega),zV,zB (by rw[h2.cell hb (f*4) (by rw[jd];omega) (by omega)];exact zdJ (j:=0) hf (by decide))]
 unfold keepC at hQ
 by_cases hk:(own f).kind=0
 ·rw[if_pos hk] at hQ
  rw[if_neg (fun h=>h hk),zV]
  refine wrow (j:=0) (o:=⟨1,0,0,0⟩) h1 h2 hb hg hf (by rfl) (by simp) (by omega) (by rfl) fun S' m h3 h4=>?_
  by_cases h0:0≤n
  ·rw[if_pos h0] at hQ
   rw[if_pos h0]
   refine wrow (j:=0) (o:=⟨2,n,0,0⟩) (vs:=[.int .u8 2,.int .i64 n,.int .i64 0,.int .i64 0]) h3 h4 hb m.rg hf rfl (by simp) (by omega) rfl fun S2 m2 h5 h6=>hQ _ S2 (m.trans m2) ⟨rs,h5,?_⟩
   rw[gG] at h6;exact h6
  ·rw[if_neg h0] at hQ
   rw[if_neg h0]
   exact hQ _ S' m ⟨rs,h3,h4⟩
 ·rw[if_neg hk] at hQ
  rw[if_pos hk]
  exact hQ _ S (Mv.refl hg) ⟨rs,h1,h2⟩
theorem zdg (h:OwnP S ρ ob N own) {f:Nat} {n:Int} (hf:f<N) {Q:Pt→Int→Mem→Prop}
  (hY:(own f).kind=3→(own f).vm=n→∀ rs rb,Pc S ρ 8 ob [eL rs]→Rw S ρ 9 4 rs (cF N fun f=>owL (own f))→rs.p=some (rb,0)→Q (some (rb,0+f*4)) 0 S) (hN:¬((own f).kind=3∧(own f).vm=n)→Q none 7 S):xE S (some (ob,0)) f n Q:=by
 apply zcS
 unfold vJ
 refine zgK h hf fun rs rb h1 h2 hb=>?_
 simp only[jn]
 rw[if_neg (by decide),zV,zB (by rw[h2.cell hb (f*4) (by rw[jd];omega) (by omega)];exact zdJ (j:=0) hf (by decide))]
 by_cases hk:(own f).kind=3
 ·rw[if_neg (fun h=>h hk),zB (by rw[h2.cell hb (f*4+1) (by rw[jd];omega) (by omega)];exact zdJ (j:=1) hf (by decide))]
  by_cases hv:(own f).vm=n
  ·rw[if_neg (fun h=>h hv)];exact hY hk hv rs rb h1 h2 hb
  ·rw[if_pos hv];exact hN fun h=>hv h.2
 ·rw[if_pos hk];exact hN fun h=>hk h.1
theorem zka (h:OwnP S ρ ob N own) (hg:∀ b r,ρ b=some r→S b≠none) {f:Nat} {n:Int} (hf:f<N) (hb0:0≤(own f).sh∧(own f).sh≤1000000) {Q:Int→Mem→Prop} (hQ:∀ e S',Mv S ρ S' ρ (· = 9)→OwnP S' ρ ob N (shC own f n)→Q e S'):kg S (some (ob,0)) f n Q:=by
 apply zcg
 unfold vb
 unfold shC at hQ
 refine zdg h hf (fun hk hv rs rb h1 h2 hb=>?_) fun hn=>?_
 ·rw[if_pos ⟨hk,hv⟩] at hQ
  rw[if_pos rfl,zV,zB (by rw[h2.cell hb (f*4+3) (by rw[jd];omega) (by omega)];exact zdJ (j:=3) hf (by decide)),w64 (by omega) (by omega)]
  exact wrow (j:=3) (o:={ own f with sh:=(own f).sh+1 }) h1 h2 hb hg hf (by rfl) (by simp) (by omega) (by rfl) fun S' m h3 h4=>hQ _ S' m ⟨rs,h3,h4⟩
 ·rw[if_neg hn] at hQ
  rw[if_neg (by decide)]
  exact hQ _ S (Mv.refl hg) h
theorem zhk (h:OwnP S ρ ob N own) (hg:∀ b r,ρ b=some r→S b≠none) {f:Nat} {n:Int} (hf:f<N) (hb0:0≤(own f).sh∧(own f).sh≤1000000) {Q:Int→Mem→Prop} (hQ:∀ e S',Mv S ρ S' ρ (· = 9)→OwnP S' ρ ob N (unshC own f n)→((own f).kind=3∧(own f).vm=n∧(own f).sh≠0→e=0)→Q e S'):xx S (some (ob,0)) f n Q:=by
 apply zbe
 unfold wu
 unfold unshC at hQ
 refine zdg h hf (fun hk hv rs rb h1 h2 hb=>?_) fun hn=>?_
 ·simp only[jn]
  rw[if_neg (by decide),zV,zB (by rw[h2.cell hb (f*4+3) (by rw[jd];omega) (by omega)];exact zdJ (j:=3) hf (by decide))]
  by_cases hs:(own f).sh=0
  ·rw[if_neg (fun h=>h.2.2 hs)] at hQ
   rw[if_pos hs]
   exact hQ _ S (Mv.refl hg) ⟨rs,h1,h2⟩ fun h=>absurd hs h.2.2
  ·rw[if_pos ⟨hk,hv,hs⟩] at hQ
   rw[if_neg hs,zV,zB (by rw[h2.cell hb (f*4+3) (by rw[jd];omega) (by omega)];exact zdJ (j:=3) hf (by decide)),w64 (by omega) (by omega)]
   exact wrow (j:=3) (o:={ own f with sh:=(own f).sh-1 }) h1 h2 hb hg hf (by rfl) (by simp) (by omega) (by rfl) fun S' m h3 h4=>hQ _ S' m ⟨rs,h3,h4⟩ fun _=>rfl
 ·rw[if_neg (fun h=>hn ⟨h.1,h.2.1⟩)] at hQ
  simp only[jn]
  rw[if_pos (by decide)]
  exact hQ _ S (Mv.refl hg) h fun h=>absurd ⟨h.1,h.2.1⟩ hn
theorem zhH (h:OwnP S ρ ob N own) (hg:∀ b r,ρ b=some r→S b≠none) {f:Nat} {n:Int} (hf:f<N) {Q:Int→Mem→Prop} (hQ:∀ e S',Mv S ρ S' ρ (· = 9)→OwnP S' ρ ob N (recC own f n)→Q e S'):wR S (some (ob,0)) f n Q:=by
 apply zbf
 unfold wv
 unfold recC at hQ
 refine zdg h hf (fun hk hv rs rb h1 h2 hb=>?_) fun hn=>?_
 ·simp only[jn]
  rw[if_neg (by decide),zV,zB (by rw[h2.cell hb (f*4+3) (by rw[jd];omega) (by omega)];exact zdJ (j:=3) hf (by decide))]
  by_cases hs:0<(own f).sh
  ·rw[if_neg (fun h=>by omega)] at hQ
   rw[if_pos hs]
   exact hQ _ S (Mv.refl hg) ⟨rs,h1,h2⟩
  ·rw[if_pos ⟨hk,hv,by omega⟩] at hQ
   rw[if_neg hs,zV]
   exact wrow (j:=0) (o:=ow0) h1 h2 hb hg hf (by rfl) (by simp) (by omega) (by rfl) fun S' m h3 h4=>hQ _ S' m ⟨rs,h3,h4⟩
 ·rw[if_neg (fun h=>hn ⟨h.1,h.2.1⟩)] at hQ
  simp only[jn]
  rw[if_pos (by decide)]
  exact hQ _ S (Mv.refl hg) h
theorem zkJ (h:OwnP S ρ ob N own) (hN:N≤512) {kind n:Int} {Q:Int→Mem→Prop} (hQ:Q (count (fun f=>decide ((own f).kind=kind) && (decide (kind<2) || decide ((own f).vm=n))) N) S):ki S (some (ob,0)) kind n Q:=by
 obtain⟨rs,h1,h2⟩:=h.ex
 have hn:=h2.n (by decide) jd
 have hc:S.cell ob 0=some (eL rs):=h1.cell 0 (by simp) rfl
 apply zch
 unfold vc
 simp only[jn]
 rw[if_neg (by simp),zV,wc hc]
 refine zM (fun (z:Int×Int) S'=>∃ i:Nat,z=(((count (fun f=>decide ((own f).kind=kind) && (decide (kind<2) || decide ((own f).vm=n))) i:Nat):Int),(i:Int))∧i≤N∧S'=S) (fun z=>N-z.2.toNat) ?_ ⟨0,rfl,by omega,rfl⟩
 rintro X z S' ⟨i,rfl,hi,rfl⟩ ih
 dsimp only at ih ⊢
 have hcl:=fp (fun f=>decide ((own f).kind=kind) && (decide (kind<2) || decide ((own f).vm=n))) i
 by_cases hlt:(i:Int)<(rs.n:Int)
 ·obtain⟨rb,e1,e2⟩:=h2.sl (by rw[jd];omega)
  rw[if_pos hlt]
  rw[e1,jH]
  refine⟨by omega,by omega,?_⟩
  rw[Int.toNat_natCast,gD (by rw[h2.part e2 (i*4) (by rw[jd];omega) (by omega)];exact zoD (by omega))]
  refine⟨rfl,?_⟩
  rw[zB (show nthL (owL (own i)) 0=some (.int .u8 (own i).kind) from rfl),w64 (x:=(i:Int)+1) (by omega) (by omega),w64 (x:=(_:Int)+1) (by omega) (by omega)]
  have hs:=qW (fun f=>decide ((own f).kind=kind) && (decide (kind<2) || decide ((own f).vm=n))) i
  by_cases hk:(own i).kind=kind
  ·rw[if_pos hk]
   by_cases h2':kind<2
   ·rw[if_pos h2']
    refine ih _ S' ⟨i+1,?_,by omega,rfl⟩ (by dsimp only;omega)
    rw[hs];simp[hk,h2']
   ·rw[if_neg h2',zB (show nthL (owL (own i)) 1=some (.int .i64 (own i).vm) from rfl)]
    by_cases hv:(own i).vm=n
    ·rw[if_pos hv]
     refine ih _ S' ⟨i+1,?_,by omega,rfl⟩ (by dsimp only;omega)
     rw[hs];simp[hk,hv]
    ·rw[if_neg hv]
     refine ih _ S' ⟨i+1,?_,by omega,rfl⟩ (by dsimp only;omega)
     rw[hs];simp[hv,h2']
  ·rw[if_neg hk]
   refine ih _ S' ⟨i+1,?_,by omega,rfl⟩ (by dsimp only;omega)
   rw[hs];simp[hk]
 ·rw[if_neg hlt]
  have:i=N:=by omega
  subst this;exact hQ
end
end Go.Proofs.YtabdpmnhjlmnlaaGreatDoor
end
namespace Go.Proofs.YtabdpmnhjlmnlaaGreatDoor
section
open Go Go.Pt Go.Cr Go.Hp
structure AlmOf (l:List Hk.Al) (alm:Nat→Nat→Option Int):Prop where
 nd:l.Nodup
 of:∀ a∈l,0≤a.vm∧a.vm<6∧0≤a.seat∧a.seat<3∧alm a.vm.toNat a.seat.toNat=some a.tm
 to:∀ n k t,alm n k=some t→(⟨t,n,k⟩:Hk.Al)∈l
theorem AlmOf.eq {l:List Hk.Al} {alm:Nat→Nat→Option Int} (h:AlmOf l alm) {a b:Hk.Al} (ha:a∈l) (hb:b∈l) (e1:a.vm=b.vm) (e2:a.seat=b.seat):a=b:=by
 have h1:=(h.of a ha).2.2.2.2
 have h2:=(h.of b hb).2.2.2.2
 rw[e1,e2,h2] at h1
 obtain⟨t,v,s⟩:=a
 obtain⟨t',v',s'⟩:=b
 simp only at e1 e2 h1
 cases h1;subst e1;subst e2;rfl
theorem AlmOf.len {l:List Hk.Al} {alm:Nat→Nat→Option Int} (h:AlmOf l alm):l.length≤18:=by
 have hnd:(l.map fun a=>(3*a.vm+a.seat).toNat).Nodup:=by
  unfold List.Nodup
  rw[List.pairwise_map]
  have:=h.nd
  rw[List.Nodup,List.pairwise_iff_forall_sublist] at this
  rw[List.pairwise_iff_forall_sublist]
  intro a b hs he
  have ha:a∈l:=hs.subset (by simp)
  have hb:b∈l:=hs.subset (by simp)
  have h1:=h.of a ha
  have h2:=h.of b hb
  exact this hs (h.eq ha hb (by omega) (by omega))
 have:=hnd.length_le_of_subset (l₂:=List.range 18) fun x hx=>by
  obtain⟨a,ha,rfl⟩:=List.mem_map.1 hx
  have h1:=h.of a ha
  rw[List.mem_range];omega
 simpa using this
theorem AlmOf.perm {l l':List Hk.Al} {alm:Nat→Nat→Option Int} (h:AlmOf l alm) (p:l'.Perm l):AlmOf l' alm:=
 ⟨p.nodup_iff.2 h.nd,fun a ha=>h.of a (p.subset ha),fun n k t e=>p.symm.subset (h.to n k t e)⟩
structure ClkP (S:Mem) (ρ:Rho) (kb:Nat) (alm:Nat→Nat→Option Int):Prop where
 ex:∃ tb s l,Hk.Ck S kb 0 tb [eL s] s l∧(∀ x∈Hk.own s,ρ x=some 11)∧AlmOf l alm
 rol:ρ kb=some 10
structure VmP (S:Mem) (ρ:Rho) (i:Nat) (x:Vx) (v:Bv) (fr:List Nat):Prop where
 se:Rw S ρ (30+i) 26 x.ss (v.seats.flatMap Seat.L)
 r:∀ s∈v.seats,s.Ok
 fr:Rw S ρ (40+i) 1 x.fs (nL fr)
 ke:Rw S ρ (50+i) 1 x.ks (bL v.keys)
 di:∀ j,j<4→Rw S ρ (60+4*i+j) 1 (x.d j) (bL (v.disk j))
structure Ad where
 m:Nat
 p:Nat
 t:Nat
 ob:Nat
 kb:Nat
 cs:Sl
 gs:Sl
 es:Nat→Sl
 x:Nat→Vx
def hdL (A:Ad):List Value:=[eP (some (A.m,0)),eP (some (A.p,0)),eL A.cs,eP (some (A.t,0)),eL A.gs]++cF 6 fun i=>[eL (A.es i)]
structure CrabA (S:Mem) (ρ:Rho) (h:Nat) (A:Ad) (C:Cst):Prop where
 rg:∀ b r,ρ b=some r→S b≠none
 g0:ρ 0=none
 gl:Gl S
 hd:Pc S ρ 0 h (hdL A)
 st:StoreD S ρ A.m C.N C.dat
 pl:PoolP S ρ A.p C.N C.used C.left
 ca:Rw S ρ 6 5 A.cs (C.cache.flatMap cwL)
 tt:Pc S ρ 7 A.t (knL C.toKn A.x A.ob A.kb)
 ow:OwnP S ρ A.ob C.N C.own
 ck:ClkP S ρ A.kb C.alm
 gs:Rw S ρ 12 1 A.gs (nL C.region)
 ev:∀ i,i<6→Rw S ρ (20+i) 4 (A.es i) ((C.ev i).flatMap evL)
 vs:∀ i,i<6→VmP S ρ i (A.x i) (C.vm i) (C.fr i)
abbrev Rc (r:Nat):Prop:=r<110
section
variable {S S':Mem} {ρ ρ':Rho} {R:Nat→Prop}
theorem ClkP.keep {kb:Nat} {alm:Nat→Nat→Option Int} (h:ClkP S ρ kb alm) (m:Mv S ρ S' ρ' R) (h1:¬R 10) (h2:¬R 11):ClkP S' ρ' kb alm:=by
 obtain⟨tb,s,l,hck,ho,ha⟩:=h.ex
 refine⟨⟨tb,s,l,⟨?_,hck.cell,?_,hck.ne,hck.heap,hck.len⟩,fun x hx=>m.ext x 11 (ho x hx),ha⟩,m.ext kb 10 h.rol⟩
 ·rw[zav m (by rw[hck.blk];simp) h.rol h1];exact hck.blk
 ·refine hck.row.keep fun b hb=>?_
  have hx:b∈Hk.own s:=by simp[Hk.own,hb]
  obtain⟨k,hk⟩:=Hk.own_row hck.row hx
  exact zav m (by rw[hk];simp) (ho b hx) h2
theorem VmP.keep {i:Nat} {x:Vx} {v:Bv} {fr:List Nat} (h:VmP S ρ i x v fr) (m:Mv S ρ S' ρ' R) (hi:i<6) (hR:∀ r,30≤r→r<90→¬R r):VmP S' ρ' i x v fr:=
 ⟨h.se.keep m (hR _ (by omega) (by omega)),h.r,h.fr.keep m (hR _ (by omega) (by omega)),h.ke.keep m (hR _ (by omega) (by omega)),fun j hj=>(h.di j hj).keep m (hR _ (by omega) (by omega))⟩
theorem zdm (h:Gl S):S 0≠none:=by
 obtain⟨t,k,hl⟩:=h
 rw[hl];simp
theorem ji (h:Gl S) (m:Mv S ρ S' ρ' R) (h0:ρ 0=none):Gl S':=by
 exact h.keep (m.kp 0 (zdm h) fun r e=>by rw[h0] at e;cases e)
theorem jj (h:Gl S) (m:Mv S ρ S' ρ' R) (h0:ρ 0=none):ρ' 0=none:=by
 cases e:ρ' 0 with
 | none=>rfl
 | some r=>
  have:=m.old 0 r e (zdm h)
  rw[h0] at this;cases this
variable {h:Nat} {A:Ad} {C:Cst}
theorem CrabA.keep (hc:CrabA S ρ h A C) (m:Mv S ρ S' ρ' R) (hR:∀ r,r<90→¬R r):CrabA S' ρ' h A C:=
 ⟨m.rg,jj hc.gl m hc.g0,ji hc.gl m hc.g0,hc.hd.keep m (hR _ (by decide)),hc.st.keep m (hR _ (by decide)) (hR _ (by decide)),hc.pl.keep m (hR _ (by decide)) (hR _ (by decide)) (hR _ (by decide)),hc.ca.keep m (hR _ (by decide)),hc.tt.keep m (hR _ (by decide)),hc.ow.keep m (hR _ (by decide)) (hR _ (by decide)),hc.ck.keep m (hR _ (by decide)) (hR _ (by decide)),hc.gs.keep m (hR _ (by decide)),fun i hi=>(hc.ev i hi).keep m (hR _ (by omega)),fun i hi=>(hc.vs i hi).keep m hi fun r _ h2=>hR r h2⟩
theorem CrabA.keeps (hc:CrabA S ρ h A C) (hk:Keeps S S' []):CrabA S' ρ h A C:=hc.keep (Mv.keeps (R:=fun _=>False) hc.rg hk) fun _ _ h=>h
theorem CrabA.mv0 (hc:CrabA S ρ h A C) (hk:Keeps S S' []):Mv S ρ S' ρ Rc:=Mv.keeps hc.rg hk
theorem CrabA.setStore (hc:CrabA S ρ h A C) (m:Mv S ρ S' ρ' (· = 2)) {d:Nat→List Int} (hs:StoreD S' ρ' A.m C.N d):CrabA S' ρ' h A { C with dat:=d }:=
 ⟨m.rg,jj hc.gl m hc.g0,ji hc.gl m hc.g0,hc.hd.keep m (by decide),hs,hc.pl.keep m (by decide) (by decide) (by decide),hc.ca.keep m (by decide),hc.tt.keep m (by decide),hc.ow.keep m (by decide) (by decide),hc.ck.keep m (by decide) (by decide),hc.gs.keep m (by decide),fun i hi=>(hc.ev i hi).keep m (by omega),fun i hi=>(hc.vs i hi).keep m hi fun r h1 h2=>by omega⟩
theorem CrabA.setPool (hc:CrabA S ρ h A C) (m:Mv S ρ S' ρ' R) (hR:∀ r,R r→R345 r∨100≤r) {u:Nat→Bool} {left:Int} (hs:PoolP S' ρ' A.p C.N u left):CrabA S' ρ' h A { C with used:=u,left:=left }:=by
 have n:∀ r,r<90→r≠3→r≠4→r≠5→¬R r:=fun r h1 h2 h3 h4 h5=>by
  rcases hR r h5 with h6 | h6
  ·unfold R345 at h6;omega
  ·omega
 exact⟨m.rg,jj hc.gl m hc.g0,ji hc.gl m hc.g0,hc.hd.keep m (n _ (by decide) (by decide) (by decide) (by decide)),hc.st.keep m (n _ (by decide) (by decide) (by decide) (by decide)) (n _ (by decide) (by decide) (by decide) (by decide)),hs,hc.ca.keep m (n _ (by decide) (by decide) (by decide) (by decide)),hc.tt.keep m (n _ (by decide) (by decide) (by decide) (by decide)),hc.ow.keep m (n _ (by decide) (by decide) (by decide) (by decide)) (n _ (by decide) (by decide) (by decide) (by decide)),hc.ck.keep m (n _ (by decide) (by decide) (by decide) (by decide)) (n _ (by decide) (by decide) (by decide) (by decide)),hc.gs.keep m (n _ (by decide) (by decide) (by decide) (by decide)),fun i hi=>(hc.ev i hi).keep m (n _ (by omega) (by omega) (by omega) (by omega)),fun i hi=>(hc.vs i hi).keep m hi fun r h1 h2=>n r h2 (by omega) (by omega) (by omega)⟩
theorem CrabA.setOwn (hc:CrabA S ρ h A C) (m:Mv S ρ S' ρ' (· = 9)) {o:Nat→Ow} (hs:OwnP S' ρ' A.ob C.N o):CrabA S' ρ' h A { C with own:=o }:=
 ⟨m.rg,jj hc.gl m hc.g0,ji hc.gl m hc.g0,hc.hd.keep m (by decide),hc.st.keep m (by decide) (by decide),hc.pl.keep m (by decide) (by decide) (by decide),hc.ca.keep m (by decide),hc.tt.keep m (by decide),hs,hc.ck.keep m (by decide) (by decide),hc.gs.keep m (by decide),fun i hi=>(hc.ev i hi).keep m (by omega),fun i hi=>(hc.vs i hi).keep m hi fun r h1 h2=>by omega⟩
theorem CrabA.setClk (hc:CrabA S ρ h A C) (m:Mv S ρ S' ρ' R) (hR:∀ r,R r→r=10∨r=11∨100≤r) {a:Nat→Nat→Option Int} (hs:ClkP S' ρ' A.kb a):CrabA S' ρ' h A { C with alm:=a }:=by
 have n:∀ r,r<90→r≠10→r≠11→¬R r:=fun r h1 h2 h3 h5=>by have:=hR r h5;omega
 exact⟨m.rg,jj hc.gl m hc.g0,ji hc.gl m hc.g0,hc.hd.keep m (n _ (by decide) (by decide) (by decide)),hc.st.keep m (n _ (by decide) (by decide) (by decide)) (n _ (by decide) (by decide) (by decide)),hc.pl.keep m (n _ (by decide) (by decide) (by decide)) (n _ (by decide) (by decide) (by decide)) (n _ (by decide) (by decide) (by decide)),hc.ca.keep m (n _ (by decide) (by decide) (by decide)),hc.tt.keep m (n _ (by decide) (by decide) (by decide)),hc.ow.keep m (n _ (by decide) (by decide) (by decide)) (n _ (by decide) (by decide) (by decide)),hs,hc.gs.keep m (n _ (by decide) (by decide) (by decide)),fun i hi=>(hc.ev i hi).keep m (n _ (by omega) (by omega) (by omega)),fun i hi=>(hc.vs i hi).keep m hi fun r h1 h2=>n r h2 (by omega) (by omega)⟩
theorem CrabA.setKn (hc:CrabA S ρ h A C) (m:Mv S ρ S' ρ' (· = 7)) {k:Kn} {x:Nat→Vx} (ht:Pc S' ρ' 7 A.t (knL k x A.ob A.kb)) (hv:∀ i,i<6→VmP S' ρ' i (x i) (k.vm i) (k.fr i)):CrabA S' ρ' h { A with x:=x } { C with toKn:=k }:=
 ⟨m.rg,jj hc.gl m hc.g0,ji hc.gl m hc.g0,hc.hd.keep m (by decide),hc.st.keep m (by decide) (by decide),hc.pl.keep m (by decide) (by decide) (by decide),hc.ca.keep m (by decide),ht,hc.ow.keep m (by decide) (by decide),hc.ck.keep m (by decide) (by decide),hc.gs.keep m (by decide),fun i hi=>(hc.ev i hi).keep m (by omega),hv⟩
theorem CrabA.setVm (hc:CrabA S ρ h A C) (m:Mv S ρ S' ρ' R) (hR:∀ r,R r→r=7∨(30≤r∧r<90)∨100≤r) {k:Kn} {x:Nat→Vx} (ht:Pc S' ρ' 7 A.t (knL k x A.ob A.kb)) (hv:∀ i,i<6→VmP S' ρ' i (x i) (k.vm i) (k.fr i)):CrabA S' ρ' h { A with x:=x } { C with toKn:=k }:=by
 have n:∀ r,r<30→r≠7→¬R r:=fun r h1 h2 h5=>by have:=hR r h5;omega
 exact⟨m.rg,jj hc.gl m hc.g0,ji hc.gl m hc.g0,hc.hd.keep m (n _ (by decide) (by decide)),hc.st.keep m (n _ (by decide) (by decide)) (n _ (by decide) (by decide)),hc.pl.keep m (n _ (by decide) (by decide)) (n _ (by decide) (by decide)) (n _ (by decide) (by decide)),hc.ca.keep m (n _ (by decide) (by decide)),ht,hc.ow.keep m (n _ (by decide) (by decide)) (n _ (by decide) (by decide)),hc.ck.keep m (n _ (by decide) (by decide)) (n _ (by decide) (by decide)),hc.gs.keep m (n _ (by decide) (by decide)),fun i hi=>(hc.ev i hi).keep m (n _ (by omega) (by omega)),hv⟩
theorem CrabA.setCache (hc:CrabA S ρ h A C) (m:Mv S ρ S' ρ' (fun r=>r=0∨r=6)) {cs:Sl} {l:List Cw} (hh:Pc S' ρ' 0 h (hdL { A with cs:=cs })) (hs:Rw S' ρ' 6 5 cs (l.flatMap cwL)):CrabA S' ρ' h { A with cs:=cs } { C with cache:=l }:=
 ⟨m.rg,jj hc.gl m hc.g0,ji hc.gl m hc.g0,hh,hc.st.keep m (by decide) (by decide),hc.pl.keep m (by decide) (by decide) (by decide),hs,hc.tt.keep m (by decide),hc.ow.keep m (by decide) (by decide),hc.ck.keep m (by decide) (by decide),hc.gs.keep m (by decide),fun i hi=>(hc.ev i hi).keep m (by omega),fun i hi=>(hc.vs i hi).keep m hi fun r h1 h2=>by omega⟩
theorem CrabA.setEv (hc:CrabA S ρ h A C) (m:Mv S ρ S' ρ' R) (hR:∀ r,R r→r=0∨(20≤r∧r<26)) {es:Nat→Sl} {ev:Nat→List Evt} (hh:Pc S' ρ' 0 h (hdL { A with es:=es })) (hs:∀ i,i<6→Rw S' ρ' (20+i) 4 (es i) ((ev i).flatMap evL)):CrabA S' ρ' h { A with es:=es } { C with ev:=ev }:=by
 have n:∀ r,r≠0→(r<20∨26≤r)→¬R r:=fun r h1 h2 h5=>by have:=hR r h5;omega
 exact⟨m.rg,jj hc.gl m hc.g0,ji hc.gl m hc.g0,hh,hc.st.keep m (n _ (by decide) (by decide)) (n _ (by decide) (by decide)),hc.pl.keep m (n _ (by decide) (by decide)) (n _ (by decide) (by decide)) (n _ (by decide) (by decide)),hc.ca.keep m (n _ (by decide) (by decide)),hc.tt.keep m (n _ (by decide) (by decide)),hc.ow.keep m (n _ (by decide) (by decide)) (n _ (by decide) (by decide)),hc.ck.keep m (n _ (by decide) (by decide)) (n _ (by decide) (by decide)),hc.gs.keep m (n _ (by decide) (by decide)),hs,fun i hi=>(hc.vs i hi).keep m hi fun r h1 h2=>n r (by omega) (by omega)⟩
theorem fe:(hdL A).length=11:=by
 unfold hdL
 rw[List.length_append,wd (w:=1) fun _ _=>rfl];rfl
theorem CrabA.c0 (hc:CrabA S ρ h A C):S.cell h 0=some (eP (some (A.m,0))):=hc.hd.cell 0 (by rw[fe];decide) rfl
theorem CrabA.c1 (hc:CrabA S ρ h A C):S.cell h (0+1)=some (eP (some (A.p,0))):=hc.hd.cell 1 (by rw[fe];decide) rfl
theorem CrabA.c3 (hc:CrabA S ρ h A C):S.cell h (0+3)=some (eP (some (A.t,0))):=hc.hd.cell 3 (by rw[fe];decide) rfl
theorem CrabA.c4 (hc:CrabA S ρ h A C):S.cell h (0+4)=some (eL A.gs):=hc.hd.cell 4 (by rw[fe];decide) rfl
theorem zqH {i:Nat} (hi:i<6):nthL (hdL A) (5+i)=some (eL (A.es i)):=by
 unfold hdL
 rw[qd (n:=5) rfl]
 have:=zdL (w:=1) (k:=0) (n:=6) (f:=fun i=>[eL (A.es i)]) (fun _ _=>rfl) hi (by decide)
 rw[Nat.mul_one] at this;exact this
theorem zmi {i:Nat} (hi:i<6) (s:Sl):spl (hdL A) (5+i) [eL s]=hdL { A with es:=upd A.es i s }:=by
 unfold hdL
 rw[zL (n:=5) rfl]
 have:=zfA (w:=1) (k:=0) (n:=6) (vs:=[eL s]) (f:=fun i=>[eL (A.es i)]) (fun _ _=>rfl) hi (by simp)
 rw[Nat.mul_one] at this
 rw[show spl (cF 6 fun i=>[eL (A.es i)]) i [eL s]=_ from this]
 congr 1
 refine yn fun n _=>?_
 by_cases e:n=i
 ·subst e;simp only[zi];rfl
 ·simp only[zk e]
theorem CrabA.cev (hc:CrabA S ρ h A C) {i x:Nat} (hi:i<6) (hx:x=5+i):S.cell h x=some (eL (A.es i)):=(hc.hd.cell (5+i) (by rw[fe];omega) hx).trans (zqH hi)
theorem CrabA.t74 (hc:CrabA S ρ h A C):S.cell A.t (0+74)=some (eP (some (A.ob,0))):=(hc.tt.cell 74 (by rw[jg];decide) rfl).trans znM
theorem CrabA.t171 (hc:CrabA S ρ h A C):S.cell A.t (0+171)=some (eP (some (A.kb,0))):=(hc.tt.cell 171 (by rw[jg];decide) rfl).trans zqE
theorem CrabA.tform (hc:CrabA S ρ h A C):S.cell A.t 0=some (.int .i64 C.form):=hc.tt.cell 0 (by rw[jg];decide) rfl
theorem CrabA.tnow (hc:CrabA S ρ h A C):S.cell A.t (0+1)=some (.int .u64 C.now):=hc.tt.cell 1 (by rw[jg];decide) rfl
theorem CrabA.vcell (hc:CrabA S ρ h A C) {n j x:Nat} (hn:n<6) (hj:j<12) (hx:x=2+n*12+j):S.cell A.t x=nthL (vmC (A.x n) (C.vm n) (C.tf n) (C.late n)) j:=
 (hc.tt.cell (2+(n*12+j)) (by rw[jg];omega) (by omega)).trans (zqD hn hj)
theorem CrabA.vtab (hc:CrabA S ρ h A C) {n x:Nat} (hn:n<6) (hx:x=2+n*12+2):S.part A.t x 2=some (tbL (C.tf n) (A.x n).fs):=
 (hc.tt.part (2+(n*12+2)) (by rw[jg];omega) (by omega)).trans (zoL hn (by decide))
theorem CrabA.tls (hc:CrabA S ρ h A C):S.part A.t (0+75) 96=some (cF 16 fun i=>lsL (C.ls i)):=(hc.tt.part 75 (by rw[jg];decide) rfl).trans zoM
theorem CrabA.cap (hc:CrabA S ρ h A C):CaP S ρ 0 h 2 (fun cs=>hdL { A with cs:=cs }) C.cache:=⟨⟨A.cs,hc.hd,hc.ca⟩,fun _=>rfl,fun _ _=>rfl,by decide⟩
end
end
end Go.Proofs.YtabdpmnhjlmnlaaGreatDoor
namespace Go.Pt
section
open Go Go.RowKit Go.Cr
variable {S S':Mem} {ρ ρ':Rho} {r w:Nat} {s:Sl} {l:List Value}
theorem Rw.put (h:Rw S ρ r w s l) (hg:∀ b r,ρ b=Option.some r→S b≠none) {c:Nat} (hc:s.p=Option.some (c,0)) {vs:List Value} {i:Nat} (hi:i+vs.length≤l.length) :
  Mv S ρ (S.put c i vs) ρ (· = r)∧Rw (S.put c i vs) ρ r w s (spl l i vs):=by
 have hl:=h.row.len
 have hcap:=h.row.cap
 have hr:=h.rol c 0 hc
 rcases h.row.lie with ⟨h1,_⟩ | ⟨b,k,h1,h2,h3,h4,h5⟩
 ·rw[h1] at hc;cases hc
 ·rw[h1] at hc;cases hc
  have hm:s.n*w≤s.c*w:=Nat.mul_le_mul_right _ hcap
  rw[kR h2]
  refine⟨Mv.put (R:=(· = r)) (Mv.refl hg) hr rfl _,⟨by rw[zS hi];exact hl,hcap,.inr ⟨c,_,h1,zy,h3,?_,?_⟩⟩,h.rol⟩
  ·simp only;rw[zS (by omega)];exact h4
  ·simp only
   rw[←h5]
   have hkl:k.cs=k.cs.take (s.n*w)++k.cs.drop (s.n*w):=(List.take_append_drop _ _).symm
   have h6:(k.cs.take (s.n*w)).length=s.n*w:=by rw[List.length_take];omega
   have e:spl k.cs i vs=spl (k.cs.take (s.n*w)) i vs++k.cs.drop (s.n*w):=by
    conv=>lhs;rw[hkl]
    exact vS (by omega)
   rw[e,List.take_left' (by rw[zS (by omega)];exact h6)]
theorem Rw.sub (h:Rw S ρ r w s l) {c:Nat} (hc:s.p=Option.some (c,0)) {i:Nat} {v:List Value} (hv:lpart l i v.length=Option.some v):At S c i v:=by
 have hl:=h.row.len
 have hcap:=h.row.cap
 have hi:=(qL hv).1
 rcases h.row.lie with ⟨h1,_⟩ | ⟨b,k,h1,h2,h3,h4,h5⟩
 ·rw[h1] at hc;cases hc
 ·rw[h1] at hc;cases hc
  have hm:s.n*w≤s.c*w:=Nat.mul_le_mul_right _ hcap
  refine⟨k,h2,h3,?_⟩
  rw[qA (by omega)]
  rw[qA hi] at hv
  rw[←hv,←h5]
  congr 1
  apply List.ext_getElem?
  intro j
  simp only[List.getElem?_take,List.getElem?_drop]
  by_cases hj:j<v.length
  ·rw[if_pos hj,if_pos hj,if_pos (by omega)]
  ·rw[if_neg hj,if_neg hj]
end
end Go.Pt
namespace Go.Cr
section
open Go Go.Pt
section
variable {C:Cst} {W:Wd} {φ:Nat→Nat→Nat}
theorem Rel.tell (h:Rel C W φ) (n:Nat) (e:Evt):Rel { C with ev:=upd C.ev n (C.ev n++[e]) } (W.tell n e) φ:=
 { h with wk:={ h.wk with off:=h.wk.off },ev:=by show upd C.ev n (C.ev n++[e])=upd W.ev n (W.ev n++[e]);rw[h.ev] }
theorem WOk.setV (h:WOk W) {n:Nat} {v:Bv} (hon:(W.vm n).on=true) (h1:v.on=true) (h2:v.seats.length=(W.vm n).seats.length) (h3:∀ s∈v.seats,s.Ok) (h4:v.keys.length≤64∧Byt v.keys) (h5:∀ j,(v.disk j).length=256∧Byt (v.disk j)) (h6:v.quota=(W.vm n).quota) (h7:v.bells=(W.vm n).bells):WOk (W.setV n v):=by
 have on':∀ i,((W.setV n v).vm i).on=(W.vm i).on:=fun i=>by
  show (upd W.vm n v i).on=_
  by_cases e:i=n
  ·subst e;rw[zi,h1,hon]
  ·rw[zk e]
 have vm':∀ i,i≠n→(W.setV n v).vm i=W.vm i:=fun i e=>zk e
 have vn:(W.setV n v).vm n=v:=zi
 have be':∀ i,((W.setV n v).vm i).bells=(W.vm i).bells:=fun i=>by
  by_cases e:i=n
  ·subst e;rw[vn,h7]
  ·rw[vm' i e]
 have ql':∀ i,((W.setV n v).vm i).quota=(W.vm i).quota:=fun i=>by
  by_cases e:i=n
  ·subst e;rw[vn,h6]
  ·rw[vm' i e]
 have sl':∀ i,((W.setV n v).vm i).seats.length=(W.vm i).seats.length:=fun i=>by
  by_cases e:i=n
  ·subst e;rw[vn,h2]
  ·rw[vm' i e]
 refine { h with off:=fun i hi=>?_,six:=fun i hi=>by rw[on'];exact h.six i hi,seats:=fun i hi=>?_,ok:=fun i=>?_,keys:=fun i=>?_,disk:=fun i j hi=>?_,quota:=fun i=>by rw[ql'];exact h.quota i,bells:=fun i k=>?_,pg:=fun i p l hl=>?_,most:=fun i=>by rw[ql'];exact h.most i,lsr:=fun i hi=>?_,alarm:=fun i k w hw=>by rw[sl'];exact h.alarm i k w hw }
 ·rw[on'] at hi
  have:i≠n:=fun e=>by subst e;rw[hon] at hi;cases hi
  rw[vm' i this];exact h.off i hi
 ·rw[on'] at hi;rw[sl'];exact h.seats i hi
 ·by_cases e:i=n
  ·subst e;rw[vn];exact h3
  ·rw[vm' i e];exact h.ok i
 ·by_cases e:i=n
  ·subst e;rw[vn];exact h4
  ·rw[vm' i e];exact h.keys i
 ·by_cases e:i=n
  ·subst e;rw[vn];exact h5 j
  ·rw[on'] at hi
   rw[vm' i e];exact h.disk i j hi
 ·rw[be',be',on',on'];exact h.bells i k
 ·rw[on'];exact h.pg i p l hl
 ·rw[on',on'];exact h.lsr i hi
theorem Rel.setV (h:Rel C W φ) {n:Nat} {v:Bv} (hon:(W.vm n).on=true) (h1:v.on=true) (hk:WOk (W.setV n v)):Rel { C with vm:=upd C.vm n v } (W.setV n v) φ:=by
 have on':∀ i,((W.setV n v).vm i).on=(W.vm i).on:=fun i=>by
  show (upd W.vm n v i).on=_
  by_cases e:i=n
  ·subst e;rw[zi,h1,hon]
  ·rw[zk e]
 exact { h with
  wk:=hk
  vm:=by show upd C.vm n v=upd W.vm n v;rw[h.vm]
  time:=fun i hi=>by rw[on'] at hi;exact h.time i hi
  off:=fun i hi=>by rw[on'] at hi;exact h.off i hi
  tab:=fun i hi=>by rw[on'] at hi;exact h.tab i hi
  root:=fun i j hi=>by rw[on'] at hi;exact h.root i j hi
  leaf:=fun i p hi=>by rw[on'] at hi;exact h.leaf i p hi
  cache:=fun r hr=>by
   obtain⟨i,h1,h2,h3⟩:=h.cache r hr
   exact⟨i,h1,by rw[on'];exact h2,h3⟩ }
theorem Rel.setCache (h:Rel C W φ) {l:List Cw} (h1:∀ r∈l,∃ n:Nat,r.vm=n∧(W.vm n).on=true∧C.walk n r.page=some (r.f,r.w)) (h2:l.length≤8):Rel { C with cache:=l } W φ:=
 { h with cache:=h1,csize:=h2 }
theorem zlW {l:List Cw} {vm page:Int} {q:Nat×Bool} (h:lookC l vm page=some q):∃ r∈l,r.vm=vm∧r.page=page∧(r.f,r.w)=q:=by
 unfold lookC at h
 cases hf:l.find? (fun r=>decide (r.vm=vm) && decide (r.page=page)) with
 | none=>rw[hf] at h;cases h
 | some r=>
  rw[hf] at h
  simp only[Option.map_some,Option.some.injEq] at h
  have:=List.find?_some hf
  simp only[Bool.and_eq_true,decide_eq_true_eq] at this
  exact⟨r,List.mem_of_find?_eq_some hf,this.1,this.2,h⟩
theorem zft {l:List Cw} {vm page:Int} {r:Cw} (h:r∈dropC l vm page):r∈l∧¬(r.vm=vm∧r.page=page):=by
 unfold dropC at h
 rw[List.mem_filter] at h
 exact⟨h.1,fun hh=>by have:=h.2;simp[hh.1,hh.2] at this⟩
theorem zaB {l:List Cw} {vm page:Int}:(dropC l vm page).length≤l.length:=List.length_filter_le _ _
theorem zmW {l:List Cw} {r x:Cw} (h:x∈putC l r):x∈l∨x=r:=by
 unfold putC at h
 rw[List.mem_append,List.mem_singleton] at h
 rcases h with h | h
 ·left
  split at h
  ·exact (zft (List.mem_of_mem_tail h)).1
  ·exact (zft h).1
 ·exact .inr h
theorem zmX {l:List Cw} {r:Cw} (h:l.length≤8):(putC l r).length≤8:=by
 unfold putC
 have:=zaB (l:=l) (vm:=r.vm) (page:=r.page)
 rw[List.length_append]
 split
 ·rw[List.length_tail];simp;omega
 ·simp;omega
theorem Rel.find (h:Rel C W φ) {n:Nat} (hn:(W.vm n).on=true) {page:Int} {q:Nat×Bool} (hl:lookC C.cache n page=some q):C.walk n page=some q:=by
 obtain⟨r,hr,h1,h2,h3⟩:=zlW hl
 obtain⟨m,e1,e2,e3⟩:=h.cache r hr
 have:m=n:=by rw[h1] at e1;omega
 subst this
 rw[h2,h3] at e3;exact e3
theorem Rel.put (h:Rel C W φ) {n:Nat} (hn:(W.vm n).on=true) {page:Int} {f:Nat} {w:Bool} (hw:C.walk n page=some (f,w)):Rel { C with cache:=putC C.cache ⟨n,page,f,w⟩ } W φ:=
 h.setCache (fun r hr=>by
  rcases zmW hr with e | e
  ·exact h.cache r e
  ·subst e;exact⟨n,rfl,hn,hw⟩) (zmX h.csize)
theorem Rel.walk_some (h:Rel C W φ) {n:Nat} (hn:(W.vm n).on=true) {page:Int} {f:Nat} {w:Bool} (hw:C.walk n page=some (f,w)):∃ m q l,0≤page∧page≤31∧W.where_ n page.toNat=some (m,q,w)∧W.own m q=some l∧f=φ m q:=by
 by_cases hp:page<0∨31<page
 ·rw[zel hp] at hw;cases hw
 ·have e:page=((page.toNat:Nat):Int):=by omega
  rw[e,h.walk hn (by omega)] at hw
  cases hq:W.where_ n page.toNat with
  | none=>rw[hq] at hw;cases hw
  | some q=>
   rw[hq] at hw
   simp only[Option.map_some,Option.some.injEq,Prod.mk.injEq] at hw
   obtain⟨l,hl⟩:=h.wk.where_own hq
   obtain⟨a,b,c⟩:=q
   simp only at hw hl
   obtain⟨rfl,rfl⟩:=hw
   exact⟨a,b,l,by omega,by omega,rfl,hl,rfl⟩
theorem Rel.walk_none (h:Rel C W φ) {n:Nat} (hn:(W.vm n).on=true) {page:Int} (hw:C.walk n page=none):page<0∨31<page∨W.where_ n page.toNat=none:=by
 by_cases hp:page<0∨31<page
 ·omega
 ·right;right
  have e:page=((page.toNat:Nat):Int):=by omega
  rw[e,h.walk hn (by omega)] at hw
  cases hq:W.where_ n page.toNat with
  | none=>rfl
  | some q=>rw[hq] at hw;cases hw
theorem WOk.setO (h:WOk W) {m q:Nat} {l l':List Int} (ho:W.own m q=some l) (hl:l'.length=256∧Byt l'):WOk (W.setO m q (some l')):=by
 have is':∀ i p,((W.setO m q (some l')).own i p).isSome=(W.own i p).isSome:=fun i p=>by
  show (upd W.own m (upd (W.own m) q (some l')) i p).isSome=_
  by_cases e:i=m
  ·subst e
   rw[zi]
   by_cases e2:p=q
   ·subst e2;rw[zi,ho];rfl
   ·rw[zk e2]
  ·rw[zk e]
 have no':∀ i p,(W.setO m q (some l')).own i p=none↔W.own i p=none:=fun i p=>by
  rw[←Option.not_isSome_iff_eq_none,←Option.not_isSome_iff_eq_none,is']
 have hon:=(h.pg m q l ho)
 refine { h with off:=fun i hi=>⟨(h.off i hi).1,fun p=>(no' i p).2 ((h.off i hi).2.1 p),(h.off i hi).2.2⟩,pg:=fun i p l2 hl2=>?_,most:=fun i=>?_,lsr:=fun i hi=>?_,lsa:=fun i hi p hp=>(no' _ _).2 (h.lsa i hi p hp) }
 ·by_cases e:i=m∧p=q
  ·obtain⟨rfl,rfl⟩:=e
   have:l'=l2:=by
    have h2:(W.setO i p (some l')).own i p=some l':=by show upd W.own i (upd (W.own i) p (some l')) i p=_;rw[zi,zi]
    rw[h2] at hl2;exact Option.some.inj hl2
   subst this
   exact⟨hon.1,hon.2.1,hl⟩
  ·refine h.pg i p l2 ?_
   have:(W.setO m q (some l')).own i p=W.own i p:=by
    show upd W.own m (upd (W.own m) q (some l')) i p=_
    by_cases e1:i=m
    ·subst e1;rw[zi,zk (fun e2=>e ⟨rfl,e2⟩)]
    ·rw[zk e1]
   rw[this] at hl2;exact hl2
 ·have:(W.setO m q (some l')).pages i=W.pages i:=fq fun p _=>is' i p
  rw[this];exact h.most i
 ·rw[is'];exact h.lsr i hi
theorem zfW {m q:Nat} {l l':List Int} (ho:W.own m q=some l) {n p:Nat}:(W.setO m q (some l')).where_ n p=W.where_ n p:=by
 unfold Wd.where_
 have:((W.setO m q (some l')).own n p).isSome=(W.own n p).isSome:=by
  show (upd W.own m (upd (W.own m) q (some l')) n p).isSome=_
  by_cases e:n=m
  ·subst e
   rw[zi]
   by_cases e2:p=q
   ·subst e2;rw[zi,ho];rfl
   ·rw[zk e2]
  ·rw[zk e]
 rw[this];rfl
theorem Rel.walk_keep (h:Rel C W φ) {f:Nat} (hf:(C.own f).kind≠2) {l:List Int} {n:Nat} (hn:(W.vm n).on=true) (page:Int):walkC (upd C.dat f l) C.N (C.tf n) (C.fr n) page=C.walk n page:=by
 by_cases hp:page<0∨31<page
 ·rw[zel hp]
  unfold walkC Go.Cr.leafC
  rw[if_pos hp]
 ·have e:page=((page.toNat:Nat):Int):=by omega
  have h32:page.toNat<32:=by omega
  have key:∀ j i,j<5→ld (upd C.dat f l) ((C.fr n).getD j 0) i=ld C.dat ((C.fr n).getD j 0) i:=fun j i hj=>h.ld_keep hf hn hj
  obtain⟨a,b,c,d,g,hfr⟩:=h.cons hn
  have k0:=key 0 (page/8).toNat (by decide)
  have hlf:=h.leafC hn h32
  rw[←e] at hlf
  unfold Cst.walk walkC
  have hlf2:Go.Cr.leafC (upd C.dat f l) C.N (C.tf n) (C.fr n) page=Go.Cr.leafC C.dat C.N (C.tf n) (C.fr n) page:=by
   unfold Go.Cr.leafC
   rw[if_neg hp,if_neg hp,hfr]
   rw[hfr,List.getD_cons_zero] at k0
   dsimp only
   rw[k0]
  rw[hlf2,hlf]
  dsimp only
  rw[key _ _ (by omega)]
theorem Rel.setO (h:Rel C W φ) {m q:Nat} {l l':List Int} (ho:W.own m q=some l) (hl:l'.length=256∧Byt l'):Rel { C with dat:=upd C.dat (φ m q) l' } (W.setO m q (some l')) φ:=by
 have hp:=h.pg m q l ho
 have hk:(C.own (φ m q)).kind≠2:=by rw[hp.2.1];exact (show (3:Int)≠2 by decide)
 exact { h with
  wk:=h.wk.setO ho hl
  len:=fun f hf=>by
   show (upd C.dat (φ m q) l' f).length=256∧Byt (upd C.dat (φ m q) l' f)
   by_cases e:f=φ m q
   ·rw[e,zi];exact hl
   ·rw[zk e];exact h.len f hf
  root:=fun n j hn hj=>by
   show unp C.form (ld (upd C.dat (φ m q) l') ((C.fr n).getD 0 0) j)=_
   rw[h.ld_keep hk hn (by decide)];exact h.root n j hn hj
  leaf:=fun n p hn hp'=>by
   show unp C.form (ld (upd C.dat (φ m q) l') ((C.fr n).getD (p/8+1) 0) (p%8))=_
   rw[h.ld_keep hk hn (by omega),zfW ho];exact h.leaf n p hn hp'
  pg:=fun n p l2 hl2=>by
   show φ n p<C.N∧C.own (φ n p)=_∧upd C.dat (φ m q) l' (φ n p)=l2
   by_cases e:n=m∧p=q
   ·obtain⟨rfl,rfl⟩:=e
    have h2:(W.setO n p (some l')).own n p=some l':=by show upd W.own n (upd (W.own n) p (some l')) n p=_;rw[zi,zi]
    rw[h2] at hl2
    cases hl2
    exact⟨hp.1,hp.2.1,zi⟩
   ·have h2:(W.setO m q (some l')).own n p=W.own n p:=by
     show upd W.own m (upd (W.own m) q (some l')) n p=_
     by_cases e1:n=m
     ·subst e1;rw[zi,zk (fun e2=>e ⟨rfl,e2⟩)]
     ·rw[zk e1]
    rw[h2] at hl2
    have h3:=h.pg n p l2 hl2
    refine⟨h3.1,h3.2.1,?_⟩
    rw[zk (fun e2=>e (h.inj hl2 ho e2))];exact h3.2.2
  pgk:=fun f hf hk'=>by
   obtain⟨n,p,h1,h2⟩:=h.pgk f hf hk'
   refine⟨n,p,?_,h2⟩
   show (upd W.own m (upd (W.own m) q (some l')) n p).isSome=true
   by_cases e:n=m
   ·subst e
    rw[zi]
    by_cases e2:p=q
    ·subst e2;rw[zi];rfl
    ·rw[zk e2];exact h1
   ·rw[zk e];exact h1
  cache:=fun r hr=>by
   obtain⟨n,h1,h2,h3⟩:=h.cache r hr
   exact⟨n,h1,h2,by rw[←h3];exact h.walk_keep hk h2 r.page⟩ }
theorem Rel.setAlarm (h:Rel C W φ) {n k:Nat} (hk:k<(W.vm n).seats.length) {w:Int} (hw:W64 w):Rel { C with alm:=upd C.alm n (upd (C.alm n) k (some (min (w+C.late n) most64))) } (W.setAlarm n k w) φ:=by
 have hon:(W.vm n).on=true:=by
  cases e:(W.vm n).on with
  | true=>rfl
  | false=>rw[(h.wk.off n e).1] at hk;simp[bv0] at hk
 refine { h with wk:={ h.wk with off:=fun i hi=>⟨(h.wk.off i hi).1,(h.wk.off i hi).2.1,fun j=>?_⟩,alarm:=fun i j w' hw'=>?_ },alm:=fun i j=>?_ }
 ·show upd W.alarm n (upd (W.alarm n) k (some w)) i j=none
  have:i≠n:=fun e=>by subst e;have hi':(W.vm i).on=false:=hi;rw[hon] at hi';cases hi'
  rw[zk this];exact (h.wk.off i hi).2.2 j
 ·have hw'':upd W.alarm n (upd (W.alarm n) k (some w)) i j=some w':=hw'
  by_cases e:i=n
  ·subst e
   rw[zi] at hw''
   by_cases e2:j=k
   ·subst e2;rw[zi] at hw'';cases hw'';exact⟨hk,hw⟩
   ·rw[zk e2] at hw'';exact h.wk.alarm i j w' hw''
  ·rw[zk e] at hw'';exact h.wk.alarm i j w' hw''
 ·show upd C.alm n (upd (C.alm n) k (some (min (w+C.late n) most64))) i j=(upd W.alarm n (upd (W.alarm n) k (some w)) i j).map _
  by_cases e:i=n
  ·subst e
   rw[zi,zi]
   by_cases e2:j=k
   ·subst e2;rw[zi,zi];rfl
   ·rw[zk e2,zk e2];exact h.alm i j
  ·rw[zk e,zk e];exact h.alm i j
end
end
end Go.Cr
section
namespace Go.Cr
open Go Go.Pt
theorem znx:∀ p:Fin 256,∀ n:Fin 8,p.1/2 ^ n.1%2=1→iandn .u32 (p.1:Int) (ishl .u32 1 (n.1:Int))=(p.1:Int)-2 ^ n.1∧2 ^ n.1≤p.1:=by decide +kernel
theorem zjb {a b i:Nat} (h:(a &&& b)/2 ^ i%2=1):a/2 ^ i%2=1∧b/2 ^ i%2=1:=by
 have h1:(a &&& b).testBit i=true:=by rw[Nat.testBit_eq_decide_div_mod_eq];exact decide_eq_true h
 rw[Nat.testBit_and,Bool.and_eq_true,Nat.testBit_eq_decide_div_mod_eq,Nat.testBit_eq_decide_div_mod_eq] at h1
 exact⟨of_decide_eq_true h1.1,of_decide_eq_true h1.2⟩
theorem zep {s:Seat} (hs:s.Ok) {n:Nat} (h:nextL s=some n):n<8∧s.pend.toNat/2 ^ n%2=1∧iandn .u32 s.pend (ishl .u32 1 (n:Int))=s.pend-2 ^ n∧0≤s.pend-2 ^ n:=by
 unfold nextL at h
 split at h
 ·rename_i hc
  obtain⟨m,e,hm,hm2⟩:=Seat.may_nat hs
  rw[e,Int.toNat_natCast] at h
  simp only[Option.some.injEq] at h
  have h0:m≠0:=fun h0=>hc.2 (by rw[e,h0];rfl)
  obtain⟨_,_,_,h4,h5⟩:=znJ ⟨m,by omega⟩ h0
  simp only at h4 h5
  rw[h] at h4 h5
  rw[hm] at h5
  have hb:=zjb h5
  have hp:=hs.pend
  have hd:=znx ⟨s.pend.toNat,by omega⟩ ⟨n,h4⟩ hb.1
  simp only at hd
  have ep:((s.pend.toNat:Nat):Int)=s.pend:=by omega
  rw[ep] at hd
  refine⟨h4,hb.1,hd.1,?_⟩
  have:((2 ^ n:Nat):Int)=(2:Int) ^ n:=by rw[Int.natCast_pow];rfl
  rw[←this]
  omega
 ·cases h
theorem zgX {s:Seat} {g:GM} (hg:g.Ok) {addr:Int} (ha:W64 addr) {n:Nat} (hn:n=4∨n=8) {w:Int} (h:getW s g addr n=some w):0≤w∧w<256 ^ n:=by
 unfold getW at h
 split at h
 ·cases h
 ·rename_i q hq
  have hp:=zcB hg ha hq
  split at h
  ·cases h
  ·rename_i hm
   cases hd:ldB g q.1 q.2 n with
   | none=>rw[hd] at h;cases h
   | some l=>
    rw[hd] at h
    simp only[Option.map_some,Option.some.injEq] at h
    subst h
    obtain⟨h1,h2⟩:=zdk hg hd (by rcases hn with rfl | rfl <;> omega)
    have:=zcC h2
    rw[h1] at this
    exact this
end Go.Cr
namespace Go.Proofs.YtabdpmnhjlmnlaaGreatDoor
open Go Go.Pt Go.Cr
section
variable {bus:Value} {I:Mem→Rho→GM→Prop} {R:Nat→Prop} {S:Mem} {ρ:Rho} {g:GM} {b o:Nat} {s:Seat} {time me:Int}
theorem zle (hA:At S b o s.L) (hg:Gl S) (hs:s.Ok) {Q:Int→Bool→Mem→Prop} (hQ:match nextL s with | some n=>Q n true (S.put b o ({ s with pend:=s.pend-2 ^ n }:Seat).L) | none=>∀ x,Q x false S):zfj S (some (b,o)) Q:=by
 have hl:=hs.len
 have hp:=Pl.of hA hl
 apply ziq
 unfold zbV
 have h:=zlK (S:=S) (b:=b) (o:=o) (s:=s) (by rw[hA.self];exact hg) hp hs (Q:=fun t t_1 Sx=>if t_1=true then nn (some (b,o)) fun b o=>gI (Sx.cell b (o+24)) .u32 fun t_2=>0≤t∧Go.Pt.pt Sx b (o+24) 1 ([.int .u32 (iandn .u32 t_2 (ishl .u32 1 t))]) fun Sx_1=>Q t true Sx_1 else Q t false Sx) ?_
 ·rw[hA.self] at h;exact h
 ·cases hn:nextL s with
  | none=>
   rw[hn] at hQ
   dsimp only at hQ ⊢
   rw[if_neg (by decide),hA.self];exact hQ _
  | some n=>
   rw[hn] at hQ
   dsimp only at hQ ⊢
   obtain⟨h8,_,e,_⟩:=zep hs hn
   rw[if_pos rfl,zV,zB ((hp.cell hl (by decide)).trans (Seat.g24 hl)),e]
   exact⟨by omega,hp.pt (s:=s) hl (by decide) (Seat.s24 (s:=s) hl _) hQ⟩
theorem zli (hB:Bus bus I R) (hx:Cx I R S ρ g b o s) (hs:s.Ok) (ht:W64 time) (hme:0≤me∧me≤2) {Q:List Value→Mem→Prop}
  (hQ:∀ S1 ρ1,Mv S ρ S1 ρ1 R→I S1 ρ1 (stepM s g time me).g→At S1 b o s.L→Q (exL (stepM s g time me).k (stepM s g time me).n) (S1.put b o (stepM s g time me).s.L)):zhd S (some (b,o)) bus time me Q:=by
 have hl:=hs.len
 have hA:=hx.at_
 have hp:=Pl.of hA hl
 have m0:Mv S ρ S ρ R:=Mv.refl (hB.rg hx.i)
 have hres:∀ c u:Int,(exL c u).all (·.oneCell')=true:=fun _ _=>rfl
 obtain⟨bt,bv,hbus⟩:=hB.ifc
 have hone:bus.oneCell'=true:=by rw[hbus];rfl
 have hall:([eP (some (b,o)),bus,.int .u64 time,.int .i64 me]:List Value).all (·.oneCell')=true:=by
  simp only[List.all_cons,List.all_nil,hone];rfl
 have ec:([eP (some (b,o)),bus,.int .u64 time,.int .i64 me]:List Value)=cL b o bus time me:=rfl
 have ec2:([.pointer (some ⟨b,o,none⟩),bus,.int .u64 time,.int .i64 me]:List Value)=cL b o bus time me:=rfl
 apply zjX
 unfold zdE
 refine⟨hone,hall,?_⟩
 unfold stepM at hQ
 refine zI (fun J=>s.st=0→∀ v,v.length=2→J v S) ?_ fun J hJ=>?_
 rotate_left
 ·rw[if_neg (by simp)]
  refine⟨false,.inr ⟨⟨bt,bv,hbus⟩,rfl⟩,?_⟩
  show (if false=true then _ else _)
  rw[if_neg (by decide),zV,zB ((hx.cell hl (by decide)).trans (Seat.g23 hl))]
  by_cases h0:s.st≠0
  ·have hq:=hQ S ρ m0
   rw[if_pos h0] at hq
   rw[if_pos h0]
   have:=hq hx.i hA
   rw[hA.self] at this
   exact this
  ·rw[if_neg h0];exact hJ (by omega) _ rfl
 intro hst v hv
 rw[if_neg (by omega)] at hQ
 refine⟨hv,?_⟩
 refine zI (fun J=>nextL s=none→∀ v,v.length=2→J v S) ?_ fun J hJ=>?_
 rotate_left
 ·refine zle hA (hB.gl hx.i) hs ?_
  cases hn:nextL s with
  | none=>
   dsimp only
   intro x
   rw[if_neg (by decide)]
   exact hJ hn _ hv
  | some n=>
   dsimp only
   have hq:=hQ S ρ m0
   rw[hn] at hq
   obtain⟨h8,_,_,hge⟩:=zep hs hn
   rw[if_pos rfl,ec,wu64 (x:=(n:Int)) (by omega) (by omega),wu64 (x:=16+(n:Int)) (by omega) (by omega)]
   have hl2:({ s with pend:=s.pend-2 ^ n }:Seat).R.length=16:=hl
   have hA2:At (S.put b o ({ s with pend:=s.pend-2 ^ n }:Seat).L) b o ({ s with pend:=s.pend-2 ^ n }:Seat).L:=hp.at_ hl2
   refine kZ hA2 hl2 ⟨hres _ _,?_⟩
   have hl3:(({ s with pend:=s.pend-2 ^ n }:Seat).trap (16+n) 0).R.length=16:=by unfold Seat.trap;split <;> exact hl
   rw[hA.put2 (by rw[Seat.L_len hl2,Seat.L_len hl]) (by rw[Seat.L_len hl3,Seat.L_len hl])]
   exact hq hx.i hA
 intro hn v2 hv2
 refine⟨hv2,?_⟩
 rw[hn] at hQ
 dsimp only at hQ
 refine zI (fun J=>∀ S1 ρ1,Mv S ρ S1 ρ1 R→Cx I R S1 ρ1 g b o s→match getW s g s.pc 4 with | some w=>J w true S1 | none=>∀ x,J x false S1) ?_ fun J hJ=>?_
 rotate_left
 ·rw[zV,zB ((hx.cell hl (by decide)).trans (Seat.g16 hl)),ec2]
  refine zgi hB hx hs hs.pc (n:=4) (.inl rfl) fun S1 ρ1 hm hx1=>?_
  have h:=hJ S1 ρ1 hm hx1
  cases hg:getW s g s.pc 4 with
  | none=>
   rw[hg] at h
   dsimp only at h ⊢
   intro x
   rw[if_neg (by decide)];exact h x
  | some w=>
   rw[hg] at h
   dsimp only at h ⊢
   rw[if_pos rfl];exact h
 intro S1 ρ1 hm hx1
 have hq:=hQ S1 ρ1 hm
 cases hg:getW s g s.pc 4 with
 | none=>
  rw[hg] at hq
  dsimp only at hq ⊢
  intro x
  rw[if_neg (by decide),zV,zB ((hx1.cell hl (by decide)).trans (Seat.g16 hl)),ec2]
  exact kZ hx1.at_ hl ⟨hres _ _,hq hx1.i hx1.at_⟩
 | some w=>
  rw[hg] at hq
  dsimp only at hq ⊢
  have hw:=zgX (hB.ok hx.i) hs.pc (.inl rfl) hg
  rw[if_pos rfl,wu32 (by omega) (by omega)]
  refine ziV (by omega) (by omega) (fun hY=>?_) fun hN=>?_
  ·rw[if_pos hY] at hq
   rw[if_pos rfl,ec]
   refine⟨rfl,?_⟩
   refine zoY hB hx1 hs (zrw w) hY.1 hst ht hme fun S2 ρ2 hm2 hi2 hA2=>⟨hres _ _,?_⟩
   have hq2:=hQ S2 ρ2 (hm.trans hm2)
   rw[hg] at hq2
   dsimp only at hq2
   rw[if_pos hY] at hq2
   exact hq2 hi2 hA2
  ·rw[if_neg hN] at hq
   rw[if_neg (by decide),ec]
   exact⟨rfl,kZ hx1.at_ hl ⟨hres _ _,hq hx1.i hx1.at_⟩⟩
end
end Go.Proofs.YtabdpmnhjlmnlaaGreatDoor
end
namespace Go.Proofs.YtabdpmnhjlmnlaaGreatDoor
section
open Go Go.Pt Go.Cr Go.Hp
def thereV (vm:Nat→Bv) (n:Int):Prop:=0≤n∧n<6∧(vm n.toNat).on=true
instance (vm:Nat→Bv) (n:Int):Decidable (thereV vm n):=inferInstanceAs (Decidable (_∧_∧_))
theorem zqu {l:List Seat} (h:∀ s∈l,s.Ok):∀ s:{ s // s∈l },(s.1.L).length=26:=fun s=>Seat.L_len (h s.1 s.2).len
theorem fL {l:List Seat} (h:∀ s∈l,s.Ok):(l.flatMap Seat.L).length=l.length*26:=by
 induction l with
 | nil=>simp
 | cons s l ih=>
  rw[List.flatMap_cons,List.length_append,ih fun x hx=>h x (by simp[hx]),Seat.L_len (h s (by simp)).len,List.length_cons,Nat.add_mul];omega
theorem zen {l:List Seat} (h:∀ s∈l,s.Ok) {j:Nat} (hj:j<l.length):∃ A B,A.length=j*26∧l.flatMap Seat.L=A++(l[j].L++B)∧∀ s,(l.set j s).flatMap Seat.L=A++(s.L++B):=by
 refine⟨(l.take j).flatMap Seat.L,(l.drop (j+1)).flatMap Seat.L,?_,?_,fun s=>?_⟩
 ·rw[fL fun s hs=>h s (List.mem_of_mem_take hs),List.length_take,Nat.min_eq_left (by omega)]
 ·have e:l=l.take j++(l[j] :: l.drop (j+1)):=by rw[List.getElem_cons_drop,List.take_append_drop]
  have e2:=congrArg (List.flatMap Seat.L) e
  rw[List.flatMap_append,List.flatMap_cons] at e2
  exact e2
 ·rw[List.set_eq_take_append_cons_drop,if_pos hj,List.flatMap_append,List.flatMap_cons]
theorem ziy {l:List Seat} (h:∀ s∈l,s.Ok) {j:Nat} (hj:j<l.length):lpart (l.flatMap Seat.L) (j*26) (l[j].L).length=some l[j].L:=by
 obtain⟨A,B,h1,h2,_⟩:=zen h hj
 rw[h2,show j*26=j*26+0 by omega,xZ h1,kX (by omega),ze rfl]
theorem zlq {l:List Seat} (h:∀ s∈l,s.Ok) {j:Nat} (hj:j<l.length) {s:Seat} (hs:s.Ok):spl (l.flatMap Seat.L) (j*26) s.L=(l.set j s).flatMap Seat.L:=by
 obtain⟨A,B,h1,h2,h3⟩:=zen h hj
 have hl:=Seat.L_len (h l[j] (List.getElem_mem hj)).len
 have hl2:=Seat.L_len hs.len
 rw[h3,h2,show j*26=j*26+0 by omega,zL h1]
 congr 1
 rw[xD _ _ _ (by simp),List.take_zero,List.nil_append,Nat.zero_add,List.drop_left' (by omega)]
theorem zmN {l:List Seat} {k:Nat} (hk:k<l.length):l.getD k seat0=l[k]:=by rw[List.getD_eq_getElem?_getD,List.getElem?_eq_getElem hk];rfl
section
variable {S S':Mem} {ρ ρ':Rho} {h:Nat} {A:Ad} {C:Cst}
theorem wN (hc:CrabA S ρ h A C) {n:Int} {Q:Bool→Mem→Prop} (hQ:Q (decide (thereV C.vm n)) S):qq S (some (A.t,0)) n Q:=by
 apply zbA
 unfold wK
 rw[if_pos (by simp)]
 by_cases h0:0≤n
 ·rw[if_pos h0]
  by_cases h6:n<6
  ·rw[if_pos h6,zV]
   refine⟨h0,h6,?_⟩
   rw[fM (hc.vcell (n:=n.toNat) (j:=0) (by omega) (by decide) (by omega))]
   have e:decide (thereV C.vm n)=(C.vm n.toNat).on:=by
    cases hv:(C.vm n.toNat).on with
    | true=>exact decide_eq_true ⟨h0,h6,hv⟩
    | false=>exact decide_eq_false fun h=>by rw[h.2.2] at hv;cases hv
   rw[e] at hQ;exact hQ
  ·rw[if_neg h6]
   rw[decide_eq_false (fun h=>h6 h.2.1)] at hQ;exact hQ
 ·rw[if_neg h0]
  rw[decide_eq_false (fun h=>h0 h.1)] at hQ;exact hQ
theorem kW (hc:CrabA S ρ h A C) {n k:Int} {Q:Pt→Mem→Prop}
  (hY:thereV C.vm n→0≤k→k<(C.vm n.toNat).seats.length→∀ c,(A.x n.toNat).ss.p=some (c,0)→Q (some (c,0+k.toNat*26)) S)
  (hN:¬(thereV C.vm n∧0≤k∧k<(C.vm n.toNat).seats.length)→Q none S):qB S (some (A.t,0)) n k Q:=by
 apply zcl
 unfold vg
 simp only[jn]
 refine wN hc ?_
 by_cases ht:thereV C.vm n
 ·rw[decide_eq_true ht,if_pos rfl]
  have hn6:n.toNat<6:=by have:=ht.1;have:=ht.2.1;omega
  by_cases hk:k<0
  ·rw[if_pos hk];exact hN fun h=>by omega
  ·have hv:=hc.vs n.toNat hn6
   have hlen:=hv.se.n (by decide) (fL hv.r)
   have hcell:S.cell A.t (0+2+n.toNat*12+1)=some (eL (A.x n.toNat).ss):=hc.vcell (n:=n.toNat) (j:=1) hn6 (by decide) (by omega)
   rw[if_neg hk,zV]
   refine⟨ht.1,ht.2.1,?_⟩
   rw[wc hcell]
   by_cases hl:((A.x n.toNat).ss.n:Int)≤k
   ·rw[if_pos hl];exact hN fun h=>by omega
   ·rw[if_neg hl,zV]
    refine⟨ht.1,ht.2.1,?_⟩
    obtain⟨c,e1,e2⟩:=hv.se.sl (by rw[fL hv.r];omega)
    rw[wc hcell,e1,jH]
    exact⟨by omega,by omega,hY ht (by omega) (by omega) c e2⟩
 ·rw[decide_eq_false ht,if_neg (by decide)]
  exact hN fun h=>ht h.1
theorem zlc (hc:CrabA S ρ h A C) {n:Nat} (hn:n<6) {Q:Int→Mem→Prop} (hQ:Q (IntKind.u64.wrap (C.now-C.late n)) S):km S (some (A.t,0)) n Q:=by
 apply zck
 unfold vf
 rw[zV,zB hc.tnow]
 refine⟨by omega,by omega,?_⟩
 rw[Int.toNat_natCast,zB (hc.vcell (n:=n) (j:=5) hn (by decide) (by omega))]
 exact hQ
theorem zqW:∀ f:Nat→Bool,∀ k,k<6→bI f/2 ^ k%2=(f k).toNat:=by
 intro f k hk
 have b (i:Nat):(f i).toNat≤1:=Bool.toNat_le _
 have:=b 0;have:=b 1;have:=b 2;have:=b 3;have:=b 4;have:=b 5
 unfold bI
 match k,hk with
 | 0,_=>omega
 | 1,_=>omega
 | 2,_=>omega
 | 3,_=>omega
 | 4,_=>omega
 | 5,_=>omega
theorem zrA (f:Nat→Bool):bI f<64:=by
 have b (i:Nat):(f i).toNat≤1:=Bool.toNat_le _
 have:=b 0;have:=b 1;have:=b 2;have:=b 3;have:=b 4;have:=b 5
 unfold bI;omega
theorem znD (f:Nat→Bool) {k:Nat} (hk:k<6):decide (iand .u32 (ishr .u32 (bI f:Int) (k:Int)) 1=1)=f k:=by
 have h1:=zqW f k hk
 have h2:=zrA f
 have key:∀ m:Fin 64,∀ j:Fin 6,decide (iand .u32 (ishr .u32 ((m.1:Nat):Int) ((j.1:Nat):Int)) 1=1)=decide (m.1/2 ^ j.1%2=1):=by decide
 have:=key ⟨bI f,h2⟩ ⟨k,hk⟩
 rw[this,h1]
 cases f k <;> rfl
theorem ziO (hc:CrabA S ρ h A C) {a b:Int} {Q:Bool→Mem→Prop} (hQ:Q (decide (thereV C.vm a) && (decide (thereV C.vm b) && (C.vm a.toNat).bells b.toNat)) S):wT S (some (A.t,0)) a b Q:=by
 apply zbg
 unfold ww
 refine wN hc ?_
 by_cases ha:thereV C.vm a
 ·rw[decide_eq_true ha] at hQ ⊢
  rw[if_pos rfl]
  refine wN hc ?_
  by_cases hb:thereV C.vm b
  ·rw[decide_eq_true hb] at hQ ⊢
   rw[if_pos rfl,zV]
   refine⟨ha.1,ha.2.1,?_⟩
   have h6:a.toNat<6:=by have:=ha.1;have:=ha.2.1;omega
   rw[zB (hc.vcell (n:=a.toNat) (j:=11) h6 (by decide) (by omega))]
   refine⟨hb.1,?_⟩
   have e:b=((b.toNat:Nat):Int):=by have:=hb.1;omega
   have hb6:b.toNat<6:=by have:=hb.1;have:=hb.2.1;omega
   have:=znD (C.vm a.toNat).bells hb6
   rw[←e] at this
   rw[this]
   simpa using hQ
  ·rw[decide_eq_false hb] at hQ ⊢
   rw[if_neg (by decide)]
   simpa using hQ
 ·rw[decide_eq_false ha] at hQ ⊢
  rw[if_neg (by decide)]
  simpa using hQ
theorem fP (e:Evt):(evL e).length=4:=rfl
theorem zld (hc:CrabA S ρ h A C) {n:Nat} (hn:n<6) (hl:(C.ev n).length≤1000000000) {e:Evt} {Q:Mem→Prop}
  (hQ:∀ S' ρ' A',Mv S ρ S' ρ' (fun r=>r=0∨(20≤r∧r<26))→CrabA S' ρ' h A' { C with ev:=upd C.ev n (C.ev n++[e]) }→A'.t=A.t→A'.x=A.x→Q S'):xd S (some (h,0)) n (evL e) Q:=by
 apply zea
 unfold kF
 refine⟨rfl,?_⟩
 have hrow:=hc.ev n hn
 have hsn:=hrow.n (by decide) (wB fP _)
 rw[zV]
 refine⟨by omega,by omega,?_⟩
 rw[Int.toNat_natCast,wc (hc.cev hn (by omega))]
 refine⟨rfl,?_⟩
 refine zid (R:=fun r=>r=0∨(20≤r∧r<26)) (Mv.refl hc.rg) (by omega) hrow rfl (by decide) rfl (by omega) fun s' S1 ρ1 m1 m1' h1 _=>?_
 refine⟨by omega,by omega,?_⟩
 refine (hc.hd.keep m1' (by omega)).pt m1.rg (vs:=[eL s']) (5+n) rfl (by rw[fe];simp;omega) (by omega) fun S2 m2 h2=>?_
 rw[zmi hn] at h2
 have m2':Mv S1 ρ1 S2 ρ1 (fun r=>r=0∨(20≤r∧r<26)):=m2.mono fun r hr=>.inl hr
 refine hQ S2 ρ1 _ (m1.trans m2') (hc.setEv (m1.trans m2') (fun r hr=>hr) h2 fun i hi=>?_) rfl rfl
 by_cases e2:i=n
 ·subst e2
  rw[zi,zi,List.flatMap_append]
  have e3:[e].flatMap evL=evL e:=by simp
  rw[e3]
  exact h1.keep m2 (by omega)
 ·rw[zk e2,zk e2]
  exact ((hc.ev i hi).keep m1' (by omega)).keep m2 (by omega)
variable {W:Wd} {φ:Nat→Nat→Nat}
def busL (h n:Nat):List Value:=[.pointer (some ⟨h,0,none⟩),.int .i64 n]
theorem bus0 {h n:Nat}:nthL (busL h n) 0=some (eP (some (h,0))):=rfl
theorem bus1 {h n:Nat}:nthL (busL h n) 1=some (.int .i64 n):=rfl
theorem zhV (hc:CrabA S ρ h A C) (hr:Rel C W φ) {n:Nat} (hn:n<6) (hon:(W.vm n).on=true) {page:Int} {Q:List Value→Int→Mem→Prop}
  (hY:∀ f w S' ρ' A' l,C.walk n page=some (f,w)→Mv S ρ S' ρ' (fun r=>r=0∨r=6)→CrabA S' ρ' h A' { C with cache:=l }→Rel { C with cache:=l } W φ→A'.m=A.m→A'.t=A.t→A'.x=A.x→Q (enL f w) 0 S')
  (hN:∀ e S',C.walk n page=none→e≠0→Keeps S S' []→Q noEn e S'):kT S (busL h n) page Q:=by
 have hcs:=hr.csize
 apply zeF
 unfold jw
 refine⟨rfl,?_⟩
 refine zI (fun J=>lookC C.cache n page=none→J noEn S) ?_ fun J hJ=>?_
 ·intro hl
  refine⟨rfl,?_⟩
  rw[qQ bus0,zV,qQ hc.c3,zB bus1,zV]
  refine⟨by omega,by omega,?_⟩
  rw[Int.toNat_natCast,gD (hc.vtab hn (by omega)),qQ bus0,zV,qQ hc.c0]
  have hv:=hc.vs n hn
  refine walkD hc.st hv.fr.row (fun f b S1 hw hk=>?_) fun e S1 hw he hk=>?_
  ·have hc1:=hc.keeps hk
   refine⟨hc1.c3,rfl,?_⟩
   rw[if_pos rfl,qQ bus0,zV,zB bus1]
   refine zlE (r:=⟨n,page,f,b⟩) hc1.cap hc1.rg (by omega) fun S2 ρ2 m2 h2=>?_
   obtain⟨cs,h3,h4⟩:=h2.ex
   refine⟨rfl,hY f b S2 ρ2 _ _ hw ((Mv.keeps hc.rg hk).trans m2) (hc1.setCache m2 h3 h4) (hr.put hon hw) rfl rfl rfl⟩
  ·have hc1:=hc.keeps hk
   refine⟨hc1.c3,rfl,?_⟩
   rw[if_neg he]
   exact⟨rfl,hN e S1 hw he hk⟩
 ·rw[qQ bus0,zV,zB bus1]
  refine zlV hc.cap (by omega) (fun f b hl=>?_) fun hl=>?_
  ·rw[if_pos rfl]
   exact⟨rfl,rfl,hY f b S ρ A C.cache (hr.find hon hl) (Mv.refl hc.rg) hc hr rfl rfl rfl⟩
  ·rw[if_neg (by decide)]
   exact⟨rfl,hJ hl⟩
end
end
end Go.Proofs.YtabdpmnhjlmnlaaGreatDoor
section
namespace Go.Cr
open Go Go.Pt
variable {W:Wd}
theorem zln {d:Nat→List Int} {n p:Nat}:((W.setDat d).own n p).isSome=(W.own n p).isSome:=by
 show ((W.own n p).map _).isSome=_
 cases W.own n p <;> rfl
theorem zbr {n p:Nat} (hp:p<32):(W.gm n).map p=(W.where_ n p).map fun q=>(32*q.1+q.2.1,q.2.2):=by
 show (if 32≤p then none else _)=_
 rw[if_neg (by omega)]
theorem zfm {n m q:Nat} (hq:q<32):(W.gm n).dat (32*m+q)=(W.own m q).getD []:=by
 show (W.own ((32*m+q)/32) ((32*m+q)%32)).getD []=_
 rw[show (32*m+q)/32=m by omega,show (32*m+q)%32=q by omega]
theorem WOk.gm (h:WOk W) (n:Nat):(W.gm n).Ok:=by
 have key:∀ p f w,(W.gm n).map p=some (f,w)→∃ l,(W.gm n).dat f=l∧l.length=256∧Byt l:=by
  intro p f w hm
  by_cases hp:p<32
  ·rw[zbr hp] at hm
   cases hq:W.where_ n p with
   | none=>rw[hq] at hm;cases hm
   | some q=>
    rw[hq] at hm
    simp only[Option.map_some,Option.some.injEq,Prod.mk.injEq] at hm
    obtain⟨l,hl⟩:=h.where_own hq
    have h2:=h.pg _ _ l hl
    refine⟨l,?_,h2.2.2⟩
    rw[←hm.1,zfm h2.2.1,hl];rfl
  ·have:(W.gm n).map p=none:=by show (if 32≤p then none else _)=none;rw[if_pos (by omega)]
   rw[this] at hm;cases hm
 refine⟨fun p hp=>by show (if 32≤p then none else _)=none;rw[if_pos hp],fun p f w hm=>?_,fun p f w hm=>?_⟩
 ·obtain⟨l,h1,h2,_⟩:=key p f w hm;rw[h1];exact h2
 ·obtain⟨l,h1,_,h2⟩:=key p f w hm;rw[h1];exact h2
theorem zmj {n m q:Nat} {l l':List Int} (ho:W.own m q=some l) (hq:q<32) (hW:∀ m q l,W.own m q=some l→q<32) {off:Nat} {v:List Int} (hl:l'=spB l off v):(W.setO m q (some l')).gm n=wrB (W.gm n) (32*m+q) off v:=by
 have hd:(W.gm n).dat (32*m+q)=l:=by rw[zfm hq,ho];rfl
 have hmap:((W.setO m q (some l')).gm n).map=(W.gm n).map:=by
  funext p
  show (if 32≤p then none else ((W.setO m q (some l')).where_ n p).map _)=(if 32≤p then none else (W.where_ n p).map _)
  rw[zfW ho]
 have hdat:((W.setO m q (some l')).gm n).dat=(wrB (W.gm n) (32*m+q) off v).dat:=by
  funext x
  show (upd W.own m (upd (W.own m) q (some l')) (x/32) (x%32)).getD []=if x=32*m+q then _ else (W.own (x/32) (x%32)).getD []
  by_cases e:x=32*m+q
  ·rw[if_pos e]
   subst e
   rw[show (32*m+q)/32=m by omega,show (32*m+q)%32=q by omega,zi,zi,hd,hl];rfl
  ·rw[if_neg e]
   by_cases e1:x/32=m
   ·rw[e1,zi,zk (by omega)]
   ·rw[zk e1]
 show GM.mk _ _=GM.mk _ _
 congr 1
theorem zgF {d:Nat→List Int} {m q:Nat} {l l':List Int} (hW:∀ m q l,W.own m q=some l→q<32) (ho:W.own m q=some l):(W.setDat d).setO m q (some l')=W.setDat (upd d (32*m+q) l'):=by
 have e:upd (W.setDat d).own m (upd ((W.setDat d).own m) q (some l'))=(W.setDat (upd d (32*m+q) l')).own:=by
  funext n p
  show upd (W.setDat d).own m (upd ((W.setDat d).own m) q (some l')) n p=(W.own n p).map fun _=>upd d (32*m+q) l' (32*n+p)
  by_cases e1:n=m
  ·subst e1
   rw[zi]
   by_cases e2:p=q
   ·subst e2;rw[zi,ho,Option.map_some,zi]
   ·rw[zk e2]
    show (W.own n p).map _=_
    rw[zk (by omega)]
  ·rw[zk e1]
   show (W.own n p).map _=_
   cases hp:W.own n p with
   | none=>rfl
   | some l2=>
    have h1:=hW n p l2 hp
    have h2:=hW m q l ho
    rw[Option.map_some,Option.map_some,zk (by omega)]
 show ({ W.setDat d with own:=_ }:Wd)=_
 rw[e];rfl
theorem zhC {d:Nat→List Int} {n:Nat} (hW:∀ m q l,W.own m q=some l→q<32):W.setDat ((W.setDat d).gm n).dat=W.setDat d:=by
 have e:(W.setDat ((W.setDat d).gm n).dat).own=(W.setDat d).own:=by
  funext m q
  show (W.own m q).map _=(W.own m q).map _
  cases ho:W.own m q with
  | none=>rfl
  | some l=>
   have h1:=hW m q l ho
   rw[Option.map_some,Option.map_some,zfm h1]
   show some (((W.own m q).map _).getD [])=_
   rw[ho];rfl
 exact congrArg (fun o=>({ W with own:=o }:Wd)) e
theorem yz {n:Nat} (hW:∀ m q l,W.own m q=some l→q<32):W.setDat (W.gm n).dat=W:=by
 have e:(W.setDat (W.gm n).dat).own=W.own:=by
  funext m q
  show (W.own m q).map _=W.own m q
  cases ho:W.own m q with
  | none=>rfl
  | some l=>
   rw[Option.map_some,zfm (hW m q l ho),ho];rfl
 exact congrArg (fun o=>({ W with own:=o }:Wd)) e
theorem By.part {S:Mem} {p:Sl} {xs:List Int} (h:By S p xs) (h0:0<xs.length):∃ b o,p.p=some (b,o)∧S.part b o (xs.length*1)=some (bL xs):=by
 have hl:=h.len
 rcases h.lie with h1 | ⟨b,o,h1,h2⟩
 ·omega
 ·refine⟨b,o,h1,?_⟩
  obtain⟨k,hk,_⟩:=zgs (h2 0 h0)
  have hc:∀ i (hi:i<xs.length),nthL k.cs (o+i)=some (.int .u8 xs[i]):=fun i hi=>by have:=h2 i hi;rwa [qo hk] at this
  have hlast:=vB (hc (xs.length-1) (by omega))
  rw[yh hk,qA (by omega)]
  congr 1
  apply List.ext_getElem?
  intro i
  rw[List.getElem?_take,List.getElem?_drop,Nat.mul_one]
  by_cases hi:i<xs.length
  ·rw[if_pos hi]
   have:=hc i hi
   rw[zK] at this
   rw[this]
   simp[bL,List.getElem?_eq_getElem hi]
  ·rw[if_neg hi,List.getElem?_eq_none (by simp[bL];omega)]
end Go.Cr
namespace Go.Proofs.YtabdpmnhjlmnlaaGreatDoor
open Go Go.Pt Go.Cr Go.Hp
section
variable {S S':Mem} {ρ ρ':Rho} {h:Nat} {A:Ad} {C:Cst} {W:Wd} {φ:Nat→Nat→Nat}
theorem zdN (hc:CrabA S ρ h A C) (hr:Rel C W φ) {n:Nat} (hn:n<6) (hon:(W.vm n).on=true) {page:Int} {off k:Nat} (hk:0<k) (ho:off+k≤256) {Q:Sl→Int→Mem→Prop}
  (hY:∀ m q w l t S' ρ' A' ca,0≤page→page≤31→W.where_ n page.toNat=some (m,q,w)→W.own m q=some l→Mv S ρ S' ρ' (fun r=>r=0∨r=6)→CrabA S' ρ' h A' { C with cache:=ca }→Rel { C with cache:=ca } W φ→A'.t=A.t→A'.x=A.x→Row S' 1 t (bL (rdB l off k))→(∀ b o,t.p=some (b,o)→S b=none∧ρ' b=none)→Q t 0 S')
  (hN:∀ e S',(page<0∨31<page∨W.where_ n page.toNat=none)→e≠0→Keeps S S' []→Q ⟨none,0,0⟩ e S'):fm S (busL h n) page off k Q:=by
 apply zeH
 unfold jz
 refine⟨rfl,?_⟩
 refine zhV hc hr hn hon (fun f w S1 ρ1 A1 ca hw m1 hc1 hr1 hm ht hx=>?_) fun e S1 hw he hk1=>?_
 ·refine⟨rfl,?_⟩
  simp only[jn]
  obtain⟨m,q,l,h0,h1,h2,h3,h4⟩:=hr.walk_some hon hw
  have hp:=hr.pg m q l h3
  rw[if_neg (by decide),qQ bus0,zV,qQ hc1.c0,zB (show nthL (enL f w) 1=some (.int .i64 f) from rfl)]
  refine readD hc1.st (by rw[h4];exact hp.1) hk ho fun t S2 hk2 hrow hfr=>?_
  have hd:C.dat f=l:=by rw[h4];exact hp.2.2
  have hrow':Row S2 1 t (bL (rdB (C.dat f) off k)):=hrow
  rw[hd] at hrow'
  refine hY m q w l t S2 ρ1 A1 ca h0 h1 h2 h3 (m1.trans (Mv.keeps hc1.rg hk2)) (hc1.keeps hk2) hr1 ht hx hrow' fun b o hb=>?_
  have hn1:=hfr b o hb
  refine⟨?_,?_⟩
  ·cases hs:S b with
   | none=>rfl
   | some kk=>have:=m1.al b (by rw[hs];simp);exact absurd hn1 this
  ·cases hs:ρ1 b with
   | none=>rfl
   | some r=>exact absurd hn1 (m1.rg b r hs)
 ·refine⟨rfl,?_⟩
  simp only[jn]
  rw[if_pos he]
  exact hN e S1 (hr.walk_none hon hw) he hk1
theorem zdM (hc:CrabA S ρ h A C) (hr:Rel C W φ) {n:Nat} (hn:n<6) (hon:(W.vm n).on=true) {page:Int} {off:Nat} {p:Sl} {v:List Int} (hp:∃ b o,p.p=some (b,o)∧S.part b o (v.length*1)=some (bL v)∧(∀ r,ρ b=some r→r≠0∧r≠6)) (hpl:v.length=p.n) (hv0:v≠[]) (ho:off+v.length≤256) (hb:Byt v) {Q:Int→Mem→Prop}
  (hY:∀ m q l S' ρ' A' ca,0≤page→page≤31→W.where_ n page.toNat=some (m,q,true)→W.own m q=some l→Mv S ρ S' ρ' (fun r=>r=0∨r=6∨r=2)→CrabA S' ρ' h A' { C with cache:=ca,dat:=upd C.dat (φ m q) (spB l off v) }→Rel { C with cache:=ca,dat:=upd C.dat (φ m q) (spB l off v) } (W.setO m q (some (spB l off v))) φ→A'.t=A.t→A'.x=A.x→Q 0 S')
  (hN:∀ e S' ρ' A' ca,(page<0∨31<page∨W.where_ n page.toNat=none∨∃ m q,W.where_ n page.toNat=some (m,q,false))→e≠0→Mv S ρ S' ρ' (fun r=>r=0∨r=6∨r=2)→CrabA S' ρ' h A' { C with cache:=ca }→Rel { C with cache:=ca } W φ→A'.t=A.t→A'.x=A.x→Q e S'):fk S (busL h n) page off p Q:=by
 apply zeG
 unfold jy
 refine⟨rfl,?_⟩
 refine zhV hc hr hn hon (fun f w S1 ρ1 A1 ca hw m1 hc1 hr1 hm ht hx=>?_) fun e S1 hw he hk1=>?_
 ·refine⟨rfl,?_⟩
  simp only[jn]
  obtain⟨m,q,l,h0,h1,h2,h3,h4⟩:=hr.walk_some hon hw
  have hpg:=hr.pg m q l h3
  have m1':Mv S ρ S1 ρ1 (fun r=>r=0∨r=6∨r=2):=m1.mono fun r hr'=>by omega
  rw[if_neg (by decide),fM (show nthL (enL f w) 2=some (.bool w) from rfl)]
  cases w with
  | true=>
   rw[if_pos rfl,qQ bus0,zV,qQ hc1.c0,zB (show nthL (enL f true) 1=some (.int .i64 f) from rfl)]
   obtain⟨b,o,hb1,hb2,hb3⟩:=hp
   have hpart:S1.part b o (v.length*1)=some (bL v):=by
    obtain⟨k,e1,e2⟩:=zfc hb2
    have:S1 b=S b:=m1.kp b (by rw[e1];simp) fun r e=>by have:=hb3 r e;omega
    rw[yh (by rw[this];exact e1)];exact e2
   refine writeD hc1.st hc1.rg (by rw[h4];exact hpg.1) ⟨b,o,hb1,hpart⟩ hpl hv0 ho hb fun S2 m2 hs2=>?_
   have hd:C.dat f=l:=by rw[h4];exact hpg.2.2
   have hwk:=hr.wk.pg m q l h3
   have e:wr C.dat f off v=upd C.dat (φ m q) (spB l off v):=by unfold wr;rw[hd,h4]
   have hs2':StoreD S2 ρ1 A1.m C.N (upd C.dat (φ m q) (spB l off v)):=by rw[←e];exact hs2
   refine hY m q l S2 ρ1 A1 ca h0 h1 h2 h3 (m1'.trans (m2.mono fun r hr'=>by omega)) (hc1.setStore m2 hs2') (hr1.setO h3 ⟨by rw[ziw (by rw[hwk.2.2.1];exact ho)];exact hwk.2.2.1,zix hwk.2.2.2 hb⟩) ht hx
  | false=>
   rw[if_neg (by decide)]
   exact hN 11 S1 ρ1 A1 ca (.inr (.inr (.inr ⟨m,q,h2⟩))) (by decide) m1' hc1 hr1 ht hx
 ·refine⟨rfl,?_⟩
  simp only[jn]
  rw[if_pos he]
  refine hN e S1 ρ A C.cache ?_ he (Mv.keeps hc.rg hk1) (hc.keeps hk1) hr rfl rfl
  rcases hr.walk_none hon hw with e | e | e
  ·exact .inl e
  ·exact .inr (.inl e)
  ·exact .inr (.inr (.inl e))
def BI (h n:Nat) (C:Cst) (W:Wd) (φ:Nat→Nat→Nat) (t:Nat) (x:Nat→Vx) (S:Mem) (ρ:Rho) (g:GM):Prop:=
 ∃ A d ca dt,CrabA S ρ h A { C with cache:=ca,dat:=dt }∧Rel { C with cache:=ca,dat:=dt } (W.setDat d) φ∧g=(W.setDat d).gm n∧A.t=t∧A.x=x
abbrev R026 (r:Nat):Prop:=r=0∨r=6∨r=2
theorem znz {n:Nat} (hn:n<6) (hon:(W.vm n).on=true) (hwk:WOk W) (t:Nat) (x:Nat→Vx):Bus (.iface 173 (valL (busL h n))) (BI h n C W φ t x) R026 where
 ifc:=⟨_,_,rfl⟩
 rg:=fun⟨A,d,ca,dt,hc,_⟩=>hc.rg
 ok:=fun⟨A,d,ca,dt,hc,hr,hg,_⟩=>by rw[hg];exact hr.wk.gm n
 gl:=fun⟨A,d,ca,dt,hc,_⟩=>hc.gl
 kp:=fun⟨A,d,ca,dt,hc,hr,hg,ht,hx⟩ hk=>⟨A,d,ca,dt,hc.keeps hk,hr,hg,ht,hx⟩
 load:=by
  rintro S ρ g page off k Q ⟨A,d,ca,dt,hc,hr,rfl,ht,hx⟩ hp hk ho hQ
  have hon':((W.setDat d).vm n).on=true:=hon
  refine zrG (Tr.mono (zdN hc hr hn hon' hk ho (Q:=fun a b S'=>Q (.tuple #[eL a,.int .i64 b]) S') (fun m q w l t' S' ρ' A' ca' h0 h1 h2 h3 m1 hc1 hr1 ht1 hx1 hrow hfr=>?_) fun e S' hbad he hk1=>?_) ?_)
  ·rw[Int.toNat_natCast] at h2
   have hl:=hr.wk.pg m q l h3
   refine hQ S' ρ' t' 0 (m1.mono fun r hr'=>by unfold R026;omega) ⟨A',d,ca',dt,hc1,hr1,rfl,by rw[ht1,ht],by rw[hx1,hx]⟩ ?_
   have e:ldB ((W.setDat d).gm n) page off k=some (rdB l off k):=by
    unfold ldB
    rw[zbr (by omega),h2,Option.map_some,Option.map_some,zfm hl.2.1,h3];rfl
   rw[e]
   exact⟨rfl,znR hrow fun x hx'=>hl.2.2.2 x (List.mem_of_mem_drop (List.mem_of_mem_take hx'))⟩
  ·refine hQ S' ρ _ e (Mv.keeps hc.rg hk1) ⟨A,d,ca,dt,hc.keeps hk1,hr,rfl,ht,hx⟩ ?_
   have e2:ldB ((W.setDat d).gm n) page off k=none:=by
    unfold ldB
    rw[zbr (by omega)]
    rw[Int.toNat_natCast] at hbad
    rcases hbad with h1 | h1 | h1
    ·omega
    ·omega
    ·rw[h1];rfl
   rw[e2]
   exact⟨he,rfl,Nat.le_refl _,fun _ h=>by simp at h,.inl rfl⟩
  ·rintro v S' ⟨a,b,rfl,h⟩;exact h
 save:=by
  rintro S ρ g page off sl l Q ⟨A,d,ca,dt,hc,hr,rfl,ht,hx⟩ hp ho hby hfr hl8 hQ
  have hon':((W.setDat d).vm n).on=true:=hon
  obtain⟨b,o,hb1,hb2⟩:=hby.part (by omega)
  have hW:=fun m q l h=>((hwk.pg m q l h).2.1:q<32)
  refine zrG (Tr.mono (zdM hc hr hn hon' (v:=l) (off:=off) ⟨b,o,hb1,hb2,fun r e=>by rw[hfr b o hb1] at e;cases e⟩ hby.len (fun e=>by rw[e] at hl8;simp at hl8) (by omega) hby.bd (Q:=fun b S'=>Q (.int .i64 b) S') (fun m q l2 S' ρ' A' ca' h0 h1 h2 h3 m1 hc1 hr1 ht1 hx1=>?_) fun e S' ρ' A' ca' hbad he m1 hc1 hr1 ht1 hx1=>?_) ?_)
  ·rw[Int.toNat_natCast] at h2
   have hl:=hr.wk.pg m q l2 h3
   have hW':∀ m q l,(W.setDat d).own m q=some l→q<32:=fun m q l h=>(hr.wk.pg m q l h).2.1
   obtain⟨l0,hl0⟩:∃ l0,W.own m q=some l0:=by
    have h4:((W.setDat d).own m q).isSome=true:=by rw[h3];rfl
    rw[zln] at h4
    exact Option.isSome_iff_exists.1 h4
   rw[zgF hW hl0] at hr1
   refine hQ S' ρ' _ 0 (m1.mono fun r hr'=>hr') ⟨A',_,ca',_,hc1,hr1,rfl,by rw[ht1,ht],by rw[hx1,hx]⟩ ?_
   rw[zbr (by omega),h2]
   refine⟨rfl,?_⟩
   rw[←zgF hW hl0]
   exact zmj h3 hl.2.1 hW' rfl
  ·refine hQ S' ρ' _ e (m1.mono fun r hr'=>hr') ⟨A',d,ca',dt,hc1,hr1,rfl,by rw[ht1,ht],by rw[hx1,hx]⟩ ?_
   rw[zbr (by omega)]
   rw[Int.toNat_natCast] at hbad
   rcases hbad with h1 | h1 | h1 | ⟨m,q,h1⟩
   ·omega
   ·omega
   ·rw[h1];exact⟨he,rfl⟩
   ·rw[h1];exact⟨he,rfl⟩
  ·rintro v S' ⟨r,rfl,h⟩;exact h
end
end Go.Proofs.YtabdpmnhjlmnlaaGreatDoor
end
namespace Go.Proofs.YtabdpmnhjlmnlaaGreatDoor
section
open Go Go.Pt Go.Proofs.Tryz
attribute [local irreducible] lt WD WN Code.wp Back bodyPost wpList FR WL WC WQ WA AW Tr Yc HC AllC
set_option maxRecDepth 20000
set_option maxHeartbeats 4000000
def wJ (S:Mem) (b:List Value) (n:Int) (vm:Int) (atx:Int) (Q:List Value→Int→Mem→Prop):Prop:=
 b.length=96 ∧
 yi S b n fun t t_1 Sx=>
 t.all (·.oneCell')=true ∧
 jn (fun (v:List Value) (Sx_1:Mem)=>
 v.length=96 ∧
 0≤n∧n<16 ∧
 (spl b (0+n.toNat*6+5) ([.int .i64 atx])).all (·.oneCell')=true ∧
 Q (spl b (0+n.toNat*6+5) ([.int .i64 atx])) 0 Sx_1) fun Jx=>
 if t_1≠0 then
 b.all (·.oneCell')=true ∧
 Q b t_1 Sx
 else
 gI (nthL t 3) .i64 fun t_2=>
 if t_2≠vm then
 b.all (·.oneCell')=true ∧
 Q b 7 Sx
 else
 gI (nthL t 5) .i64 fun t_3=>
 if 0≤t_3 then
 b.all (·.oneCell')=true ∧
 Q b 8 Sx
 else
 je Sx vm atx fun t_4 Sx_2=>
 if t_4=true then
 Jx z72 Sx_2
 else
 b.all (·.oneCell')=true ∧
 Q b 1 Sx_2
theorem zby {S:Mem} {b:List Value} {n:Int} {vm:Int} {atx:Int} {Q:List Value→Int→Mem→Prop} (H:wJ S b n vm atx Q):vC S b n vm atx Q:=by
 unfold wJ at H
 exact Tr.intro func222 E ntmps222 E fun w0=>an H fun hb H1=>csr<|gu E E E fun b_1=>by refine qk E fun b_2=>?_;exact gv E E<|nxr<|by refine s_v E (qa E hb) (zx (k:=96) 0 E (ze hb)) ?_;exact mv E E<|qP E E H1 fun rv Sx H2=>by obtain⟨t,t_1,rfl,ht,H3⟩:=H2;exact mv E E<|s_p E (zj E E)<|s_p E (zj E E)<|by refine qk E fun b_3=>?_;exact an H3 fun c H4=>zl 2 E E E E E ht E c<|gv E E<|nx<|zp H4 (fun (J:List Value→Mem→Prop) (z:List Value) S=>J z S) (fun z=>⟨45,[(1,.int .i64 n),(3,.int .i64 atx),(4,.pointer (some ⟨b_1,0,none⟩)),(8,.pointer (some ⟨b_2,0,none⟩))]⟩) (fun z=>[⟨b_1,72,b⟩,⟨b_2,72,z⟩]) (fun v Sx_1 H5=>an H5 fun hv H6=>csr<|mv E E<|mv E E<|an2 H6 fun c_1 c_2 H7=>s_p E (qb E E c_1 c_2 E)<|s_p E (zv E E)<|qu (sz:=1) (vs:=[.int .i64 atx]) 0 E E E E E E (zY hb (by omega)) E<|nxr<|by refine s_v E (qa E (zq hb (by have:=True.intro;(try simp only[List.length_cons,List.length_nil]);omega))) (zx (k:=96) 0 E (ze (zq hb (by have:=True.intro;(try simp only[List.length_cons,List.length_nil]);omega)))) ?_;exact an H7 fun c_3 H8=>zl 1 E E E E E (zq hb (by have:=True.intro;(try simp only[List.length_cons,List.length_nil]);omega)) hv c_3<|gv E E<|nx<|zo<|zn results222 (zr E (zx (k:=96) 1 E (ze (zq hb (by have:=True.intro;(try simp only[List.length_cons,List.length_nil]);omega)))) (zq hb (by have:=True.intro;(try simp only[List.length_cons,List.length_nil]);omega)) (zd E zg)) ⟨_,_,E,zq hb (by have:=True.intro;(try simp only[List.length_cons,List.length_nil]);omega),H8⟩) (fun Jx hJx H9=>zE<|csr<|mv E E<|iteK H9 (fun c_4 H10=>s_p E (yT (qw E E) c_4)<|gv E E<|nx<|c_t E E<|csr<|by refine s_v E (qa E hb) (zx (k:=96) 0 E (ze hb)) ?_;exact mv E E<|an H10 fun c_5 H11=>zl 1 E E E E E hb vw c_5<|gv E E<|nx<|zo<|zh<|zb<|zn results222 (zr E (zx (k:=96) 1 E (ze hb)) hb (zd E zg)) ⟨_,_,E,hb,H11⟩) fun c_4 H10=>s_p E (yF (qw E E) c_4)<|gv E E<|nx<|c_f E E<|csr<|s_p E (zv E E)<|gx H10 fun t_2 ht_2 H12=>s_v E (zF E) (qm 2 E ht_2)<|mv E E<|iteK H12 (fun c_6 H13=>s_p E (yT (qw E E) c_6)<|gv E E<|nx<|c_t E E<|csr<|by refine s_v E (qa E hb) (zx (k:=96) 0 E (ze hb)) ?_;exact an H13 fun c_7 H14=>zl 1 E E E E E hb vw c_7<|gv E E<|nx<|zo<|zh<|zb<|zn results222 (zr E (zx (k:=96) 1 E (ze hb)) hb (zd E zg)) ⟨_,_,E,hb,H14⟩) fun c_6 H13=>s_p E (yF (qw E E) c_6)<|gv E E<|nx<|c_f E E<|csr<|s_p E (zv E E)<|gx H13 fun t_3 ht_3 H15=>s_v E (zF E) (qm 2 E ht_3)<|iteK H15 (fun c_8 H16=>s_p E (yT (wP E E) c_8)<|gv E E<|nx<|c_t E E<|csr<|by refine s_v E (qa E hb) (zx (k:=96) 0 E (ze hb)) ?_;exact an H16 fun c_9 H17=>zl 1 E E E E E hb vw c_9<|gv E E<|nx<|zo<|zh<|zb<|zn results222 (zr E (zx (k:=96) 1 E (ze hb)) hb (zd E zg)) ⟨_,_,E,hb,H17⟩) fun c_8 H16=>s_p E (yF (wP E E) c_8)<|gv E E<|nx<|c_f E E<|csr<|mv E E<|mv E E<|vv E E H16 fun t_4 Sx_2 H18=>by have H19:=zbG H18;rcases H19 with ⟨rfl,H20⟩ | ⟨rfl,H20⟩;exact (s_p E (yB (qC E) E)<|gv E E<|nx<|cfs E E<|zX<|hJx z72 _ _ _ _ [0,0] H20 E ⟨E,E,E,E,True.intro⟩ E);exact (s_p E (yB (qC E) E)<|gv E E<|nx<|c_t E E<|csr<|by refine s_v E (qa E hb) (zx (k:=96) 0 E (ze hb)) ?_;exact an H20 fun c_10 H21=>zl 1 E E E E E hb vw c_10<|gv E E<|nx<|zo<|zh<|zb<|zn results222 (zr E (zx (k:=96) 1 E (ze hb)) hb (zd E zg)) ⟨_,_,E,hb,H21⟩))
def ju (S:Mem) (b:List Value) (vm:Int) (page:Int) (Q:Int→Mem→Prop):Prop:=
 b.length=96 ∧
 jn (fun (Sx:Mem)=>
 Q (-1) Sx) fun Jx=>
 lp (fun Xx (t:Int) (Sx_1:Mem)=>
 if t<16 then
 0≤t∧t<16 ∧
 gA (lpart b (t.toNat*6) 6) fun t_1=>
 t_1.all (·.oneCell')=true ∧
 gB (nthL t_1 0) fun t_2=>
 if t_2=true then
 gI (nthL t_1 3) .i64 fun t_3=>
 if t_3=vm then
 gI (nthL t_1 5) .i64 fun t_4=>
 if t_4=page then
 if 0≤page then
 Q t Sx_1
 else
 Xx (IntKind.i64.wrap (t+1)) Sx_1
 else
 Xx (IntKind.i64.wrap (t+1)) Sx_1
 else
 Xx (IntKind.i64.wrap (t+1)) Sx_1
 else
 Xx (IntKind.i64.wrap (t+1)) Sx_1
 else
 Jx Sx_1) 0 S
theorem zeC {S:Mem} {b:List Value} {vm:Int} {page:Int} {Q:Int→Mem→Prop} (H:ju S b vm page Q):fc S b vm page Q:=by
 unfold ju at H
 have:=dj1 8 []
 have:=dj0 (α:=Int) 3 [1,2,9] (fun z=>[(10,.int .i64 z)])
 exact Tr.intro func159 E ntmps159 E fun w0=>go results159 H
def kE (S:Mem) (b:List Value) (n:Int) (Q:List Value→Int→Mem→Prop):Prop:=
 b.length=96 ∧
 jn (fun (v:List Value) (Sx:Mem)=>
 v.length=6 ∧
 0≤n∧n<16 ∧
 gA (lpart b (0+n.toNat*6) 6) fun a=>
 a.all (·.oneCell')=true ∧
 Q a 0 Sx) fun Jx=>
 if n<0 then
 Q ([.bool false,.int .i64 0,.int .i64 0,.int .i64 0,.bool false,.int .i64 0]) 2 S
 else
 if 16≤n then
 Q ([.bool false,.int .i64 0,.int .i64 0,.int .i64 0,.bool false,.int .i64 0]) 2 S
 else
 0≤n∧n<16 ∧
 gB (nthL b (0+n.toNat*6)) fun t=>
 if t=true then
 Jx ([.bool false,.int .i64 0,.int .i64 0,.int .i64 0,.bool false,.int .i64 0]) S
 else
 Q ([.bool false,.int .i64 0,.int .i64 0,.int .i64 0,.bool false,.int .i64 0]) 2 S
theorem zdZ {S:Mem} {b:List Value} {n:Int} {Q:List Value→Int→Mem→Prop} (H:kE S b n Q):yi S b n Q:=by
 unfold kE at H
 have:=dj (α:=List Value×Unit) 4 [1,2,4] (fun _=>[]) (fun z=>[(0,none),(1,some z.1)])
 exact Tr.intro func145 E ntmps145 E fun w0=>go results145 H
def ve (S:Mem) (b:List Value) (n:Int) (vm:Int) (Q:List Value→Int→Mem→Prop):Prop:=
 b.length=96 ∧
 yi S b n fun t t_1 Sx=>
 t.all (·.oneCell')=true ∧
 jn (fun (v:List Value) (Sx_1:Mem)=>
 v.length=96 ∧
 0≤n∧n<16 ∧
 (spl b (0+n.toNat*6+5) ([.int .i64 (-1)])).all (·.oneCell')=true ∧
 Q (spl b (0+n.toNat*6+5) ([.int .i64 (-1)])) 0 Sx_1) fun Jx=>
 if t_1≠0 then
 b.all (·.oneCell')=true ∧
 Q b t_1 Sx
 else
 gI (nthL t 3) .i64 fun t_2=>
 if t_2≠vm then
 b.all (·.oneCell')=true ∧
 Q b 7 Sx
 else
 gI (nthL t 5) .i64 fun t_3=>
 if t_3<0 then
 b.all (·.oneCell')=true ∧
 Q b 10 Sx
 else
 Jx z72 Sx
theorem zcj {S:Mem} {b:List Value} {n:Int} {vm:Int} {Q:List Value→Int→Mem→Prop} (H:ve S b n vm Q):wC S b n vm Q:=by
 unfold ve at H
 exact Tr.intro func223 E ntmps223 E fun w0=>an H fun hb H1=>csr<|gu E E E fun b_1=>by refine qk E fun b_2=>?_;exact gv E E<|nxr<|by refine s_v E (qa E hb) (zx (k:=96) 0 E (ze hb)) ?_;exact mv E E<|qP E E H1 fun rv Sx H2=>by obtain⟨t,t_1,rfl,ht,H3⟩:=H2;exact mv E E<|s_p E (zj E E)<|s_p E (zj E E)<|by refine qk E fun b_3=>?_;exact an H3 fun c H4=>zl 2 E E E E E ht E c<|gv E E<|nx<|zp H4 (fun (J:List Value→Mem→Prop) (z:List Value) S=>J z S) (fun z=>⟨36,[(1,.int .i64 n),(3,.pointer (some ⟨b_1,0,none⟩)),(6,.pointer (some ⟨b_2,0,none⟩))]⟩) (fun z=>[⟨b_1,72,b⟩,⟨b_2,72,z⟩]) (fun v Sx_1 H5=>an H5 fun hv H6=>csr<|mv E E<|an2 H6 fun c_1 c_2 H7=>s_p E (qb E E c_1 c_2 E)<|s_p E (zv E E)<|qu (sz:=1) (vs:=[.int .i64 (-1)]) 0 E E E E E E (zY hb (by omega)) E<|nxr<|by refine s_v E (qa E (zq hb (by have:=True.intro;(try simp only[List.length_cons,List.length_nil]);omega))) (zx (k:=96) 0 E (ze (zq hb (by have:=True.intro;(try simp only[List.length_cons,List.length_nil]);omega)))) ?_;exact an H7 fun c_3 H8=>zl 1 E E E E E (zq hb (by have:=True.intro;(try simp only[List.length_cons,List.length_nil]);omega)) hv c_3<|gv E E<|nx<|zo<|zn results223 (zr E (zx (k:=96) 1 E (ze (zq hb (by have:=True.intro;(try simp only[List.length_cons,List.length_nil]);omega)))) (zq hb (by have:=True.intro;(try simp only[List.length_cons,List.length_nil]);omega)) (zd E zg)) ⟨_,_,E,zq hb (by have:=True.intro;(try simp only[List.length_cons,List.length_nil]);omega),H8⟩) (fun Jx hJx H9=>zE<|csr<|mv E E<|iteK H9 (fun c_4 H10=>s_p E (yT (qw E E) c_4)<|gv E E<|nx<|c_t E E<|csr<|by refine s_v E (qa E hb) (zx (k:=96) 0 E (ze hb)) ?_;exact mv E E<|an H10 fun c_5 H11=>zl 1 E E E E E hb vw c_5<|gv E E<|nx<|zo<|zh<|zb<|zn results223 (zr E (zx (k:=96) 1 E (ze hb)) hb (zd E zg)) ⟨_,_,E,hb,H11⟩) fun c_4 H10=>s_p E (yF (qw E E) c_4)<|gv E E<|nx<|c_f E E<|csr<|s_p E (zv E E)<|gx H10 fun t_2 ht_2 H12=>s_v E (zF E) (qm 2 E ht_2)<|mv E E<|iteK H12 (fun c_6 H13=>s_p E (yT (qw E E) c_6)<|gv E E<|nx<|c_t E E<|csr<|by refine s_v E (qa E hb) (zx (k:=96) 0 E (ze hb)) ?_;exact an H13 fun c_7 H14=>zl 1 E E E E E hb vw c_7<|gv E E<|nx<|zo<|zh<|zb<|zn results223 (zr E (zx (k:=96) 1 E (ze hb)) hb (zd E zg)) ⟨_,_,E,hb,H14⟩) fun c_6 H13=>s_p E (yF (qw E E) c_6)<|gv E E<|nx<|c_f E E<|csr<|s_p E (zv E E)<|gx H13 fun t_3 ht_3 H15=>s_v E (zF E) (qm 2 E ht_3)<|iteK H15 (fun c_8 H16=>s_p E (yT (zQ E E) c_8)<|gv E E<|nx<|c_t E E<|csr<|by refine s_v E (qa E hb) (zx (k:=96) 0 E (ze hb)) ?_;exact an H16 fun c_9 H17=>zl 1 E E E E E hb vw c_9<|gv E E<|nx<|zo<|zh<|zb<|zn results223 (zr E (zx (k:=96) 1 E (ze hb)) hb (zd E zg)) ⟨_,_,E,hb,H17⟩) fun c_8 H16=>s_p E (yF (zQ E E) c_8)<|gv E E<|nx<|cfs E E<|zX<|hJx z72 _ _ _ _ [0,0] H16 E ⟨E,E,E,True.intro⟩ E)
def vL (S:Mem) (b:List Value) (vm:Int) (page:Int) (Q:Bool→Mem→Prop):Prop:=
 b.length=96 ∧
 jn (fun (Sx:Mem)=>
 Q false Sx) fun Jx=>
 lp (fun Xx (t:Int) (Sx_1:Mem)=>
 if t<16 then
 0≤t∧t<16 ∧
 gA (lpart b (t.toNat*6) 6) fun t_1=>
 t_1.all (·.oneCell')=true ∧
 gB (nthL t_1 0) fun t_2=>
 if t_2=true then
 gI (nthL t_1 1) .i64 fun t_3=>
 if t_3=vm then
 gI (nthL t_1 2) .i64 fun t_4=>
 if t_4=page then
 Q true Sx_1
 else
 Xx (IntKind.i64.wrap (t+1)) Sx_1
 else
 Xx (IntKind.i64.wrap (t+1)) Sx_1
 else
 Xx (IntKind.i64.wrap (t+1)) Sx_1
 else
 Jx Sx_1) 0 S
theorem zcU {S:Mem} {b:List Value} {vm:Int} {page:Int} {Q:Bool→Mem→Prop} (H:vL S b vm page Q):jf S b vm page Q:=by
 unfold vL at H
 have:=dj1 8 []
 have:=dj0 (α:=Int) 3 [1,2,9] (fun z=>[(10,.int .i64 z)])
 exact Tr.intro func225 E ntmps225 E fun w0=>go results225 H
def vd (S:Mem) (b:List Value) (fromx:Int) (page:Int) (to:Int) (write:Bool) (Q:List Value→Int→Int→Mem→Prop):Prop:=
 b.length=96 ∧
 jn (fun (v:List Value) (Sx:Mem)=>
 v.length=96 ∧
 jn (fun (b_3:List Value) (v_1:List Value) (Sx_1:Mem)=>
 b_3.length=96 ∧
 v_1.length=96 ∧
 b_3.all (·.oneCell')=true ∧
 Q b_3 0 3 Sx_1) fun Jx=>
 lp (fun Xx (z:Int×List Value×List Value) (Sx_2:Mem)=>
 match z with
 | (t,b_4,v_2)=>
 b_4.length=96 ∧
 v_2.length=96 ∧
 if t<16 then
 0≤t∧t<16 ∧
 gA (lpart b (t.toNat*6) 6) fun t_1=>
 t_1.all (·.oneCell')=true ∧
 gB (nthL t_1 0) fun t_2=>
 if t_2=true then
 Xx (IntKind.i64.wrap (t+1),b_4,v_2) Sx_2
 else
 0≤t∧t<16 ∧
 (spl b_4 (0+t.toNat*6) ([.bool true,.int .i64 fromx,.int .i64 page,.int .i64 to,.bool write,.int .i64 (-1)])).all (·.oneCell')=true ∧
 Q (spl b_4 (0+t.toNat*6) ([.bool true,.int .i64 fromx,.int .i64 page,.int .i64 to,.bool write,.int .i64 (-1)])) t 0 Sx_2
 else
 Jx b_4 v_2 Sx_2) (0,b,v) Sx) fun Jx_1=>
 je S fromx page fun t_3 Sx_3=>
 if t_3=true then
 je Sx_3 to 0 fun t_4 Sx_4=>
 if t_4=true then
 if fromx=to then
 b.all (·.oneCell')=true ∧
 Q b 0 1 Sx_4
 else
 Jx_1 z72 Sx_4
 else
 b.all (·.oneCell')=true ∧
 Q b 0 1 Sx_4
 else
 b.all (·.oneCell')=true ∧
 Q b 0 1 Sx_3
theorem zci {S:Mem} {b:List Value} {fromx:Int} {page:Int} {to:Int} {write:Bool} {Q:List Value→Int→Int→Mem→Prop} (H:vd S b fromx page to write Q):kj S b fromx page to write Q:=by
 unfold vd at H
 exact Tr.intro func221 E ntmps221 E fun w0=>an H fun hb H1=>csr<|gu E E E fun b_1=>by refine qk E fun b_2=>?_;exact gv E E<|gv E E<|nx<|zp H1 (fun (J:List Value→Mem→Prop) (z:List Value) S=>J z S) (fun z=>⟨49,[(1,.int .i64 fromx),(2,.int .i64 page),(3,.int .i64 to),(4,.bool write),(5,.pointer (some ⟨b_1,0,none⟩)),(10,.pointer (some ⟨b_2,0,none⟩))]⟩) (fun z=>[⟨b_1,72,b⟩,⟨b_2,72,z⟩]) (fun v Sx H2=>an H2 fun hv H3=>zp H3 (fun (J:List Value→List Value→Mem→Prop) (z:List Value×List Value) S=>J z.1 z.2 S) (fun z=>⟨49,[(5,.pointer (some ⟨b_1,0,none⟩)),(10,.pointer (some ⟨b_2,0,none⟩))]⟩) (fun z=>[⟨b_1,72,z.1⟩,⟨b_2,72,z.2⟩]) (by rintro⟨b_3,v_1⟩ Sx_1 H4;exact an H4 fun hb_3 H5=>an H5 fun hv_1 H6=>csr<|by refine s_v E (qa E hb_3) (zx (k:=96) 0 E (ze hb_3)) ?_;exact an H6 fun c H7=>zl 1 E E E E E hb_3 hv_1 c<|gv E E<|gv E E<|nx<|zo<|zn results221 (zr E (zx (k:=96) 1 E (ze hb_3)) hb_3 (zd E (zd E zg))) ⟨_,_,_,E,hb_3,H7⟩) (fun Jx hJx H8=>csr<|by refine s_v E (qa E hb) (zx (k:=96) 0 E (ze hb)) ?_;exact mv E E<|nx<|zE<|xM (fun z=>⟨49,[(1,.int .i64 fromx),(2,.int .i64 page),(3,.int .i64 to),(4,.bool write),(5,.pointer (some ⟨b_1,0,none⟩)),(10,.pointer (some ⟨b_2,0,none⟩)),(30,valL b),(31,.int .i64 z.1)]⟩) (fun z=>[⟨b_1,72,z.2.1⟩,⟨b_2,72,z.2.2⟩]) (0,b,v) (idx:=[0,0]) H8 E ⟨E,E,E,E,E,E,E,E,True.intro⟩ E<|by rintro Xx hXx ⟨t,b_4,v_2⟩ Sx_2 H9;exact an H9 fun hb_4 H10=>an H10 fun hv_2 H11=>csr<|iteK H11 (fun c_1 H12=>s_p E (yT (zQ E E) c_1)<|nx<|zO<|c_t E E<|yu<|zC<|zO<|zE<|csr<|mv E E<|an2 H12 fun c_2 c_3 H13=>gx H13 fun t_1 ht_1 H14=>s_p E (znH E E c_2 c_3 ht_1)<|by refine qk E fun b_5=>?_;exact gv E E<|an H14 fun c_4 H15=>zl 2 E E E E E ((qL ht_1).2.2) E c_4<|nxr<|s_p E (zv E E)<|gx H15 fun t_2 ht_2 H16=>by have H17:=zbG H16;rcases H17 with ⟨rfl,H18⟩ | ⟨rfl,H18⟩;exact (s_v E (zF E) (qm 2 E ht_2)<|s_p E (yB (qC E) E)<|nx<|cfs E E<|zX<|zC<|zw<|s_p E (qy E E)<|mv E E<|zu<|hXx (IntKind.i64.wrap (t+1),b_4,v_2) _ _ _ _ [0,0] H18 E ⟨E,E,E,E,E,E,E,E,True.intro⟩ E);exact (s_v E (zF E) (qm 2 E ht_2)<|s_p E (yB (qC E) E)<|nx<|c_t E E<|csr<|mv E E<|mv E E<|mv E E<|mv E E<|mv E E<|s_p E (qj E E)<|by exact an2 H18 fun c_5 c_6 H19=>s_p E (qb E E c_5 c_6 E)<|qu (sz:=6) (vs:=[.bool true,.int .i64 fromx,.int .i64 page,.int .i64 to,.bool write,.int .i64 (-1)]) 0 E E E E E E (zY hb_4 (by omega)) E<|nxr<|by refine s_v E (qa E (zq hb_4 (by have:=True.intro;(try simp only[List.length_cons,List.length_nil]);omega))) (zx (k:=96) 0 E (ze (zq hb_4 (by have:=True.intro;(try simp only[List.length_cons,List.length_nil]);omega)))) ?_;exact mv E E<|an H19 fun c_7 H20=>zl 1 E E E E E (zq hb_4 (by have:=True.intro;(try simp only[List.length_cons,List.length_nil]);omega)) hv_2 c_7<|gv E E<|gv E E<|nx<|zo<|zh<|zb<|zb<|zh<|zb<|zn results221 (zr E (zx (k:=96) 1 E (ze (zq hb_4 (by have:=True.intro;(try simp only[List.length_cons,List.length_nil]);omega)))) (zq hb_4 (by have:=True.intro;(try simp only[List.length_cons,List.length_nil]);omega)) (zd E (zd E zg))) ⟨_,_,_,E,zq hb_4 (by have:=True.intro;(try simp only[List.length_cons,List.length_nil]);omega),H20⟩)) fun c_1 H12=>s_p E (yF (zQ E E) c_1)<|nx<|zO<|c_f E E<|yg<|zm<|zm<|zU<|hJx (b_4,v_2) _ _ _ _ [0,0] H12 E ⟨E,E,True.intro⟩ E)) (fun Jx_1 hJx_1 H21=>csr<|mv E E<|mv E E<|vv E E H21 fun t_3 Sx_3 H22=>by have H23:=zbG H22;rcases H23 with ⟨rfl,H24⟩ | ⟨rfl,H24⟩;exact (s_p E (yB (qC E) E)<|mv E E<|mv E E<|vv E E H24 fun t_4 Sx_4 H25=>by have H26:=zbG H25;rcases H26 with ⟨rfl,H27⟩ | ⟨rfl,H27⟩;exact (s_p E (yB (qC E) E)<|pk E E E<|mv E E<|mv E E<|mv E E<|iteK H27 (fun c_8 H28=>ceT E E E (c_8)<|pk E E E<|nx<|c_t E E<|csr<|by refine s_v E (qa E hb) (zx (k:=96) 0 E (ze hb)) ?_;exact an H28 fun c_9 H29=>zl 1 E E E E E hb vw c_9<|gv E E<|gv E E<|nx<|zo<|zb<|zn results221 (zr E (zx (k:=96) 1 E (ze hb)) hb (zd E (zd E zg))) ⟨_,_,_,E,hb,H29⟩) fun c_8 H28=>ceF E E E (c_8)<|pk E E E<|nx<|cfs E E<|hJx_1 z72 _ _ _ _ [0,0] H28 E ⟨E,E,E,E,E,E,True.intro⟩ E);exact (s_p E (yB (qC E) E)<|pk E E E<|mv E E<|sk2 E E<|zG E<|pk E E E<|nx<|c_t E E<|csr<|by refine s_v E (qa E hb) (zx (k:=96) 0 E (ze hb)) ?_;exact an H27 fun c_10 H30=>zl 1 E E E E E hb vw c_10<|gv E E<|gv E E<|nx<|zo<|zb<|zn results221 (zr E (zx (k:=96) 1 E (ze hb)) hb (zd E (zd E zg))) ⟨_,_,_,E,hb,H30⟩));exact (s_p E (yB (qC E) E)<|mv E E<|sk2 E E<|zG E<|pk E E E<|mv E E<|sk2 E E<|zG E<|pk E E E<|nx<|c_t E E<|csr<|by refine s_v E (qa E hb) (zx (k:=96) 0 E (ze hb)) ?_;exact an H24 fun c_11 H31=>zl 1 E E E E E hb vw c_11<|gv E E<|gv E E<|nx<|zo<|zb<|zn results221 (zr E (zx (k:=96) 1 E (ze hb)) hb (zd E (zd E zg))) ⟨_,_,_,E,hb,H31⟩))
def xN (S:Mem) (b:List Value) (n:Int) (vm:Int) (Q:List Value→Int→Mem→Prop):Prop:=
 b.length=96 ∧
 yi S b n fun t t_1 Sx=>
 t.all (·.oneCell')=true ∧
 jn (fun (v:List Value) (Sx_1:Mem)=>
 v.length=96 ∧
 0≤n∧n<16 ∧
 (spl b (0+n.toNat*6) ([.bool false,.int .i64 0,.int .i64 0,.int .i64 0,.bool false,.int .i64 0])).all (·.oneCell')=true ∧
 Q (spl b (0+n.toNat*6) ([.bool false,.int .i64 0,.int .i64 0,.int .i64 0,.bool false,.int .i64 0])) 0 Sx_1) fun Jx=>
 if t_1≠0 then
 b.all (·.oneCell')=true ∧
 Q b t_1 Sx
 else
 gI (nthL t 1) .i64 fun t_2=>
 if t_2≠vm then
 b.all (·.oneCell')=true ∧
 Q b 7 Sx
 else
 gI (nthL t 5) .i64 fun t_3=>
 if 0≤t_3 then
 b.all (·.oneCell')=true ∧
 Q b 8 Sx
 else
 Jx z72 Sx
theorem zai {S:Mem} {b:List Value} {n:Int} {vm:Int} {Q:List Value→Int→Mem→Prop} (H:xN S b n vm Q):yD S b n vm Q:=by
 unfold xN at H
 exact Tr.intro func224 E ntmps224 E fun w0=>an H fun hb H1=>csr<|gu E E E fun b_1=>by refine qk E fun b_2=>?_;exact gv E E<|nxr<|by refine s_v E (qa E hb) (zx (k:=96) 0 E (ze hb)) ?_;exact mv E E<|qP E E H1 fun rv Sx H2=>by obtain⟨t,t_1,rfl,ht,H3⟩:=H2;exact mv E E<|s_p E (zj E E)<|s_p E (zj E E)<|by refine qk E fun b_3=>?_;exact an H3 fun c H4=>zl 2 E E E E E ht E c<|gv E E<|nx<|zp H4 (fun (J:List Value→Mem→Prop) (z:List Value) S=>J z S) (fun z=>⟨36,[(1,.int .i64 n),(3,.pointer (some ⟨b_1,0,none⟩)),(6,.pointer (some ⟨b_2,0,none⟩))]⟩) (fun z=>[⟨b_1,72,b⟩,⟨b_2,72,z⟩]) (fun v Sx_1 H5=>an H5 fun hv H6=>csr<|mv E E<|s_p E (qj E E)<|by exact an2 H6 fun c_1 c_2 H7=>s_p E (qb E E c_1 c_2 E)<|qu (sz:=6) (vs:=[.bool false,.int .i64 0,.int .i64 0,.int .i64 0,.bool false,.int .i64 0]) 0 E E E E E E (zY hb (by omega)) E<|nxr<|by refine s_v E (qa E (zq hb (by have:=True.intro;(try simp only[List.length_cons,List.length_nil]);omega))) (zx (k:=96) 0 E (ze (zq hb (by have:=True.intro;(try simp only[List.length_cons,List.length_nil]);omega)))) ?_;exact an H7 fun c_3 H8=>zl 1 E E E E E (zq hb (by have:=True.intro;(try simp only[List.length_cons,List.length_nil]);omega)) hv c_3<|gv E E<|nx<|zo<|zn results224 (zr E (zx (k:=96) 1 E (ze (zq hb (by have:=True.intro;(try simp only[List.length_cons,List.length_nil]);omega)))) (zq hb (by have:=True.intro;(try simp only[List.length_cons,List.length_nil]);omega)) (zd E zg)) ⟨_,_,E,zq hb (by have:=True.intro;(try simp only[List.length_cons,List.length_nil]);omega),H8⟩) (fun Jx hJx H9=>zE<|csr<|mv E E<|iteK H9 (fun c_4 H10=>s_p E (yT (qw E E) c_4)<|gv E E<|nx<|c_t E E<|csr<|by refine s_v E (qa E hb) (zx (k:=96) 0 E (ze hb)) ?_;exact mv E E<|an H10 fun c_5 H11=>zl 1 E E E E E hb vw c_5<|gv E E<|nx<|zo<|zh<|zb<|zn results224 (zr E (zx (k:=96) 1 E (ze hb)) hb (zd E zg)) ⟨_,_,E,hb,H11⟩) fun c_4 H10=>s_p E (yF (qw E E) c_4)<|gv E E<|nx<|c_f E E<|csr<|s_p E (zv E E)<|gx H10 fun t_2 ht_2 H12=>s_v E (zF E) (qm 2 E ht_2)<|mv E E<|iteK H12 (fun c_6 H13=>s_p E (yT (qw E E) c_6)<|gv E E<|nx<|c_t E E<|csr<|by refine s_v E (qa E hb) (zx (k:=96) 0 E (ze hb)) ?_;exact an H13 fun c_7 H14=>zl 1 E E E E E hb vw c_7<|gv E E<|nx<|zo<|zh<|zb<|zn results224 (zr E (zx (k:=96) 1 E (ze hb)) hb (zd E zg)) ⟨_,_,E,hb,H14⟩) fun c_6 H13=>s_p E (yF (qw E E) c_6)<|gv E E<|nx<|c_f E E<|csr<|s_p E (zv E E)<|gx H13 fun t_3 ht_3 H15=>s_v E (zF E) (qm 2 E ht_3)<|iteK H15 (fun c_8 H16=>s_p E (yT (wP E E) c_8)<|gv E E<|nx<|c_t E E<|csr<|by refine s_v E (qa E hb) (zx (k:=96) 0 E (ze hb)) ?_;exact an H16 fun c_9 H17=>zl 1 E E E E E hb vw c_9<|gv E E<|nx<|zo<|zh<|zb<|zn results224 (zr E (zx (k:=96) 1 E (ze hb)) hb (zd E zg)) ⟨_,_,E,hb,H17⟩) fun c_8 H16=>s_p E (yF (wP E E) c_8)<|gv E E<|nx<|cfs E E<|zX<|hJx z72 _ _ _ _ [0,0] H16 E ⟨E,E,E,True.intro⟩ E)
def fE (S:Mem) (vm:Int) (page:Int) (Q:Bool→Mem→Prop):Prop:=
 if 0≤vm then
 if vm<6 then
 if 0≤page then
 Q (decide (page<32)) S
 else
 Q false S
 else
 Q false S
 else
 Q false S
theorem zgy {S:Mem} {vm:Int} {page:Int} {Q:Bool→Mem→Prop} (H:fE S vm page Q):je S vm page Q:=by
 unfold fE at H
 exact Tr.intro func241 E ntmps241 E fun w0=>go results241 H
end
end Go.Proofs.YtabdpmnhjlmnlaaGreatDoor
