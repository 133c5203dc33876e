/- Texts of this work,joined by program (pack.py): Pn,PsG,Ow,Hv,Ry,Cj,Ct,Hw,Hx,Cl,Co,Ce. -/
import Derived.Test.YtabdpmnhjlmnlaaGreatDoorQLI
import Derived.Test.YtabdpmnhjlmnlaaGreatDoorQLE
import Derived.Test.YtabdpmnhjlmnlaaGreatDoorQLC
import Derived.Test.YtabdpmnhjlmnlaaGreatDoorQLF
set_option linter.unusedVariables false
section
namespace Go.Cr
open Go Go.Pt Go.Hp
def freeL (N:Nat) (used:Nat→Bool):List Int:=((List.range N).filter fun i=>! used i).map fun (n:Nat)=>(n:Int)
def uL (N:Nat) (used:Nat→Bool):List Value:=cF N fun i=>[Value.bool (used i)]
end Go.Cr
namespace Go.Proofs.YtabdpmnhjlmnlaaGreatDoor
open Go Go.Pt Go.Cr Go.Hp
structure PoolP (S:Mem) (ρ:Rho) (p N:Nat) (used:Nat→Bool) (left:Int):Prop where
 ex:∃ tb fs us F,Hq.Ck S p 0 tb [eL fs,eL us,.int .i64 left] fs F∧(∀ x∈Hq.own fs,ρ x=some 4)∧Rw S ρ 5 1 us (uL N used)∧F.Perm (freeL N used)
 rol:ρ p=some 3
 lim:N≤512
abbrev R345 (r:Nat):Prop:=r=3∨r=4∨r=5
section
variable {S S':Mem} {ρ ρ':Rho} {R:Nat→Prop} {p N:Nat} {used:Nat→Bool} {left:Int}
theorem zdg {b r:Nat} (m:Mv S ρ S' ρ' R) (hb:S b≠none) (hr:ρ b=some r) (hR:¬R r):S' b=S b:=m.kp b hb fun r' e=>by rw[hr] at e;cases e;exact hR
theorem PoolP.keep (h:PoolP S ρ p N used left) (m:Mv S ρ S' ρ' R) (h3:¬R 3) (h4:¬R 4) (h5:¬R 5):PoolP S' ρ' p N used left:=by
 obtain⟨tb,fs,us,F,hck,ho,hus,hF⟩:=h.ex
 refine⟨⟨tb,fs,us,F,⟨?_,hck.cell,?_,hck.ne,hck.heap,hck.len⟩,fun x hx=>m.ext x 4 (ho x hx),hus.keep m h5,hF⟩,m.ext p 3 h.rol,h.lim⟩
 ·rw[zdg m (by rw[hck.blk];simp) h.rol h3];exact hck.blk
 ·refine hck.row.keep fun b hb=>?_
  have hx:b∈Hq.own fs:=by simp[Hq.own,hb]
  obtain⟨k,hk⟩:=Hq.own_row hck.row hx
  exact zdg m (by rw[hk];simp) (ho b hx) h4
theorem PoolP.keeps (h:PoolP S ρ p N used left) (hg:∀ b r,ρ b=some r→S b≠none) (hk:Keeps S S' []):PoolP S' ρ p N used left:=
 h.keep (Mv.keeps (R:=fun _=>False) hg hk) (fun h=>h) (fun h=>h) (fun h=>h)
end
end Go.Proofs.YtabdpmnhjlmnlaaGreatDoor
namespace Go.Cr
open Go Go.Pt
def leftN (left:Int) (i:Nat):Int:=if left<0 then -1 else left-i
def unmark (u:Nat→Bool) (l:List Nat):Nat→Bool:=l.foldl (fun u f=>upd u f false) u
end Go.Cr
namespace Go.Proofs.YtabdpmnhjlmnlaaGreatDoor
open Go Go.Pt Go.Cr Go.Hp
section
variable {S S':Mem} {ρ ρ':Rho} {R:Nat→Prop} {p N:Nat} {used:Nat→Bool} {left:Int}
end
end Go.Proofs.YtabdpmnhjlmnlaaGreatDoor
end
section
namespace Go.Proofs.YtabdpmnhjlmnlaaGreatDoor
open Go Go.Pt
attribute [local irreducible] Code.wp Back bodyPost wpList FR WL WC WQ WA AW Tr Yc HC AllC
set_option maxRecDepth 20000
set_option maxHeartbeats 4000000
set_option linter.unusedVariables false
end Go.Proofs.YtabdpmnhjlmnlaaGreatDoor
end
section
namespace Go.Cr
open Go Go.Pt
def shC (own:Nat→Ow) (f:Nat) (n:Int):Nat→Ow:=if (own f).kind=3∧(own f).vm=n then upd own f { own f with sh:=(own f).sh+1 } else own
def unshC (own:Nat→Ow) (f:Nat) (n:Int):Nat→Ow:=if (own f).kind=3∧(own f).vm=n∧(own f).sh≠0 then upd own f { own f with sh:=(own f).sh-1 } else own
def recC (own:Nat→Ow) (f:Nat) (n:Int):Nat→Ow:=if (own f).kind=3∧(own f).vm=n∧(own f).sh≤0 then upd own f ow0 else own
def relC (own:Nat→Ow) (f:Nat):Nat→Ow:=if (own f).kind=3∨(own f).kind=0 then own else upd own f ow0
end Go.Cr
namespace Go.Proofs.YtabdpmnhjlmnlaaGreatDoor
open Go Go.Pt Go.Cr
section
variable {S:Mem} {ρ:Rho} {ob N:Nat} {own:Nat→Ow}
end
end Go.Proofs.YtabdpmnhjlmnlaaGreatDoor
end
section
namespace Go.Proofs.YtabdpmnhjlmnlaaGreatDoor
open Go Go.Pt Go.Cr Go.Hp
structure AlmOf (l:List Hk.Al) (alm:Nat→Nat→Option Int):Prop where
 nd:l.Nodup
 of:∀ a∈l,0≤a.vm∧a.vm<6∧0≤a.seat∧a.seat<3∧alm a.vm.toNat a.seat.toNat=some a.tm
 to:∀ n k t,alm n k=some t→(⟨t,n,k⟩:Hk.Al)∈l
theorem AlmOf.eq {l:List Hk.Al} {alm:Nat→Nat→Option Int} (h:AlmOf l alm) {a b:Hk.Al} (ha:a∈l) (hb:b∈l) (e1:a.vm=b.vm) (e2:a.seat=b.seat):a=b:=by
 have h1:=(h.of a ha).2.2.2.2
 have h2:=(h.of b hb).2.2.2.2
 rw[e1,e2,h2] at h1
 obtain⟨t,v,s⟩:=a
 obtain⟨t',v',s'⟩:=b
 simp only at e1 e2 h1
 cases h1;subst e1;subst e2;rfl
theorem AlmOf.len {l:List Hk.Al} {alm:Nat→Nat→Option Int} (h:AlmOf l alm):l.length≤18:=by
 have hnd:(l.map fun a=>(3*a.vm+a.seat).toNat).Nodup:=by
  unfold List.Nodup
  rw[List.pairwise_map]
  have:=h.nd
  rw[List.Nodup,List.pairwise_iff_forall_sublist] at this
  rw[List.pairwise_iff_forall_sublist]
  intro a b hs he
  have ha:a∈l:=hs.subset (by simp)
  have hb:b∈l:=hs.subset (by simp)
  have h1:=h.of a ha
  have h2:=h.of b hb
  exact this hs (h.eq ha hb (by omega) (by omega))
 have:=hnd.length_le_of_subset (l₂:=List.range 18) fun x hx=>by
  obtain⟨a,ha,rfl⟩:=List.mem_map.1 hx
  have h1:=h.of a ha
  rw[List.mem_range];omega
 simpa using this
theorem AlmOf.perm {l l':List Hk.Al} {alm:Nat→Nat→Option Int} (h:AlmOf l alm) (p:l'.Perm l):AlmOf l' alm:=
 ⟨p.nodup_iff.2 h.nd,fun a ha=>h.of a (p.subset ha),fun n k t e=>p.symm.subset (h.to n k t e)⟩
structure ClkP (S:Mem) (ρ:Rho) (kb:Nat) (alm:Nat→Nat→Option Int):Prop where
 ex:∃ tb s l,Hk.Ck S kb 0 tb [eL s] s l∧(∀ x∈Hk.own s,ρ x=some 11)∧AlmOf l alm
 rol:ρ kb=some 10
structure VmP (S:Mem) (ρ:Rho) (i:Nat) (x:Vx) (v:Bv) (fr:List Nat):Prop where
 se:Rw S ρ (30+i) 26 x.ss (v.seats.flatMap Seat.L)
 r:∀ s∈v.seats,s.Ok
 fr:Rw S ρ (40+i) 1 x.fs (nL fr)
 ke:Rw S ρ (50+i) 1 x.ks (bL v.keys)
 di:∀ j,j<4→Rw S ρ (60+4*i+j) 1 (x.d j) (bL (v.disk j))
structure Ad where
 m:Nat
 p:Nat
 t:Nat
 ob:Nat
 kb:Nat
 cs:Sl
 gs:Sl
 es:Nat→Sl
 x:Nat→Vx
def hdL (A:Ad):List Value:=[eP (some (A.m,0)),eP (some (A.p,0)),eL A.cs,eP (some (A.t,0)),eL A.gs]++cF 6 fun i=>[eL (A.es i)]
structure CrabA (S:Mem) (ρ:Rho) (h:Nat) (A:Ad) (C:Cst):Prop where
 rg:∀ b r,ρ b=some r→S b≠none
 g0:ρ 0=none
 gl:Gl S
 hd:Pc S ρ 0 h (hdL A)
 st:StoreD S ρ A.m C.N C.dat
 pl:PoolP S ρ A.p C.N C.used C.left
 ca:Rw S ρ 6 5 A.cs (C.cache.flatMap cwL)
 tt:Pc S ρ 7 A.t (knL C.toKn A.x A.ob A.kb)
 ow:OwnP S ρ A.ob C.N C.own
 ck:ClkP S ρ A.kb C.alm
 gs:Rw S ρ 12 1 A.gs (nL C.region)
 ev:∀ i,i<6→Rw S ρ (20+i) 4 (A.es i) ((C.ev i).flatMap evL)
 vs:∀ i,i<6→VmP S ρ i (A.x i) (C.vm i) (C.fr i)
abbrev Rc (r:Nat):Prop:=r<110
section
variable {S S':Mem} {ρ ρ':Rho} {R:Nat→Prop}
theorem ClkP.keep {kb:Nat} {alm:Nat→Nat→Option Int} (h:ClkP S ρ kb alm) (m:Mv S ρ S' ρ' R) (h1:¬R 10) (h2:¬R 11):ClkP S' ρ' kb alm:=by
 obtain⟨tb,s,l,hck,ho,ha⟩:=h.ex
 refine⟨⟨tb,s,l,⟨?_,hck.cell,?_,hck.ne,hck.heap,hck.len⟩,fun x hx=>m.ext x 11 (ho x hx),ha⟩,m.ext kb 10 h.rol⟩
 ·rw[zdg m (by rw[hck.blk];simp) h.rol h1];exact hck.blk
 ·refine hck.row.keep fun b hb=>?_
  have hx:b∈Hk.own s:=by simp[Hk.own,hb]
  obtain⟨k,hk⟩:=Hk.own_row hck.row hx
  exact zdg m (by rw[hk];simp) (ho b hx) h2
theorem VmP.keep {i:Nat} {x:Vx} {v:Bv} {fr:List Nat} (h:VmP S ρ i x v fr) (m:Mv S ρ S' ρ' R) (hi:i<6) (hR:∀ r,30≤r→r<90→¬R r):VmP S' ρ' i x v fr:=
 ⟨h.se.keep m (hR _ (by omega) (by omega)),h.r,h.fr.keep m (hR _ (by omega) (by omega)),h.ke.keep m (hR _ (by omega) (by omega)),fun j hj=>(h.di j hj).keep m (hR _ (by omega) (by omega))⟩
theorem zbS (h:Gl S):S 0≠none:=by
 obtain⟨t,k,hl⟩:=h
 rw[hl];simp
theorem gl_keep (h:Gl S) (m:Mv S ρ S' ρ' R) (h0:ρ 0=none):Gl S':=by
 exact h.keep (m.kp 0 (zbS h) fun r e=>by rw[h0] at e;cases e)
theorem g0_keep (h:Gl S) (m:Mv S ρ S' ρ' R) (h0:ρ 0=none):ρ' 0=none:=by
 cases e:ρ' 0 with
 | none=>rfl
 | some r=>
  have:=m.old 0 r e (zbS h)
  rw[h0] at this;cases this
variable {h:Nat} {A:Ad} {C:Cst}
theorem CrabA.keep (hc:CrabA S ρ h A C) (m:Mv S ρ S' ρ' R) (hR:∀ r,r<90→¬R r):CrabA S' ρ' h A C:=
 ⟨m.rg,g0_keep hc.gl m hc.g0,gl_keep hc.gl m hc.g0,hc.hd.keep m (hR _ (by decide)),hc.st.keep m (hR _ (by decide)) (hR _ (by decide)),hc.pl.keep m (hR _ (by decide)) (hR _ (by decide)) (hR _ (by decide)),hc.ca.keep m (hR _ (by decide)),hc.tt.keep m (hR _ (by decide)),hc.ow.keep m (hR _ (by decide)) (hR _ (by decide)),hc.ck.keep m (hR _ (by decide)) (hR _ (by decide)),hc.gs.keep m (hR _ (by decide)),fun i hi=>(hc.ev i hi).keep m (hR _ (by omega)),fun i hi=>(hc.vs i hi).keep m hi fun r _ h2=>hR r h2⟩
theorem CrabA.keeps (hc:CrabA S ρ h A C) (hk:Keeps S S' []):CrabA S' ρ h A C:=hc.keep (Mv.keeps (R:=fun _=>False) hc.rg hk) fun _ _ h=>h
theorem CrabA.mv0 (hc:CrabA S ρ h A C) (hk:Keeps S S' []):Mv S ρ S' ρ Rc:=Mv.keeps hc.rg hk
theorem CrabA.setCache (hc:CrabA S ρ h A C) (m:Mv S ρ S' ρ' (fun r=>r=0∨r=6)) {cs:Sl} {l:List Cw} (hh:Pc S' ρ' 0 h (hdL { A with cs:=cs })) (hs:Rw S' ρ' 6 5 cs (l.flatMap cwL)):CrabA S' ρ' h { A with cs:=cs } { C with cache:=l }:=
 ⟨m.rg,g0_keep hc.gl m hc.g0,gl_keep hc.gl m hc.g0,hh,hc.st.keep m (by decide) (by decide),hc.pl.keep m (by decide) (by decide) (by decide),hs,hc.tt.keep m (by decide),hc.ow.keep m (by decide) (by decide),hc.ck.keep m (by decide) (by decide),hc.gs.keep m (by decide),fun i hi=>(hc.ev i hi).keep m (by omega),fun i hi=>(hc.vs i hi).keep m hi fun r h1 h2=>by omega⟩
theorem zdn:(hdL A).length=11:=by
 unfold hdL
 rw[List.length_append,xp (w:=1) fun _ _=>rfl];rfl
theorem CrabA.c0 (hc:CrabA S ρ h A C):S.cell h 0=some (eP (some (A.m,0))):=hc.hd.cell 0 (by rw[zdn];decide) rfl
theorem CrabA.c1 (hc:CrabA S ρ h A C):S.cell h (0+1)=some (eP (some (A.p,0))):=hc.hd.cell 1 (by rw[zdn];decide) rfl
theorem CrabA.c3 (hc:CrabA S ρ h A C):S.cell h (0+3)=some (eP (some (A.t,0))):=hc.hd.cell 3 (by rw[zdn];decide) rfl
theorem CrabA.c4 (hc:CrabA S ρ h A C):S.cell h (0+4)=some (eL A.gs):=hc.hd.cell 4 (by rw[zdn];decide) rfl
theorem CrabA.vcell (hc:CrabA S ρ h A C) {n j x:Nat} (hn:n<6) (hj:j<12) (hx:x=2+n*12+j):S.cell A.t x=nthL (vmC (A.x n) (C.vm n) (C.tf n) (C.late n)) j:=
 (hc.tt.cell (2+(n*12+j)) (by rw[zjN];omega) (by omega)).trans (zkP hn hj)
theorem CrabA.cap (hc:CrabA S ρ h A C):CaP S ρ 0 h 2 (fun cs=>hdL { A with cs:=cs }) C.cache:=⟨⟨A.cs,hc.hd,hc.ca⟩,fun _=>rfl,fun _ _=>rfl,by decide⟩
end
end Go.Proofs.YtabdpmnhjlmnlaaGreatDoor
end
section
namespace Go.Pt
open Go Go.RowKit Go.Cr
variable {S S':Mem} {ρ ρ':Rho} {r w:Nat} {s:Sl} {l:List Value}
theorem Rw.put (h:Rw S ρ r w s l) (hg:∀ b r,ρ b=Option.some r→S b≠none) {c:Nat} (hc:s.p=Option.some (c,0)) {vs:List Value} {i:Nat} (hi:i+vs.length≤l.length) :
  Mv S ρ (S.put c i vs) ρ (· = r)∧Rw (S.put c i vs) ρ r w s (spl l i vs):=by
 have hl:=h.row.len
 have hcap:=h.row.cap
 have hr:=h.rol c 0 hc
 rcases h.row.lie with ⟨h1,_⟩ | ⟨b,k,h1,h2,h3,h4,h5⟩
 ·rw[h1] at hc;cases hc
 ·rw[h1] at hc;cases hc
  have hm:s.n*w≤s.c*w:=Nat.mul_le_mul_right _ hcap
  rw[wu h2]
  refine⟨Mv.put (R:=(· = r)) (Mv.refl hg) hr rfl _,⟨by rw[qj hi];exact hl,hcap,.inr ⟨c,_,h1,qf,h3,?_,?_⟩⟩,h.rol⟩
  ·simp only;rw[qj (by omega)];exact h4
  ·simp only
   rw[←h5]
   have hkl:k.cs=k.cs.take (s.n*w)++k.cs.drop (s.n*w):=(List.take_append_drop _ _).symm
   have h6:(k.cs.take (s.n*w)).length=s.n*w:=by rw[List.length_take];omega
   have e:spl k.cs i vs=spl (k.cs.take (s.n*w)) i vs++k.cs.drop (s.n*w):=by
    conv=>lhs;rw[hkl]
    exact xU (by omega)
   rw[e,List.take_left' (by rw[qj (by omega)];exact h6)]
theorem Rw.sub (h:Rw S ρ r w s l) {c:Nat} (hc:s.p=Option.some (c,0)) {i:Nat} {v:List Value} (hv:lpart l i v.length=Option.some v):At S c i v:=by
 have hl:=h.row.len
 have hcap:=h.row.cap
 have hi:=(qV hv).1
 rcases h.row.lie with ⟨h1,_⟩ | ⟨b,k,h1,h2,h3,h4,h5⟩
 ·rw[h1] at hc;cases hc
 ·rw[h1] at hc;cases hc
  have hm:s.n*w≤s.c*w:=Nat.mul_le_mul_right _ hcap
  refine⟨k,h2,h3,?_⟩
  rw[qR (by omega)]
  rw[qR hi] at hv
  rw[←hv,←h5]
  congr 1
  apply List.ext_getElem?
  intro j
  simp only[List.getElem?_take,List.getElem?_drop]
  by_cases hj:j<v.length
  ·rw[if_pos hj,if_pos hj,if_pos (by omega)]
  ·rw[if_neg hj,if_neg hj]
end Go.Pt
end
section
namespace Go.Cr
open Go Go.Pt
section
variable {C:Cst} {W:Wd} {φ:Nat→Nat→Nat}
theorem Rel.tell (h:Rel C W φ) (n:Nat) (e:Evt):Rel { C with ev:=upd C.ev n (C.ev n++[e]) } (W.tell n e) φ:=
 { h with wk:={ h.wk with off:=h.wk.off },ev:=by show upd C.ev n (C.ev n++[e])=upd W.ev n (W.ev n++[e]);rw[h.ev] }
theorem WOk.setV (h:WOk W) {n:Nat} {v:Bv} (hon:(W.vm n).on=true) (h1:v.on=true) (h2:v.seats.length=(W.vm n).seats.length) (h3:∀ s∈v.seats,s.Ok) (h4:v.keys.length≤64∧Byt v.keys) (h5:∀ j,(v.disk j).length=256∧Byt (v.disk j)) (h6:v.quota=(W.vm n).quota) (h7:v.bells=(W.vm n).bells):WOk (W.setV n v):=by
 have on':∀ i,((W.setV n v).vm i).on=(W.vm i).on:=fun i=>by
  show (upd W.vm n v i).on=_
  by_cases e:i=n
  ·subst e;rw[zt,h1,hon]
  ·rw[zv e]
 have vm':∀ i,i≠n→(W.setV n v).vm i=W.vm i:=fun i e=>zv e
 have vn:(W.setV n v).vm n=v:=zt
 have be':∀ i,((W.setV n v).vm i).bells=(W.vm i).bells:=fun i=>by
  by_cases e:i=n
  ·subst e;rw[vn,h7]
  ·rw[vm' i e]
 have ql':∀ i,((W.setV n v).vm i).quota=(W.vm i).quota:=fun i=>by
  by_cases e:i=n
  ·subst e;rw[vn,h6]
  ·rw[vm' i e]
 have sl':∀ i,((W.setV n v).vm i).seats.length=(W.vm i).seats.length:=fun i=>by
  by_cases e:i=n
  ·subst e;rw[vn,h2]
  ·rw[vm' i e]
 refine { h with off:=fun i hi=>?_,six:=fun i hi=>by rw[on'];exact h.six i hi,seats:=fun i hi=>?_,ok:=fun i=>?_,keys:=fun i=>?_,disk:=fun i j hi=>?_,quota:=fun i=>by rw[ql'];exact h.quota i,bells:=fun i k=>?_,pg:=fun i p l hl=>?_,most:=fun i=>by rw[ql'];exact h.most i,lsr:=fun i hi=>?_,alarm:=fun i k w hw=>by rw[sl'];exact h.alarm i k w hw }
 ·rw[on'] at hi
  have:i≠n:=fun e=>by subst e;rw[hon] at hi;cases hi
  rw[vm' i this];exact h.off i hi
 ·rw[on'] at hi;rw[sl'];exact h.seats i hi
 ·by_cases e:i=n
  ·subst e;rw[vn];exact h3
  ·rw[vm' i e];exact h.ok i
 ·by_cases e:i=n
  ·subst e;rw[vn];exact h4
  ·rw[vm' i e];exact h.keys i
 ·by_cases e:i=n
  ·subst e;rw[vn];exact h5 j
  ·rw[on'] at hi
   rw[vm' i e];exact h.disk i j hi
 ·rw[be',be',on',on'];exact h.bells i k
 ·rw[on'];exact h.pg i p l hl
 ·rw[on',on'];exact h.lsr i hi
theorem Rel.setV (h:Rel C W φ) {n:Nat} {v:Bv} (hon:(W.vm n).on=true) (h1:v.on=true) (hk:WOk (W.setV n v)):Rel { C with vm:=upd C.vm n v } (W.setV n v) φ:=by
 have on':∀ i,((W.setV n v).vm i).on=(W.vm i).on:=fun i=>by
  show (upd W.vm n v i).on=_
  by_cases e:i=n
  ·subst e;rw[zt,h1,hon]
  ·rw[zv e]
 exact { h with
  wk:=hk
  vm:=by show upd C.vm n v=upd W.vm n v;rw[h.vm]
  time:=fun i hi=>by rw[on'] at hi;exact h.time i hi
  off:=fun i hi=>by rw[on'] at hi;exact h.off i hi
  tab:=fun i hi=>by rw[on'] at hi;exact h.tab i hi
  root:=fun i j hi=>by rw[on'] at hi;exact h.root i j hi
  leaf:=fun i p hi=>by rw[on'] at hi;exact h.leaf i p hi
  cache:=fun r hr=>by
   obtain⟨i,h1,h2,h3⟩:=h.cache r hr
   exact⟨i,h1,by rw[on'];exact h2,h3⟩ }
theorem Rel.setCache (h:Rel C W φ) {l:List Cw} (h1:∀ r∈l,∃ n:Nat,r.vm=n∧(W.vm n).on=true∧C.walk n r.page=some (r.f,r.w)) (h2:l.length≤8):Rel { C with cache:=l } W φ:=
 { h with cache:=h1,csize:=h2 }
theorem zhy {l:List Cw} {vm page:Int} {q:Nat×Bool} (h:lookC l vm page=some q):∃ r∈l,r.vm=vm∧r.page=page∧(r.f,r.w)=q:=by
 unfold lookC at h
 cases hf:l.find? (fun r=>decide (r.vm=vm) && decide (r.page=page)) with
 | none=>rw[hf] at h;cases h
 | some r=>
  rw[hf] at h
  simp only[Option.map_some,Option.some.injEq] at h
  have:=List.find?_some hf
  simp only[Bool.and_eq_true,decide_eq_true_eq] at this
  exact⟨r,List.mem_of_find?_eq_some hf,this.1,this.2,h⟩
theorem zbW {l:List Cw} {vm page:Int} {r:Cw} (h:r∈dropC l vm page):r∈l∧¬(r.vm=vm∧r.page=page):=by
 unfold dropC at h
 rw[List.mem_filter] at h
 exact⟨h.1,fun hh=>by have:=h.2;simp[hh.1,hh.2] at this⟩
theorem zbX {l:List Cw} {vm page:Int}:(dropC l vm page).length≤l.length:=List.length_filter_le _ _
theorem ziy {l:List Cw} {r x:Cw} (h:x∈putC l r):x∈l∨x=r:=by
 unfold putC at h
 rw[List.mem_append,List.mem_singleton] at h
 rcases h with h | h
 ·left
  split at h
  ·exact (zbW (List.mem_of_mem_tail h)).1
  ·exact (zbW h).1
 ·exact .inr h
theorem ziz {l:List Cw} {r:Cw} (h:l.length≤8):(putC l r).length≤8:=by
 unfold putC
 have:=zbX (l:=l) (vm:=r.vm) (page:=r.page)
 rw[List.length_append]
 split
 ·rw[List.length_tail];simp;omega
 ·simp;omega
theorem Rel.find (h:Rel C W φ) {n:Nat} (hn:(W.vm n).on=true) {page:Int} {q:Nat×Bool} (hl:lookC C.cache n page=some q):C.walk n page=some q:=by
 obtain⟨r,hr,h1,h2,h3⟩:=zhy hl
 obtain⟨m,e1,e2,e3⟩:=h.cache r hr
 have:m=n:=by rw[h1] at e1;omega
 subst this
 rw[h2,h3] at e3;exact e3
theorem Rel.put (h:Rel C W φ) {n:Nat} (hn:(W.vm n).on=true) {page:Int} {f:Nat} {w:Bool} (hw:C.walk n page=some (f,w)):Rel { C with cache:=putC C.cache ⟨n,page,f,w⟩ } W φ:=
 h.setCache (fun r hr=>by
  rcases ziy hr with e | e
  ·exact h.cache r e
  ·subst e;exact⟨n,rfl,hn,hw⟩) (ziz h.csize)
theorem WOk.setO (h:WOk W) {m q:Nat} {l l':List Int} (ho:W.own m q=some l) (hl:l'.length=256∧Byt l'):WOk (W.setO m q (some l')):=by
 have is':∀ i p,((W.setO m q (some l')).own i p).isSome=(W.own i p).isSome:=fun i p=>by
  show (upd W.own m (upd (W.own m) q (some l')) i p).isSome=_
  by_cases e:i=m
  ·subst e
   rw[zt]
   by_cases e2:p=q
   ·subst e2;rw[zt,ho];rfl
   ·rw[zv e2]
  ·rw[zv e]
 have no':∀ i p,(W.setO m q (some l')).own i p=none↔W.own i p=none:=fun i p=>by
  rw[←Option.not_isSome_iff_eq_none,←Option.not_isSome_iff_eq_none,is']
 have hon:=(h.pg m q l ho)
 refine { h with off:=fun i hi=>⟨(h.off i hi).1,fun p=>(no' i p).2 ((h.off i hi).2.1 p),(h.off i hi).2.2⟩,pg:=fun i p l2 hl2=>?_,most:=fun i=>?_,lsr:=fun i hi=>?_,lsa:=fun i hi p hp=>(no' _ _).2 (h.lsa i hi p hp) }
 ·by_cases e:i=m∧p=q
  ·obtain⟨rfl,rfl⟩:=e
   have:l'=l2:=by
    have h2:(W.setO i p (some l')).own i p=some l':=by show upd W.own i (upd (W.own i) p (some l')) i p=_;rw[zt,zt]
    rw[h2] at hl2;exact Option.some.inj hl2
   subst this
   exact⟨hon.1,hon.2.1,hl⟩
  ·refine h.pg i p l2 ?_
   have:(W.setO m q (some l')).own i p=W.own i p:=by
    show upd W.own m (upd (W.own m) q (some l')) i p=_
    by_cases e1:i=m
    ·subst e1;rw[zt,zv (fun e2=>e ⟨rfl,e2⟩)]
    ·rw[zv e1]
   rw[this] at hl2;exact hl2
 ·have:(W.setO m q (some l')).pages i=W.pages i:=jg fun p _=>is' i p
  rw[this];exact h.most i
 ·rw[is'];exact h.lsr i hi
theorem zct {m q:Nat} {l l':List Int} (ho:W.own m q=some l) {n p:Nat}:(W.setO m q (some l')).where_ n p=W.where_ n p:=by
 unfold Wd.where_
 have:((W.setO m q (some l')).own n p).isSome=(W.own n p).isSome:=by
  show (upd W.own m (upd (W.own m) q (some l')) n p).isSome=_
  by_cases e:n=m
  ·subst e
   rw[zt]
   by_cases e2:p=q
   ·subst e2;rw[zt,ho];rfl
   ·rw[zv e2]
  ·rw[zv e]
 rw[this];rfl
theorem Rel.walk_keep (h:Rel C W φ) {f:Nat} (hf:(C.own f).kind≠2) {l:List Int} {n:Nat} (hn:(W.vm n).on=true) (page:Int):walkC (upd C.dat f l) C.N (C.tf n) (C.fr n) page=C.walk n page:=by
 by_cases hp:page<0∨31<page
 ·rw[zcW hp]
  unfold walkC Go.Cr.leafC
  rw[if_pos hp]
 ·have e:page=((page.toNat:Nat):Int):=by omega
  have h32:page.toNat<32:=by omega
  have key:∀ j i,j<5→ld (upd C.dat f l) ((C.fr n).getD j 0) i=ld C.dat ((C.fr n).getD j 0) i:=fun j i hj=>h.ld_keep hf hn hj
  obtain⟨a,b,c,d,g,hfr⟩:=h.cons hn
  have k0:=key 0 (page/8).toNat (by decide)
  have hlf:=h.leafC hn h32
  rw[←e] at hlf
  unfold Cst.walk walkC
  have hlf2:Go.Cr.leafC (upd C.dat f l) C.N (C.tf n) (C.fr n) page=Go.Cr.leafC C.dat C.N (C.tf n) (C.fr n) page:=by
   unfold Go.Cr.leafC
   rw[if_neg hp,if_neg hp,hfr]
   rw[hfr,List.getD_cons_zero] at k0
   dsimp only
   rw[k0]
  rw[hlf2,hlf]
  dsimp only
  rw[key _ _ (by omega)]
theorem Rel.setO (h:Rel C W φ) {m q:Nat} {l l':List Int} (ho:W.own m q=some l) (hl:l'.length=256∧Byt l'):Rel { C with dat:=upd C.dat (φ m q) l' } (W.setO m q (some l')) φ:=by
 have hp:=h.pg m q l ho
 have hk:(C.own (φ m q)).kind≠2:=by rw[hp.2.1];exact (show (3:Int)≠2 by decide)
 exact { h with
  wk:=h.wk.setO ho hl
  len:=fun f hf=>by
   show (upd C.dat (φ m q) l' f).length=256∧Byt (upd C.dat (φ m q) l' f)
   by_cases e:f=φ m q
   ·rw[e,zt];exact hl
   ·rw[zv e];exact h.len f hf
  root:=fun n j hn hj=>by
   show unp C.form (ld (upd C.dat (φ m q) l') ((C.fr n).getD 0 0) j)=_
   rw[h.ld_keep hk hn (by decide)];exact h.root n j hn hj
  leaf:=fun n p hn hp'=>by
   show unp C.form (ld (upd C.dat (φ m q) l') ((C.fr n).getD (p/8+1) 0) (p%8))=_
   rw[h.ld_keep hk hn (by omega),zct ho];exact h.leaf n p hn hp'
  pg:=fun n p l2 hl2=>by
   show φ n p<C.N∧C.own (φ n p)=_∧upd C.dat (φ m q) l' (φ n p)=l2
   by_cases e:n=m∧p=q
   ·obtain⟨rfl,rfl⟩:=e
    have h2:(W.setO n p (some l')).own n p=some l':=by show upd W.own n (upd (W.own n) p (some l')) n p=_;rw[zt,zt]
    rw[h2] at hl2
    cases hl2
    exact⟨hp.1,hp.2.1,zt⟩
   ·have h2:(W.setO m q (some l')).own n p=W.own n p:=by
     show upd W.own m (upd (W.own m) q (some l')) n p=_
     by_cases e1:n=m
     ·subst e1;rw[zt,zv (fun e2=>e ⟨rfl,e2⟩)]
     ·rw[zv e1]
    rw[h2] at hl2
    have h3:=h.pg n p l2 hl2
    refine⟨h3.1,h3.2.1,?_⟩
    rw[zv (fun e2=>e (h.inj hl2 ho e2))];exact h3.2.2
  pgk:=fun f hf hk'=>by
   obtain⟨n,p,h1,h2⟩:=h.pgk f hf hk'
   refine⟨n,p,?_,h2⟩
   show (upd W.own m (upd (W.own m) q (some l')) n p).isSome=true
   by_cases e:n=m
   ·subst e
    rw[zt]
    by_cases e2:p=q
    ·subst e2;rw[zt];rfl
    ·rw[zv e2];exact h1
   ·rw[zv e];exact h1
  cache:=fun r hr=>by
   obtain⟨n,h1,h2,h3⟩:=h.cache r hr
   exact⟨n,h1,h2,by rw[←h3];exact h.walk_keep hk h2 r.page⟩ }
theorem Rel.setAlarm (h:Rel C W φ) {n k:Nat} (hk:k<(W.vm n).seats.length) {w:Int} (hw:W64 w):Rel { C with alm:=upd C.alm n (upd (C.alm n) k (some (min (w+C.late n) most64))) } (W.setAlarm n k w) φ:=by
 have hon:(W.vm n).on=true:=by
  cases e:(W.vm n).on with
  | true=>rfl
  | false=>rw[(h.wk.off n e).1] at hk;simp[bv0] at hk
 refine { h with wk:={ h.wk with off:=fun i hi=>⟨(h.wk.off i hi).1,(h.wk.off i hi).2.1,fun j=>?_⟩,alarm:=fun i j w' hw'=>?_ },alm:=fun i j=>?_ }
 ·show upd W.alarm n (upd (W.alarm n) k (some w)) i j=none
  have:i≠n:=fun e=>by subst e;have hi':(W.vm i).on=false:=hi;rw[hon] at hi';cases hi'
  rw[zv this];exact (h.wk.off i hi).2.2 j
 ·have hw'':upd W.alarm n (upd (W.alarm n) k (some w)) i j=some w':=hw'
  by_cases e:i=n
  ·subst e
   rw[zt] at hw''
   by_cases e2:j=k
   ·subst e2;rw[zt] at hw'';cases hw'';exact⟨hk,hw⟩
   ·rw[zv e2] at hw'';exact h.wk.alarm i j w' hw''
  ·rw[zv e] at hw'';exact h.wk.alarm i j w' hw''
 ·show upd C.alm n (upd (C.alm n) k (some (min (w+C.late n) most64))) i j=(upd W.alarm n (upd (W.alarm n) k (some w)) i j).map _
  by_cases e:i=n
  ·subst e
   rw[zt,zt]
   by_cases e2:j=k
   ·subst e2;rw[zt,zt];rfl
   ·rw[zv e2,zv e2];exact h.alm i j
  ·rw[zv e,zv e];exact h.alm i j
end
end Go.Cr
end
section
namespace Go.Cr
open Go Go.Pt
theorem ziS:∀ p:Fin 256,∀ n:Fin 8,p.1/2 ^ n.1%2=1→iandn .u32 (p.1:Int) (ishl .u32 1 (n.1:Int))=(p.1:Int)-2 ^ n.1∧2 ^ n.1≤p.1:=by decide +kernel
theorem zfe {a b i:Nat} (h:(a &&& b)/2 ^ i%2=1):a/2 ^ i%2=1∧b/2 ^ i%2=1:=by
 have h1:(a &&& b).testBit i=true:=by rw[Nat.testBit_eq_decide_div_mod_eq];exact decide_eq_true h
 rw[Nat.testBit_and,Bool.and_eq_true,Nat.testBit_eq_decide_div_mod_eq,Nat.testBit_eq_decide_div_mod_eq] at h1
 exact⟨of_decide_eq_true h1.1,of_decide_eq_true h1.2⟩
theorem zbq {s:Seat} (hs:s.Ok) {n:Nat} (h:nextL s=some n):n<8∧s.pend.toNat/2 ^ n%2=1∧iandn .u32 s.pend (ishl .u32 1 (n:Int))=s.pend-2 ^ n∧0≤s.pend-2 ^ n:=by
 unfold nextL at h
 split at h
 ·rename_i hc
  obtain⟨m,e,hm,hm2⟩:=Seat.may_nat hs
  rw[e,Int.toNat_natCast] at h
  simp only[Option.some.injEq] at h
  have h0:m≠0:=fun h0=>hc.2 (by rw[e,h0];rfl)
  obtain⟨_,_,_,h4,h5⟩:=zjb ⟨m,by omega⟩ h0
  simp only at h4 h5
  rw[h] at h4 h5
  rw[hm] at h5
  have hb:=zfe h5
  have hp:=hs.pend
  have hd:=ziS ⟨s.pend.toNat,by omega⟩ ⟨n,h4⟩ hb.1
  simp only at hd
  have ep:((s.pend.toNat:Nat):Int)=s.pend:=by omega
  rw[ep] at hd
  refine⟨h4,hb.1,hd.1,?_⟩
  have:((2 ^ n:Nat):Int)=(2:Int) ^ n:=by rw[Int.natCast_pow];rfl
  rw[←this]
  omega
 ·cases h
theorem zdp {s:Seat} {g:GM} (hg:g.Ok) {addr:Int} (ha:W64 addr) {n:Nat} (hn:n=4∨n=8) {w:Int} (h:getW s g addr n=some w):0≤w∧w<256 ^ n:=by
 unfold getW at h
 split at h
 ·cases h
 ·rename_i q hq
  have hp:=zaq hg ha hq
  split at h
  ·cases h
  ·rename_i hm
   cases hd:ldB g q.1 q.2 n with
   | none=>rw[hd] at h;cases h
   | some l=>
    rw[hd] at h
    simp only[Option.map_some,Option.some.injEq] at h
    subst h
    obtain⟨h1,h2⟩:=zaM hg hd (by rcases hn with rfl | rfl <;> omega)
    have:=zaZ h2
    rw[h1] at this
    exact this
end Go.Cr
namespace Go.Proofs.YtabdpmnhjlmnlaaGreatDoor
open Go Go.Pt Go.Cr
section
variable {bus:Value} {I:Mem→Rho→GM→Prop} {R:Nat→Prop} {S:Mem} {ρ:Rho} {g:GM} {b o:Nat} {s:Seat} {time me:Int}
theorem zgM (hA:At S b o s.L) (hg:Gl S) (hs:s.Ok) {Q:Int→Bool→Mem→Prop} (hQ:match nextL s with | some n=>Q n true (S.put b o ({ s with pend:=s.pend-2 ^ n }:Seat).L) | none=>∀ x,Q x false S):zbN S (some (b,o)) Q:=by
 have hl:=hs.len
 have hp:=Pl.of hA hl
 apply zex
 unfold fM
 have h:=zhr (S:=S) (b:=b) (o:=o) (s:=s) (by rw[hA.self];exact hg) hp hs (Q:=fun t t_1 Sx=>if t_1=true then nn (some (b,o)) fun b o=>gI (Sx.cell b (o+24)) .u32 fun t_2=>0≤t∧Go.Pt.pt Sx b (o+24) 1 ([.int .u32 (iandn .u32 t_2 (ishl .u32 1 t))]) fun Sx_1=>Q t true Sx_1 else Q t false Sx) ?_
 ·rw[hA.self] at h;exact h
 ·cases hn:nextL s with
  | none=>
   rw[hn] at hQ
   dsimp only at hQ ⊢
   rw[if_neg (by decide),hA.self];exact hQ _
  | some n=>
   rw[hn] at hQ
   dsimp only at hQ ⊢
   obtain⟨h8,_,e,_⟩:=zbq hs hn
   rw[if_pos rfl,qY,zW ((hp.cell hl (by decide)).trans (Seat.g24 hl)),e]
   exact⟨by omega,hp.pt (s:=s) hl (by decide) (Seat.s24 (s:=s) hl _) hQ⟩
theorem zgS (hB:Bus bus I R) (hx:Cx I R S ρ g b o s) (hs:s.Ok) (ht:W64 time) (hme:0≤me∧me≤2) {Q:List Value→Mem→Prop}
  (hQ:∀ S1 ρ1,Mv S ρ S1 ρ1 R→I S1 ρ1 (stepM s g time me).g→At S1 b o s.L→Q (exL (stepM s g time me).k (stepM s g time me).n) (S1.put b o (stepM s g time me).s.L)):zdu S (some (b,o)) bus time me Q:=by
 have hl:=hs.len
 have hA:=hx.at_
 have hp:=Pl.of hA hl
 have m0:Mv S ρ S ρ R:=Mv.refl (hB.rg hx.i)
 have hres:∀ c u:Int,(exL c u).all (·.oneCell')=true:=fun _ _=>rfl
 obtain⟨bt,bv,hbus⟩:=hB.ifc
 have hone:bus.oneCell'=true:=by rw[hbus];rfl
 have hall:([eP (some (b,o)),bus,.int .u64 time,.int .i64 me]:List Value).all (·.oneCell')=true:=by
  simp only[List.all_cons,List.all_nil,hone];rfl
 have ec:([eP (some (b,o)),bus,.int .u64 time,.int .i64 me]:List Value)=cL b o bus time me:=rfl
 have ec2:([.pointer (some ⟨b,o,none⟩),bus,.int .u64 time,.int .i64 me]:List Value)=cL b o bus time me:=rfl
 apply zfS
 unfold zaX
 refine⟨hone,hall,?_⟩
 unfold stepM at hQ
 refine zZ (fun J=>s.st=0→∀ v,v.length=2→J v S) ?_ fun J hJ=>?_
 rotate_left
 ·rw[if_neg (by simp)]
  refine⟨false,.inr ⟨⟨bt,bv,hbus⟩,rfl⟩,?_⟩
  show (if false=true then _ else _)
  rw[if_neg (by decide),qY,zW ((hx.cell hl (by decide)).trans (Seat.g23 hl))]
  by_cases h0:s.st≠0
  ·have hq:=hQ S ρ m0
   rw[if_pos h0] at hq
   rw[if_pos h0]
   have:=hq hx.i hA
   rw[hA.self] at this
   exact this
  ·rw[if_neg h0];exact hJ (by omega) _ rfl
 intro hst v hv
 rw[if_neg (by omega)] at hQ
 refine⟨hv,?_⟩
 refine zZ (fun J=>nextL s=none→∀ v,v.length=2→J v S) ?_ fun J hJ=>?_
 rotate_left
 ·refine zgM hA (hB.gl hx.i) hs ?_
  cases hn:nextL s with
  | none=>
   dsimp only
   intro x
   rw[if_neg (by decide)]
   exact hJ hn _ hv
  | some n=>
   dsimp only
   have hq:=hQ S ρ m0
   rw[hn] at hq
   obtain⟨h8,_,_,hge⟩:=zbq hs hn
   rw[if_pos rfl,ec,wu64 (x:=(n:Int)) (by omega) (by omega),wu64 (x:=16+(n:Int)) (by omega) (by omega)]
   have hl2:({ s with pend:=s.pend-2 ^ n }:Seat).R.length=16:=hl
   have hA2:At (S.put b o ({ s with pend:=s.pend-2 ^ n }:Seat).L) b o ({ s with pend:=s.pend-2 ^ n }:Seat).L:=hp.at_ hl2
   refine vD hA2 hl2 ⟨hres _ _,?_⟩
   have hl3:(({ s with pend:=s.pend-2 ^ n }:Seat).trap (16+n) 0).R.length=16:=by unfold Seat.trap;split <;> exact hl
   rw[hA.put2 (by rw[Seat.L_len hl2,Seat.L_len hl]) (by rw[Seat.L_len hl3,Seat.L_len hl])]
   exact hq hx.i hA
 intro hn v2 hv2
 refine⟨hv2,?_⟩
 rw[hn] at hQ
 dsimp only at hQ
 refine zZ (fun J=>∀ S1 ρ1,Mv S ρ S1 ρ1 R→Cx I R S1 ρ1 g b o s→match getW s g s.pc 4 with | some w=>J w true S1 | none=>∀ x,J x false S1) ?_ fun J hJ=>?_
 rotate_left
 ·rw[qY,zW ((hx.cell hl (by decide)).trans (Seat.g16 hl)),ec2]
  refine zcE hB hx hs hs.pc (n:=4) (.inl rfl) fun S1 ρ1 hm hx1=>?_
  have h:=hJ S1 ρ1 hm hx1
  cases hg:getW s g s.pc 4 with
  | none=>
   rw[hg] at h
   dsimp only at h ⊢
   intro x
   rw[if_neg (by decide)];exact h x
  | some w=>
   rw[hg] at h
   dsimp only at h ⊢
   rw[if_pos rfl];exact h
 intro S1 ρ1 hm hx1
 have hq:=hQ S1 ρ1 hm
 cases hg:getW s g s.pc 4 with
 | none=>
  rw[hg] at hq
  dsimp only at hq ⊢
  intro x
  rw[if_neg (by decide),qY,zW ((hx1.cell hl (by decide)).trans (Seat.g16 hl)),ec2]
  exact vD hx1.at_ hl ⟨hres _ _,hq hx1.i hx1.at_⟩
 | some w=>
  rw[hg] at hq
  dsimp only at hq ⊢
  have hw:=zdp (hB.ok hx.i) hs.pc (.inl rfl) hg
  rw[if_pos rfl,wu32 (by omega) (by omega)]
  refine zfb (by omega) (by omega) (fun hY=>?_) fun hN=>?_
  ·rw[if_pos hY] at hq
   rw[if_pos rfl,ec]
   refine⟨rfl,?_⟩
   refine zjX hB hx1 hs (zlE w) hY.1 hst ht hme fun S2 ρ2 hm2 hi2 hA2=>⟨hres _ _,?_⟩
   have hq2:=hQ S2 ρ2 (hm.trans hm2)
   rw[hg] at hq2
   dsimp only at hq2
   rw[if_pos hY] at hq2
   exact hq2 hi2 hA2
  ·rw[if_neg hN] at hq
   rw[if_neg (by decide),ec]
   exact⟨rfl,vD hx1.at_ hl ⟨hres _ _,hq hx1.i hx1.at_⟩⟩
end
end Go.Proofs.YtabdpmnhjlmnlaaGreatDoor
end
section
namespace Go.Proofs.YtabdpmnhjlmnlaaGreatDoor
open Go Go.Pt Go.Cr Go.Hp
def thereV (vm:Nat→Bv) (n:Int):Prop:=0≤n∧n<6∧(vm n.toNat).on=true
instance (vm:Nat→Bv) (n:Int):Decidable (thereV vm n):=inferInstanceAs (Decidable (_∧_∧_))
theorem zkJ {l:List Seat} (h:∀ s∈l,s.Ok):∀ s:{ s // s∈l },(s.1.L).length=26:=fun s=>Seat.L_len (h s.1 s.2).len
theorem gb {l:List Seat} (h:∀ s∈l,s.Ok):(l.flatMap Seat.L).length=l.length*26:=by
 induction l with
 | nil=>simp
 | cons s l ih=>
  rw[List.flatMap_cons,List.length_append,ih fun x hx=>h x (by simp[hx]),Seat.L_len (h s (by simp)).len,List.length_cons,Nat.add_mul];omega
theorem zbo {l:List Seat} (h:∀ s∈l,s.Ok) {j:Nat} (hj:j<l.length):∃ A B,A.length=j*26∧l.flatMap Seat.L=A++(l[j].L++B)∧∀ s,(l.set j s).flatMap Seat.L=A++(s.L++B):=by
 refine⟨(l.take j).flatMap Seat.L,(l.drop (j+1)).flatMap Seat.L,?_,?_,fun s=>?_⟩
 ·rw[gb fun s hs=>h s (List.mem_of_mem_take hs),List.length_take,Nat.min_eq_left (by omega)]
 ·have e:l=l.take j++(l[j] :: l.drop (j+1)):=by rw[List.getElem_cons_drop,List.take_append_drop]
  have e2:=congrArg (List.flatMap Seat.L) e
  rw[List.flatMap_append,List.flatMap_cons] at e2
  exact e2
 ·rw[List.set_eq_take_append_cons_drop,if_pos hj,List.flatMap_append,List.flatMap_cons]
theorem zeG {l:List Seat} (h:∀ s∈l,s.Ok) {j:Nat} (hj:j<l.length):lpart (l.flatMap Seat.L) (j*26) (l[j].L).length=some l[j].L:=by
 obtain⟨A,B,h1,h2,_⟩:=zbo h hj
 rw[h2,show j*26=j*26+0 by omega,xD h1,wU (by omega),zg rfl]
theorem zha {l:List Seat} (h:∀ s∈l,s.Ok) {j:Nat} (hj:j<l.length) {s:Seat} (hs:s.Ok):spl (l.flatMap Seat.L) (j*26) s.L=(l.set j s).flatMap Seat.L:=by
 obtain⟨A,B,h1,h2,h3⟩:=zbo h hj
 have hl:=Seat.L_len (h l[j] (List.getElem_mem hj)).len
 have hl2:=Seat.L_len hs.len
 rw[h3,h2,show j*26=j*26+0 by omega,zU h1]
 congr 1
 rw[xF _ _ _ (by simp),List.take_zero,List.nil_append,Nat.zero_add,List.drop_left' (by omega)]
theorem ziq {l:List Seat} {k:Nat} (hk:k<l.length):l.getD k seat0=l[k]:=by rw[List.getD_eq_getElem?_getD,List.getElem?_eq_getElem hk];rfl
section
variable {S S':Mem} {ρ ρ':Rho} {h:Nat} {A:Ad} {C:Cst}
theorem zbd (e:Evt):(evL e).length=4:=rfl
variable {W:Wd} {φ:Nat→Nat→Nat}
def busL (h n:Nat):List Value:=[.pointer (some ⟨h,0,none⟩),.int .i64 n]
end
end Go.Proofs.YtabdpmnhjlmnlaaGreatDoor
end
section
namespace Go.Cr
open Go Go.Pt
variable {W:Wd}
theorem zgY {d:Nat→List Int} {n p:Nat}:((W.setDat d).own n p).isSome=(W.own n p).isSome:=by
 show ((W.own n p).map _).isSome=_
 cases W.own n p <;> rfl
theorem zcK {n p:Nat} (hp:p<32):(W.gm n).map p=(W.where_ n p).map fun q=>(32*q.1+q.2.1,q.2.2):=by
 show (if 32≤p then none else _)=_
 rw[if_neg (by omega)]
theorem zbR {n m q:Nat} (hq:q<32):(W.gm n).dat (32*m+q)=(W.own m q).getD []:=by
 show (W.own ((32*m+q)/32) ((32*m+q)%32)).getD []=_
 rw[show (32*m+q)/32=m by omega,show (32*m+q)%32=q by omega]
theorem WOk.gm (h:WOk W) (n:Nat):(W.gm n).Ok:=by
 have key:∀ p f w,(W.gm n).map p=some (f,w)→∃ l,(W.gm n).dat f=l∧l.length=256∧Byt l:=by
  intro p f w hm
  by_cases hp:p<32
  ·rw[zcK hp] at hm
   cases hq:W.where_ n p with
   | none=>rw[hq] at hm;cases hm
   | some q=>
    rw[hq] at hm
    simp only[Option.map_some,Option.some.injEq,Prod.mk.injEq] at hm
    obtain⟨l,hl⟩:=h.where_own hq
    have h2:=h.pg _ _ l hl
    refine⟨l,?_,h2.2.2⟩
    rw[←hm.1,zbR h2.2.1,hl];rfl
  ·have:(W.gm n).map p=none:=by show (if 32≤p then none else _)=none;rw[if_pos (by omega)]
   rw[this] at hm;cases hm
 refine⟨fun p hp=>by show (if 32≤p then none else _)=none;rw[if_pos hp],fun p f w hm=>?_,fun p f w hm=>?_⟩
 ·obtain⟨l,h1,h2,_⟩:=key p f w hm;rw[h1];exact h2
 ·obtain⟨l,h1,_,h2⟩:=key p f w hm;rw[h1];exact h2
theorem zhM {n m q:Nat} {l l':List Int} (ho:W.own m q=some l) (hq:q<32) (hW:∀ m q l,W.own m q=some l→q<32) {off:Nat} {v:List Int} (hl:l'=spB l off v):(W.setO m q (some l')).gm n=wrB (W.gm n) (32*m+q) off v:=by
 have hd:(W.gm n).dat (32*m+q)=l:=by rw[zbR hq,ho];rfl
 have hmap:((W.setO m q (some l')).gm n).map=(W.gm n).map:=by
  funext p
  show (if 32≤p then none else ((W.setO m q (some l')).where_ n p).map _)=(if 32≤p then none else (W.where_ n p).map _)
  rw[zct ho]
 have hdat:((W.setO m q (some l')).gm n).dat=(wrB (W.gm n) (32*m+q) off v).dat:=by
  funext x
  show (upd W.own m (upd (W.own m) q (some l')) (x/32) (x%32)).getD []=if x=32*m+q then _ else (W.own (x/32) (x%32)).getD []
  by_cases e:x=32*m+q
  ·rw[if_pos e]
   subst e
   rw[show (32*m+q)/32=m by omega,show (32*m+q)%32=q by omega,zt,zt,hd,hl];rfl
  ·rw[if_neg e]
   by_cases e1:x/32=m
   ·rw[e1,zt,zv (by omega)]
   ·rw[zv e1]
 show GM.mk _ _=GM.mk _ _
 congr 1
theorem zfm {d:Nat→List Int} {m q:Nat} {l l':List Int} (hW:∀ m q l,W.own m q=some l→q<32) (ho:W.own m q=some l):(W.setDat d).setO m q (some l')=W.setDat (upd d (32*m+q) l'):=by
 have e:upd (W.setDat d).own m (upd ((W.setDat d).own m) q (some l'))=(W.setDat (upd d (32*m+q) l')).own:=by
  funext n p
  show upd (W.setDat d).own m (upd ((W.setDat d).own m) q (some l')) n p=(W.own n p).map fun _=>upd d (32*m+q) l' (32*n+p)
  by_cases e1:n=m
  ·subst e1
   rw[zt]
   by_cases e2:p=q
   ·subst e2;rw[zt,ho,Option.map_some,zt]
   ·rw[zv e2]
    show (W.own n p).map _=_
    rw[zv (by omega)]
  ·rw[zv e1]
   show (W.own n p).map _=_
   cases hp:W.own n p with
   | none=>rfl
   | some l2=>
    have h1:=hW n p l2 hp
    have h2:=hW m q l ho
    rw[Option.map_some,Option.map_some,zv (by omega)]
 show ({ W.setDat d with own:=_ }:Wd)=_
 rw[e];rfl
theorem zdP {d:Nat→List Int} {n:Nat} (hW:∀ m q l,W.own m q=some l→q<32):W.setDat ((W.setDat d).gm n).dat=W.setDat d:=by
 have e:(W.setDat ((W.setDat d).gm n).dat).own=(W.setDat d).own:=by
  funext m q
  show (W.own m q).map _=(W.own m q).map _
  cases ho:W.own m q with
  | none=>rfl
  | some l=>
   have h1:=hW m q l ho
   rw[Option.map_some,Option.map_some,zbR h1]
   show some (((W.own m q).map _).getD [])=_
   rw[ho];rfl
 exact congrArg (fun o=>({ W with own:=o }:Wd)) e
theorem yd {n:Nat} (hW:∀ m q l,W.own m q=some l→q<32):W.setDat (W.gm n).dat=W:=by
 have e:(W.setDat (W.gm n).dat).own=W.own:=by
  funext m q
  show (W.own m q).map _=W.own m q
  cases ho:W.own m q with
  | none=>rfl
  | some l=>
   rw[Option.map_some,zbR (hW m q l ho),ho];rfl
 exact congrArg (fun o=>({ W with own:=o }:Wd)) e
theorem By.part {S:Mem} {p:Sl} {xs:List Int} (h:By S p xs) (h0:0<xs.length):∃ b o,p.p=some (b,o)∧S.part b o (xs.length*1)=some (bL xs):=by
 have hl:=h.len
 rcases h.lie with h1 | ⟨b,o,h1,h2⟩
 ·omega
 ·refine⟨b,o,h1,?_⟩
  obtain⟨k,hk,_⟩:=zek (h2 0 h0)
  have hc:∀ i (hi:i<xs.length),nthL k.cs (o+i)=some (.int .u8 xs[i]):=fun i hi=>by have:=h2 i hi;rwa [qK hk] at this
  have hlast:=zaK (hc (xs.length-1) (by omega))
  rw[xG hk,qR (by omega)]
  congr 1
  apply List.ext_getElem?
  intro i
  rw[List.getElem?_take,List.getElem?_drop,Nat.mul_one]
  by_cases hi:i<xs.length
  ·rw[if_pos hi]
   have:=hc i hi
   rw[qi] at this
   rw[this]
   simp[bL,List.getElem?_eq_getElem hi]
  ·rw[if_neg hi,List.getElem?_eq_none (by simp[bL];omega)]
end Go.Cr
namespace Go.Proofs.YtabdpmnhjlmnlaaGreatDoor
open Go Go.Pt Go.Cr Go.Hp
section
variable {S S':Mem} {ρ ρ':Rho} {h:Nat} {A:Ad} {C:Cst} {W:Wd} {φ:Nat→Nat→Nat}
def BI (h n:Nat) (C:Cst) (W:Wd) (φ:Nat→Nat→Nat) (t:Nat) (x:Nat→Vx) (S:Mem) (ρ:Rho) (g:GM):Prop:=
 ∃ A d ca dt,CrabA S ρ h A { C with cache:=ca,dat:=dt }∧Rel { C with cache:=ca,dat:=dt } (W.setDat d) φ∧g=(W.setDat d).gm n∧A.t=t∧A.x=x
abbrev R026 (r:Nat):Prop:=r=0∨r=6∨r=2
end
end Go.Proofs.YtabdpmnhjlmnlaaGreatDoor
end
section
namespace Go.Cr
open Go Go.Pt
section
variable {C:Cst} {W:Wd} {φ:Nat→Nat→Nat}
theorem WOk.setL (h:WOk W) {i:Nat} {l:Ls} (hi:i<16)
  (h1:l.on=true→(W.vm l.fr).on=true∧(W.vm l.to).on=true∧l.fr≠l.to∧(W.own l.fr l.pg).isSome=true∧-1≤l.at_∧l.at_≤31) (h2:l.on=false→l=ls0) (h3:l.on=true→∀ p:Nat,l.at_=p→W.own l.to p=none)
  (h4:l.on=true→0≤l.at_→∀ j,j≠i→(W.ls j).on=true→(W.ls j).to=l.to→(W.ls j).at_≠l.at_):WOk (W.setL i l):=by
 have e0:(W.setL i l).ls i=l:=zt
 have e1:∀ j,j≠i→(W.setL i l).ls j=W.ls j:=fun j hj=>zv hj
 refine { h with lsr:=fun j hj=>?_,lso:=fun j hj=>?_,lsa:=fun j hj=>?_,lsu:=fun j k hj hk ht h0 ha=>?_ }
 ·by_cases e:j=i
  ·subst e;rw[e0] at hj ⊢;exact⟨hi,h1 hj⟩
  ·rw[e1 j e] at hj ⊢;exact h.lsr j hj
 ·by_cases e:j=i
  ·subst e;rw[e0] at hj ⊢;exact h2 hj
  ·rw[e1 j e] at hj ⊢;exact h.lso j hj
 ·by_cases e:j=i
  ·subst e;rw[e0] at hj ⊢;exact h3 hj
  ·rw[e1 j e] at hj ⊢;exact h.lsa j hj
 ·by_cases e:j=i
  ·by_cases e2:k=i
   ·rw[e,e2]
   ·subst e
    rw[e0] at hj h0 ht ha
    rw[e1 k e2] at hk ht ha
    exact absurd ha.symm (h4 hj h0 k e2 hk ht.symm)
  ·by_cases e2:k=i
   ·subst e2
    rw[e0] at hk ht ha
    rw[e1 j e] at hj ht h0 ha
    exact absurd ha (h4 hk (by omega) j e hj ht)
   ·rw[e1 j e] at hj ht h0 ha
    rw[e1 k e2] at hk ht ha
    exact h.lsu j k hj hk ht h0 ha
theorem zgt {p q:Nat→Bool} {n:Nat} (h:∀ i,i<n→p i=q i):(List.range n).find? p=(List.range n).find? q:=by
 have:=zcn (u:=fun i=>! p i) (u':=fun i=>! q i) (N:=n) fun i hi=>by rw[h i hi]
 simpa [firstOff] using this
theorem zeT {ls:Nat→Ls} {i:Nat} {l:Ls} {m:Nat} {p:Int} (h1:¬((ls i).on=true∧(ls i).to=m∧(ls i).at_=p)) (h2:¬(l.on=true∧l.to=m∧l.at_=p)):leaseAt (upd ls i l) m p=leaseAt ls m p:=by
 unfold leaseAt
 apply zgt
 intro j _
 by_cases e:j=i
 ·subst e
  rw[zt]
  rw[Bool.eq_iff_iff]
  simp only[Bool.and_eq_true,decide_eq_true_eq]
  exact⟨fun h=>absurd h h2,fun h=>absurd h h1⟩
 ·rw[zv e]
theorem vj {ls:Nat→Ls} {m i:Nat} {p:Int} (h:leaseAt ls m p=some i):i<16∧(ls i).on=true∧(ls i).to=m∧(ls i).at_=p:=by
 have h1:=List.find?_some h
 have h2:=List.mem_of_find?_eq_some h
 simp only[Bool.and_eq_true,decide_eq_true_eq] at h1
 exact⟨List.mem_range.1 h2,h1⟩
theorem zgm (h:WOk W) {i:Nat} {p:Int} (hon:(W.ls i).on=true) (ha:(W.ls i).at_=p) (h0:0≤p):leaseAt W.ls (W.ls i).to p=some i:=by
 have hi:=(h.lsr i hon).1
 cases hf:leaseAt W.ls (W.ls i).to p with
 | none=>
  have:=List.find?_eq_none.1 hf i (List.mem_range.2 hi)
  simp[hon,ha] at this
 | some j=>
  obtain⟨_,h1,h2,h3⟩:=vj hf
  rw[h.lsu i j hon h1 h2.symm (by omega) (by rw[ha,h3])]
theorem zhz {ls:Nat→Ls} {i:Nat} (hi:i<16) (l:Ls) (n p:Nat):lentN (upd ls i l) n p+((ls i).on && (decide ((ls i).fr=n) && decide ((ls i).pg=p))).toNat=lentN ls n p+(l.on && (decide (l.fr=n) && decide (l.pg=p))).toNat:=by
 unfold lentN
 have e:(fun j=>(upd ls i l j).on && (decide ((upd ls i l j).fr=n) && decide ((upd ls i l j).pg=p)))=upd (fun j=>(ls j).on && (decide ((ls j).fr=n) && decide ((ls j).pg=p))) i (l.on && (decide (l.fr=n) && decide (l.pg=p))):=by
  funext j
  unfold upd
  split <;> rfl
 rw[e]
 exact kM (g:=fun j=>(ls j).on && (decide ((ls j).fr=n) && decide ((ls j).pg=p))) hi _
theorem zgI {d:Nat→List Int} {N:Nat} {tf:Int} {fr:List Nat} (hl:fr.length=5) (hN:∀ j,j<5→fr.getD j 0<N) (hr:∀ j,j<4→unp tf (ld d (fr.getD 0 0) j)=some (fr.getD (j+1) 0,true)) {p:Nat} (hp:p<32):walkC d N tf fr p=unp tf (ld d (fr.getD (p/8+1) 0) (p%8)):=by
 have h1:=hr (p/8) (by omega)
 have h2:=hN (p/8+1) (by omega)
 have h3:=hN 0 (by decide)
 match fr,hl with
 | [a,b,c,e,g],_=>
  unfold walkC leafC
  rw[if_neg (by omega)]
  dsimp only
  rw[List.getD_cons_zero] at h1 h3
  have e1:((p:Int)/8).toNat=p/8:=by omega
  have e2:((p:Int)%8).toNat=p%8:=by omega
  rw[if_pos h3,e1,e2,h1]
  dsimp only [Option.map_some]
  rw[if_pos h2]
structure Tu (C:Cst) (n p:Nat) (w:Int) (d:Nat→List Int):Prop where
 ld:∀ m j i,C.fr m≠[]→j<5→i<32→Go.Cr.ld d ((C.fr m).getD j 0) i=if m=n∧j=p/8+1∧i=p%8 then w else Go.Cr.ld C.dat ((C.fr m).getD j 0) i
 oth:∀ f,(C.own f).kind≠2→d f=C.dat f
 len:∀ f,f<C.N→(d f).length=256∧Byt (d f)
theorem Rel.tu (h:Rel C W φ) {n p:Nat} (hn:(W.vm n).on=true) (hp:p<32) {w:Int} (hw:W64 w):Tu C n p w (setC C.dat C.N (C.tf n) (C.fr n) p w):=by
 have e:setC C.dat C.N (C.tf n) (C.fr n) p w=wr C.dat ((C.fr n).getD (p/8+1) 0) (8*(p%8)) (bytes8 w):=by
  unfold setC
  rw[h.leafC hn hp]
  dsimp only
  rw[if_pos (h.frN hn (by omega)).1]
 have hf:=h.frN hn (j:=p/8+1) (by omega)
 have hl:=(h.len _ hf.1).1
 have h8:=vF w
 rw[e]
 refine⟨fun m j i hm hj hi=>?_,fun f hk=>zkr fun e2=>?_,fun f hf'=>⟨by rw[ziX (by rw[hl,h8];omega)];exact (h.len f hf').1,ziY (gJ w) (h.len f hf').2⟩⟩
 ·rw[zkO hl (by omega) hi hw]
  have hmo:(W.vm m).on=true:=by
   cases hv:(W.vm m).on with
   | true=>rfl
   | false=>exact absurd (h.off m hv).1 hm
  have hmf:=h.frN hmo hj
  by_cases ee:m=n∧j=p/8+1∧i=p%8
  ·rw[if_pos ee,if_pos ⟨by rw[ee.1,ee.2.1],ee.2.2⟩]
  ·rw[if_neg ee,if_neg]
   rintro⟨e1,e2⟩
   apply ee
   have hmn:m=n:=by
    have:=hmf.2
    rw[e1,hf.2] at this
    simp only[Ow.mk.injEq] at this
    omega
   subst hmn
   refine⟨rfl,?_,e2⟩
   have hnd:=(h.tab m hmo).2.2
   have hlen:=(h.tab m hmo).2.1
   rw[List.getD_eq_getElem?_getD,List.getD_eq_getElem?_getD,List.getElem?_eq_getElem (by omega),List.getElem?_eq_getElem (by omega)] at e1
   exact (List.getElem_inj hnd).1 e1
 ·rw[e2,hf.2] at hk
  exact hk rfl
section
variable {n p:Nat} {w:Int} {d:Nat→List Int}
theorem Tu.root (t:Tu C n p w d) (h:Rel C W φ) {m j:Nat} (hm:(W.vm m).on=true) (hj:j<4):unp C.form (Go.Cr.ld d ((C.fr m).getD 0 0) j)=some ((C.fr m).getD (j+1) 0,true):=by
 have hne:C.fr m≠[]:=fun e=>by have:=(h.tab m hm).2.1;rw[e] at this;simp at this
 rw[t.ld m 0 j hne (by decide) (by omega),if_neg (by omega)]
 exact h.root m j hm hj
theorem Tu.leaf (t:Tu C n p w d) (h:Rel C W φ) {m q:Nat} (hm:(W.vm m).on=true) (hq:q<32):unp C.form (Go.Cr.ld d ((C.fr m).getD (q/8+1) 0) (q%8))=if m=n∧q=p then unp C.form w else (W.where_ m q).map fun x=>(φ x.1 x.2.1,x.2.2):=by
 have hne:C.fr m≠[]:=fun e=>by have:=(h.tab m hm).2.1;rw[e] at this;simp at this
 rw[t.ld m _ _ hne (by omega) (by omega)]
 by_cases e:m=n∧q=p
 ·rw[if_pos e,if_pos ⟨e.1,by rw[e.2],by rw[e.2]⟩]
 ·rw[if_neg e,if_neg (fun h=>e ⟨h.1,by omega⟩)]
  exact h.leaf m q hm hq
theorem Tu.walk (t:Tu C n p w d) (h:Rel C W φ) {m:Nat} (hm:(W.vm m).on=true) {page:Int} (hne:¬(m=n∧page=p)):walkC d C.N (C.tf m) (C.fr m) page=C.walk m page:=by
 by_cases hp:page<0∨31<page
 ·rw[zcW hp]
  unfold walkC Go.Cr.leafC
  rw[if_pos hp]
 ·obtain⟨q,rfl⟩:∃ q:Nat,page=q:=⟨page.toNat,by omega⟩
  have hf:=(h.tab m hm).1
  rw[zgI (h.tab m hm).2.1 (fun j hj=>(h.frN hm hj).1) (fun j hj=>by rw[hf];exact t.root h hm hj) (by omega),hf,t.leaf h hm (by omega),if_neg (by omega),h.walk hm (by omega)]
theorem Tu.cache (t:Tu C n p w d) (h:Rel C W φ):∀ r∈dropC C.cache n p,∃ m:Nat,r.vm=m∧(W.vm m).on=true∧walkC d C.N (C.tf m) (C.fr m) r.page=some (r.f,r.w):=fun r hr=>by
 obtain⟨h1,h2⟩:=zbW hr
 obtain⟨m,e1,e2,e3⟩:=h.cache r h1
 refine⟨m,e1,e2,?_⟩
 rw[t.walk h e2 (fun e=>h2 ⟨by rw[e1,e.1],e.2⟩)]
 exact e3
end
theorem where_own {n p:Nat} {l:List Int} (h:W.own n p=some l):W.where_ n p=some (n,p,true):=by
 unfold Wd.where_
 rw[h];rfl
theorem Rel.offer (h:Rel C W φ) {n p to i:Nat} {w:Bool} (hon:(W.vm n).on=true) (hto:(W.vm to).on=true) (hne:n≠to) {l:List Int} (ho:W.own n p=some l) (hi:firstOff (fun i=>(W.ls i).on) 16=some i):Rel { C with ls:=upd C.ls i ⟨true,n,p,to,w,-1⟩,own:=shC C.own (φ n p) n } (W.setL i ⟨true,n,p,to,w,-1⟩) φ:=by
 obtain⟨hi16,hioff,_⟩:=qN hi
 have hpg:=h.pg n p l ho
 have hw:∀ m q,(W.setL i ⟨true,n,p,to,w,-1⟩).where_ m q=W.where_ m q:=fun m q=>by
  have e:=zeT (ls:=W.ls) (i:=i) (l:=⟨true,n,p,to,w,-1⟩) (m:=m) (p:=q) (fun h=>by rw[hioff] at h;cases h.1) (fun h=>by have:=h.2.2;simp only at this;omega)
  unfold Wd.where_
  show (if (W.own m q).isSome=true then _ else (leaseAt (upd W.ls i _) m q).map _)=_
  split
  ·rfl
  ·rw[e]
   cases hf:leaseAt W.ls m q with
   | none=>rfl
   | some j=>
    obtain⟨_,hj,_⟩:=vj hf
    have:j≠i:=fun e=>by subst e;rw[hioff] at hj;cases hj
    simp only[Option.map_some]
    show some ((upd W.ls i _ j).fr,(upd W.ls i _ j).pg,(upd W.ls i _ j).wr)=_
    rw[zv this]
 have hown:shC C.own (φ n p) n=upd C.own (φ n p) ⟨3,n,p,lentN W.ls n p+1⟩:=by
  unfold shC
  rw[hpg.2.1,if_pos ⟨rfl,rfl⟩]
 have hk:∀ f,(upd C.own (φ n p) ⟨3,n,p,lentN W.ls n p+1⟩ f).kind=(C.own f).kind:=fun f=>by
  by_cases e:f=φ n p
  ·rw[e,zt,hpg.2.1]
  ·rw[zv e]
 have hoth:∀ f,(C.own f).kind≠3→upd C.own (φ n p) ⟨3,n,p,lentN W.ls n p+1⟩ f=C.own f:=fun f hf=>zv fun e=>by rw[e,hpg.2.1] at hf;exact hf rfl
 have hlent:∀ m q,lentN (upd W.ls i ⟨true,n,p,to,w,-1⟩) m q=lentN W.ls m q+(decide (n=m) && decide (p=q)).toNat:=fun m q=>by
  have:=zhz (ls:=W.ls) hi16 ⟨true,n,p,to,w,-1⟩ m q
  rw[hioff] at this
  simpa using this
 rw[hown]
 exact { h with
  wk:=h.wk.setL hi16 (fun _=>⟨hon,hto,hne,by show (W.own n p).isSome=true;rw[ho];rfl,show (-1:Int)≤-1 by decide,show (-1:Int)≤31 by decide⟩) (fun h=>by cases h) (fun _ q hq=>by simp only at hq;omega) (fun _ h0=>by simp only at h0;omega)
  ls:=by show upd C.ls i _=upd W.ls i _;rw[h.ls]
  used:=fun f hf=>by show C.used f=decide ((upd C.own _ _ f).kind≠0);rw[hk];exact h.used f hf
  own0:=fun f hf h0=>by
   have h0':(upd C.own (φ n p) ⟨3,n,p,lentN W.ls n p+1⟩ f).kind=0:=h0
   rw[hk] at h0'
   show upd C.own _ _ f=ow0
   rw[hoth f (by rw[h0'];decide)];exact h.own0 f hf h0'
  kind:=fun f hf=>by show 0≤(upd C.own _ _ f).kind∧_;rw[hk];exact h.kind f hf
  tabf:=fun m f hm=>by
   have:=h.tabf m f hm
   refine⟨this.1,?_⟩
   show upd C.own _ _ f=_
   rw[hoth f (by rw[this.2];show (2:Int)≠3;decide)];exact this.2
  tabk:=fun f hf h2=>by
   have h2':(upd C.own (φ n p) ⟨3,n,p,lentN W.ls n p+1⟩ f).kind=2:=h2
   rw[hk] at h2';exact h.tabk f hf h2'
  leaf:=fun m q hm hq=>by rw[hw];exact h.leaf m q hm hq
  pg:=fun m q l2 hl2=>by
   have h3:=h.pg m q l2 hl2
   refine⟨h3.1,?_,h3.2.2⟩
   show upd C.own (φ n p) _ (φ m q)=⟨3,m,q,lentN (upd W.ls i _) m q⟩
   rw[hlent]
   by_cases e:n=m∧p=q
   ·obtain⟨rfl,rfl⟩:=e
    rw[zt];simp
   ·rw[zv (fun e2=>e (by have:=h.inj hl2 ho e2;exact⟨this.1.symm,this.2.symm⟩)),h3.2.1]
    have:(decide (n=m) && decide (p=q))=false:=by simpa using e
    rw[this];simp
  pgk:=fun f hf h3=>by
   have h3':(upd C.own (φ n p) ⟨3,n,p,lentN W.ls n p+1⟩ f).kind=3:=h3
   rw[hk] at h3';exact h.pgk f hf h3'
  hyp:=⟨h.hyp.1,fun f=>by
   show _↔f<C.N∧(upd C.own _ _ f).kind=1
   rw[hk];exact h.hyp.2 f⟩ }
theorem zfM {n p:Nat} (h:W.where_ n p=none):W.own n p=none∧leaseAt W.ls n p=none:=by
 unfold Wd.where_ at h
 split at h
 ·cases h
 ·rename_i hs
  refine⟨by cases ho:W.own n p with | none=>rfl | some l=>rw[ho] at hs;simp at hs,?_⟩
  cases hf:leaseAt W.ls n p with
  | none=>rfl
  | some j=>rw[hf] at h;cases h
end
end Go.Cr
end
section
namespace Go.Cr
open Go Go.Pt
section
variable {C:Cst} {W:Wd} {φ:Nat→Nat→Nat}
theorem zcl {n p:Nat} (h1:W.own n p=none) (h2:leaseAt W.ls n p=none):W.where_ n p=none:=by
 unfold Wd.where_
 rw[h1,h2];rfl
theorem setO_own {n p:Nat} {o:Option (List Int)} {m q:Nat}:(W.setO n p o).own m q=if m=n∧q=p then o else W.own m q:=by
 show upd W.own n (upd (W.own n) p o) m q=_
 by_cases e:m=n
 ·subst e
  rw[zt]
  by_cases e2:q=p
  ·subst e2;rw[zt,if_pos ⟨rfl,rfl⟩]
  ·rw[zv e2,if_neg (fun h=>e2 h.2)]
 ·rw[zv e,if_neg (fun h=>e h.1)]
theorem Rel.clear (h:Rel C W φ) {f:Nat} (hf:(C.own f).kind=0) {l:List Int} (hl:l.length=256∧Byt l):Rel { C with dat:=upd C.dat f l } W φ:=by
 have hk:(C.own f).kind≠2:=by rw[hf];decide
 exact { h with
  len:=fun g hg=>by
   show (upd C.dat f l g).length=256∧Byt (upd C.dat f l g)
   by_cases e:g=f
   ·rw[e,zt];exact hl
   ·rw[zv e];exact h.len g hg
  root:=fun n j hn hj=>by
   show unp C.form (ld (upd C.dat f l) ((C.fr n).getD 0 0) j)=_
   rw[h.ld_keep hk hn (by decide)];exact h.root n j hn hj
  leaf:=fun n p hn hp'=>by
   show unp C.form (ld (upd C.dat f l) ((C.fr n).getD (p/8+1) 0) (p%8))=_
   rw[h.ld_keep hk hn (by omega)];exact h.leaf n p hn hp'
  pg:=fun n p l2 hl2=>by
   have h3:=h.pg n p l2 hl2
   refine⟨h3.1,h3.2.1,?_⟩
   show upd C.dat f l (φ n p)=l2
   rw[zv (fun e=>by have h4:=h3.2.1;rw[e] at h4;rw[h4] at hf;cases hf)]
   exact h3.2.2
  cache:=fun r hr=>by
   obtain⟨n,h1,h2,h3⟩:=h.cache r hr
   exact⟨n,h1,h2,by rw[←h3];exact h.walk_keep hk h2 r.page⟩ }
theorem zhA {ls:Nat→Ls} {n p:Nat}:lentL ls n p=false↔lentN ls n p=0:=by
 unfold lentL lentN count
 rw[List.any_eq_false,List.length_eq_zero_iff,List.filter_eq_nil_iff]
 constructor
 ·intro h i hi
  have:=h i hi
  simp only[Bool.and_eq_true,decide_eq_true_eq,Int.natCast_inj] at this ⊢
  exact this
 ·intro h i hi
  have:=h i hi
  simp only[Bool.and_eq_true,decide_eq_true_eq,Int.natCast_inj] at this ⊢
  exact this
theorem Rel.give (h:Rel C W φ) {n p:Nat} {l:List Int} (ho:W.own n p=some l) (hl:lentL W.ls n p=false) :
  Rel { C with dat:=setC C.dat C.N (C.tf n) (C.fr n) p 0,cache:=dropC C.cache n p,own:=recC C.own (φ n p) n,used:=upd C.used (φ n p) false } { W.setO n p none with free:=W.free+1 } φ∧C.used (φ n p)=true:=by
 have hwp:=h.wk.pg n p l ho
 have hpg:=h.pg n p l ho
 have hon:=hwp.1
 have htf:=(h.tab n hon).1
 have ht:=h.tu hon hwp.2.1 (w:=0) ⟨by decide,by decide⟩
 have h0:=zhA.1 hl
 have hused:C.used (φ n p)=true:=by rw[h.used _ hpg.1,hpg.2.1];rfl
 refine⟨?_,hused⟩
 have hown:recC C.own (φ n p) n=upd C.own (φ n p) ow0:=by
  unfold recC
  rw[hpg.2.1,if_pos ⟨rfl,rfl,by show ((lentN W.ls n p:Nat):Int)≤0;omega⟩]
 rw[hown]
 have hat:leaseAt W.ls n p=none:=by
  cases hf:leaseAt W.ls n p with
  | none=>rfl
  | some j=>
   obtain⟨_,h1,h2,h3⟩:=vj hf
   have:=h.wk.lsa j h1 p h3
   rw[h2,ho] at this;cases this
 have hw:∀ m q,({ W.setO n p none with free:=W.free+1 }:Wd).where_ m q=if m=n∧q=p then none else W.where_ m q:=fun m q=>by
  have e1:({ W.setO n p none with free:=W.free+1 }:Wd).where_ m q=(W.setO n p none).where_ m q:=rfl
  rw[e1]
  by_cases e:m=n∧q=p
  ·rw[if_pos e]
   obtain⟨rfl,rfl⟩:=e
   exact zcl (by rw[setO_own,if_pos ⟨rfl,rfl⟩]) hat
  ·rw[if_neg e]
   unfold Wd.where_
   rw[setO_own,if_neg e];rfl
 have hnl:∀ i,(W.ls i).on=true→¬((W.ls i).fr=n∧(W.ls i).pg=p):=fun i hi e=>by
  have:=zcO h0 i (h.wk.lsr i hi).1
  simp[hi,e.1,e.2] at this
 have hwk:WOk { W.setO n p none with free:=W.free+1 }:=by
  refine { h.wk with off:=fun i hi=>⟨(h.wk.off i hi).1,fun q=>?_,(h.wk.off i hi).2.2⟩,pg:=fun m q l2 hl2=>?_,most:=fun m=>?_,lsr:=fun i hi=>?_,lsa:=fun i hi q hq=>?_ }
  ·show (W.setO n p none).own i q=none
   rw[setO_own];split
   ·rfl
   ·exact (h.wk.off i hi).2.1 q
  ·have hl2':(W.setO n p none).own m q=some l2:=hl2
   rw[setO_own] at hl2'
   split at hl2'
   ·cases hl2'
   ·exact h.wk.pg m q l2 hl2'
  ·refine Int.le_trans ?_ (h.wk.most m)
   have:count (fun q=>((W.setO n p none).own m q).isSome) 32≤count (fun q=>(W.own m q).isSome) 32:=zcP fun q _ hq=>by
    rw[setO_own] at hq
    split at hq
    ·cases hq
    ·exact hq
   exact Int.ofNat_le.2 this
  ·have hh:=h.wk.lsr i hi
   refine⟨hh.1,hh.2.1,hh.2.2.1,hh.2.2.2.1,?_,hh.2.2.2.2.2⟩
   show ((W.setO n p none).own (W.ls i).fr (W.ls i).pg).isSome=true
   rw[setO_own,if_neg (hnl i hi)];exact hh.2.2.2.2.1
  ·show (W.setO n p none).own (W.ls i).to q=none
   rw[setO_own];split
   ·rfl
   ·exact h.wk.lsa i hi q hq
 have hne:∀ m q l2,W.own m q=some l2→¬(m=n∧q=p)→φ m q≠φ n p:=fun m q l2 hl2 e e2=>e (h.inj hl2 ho e2)
 have hk:∀ f,f≠φ n p→upd C.own (φ n p) ow0 f=C.own f:=fun f e=>zv e
 exact { h with
  wk:=hwk
  free:=by
   show W.free+1=(count (fun f=>! upd C.used (φ n p) false f) C.N:Int)
   have e1:(fun f=>! upd C.used (φ n p) false f)=upd (fun f=>! C.used f) (φ n p) true:=by
    funext g;unfold upd;split <;> rfl
   have:=kM (g:=fun f=>! C.used f) hpg.1 true
   rw[←e1] at this
   simp only[hused,Bool.not_true,Bool.toNat_false,Bool.toNat_true] at this
   rw[h.free];omega
  used:=fun f hf=>by
   show upd C.used (φ n p) false f=decide ((upd C.own (φ n p) ow0 f).kind≠0)
   by_cases e:f=φ n p
   ·rw[e,zt,zt];rfl
   ·rw[zv e,zv e];exact h.used f hf
  own0:=fun f hf hk0=>by
   show upd C.own (φ n p) ow0 f=ow0
   by_cases e:f=φ n p
   ·rw[e,zt]
   ·have hk0':(upd C.own (φ n p) ow0 f).kind=0:=hk0
    rw[zv e] at hk0' ⊢;exact h.own0 f hf hk0'
  kind:=fun f hf=>by
   show 0≤(upd C.own (φ n p) ow0 f).kind∧(upd C.own (φ n p) ow0 f).kind≤3
   by_cases e:f=φ n p
   ·rw[e,zt];exact⟨show (0:Int)≤0 by decide,show (0:Int)≤3 by decide⟩
   ·rw[zv e];exact h.kind f hf
  len:=ht.len
  tabf:=fun m f hm=>by
   have:=h.tabf m f hm
   refine⟨this.1,?_⟩
   show upd C.own (φ n p) ow0 f=_
   rw[zv (fun e=>by rw[e,hpg.2.1] at this;cases this.2)];exact this.2
  tabk:=fun f hf h2=>by
   have h2':(upd C.own (φ n p) ow0 f).kind=2:=h2
   by_cases e:f=φ n p
   ·rw[e,zt] at h2';cases h2'
   ·rw[zv e] at h2';exact h.tabk f hf h2'
  root:=fun m j hm hj=>ht.root h hm hj
  leaf:=fun m q hm hq=>by
   show unp C.form (ld (setC C.dat C.N (C.tf n) (C.fr n) p 0) ((C.fr m).getD (q/8+1) 0) (q%8))=_
   rw[ht.leaf h hm hq,hw]
   split
   ·rw[zfk];rfl
   ·rfl
  pg:=fun m q l2 hl2=>by
   have hl2':(W.setO n p none).own m q=some l2:=hl2
   rw[setO_own] at hl2'
   by_cases e:m=n∧q=p
   ·rw[if_pos e] at hl2';cases hl2'
   ·rw[if_neg e] at hl2'
    have h3:=h.pg m q l2 hl2'
    refine⟨h3.1,?_,?_⟩
    ·show upd C.own (φ n p) ow0 (φ m q)=_
     rw[zv (hne m q l2 hl2' e)];exact h3.2.1
    ·show setC C.dat C.N (C.tf n) (C.fr n) p _ (φ m q)=l2
     rw[ht.oth _ (by rw[h3.2.1];show (3:Int)≠2;decide)];exact h3.2.2
  pgk:=fun f hf h3=>by
   have h3':(upd C.own (φ n p) ow0 f).kind=3:=h3
   by_cases e:f=φ n p
   ·rw[e,zt] at h3';cases h3'
   ·rw[zv e] at h3'
    obtain⟨m,q,h4,h5⟩:=h.pgk f hf h3'
    refine⟨m,q,?_,h5⟩
    show ((W.setO n p none).own m q).isSome=true
    rw[setO_own,if_neg (fun e2=>e (by rw[←h5,e2.1,e2.2]))];exact h4
  hyp:=⟨h.hyp.1,fun f=>by
   show _↔f<C.N∧(upd C.own (φ n p) ow0 f).kind=1
   by_cases e:f=φ n p
   ·rw[e,zt,h.hyp.2 (φ n p),hpg.2.1]
    exact⟨fun h=>(by cases h.2),fun h=>(by cases h.2)⟩
   ·rw[zv e];exact h.hyp.2 f⟩
  cache:=ht.cache (W:=W) (φ:=φ) h
  csize:=Nat.le_trans zbX h.csize }
def upφ (φ:Nat→Nat→Nat) (n p f:Nat):Nat→Nat→Nat:=fun m q=>if m=n∧q=p then f else φ m q
theorem Rel.get (h:Rel C W φ) {n p f:Nat} {l:List Int} (hl:l.length=256∧Byt l) (hon:(W.vm n).on=true) (hp:p<32) (hno:W.where_ n p=none) (hq:(W.pages n:Int)<(W.vm n).quota) (hf:firstOff C.used C.N=some f) (w:Bool) (hww:w=true) :
  Rel { C with dat:=setC (upd C.dat f l) C.N (C.tf n) (C.fr n) p (pk (C.tf n) f w),cache:=dropC C.cache n p,own:=donC C.own f n p,used:=upd C.used f true } { W.setO n p (some l) with free:=W.free-1 } (upφ φ n p f):=by
 subst hww
 obtain⟨hfN,hfu,_⟩:=qN hf
 have hN:=h.N
 have hk0:(C.own f).kind=0:=by
  have:=h.used f hfN
  rw[hfu] at this
  have h2:=of_decide_eq_false this.symm
  exact Classical.byContradiction fun h3=>h2 h3
 have h':=h.clear hk0 hl
 have htf:=(h.tab n hon).1
 have ht:=h'.tu hon hp (w:=pk (C.tf n) f true) (zlw (by omega)).1
 have hn1:=zfM hno
 have hown:donC C.own f n p=upd C.own f ⟨3,n,p,0⟩:=by unfold donC;rw[if_pos hk0]
 rw[hown]
 have hw:∀ m q,({ W.setO n p (some l) with free:=W.free-1 }:Wd).where_ m q=if m=n∧q=p then some (n,p,true) else W.where_ m q:=fun m q=>by
  have e1:({ W.setO n p (some l) with free:=W.free-1 }:Wd).where_ m q=(W.setO n p (some l)).where_ m q:=rfl
  rw[e1]
  unfold Wd.where_
  rw[setO_own]
  by_cases e:m=n∧q=p
  ·rw[if_pos e,if_pos e,e.1,e.2];rfl
  ·rw[if_neg e,if_neg e];rfl
 have hφ:∀ m q l2,W.own m q=some l2→upφ φ n p f m q=φ m q:=fun m q l2 hl2=>by
  unfold upφ
  rw[if_neg]
  rintro⟨rfl,rfl⟩
  rw[hn1.1] at hl2;cases hl2
 have h0:lentN W.ls n p=0:=vE fun i hi=>by
  cases hb:((W.ls i).on && (decide ((W.ls i).fr=n) && decide ((W.ls i).pg=p))) with
  | false=>rfl
  | true=>
   simp only[Bool.and_eq_true,decide_eq_true_eq] at hb
   have:=(h.wk.lsr i hb.1).2.2.2.2.1
   rw[hb.2.1,hb.2.2,hn1.1] at this;cases this
 have hne:∀ m q l2,W.own m q=some l2→φ m q≠f:=fun m q l2 hl2 e=>by
  have:=(h.pg m q l2 hl2).2.1
  rw[e] at this;rw[this] at hk0;cases hk0
 have hwk:WOk { W.setO n p (some l) with free:=W.free-1 }:=by
  refine { h.wk with off:=fun i hi=>⟨(h.wk.off i hi).1,fun q=>?_,(h.wk.off i hi).2.2⟩,pg:=fun m q l2 hl2=>?_,most:=fun m=>?_,lsr:=fun i hi=>?_,lsa:=fun i hi q hq=>?_ }
  ·show (W.setO n p (some l)).own i q=none
   rw[setO_own,if_neg (fun e=>by rw[e.1] at hi;have:(W.vm n).on=false:=hi;rw[hon] at this;cases this)]
   exact (h.wk.off i hi).2.1 q
  ·have hl2':(W.setO n p (some l)).own m q=some l2:=hl2
   rw[setO_own] at hl2'
   split at hl2'
   ·rename_i e
    cases hl2'
    exact⟨by rw[e.1];exact hon,by rw[e.2];exact hp,hl⟩
   ·exact h.wk.pg m q l2 hl2'
  ·show ((count (fun q=>((W.setO n p (some l)).own m q).isSome) 32:Nat):Int)≤(W.vm m).quota
   by_cases e:m=n
   ·subst e
    have e1:(fun q=>((W.setO m p (some l)).own m q).isSome)=upd (fun q=>(W.own m q).isSome) p true:=by
     funext q
     rw[setO_own]
     by_cases e2:q=p
     ·subst e2;rw[if_pos ⟨rfl,rfl⟩,zt];rfl
     ·rw[if_neg (fun h=>e2 h.2),zv e2]
    have:=kM (g:=fun q=>(W.own m q).isSome) hp true
    rw[←e1] at this
    simp only[hn1.1,Option.isSome_none,Bool.toNat_false,Bool.toNat_true] at this
    have hq':((count (fun q=>(W.own m q).isSome) 32:Nat):Int)<(W.vm m).quota:=hq
    omega
   ·have:count (fun q=>((W.setO n p (some l)).own m q).isSome) 32=count (fun q=>(W.own m q).isSome) 32:=jg fun q _=>by rw[setO_own,if_neg (fun h=>e h.1)]
    rw[this];exact h.wk.most m
  ·have hh:=h.wk.lsr i hi
   refine⟨hh.1,hh.2.1,hh.2.2.1,hh.2.2.2.1,?_,hh.2.2.2.2.2⟩
   show ((W.setO n p (some l)).own (W.ls i).fr (W.ls i).pg).isSome=true
   rw[setO_own];split
   ·rfl
   ·exact hh.2.2.2.2.1
  ·show (W.setO n p (some l)).own (W.ls i).to q=none
   rw[setO_own,if_neg]
   ·exact h.wk.lsa i hi q hq
   ·rintro⟨e1,e2⟩
    have:=zgm h.wk hi hq (by omega)
    rw[e1,e2,hn1.2] at this;cases this
 exact { h with
  wk:=hwk
  free:=by
   show W.free-1=(count (fun g=>! upd C.used f true g) C.N:Int)
   have e1:(fun g=>! upd C.used f true g)=upd (fun g=>! C.used g) f false:=by
    funext g;unfold upd;split <;> rfl
   have:=kM (g:=fun g=>! C.used g) hfN false
   rw[←e1] at this
   simp only[hfu,Bool.not_false,Bool.toNat_false,Bool.toNat_true] at this
   rw[h.free];omega
  used:=fun g hg=>by
   show upd C.used f true g=decide ((upd C.own f ⟨3,n,p,0⟩ g).kind≠0)
   by_cases e:g=f
   ·rw[e,zt,zt];rfl
   ·rw[zv e,zv e];exact h.used g hg
  own0:=fun g hg hk=>by
   have hk':(upd C.own f ⟨3,n,p,0⟩ g).kind=0:=hk
   show upd C.own f ⟨3,n,p,0⟩ g=ow0
   by_cases e:g=f
   ·rw[e,zt] at hk';cases hk'
   ·rw[zv e] at hk' ⊢;exact h.own0 g hg hk'
  kind:=fun g hg=>by
   show 0≤(upd C.own f ⟨3,n,p,0⟩ g).kind∧(upd C.own f ⟨3,n,p,0⟩ g).kind≤3
   by_cases e:g=f
   ·rw[e,zt];exact⟨show (0:Int)≤3 by decide,show (3:Int)≤3 by decide⟩
   ·rw[zv e];exact h.kind g hg
  len:=ht.len
  tabf:=fun m g hm=>by
   have:=h.tabf m g hm
   refine⟨this.1,?_⟩
   show upd C.own f ⟨3,n,p,0⟩ g=_
   rw[zv (fun e=>by rw[e] at this;rw[this.2] at hk0;cases hk0)];exact this.2
  tabk:=fun g hg h2=>by
   have h2':(upd C.own f ⟨3,n,p,0⟩ g).kind=2:=h2
   by_cases e:g=f
   ·rw[e,zt] at h2';cases h2'
   ·rw[zv e] at h2';exact h.tabk g hg h2'
  root:=fun m j hm hj=>ht.root h' hm hj
  leaf:=fun m q hm hq=>by
   show unp C.form (ld (setC (upd C.dat f l) C.N (C.tf n) (C.fr n) p _) ((C.fr m).getD (q/8+1) 0) (q%8))=_
   rw[ht.leaf h' hm hq,hw]
   by_cases e:m=n∧q=p
   ·rw[if_pos e,if_pos e,htf,ziZ (by omega),Option.map_some]
    unfold upφ
    rw[if_pos ⟨rfl,rfl⟩]
   ·rw[if_neg e,if_neg e]
    cases hwq:W.where_ m q with
    | none=>rfl
    | some x=>
     obtain⟨l2,hl2⟩:=h.wk.where_own hwq
     rw[Option.map_some,Option.map_some,hφ _ _ l2 hl2]
  pg:=fun m q l2 hl2=>by
   have hl2':(W.setO n p (some l)).own m q=some l2:=hl2
   rw[setO_own] at hl2'
   by_cases e:m=n∧q=p
   ·rw[if_pos e] at hl2'
    cases hl2'
    obtain⟨rfl,rfl⟩:=e
    have e1:upφ φ m q f m q=f:=by unfold upφ;rw[if_pos ⟨rfl,rfl⟩]
    rw[e1]
    refine⟨hfN,?_,?_⟩
    ·show upd C.own f ⟨3,m,q,0⟩ f=⟨3,m,q,lentN W.ls m q⟩
     rw[zt,h0];rfl
    ·show setC (upd C.dat f l) C.N (C.tf m) (C.fr m) q _ f=l
     rw[ht.oth f (by show (C.own f).kind≠2;rw[hk0];decide)]
     exact zt
   ·rw[if_neg e] at hl2'
    have h3:=h.pg m q l2 hl2'
    rw[hφ m q l2 hl2']
    refine⟨h3.1,?_,?_⟩
    ·show upd C.own f ⟨3,n,p,0⟩ (φ m q)=_
     rw[zv (hne m q l2 hl2')];exact h3.2.1
    ·show setC (upd C.dat f l) C.N (C.tf n) (C.fr n) p _ (φ m q)=l2
     rw[ht.oth _ (by show (C.own (φ m q)).kind≠2;rw[h3.2.1];show (3:Int)≠2;decide)]
     show upd C.dat f l (φ m q)=l2
     rw[zv (hne m q l2 hl2')];exact h3.2.2
  pgk:=fun g hg h3=>by
   have h3':(upd C.own f ⟨3,n,p,0⟩ g).kind=3:=h3
   by_cases e:g=f
   ·refine⟨n,p,?_,?_⟩
    ·show ((W.setO n p (some l)).own n p).isSome=true
     rw[setO_own,if_pos ⟨rfl,rfl⟩];rfl
    ·unfold upφ;rw[if_pos ⟨rfl,rfl⟩,e]
   ·rw[zv e] at h3'
    obtain⟨m,q,h4,h5⟩:=h.pgk g hg h3'
    obtain⟨l2,hl2⟩:=Option.isSome_iff_exists.1 h4
    refine⟨m,q,?_,by rw[hφ m q l2 hl2];exact h5⟩
    show ((W.setO n p (some l)).own m q).isSome=true
    rw[setO_own];split
    ·rfl
    ·exact h4
  hyp:=⟨h.hyp.1,fun g=>by
   show _↔g<C.N∧(upd C.own f ⟨3,n,p,0⟩ g).kind=1
   by_cases e:g=f
   ·rw[e,zt,h.hyp.2 f,hk0]
    exact⟨fun h=>(by cases h.2),fun h=>(by cases h.2)⟩
   ·rw[zv e];exact h.hyp.2 g⟩
  cache:=fun r hr=>ht.cache (W:=W) (φ:=φ) h' r hr
  csize:=Nat.le_trans zbX h.csize }
end
end Go.Cr
end
section
namespace Go.Cr
open Go Go.Pt
structure Sam (W W':Wd):Prop where
 on:∀ i,(W'.vm i).on=(W.vm i).on
 len:∀ i,(W'.vm i).seats.length=(W.vm i).seats.length
 ev:∀ i,(W'.ev i).length≤(W.ev i).length+1
 time:W'.time=W.time
section
variable {W:Wd}
theorem Sam.refl:Sam W W:=⟨fun _=>rfl,fun _=>rfl,fun _=>Nat.le_succ _,rfl⟩
theorem Sam.setV {n:Nat} {v:Bv} (h1:v.on=(W.vm n).on) (h2:v.seats.length=(W.vm n).seats.length):Sam W (W.setV n v):=by
 refine⟨fun i=>?_,fun i=>?_,fun _=>Nat.le_succ _,rfl⟩
 ·show (upd W.vm n v i).on=_
  by_cases e:i=n
  ·subst e;rw[zt,h1]
  ·rw[zv e]
 ·show (upd W.vm n v i).seats.length=_
  by_cases e:i=n
  ·subst e;rw[zt,h2]
  ·rw[zv e]
theorem Sam.tell {n:Nat} {e:Evt}:Sam W (W.tell n e):=by
 refine⟨fun _=>rfl,fun _=>rfl,fun i=>?_,rfl⟩
 show (upd W.ev n (W.ev n++[e]) i).length≤_
 by_cases h:i=n
 ·subst h;rw[zt];simp
 ·rw[zv h];omega
structure Ans (W:Wd) (r:Int×Int×Wd):Prop where
 v:0≤r.1∧r.1≤255
 e:0≤r.2.1∧r.2.1≤13
 s:Sam W r.2.2
theorem Ans.err {v e:Int} (hv:0≤v∧v≤255) (he:0≤e∧e≤13):Ans W (v,e,W):=⟨hv,he,Sam.refl⟩
theorem zhl {n k i:Nat}:Ans W (0,W.raise n k i):=by
 unfold Wd.raise
 split
 ·exact Ans.err (by decide) (by decide)
 ·exact⟨show (0:Int)≤0∧(0:Int)≤255 by decide,show (0:Int)≤0∧(0:Int)≤13 by decide,Sam.setV rfl (by show ((W.vm n).seats.set k _).length=_;rw[List.length_set])⟩
theorem zht {n:Nat} {p:Int}:0≤W.mine n p∧W.mine n p≤13:=by
 unfold Wd.mine
 split
 ·decide
 ·split <;> decide
theorem zfG (h:WOk W) {n k:Nat} (hn:n<6) {c w1 w2 w3:Int}:Ans W (W.call n k c w1 w2 w3):=by
 have z:(0:Int)≤0∧(0:Int)≤255:=by decide
 have z2:(0:Int)≤0∧(0:Int)≤13:=by decide
 unfold Wd.call
 by_cases h1:c=0
 ·rw[if_pos h1]
  exact⟨z,z2,Sam.tell⟩
 rw[if_neg h1]
 by_cases h2:c=1
 ·rw[if_pos h2]
  unfold Wd.nextKey
  cases hk:(W.vm n).keys with
  | nil=>exact Ans.err z (by decide)
  | cons x l=>
   have:=(h.keys n).2 x (by rw[hk];simp)
   exact⟨this,z2,Sam.setV rfl rfl⟩
 rw[if_neg h2]
 by_cases h3:c=2
 ·rw[if_pos h3]
  unfold Wd.ring
  split
  ·exact Ans.err z (by decide)
  split
  ·exact Ans.err z (by decide)
  ·exact zhl
 rw[if_neg h3]
 by_cases h4:c=3
 ·rw[if_pos h4]
  exact⟨z,z2,⟨fun _=>rfl,fun _=>rfl,fun _=>Nat.le_succ _,rfl⟩⟩
 rw[if_neg h4]
 by_cases h5:c=4
 ·rw[if_pos h5]
  unfold Wd.offer
  split
  ·exact Ans.err z zht
  split
  ·exact Ans.err z (by decide)
  split
  ·exact Ans.err z (by decide)
  cases hf:firstOff (fun i=>(W.ls i).on) 16 with
  | none=>exact Ans.err z (by decide)
  | some i=>
   have:=(qN hf).1
   exact⟨show (0:Int)≤(i:Int)∧(i:Int)≤255 by omega,z2,⟨fun _=>rfl,fun _=>rfl,fun _=>Nat.le_succ _,rfl⟩⟩
 rw[if_neg h5]
 by_cases h6:5≤c∧c≤7
 ·rw[if_pos h6]
  unfold Wd.lease
  have q:∀ i l,Ans W (0,0,W.setL i l):=fun i l=>⟨z,z2,⟨fun _=>rfl,fun _=>rfl,fun _=>Nat.le_succ _,rfl⟩⟩
  split
  ·exact Ans.err z (by decide)
  split
  ·exact Ans.err z (by decide)
  split
  ·split
   ·exact Ans.err z (by decide)
   ·exact q _ _
  split
  ·exact Ans.err z (by decide)
  split
  ·exact q _ _
  split
  ·exact Ans.err z (by decide)
  split
  ·exact Ans.err z (by decide)
  ·exact q _ _
 rw[if_neg h6]
 have q:∀ (W':Wd),W'.vm=W.vm→W'.ev=W.ev→W'.time=W.time→Ans W (0,0,W'):=fun W' h1 h2 h3=>⟨z,z2,⟨fun i=>by rw[h1],fun i=>by rw[h1],fun i=>by show (W'.ev i).length≤_;rw[h2];omega,h3⟩⟩
 by_cases h7:c=8
 ·rw[if_pos h7]
  unfold Wd.give
  split
  ·exact Ans.err z zht
  split
  ·exact Ans.err z (by decide)
  ·exact q _ rfl rfl rfl
 rw[if_neg h7]
 by_cases h8:c=9
 ·rw[if_pos h8]
  unfold Wd.get
  split
  ·exact Ans.err z (by decide)
  split
  ·exact Ans.err z (by decide)
  split
  ·exact Ans.err z (by decide)
  split
  ·exact Ans.err z (by decide)
  ·exact q _ rfl rfl rfl
 rw[if_neg h8]
 by_cases h9:c=10
 ·rw[if_pos h9]
  unfold Wd.load
  split
  ·exact Ans.err z (by decide)
  split
  ·exact Ans.err z (by decide)
  cases hw:W.where_ n (small w2).toNat with
  | none=>exact Ans.err z (by decide)
  | some x=>
   obtain⟨m,q',b⟩:=x
   cases b with
   | false=>exact Ans.err z (by decide)
   | true=>exact q _ rfl rfl rfl
 rw[if_neg h9]
 by_cases h10:c=11
 ·rw[if_pos h10]
  unfold Wd.save
  split
  ·exact Ans.err z (by decide)
  split
  ·exact Ans.err z (by decide)
  cases hw:W.where_ n (small w2).toNat with
  | none=>exact Ans.err z (by decide)
  | some x=>exact⟨z,z2,Sam.setV rfl rfl⟩
 rw[if_neg h10]
 by_cases h11:c=12
 ·rw[if_pos h11]
  exact Ans.err (by omega) z2
 rw[if_neg h11]
 by_cases h12:c=13
 ·rw[if_pos h12]
  exact⟨z,z2,Sam.setV rfl (by show ((W.vm n).seats.set k _).length=_;rw[List.length_set])⟩
 rw[if_neg h12]
 exact Ans.err z (by decide)
end
end Go.Cr
end
