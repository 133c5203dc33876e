/- Texts of this work,joined by program (pack.py): Ii,Ij,PsO,Ik,Il,Im,Du,Dv,Za,Zb,Zc,Zd,Ze. -/
import Derived.Test.YtabdpmnhjlmnlaaGreatDoorQAH
import Derived.Test.YtabdpmnhjlmnlaaGreatDoorQAB
import Derived.Test.YtabdpmnhjlmnlaaGreatDoorQAE
import Derived.Test.YtabdpmnhjlmnlaaGreatDoorQAD
import Derived.Test.YtabdpmnhjlmnlaaGreatDoorQAC
set_option linter.unusedVariables false
section
namespace Go.Cr
open Go Go.Pt
theorem vp:∀ N:Nat,cF N (fun _=>noughts)=List.replicate (256*N) (0:Int)
 | 0=>rfl
 | N+1=>by
  simp only[cF]
  rw[vp N,Nat.mul_add,Nat.mul_one,←List.replicate_append_replicate];rfl
def kn0 (form:Int):Kn:=⟨form,0,fun _=>bv0,fun _=>0,fun _=>0,fun _=>[],fun _=>ls0,fun _=>0⟩
def cst0 (form:Int) (N:Nat):Cst:={ toKn:=kn0 form,N:=N,dat:=fun _=>noughts,used:=fun _=>false,left:=-1,cache:=[],own:=fun _=>ow0,alm:=fun _ _=>none,region:=[],ev:=fun _=>[] }
end Go.Cr
namespace Go.Proofs.YtabdpmnhjlmnlaaGreatDoor
open Go Go.Pt Go.Cr Go.Hp
section
variable {S S':Mem} {ρ ρ':Rho} {R:Nat→Prop}
theorem clamp {N:Nat} (h:N≤512):(if 512<(if (N:Int)<0 then 0 else (N:Int)) then 512 else (if (N:Int)<0 then 0 else (N:Int)))=(N:Int):=by
 rw[if_neg (by omega:¬(N:Int)<0),if_neg (by omega)]
theorem ko (hg:∀ b r,ρ b=some r→S b≠none) {N:Nat} (h1:1≤N) (hN:N≤512) {Q:Pt→Mem→Prop} (hQ:∀ m S' ρ',Mv S ρ S' ρ' (fun _=>False)→StoreD S' ρ' m N (fun _=>noughts)→Q (some (m,0)) S'):wt S N Q:=by
 apply zas
 unfold vS
 rw[clamp hN,w64 (by omega) (by omega)]
 refine⟨by omega,Int.le_refl _,by omega,by omega,?_⟩
 have e:(256*(N:Int)).toNat=256*N:=by omega
 rw[e,fa,←vp]
 intro B hB m hm
 have m1:Mv S ρ (S.set B (bw 5 (bL (cF N fun _=>noughts)))) (ρ.upd B 2) (fun _=>False):=(Mv.refl hg).new hB _ 2
 have m2:=m1.new hm (bw 180 [.slice (some ⟨B,0,none⟩) (256*N) (256*N)]) 1
 have hne:m≠B:=fun e=>by subst e;simp at hm
 refine hQ m _ _ m2 ⟨⟨B,⟨zG,by rw[qk hne.symm];exact zG,hne,by rw[vp,List.length_replicate],fun x hx=>?_,hN⟩,by rw[yV hne.symm];exact yp⟩,yp,fun _ _=>qI,fun _ _ x hx=>yZ hx⟩
 rw[vp] at hx
 rw[List.eq_of_mem_replicate hx];decide
theorem zaE (hg:∀ b r,ρ b=some r→S b≠none) {N:Nat} (h1:1≤N) (hN:N≤512) {Q:Pt→Mem→Prop} (hQ:∀ m S' ρ',Mv S ρ S' ρ' (fun _=>False)→OwnP S' ρ' m N (fun _=>ow0)→Q (some (m,0)) S'):jR S N Q:=by
 apply zat
 unfold vT
 rw[clamp hN]
 refine⟨by omega,Int.le_refl _,by omega,by omega,?_⟩
 rw[Int.toNat_natCast]
 have hz:zrep N [Value.int .u8 0,.int .i64 0,.int .i64 0,.int .i64 0]=cF N fun _=>owL ow0:=by
  have:∀ n:Nat,zrep n [Value.int .u8 0,.int .i64 0,.int .i64 0,.int .i64 0]=cF n fun _=>owL ow0:=by
   intro n
   induction n with
   | zero=>rfl
   | succ n ih=>
    have hs:∀ (z:List Value) (n:Nat),zrep (n+1) z=zrep n z++z:=by
     intro z n
     induction n with
     | zero=>simp[zrep]
     | succ n ih=>show z++zrep (n+1) z=(z++zrep n z)++z;rw[ih,List.append_assoc]
    rw[hs,ih];rfl
  exact this N
 rw[hz]
 intro B hB m hm
 have hl:(cF N fun _=>owL ow0).length=N*4:=wu (own:=fun _=>ow0)
 have m1:Mv S ρ (S.set B (bw 91 (cF N fun _=>owL ow0))) (ρ.upd B 9) (fun _=>False):=(Mv.refl hg).new hB _ 9
 have m2:=m1.new hm (bw 199 [.slice (some ⟨B,0,none⟩) N N]) 8
 have hne:m≠B:=fun e=>by subst e;simp at hm
 refine hQ m _ _ m2 ⟨⟨some (B,0),N,N⟩,⟨⟨_,zG,rfl,rfl⟩,yp⟩,⟨⟨hl,Nat.le_refl _,.inr ⟨B,_,rfl,by rw[qk hne.symm];exact zG,rfl,hl,?_⟩⟩,fun b o e=>by cases e;rw[yV hne.symm];exact yp⟩⟩
 show (cF N fun _=>owL ow0).take (N*4)=_
 exact List.take_of_length_le (by rw[hl];exact Nat.le_refl _)
def iL (n:Nat):List Int:=(List.range n).map fun (i:Nat)=>(i:Int)
theorem zeD (n:Nat):Hq.fl (iL (n+1))=Hq.fl (iL n)++[.int .i64 (n:Int)]:=by
 unfold iL Hq.fl
 rw[List.range_succ,List.map_append,List.flatMap_append];rfl
theorem zeE (N:Nat):iL N=freeL N fun _=>false:=by
 unfold iL freeL
 have:(List.range N).filter (fun i=>! false)=List.range N:=by simp
 rw[this]
theorem zeg (n:Nat):uL (n+1) (fun _=>false)=uL n (fun _=>false)++[.bool false]:=rfl
theorem jf (hg:∀ b r,ρ b=some r→S b≠none) {N:Nat} (h1:1≤N) (hN:N≤512) {Q:Pt→Mem→Prop} (hQ:∀ p S' ρ',Mv S ρ S' ρ' R345→PoolP S' ρ' p N (fun _=>false) (-1)→Q (some (p,0)) S'):vi S N Q:=by
 apply zbH
 unfold kZ
 intro p hp
 have m0:Mv S ρ (S.set p (bw 178 [.slice none 0 0,.slice none 0 0,.int .i64 (-1)])) (ρ.upd p 3) R345:=(Mv.refl hg).new hp _ 3
 simp only[jn]
 refine zO (fun (z:Int) S'=>∃ (i:Nat) (ρ':Rho) (fs us:Sl),z=(i:Int)∧i≤N∧Mv S ρ S' ρ' R345∧Pc S' ρ' 3 p [eL fs,eL us,.int .i64 (-1)]∧S' p=some (bw 178 [eL fs,eL us,.int .i64 (-1)])∧Rw S' ρ' 4 1 fs (Hq.fl (iL i))∧Rw S' ρ' 5 1 us (uL i fun _=>false)) (fun z=>N-z.toNat) ?_
  ⟨0,_,⟨none,0,0⟩,⟨none,0,0⟩,rfl,by omega,m0,⟨⟨_,zG,rfl,rfl⟩,yp⟩,zG,Rw.nil,Rw.nil⟩
 rintro X z S1 ⟨i,ρ1,fs,us,rfl,hi,m1,hpc,hblk,hf,hu⟩ ih
 rw[clamp hN]
 have hfl:(Hq.fl (iL i)).length=i*1:=by rw[Hq.fl_length];simp[iL]
 have hfn:=hf.n (by decide) hfl
 have hun:=hu.n (by decide) vz
 by_cases hlt:(i:Int)<(N:Int)
 ·rw[if_pos hlt,wb (hpc.cell 0 (by simp) rfl)]
  refine zeP (R:=R345) m1 (.inr (.inl rfl)) hf rfl (by decide) rfl (by omega) fun fs' S2 ρ2 m2 m2' hf2 _=>?_
  have hpc2:=hpc.keep m2' (by decide)
  have hblk2:S2 p=some (bw 178 [eL fs,eL us,.int .i64 (-1)]):=by rw[wY m2' (by rw[hblk];simp) hpc.rol (by decide)];exact hblk
  have hu2:=hu.keep m2' (by decide)
  refine zeq hblk2 (by simp) ?_
  have e1:spl [eL fs,eL us,Value.int .i64 (-1)] 0 [eL fs']=[eL fs',eL us,.int .i64 (-1)]:=rfl
  rw[e1]
  have m3:Mv S ρ (S2.set p (bw 178 [eL fs',eL us,.int .i64 (-1)])) ρ2 R345:=m2.put hpc2.rol (.inl rfl) _
  have m3':Mv S2 ρ2 (S2.set p (bw 178 [eL fs',eL us,.int .i64 (-1)])) ρ2 (· = 3):=(Mv.refl (R:=(· = 3)) m2.rg).put hpc2.rol rfl _
  have hf3:=hf2.keep m3' (by decide)
  have hu3:=hu2.keep m3' (by decide)
  have hpc3:Pc (S2.set p (bw 178 [eL fs',eL us,.int .i64 (-1)])) ρ2 3 p [eL fs',eL us,.int .i64 (-1)]:=⟨⟨_,zG,rfl,rfl⟩,hpc2.rol⟩
  rw[wb (hpc3.cell 1 (by simp) rfl)]
  refine zeP (R:=R345) m3 (.inr (.inr rfl)) hu3 rfl (by decide) rfl (by omega) fun us' S4 ρ4 m4 m4' hu4 _=>?_
  have hblk4:S4 p=some (bw 178 [eL fs',eL us,.int .i64 (-1)]):=by rw[wY m4' (by rw[zG];simp) hpc2.rol (by decide)];exact zG
  refine zeq hblk4 (by simp) ?_
  have e2:spl [eL fs',eL us,Value.int .i64 (-1)] 1 [eL us']=[eL fs',eL us',.int .i64 (-1)]:=rfl
  rw[e2]
  have hr4:=m4'.ext p 3 hpc2.rol
  have m5:Mv S ρ (S4.set p (bw 178 [eL fs',eL us',.int .i64 (-1)])) ρ4 R345:=m4.put hr4 (.inl rfl) _
  have m5':Mv S4 ρ4 (S4.set p (bw 178 [eL fs',eL us',.int .i64 (-1)])) ρ4 (· = 3):=(Mv.refl (R:=(· = 3)) m4.rg).put hr4 rfl _
  rw[w64 (by omega) (by omega)]
  refine ih _ _ ⟨i+1,ρ4,fs',us',rfl,by omega,m5,⟨⟨_,zG,rfl,rfl⟩,hr4⟩,zG,?_,?_⟩ (by omega)
  ·rw[zeD];exact (hf3.keep m4' (by decide)).keep m5' (by decide)
  ·rw[zeg];exact hu4.keep m5' (by decide)
 ·rw[if_neg hlt]
  have:i=N:=by omega
  subst this
  have hil:(iL i).length=i:=by simp[iL]
  rcases Hq.row_open hf.row with ⟨_,h0⟩ | ⟨c,cap,t,j,e1,hle,hc,hj⟩
  ·rw[h0] at hil;simp at hil;omega
  have hrc:ρ1 c=some 4:=hf.rol c 0 (by rw[e1])
  have hne:p≠c:=fun e=>by rw[←e,hpc.rol] at hrc;cases hrc
  have hcell:S1.cell p 0=some (eL fs):=hpc.cell 0 (by simp) rfl
  have hw:=Hq.wi_of hc
  rw[←hw]
  refine Hq.init_spec (s:=fs) ⟨hcell,by rw[e1],by rw[e1],hne⟩ (by omega) fun l' hp' hh=>?_
  have hll:=hp'.length_eq
  have m2:Mv S ρ (Hq.wi S1 c t j l') ρ1 R345:=m1.put hrc (.inr (.inl rfl)) _
  have m2':Mv S1 ρ1 (Hq.wi S1 c t j l') ρ1 (· = 4):=(Mv.refl (R:=(· = 4)) m1.rg).put hrc rfl _
  refine hQ p _ ρ1 m2 ⟨⟨178,fs,us,l',?_,fun x hx=>?_,hu.keep m2' (by decide),by rw[←zeE];exact hp'⟩,hpc.rol,hN⟩
  ·have efs:fs=⟨some (c,0),l'.length,cap⟩:=by rw[e1,hll]
   rw[efs]
   exact Hq.ck_mk (by unfold Hq.wi;rw[qk hne,hblk,efs]) rfl Hq.wi_c (by omega) (by rw[hll];exact hj) hne hh (by omega)
  ·have:x=c:=by rw[e1] at hx;simpa [Hq.own] using hx
   rw[this];exact hrc
theorem zdH {form:Int} {ob kb:Nat}:spl (spl (spl z77 0 [.int .i64 form]) 74 [eP (some (ob,0))]) 171 [.pointer (some ⟨kb,0,none⟩)]=knL (kn0 form) (fun _=>vx0) ob kb:=by kernel_rfl
theorem zdJ {m p t:Nat}:([eP (some (m,0)),eP (some (p,0)),.slice none 0 0,eP (some (t,0)),.slice none 0 0,.slice none 0 0,.slice none 0 0,.slice none 0 0,.slice none 0 0,.slice none 0 0,.slice none 0 0]:List Value)=hdL ⟨m,p,t,0,0,⟨none,0,0⟩,⟨none,0,0⟩,fun _=>⟨none,0,0⟩,fun _=>vx0⟩:=rfl
end
end Go.Proofs.YtabdpmnhjlmnlaaGreatDoor
end
section
namespace Go.Cr
open Go Go.Pt
def ownL (l:List Nat):Nat→Ow:=fun f=>if f∈l then ⟨1,0,0,0⟩ else ow0
theorem kT {l:List Nat} {f:Nat} (h:f∈l):ownL l f=⟨1,0,0,0⟩:=if_pos h
theorem vj {l:List Nat} {f:Nat} (h:f∉l):ownL l f=ow0:=if_neg h
theorem zcD {l:List Nat} {g:Nat}:keepC (ownL l) g (-1)=ownL (l++[g]):=by
 unfold keepC
 funext f
 by_cases hm:g∈l
 ·rw[kT hm,if_neg (by decide)]
  by_cases hf1:f∈l
  ·rw[kT hf1,kT (by simp[hf1])]
  ·have:f≠g:=fun e=>hf1 (e ▸ hm)
   rw[vj hf1,vj (by simp only[List.mem_append,List.mem_singleton,not_or];exact⟨hf1,this⟩)]
 ·rw[vj hm,if_pos (show ow0.kind=0 from rfl),if_neg (by decide)]
  by_cases hf1:f=g
  ·subst hf1;rw[zt,kT (by simp)]
  ·rw[zn hf1]
   by_cases hf2:f∈l
   ·rw[kT hf2,kT (by simp[hf2])]
   ·rw[vj hf2,vj (by simp only[List.mem_append,List.mem_singleton,not_or];exact⟨hf2,hf1⟩)]
def cstN (form:Int) (N:Nat) (l:List Nat) (u:Nat→Bool):Cst:={ toKn:=kn0 form,N:=N,dat:=fun _=>noughts,used:=u,left:=-1,cache:=[],own:=ownL l,alm:=fun _ _=>none,region:=l,ev:=fun _=>[] }
def cstA (form:Int) (N:Nat) (l:List Nat) (u:Nat→Bool) (o:Nat→Ow):Cst:={ toKn:=kn0 form,N:=N,dat:=fun _=>noughts,used:=u,left:=-1,cache:=[],own:=o,alm:=fun _ _=>none,region:=l,ev:=fun _=>[] }
theorem zeV {free:Int}:WOk (W0 free):=by
 refine⟨fun n _=>⟨rfl,fun _=>rfl,fun _=>rfl⟩,fun n _=>rfl,fun n h=>(by cases h),fun n s h=>(by cases h),fun n=>⟨Nat.zero_le 64,fun x h=>by cases h⟩,fun n j h=>(by cases h),fun n=>⟨Int.le_refl 0,(by decide:(0:Int)≤32)⟩,fun n k h=>(by cases h),fun n p l h=>(by cases h),fun n=>?_,fun i h=>(by cases h),fun i _=>rfl,fun i h=>(by cases h),fun i j h=>(by cases h),fun n k w h=>(by cases h)⟩
 have:(W0 free).pages n=0:=yD fun _ _=>rfl
 rw[this];exact Int.le_refl _
theorem zdv {form:Int} (hf:form=1∨form=2) {N:Nat} (hN:N≤512) {l:List Nat} {u:Nat→Bool} (h:takeN N l.length (fun _=>false)=some (l,u)) {φ:Nat→Nat→Nat}:Rel (cstN form N l u) (W0 (N-l.length)) φ:=by
 obtain⟨_,h2,h3,h4,h5⟩:=yC h
 have hk:∀ f,(cstN form N l u).own f=if f∈l then ⟨1,0,0,0⟩ else ow0:=fun _=>rfl
 have hc:count (fun f=>! (fun _=>false:Nat→Bool) f) N=N:=by
  unfold count
  have:(List.range N).filter (fun f=>! false)=List.range N:=by simp
  rw[this];simp
 refine⟨zeV,rfl,rfl,rfl,hN,hf,⟨Int.le_refl 0,(by decide:(0:Int)≤4611686018427387904)⟩,fun n h=>(by cases h),fun n k=>rfl,?_,rfl,fun f _=>?_,fun f _ h=>?_,fun f _=>?_,fun f _=>⟨qI,fun x hx=>yZ hx⟩,fun n _=>⟨rfl,rfl,rfl⟩,fun n h=>(by cases h),fun n f h=>(by cases h),fun f _ h=>?_,fun n j h=>(by cases h),fun n p h=>(by cases h),fun n p l h=>(by cases h),fun f _ h=>?_,⟨h2,fun f=>?_⟩,fun r h=>(by cases h),Nat.zero_le 8⟩
 ·show ((N:Int)-l.length)=count (fun f=>! u f) N
  rw[hc] at h5;omega
 ·show u f=_
  rw[h4 f,hk f]
  by_cases e:f∈l
  ·rw[if_pos e];simp[e]
  ·rw[if_neg e];simp[e,ow0]
 ·rw[hk f] at h ⊢
  split at h
  ·cases h
  ·rename_i e;rw[if_neg e]
 ·rw[hk f]
  by_cases e:f∈l
  ·rw[if_pos e];decide
  ·rw[if_neg e];decide
 ·rw[hk f] at h
  split at h <;> cases h
 ·rw[hk f] at h
  split at h <;> cases h
 ·show f∈l↔_
  rw[hk f]
  constructor
  ·intro e;exact⟨(h3 f e).1,by rw[if_pos e]⟩
  ·rintro⟨_,e⟩
   split at e
   ·assumption
   ·cases e
end Go.Cr
namespace Go.Proofs.YtabdpmnhjlmnlaaGreatDoor
open Go Go.Pt Go.Cr Go.Hp
section
variable {S S':Mem} {ρ ρ':Rho} {R:Nat→Prop}
theorem zej {A:Ad} {s:Sl}:spl (hdL A) 4 [eL s]=hdL { A with gs:=s }:=rfl
theorem zck (hg:∀ b r,ρ b=some r→S b≠none) (h0:ρ 0=none) (hgl:Gl S) {form:Int} {N:Nat} (h1:1≤N) (hN:N≤512) {Q:Nat→Mem→Prop}
  (hQ:∀ S' ρ' h A,Mv S ρ S' ρ' Rc→CrabA S' ρ' h A (cst0 form N)→Q h S') :
  wt S N fun t Sx_1=>vi Sx_1 N fun t_1 Sx_2=>kE Sx_2 form N fun t_2 Sx_3=>
   al Sx_3 86 ([eP t,eP t_1,.slice (none) 0 0,eP t_2,.slice (none) 0 0,.slice (none) 0 0,.slice (none) 0 0,.slice (none) 0 0,.slice (none) 0 0,.slice (none) 0 0,.slice (none) 0 0]) fun b Sx_4=>Q b Sx_4:=by
 refine ko hg h1 hN fun m S1 ρ1 m1 hs1=>?_
 refine jf m1.rg h1 hN fun p S2 ρ2 m2 hp2=>?_
 have hs2:=hs1.keep m2 (by decide) (by decide)
 apply zax
 unfold vX
 refine zaE m2.rg h1 hN fun ob S3 ρ3 m3 ho3=>?_
 have hs3:=hs2.keep m3 (fun h=>h) (fun h=>h)
 have hp3:=hp2.keep m3 (fun h=>h) (fun h=>h) (fun h=>h)
 intro kb hkb t ht h hh
 rw[zdH] at hh ⊢
 rw[zdJ]
 have M4:Mv S3 ρ3 (S3.set kb (bw 127 [.slice none 0 0])) (ρ3.upd kb 10) (fun _=>False):=(Mv.refl m3.rg).new hkb _ 10
 have M5:=M4.new ht (bw 77 (knL (kn0 form) (fun _=>vx0) ob kb)) 7
 have M6:=M5.new hh (bw 86 (hdL ⟨m,p,t,ob,kb,⟨none,0,0⟩,⟨none,0,0⟩,fun _=>⟨none,0,0⟩,fun _=>vx0⟩)) 0
 have n1:kb≠t:=fun e=>by subst e;simp at ht
 have n2:kb≠h:=fun e=>by subst e;simp[qk n1] at hh
 have n3:t≠h:=fun e=>by subst e;simp at hh
 have mA:Mv S ρ S3 ρ3 Rc:=((m1.mono (fun _ h=>h.elim)).trans (m2.mono fun r hr=>by unfold R345 at hr;show r<110;omega)).trans (m3.mono fun _ h=>h.elim)
 have mB:=mA.trans (M6.mono fun _ h=>h.elim)
 have bk:((S3.set kb (bw 127 [.slice none 0 0])).set t (bw 77 (knL (kn0 form) (fun _=>vx0) ob kb))).set h (bw 86 (hdL ⟨m,p,t,ob,kb,⟨none,0,0⟩,⟨none,0,0⟩,fun _=>⟨none,0,0⟩,fun _=>vx0⟩)) kb=some (bw 127 [.slice none 0 0]):=by
  rw[qk n2,qk n1,zG]
 have pc7:Pc (((S3.set kb (bw 127 [.slice none 0 0])).set t (bw 77 (knL (kn0 form) (fun _=>vx0) ob kb))).set h (bw 86 (hdL ⟨m,p,t,ob,kb,⟨none,0,0⟩,⟨none,0,0⟩,fun _=>⟨none,0,0⟩,fun _=>vx0⟩))) (((ρ3.upd kb 10).upd t 7).upd h 0) 7 t (knL (kn0 form) (fun _=>vx0) ob kb):=by
  generalize knL (kn0 form) (fun _=>vx0) ob kb=L
  exact⟨⟨bw 77 L,by rw[qk n3];exact zG,rfl,zC rfl⟩,by rw[yV n3];exact yp⟩
 refine hQ _ _ h ⟨m,p,t,ob,kb,⟨none,0,0⟩,⟨none,0,0⟩,fun _=>⟨none,0,0⟩,fun _=>vx0⟩ mB
  ⟨mB.rg,wH hgl mB h0,wG hgl mB h0,⟨⟨_,zG,rfl,rfl⟩,yp⟩,hs3.keep M6 (fun h=>h) (fun h=>h),hp3.keep M6 (fun h=>h) (fun h=>h) (fun h=>h),Rw.nil,pc7,ho3.keep M6 (fun h=>h) (fun h=>h),
   ⟨⟨127,⟨none,0,0⟩,[],⟨bk,rfl,Row.nil,fun c hc=>(by cases hc),?_,by decide⟩,fun x hx=>(by cases hx),⟨List.nodup_nil,fun a ha=>(by cases ha),fun n k t h=>(by cases h)⟩⟩,by rw[yV n2,yV n1];exact yp⟩,Rw.nil,fun i _=>Rw.nil,fun i _=>⟨Rw.nil,fun s hs=>(by cases hs),Rw.nil,Rw.nil,fun j _=>Rw.nil⟩⟩
 exact fun i _ h=>absurd h (Nat.not_lt_zero _)
theorem keepLoop {h:Nat} {A:Ad} {form:Int} {N:Nat} {l:List Nat} {u:Nat→Bool} (hl:∀ f∈l,f<N) (hl2:l.length≤1000) {Q:Mem→Prop} (hc:CrabA S ρ h A (cstA form N l u fun _=>ow0)) (hQ:∀ S',Mv S ρ S' ρ Rc→CrabA S' ρ h A (cstN form N l u)→Q S') :
  lp (fun Xx (t_7:Int) (Sx_8:Mem)=>
   if t_7<(A.gs.n:Int) then
   sl A.gs fun b_1 o n n_1=>
   0≤t_7∧t_7<((n:Nat):Int) ∧
   gI (Sx_8.cell b_1 (o+t_7.toNat*1)) .i64 fun t_8=>
   gP (Sx_8.cell h 3) fun t_9=>
   nn t_9 fun b_2 o_1=>
   gP (Sx_8.cell b_2 (o_1+74)) fun t_10=>
   qB Sx_8 t_10 t_8 (-1) fun t_11 Sx_9=>
   Xx (IntKind.i64.wrap (t_7+1)) Sx_9
   else
   Q Sx_8) 0 S:=by
 refine zO (fun (z:Int) S'=>∃ i:Nat,z=(i:Int)∧i≤l.length∧Mv S ρ S' ρ Rc∧CrabA S' ρ h A (cstA form N l u (ownL (l.take i)))) (fun z=>l.length-z.toNat) ?_
  ⟨0,rfl,by omega,Mv.refl hc.rg,by
   have e:ownL (l.take 0)=fun _=>ow0:=by funext f;exact vj (by simp)
   rw[e];exact hc⟩
 rintro X z S1 ⟨i,rfl,hi,m1,hc1⟩ ih
 have hn:A.gs.n=l.length:=hc1.gs.n (m:=l.length) (by decide) (by show (nL l).length=_;simp[nL])
 by_cases hlt:(i:Int)<(A.gs.n:Int)
 ·rw[if_pos hlt]
  have hil:i<l.length:=by omega
  obtain⟨c,e1,e2⟩:=hc1.gs.sl (by show 0<(nL l).length;simp[nL];omega)
  rw[e1,gr]
  have h3:S1.cell h 3=some (eP (some (A.t,0))):=hc1.c3
  have h74:S1.cell A.t (0+74)=some (eP (some (A.ob,0))):=by rw[hc1.tt.cell 74 (by rw[wF];decide) (by rfl)];exact zdV
  have hcell:S1.cell c (0+(i:Int).toNat*1)=some (.int .i64 (l.getD i 0:Nat)):=by
   rw[hc1.gs.cell e2 i (by show i<(nL l).length;simp[nL];omega) (by omega)]
   show nthL (nL l) i=_
   rw[zK]
   unfold nL
   rw[List.getElem?_map,List.getElem?_eq_getElem hil,List.getD_eq_getElem?_getD,List.getElem?_eq_getElem hil];rfl
  refine⟨by omega,by omega,?_⟩
  rw[yd hcell,qT h3,yo,qT h74]
  have hf:l.getD i 0<N:=hl _ (fF hil)
  refine gQ hc1.ow m1.rg hf (by decide) fun e S2 m2 ho2=>?_
  have hc2:=hc1.setOwn m2 ho2
  rw[w64 (by omega) (by omega)]
  refine ih _ _ ⟨i+1,rfl,by omega,m1.trans (m2.mono fun r hr=>by show r<110;omega),?_⟩ (by omega)
  have e3:keepC (ownL (l.take i)) (l.getD i 0) (-1)=ownL (l.take (i+1)):=by
   rw[zcD,List.take_add_one,List.getD_eq_getElem?_getD,List.getElem?_eq_getElem hil];rfl
  rw[←e3]
  exact hc2
 ·rw[if_neg hlt]
  have:i=l.length:=by omega
  subst this
  rw[List.take_length] at hc1
  exact hQ _ m1 hc1
def badNew (form frames region:Int):Prop:=frames<1∨512<frames∨region<1∨frames<region∨(form≠1∧form≠2)
instance (form frames region:Int):Decidable (badNew form frames region):=inferInstanceAs (Decidable (_∨_))
theorem zbl (hg:∀ b r,ρ b=some r→S b≠none) (h0:ρ 0=none) (hgl:Gl S) {form frames region:Int} {Q:Pt→Int→Mem→Prop}
  (hE:badNew form frames region→Q none 1 S)
  (hY:¬badNew form frames region→∀ S' ρ' h A l u,Mv S ρ S' ρ' Rc→CrabA S' ρ' h A (cstN form frames.toNat l u)→takeN frames.toNat l.length (fun _=>false)=some (l,u)→(l.length:Int)=region→Q (some (h,0)) 0 S'):jz S form frames region Q:=by
 apply zbK
 unfold jc
 simp only[jn]
 by_cases hb:badNew form frames region
 ·have:=hE hb
  unfold badNew at hb
  by_cases h1:frames<1
  ·rw[if_pos h1];exact this
  rw[if_neg h1]
  by_cases h2:512<frames
  ·rw[if_pos h2];exact this
  rw[if_neg h2]
  by_cases h3:region<1
  ·rw[if_pos h3];exact this
  rw[if_neg h3]
  by_cases h4:frames<region
  ·rw[if_pos h4];exact this
  rw[if_neg h4,if_pos (by omega),if_pos (by omega)]
  exact this
 have hY:=hY hb
 unfold badNew at hb
 rw[if_neg (by omega),if_neg (by omega),if_neg (by omega),if_neg (by omega)]
 have hform:form=1∨form=2:=by omega
 obtain⟨N,rfl⟩:∃ N:Nat,frames=N:=⟨frames.toNat,by omega⟩
 obtain⟨r,rfl⟩:∃ r:Nat,region=r:=⟨region.toNat,by omega⟩
 have key:wt S N fun t Sx_1=>vi Sx_1 N fun t_1 Sx_2=>kE Sx_2 form N fun t_2 Sx_3=>
   al Sx_3 86 ([eP t,eP t_1,.slice (none) 0 0,eP t_2,.slice (none) 0 0,.slice (none) 0 0,.slice (none) 0 0,.slice (none) 0 0,.slice (none) 0 0,.slice (none) 0 0,.slice (none) 0 0]) fun b Sx_4=>
  gP (Sx_4.cell b 1) fun t_3=>
  ym Sx_4 t_3 r fun t_4 t_5 Sx_5=>
  pt Sx_5 b 4 1 ([eL t_4]) fun Sx_6=>
  gL (Sx_6.cell b 4) fun t_6=>
  lp (fun Xx (t_7:Int) (Sx_8:Mem)=>
   if t_7<(t_6.n:Int) then
   sl t_6 fun b_1 o n n_1=>
   0≤t_7∧t_7<((n:Nat):Int) ∧
   gI (Sx_8.cell b_1 (o+t_7.toNat*1)) .i64 fun t_8=>
   gP (Sx_8.cell b 3) fun t_9=>
   nn t_9 fun b_2 o_1=>
   gP (Sx_8.cell b_2 (o_1+74)) fun t_10=>
   qB Sx_8 t_10 t_8 (-1) fun t_11 Sx_9=>
   Xx (IntKind.i64.wrap (t_7+1)) Sx_9
   else
   Q (some (b,0)) 0 Sx_8) 0 Sx_6:=by
  refine zck hg h0 hgl (by omega) (by omega) fun S1 ρ1 h A m1 hc1=>?_
  have c1:S1.cell h 1=some (eP (some (A.p,0))):=hc1.c1
  rw[qT c1]
  refine fR (r:=12) hc1.pl m1.rg (show (-1:Int)≤-1∧(-1:Int)≤4294967296 by decide) (by omega) (by decide) (fun l u hle ht s S2 ρ2 m2 hp2 hs2=>?_) (fun hN=>?_)
  ·have hll:=(yC ht).1
   refine (hc1.hd.keep m2 (by decide)).pt m2.rg 4 (by rfl) (by rw[kV];exact (by decide:5≤11)) (by rfl) fun S3 m3 hh3=>?_
   rw[zej] at hh3
   have M:Mv S1 ρ1 S3 ρ2 (fun x=>x=0∨R345 x∨x=12):=(m2.mono fun r hr=>.inr hr).trans (m3.mono fun r hr=>.inl hr)
   have hc3:CrabA S3 ρ2 h { A with gs:=s } (cstA form N l u fun _=>ow0):=
    ⟨M.rg,wH hc1.gl M hc1.g0,wG hc1.gl M hc1.g0,hh3,hc1.st.keep M (by decide) (by decide),hp2.keep m3 (by decide) (by decide) (by decide),hc1.ca.keep M (by decide),hc1.tt.keep M (by decide),hc1.ow.keep M (by decide) (by decide),hc1.ck.keep M (by decide) (by decide),hs2.keep m3 (by decide),fun i hi=>(hc1.ev i hi).keep M (by unfold R345;omega),fun i hi=>(hc1.vs i hi).keep M hi fun r h1 h2=>by unfold R345;omega⟩
   have c4:S3.cell h 4=some (eL s):=hc3.c4
   rw[wb c4]
   refine keepLoop (A:={ A with gs:=s }) (fun f hf=>((yC ht).2.2.1 f hf).1) (by omega) hc3 fun S4 m4 hc4=>?_
   have e:((N:Int)).toNat=N:=by omega
   refine hY S4 ρ2 h _ l u (m1.trans ((M.mono fun x hx=>?_).trans m4)) (by rw[e];exact hc4) (by rw[e,hll];exact ht) (by rw[hll])
   unfold R345 at hx;show x<110;omega
  ·exfalso
   rcases hN with h | h
   ·exact absurd h.1 (show ¬(0:Int)≤-1 by decide)
   ·have:=wo.1 h
    have hc:count (fun f=>! (cst0 form N).used f) N=N:=by
     show count (fun f=>! false) N=N
     unfold count
     have:(List.range N).filter (fun f=>! false)=List.range N:=by simp
     rw[this];simp
    rw[show (cst0 form N).N=N from rfl,hc] at this
    omega
 by_cases h5:form≠1
 ·rw[if_pos h5,if_neg (by omega)];exact key
 ·rw[if_neg h5];exact key
theorem zcy {form frames region:Int} (hb:¬badNew form frames region) {l:List Nat} {u:Nat→Bool} (h:takeN frames.toNat l.length (fun _=>false)=some (l,u)) (hl:(l.length:Int)=region):Rel (cstN form frames.toNat l u) (W0 (frames-region)) fun _ _=>0:=by
 unfold badNew at hb
 have:=zdv (φ:=fun _ _=>0) (by omega:form=1∨form=2) (by omega:frames.toNat≤512) h
 have e:((frames.toNat:Nat):Int)-l.length=frames-region:=by omega
 rwa [e] at this
end
end Go.Proofs.YtabdpmnhjlmnlaaGreatDoor
namespace Go.Cr
end Go.Cr
end
section
namespace Go.Proofs.YtabdpmnhjlmnlaaGreatDoor
open Go Go.Pt
attribute [local irreducible] Code.wp Back bodyPost wpList FR WL WC WQ WA AW Tr Yc HC AllC
set_option maxRecDepth 20000
set_option maxHeartbeats 4000000
set_option linter.unusedVariables false
end Go.Proofs.YtabdpmnhjlmnlaaGreatDoor
end
section
namespace Go.Cr
open Go Go.Pt
def awImg:List Int:=[65,0,64,4,0,0,0,80]
def awW1:Wd:=((W0 36).create 1 4 1 awImg).2.2
def awW2:Wd:=(awW1.run 0 0).2
def awW3:Wd:=(awW2.run 0 0).2
def Evt.q (e:Evt):Int×Int×Int×Int:=(e.kind,e.seat,e.a,e.b)
end Go.Cr
end
section
namespace Go.Cr
open Go Go.Pt
def Wd.evB (W:Wd) (m:Nat):Prop:=∀ i,(W.ev i).length≤m
section
variable {W:Wd} {m:Nat}
theorem Wd.evB.mono (h:W.evB m) {k:Nat} (hk:m≤k):W.evB k:=fun i=>Nat.le_trans (h i) hk
theorem Wd.evB.of {W':Wd} (h:W.evB m) (e:W'.ev=W.ev):W'.evB m:=fun i=>by rw[e];exact h i
theorem Wd.evB.tell (h:W.evB m) {n:Nat} {e:Evt}:(W.tell n e).evB (m+1):=fun i=>by
 unfold Wd.tell
 show (upd W.ev n (W.ev n++[e]) i).length≤m+1
 by_cases ei:i=n
 ·subst ei;rw[zt,List.length_append];have:=h i;simp;omega
 ·rw[zn ei];have:=h i;omega
theorem zbh {n k i:Nat}:(W.raise n k i).2.ev=W.ev:=by unfold Wd.raise;split <;> rfl
theorem zep {n:Nat} {a b:Int}:(W.ring n a b).2.ev=W.ev:=by
 unfold Wd.ring;split
 ·rfl
 ·split
  ·rfl
  ·exact zbh
theorem zbV {n:Nat}:(W.nextKey n).2.2.ev=W.ev:=by unfold Wd.nextKey;split <;> rfl
theorem zdC {n:Nat} {p to:Int} {w:Bool}:(W.offer n p to w).2.2.ev=W.ev:=by
 unfold Wd.offer;split
 ·rfl
 ·split
  ·rfl
  ·split
   ·rfl
   ·split <;> rfl
theorem zdF {n:Nat} {c i p:Int}:(W.lease n c i p).2.ev=W.ev:=by
 unfold Wd.lease;split
 ·rfl
 ·split
  ·rfl
  ·split
   ·split <;> rfl
   ·split
    ·rfl
    ·split
     ·rfl
     ·split
      ·rfl
      ·split <;> rfl
theorem zeH {n:Nat} {p:Int}:(W.give n p).2.ev=W.ev:=by
 unfold Wd.give;split
 ·rfl
 ·split <;> rfl
theorem zfn {n:Nat} {p:Int}:(W.get n p).2.ev=W.ev:=by
 unfold Wd.get;split
 ·rfl
 ·split
  ·rfl
  ·split
   ·rfl
   ·split <;> rfl
theorem zex {n:Nat} {s p:Int}:(W.load n s p).2.ev=W.ev:=by
 unfold Wd.load;split
 ·rfl
 ·split
  ·rfl
  ·split <;> rfl
theorem zeo {n:Nat} {s p:Int}:(W.save n s p).2.ev=W.ev:=by
 unfold Wd.save;split
 ·rfl
 ·split
  ·rfl
  ·split <;> rfl
theorem xn {α:Type} {P:α→Prop} {c:Prop} [Decidable c] {a b:α} (h1:c→P a) (h2:¬c→P b):P (if c then a else b):=by
 by_cases h:c
 ·rw[if_pos h];exact h1 h
 ·rw[if_neg h];exact h2 h
theorem Wd.evB.call (h:W.evB m) {n k:Nat} {c w1 w2 w3:Int}:(W.call n k c w1 w2 w3).2.2.evB (m+1):=by
 have h1:=h.mono (Nat.le_succ m)
 unfold Wd.call
 refine xn (P:=fun r:Int×Int×Wd=>r.2.2.evB (m+1)) (fun _=>h.tell) fun _=>?_
 refine xn (P:=fun r:Int×Int×Wd=>r.2.2.evB (m+1)) (fun _=>h1.of zbV) fun _=>?_
 refine xn (P:=fun r:Int×Int×Wd=>r.2.2.evB (m+1)) (fun _=>h1.of zep) fun _=>?_
 refine xn (P:=fun r:Int×Int×Wd=>r.2.2.evB (m+1)) (fun _=>h1) fun _=>?_
 refine xn (P:=fun r:Int×Int×Wd=>r.2.2.evB (m+1)) (fun _=>h1.of zdC) fun _=>?_
 refine xn (P:=fun r:Int×Int×Wd=>r.2.2.evB (m+1)) (fun _=>h1.of zdF) fun _=>?_
 refine xn (P:=fun r:Int×Int×Wd=>r.2.2.evB (m+1)) (fun _=>h1.of zeH) fun _=>?_
 refine xn (P:=fun r:Int×Int×Wd=>r.2.2.evB (m+1)) (fun _=>h1.of zfn) fun _=>?_
 refine xn (P:=fun r:Int×Int×Wd=>r.2.2.evB (m+1)) (fun _=>h1.of zex) fun _=>?_
 refine xn (P:=fun r:Int×Int×Wd=>r.2.2.evB (m+1)) (fun _=>h1.of zeo) fun _=>?_
 refine xn (P:=fun r:Int×Int×Wd=>r.2.2.evB (m+1)) (fun _=>h1) fun _=>?_
 refine xn (P:=fun r:Int×Int×Wd=>r.2.2.evB (m+1)) (fun _=>h1.of (W':=W.setV n _) rfl) fun _=>?_
 exact h1
theorem Wd.evB.run (h:W.evB m) {n k:Int}:(W.run n k).2.evB (m+3):=by
 unfold Wd.run
 by_cases h1:¬W.there n∨k<0∨(W.vm n.toNat).seats.length≤k
 ·rw[if_pos h1];exact h.mono (by omega)
 rw[if_neg h1]
 dsimp only
 generalize stepM ((W.vm n.toNat).seat k.toNat) (W.gm n.toNat) (W.time n.toNat) k=o
 by_cases h2:o.k=5
 ·rw[if_pos h2];exact h.mono (by omega)
 rw[if_neg h2]
 have h3:(((W.setDat o.g.dat).putSeat n.toNat k.toNat o.s).tell n.toNat (told o.k o.n k ((W.vm n.toNat).seat k.toNat).pc o.s)).evB (m+1):=(h.of (W':=(W.setDat o.g.dat).putSeat n.toNat k.toNat o.s) rfl).tell
 split
 ·unfold Wd.hyper
  dsimp only
  exact Wd.evB.tell (m:=m+2) (Wd.evB.of (h3.call (n:=n.toNat) (k:=k.toNat) (c:=o.n)) rfl)
 ·exact h3.mono (by omega)
theorem Wd.evB.create (h:W.evB m) {s q p:Int} {img:List Int}:(W.create s q p img).2.2.evB m:=by
 unfold Wd.create
 split
 ·exact h
 split
 ·exact h
 split
 ·exact h
 split
 ·exact h
 ·rename_i n _ _
  intro i
  show (upd W.ev n [] i).length≤m
  by_cases e:i=n
  ·rw[e,zt];exact Nat.zero_le _
  ·rw[zn e];exact h i
theorem Wd.evB.key (h:W.evB m) {n b:Int}:(W.key n b).2.evB m:=by
 unfold Wd.key
 split
 ·exact h
 split
 ·exact h
 ·exact h.of zbh
def Wd.runs (W:Wd) (n k:Int):Nat→Wd
 | 0=>W
 | j+1=>((W.runs n k j).run n k).2
theorem Wd.evB.runs (h:W.evB m) {n k:Int}:∀ {j:Nat},(W.runs n k j).evB (m+3*j)
 | 0=>h
 | j+1=>(Wd.evB.run (h.runs (j:=j))).mono (by omega)
end
end Go.Cr
end
section
namespace Go.Proofs.YtabdpmnhjlmnlaaGreatDoor
open Go Go.Pt Go.Cr Go.Hp
def Lv (S0:Mem) (ρ0:Rho) (h:Nat) (S:Mem) (W:Wd):Prop:=∃ ρ A C φ,Mv S0 ρ0 S ρ Rc∧CrabA S ρ h A C∧Rel C W φ
def rho0:Rho:=fun _=>none
section
variable {S S' S0:Mem} {ρ ρ' ρ0:Rho} {R:Nat→Prop} {h:Nat} {A:Ad} {C:Cst} {W:Wd} {φ:Nat→Nat→Nat}
theorem rg0 {S:Mem}:∀ b r,rho0 b=some r→S b≠none:=fun b r h=>by cases h
theorem kB (m:Mv S rho0 S' ρ R):Keeps S S' []:=fun b hb _=>m.kp b hb fun r e=>by cases e
theorem Lv.keeps (l:Lv S rho0 h S' W):Keeps S S' []:=by
 obtain⟨ρ,A,C,φ,m,_⟩:=l
 exact kB m
theorem After.lv {W':Wd} (m:Mv S0 ρ0 S ρ Rc) (hA:After h A C S ρ W' S'):Lv S0 ρ0 h S' W':=by
 obtain⟨ρ',A',C',φ',m',hc,hr,_⟩:=hA
 exact⟨ρ',A',C',φ',m.trans m',hc,hr⟩
theorem Aft.lv {W':Wd} (m:Mv S0 ρ0 S ρ Rc) (hA:Aft h C S ρ W' S'):Lv S0 ρ0 h S' W':=by
 obtain⟨ρ',A',C',φ',m',hc,hr,_⟩:=hA
 exact⟨ρ',A',C',φ',m.trans m',hc,hr⟩
theorem Lv.on (l:Lv S0 ρ0 h S W) (hk:Keeps S S' []):Lv S0 ρ0 h S' W:=by
 obtain⟨ρ,A,C,φ,m,hc,hr⟩:=l
 exact⟨ρ,A,C,φ,m.then hk,hc.keeps hk,hr⟩
theorem zfI (hgl:Gl S) {form frames region:Int} {Q:Pt→Int→Mem→Prop} (hE:badNew form frames region→Q none 1 S)
  (hY:¬badNew form frames region→∀ S' h,Lv S rho0 h S' (W0 (frames-region))→Q (some (h,0)) 0 S'):jz S form frames region Q:=
 zbl rg0 rfl hgl hE fun hb S' ρ' h A l u m hc ht hl=>hY hb S' h ⟨ρ',A,_,_,m,hc,zcy hb ht hl⟩
theorem zfo {α:Type} {f:α→List Value} {w:Nat} (h:∀ a,(f a).length=w) {l:List α} {j k:Nat} (hj:j<l.length) (hk:k<w):nthL (l.flatMap f) (j*w+k)=nthL (f l[j]) k:=by
 obtain⟨e1,e2⟩:=zbr h hj
 rw[e1,kA e2,zac (by rw[h];exact hk)]
end
end Go.Proofs.YtabdpmnhjlmnlaaGreatDoor
end
section
namespace Go.Cr
open Go Go.Pt
def offO (o:Nat→Ow) (l:List Nat):Nat→Ow:=l.foldl (fun o f=>upd o f ow0) o
def offU (u:Nat→Bool) (l:List Nat):Nat→Bool:=l.foldl (fun u f=>upd u f false) u
theorem zcF:∀ {l:List Nat} {o:Nat→Ow} {f:Nat},offO o l f=if f∈l then ow0 else o f
 | [],o,f=>by simp[offO]
 | a :: l,o,f=>by
  show offO (upd o a ow0) l f=_
  rw[zcF]
  by_cases h:f∈l
  ·rw[if_pos h,if_pos (by simp[h])]
  ·rw[if_neg h]
   by_cases e:f=a
   ·subst e;rw[zt,if_pos (by simp)]
   ·rw[zn e,if_neg (by simp[e,h])]
theorem zcE:∀ {l:List Nat} {u:Nat→Bool} {f:Nat},offU u l f=if f∈l then false else u f
 | [],u,f=>by simp[offU]
 | a :: l,u,f=>by
  show offU (upd u a false) l f=_
  rw[zcE]
  by_cases h:f∈l
  ·rw[if_pos h,if_pos (by simp[h])]
  ·rw[if_neg h]
   by_cases e:f=a
   ·subst e;rw[zt,if_pos (by simp)]
   ·rw[zn e,if_neg (by simp[e,h])]
theorem gJ {N:Nat}:∀ {l:List Nat} {u:Nat→Bool},l.Nodup→(∀ f∈l,f<N∧u f=true)→count (fun i=>! offU u l i) N=count (fun i=>! u i) N+l.length
 | [],u,_,_=>rfl
 | a :: l,u,hnd,h=>by
  have ha:=h a (by simp)
  obtain⟨h1,h2⟩:=List.nodup_cons.1 hnd
  show count (fun i=>! offU (upd u a false) l i) N=_
  rw[gJ h2 fun f hf=>⟨(h f (by simp[hf])).1,by
   rw[zn (show f≠a from fun e=>h1 (by rw[←e];exact hf))]
   exact (h f (by simp[hf])).2⟩]
  have e1:(fun f=>! upd u a false f)=upd (fun f=>! u f) a true:=by
   funext g;unfold upd;split <;> rfl
  have:=xP (g:=fun f=>! u f) ha.1 true
  rw[←e1] at this
  simp only[ha.2,Bool.not_true,Bool.toNat_false,Bool.toNat_true] at this
  rw[List.length_cons];omega
def Wd.pgs (W:Wd) (n:Nat):List Nat:=(List.range 32).filter fun p=>(W.own n p).isSome
theorem zcC {W:Wd} {n:Nat}:(W.pgs n).length=W.pages n:=rfl
def offB (f:Nat→Bv) (n:Nat):Nat→Bv:=fun i=>if i=n then bv0 else { f i with bells:=upd (f i).bells n false }
def Cst.without (C:Cst) (n:Nat) (l:List Nat):Cst:=
 { C with vm:=offB C.vm n,late:=upd C.late n 0,tf:=upd C.tf n 0,fr:=upd C.fr n [],used:=offU C.used l,own:=offO C.own l,cache:=C.cache.filter fun r=>! decide (r.vm=(n:Int)),alm:=upd C.alm n fun _=>none }
def Wd.without (W:Wd) (n:Nat):Wd:=
 { W with free:=W.free+(5+W.pages n),vm:=offB W.vm n,own:=upd W.own n fun _=>none,alarm:=upd W.alarm n fun _=>none }
section
variable {C:Cst} {W:Wd} {φ:Nat→Nat→Nat} {n:Nat}
theorem kU {f:Nat→Bv} {m:Nat} (h:(offB f n m).on=true):m≠n∧(f m).on=true:=by
 unfold offB at h
 split at h
 ·cases h
 ·rename_i e;exact⟨e,h⟩
theorem qX {f:Nat→Bv} {m:Nat} (h:m≠n):offB f n m = { f m with bells:=upd (f m).bells n false }:=if_neg h
theorem vO {f:Nat→Bv}:offB f n n=bv0:=if_pos rfl
theorem WOk.without (h:WOk W) (hls:∀ i,(W.ls i).on=false):WOk (W.without n):=by
 have hown:∀ m p,(W.without n).own m p=if m=n then none else W.own m p:=fun m p=>by
  show upd W.own n (fun _=>none) m p=_
  by_cases e:m=n
  ·subst e;rw[zt,if_pos rfl]
  ·rw[zn e,if_neg e]
 refine⟨fun m hm=>?_,fun m hm=>?_,fun m hm=>?_,fun m s hs=>?_,fun m=>?_,fun m j hm=>?_,fun m=>?_,fun m k hk=>?_,fun m p l hl=>?_,fun m=>?_,fun i hi=>?_,fun i hi=>?_,fun i hi=>?_,fun i j hi=>?_,fun m k w hw=>?_⟩
 ·have hm':(offB W.vm n m).on=false:=hm
  by_cases e:m=n
  ·subst e
   refine⟨vO,fun p=>by rw[hown,if_pos rfl],fun k=>?_⟩
   show upd W.alarm m _ m k=none
   rw[zt]
  ·rw[qX e] at hm'
   have:=h.off m hm'
   refine⟨?_,fun p=>by rw[hown,if_neg e];exact this.2.1 p,fun k=>?_⟩
   ·show offB W.vm n m=bv0
    rw[qX e,this.1]
    unfold bv0 upd
    simp
   ·show upd W.alarm n _ m k=none
    rw[zn e];exact this.2.2 k
 ·show (offB W.vm n m).on=false
  by_cases e:m=n
  ·subst e;rw[vO];rfl
  ·rw[qX e];exact h.six m hm
 ·obtain⟨e,hm'⟩:=kU hm
  show 1≤(offB W.vm n m).seats.length∧(offB W.vm n m).seats.length≤3
  rw[qX e];exact h.seats m hm'
 ·have hs':s∈(offB W.vm n m).seats:=hs
  by_cases e:m=n
  ·subst e;rw[vO] at hs';cases hs'
  ·rw[qX e] at hs';exact h.ok m s hs'
 ·show (offB W.vm n m).keys.length≤64∧Byt (offB W.vm n m).keys
  by_cases e:m=n
  ·subst e;rw[vO];exact⟨by decide,fun x hx=>by cases hx⟩
  ·rw[qX e];exact h.keys m
 ·obtain⟨e,hm'⟩:=kU hm
  show ((offB W.vm n m).disk j).length=256∧Byt ((offB W.vm n m).disk j)
  rw[qX e];exact h.disk m j hm'
 ·show 0≤(offB W.vm n m).quota∧(offB W.vm n m).quota≤32
  by_cases e:m=n
  ·subst e;rw[vO];exact⟨by decide,by decide⟩
  ·rw[qX e];exact h.quota m
 ·have hk':(offB W.vm n m).bells k=true:=hk
  by_cases e:m=n
  ·subst e;rw[vO] at hk';cases hk'
  ·rw[qX e] at hk'
   have hk2:upd (W.vm m).bells n false k=true:=hk'
   by_cases ek:k=n
   ·subst ek;rw[zt] at hk2;cases hk2
   ·rw[zn ek] at hk2
    have:=h.bells m k hk2
    refine⟨?_,?_,?_,this.2.2.2⟩
    ·show (offB W.vm n m).on=true
     rw[qX e];exact this.1
    ·show (offB W.vm n k).on=true
     rw[qX ek];exact this.2.1
    ·show (offB W.vm n k).bells m=true
     rw[qX ek]
     show upd (W.vm k).bells n false m=true
     rw[zn e];exact this.2.2.1
 ·rw[hown] at hl
  split at hl
  ·cases hl
  ·rename_i e
   have:=h.pg m p l hl
   refine⟨?_,this.2⟩
   show (offB W.vm n m).on=true
   rw[qX e];exact this.1
 ·show ((W.without n).pages m:Int)≤(offB W.vm n m).quota
  by_cases e:m=n
  ·subst e
   have:(W.without m).pages m=0:=yD fun p _=>by rw[hown,if_pos rfl];rfl
   rw[this,vO];exact Int.le_refl 0
  ·have:(W.without n).pages m=W.pages m:=xQ fun p _=>by rw[hown,if_neg e]
   rw[this,qX e];exact h.most m
 ·have:(W.ls i).on=true:=hi
  rw[hls i] at this;cases this
 ·exact h.lso i hi
 ·have:(W.ls i).on=true:=hi
  rw[hls i] at this;cases this
 ·have:(W.ls i).on=true:=hi
  rw[hls i] at this;cases this
 ·have hw':upd W.alarm n (fun _=>none) m k=some w:=hw
  by_cases e:m=n
  ·subst e;rw[zt] at hw';cases hw'
  ·rw[zn e] at hw'
   show k<(offB W.vm n m).seats.length∧_
   rw[qX e];exact h.alarm m k w hw'
def Rel.frs (_h:Rel C W φ) (n:Nat):List Nat:=(W.pgs n).map (φ n)++C.fr n
theorem zcX (h:Rel C W φ) (hon:(W.vm n).on=true) {f:Nat}:f∈(W.pgs n).map (φ n)++C.fr n↔f<C.N∧((C.own f).kind=3∨(C.own f).kind=2)∧(C.own f).vm=n:=by
 rw[List.mem_append,List.mem_map]
 constructor
 ·rintro (⟨p,hp,rfl⟩ | hf)
  ·obtain⟨l,hl⟩:=Option.isSome_iff_exists.1 (List.mem_filter.1 hp).2
   have:=h.pg n p l hl
   exact⟨this.1,.inl (by rw[this.2.1]),by rw[this.2.1]⟩
  ·have:=h.tabf n f hf
   exact⟨this.1,.inr (by rw[this.2]),by rw[this.2]⟩
 ·rintro⟨hf,hk | hk,hv⟩
  ·left
   obtain⟨m,q,h1,h2⟩:=h.pgk f hf hk
   obtain⟨l,hl⟩:=Option.isSome_iff_exists.1 h1
   have h3:=(h.pg m q l hl).2.1
   rw[h2] at h3
   rw[h3] at hv
   have:m=n:=by simp only at hv;omega
   subst this
   exact⟨q,List.mem_filter.2 ⟨List.mem_range.2 (h.wk.pg m q l hl).2.1,h1⟩,h2⟩
  ·right
   obtain⟨m,hm⟩:=h.tabk f hf hk
   have:=(h.tabf m f hm).2
   rw[this] at hv
   have:m=n:=by simp only at hv;omega
   subst this;exact hm
theorem zaa (h:Rel C W φ):((W.pgs n).map (φ n)).Nodup:=by
 unfold List.Nodup
 rw[List.pairwise_map]
 have hnd:=List.Pairwise.filter (fun p=>(W.own n p).isSome) (List.nodup_range (n:=32))
 rw[List.pairwise_iff_forall_sublist] at hnd ⊢
 intro a b hs he
 have ha:a∈(List.range 32).filter fun p=>(W.own n p).isSome:=hs.subset (by simp)
 have hb:b∈(List.range 32).filter fun p=>(W.own n p).isSome:=hs.subset (by simp)
 obtain⟨la,hla⟩:=Option.isSome_iff_exists.1 (List.mem_filter.1 ha).2
 obtain⟨lb,hlb⟩:=Option.isSome_iff_exists.1 (List.mem_filter.1 hb).2
 exact hnd hs (h.inj hla hlb he).2
theorem zai (h:Rel C W φ) (hon:(W.vm n).on=true):((W.pgs n).map (φ n)++C.fr n).Nodup:=by
 rw[List.nodup_append]
 refine⟨zaa h,(h.tab n hon).2.2,fun a ha b hb e=>?_⟩
 subst e
 obtain⟨p,hp,rfl⟩:=List.mem_map.1 ha
 obtain⟨l,hl⟩:=Option.isSome_iff_exists.1 (List.mem_filter.1 hp).2
 have h1:=(h.pg n p l hl).2.1
 have h2:=(h.tabf n _ hb).2
 rw[h1] at h2;simp at h2
theorem zdK (h:Rel C W φ) (hon:(W.vm n).on=true) {f:Nat} (hf:f∈(W.pgs n).map (φ n)++C.fr n):f<C.N∧C.used f=true:=by
 have:=(zcX h hon).1 hf
 refine⟨this.1,?_⟩
 rw[h.used f this.1]
 exact decide_eq_true (by omega)
theorem Rel.destroy (h:Rel C W φ) (hon:(W.vm n).on=true) (hls:∀ i,(W.ls i).on=false):Rel (C.without n ((W.pgs n).map (φ n)++C.fr n)) (W.without n) φ:=by
 have hmem:=fun f=>zcX h hon (f:=f)
 have hcount:=gJ (zai h hon) fun f hf=>zdK h hon hf
 have hnd:=zai h hon
 have hlen:((W.pgs n).map (φ n)++C.fr n).length=W.pages n+5:=by
  rw[List.length_append,List.length_map,zcC,(h.tab n hon).2.1]
 generalize hL:(W.pgs n).map (φ n)++C.fr n=L at hmem hcount hnd hlen
 have hown:∀ f,(C.without n L).own f=if f∈L then ow0 else C.own f:=fun f=>zcF
 have hno:∀ f,f<C.N→(C.own f).vm≠n→(C.without n L).own f=C.own f:=fun f hf hv=>by
  rw[hown,if_neg fun h=>hv ((hmem f).1 h).2.2]
 have hwo:∀ m p,(W.without n).own m p=if m=n then none else W.own m p:=fun m p=>by
  show upd W.own n (fun _=>none) m p=_
  by_cases e:m=n
  ·subst e;rw[zt,if_pos rfl]
  ·rw[zn e,if_neg e]
 have hwh:∀ m p,m≠n→(W.without n).where_ m p=W.where_ m p:=fun m p e=>by
  unfold Wd.where_
  rw[hwo,if_neg e];rfl
 refine⟨h.wk.without hls,by show offB C.vm n=offB W.vm n;rw[h.vm],h.ls,h.ev,h.N,h.form,h.now,fun m hm=>?_,fun m k=>?_,?_,h.left,fun f hf=>?_,fun f hf hk=>?_,fun f hf=>?_,h.len,fun m hm=>?_,fun m hm=>?_,fun m f hf=>?_,fun f hf hk=>?_,fun m j hm hj=>?_,fun m p hm hp=>?_,fun m p l hl=>?_,fun f hf hk=>?_,⟨h.hyp.1,fun f=>?_⟩,fun r hr=>?_,?_⟩
 ·obtain⟨e,hm'⟩:=kU hm
  have:=h.time m hm'
  show 0≤upd C.late n 0 m∧upd C.late n 0 m≤C.now∧W.time m=C.now-upd C.late n 0 m
  rw[zn e];exact this
 ·show upd C.alm n (fun _=>none) m k=(upd W.alarm n (fun _=>none) m k).map fun w=>min (w+upd C.late n 0 m) most64
  by_cases e:m=n
  ·subst e;rw[zt,zt,zt];rfl
  ·rw[zn e,zn e,zn e];exact h.alm m k
 ·show W.free+(5+(W.pages n:Int))=(count (fun f=>! offU C.used L f) C.N:Int)
  rw[hcount,hlen,h.free];omega
 ·show offU C.used L f=decide (((C.without n L).own f).kind≠0)
  rw[zcE,hown]
  by_cases e:f∈L
  ·rw[if_pos e,if_pos e];rfl
  ·rw[if_neg e,if_neg e];exact h.used f hf
 ·rw[hown] at hk ⊢
  split
  ·rfl
  ·rename_i e
   rw[if_neg e] at hk
   exact h.own0 f hf hk
 ·rw[hown]
  split
  ·exact⟨by decide,by decide⟩
  ·exact h.kind f hf
 ·have hm':(offB W.vm n m).on=false:=hm
  show upd C.fr n [] m=[]∧upd C.tf n 0 m=0∧upd C.late n 0 m=0
  by_cases e:m=n
  ·subst e;rw[zt,zt,zt];exact⟨rfl,rfl,rfl⟩
  ·rw[zn e,zn e,zn e]
   rw[qX e] at hm'
   exact h.off m hm'
 ·obtain⟨e,hm'⟩:=kU hm
  show upd C.tf n 0 m=C.form∧(upd C.fr n [] m).length=5∧(upd C.fr n [] m).Nodup
  rw[zn e,zn e];exact h.tab m hm'
 ·have hf':f∈upd C.fr n [] m:=hf
  by_cases e:m=n
  ·subst e;rw[zt] at hf';cases hf'
  ·rw[zn e] at hf'
   have:=h.tabf m f hf'
   refine⟨this.1,?_⟩
   rw[hno f this.1 (by rw[this.2];simp only;omega)];exact this.2
 ·rw[hown] at hk
  split at hk
  ·cases hk
  ·rename_i e
   obtain⟨m,hm⟩:=h.tabk f hf hk
   refine⟨m,?_⟩
   show f∈upd C.fr n [] m
   rw[zn fun em=>e ((hmem f).2 ⟨hf,.inr hk,by rw[(h.tabf m f hm).2,em]⟩)]
   exact hm
 ·obtain⟨e,hm'⟩:=kU hm
  show unp C.form (ld C.dat ((upd C.fr n [] m).getD 0 0) j)=some ((upd C.fr n [] m).getD (j+1) 0,true)
  rw[zn e];exact h.root m j hm' hj
 ·obtain⟨e,hm'⟩:=kU hm
  show unp C.form (ld C.dat ((upd C.fr n [] m).getD (p/8+1) 0) (p%8))=_
  rw[zn e,hwh m p e];exact h.leaf m p hm' hp
 ·rw[hwo] at hl
  split at hl
  ·cases hl
  ·rename_i e
   have:=h.pg m p l hl
   refine⟨this.1,?_,this.2.2⟩
   rw[hno _ this.1 (by rw[this.2.1];simp only;omega)];exact this.2.1
 ·rw[hown] at hk
  split at hk
  ·cases hk
  ·rename_i e
   obtain⟨m,p,h1,h2⟩:=h.pgk f hf hk
   refine⟨m,p,?_,h2⟩
   rw[hwo,if_neg ?_]
   ·exact h1
   ·intro em
    obtain⟨l,hl⟩:=Option.isSome_iff_exists.1 h1
    have h3:=(h.pg m p l hl).2.1
    rw[h2] at h3
    exact e ((hmem f).2 ⟨hf,.inl hk,by rw[h3,em]⟩)
 ·refine (h.hyp.2 f).trans ?_
  constructor
  ·rintro⟨h1,h2⟩
   refine⟨h1,?_⟩
   rw[hown,if_neg fun hm=>by have:=((hmem f).1 hm).2.1;omega];exact h2
  ·rintro⟨h1,h2⟩
   refine⟨h1,?_⟩
   rw[hown] at h2
   split at h2
   ·cases h2
   ·exact h2
 ·obtain⟨h1,h2⟩:=List.mem_filter.1 hr
  obtain⟨m,hm1,hm2,hm3⟩:=h.cache r h1
  have e:m≠n:=fun e=>by
   subst e
   rw[hm1] at h2;simp at h2
  refine⟨m,hm1,?_,?_⟩
  ·show (offB W.vm n m).on=true
   rw[qX e];exact hm2
  ·show walkC C.dat C.N (upd C.tf n 0 m) (upd C.fr n [] m) r.page=_
   rw[zn e,zn e];exact hm3
 ·exact Nat.le_trans (List.length_filter_le _ _) h.csize
end
end Go.Cr
end
section
namespace Go.Proofs.YtabdpmnhjlmnlaaGreatDoor
open Go Go.Pt Go.Cr Go.Hp
section
variable {S S':Mem} {ρ ρ':Rho} {R:Nat→Prop} {h:Nat} {A:Ad} {C:Cst} {W:Wd} {φ:Nat→Nat→Nat}
theorem rowK {w:Nat} {s:Sl} {l:List Value} (h:Row S w s l) (hk:Keeps S S' []):Row S' w s l:=h.keep fun b hb=>by
 rcases h.lie with ⟨h1,_⟩ | ⟨b',k,h1,h2,_⟩
 ·rw[h1] at hb;cases hb
 ·rw[h1] at hb;cases hb;exact hk b (by rw[h2];simp) (by simp)
def enP (x:Nat×Bool):List Value:=enL x.1 x.2
theorem zda (x:Nat×Bool):(enP x).length=3:=rfl
def _root_.Go.Cr.Cst.off (C:Cst) (l:List Nat):Cst:={ C with own:=offO C.own l,used:=offU C.used l }
end
end Go.Proofs.YtabdpmnhjlmnlaaGreatDoor
end
section
namespace Go.Cr
open Go Go.Pt
theorem kX {g:Nat→Bool} {N:Nat} {l:List Nat} (hn:l.Nodup) (hm:∀ f,f∈l↔f<N∧g f=true):count g N=l.length:=by
 unfold count
 exact ((List.perm_ext_iff_of_nodup (List.nodup_range.filter _) hn).2 fun f=>by rw[List.mem_filter,List.mem_range,hm]).length_eq
section
variable {C:Cst} {W:Wd} {φ:Nat→Nat→Nat}
theorem Rel.cHyp (h:Rel C W φ) {n:Int}:count (fun f=>decide ((C.own f).kind=1) && (decide ((1:Int)<2) || decide ((C.own f).vm=n))) C.N=C.region.length:=
 kX h.hyp.1 fun f=>by rw[h.hyp.2 f];simp
theorem Rel.cTab (h:Rel C W φ) {n:Nat} (hon:(W.vm n).on=true):count (fun f=>decide ((C.own f).kind=2) && (decide ((2:Int)<2) || decide ((C.own f).vm=n))) C.N=5:=by
 rw[←(h.tab n hon).2.1]
 refine kX (h.tab n hon).2.2 fun f=>⟨fun hf=>?_,fun⟨h1,h2⟩=>?_⟩
 ·have:=h.tabf n f hf
  exact⟨this.1,by rw[this.2];simp⟩
 ·simp only[Bool.and_eq_true,Bool.or_eq_true,decide_eq_true_eq] at h2
  obtain⟨m,hm⟩:=h.tabk f h1 h2.1
  have:=(h.tabf m f hm).2
  rw[this] at h2
  have:m=n:=by have:=h2.2;simp only at this;omega
  rw[←this];exact hm
theorem Rel.cTab0 (h:Rel C W φ) {n:Nat} (hoff:(W.vm n).on=false):count (fun f=>decide ((C.own f).kind=2) && (decide ((2:Int)<2) || decide ((C.own f).vm=n))) C.N=0:=by
 refine yD fun f hf=>?_
 rw[Bool.eq_false_iff]
 intro h2
 simp only[Bool.and_eq_true,Bool.or_eq_true,decide_eq_true_eq] at h2
 obtain⟨m,hm⟩:=h.tabk f hf h2.1
 have:=(h.tabf m f hm).2
 rw[this] at h2
 have:m=n:=by have:=h2.2;simp only at this;omega
 subst this
 rw[(h.off m hoff).1] at hm;cases hm
theorem Rel.guest (h:Rel C W φ) {f:Nat} (hf:f<C.N) (hk:(C.own f).kind=3):∃ n p l,W.own n p=some l∧φ n p=f∧C.own f=⟨3,n,p,lentN W.ls n p⟩∧n<6∧p<32∧(W.vm n).on=true:=by
 obtain⟨n,p,ho,hp⟩:=h.pgk f hf hk
 obtain⟨l,hl⟩:=Option.isSome_iff_exists.1 ho
 have h1:=(h.pg n p l hl).2.1
 have h2:=h.wk.pg n p l hl
 refine⟨n,p,l,hl,hp,hp ▸ h1,?_,h2.2.1,h2.1⟩
 apply Classical.byContradiction;intro hc
 have:=h.wk.six n (by omega)
 rw[h2.1] at this;cases this
theorem Rel.cGuest (h:Rel C W φ) {n:Nat}:count (fun f=>decide ((C.own f).kind=3) && (decide ((3:Int)<2) || decide ((C.own f).vm=n))) C.N=W.pages n:=by
 rw[←zcC,←List.length_map (f:=φ n)]
 refine kX (zaa h) fun f=>⟨fun hf=>?_,fun⟨h1,h2⟩=>?_⟩
 ·obtain⟨p,hp,rfl⟩:=List.mem_map.1 hf
  unfold Wd.pgs at hp
  obtain⟨l,hl⟩:=Option.isSome_iff_exists.1 (List.mem_filter.1 hp).2
  have h1:=h.pg n p l hl
  exact⟨h1.1,by rw[h1.2.1];simp⟩
 ·simp only[Bool.and_eq_true,Bool.or_eq_true,decide_eq_true_eq] at h2
  obtain⟨m,p,l,hl,hp,ho,hm,hp32,hon⟩:=h.guest h1 h2.1
  rw[ho] at h2
  have:m=n:=by have:=h2.2;simp only at this;omega
  subst this
  refine List.mem_map.2 ⟨p,?_,hp⟩
  unfold Wd.pgs
  exact List.mem_filter.2 ⟨List.mem_range.2 hp32,by rw[hl];rfl⟩
theorem lent0 {ls:Nat→Ls} (hls:∀ i,(ls i).on=false) (n p:Nat):lentN ls n p=0:=yD fun i _=>by rw[hls i];rfl
structure TbOk (C:Cst):Prop where
 on:∀ i:Nat,i<6→(C.vm i).on=true→C.tf i=C.form∧(C.fr i).length=5∧count (fun f=>decide ((C.own f).kind=2) && (decide ((2:Int)<2) || decide ((C.own f).vm=i))) C.N=5
 off:∀ i:Nat,i<6→(C.vm i).on=false→C.fr i=[]∧count (fun f=>decide ((C.own f).kind=2) && (decide ((2:Int)<2) || decide ((C.own f).vm=i))) C.N=0
 row:∀ (i f:Nat),f∈C.fr i→f<C.N∧C.own f=⟨2,i,0,0⟩
theorem Rel.tb (h:Rel C W φ):TbOk C:=
 ⟨fun i _ hon=>by rw[h.vm] at hon;exact⟨(h.tab i hon).1,(h.tab i hon).2.1,h.cTab hon⟩,fun i _ hoff=>by rw[h.vm] at hoff;exact⟨(h.off i hoff).1,h.cTab0 hoff⟩,h.tabf⟩
end
end Go.Cr
end
section
namespace Go.Proofs.YtabdpmnhjlmnlaaGreatDoor
open Go Go.Pt Go.Cr Go.Hp
section
variable {S S' S0:Mem} {ρ ρ' ρ0:Rho} {R:Nat→Prop} {h:Nat} {A:Ad} {C:Cst} {W:Wd} {φ:Nat→Nat→Nat}
def pxL (A:Ad) (p:Nat) (gs:Sl):List Value:=[eP (some (A.m,0)),eP (some (p,0)),eL gs,eP (some (A.t,0))]
theorem zeC {k:Kn} {x:Nat→Vx} {ob kb:Nat}:lpart (knL k x ob kb) 2 72=some (cF 6 fun i=>vmC (x i) (k.vm i) (k.tf i) (k.late i)):=by
 unfold knL
 have:=xE (A:=[Value.int .i64 k.form,.int .u64 k.now]) (B:=cF 6 (fun i=>vmC (x i) (k.vm i) (k.tf i) (k.late i))++([eP (some (ob,0))]++(cF 16 (fun i=>lsL (k.ls i))++([eP (some (kb,0))]++cF 18 fun i=>[.int .i64 (k.turns i)])))) (n:=2) (j:=0) (m:=72) rfl
 rw[this,wx (by rw[wT];decide),zC wT]
theorem CrabA.vms (hc:CrabA S ρ h A C):S.part A.t (0+2) 72=some (cF 6 fun i=>vmC (A.x i) (C.vm i) (C.tf i) (C.late i)):=(hc.tt.part 2 (by rw[wF];decide) rfl).trans zeC
theorem zdo {f:Nat→List Value} (hf:∀ i,(f i).length=12) {i:Nat} (hi:i<6):lpart (cF 6 f) (((i:Int)).toNat*12) 12=some (f i):=by
 have:=fJ (w:=12) (k:=0) (m:=12) (n:=6) (f:=f) (fun i _=>hf i) hi (by decide)
 rw[Nat.add_zero] at this
 rw[Int.toNat_natCast,this,zC (hf i)]
theorem CrabA.ownL (hc:CrabA S ρ h A C):∃ rs,S.cell A.ob 0=some (eL rs)∧rs.n=C.N∧∀ f,f<C.N→∃ c n,rs=⟨some (c,0),n,rs.c⟩∧n=C.N∧S.part c (0+(f:Int).toNat*4) 4=some (owL (C.own f)):=by
 obtain⟨rs,h1,h2⟩:=hc.ow.ex
 have hn:=h2.n (by decide) wu
 refine⟨rs,h1.cell 0 (by simp) rfl,hn,fun f hf=>?_⟩
 obtain⟨c,e1,e2⟩:=h2.sl (by rw[wu];omega)
 exact⟨c,rs.n,e1,hn,by rw[Int.toNat_natCast,h2.part e2 (f*4) (by rw[wu];omega) (by omega)];exact zaF hf⟩
theorem zer {o o':Ow}:((!(eqL (owL o) (owL o')))=true)↔o≠o':=by
 obtain⟨a,b,c,d⟩:=o
 obtain⟨a',b',c',d'⟩:=o'
 simp[eqL,owL,eq1]
 omega
theorem zen {s:Sl} {c o n k:Nat} {K:Nat→Nat→Nat→Nat→Prop} (e:s=⟨some (c,o),n,k⟩):sl s K=K c o n k:=by rw[e,gr]
theorem wX (hc:CrabA S ρ h A C) {p:Nat} {u:Nat→Bool} {left:Int} (hp:PoolP S ρ' p C.N u left) {gs:Sl} {Q:Int→Mem→Prop}
  (hY:(∀ f,f<C.N→u f=decide ((C.own f).kind≠0)∧((C.own f).kind=0→C.own f=ow0))→Q 0 S)
  (hN:¬(∀ f,f<C.N→u f=decide ((C.own f).kind≠0)∧((C.own f).kind=0→C.own f=ow0))→Q 8 S):yK S (pxL A p gs) Q:=by
 apply vw
 unfold yj
 obtain⟨rs,ho,hn,hrow⟩:=hc.ownL
 have hNN:=hc.st.lim
 refine⟨rfl,?_⟩
 simp only[jn]
 rw[qT (show nthL (pxL A p gs) 3=some (eP (some (A.t,0))) from rfl),yo,qT hc.t74,yo,wb ho]
 refine zO (fun (z:Int) S'=>∃ i:Nat,z=(i:Int)∧i≤C.N∧S'=S∧∀ f,f<i→u f=decide ((C.own f).kind≠0)∧((C.own f).kind=0→C.own f=ow0)) (fun z=>C.N-z.toNat) ?_ ⟨0,rfl,by omega,rfl,fun _ h=>by omega⟩
 rintro X z S' ⟨i,rfl,hi,rfl,hall⟩ ih
 try dsimp only at ih ⊢
 by_cases hlt:i<C.N
 ·rw[if_pos (by omega)]
  obtain⟨c,n,e,en,hpart⟩:=hrow i hlt
  rw[zen e]
  refine⟨by omega,by omega,?_⟩
  rw[gj hpart]
  refine⟨rfl,?_⟩
  rw[qT (show nthL (pxL A p gs) 1=some (eP (some (p,0))) from rfl),yd (show nthL (owL (C.own i)) 0=some (.int .u8 (C.own i).kind) from rfl)]
  refine zcs hp hlt ?_
  by_cases h1:u i=decide ((C.own i).kind≠0)
  ·rw[if_neg (fun h=>h h1),yd (show nthL (owL (C.own i)) 0=some (.int .u8 (C.own i).kind) from rfl)]
   have go:((C.own i).kind=0→C.own i=ow0)→X (IntKind.i64.wrap ((i:Int)+1)) S':=fun hz=>by
    rw[w64 (by omega) (by omega)]
    refine ih _ S' ⟨i+1,rfl,by omega,rfl,fun f hf=>?_⟩ (by omega)
    by_cases e:f=i
    ·subst e;exact⟨h1,hz⟩
    ·exact hall f (by omega)
   by_cases h2:(C.own i).kind=0
   ·rw[if_pos h2]
    refine⟨rfl,?_⟩
    rw[show ([.int .u8 0,.int .i64 0,.int .i64 0,.int .i64 0]:List Value)=owL ow0 from rfl]
    by_cases h3:C.own i=ow0
    ·rw[if_neg (fun h=>zer.1 h h3)];exact go fun _=>h3
    ·rw[if_pos (zer.2 h3)]
     exact hN fun h=>h3 ((h i hlt).2 h2)
   ·rw[if_neg h2];exact go fun h=>absurd h h2
  ·rw[if_pos h1]
   exact hN fun h=>h1 (h i hlt).1
 ·rw[if_neg (by omega)]
  exact hY fun f hf=>hall f (by omega)
theorem fZ (hc:CrabA S ρ h A C) {p:Nat} {gs:Sl} {l:List Nat} {r:Nat} (hg:Rw S ρ' r 1 gs (nL l)) (hl:∀ f∈l,f<C.N∧(C.own f).kind=1) (hl5:l.length≤512) {Q:Int→Mem→Prop}
  (hQ:Q (if count (fun f=>decide ((C.own f).kind=1) && (decide ((1:Int)<2) || decide ((C.own f).vm=0))) C.N=l.length then 0 else 7) S):xK S (pxL A p gs) Q:=by
 apply kQ
 unfold xg
 have hN:=hc.st.lim
 have hn:gs.n=l.length:=hg.n (m:=l.length) (by decide) (by simp[nL])
 refine⟨rfl,?_⟩
 refine qC (fun J=>J S) ?_ fun J hJ=>?_
 ·rw[qT (show nthL (pxL A p gs) 3=some (eP (some (A.t,0))) from rfl),yo,qT hc.t74,wb (show nthL (pxL A p gs) 2=some (eL gs) from rfl)]
  refine vl hc.ow hN ?_
  by_cases e:count (fun f=>decide ((C.own f).kind=1) && (decide ((1:Int)<2) || decide ((C.own f).vm=0))) C.N=l.length
  ·rw[if_neg (by omega)];rw[if_pos e] at hQ;exact hQ
  ·rw[if_pos (by omega)];rw[if_neg e] at hQ;exact hQ
 ·rw[wb (show nthL (pxL A p gs) 2=some (eL gs) from rfl)]
  refine zO (fun (z:Int) S'=>∃ i:Nat,z=(i:Int)∧i≤l.length∧S'=S) (fun z=>l.length-z.toNat) ?_ ⟨0,rfl,by omega,rfl⟩
  rintro X z S' ⟨i,rfl,hi,rfl⟩ ih
  try dsimp only at ih ⊢
  by_cases hlt:i<l.length
  ·rw[if_pos (by omega)]
   obtain⟨c,e1,e2⟩:=hg.sl (by simp[nL];omega)
   rw[zen e1]
   refine⟨by omega,by omega,?_⟩
   have hcell:S'.cell c (0+(i:Int).toNat*1)=some (.int .i64 (l[i]:Nat)):=by
    rw[hg.cell e2 i (by simp[nL];omega) (by omega),zK]
    unfold nL
    simp[hlt]
   have hx:=hl l[i] (List.getElem_mem hlt)
   rw[yd hcell,qT (show nthL (pxL A p gs) 3=some (eP (some (A.t,0))) from rfl),yo,qT hc.t74]
   refine jZ hc.ow hx.1 ?_
   refine⟨rfl,?_⟩
   rw[if_neg (by decide),yd (show nthL (owL (C.own l[i])) 0=some (.int .u8 (C.own l[i]).kind) from rfl),hx.2,if_neg (by decide),w64 (by omega) (by omega)]
   exact ih _ S' ⟨i+1,rfl,by omega,rfl⟩ (by omega)
  ·rw[if_neg (by omega)]
   have:i=l.length:=by omega
   exact hJ
theorem jv {x:Vx} {v:Bv} {tf late:Int}:(vmC x v tf late).all (·.oneCell')=true:=by
 unfold vmC eL;rfl
theorem fW (hc:CrabA S ρ h A C) (hr:TbOk C) {p:Nat} {gs:Sl} {Q:Int→Mem→Prop} (hQ:Q 0 S):yH S (pxL A p gs) Q:=by
 apply vt
 unfold yg
 have hN:=hc.st.lim
 refine⟨rfl,?_⟩
 simp only[jn]
 rw[qT (show nthL (pxL A p gs) 3=some (eP (some (A.t,0))) from rfl),yo,gj hc.vms]
 refine zO (fun (z:Int) S'=>∃ i:Nat,z=(i:Int)∧i≤6∧S'=S) (fun z=>6-z.toNat) ?_ ⟨0,rfl,by omega,rfl⟩
 rintro X z S' ⟨i,rfl,hi,rfl⟩ ih
 try dsimp only at ih ⊢
 by_cases hlt:i<6
 ·rw[if_pos (by omega)]
  refine⟨by omega,by omega,?_⟩
  rw[gj (zdo (fun _=>rfl) hlt)]
  refine⟨jv,?_⟩
  have hv:=hc.vs i hlt
  have hfn:(A.x i).fs.n=(C.fr i).length:=hv.fr.n (m:=(C.fr i).length) (by decide) (by simp[nL])
  have go:X (IntKind.i64.wrap ((i:Int)+1)) S':=by
   rw[w64 (by omega) (by omega)]
   exact ih _ S' ⟨i+1,rfl,by omega,rfl⟩ (by omega)
  have loop:lp (fun (X_1:Int→Mem→Prop) (t_5:Int) (Sx_5:Mem)=>if t_5<((A.x i).fs.n:Int) then sl (A.x i).fs fun b_3 o_1 n _=>0≤t_5∧t_5<((n:Nat):Int) ∧
    gI (Sx_5.cell b_3 (o_1+t_5.toNat*1)) .i64 fun t_6=>gP (nthL (pxL A p gs) 3) fun t_7=>nn t_7 fun b_4 o_2=>gP (Sx_5.cell b_4 (o_2+74)) fun t_8=>
    qQ Sx_5 t_8 t_6 fun t_9 t_10 Sx_6=>t_9.all (·.oneCell')=true∧if t_10≠0 then Q 7 Sx_6 else fits [.i .u8,.i .i64,.i .i64,.i .i64] t_9=true ∧
    if (!(eqL t_9 ([.int .u8 2,.int .i64 (i:Int),.int .i64 0,.int .i64 0])))=true then Q 7 Sx_6 else X_1 (IntKind.i64.wrap (t_5+1)) Sx_6 else X (IntKind.i64.wrap ((i:Int)+1)) Sx_5) 0 S':=by
   have hf5:(C.fr i).length≤5:=by
    cases hon:(C.vm i).on with
    | true=>rw[(hr.on i hlt hon).2.1];decide
    | false=>rw[(hr.off i hlt hon).1];decide
   refine zO (fun (z:Int) S1=>∃ j:Nat,z=(j:Int)∧j≤(C.fr i).length∧S1=S') (fun z=>(C.fr i).length-z.toNat) ?_ ⟨0,rfl,by omega,rfl⟩
   rintro Y z S1 ⟨j,rfl,hj,rfl⟩ ih2
   try dsimp only at ih2 ⊢
   by_cases hjl:j<(C.fr i).length
   ·rw[if_pos (by omega)]
    obtain⟨c,e1,e2⟩:=hv.fr.sl (by simp[nL];omega)
    rw[zen e1]
    refine⟨by omega,by omega,?_⟩
    have hcell:S1.cell c (0+(j:Int).toNat*1)=some (.int .i64 ((C.fr i)[j]:Nat)):=by
     rw[hv.fr.cell e2 j (by simp[nL];omega) (by omega),zK]
     unfold nL
     simp[hjl]
    have hx:=hr.row i _ (List.getElem_mem hjl)
    rw[yd hcell,qT (show nthL (pxL A p gs) 3=some (eP (some (A.t,0))) from rfl),yo,qT hc.t74]
    refine jZ hc.ow hx.1 ?_
    refine⟨rfl,?_⟩
    rw[if_neg (by decide),hx.2]
    refine⟨rfl,?_⟩
    rw[show ([.int .u8 2,.int .i64 (i:Int),.int .i64 0,.int .i64 0]:List Value)=owL ⟨2,i,0,0⟩ from rfl,if_neg (fun h=>zer.1 h rfl),w64 (by omega) (by omega)]
    exact ih2 _ S1 ⟨j+1,rfl,by omega,rfl⟩ (by omega)
   ·rw[if_neg (by omega)];exact go
  have c0:nthL (vmC (A.x i) (C.vm i) (C.tf i) (C.late i)) 0=some (.bool (C.vm i).on):=rfl
  have c3:nthL (vmC (A.x i) (C.vm i) (C.tf i) (C.late i)) 3=some (eL (A.x i).fs):=rfl
  have c2:nthL (vmC (A.x i) (C.vm i) (C.tf i) (C.late i)) 2=some (.int .i64 (C.tf i)):=rfl
  rw[fK c0]
  cases hon:(C.vm i).on with
  | true=>
   rw[if_pos rfl,wb c3,if_neg (by rw[hfn,(hr.on i hlt hon).2.1];simp),qT (show nthL (pxL A p gs) 3=some (eP (some (A.t,0))) from rfl),yo,qT hc.t74]
   refine vl hc.ow hN ?_
   rw[(hr.on i hlt hon).2.2,if_neg (by simp),fK c0,hon,if_pos rfl,yd c2,qT (show nthL (pxL A p gs) 3=some (eP (some (A.t,0))) from rfl),yo,yd hc.tform,if_neg (fun hne=>hne (hr.on i hlt hon).1),wb c3]
   exact loop
  | false=>
   rw[if_neg (by simp),wb c3,if_neg (by rw[hfn,(hr.off i hlt hon).1];simp),qT (show nthL (pxL A p gs) 3=some (eP (some (A.t,0))) from rfl),yo,qT hc.t74]
   refine vl hc.ow hN ?_
   rw[(hr.off i hlt hon).2,if_neg (by simp),fK c0,hon,if_neg (by simp),wb c3]
   exact loop
 ·rw[if_neg (by omega)]
  exact hQ
theorem fX (hc:CrabA S ρ h A C) (hr:Rel C W φ) {p:Nat} {gs:Sl} {Q:Int→Mem→Prop} (hQ:Q 0 S):yI S (pxL A p gs) Q:=by
 apply vu
 unfold yh
 have hN:=hc.st.lim
 refine⟨rfl,?_⟩
 simp only[jn]
 rw[qT (show nthL (pxL A p gs) 3=some (eP (some (A.t,0))) from rfl),yo,gj hc.vms]
 refine zO (fun (z:Int) S'=>∃ i:Nat,z=(i:Int)∧i≤6∧S'=S) (fun z=>6-z.toNat) ?_ ⟨0,rfl,by omega,rfl⟩
 rintro X z S' ⟨i,rfl,hi,rfl⟩ ih
 try dsimp only at ih ⊢
 by_cases hlt:i<6
 ·rw[if_pos (by omega)]
  refine⟨by omega,by omega,?_⟩
  rw[gj (zdo (fun _=>rfl) hlt)]
  refine⟨jv,?_⟩
  rw[qT (show nthL (pxL A p gs) 3=some (eP (some (A.t,0))) from rfl),yo,qT hc.t74,yd (show nthL (vmC (A.x i) (C.vm i) (C.tf i) (C.late i)) 4=some (.int .i64 (C.vm i).quota) from rfl)]
  refine vl hc.ow hN ?_
  have:=hr.wk.most i
  rw[hr.cGuest,hr.vm,if_neg (by omega),w64 (by omega) (by omega)]
  exact ih _ S' ⟨i+1,rfl,by omega,rfl⟩ (by omega)
 ·rw[if_neg (by omega)]
  exact hQ
theorem zcB (hc:CrabA S ρ h A C) (hr:Rel C W φ) {p:Nat} {gs:Sl} {Q:Int→Mem→Prop} (hQ:Q 0 S):xJ S (pxL A p gs) Q:=by
 apply kP
 unfold xf
 refine⟨rfl,?_⟩
 simp only[jn]
 rw[qT (show nthL (pxL A p gs) 3=some (eP (some (A.t,0))) from rfl),yo,gj hc.vms]
 refine zO (fun (z:Int) S'=>∃ i:Nat,z=(i:Int)∧i≤6∧S'=S) (fun z=>6-z.toNat) ?_ ⟨0,rfl,by omega,rfl⟩
 rintro X z S' ⟨i,rfl,hi,rfl⟩ ih
 try dsimp only at ih ⊢
 by_cases hlt:i<6
 ·rw[if_pos (by omega)]
  refine⟨by omega,by omega,?_⟩
  rw[gj (zdo (fun _=>rfl) hlt)]
  refine⟨jv,?_⟩
  have hv:=hc.vs i hlt
  have hsn:(A.x i).ss.n=(C.vm i).seats.length:=hv.se.n (by decide) (zdQ hv.r)
  have hkn:(A.x i).ks.n=(C.vm i).keys.length:=hv.ke.n (m:=(C.vm i).keys.length) (by decide) (by simp[bL])
  have go:X (IntKind.i64.wrap ((i:Int)+1)) S':=by
   rw[w64 (by omega) (by omega)]
   exact ih _ S' ⟨i+1,rfl,by omega,rfl⟩ (by omega)
  have c0:nthL (vmC (A.x i) (C.vm i) (C.tf i) (C.late i)) 0=some (.bool (W.vm i).on):=by rw[hr.vm];rfl
  have c1:nthL (vmC (A.x i) (C.vm i) (C.tf i) (C.late i)) 1=some (eL (A.x i).ss):=rfl
  have c6:nthL (vmC (A.x i) (C.vm i) (C.tf i) (C.late i)) 6=some (eL (A.x i).ks):=rfl
  have c5:nthL (vmC (A.x i) (C.vm i) (C.tf i) (C.late i)) 5=some (.int .u64 (C.late i)):=rfl
  have c11:nthL (vmC (A.x i) (C.vm i) (C.tf i) (C.late i)) 11=some (.int .u32 (bI (C.vm i).bells)):=rfl
  rw[fK c0]
  cases hon:(W.vm i).on with
  | true=>
   rw[if_pos rfl]
   refine zO (fun (z:Int) S1=>∃ j:Nat,z=(j:Int)∧j≤6∧S1=S') (fun z=>6-z.toNat) ?_ ⟨0,rfl,by omega,rfl⟩
   rintro Y z S1 ⟨j,rfl,hj,rfl⟩ ih2
   try dsimp only at ih2 ⊢
   by_cases hj6:j<6
   ·rw[if_pos (by omega),yd c11]
    refine⟨by omega,?_⟩
    have hb:=zbA (C.vm i).bells hj6
    have go2:Y (IntKind.i64.wrap ((j:Int)+1)) S1:=by
     rw[w64 (by omega) (by omega)]
     exact ih2 _ S1 ⟨j+1,rfl,by omega,rfl⟩ (by omega)
    cases hbl:(C.vm i).bells j with
    | false=>
     rw[hbl] at hb
     rw[if_neg (of_decide_eq_false hb)]
     exact go2
    | true=>
     rw[hbl] at hb
     rw[if_pos (of_decide_eq_true hb),qT (show nthL (pxL A p gs) 3=some (eP (some (A.t,0))) from rfl)]
     rw[hr.vm] at hbl
     have hw:=hr.wk.bells i j hbl
     refine zaJ hc ?_
     have e1:thereV C.vm (j:Int):=⟨by omega,by omega,by rw[Int.toNat_natCast,hr.vm];exact hw.2.1⟩
     have e2:thereV C.vm (i:Int):=⟨by omega,by omega,by rw[Int.toNat_natCast,hr.vm];exact hw.1⟩
     rw[decide_eq_true e1,decide_eq_true e2,Int.toNat_natCast,Int.toNat_natCast,hr.vm,hw.2.2.1,if_pos (by decide),if_neg (by have:=hw.2.2.2;omega)]
     exact go2
   ·rw[if_neg (by omega),wb c1]
    have h3:=hr.wk.seats i hon
    have hk:=(hr.wk.keys i).1
    have ht:=hr.time i hon
    have hnow:=hr.now
    rw[hr.vm] at hsn hkn
    rw[if_neg (by omega),wb c1,if_neg (by omega),wb c6,if_neg (by omega),yd c11]
    have hb6:=zfz (C.vm i).bells
    have key:∀ m:Fin 64,ishr .u32 ((m.1:Nat):Int) 6=0:=by decide
    rw[if_neg (fun hne=>hne (key ⟨_,hb6⟩)),yd c5,qT (show nthL (pxL A p gs) 3=some (eP (some (A.t,0))) from rfl),yo,yd hc.tnow,if_neg (by omega)]
    exact go
  | false=>
   have hz:=(hr.wk.off i hon).1
   rw[hr.vm,hz] at hsn
   have hb0:bI (C.vm i).bells=0:=by rw[hr.vm,hz];rfl
   rw[if_neg (by simp),yd c11,if_neg (by rw[hb0];decide),wb c1,hsn,if_neg (by decide)]
   exact go
 ·rw[if_neg (by omega)]
  exact hQ
end
end Go.Proofs.YtabdpmnhjlmnlaaGreatDoor
end
section
namespace Go.Proofs.YtabdpmnhjlmnlaaGreatDoor
open Go Go.Pt Go.Cr Go.Hp
def pgEn (d:Nat→List Int) (N:Nat) (tf:Int) (fr:List Nat) (i:Nat):List (Nat×Nat×Bool):=(List.range i).filterMap fun (p:Nat)=>(walkC d N tf fr p).map fun x=>(p,x)
theorem zbi {d:Nat→List Int} {N:Nat} {tf:Int} {fr:List Nat} {i:Nat}:(pgEn d N tf fr i).length≤i:=by
 have:=List.length_filterMap_le (fun (p:Nat)=>(walkC d N tf fr p).map fun x=>(p,x)) (List.range i)
 rw[List.length_range] at this
 exact this
theorem zab {d:Nat→List Int} {N:Nat} {tf:Int} {fr:List Nat} {i:Nat}:pgEn d N tf fr (i+1)=pgEn d N tf fr i++((walkC d N tf fr (i:Int)).map fun x=>(i,x)).toList:=by
 unfold pgEn
 rw[List.range_succ,List.filterMap_append,List.filterMap_cons]
 cases walkC d N tf fr (i:Int) <;> rfl
theorem zdz {d:Nat→List Int} {N:Nat} {tf:Int} {fr:List Nat} {i:Nat} {q:Nat×Nat×Bool} (h:q∈pgEn d N tf fr i):q.1<i∧walkC d N tf fr q.1=some q.2:=by
 unfold pgEn at h
 obtain⟨p,hp,e⟩:=List.mem_filterMap.1 h
 cases hw:walkC d N tf fr (p:Int) with
 | none=>rw[hw] at e;cases e
 | some x=>
  rw[hw] at e
  simp only[Option.map_some,Option.some.injEq] at e
  subst e
  exact⟨List.mem_range.1 hp,hw⟩
def pgL (l:List (Nat×Nat×Bool)):List Value:=l.map fun q=>Value.int .i64 (q.1:Nat)
def pgE (l:List (Nat×Nat×Bool)):List Value:=l.flatMap fun q=>enP q.2
theorem fp {l:List (Nat×Nat×Bool)}:(pgE l).length=l.length*3:=gT (f:=fun q:Nat×Nat×Bool=>enP q.2) (fun q=>zda q.2) l
section
variable {S S' S0:Mem} {ρ ρ' ρ0:Rho} {R:Nat→Prop} {h:Nat} {A:Ad} {C:Cst} {W:Wd} {φ:Nat→Nat→Nat}
theorem zdk {m N:Nat} {d:Nat→List Int} {tf:Int} {fs:Sl} {fr:List Nat} (h:StoreD S ρ m N d) (hr:Row S 1 fs (nL fr)) {Q:Sl→Sl→Mem→Prop}
  (hQ:∀ t3 t4 S',Keeps S S' []→Row S' 1 t3 (pgL (pgEn d N tf fr 32))→Row S' 3 t4 (pgE (pgEn d N tf fr 32))→Q t3 t4 S'):xH S (tbL tf fs) (some (m,0)) Q:=by
 apply kO
 unfold xe
 refine⟨rfl,?_⟩
 simp only[jn]
 have fr_of:∀ {S1:Mem} {b:Nat},Keeps S S1 []→S1 b=none→S b=none:=fun hk h=>by
  cases hs:S _ with
  | none=>rfl
  | some x=>rw[hk _ (by rw[hs];simp) (by simp),hs] at h;cases h
 refine zO (fun (z:Sl×Sl×Int) S'=>∃ (i:Nat),z.2.2=(i:Int)∧i≤32∧Keeps S S' []∧Row S' 1 z.1 (pgL (pgEn d N tf fr i))∧Row S' 3 z.2.1 (pgE (pgEn d N tf fr i))∧(∀ b o,z.1.p=some (b,o)→S b=none)∧(∀ b o,z.2.1.p=some (b,o)→S b=none)∧∀ b o o',z.1.p=some (b,o)→z.2.1.p≠some (b,o')) (fun z=>32-z.2.2.toNat) ?_
  ⟨0,rfl,by decide,Keeps.refl,Row.nil,Row.nil,fun _ _ e=>(by cases e),fun _ _ e=>(by cases e),fun _ _ _ e=>(by cases e)⟩
 rintro X ⟨pg,l,z⟩ S1 ⟨i,hz,hi,hk,hrow1,hrow2,hf1,hf2,hne⟩ ih
 dsimp only at hz hrow1 hrow2 hf1 hf2 hne ih ⊢
 subst hz
 have hL:=zbi (d:=d) (N:=N) (tf:=tf) (fr:=fr) (i:=i)
 have hn1:pg.n≤i:=by have:=hrow1.len;simp only[pgL,List.length_map] at this;omega
 have hn2:l.n≤i:=by have:=hrow2.len;rw[fp] at this;omega
 by_cases hlt:(i:Int)<32
 ·rw[if_pos hlt]
  refine walkD (h.keeps hk) (rowK hr hk) (fun f w S2 hw hk2=>?_) fun e S2 hw he hk2=>?_
  ·refine⟨rfl,?_⟩
   rw[if_pos rfl]
   have es:pgEn d N tf fr (i+1)=pgEn d N tf fr i++[(i,f,w)]:=by rw[zab,hw];rfl
   have hk3:=hk.trans hk2
   have r1:=rowK hrow1 hk2
   have r2:=rowK hrow2 hk2
   refine kJ r1 rfl (by decide) rfl (by omega) fun p3 S3 c kb e1 e2 e3 e4 e5=>?_
   have hc:S c=none:=by
    rcases e3 with e3 | e3
    ·exact hf1 c 0 e3
    ·exact fr_of hk3 e3
   have hcl:∀ o,l.p≠some (c,o):=fun o e=>by
    rcases e3 with e3 | e3
    ·exact hne c 0 o e3 e
    ·rcases r2.lie with ⟨h1,_⟩ | ⟨b',k,h1,h2,_⟩
     ·rw[h1] at e;cases e
     ·rw[h1] at e;cases e;rw[h2] at e3;cases e3
   have r2':Row S3 3 l (pgE (pgEn d N tf fr i)):=r2.keep fun b hb=>by
    rw[e4,qk fun e=>hcl 0 (by rw[←e];exact hb)]
   refine⟨rfl,?_⟩
   refine kJ r2' rfl (by decide) rfl (by omega) fun l4 S4 c4 kb4 f1 f2 f3 f4 f5=>?_
   have hc3:S3 c=some kb:=by rw[e4];exact zG
   have hc4:S c4=none∧c4≠c:=by
    rcases f3 with f3 | f3
    ·exact⟨hf2 c4 0 f3,fun e=>hcl 0 (by rw[←e];exact f3)⟩
    ·have:c4≠c:=fun e=>by rw[e,hc3] at f3;cases f3
     rw[e4,qk this] at f3
     exact⟨fr_of hk3 f3,this⟩
   have r1':Row S4 1 p3 (pgL (pgEn d N tf fr i)++[.int .i64 (i:Int)]):=e5.keep fun b hb=>by
    rw[e2] at hb;cases hb
    rw[f4,qk hc4.2.symm]
   rw[w64 (by omega) (by omega)]
   refine ih _ _ ⟨i+1,by dsimp only;omega,by omega,?_,?_,?_,fun b o e=>?_,fun b o e=>?_,fun b o o' e e'=>?_⟩ (by dsimp only;omega)
   ·rw[f4,e4];exact (hk3.fresh hc).fresh hc4.1
   ·dsimp only
    rw[es];unfold pgL at r1' ⊢;rw[List.map_append]
    exact r1'
   ·dsimp only
    rw[es];unfold pgE at f5 ⊢;rw[List.flatMap_append]
    exact f5
   ·rw[e2] at e;cases e;exact hc
   ·dsimp only at e;rw[f2] at e;cases e;exact hc4.1
   ·dsimp only at e e'
    rw[e2] at e;rw[f2] at e';cases e;cases e';exact hc4.2 rfl
  ·refine⟨rfl,?_⟩
   have es:pgEn d N tf fr (i+1)=pgEn d N tf fr i:=by rw[zab,hw];exact List.append_nil _
   rw[if_neg he,w64 (by omega) (by omega)]
   refine ih _ _ ⟨i+1,by dsimp only;omega,by omega,hk.trans hk2,?_,?_,hf1,hf2,hne⟩ (by dsimp only;omega)
   ·dsimp only;rw[es];exact rowK hrow1 hk2
   ·dsimp only;rw[es];exact rowK hrow2 hk2
 ·rw[if_neg hlt]
  have:i=32:=by omega
  subst this
  exact hQ _ _ S1 hk hrow1 hrow2
theorem Row.at_ {w:Nat} {s:Sl} {l:List Value} (hr:Row S w s l):Rw S (fun _=>some 0) 0 w s l:=⟨hr,fun _ _ _=>rfl⟩
theorem zaD (hc:CrabA S ρ h A C) (hk:∀ f,f<C.N→(C.own f).kind=3→thereV C.vm (C.own f).vm) (hls:∀ i,(C.ls i).on=false) {p:Nat} {gs:Sl} {Q:Int→Mem→Prop}
  (hB:(∃ f,f<C.N∧(C.own f).kind=3∧C.walk (C.own f).vm.toNat (C.own f).page≠some (f,true))→∀ S',Keeps S S' []→Q 11 S')
  (hE:(∀ f,f<C.N→(C.own f).kind=3→C.walk (C.own f).vm.toNat (C.own f).page=some (f,true))→∀ i,i<6→(C.vm i).on=true→∀ q,q<32→∀ g w,C.walk i (q:Nat)=some (g,w)→g<C.N∧∃ s,C.own g=⟨3,i,(q:Nat),s⟩)
  (hQ:(∀ f,f<C.N→(C.own f).kind=3→C.walk (C.own f).vm.toNat (C.own f).page=some (f,true))→∀ S',Keeps S S' []→Q 0 S'):yX S (pxL A p gs) Q:=by
 apply vJ
 unfold yx
 have hN:=hc.st.lim
 have x3:nthL (pxL A p gs) 3=some (eP (some (A.t,0))):=rfl
 have x0:nthL (pxL A p gs) 0=some (eP (some (A.m,0))):=rfl
 refine⟨rfl,?_⟩
 refine qC (fun J=>∀ S1,Keeps S S1 []→(∀ f,f<C.N→(C.own f).kind=3→C.walk (C.own f).vm.toNat (C.own f).page=some (f,true))→J S1) ?_ fun J hJ=>?_
 ·intro S1 hk1 hall
  have hc1:=hc.keeps hk1
  have hE:=hE hall
  simp only[jn]
  rw[qT x3,yo,gj hc1.vms]
  refine zO (fun (z:Int) S'=>∃ i:Nat,z=(i:Int)∧i≤6∧Keeps S S' []) (fun z=>6-z.toNat) ?_ ⟨0,rfl,by omega,hk1⟩
  rintro X z S2 ⟨i,rfl,hi,hk2⟩ ih
  try dsimp only at ih ⊢
  have hc2:=hc.keeps hk2
  by_cases hlt:i<6
  ·rw[if_pos (by omega)]
   refine⟨by omega,by omega,?_⟩
   rw[gj (zdo (fun _=>rfl) hlt)]
   refine⟨jv,?_⟩
   have go:∀ S3,Keeps S S3 []→X (IntKind.i64.wrap ((i:Int)+1)) S3:=fun S3 hk3=>by
    rw[w64 (by omega) (by omega)]
    exact ih _ S3 ⟨i+1,rfl,by omega,hk3⟩ (by omega)
   rw[fK (show nthL (vmC (A.x i) (C.vm i) (C.tf i) (C.late i)) 0=some (.bool (C.vm i).on) from rfl)]
   cases hon:(C.vm i).on with
   | false=>rw[if_neg (by simp)];exact go S2 hk2
   | true=>
    rw[if_pos rfl,gj (show lpart (vmC (A.x i) (C.vm i) (C.tf i) (C.late i)) 2 2=some (tbL (C.tf i) (A.x i).fs) from rfl),qT x0]
    refine zdk hc2.st (hc2.vs i hlt).fr.row fun t3 t4 S3 hk3 hr3 hr4=>?_
    have hk3':=hk2.trans hk3
    have w3:=Row.at_ hr3
    have w4:=Row.at_ hr4
    have n3:t3.n=(pgEn C.dat C.N (C.tf i) (C.fr i) 32).length:=w3.n (by decide) (by simp[pgL])
    have n4:t4.n=(pgEn C.dat C.N (C.tf i) (C.fr i) 32).length:=w4.n (by decide) fp
    have hL:=zbi (d:=C.dat) (N:=C.N) (tf:=C.tf i) (fr:=C.fr i) (i:=32)
    have hc3:=hc.keeps hk3'
    refine zO (fun (z:Int) S'=>∃ k:Nat,z=(k:Int)∧k≤(pgEn C.dat C.N (C.tf i) (C.fr i) 32).length∧S'=S3) (fun z=>(pgEn C.dat C.N (C.tf i) (C.fr i) 32).length-z.toNat) ?_ ⟨0,rfl,by omega,rfl⟩
    rintro Y z S4 ⟨k,rfl,hkl,rfl⟩ ih2
    try dsimp only at ih2 ⊢
    by_cases hkt:k<(pgEn C.dat C.N (C.tf i) (C.fr i) 32).length
    ·rw[if_pos (by omega)]
     obtain⟨c3,e3,p3⟩:=w3.sl (by simp only[pgL,List.length_map];omega)
     obtain⟨c4,e4,p4⟩:=w4.sl (by rw[fp];omega)
     have hq:=zdz (List.getElem_mem hkt)
     generalize hqe:(pgEn C.dat C.N (C.tf i) (C.fr i) 32)[k]=q at hq
     obtain⟨qp,qf,qw⟩:=q
     have cell3:S4.cell c3 (0+(k:Int).toNat*1)=some (.int .i64 (qp:Nat)):=by
      rw[w3.cell p3 k (by simp only[pgL,List.length_map];omega) (by omega),zK]
      unfold pgL
      rw[List.getElem?_map,List.getElem?_eq_getElem hkt,hqe];rfl
     have cell4:S4.cell c4 (0+(k:Int).toNat*3+1)=some (.int .i64 (qf:Nat)):=by
      rw[w4.cell p4 (k*3+1) (by rw[fp];omega) (by omega)]
      unfold pgE
      rw[zfo (w:=3) (fun q=>zda q.2) hkt (by decide),hqe];rfl
     have hx:=hE i hlt hon qp hq.1 qf qw hq.2
     obtain⟨hx1,s,hx2⟩:=hx
     rw[zen e3]
     refine⟨by omega,by omega,?_⟩
     rw[yd cell3,qT x3,yo,qT hc3.t74,zen e4]
     refine⟨by omega,by omega,?_⟩
     rw[yd cell4]
     refine jZ hc3.ow hx1 ?_
     refine⟨rfl,?_⟩
     rw[hx2,if_pos rfl,yd (show nthL (owL ⟨3,(i:Int),(qp:Int),s⟩) 0=some (.int .u8 3) from rfl),if_pos rfl,yd (show nthL (owL ⟨3,(i:Int),(qp:Int),s⟩) 1=some (.int .i64 (i:Int)) from rfl),if_pos rfl,yd (show nthL (owL ⟨3,(i:Int),(qp:Int),s⟩) 2=some (.int .i64 (qp:Int)) from rfl),if_pos rfl,if_pos True.intro,w64 (by omega) (by omega)]
     exact ih2 _ S4 ⟨k+1,rfl,by omega,rfl⟩ (by omega)
    ·rw[if_neg (by omega)]
     exact go _ hk3'
  ·rw[if_neg (by omega)]
   exact hQ hall _ hk2
 ·obtain⟨rs,ho,hn,hrow⟩:=hc.ownL
  simp only[jn]
  rw[qT x3,yo,qT hc.t74,yo,wb ho]
  refine zO (fun (z:Int) S'=>∃ i:Nat,z=(i:Int)∧i≤C.N∧Keeps S S' []∧∀ f,f<i→(C.own f).kind=3→C.walk (C.own f).vm.toNat (C.own f).page=some (f,true)) (fun z=>C.N-z.toNat) ?_ ⟨0,rfl,by omega,Keeps.refl,fun _ h=>by omega⟩
  rintro X z S1 ⟨i,rfl,hi,hk1,hall⟩ ih
  try dsimp only at ih ⊢
  have hc1:=hc.keeps hk1
  by_cases hlt:i<C.N
  ·rw[if_pos (by omega)]
   obtain⟨rs1,ho1,hn1,hrow1⟩:=hc1.ownL
   have er:rs1=rs:=by
    have:=hk1 A.ob (fun e=>by unfold Mem.cell at ho;rw[e] at ho;cases ho) (by simp)
    unfold Mem.cell at ho ho1
    rw[this] at ho1
    rw[ho] at ho1
    simp only[Option.some.injEq] at ho1
    exact (zdX ho1).symm
   subst er
   obtain⟨c,n,e,en,hpart⟩:=hrow1 i hlt
   rw[zen e]
   refine⟨by omega,by omega,?_⟩
   rw[gj hpart]
   refine⟨rfl,?_⟩
   have go:((C.own i).kind=3→C.walk (C.own i).vm.toNat (C.own i).page=some (i,true))→∀ S2,Keeps S S2 []→X (IntKind.i64.wrap ((i:Int)+1)) S2:=fun hg S2 hk2=>by
    rw[w64 (by omega) (by omega)]
    refine ih _ S2 ⟨i+1,rfl,by omega,hk2,fun f hf=>?_⟩ (by omega)
    by_cases e:f=i
    ·subst e;exact hg
    ·exact hall f (by omega)
   have o1:nthL (owL (C.own i)) 1=some (.int .i64 (C.own i).vm):=rfl
   have o2:nthL (owL (C.own i)) 2=some (.int .i64 (C.own i).page):=rfl
   rw[yd (show nthL (owL (C.own i)) 0=some (.int .u8 (C.own i).kind) from rfl)]
   by_cases h3:(C.own i).kind=3
   ·rw[if_neg (fun hne=>hne h3),qT x3,yd o1]
    have ht:=hk i hlt h3
    refine kM hc1 ?_
    rw[decide_eq_true ht,if_pos rfl,qT x3,yd o1,yo]
    refine⟨ht.1,ht.2.1,?_⟩
    have h6:(C.own i).vm.toNat<6:=by have:=ht.1;have:=ht.2.1;omega
    rw[gj (hc1.vtab (n:=(C.own i).vm.toNat) h6 (by omega)),qT x0,yd o2]
    refine walkD hc1.st (hc1.vs _ h6).fr.row (fun g w S2 hw hk2=>?_) fun e S2 hw he hk2=>?_
    ·have hk2':=hk1.trans hk2
     have hc2:=hc.keeps hk2'
     refine⟨rfl,?_⟩
     have hww:C.walk (C.own i).vm.toNat (C.own i).page=some (g,w):=hw
     rw[if_neg (by decide),yd (show nthL (enL g w) 1=some (.int .i64 (g:Nat)) from rfl)]
     by_cases e1:g=i
     ·subst e1
      rw[if_neg (by simp),fK (show nthL (enL g w) 2=some (.bool w) from rfl)]
      cases w with
      | true=>
       rw[if_pos rfl,qT x3,yo,gj hc2.tls,yd o1,yd o2]
       refine zdG (fun j _ hj=>by rw[hls j] at hj;cases hj) fun _=>?_
       rw[if_neg (by decide)]
       exact go (fun _=>hww) _ hk2'
      | false=>
       rw[if_neg (by simp)]
       exact hB ⟨g,hlt,h3,by rw[hww];simp⟩ _ hk2'
     ·rw[if_pos (by omega)]
      exact hB ⟨i,hlt,h3,by rw[hww];simp[e1]⟩ _ hk2'
    ·refine⟨rfl,?_⟩
     have hww:C.walk (C.own i).vm.toNat (C.own i).page=none:=hw
     rw[if_pos he]
     exact hB ⟨i,hlt,h3,by rw[hww];simp⟩ _ (hk1.trans hk2)
   ·rw[if_pos h3]
    exact go (fun h=>absurd h h3) _ hk1
  ·rw[if_neg (by omega)]
   exact hJ _ hk1 fun f hf=>hall f (by omega)
theorem fY (hc:CrabA S ρ h A C) (hls:∀ i,(C.ls i).on=false) (hsh:∀ f,f<C.N→(C.own f).kind=3→(C.own f).sh=0) {p:Nat} {gs:Sl} {Q:Int→Mem→Prop} (hQ:Q 0 S):yJ S (pxL A p gs) Q:=by
 apply vv
 unfold yi
 have hN:=hc.st.lim
 have x3:nthL (pxL A p gs) 3=some (eP (some (A.t,0))):=rfl
 refine⟨rfl,?_⟩
 refine qC (fun J=>J S) ?_ fun J hJ=>?_
 ·obtain⟨rs,ho,hn,hrow⟩:=hc.ownL
  simp only[jn]
  rw[qT x3,yo,qT hc.t74,yo,wb ho]
  refine zO (fun (z:Int×Int) S'=>∃ i:Nat,z=(0,(i:Int))∧i≤C.N∧S'=S) (fun z=>C.N-z.2.toNat) ?_ ⟨0,rfl,by omega,rfl⟩
  rintro X z S' ⟨i,rfl,hi,rfl⟩ ih
  try dsimp only at ih ⊢
  by_cases hlt:i<C.N
  ·rw[if_pos (by omega)]
   obtain⟨c,n,e,en,hpart⟩:=hrow i hlt
   rw[zen e]
   refine⟨by omega,by omega,?_⟩
   rw[gj hpart]
   refine⟨rfl,?_⟩
   have o0:nthL (owL (C.own i)) 0=some (.int .u8 (C.own i).kind):=rfl
   have go:X (0,IntKind.i64.wrap ((i:Int)+1)) S':=by
    rw[w64 (by omega) (by omega)]
    exact ih _ S' ⟨i+1,rfl,by omega,rfl⟩ (by dsimp only;omega)
   rw[yd o0]
   by_cases h3:(C.own i).kind=3
   ·have o3:nthL (owL (C.own i)) 3=some (.int .i64 0):=by rw[←hsh i hlt h3];rfl
    rw[if_pos h3,yd o3,yd (show nthL (owL (C.own i)) 1=some (.int .i64 (C.own i).vm) from rfl),yd (show nthL (owL (C.own i)) 2=some (.int .i64 (C.own i).page) from rfl),if_neg (by decide),yd o0,if_pos h3,yd o3,if_neg (by decide)]
    exact go
   ·rw[if_neg h3,yd o0,if_neg h3]
    exact go
  ·rw[if_neg (by omega),if_neg (by decide)]
   exact hQ
 ·simp only[jn]
  rw[qT x3,yo,gj hc.tls]
  refine zO (fun (z:Int) S'=>∃ i:Nat,z=(i:Int)∧i≤16∧S'=S) (fun z=>16-z.toNat) ?_ ⟨0,rfl,by omega,rfl⟩
  rintro X z S' ⟨i,rfl,hi,rfl⟩ ih
  try dsimp only at ih ⊢
  by_cases hlt:i<16
  ·rw[if_pos (by omega)]
   refine⟨by omega,by omega,?_⟩
   have hp:lpart (cF 16 fun i=>lsL (C.ls i)) (i*6) 6=some (lsL (C.ls i)):=zbo hlt rfl
   rw[Int.toNat_natCast]
   rw[gj hp]
   refine⟨rfl,?_⟩
   rw[fK (show nthL (lsL (C.ls i)) 0=some (.bool (C.ls i).on) from rfl),hls i,if_neg (by decide),w64 (by omega) (by omega)]
   exact ih _ S' ⟨i+1,rfl,by omega,rfl⟩ (by omega)
  ·rw[if_neg (by omega)]
   exact hJ
end
end Go.Proofs.YtabdpmnhjlmnlaaGreatDoor
end
section
namespace Go.Proofs.YtabdpmnhjlmnlaaGreatDoor
open Go Go.Pt Go.Cr Go.Hp
section
variable {S S' S0:Mem} {ρ ρ' ρ0:Rho} {R:Nat→Prop} {h:Nat} {A:Ad} {C:Cst} {W:Wd} {φ:Nat→Nat→Nat}
theorem zaQ {P:Program} {f:Nat} {x:Value} {args:List Value} {K K':Value→Mem→Prop} [hc:CallT P f] (h:Tr P f S (x :: args) K) (hk:∀ v S',K v S'→K' v S'):cv P S (.func (.func f) #[x] #[]) args K':=
 ⟨f,[x],[],rfl,hc,Tr.mono (by simpa using h) hk⟩
def look (i:Nat) (S:Mem) (x:List Value) (K:Int→Mem→Prop):Prop:=match i with
 | 0=>yK S x K
 | 1=>xK S x K
 | 2=>yH S x K
 | 3=>yX S x K
 | 4=>yI S x K
 | 5=>yJ S x K
 | _=>xJ S x K
theorem zew {i:Nat} (hi:i<7) {x:List Value} {K:Int→Mem→Prop} (hl:look i S x K):cv Tryz.prog S (.func (.func (99+i)) #[valL x] #[]) [] fun rv S'=>∃ t:Int,rv=.int .i64 t∧K t S':=by
 match i,hi with
 | 0,_=>exact zaQ (f:=99) hl fun _ _ h=>h
 | 1,_=>exact zaQ (f:=100) hl fun _ _ h=>h
 | 2,_=>exact zaQ (f:=101) hl fun _ _ h=>h
 | 3,_=>exact zaQ (f:=102) hl fun _ _ h=>h
 | 4,_=>exact zaQ (f:=103) hl fun _ _ h=>h
 | 5,_=>exact zaQ (f:=104) hl fun _ _ h=>h
 | 6,_=>exact zaQ (f:=105) hl fun _ _ h=>h
theorem gf (hc:CrabA S ρ h A C) {p:Nat} {gs:Sl} {n:Nat} {e:Int} (hn:n≤7)
  (hp:∀ i,i<n→∀ S1,Keeps S S1 []→∀ K:Int→Mem→Prop,(∀ S2,Keeps S1 S2 []→K 0 S2)→look i S1 (pxL A p gs) K)
  (hf:n<7→∀ S1,Keeps S S1 []→∀ K:Int→Mem→Prop,(∀ S2,Keeps S1 S2 []→K e S2)→look n S1 (pxL A p gs) K) (he:n<7→e≠0)
  {Q:Int→Mem→Prop} (hQ:∀ S',Keeps S S' []→Q (if n=7 then 0 else e) S'):qc S (some (A.m,0)) (some (p,0)) gs (some (A.t,0)) Q:=by
 apply xD
 unfold ye
 obtain⟨rs,ho,hrn,_⟩:=hc.ownL
 refine qC (fun J=>J S) ?_ fun J hJ=>?_
 ·simp only[jn]
  intro b hb
  have hk0:Keeps S (S.set b (bw 202 ([.func (.func 99) #[valL (pxL A p gs)] #[],.func (.func 100) #[valL (pxL A p gs)] #[],.func (.func 101) #[valL (pxL A p gs)] #[],.func (.func 102) #[valL (pxL A p gs)] #[],.func (.func 103) #[valL (pxL A p gs)] #[],.func (.func 104) #[valL (pxL A p gs)] #[],.func (.func 105) #[valL (pxL A p gs)] #[]]))) []:=Keeps.refl.new hb
  refine zO (fun (z:Int) S'=>∃ i:Nat,z=(i:Int)∧i≤n∧Keeps (S.set b (bw 202 ([.func (.func 99) #[valL (pxL A p gs)] #[],.func (.func 100) #[valL (pxL A p gs)] #[],.func (.func 101) #[valL (pxL A p gs)] #[],.func (.func 102) #[valL (pxL A p gs)] #[],.func (.func 103) #[valL (pxL A p gs)] #[],.func (.func 104) #[valL (pxL A p gs)] #[],.func (.func 105) #[valL (pxL A p gs)] #[]]))) S' []) (fun z=>7-z.toNat) ?_ ⟨0,rfl,by omega,Keeps.refl⟩
  rintro X z S1 ⟨i,rfl,hi,hk⟩ ih
  try dsimp only at ih ⊢
  have hk1:=hk0.trans hk
  by_cases hlt:i<7
  ·rw[if_pos (by omega)]
   refine⟨by omega,by omega,?_⟩
   have hcell:S1.cell b (0+(i:Int).toNat*1)=some (.func (.func (99+i)) #[valL (pxL A p gs)] #[]):=by
    have:=hk b (by rw[zG];simp) (by simp)
    unfold Mem.cell
    rw[this,zG,Int.toNat_natCast]
    match i,hlt with
    | 0,_=>rfl
    | 1,_=>rfl
    | 2,_=>rfl
    | 3,_=>rfl
    | 4,_=>rfl
    | 5,_=>rfl
    | 6,_=>rfl
   rw[zfR hcell]
   refine zew hlt ?_
   by_cases hin:i<n
   ·refine hp i hin S1 hk1 _ fun S2 hk2=>?_
    rw[if_neg (by decide),w64 (by omega) (by omega)]
    exact ih _ S2 ⟨i+1,rfl,by omega,hk.trans hk2⟩ (by omega)
   ·have e1:i=n:=by omega
    subst e1
    refine hf hlt S1 hk1 _ fun S2 hk2=>?_
    rw[if_pos (he hlt)]
    have:=hQ S2 (hk1.trans hk2)
    rw[if_neg (by omega)] at this
    exact this
  ·rw[if_neg (by omega)]
   have:=hQ S1 hk1
   rw[if_pos (by omega)] at this
   exact this
 ·rw[if_neg (by simp),if_neg (by simp),if_neg (by simp),yo,qT hc.t74,if_neg (by simp),qT hc.t74,yo,wb ho]
  refine framesD hc.st ?_
  refine⟨ho,hc.t74,hc.t74,?_⟩
  rw[hrn,if_neg (by simp)]
  exact hJ
structure Nl (C:Cst) (W:Wd) (φ:Nat→Nat→Nat):Prop where
 rel:Rel C W φ
 ls:∀ i,(W.ls i).on=false
theorem Nl.cls (n:Nl C W φ):∀ i,(C.ls i).on=false:=fun i=>by rw[n.rel.ls];exact n.ls i
theorem Nl.frames (n:Nl C W φ):∀ f,f<C.N→C.used f=decide ((C.own f).kind≠0)∧((C.own f).kind=0→C.own f=ow0):=fun f hf=>⟨n.rel.used f hf,n.rel.own0 f hf⟩
theorem Nl.there (n:Nl C W φ):∀ f,f<C.N→(C.own f).kind=3→thereV C.vm (C.own f).vm:=fun f hf hk=>by
 obtain⟨m,p,l,_,_,ho,h6,_,hon⟩:=n.rel.guest hf hk
 rw[ho,n.rel.vm]
 exact⟨by simp,by simp;omega,by simpa using hon⟩
theorem Nl.shares (n:Nl C W φ):∀ f,f<C.N→(C.own f).kind=3→(C.own f).sh=0:=fun f hf hk=>by
 obtain⟨m,p,l,_,_,ho,h6,_,hon⟩:=n.rel.guest hf hk
 rw[ho,lent0 n.ls];rfl
theorem Nl.where0 (n:Nl C W φ) (m p:Nat):W.where_ m p=if (W.own m p).isSome then some (m,p,true) else none:=by
 unfold Wd.where_
 have:leaseAt W.ls m p=none:=by
  unfold leaseAt
  rw[List.find?_eq_none]
  intro i _
  rw[n.ls i];simp
 rw[this];rfl
theorem Nl.good (n:Nl C W φ):∀ f,f<C.N→(C.own f).kind=3→C.walk (C.own f).vm.toNat (C.own f).page=some (f,true):=fun f hf hk=>by
 obtain⟨m,p,l,hl,hp,ho,h6,h32,hon⟩:=n.rel.guest hf hk
 rw[ho]
 show C.walk m (p:Int)=_
 rw[n.rel.walk hon h32,n.where0,hl,if_pos (show (some l).isSome=true from rfl),←hp];rfl
theorem Nl.found (n:Nl C W φ):∀ i,i<6→(C.vm i).on=true→∀ q,q<32→∀ g w,C.walk i (q:Nat)=some (g,w)→g<C.N∧∃ s,C.own g=⟨3,i,(q:Nat),s⟩:=fun i _ hon q hq g w hw=>by
 rw[n.rel.vm] at hon
 rw[n.rel.walk hon hq,n.where0] at hw
 cases ho:W.own i q with
 | none=>rw[ho] at hw;cases hw
 | some l=>
  rw[ho,if_pos (show (some l).isSome=true from rfl)] at hw
  simp only[Option.map_some,Option.some.injEq,Prod.mk.injEq] at hw
  have h1:=n.rel.pg i q l ho
  rw[hw.1] at h1
  exact⟨h1.1,_,h1.2.1⟩
theorem Nl.rlen (n:Nl C W φ) (hN:C.N≤512):C.region.length≤512:=by
 have:=n.rel.cHyp (n:=0)
 have:=jA (fun f=>decide ((C.own f).kind=1) && (decide ((1:Int)<2) || decide ((C.own f).vm=0))) C.N
 omega
theorem zbv (hc:CrabA S ρ h A C) (n:Nl C W φ) {Q:Int→Mem→Prop} (hQ:∀ S',Keeps S S' []→Q 0 S'):qc S (some (A.m,0)) (some (A.p,0)) A.gs (some (A.t,0)) Q:=by
 refine gf hc (n:=7) (e:=0) (Nat.le_refl _) (fun i hi S1 hk K hK=>?_) (fun h=>absurd h (by decide)) (fun h=>absurd h (by decide)) fun S' hk=>hQ S' hk
 have hc1:=hc.keeps hk
 have hN:=hc.st.lim
 match i,hi with
 | 0,_=>exact wX hc1 hc1.pl (fun _=>hK _ Keeps.refl) fun h=>absurd n.frames h
 | 1,_=>exact fZ hc1 hc1.gs (fun f hf=>(n.rel.hyp.2 f).1 hf) (n.rlen hN) (by rw[if_pos n.rel.cHyp];exact hK _ Keeps.refl)
 | 2,_=>exact fW hc1 n.rel.tb (hK _ Keeps.refl)
 | 3,_=>exact zaD hc1 n.there n.cls (fun⟨f,h1,h2,h3⟩=>absurd (n.good f h1 h2) h3) (fun _=>n.found) fun _ S2 hk2=>hK S2 hk2
 | 4,_=>exact fX hc1 n.rel (hK _ Keeps.refl)
 | 5,_=>exact fY hc1 n.cls n.shares (hK _ Keeps.refl)
 | 6,_=>exact zcB hc1 n.rel (hK _ Keeps.refl)
end
end Go.Proofs.YtabdpmnhjlmnlaaGreatDoor
end
section
namespace Go.Proofs.YtabdpmnhjlmnlaaGreatDoor
open Go Go.Pt Go.Cr Go.Hp
section
variable {S S' S0 S1:Mem} {ρ ρ' ρ0:Rho} {R:Nat→Prop} {h:Nat} {A:Ad} {C:Cst} {W:Wd} {φ:Nat→Nat→Nat}
structure Bys (S S1:Mem) (p:Sl) (xs:List Int):Prop where
 kp:Keeps S S1 []
 row:Row S1 1 p (bL xs)
 byt:Byt xs
 new:∀ b o,p.p=some (b,o)→S b=none
theorem u8_wrap (x:Int):0≤IntKind.u8.wrap x∧IntKind.u8.wrap x≤255:=by
 have:IntKind.u8.wrap x=x%256:=by simp[IntKind.wrap,IntKind.bits,IntKind.signed]
 rw[this];omega
theorem jy {p:Sl} {xs:List Int} (hb:Bys S S1 p xs) (hl:xs.length≤1000) {code a b c n:Int} (h0:0≤code) (h1:code<23) {Q:Sl→Mem→Prop} (hQ:∀ p' xs' S2,Bys S S2 p' xs'→xs'.length=xs.length+4→Q p' S2):qd S1 p code a b c n Q:=by
 apply wU
 unfold yb
 have key:∀ t S2,Keeps S1 S2 []→ap S2 5 1 1 [.int .u8 0] p 4 ([.int .u8 (IntKind.u8.wrap t),.int .u8 (IntKind.u8.wrap (ishr .u32 t 8)),.int .u8 (IntKind.u8.wrap (ishr .u32 t 16)),.int .u8 (IntKind.u8.wrap (ishr .u32 t 24))]) fun t_1 Sx_1=>Q t_1 Sx_1:=by
  intro t S2 hk
  have hn:p.n=xs.length:=by have:=hb.row.len;simp[bL] at this;omega
  have hk2:=hb.kp.trans hk
  refine kJ (rowK hb.row hk) rfl (by decide) rfl (by omega) fun p' S3 c' kb e1 e2 e3 e4 e5=>?_
  have hc:S c'=none:=by
   rcases e3 with e3 | e3
   ·exact hb.new c' 0 e3
   ·cases hs:S c' with
    | none=>rfl
    | some x=>rw[hk2 c' (by rw[hs];simp) (by simp),hs] at e3;cases e3
  refine hQ p' (xs++[IntKind.u8.wrap t,IntKind.u8.wrap (ishr .u32 t 8),IntKind.u8.wrap (ishr .u32 t 16),IntKind.u8.wrap (ishr .u32 t 24)]) S3 ⟨?_,?_,?_,fun b o e=>?_⟩ (by simp)
  ·rw[e4];exact hk2.fresh hc
  ·unfold bL at e5 ⊢;rw[List.map_append];exact e5
  ·intro x hx
   rcases List.mem_append.1 hx with hx | hx
   ·exact hb.byt x hx
   ·simp only[List.mem_cons,List.not_mem_nil,or_false] at hx
    rcases hx with rfl | rfl | rfl | rfl <;> exact u8_wrap _
  ·rw[e2] at e;cases e;exact hc
 apply wO
 unfold qS
 refine gu h0 h1 fun S2 hk=>?_
 split
 ·exact key _ S2 hk
 ·exact key _ S2 hk
theorem zcU {Q:Sl→Mem→Prop} (hQ:∀ p xs S2,Bys S S2 p xs→xs.length≤100→Q p S2):qZ S ⟨none,0,0⟩ Q:=by
 apply wA
 unfold qJ
 have b0:Bys S S ⟨none,0,0⟩ []:=⟨Keeps.refl,Row.nil,fun x hx=>(by cases hx),fun b o e=>(by cases e)⟩
 refine jy b0 (by decide) (by decide) (by decide) fun p1 x1 S1 b1 l1=>?_
 refine jy b1 (by simp at l1;omega) (by decide) (by decide) fun p2 x2 S2 b2 l2=>?_
 refine jy b2 (by simp at l1;omega) (by decide) (by decide) fun p3 x3 S3 b3 l3=>?_
 simp at l1
 refine qC (fun J=>J p3 S3) ?_ fun J hJ=>?_
 ·exact jy b3 (by omega) (by decide) (by decide) fun p4 x4 S4 b4 l4=>hQ p4 x4 S4 b4 (by omega)
 ·refine zO (fun (z:Sl×Int) S'=>z=(p3,0)∧S'=S3) (fun _=>0) ?_ ⟨rfl,rfl⟩
  rintro X z S' ⟨rfl,rfl⟩ _
  dsimp only
  refine qC (fun _=>True) trivial fun J2 _=>?_
  rw[if_neg (by decide)]
  exact hJ
theorem zdL (l:Lv S0 ρ0 h S W) {p:Sl} {xs:List Int} (hb:Bys S S1 p xs) (hl:xs.length≤1000000) {seats quota pages:Int} {Q:Int→Int→Mem→Prop}
  (hQ:∀ S',Lv S0 ρ0 h S' (W.create seats quota pages xs).2.2→Q (W.create seats quota pages xs).1 (W.create seats quota pages xs).2.1 S'):yt S1 (some (h,0)) seats quota pages p Q:=by
 obtain⟨ρ,A,C,φ,m,hc,hr⟩:=l
 have hc1:=hc.keeps hb.kp
 have hn:xs.length=p.n:=by have:=hb.row.len;simp[bL] at this;omega
 refine zaR hc1 hr (xs:=xs) ⟨hn,hb.row.cap,hb.byt,?_⟩ hl fun S' hA=>hQ S' (hA.lv (m.then hb.kp))
 rcases hb.row.lie with ⟨h1,h2⟩ | ⟨b,k,h1,h2,h3,h4,h5⟩
 ·left
  have:=hb.row.cap
  exact List.length_eq_zero_iff.1 (by omega)
 ·right
  refine⟨b,0,h1,?_,?_,by rw[h2];simp⟩
  ·have:=hb.row.part h1
   rw[hn];simpa using this
  ·cases e:ρ b with
   | none=>rfl
   | some r=>exact absurd (hb.new b 0 h1) (hc.rg b r e)
theorem zdc {seats quota pages:Int} {xs:List Int}:(W.create seats quota pages xs).2.2.ls=W.ls:=by
 unfold Wd.create
 repeat' split
 all_goals rfl
theorem zeN (l:Lv S0 ρ0 h S W) (hls:∀ i,(W.ls i).on=false) {Q:Int→Mem→Prop} (hQ:∀ S',Lv S0 ρ0 h S' W→Q 0 S'):qx S (some (h,0)) Q:=by
 have l0:=l
 obtain⟨ρ,A,C,φ,m,hc,hr⟩:=l
 apply yE
 unfold ql
 rw[yo,qT hc.c0,qT hc.c1,wb hc.c4,qT hc.c3]
 exact zbv hc ⟨hr,hls⟩ fun S' hk=>hQ S' (l0.on hk)
theorem zbZ (hgl:Gl S) {form frames region:Int} (hb:¬badNew form frames region) {Q:Pt→Mem→Prop}
  (hQ:∀ S' ρ' h A l u,Mv S rho0 S' ρ' Rc→CrabA S' ρ' h A (cstN form frames.toNat l u)→takeN frames.toNat l.length (fun _=>false)=some (l,u)→(l.length:Int)=region→Q (some (h,0)) S') :
  qz S form frames region ⟨none,0,0⟩ ⟨none,0,0⟩ Q:=by
 apply yW
 unfold qr
 refine zbl rg0 rfl hgl (fun h=>absurd h hb) fun _ S' ρ' h A l u m hc ht hl=>?_
 refine qC (fun J=>J S') ?_ fun J hJ=>by rw[if_neg (fun e=>e rfl)];exact hJ
 refine qC (fun J=>J S') (hQ S' ρ' h A l u m hc ht hl) fun J hJ=>?_
 refine zO (fun (z:Int) S2=>z=0∧S2=S') (fun _=>0) ?_ ⟨rfl,rfl⟩
 rintro X z S2 ⟨rfl,hS⟩ _
 subst hS
 refine qC (fun _=>True) trivial fun J2 _=>?_
 rw[if_neg (by decide)]
 exact hJ
theorem awake21 (hgl:Gl S) {Q:Bool→Mem→Prop} (hQ:∀ S',Keeps S S' []→Q true S'):ya S Q:=by
 apply wB
 unfold qK
 intro b hb
 have hk0:Keeps S (S.set b (bw 5 [.int .u8 0,.int .u8 1])) []:=Keeps.refl.new hb
 generalize hSa:S.set b (bw 5 [.int .u8 0,.int .u8 1])=Sa at hk0
 have hgl':Gl Sa:=by
  obtain⟨t,k,hl⟩:=hgl
  refine⟨t,k,?_⟩
  rw[hk0 0 (by rw[hl];simp) (by simp)];exact hl
 have hcell:∀ S1,Keeps Sa S1 []→∀ i:Nat,i<2→S1.cell b (0+(i:Int).toNat*1)=some (.int .u8 i):=fun S1 hk i hi=>by
  have hs:Sa b=some (bw 5 [.int .u8 0,.int .u8 1]):=by rw[←hSa];exact zG
  unfold Mem.cell
  rw[hk b (by rw[hs];simp) (by simp),hs]
  match i,hi with
  | 0,_=>rfl
  | 1,_=>rfl
 apply yW
 unfold qr
 refine zfI hgl' (fun h=>absurd h (by decide)) fun _ S1 h l1=>?_
 refine qC (fun J=>J S1) ?_ fun J hJ=>by rw[if_neg (fun e=>e rfl)];exact hJ
 refine qC (fun J=>∀ S2 W,Lv Sa rho0 h S2 W→(∀ i,(W.ls i).on=false)→J S2) ?_ fun J0 hJ0=>?_
 ·intro S2 W l2 hls
  refine qC (fun J=>J S2) ?_ fun J hJ=>by rw[if_neg (by simp)];exact hJ
  refine zeN l2 hls fun S3 l3=>?_
  rw[if_pos rfl]
  apply xD
  unfold ye
  refine qC (fun _=>True) trivial fun J2 _=>?_
  rw[if_pos rfl]
  exact hQ S3 (hk0.trans l3.keeps)
 ·refine zO (fun (z:Int) S2=>∃ (i:Nat) (W:Wd),z=(i:Int)∧i≤2∧Lv Sa rho0 h S2 W∧∀ i,(W.ls i).on=false) (fun z=>2-z.toNat) ?_ ⟨0,_,rfl,by decide,l1,fun _=>rfl⟩
  rintro X z S2 ⟨i,W,rfl,hi,l2,hls⟩ ih
  try dsimp only at ih ⊢
  refine qC (fun J=>i<2→J S2) ?_ fun J hJ=>?_
  ·intro hlt
   refine qC (fun J=>∀ S3 W',Lv Sa rho0 h S3 W'→(∀ i,(W'.ls i).on=false)→J S3) (fun S3 W' l3 hls3=>?_) fun J2 hJ2=>?_
   ·rw[w64 (by omega) (by omega)]
    exact ih _ S3 ⟨i+1,W',rfl,by omega,l3,hls3⟩ (by omega)
   ·have c2:=hcell S2 l2.keeps i hlt
    rw[gr]
    refine⟨by omega,by omega,?_⟩
    rw[yd c2]
    refine⟨by omega,by omega,?_⟩
    rw[yd c2]
    have hz:Int.tmod (IntKind.u8.wrap (Int.tdiv (i:Int) 3)) 8=0:=by
     match i,hlt with
     | 0,_=>decide
     | 1,_=>decide
    refine qC (fun J=>J true S2) ?_ fun J3 hJ3=>by rw[if_pos hz];exact hJ3
    rw[if_pos rfl]
    refine⟨by omega,by omega,?_⟩
    rw[yd c2]
    refine zcU fun p xs S3 hb3 hl3=>?_
    have l3:=l2.on hb3.kp
    refine⟨hcell S3 l3.keeps i hlt,?_⟩
    refine zdL l2 hb3 (by omega) fun S4 l4=>?_
    refine⟨hcell S4 l4.keeps i hlt,?_⟩
    exact hJ2 S4 _ l4 fun j=>by rw[zdc];exact hls j
  ·by_cases hlt:i<2
   ·rw[if_pos (by show (i:Int)<((2:Nat):Int);omega)];exact hJ hlt
   ·rw[if_neg (by show ¬(i:Int)<((2:Nat):Int);omega)]
    exact hJ0 S2 W l2 hls
end
end Go.Proofs.YtabdpmnhjlmnlaaGreatDoor
end
