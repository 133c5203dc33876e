/- Texts of this work,joined by program (pack.py): Ii,Ij,PsO,Ik,Il,Im,Rf,PsU,PsD,Cu,Cv,Cw,Cx,Cy,Rg. -/
import Derived.Test.YtabdpmnhjlmnlaaGreatDoorQCN
import Derived.Test.YtabdpmnhjlmnlaaGreatDoorQCC
import Derived.Test.YtabdpmnhjlmnlaaGreatDoorQCI
import Derived.Test.YtabdpmnhjlmnlaaGreatDoorQCJ
import Derived.Test.YtabdpmnhjlmnlaaGreatDoorQCL
set_option linter.unusedVariables false
section
namespace Go.Cr
open Go Go.Pt
theorem fS:∀ N:Nat,cF N (fun _=>noughts)=List.replicate (256*N) (0:Int)
 | 0=>rfl
 | N+1=>by
  simp only[cF]
  rw[fS N,Nat.mul_add,Nat.mul_one,←List.replicate_append_replicate];rfl
def kn0 (form:Int):Kn:=⟨form,0,fun _=>bv0,fun _=>0,fun _=>0,fun _=>[],fun _=>ls0,fun _=>0⟩
def cst0 (form:Int) (N:Nat):Cst:={ toKn:=kn0 form,N:=N,dat:=fun _=>noughts,used:=fun _=>false,left:=-1,cache:=[],own:=fun _=>ow0,alm:=fun _ _=>none,region:=[],ev:=fun _=>[] }
end Go.Cr
namespace Go.Proofs.YtabdpmnhjlmnlaaGreatDoor
open Go Go.Pt Go.Cr Go.Hp
section
variable {S S':Mem} {ρ ρ':Rho} {R:Nat→Prop}
theorem clamp {N:Nat} (h:N≤512):(if 512<(if (N:Int)<0 then 0 else (N:Int)) then 512 else (if (N:Int)<0 then 0 else (N:Int)))=(N:Int):=by
 rw[if_neg (by omega:¬(N:Int)<0),if_neg (by omega)]
theorem zfr (hg:∀ b r,ρ b=some r→S b≠none) {N:Nat} (h1:1≤N) (hN:N≤512) {Q:Pt→Mem→Prop} (hQ:∀ m S' ρ',Mv S ρ S' ρ' (fun _=>False)→StoreD S' ρ' m N (fun _=>noughts)→Q (some (m,0)) S'):gN S N Q:=by
 apply zhf
 unfold zaM
 rw[clamp hN,w64 (by omega) (by omega)]
 refine⟨by omega,Int.le_refl _,by omega,by omega,?_⟩
 have e:(256*(N:Int)).toNat=256*N:=by omega
 rw[e,zfh,←fS]
 intro B hB m hm
 have m1:Mv S ρ (S.set B (bw 5 (bL (cF N fun _=>noughts)))) (ρ.upd B 2) (fun _=>False):=(Mv.refl hg).new hB _ 2
 have m2:=m1.new hm (bw 180 [.slice (some ⟨B,0,none⟩) (256*N) (256*N)]) 1
 have hne:m≠B:=fun e=>by subst e;simp at hm
 refine hQ m _ _ m2 ⟨⟨B,⟨zO,by rw[qm hne.symm];exact zO,hne,by rw[fS,List.length_replicate],fun x hx=>?_,hN⟩,by rw[yn hne.symm];exact qU⟩,qU,fun _ _=>qI,fun _ _ x hx=>xL hx⟩
 rw[fS] at hx
 rw[List.eq_of_mem_replicate hx];decide
theorem zhv (hg:∀ b r,ρ b=some r→S b≠none) {N:Nat} (h1:1≤N) (hN:N≤512) {Q:Pt→Mem→Prop} (hQ:∀ m S' ρ',Mv S ρ S' ρ' (fun _=>False)→OwnP S' ρ' m N (fun _=>ow0)→Q (some (m,0)) S'):zdQ S N Q:=by
 apply zhk
 unfold zaR
 rw[clamp hN]
 refine⟨by omega,Int.le_refl _,by omega,by omega,?_⟩
 rw[Int.toNat_natCast]
 have hz:zrep N [Value.int .u8 0,.int .i64 0,.int .i64 0,.int .i64 0]=cF N fun _=>owL ow0:=by
  have:∀ n:Nat,zrep n [Value.int .u8 0,.int .i64 0,.int .i64 0,.int .i64 0]=cF n fun _=>owL ow0:=by
   intro n
   induction n with
   | zero=>rfl
   | succ n ih=>
    have hs:∀ (z:List Value) (n:Nat),zrep (n+1) z=zrep n z++z:=by
     intro z n
     induction n with
     | zero=>simp[zrep]
     | succ n ih=>show z++zrep (n+1) z=(z++zrep n z)++z;rw[ih,List.append_assoc]
    rw[hs,ih];rfl
  exact this N
 rw[hz]
 intro B hB m hm
 have hl:(cF N fun _=>owL ow0).length=N*4:=vV (own:=fun _=>ow0)
 have m1:Mv S ρ (S.set B (bw 91 (cF N fun _=>owL ow0))) (ρ.upd B 9) (fun _=>False):=(Mv.refl hg).new hB _ 9
 have m2:=m1.new hm (bw 199 [.slice (some ⟨B,0,none⟩) N N]) 8
 have hne:m≠B:=fun e=>by subst e;simp at hm
 refine hQ m _ _ m2 ⟨⟨some (B,0),N,N⟩,⟨⟨_,zO,rfl,rfl⟩,qU⟩,⟨⟨hl,Nat.le_refl _,.inr ⟨B,_,rfl,by rw[qm hne.symm];exact zO,rfl,hl,?_⟩⟩,fun b o e=>by cases e;rw[yn hne.symm];exact qU⟩⟩
 show (cF N fun _=>owL ow0).take (N*4)=_
 exact List.take_of_length_le (by rw[hl];exact Nat.le_refl _)
def iL (n:Nat):List Int:=(List.range n).map fun (i:Nat)=>(i:Int)
theorem znu (n:Nat):Hq.fl (iL (n+1))=Hq.fl (iL n)++[.int .i64 (n:Int)]:=by
 unfold iL Hq.fl
 rw[List.range_succ,List.map_append,List.flatMap_append];rfl
theorem znv (N:Nat):iL N=freeL N fun _=>false:=by
 unfold iL freeL
 have:(List.range N).filter (fun i=>! false)=List.range N:=by simp
 rw[this]
theorem zmP (n:Nat):uL (n+1) (fun _=>false)=uL n (fun _=>false)++[.bool false]:=rfl
theorem zgB (hg:∀ b r,ρ b=some r→S b≠none) {N:Nat} (h1:1≤N) (hN:N≤512) {Q:Pt→Mem→Prop} (hQ:∀ p S' ρ',Mv S ρ S' ρ' R345→PoolP S' ρ' p N (fun _=>false) (-1)→Q (some (p,0)) S'):zbz S N Q:=by
 apply ziK
 unfold zcy
 intro p hp
 have m0:Mv S ρ (S.set p (bw 178 [.slice none 0 0,.slice none 0 0,.int .i64 (-1)])) (ρ.upd p 3) R345:=(Mv.refl hg).new hp _ 3
 simp only[jn]
 refine zX (fun (z:Int) S'=>∃ (i:Nat) (ρ':Rho) (fs us:Sl),z=(i:Int)∧i≤N∧Mv S ρ S' ρ' R345∧Pc S' ρ' 3 p [eL fs,eL us,.int .i64 (-1)]∧S' p=some (bw 178 [eL fs,eL us,.int .i64 (-1)])∧Rw S' ρ' 4 1 fs (Hq.fl (iL i))∧Rw S' ρ' 5 1 us (uL i fun _=>false)) (fun z=>N-z.toNat) ?_
  ⟨0,_,⟨none,0,0⟩,⟨none,0,0⟩,rfl,by omega,m0,⟨⟨_,zO,rfl,rfl⟩,qU⟩,zO,Rw.nil,Rw.nil⟩
 rintro X z S1 ⟨i,ρ1,fs,us,rfl,hi,m1,hpc,hblk,hf,hu⟩ ih
 rw[clamp hN]
 have hfl:(Hq.fl (iL i)).length=i*1:=by rw[Hq.fl_length];simp[iL]
 have hfn:=hf.n (by decide) hfl
 have hun:=hu.n (by decide) zdo
 by_cases hlt:(i:Int)<(N:Int)
 ·rw[if_pos hlt,jW (hpc.cell 0 (by simp) rfl)]
  refine zjC (R:=R345) m1 (.inr (.inl rfl)) hf rfl (by decide) rfl (by omega) fun fs' S2 ρ2 m2 m2' hf2 _=>?_
  have hpc2:=hpc.keep m2' (by decide)
  have hblk2:S2 p=some (bw 178 [eL fs,eL us,.int .i64 (-1)]):=by rw[gR m2' (by rw[hblk];simp) hpc.rol (by decide)];exact hblk
  have hu2:=hu.keep m2' (by decide)
  refine zko hblk2 (by simp) ?_
  have e1:spl [eL fs,eL us,Value.int .i64 (-1)] 0 [eL fs']=[eL fs',eL us,.int .i64 (-1)]:=rfl
  rw[e1]
  have m3:Mv S ρ (S2.set p (bw 178 [eL fs',eL us,.int .i64 (-1)])) ρ2 R345:=m2.put hpc2.rol (.inl rfl) _
  have m3':Mv S2 ρ2 (S2.set p (bw 178 [eL fs',eL us,.int .i64 (-1)])) ρ2 (· = 3):=(Mv.refl (R:=(· = 3)) m2.rg).put hpc2.rol rfl _
  have hf3:=hf2.keep m3' (by decide)
  have hu3:=hu2.keep m3' (by decide)
  have hpc3:Pc (S2.set p (bw 178 [eL fs',eL us,.int .i64 (-1)])) ρ2 3 p [eL fs',eL us,.int .i64 (-1)]:=⟨⟨_,zO,rfl,rfl⟩,hpc2.rol⟩
  rw[jW (hpc3.cell 1 (by simp) rfl)]
  refine zjC (R:=R345) m3 (.inr (.inr rfl)) hu3 rfl (by decide) rfl (by omega) fun us' S4 ρ4 m4 m4' hu4 _=>?_
  have hblk4:S4 p=some (bw 178 [eL fs',eL us,.int .i64 (-1)]):=by rw[gR m4' (by rw[zO];simp) hpc2.rol (by decide)];exact zO
  refine zko hblk4 (by simp) ?_
  have e2:spl [eL fs',eL us,Value.int .i64 (-1)] 1 [eL us']=[eL fs',eL us',.int .i64 (-1)]:=rfl
  rw[e2]
  have hr4:=m4'.ext p 3 hpc2.rol
  have m5:Mv S ρ (S4.set p (bw 178 [eL fs',eL us',.int .i64 (-1)])) ρ4 R345:=m4.put hr4 (.inl rfl) _
  have m5':Mv S4 ρ4 (S4.set p (bw 178 [eL fs',eL us',.int .i64 (-1)])) ρ4 (· = 3):=(Mv.refl (R:=(· = 3)) m4.rg).put hr4 rfl _
  rw[w64 (by omega) (by omega)]
  refine ih _ _ ⟨i+1,ρ4,fs',us',rfl,by omega,m5,⟨⟨_,zO,rfl,rfl⟩,hr4⟩,zO,?_,?_⟩ (by omega)
  ·rw[znu];exact (hf3.keep m4' (by decide)).keep m5' (by decide)
  ·rw[zmP];exact hu4.keep m5' (by decide)
 ·rw[if_neg hlt]
  have:i=N:=by omega
  subst this
  have hil:(iL i).length=i:=by simp[iL]
  rcases Hq.row_open hf.row with ⟨_,h0⟩ | ⟨c,cap,t,j,e1,hle,hc,hj⟩
  ·rw[h0] at hil;simp at hil;omega
  have hrc:ρ1 c=some 4:=hf.rol c 0 (by rw[e1])
  have hne:p≠c:=fun e=>by rw[←e,hpc.rol] at hrc;cases hrc
  have hcell:S1.cell p 0=some (eL fs):=hpc.cell 0 (by simp) rfl
  have hw:=Hq.wi_of hc
  rw[←hw]
  refine Hq.init_spec (s:=fs) ⟨hcell,by rw[e1],by rw[e1],hne⟩ (by omega) fun l' hp' hh=>?_
  have hll:=hp'.length_eq
  have m2:Mv S ρ (Hq.wi S1 c t j l') ρ1 R345:=m1.put hrc (.inr (.inl rfl)) _
  have m2':Mv S1 ρ1 (Hq.wi S1 c t j l') ρ1 (· = 4):=(Mv.refl (R:=(· = 4)) m1.rg).put hrc rfl _
  refine hQ p _ ρ1 m2 ⟨⟨178,fs,us,l',?_,fun x hx=>?_,hu.keep m2' (by decide),by rw[←znv];exact hp'⟩,hpc.rol,hN⟩
  ·have efs:fs=⟨some (c,0),l'.length,cap⟩:=by rw[e1,hll]
   rw[efs]
   exact Hq.ck_mk (by unfold Hq.wi;rw[qm hne,hblk,efs]) rfl Hq.wi_c (by omega) (by rw[hll];exact hj) hne hh (by omega)
  ·have:x=c:=by rw[e1] at hx;simpa [Hq.own] using hx
   rw[this];exact hrc
theorem zmb {form:Int} {ob kb:Nat}:spl (spl (spl z77 0 [.int .i64 form]) 74 [eP (some (ob,0))]) 171 [.pointer (some ⟨kb,0,none⟩)]=knL (kn0 form) (fun _=>vx0) ob kb:=by kernel_rfl
theorem zmf {m p t:Nat}:([eP (some (m,0)),eP (some (p,0)),.slice none 0 0,eP (some (t,0)),.slice none 0 0,.slice none 0 0,.slice none 0 0,.slice none 0 0,.slice none 0 0,.slice none 0 0,.slice none 0 0]:List Value)=hdL ⟨m,p,t,0,0,⟨none,0,0⟩,⟨none,0,0⟩,fun _=>⟨none,0,0⟩,fun _=>vx0⟩:=rfl
end
end Go.Proofs.YtabdpmnhjlmnlaaGreatDoor
end
section
namespace Go.Cr
open Go Go.Pt
def ownL (l:List Nat):Nat→Ow:=fun f=>if f∈l then ⟨1,0,0,0⟩ else ow0
theorem zcc {l:List Nat} {f:Nat} (h:f∈l):ownL l f=⟨1,0,0,0⟩:=if_pos h
theorem fL {l:List Nat} {f:Nat} (h:f∉l):ownL l f=ow0:=if_neg h
theorem zkt {l:List Nat} {g:Nat}:keepC (ownL l) g (-1)=ownL (l++[g]):=by
 unfold keepC
 funext f
 by_cases hm:g∈l
 ·rw[zcc hm,if_neg (by decide)]
  by_cases hf1:f∈l
  ·rw[zcc hf1,zcc (by simp[hf1])]
  ·have:f≠g:=fun e=>hf1 (e ▸ hm)
   rw[fL hf1,fL (by simp only[List.mem_append,List.mem_singleton,not_or];exact⟨hf1,this⟩)]
 ·rw[fL hm,if_pos (show ow0.kind=0 from rfl),if_neg (by decide)]
  by_cases hf1:f=g
  ·subst hf1;rw[zq,zcc (by simp)]
  ·rw[zo hf1]
   by_cases hf2:f∈l
   ·rw[zcc hf2,zcc (by simp[hf2])]
   ·rw[fL hf2,fL (by simp only[List.mem_append,List.mem_singleton,not_or];exact⟨hf2,hf1⟩)]
def cstN (form:Int) (N:Nat) (l:List Nat) (u:Nat→Bool):Cst:={ toKn:=kn0 form,N:=N,dat:=fun _=>noughts,used:=u,left:=-1,cache:=[],own:=ownL l,alm:=fun _ _=>none,region:=l,ev:=fun _=>[] }
def cstA (form:Int) (N:Nat) (l:List Nat) (u:Nat→Bool) (o:Nat→Ow):Cst:={ toKn:=kn0 form,N:=N,dat:=fun _=>noughts,used:=u,left:=-1,cache:=[],own:=o,alm:=fun _ _=>none,region:=l,ev:=fun _=>[] }
theorem znU {free:Int}:WOk (W0 free):=by
 refine⟨fun n _=>⟨rfl,fun _=>rfl,fun _=>rfl⟩,fun n _=>rfl,fun n h=>(by cases h),fun n s h=>(by cases h),fun n=>⟨Nat.zero_le 64,fun x h=>by cases h⟩,fun n j h=>(by cases h),fun n=>⟨Int.le_refl 0,(by decide:(0:Int)≤32)⟩,fun n k h=>(by cases h),fun n p l h=>(by cases h),fun n=>?_,fun i h=>(by cases h),fun i _=>rfl,fun i h=>(by cases h),fun i j h=>(by cases h),fun n k w h=>(by cases h)⟩
 have:(W0 free).pages n=0:=xm fun _ _=>rfl
 rw[this];exact Int.le_refl _
theorem zlE {form:Int} (hf:form=1∨form=2) {N:Nat} (hN:N≤512) {l:List Nat} {u:Nat→Bool} (h:takeN N l.length (fun _=>false)=some (l,u)) {φ:Nat→Nat→Nat}:Rel (cstN form N l u) (W0 (N-l.length)) φ:=by
 obtain⟨_,h2,h3,h4,h5⟩:=xZ h
 have hk:∀ f,(cstN form N l u).own f=if f∈l then ⟨1,0,0,0⟩ else ow0:=fun _=>rfl
 have hc:count (fun f=>! (fun _=>false:Nat→Bool) f) N=N:=by
  unfold count
  have:(List.range N).filter (fun f=>! false)=List.range N:=by simp
  rw[this];simp
 refine⟨znU,rfl,rfl,rfl,hN,hf,⟨Int.le_refl 0,(by decide:(0:Int)≤4611686018427387904)⟩,fun n h=>(by cases h),fun n k=>rfl,?_,rfl,fun f _=>?_,fun f _ h=>?_,fun f _=>?_,fun f _=>⟨qI,fun x hx=>xL hx⟩,fun n _=>⟨rfl,rfl,rfl⟩,fun n h=>(by cases h),fun n f h=>(by cases h),fun f _ h=>?_,fun n j h=>(by cases h),fun n p h=>(by cases h),fun n p l h=>(by cases h),fun f _ h=>?_,⟨h2,fun f=>?_⟩,fun r h=>(by cases h),Nat.zero_le 8⟩
 ·show ((N:Int)-l.length)=count (fun f=>! u f) N
  rw[hc] at h5;omega
 ·show u f=_
  rw[h4 f,hk f]
  by_cases e:f∈l
  ·rw[if_pos e];simp[e]
  ·rw[if_neg e];simp[e,ow0]
 ·rw[hk f] at h ⊢
  split at h
  ·cases h
  ·rename_i e;rw[if_neg e]
 ·rw[hk f]
  by_cases e:f∈l
  ·rw[if_pos e];decide
  ·rw[if_neg e];decide
 ·rw[hk f] at h
  split at h <;> cases h
 ·rw[hk f] at h
  split at h <;> cases h
 ·show f∈l↔_
  rw[hk f]
  constructor
  ·intro e;exact⟨(h3 f e).1,by rw[if_pos e]⟩
  ·rintro⟨_,e⟩
   split at e
   ·assumption
   ·cases e
end Go.Cr
namespace Go.Proofs.YtabdpmnhjlmnlaaGreatDoor
open Go Go.Pt Go.Cr Go.Hp
section
variable {S S':Mem} {ρ ρ':Rho} {R:Nat→Prop}
theorem zmU {A:Ad} {s:Sl}:spl (hdL A) 4 [eL s]=hdL { A with gs:=s }:=rfl
theorem zjB (hg:∀ b r,ρ b=some r→S b≠none) (h0:ρ 0=none) (hgl:Gl S) {form:Int} {N:Nat} (h1:1≤N) (hN:N≤512) {Q:Nat→Mem→Prop}
  (hQ:∀ S' ρ' h A,Mv S ρ S' ρ' Rc→CrabA S' ρ' h A (cst0 form N)→Q h S') :
  gN S N fun t Sx_1=>zbz Sx_1 N fun t_1 Sx_2=>zbF Sx_2 form N fun t_2 Sx_3=>
   al Sx_3 86 ([eP t,eP t_1,.slice (none) 0 0,eP t_2,.slice (none) 0 0,.slice (none) 0 0,.slice (none) 0 0,.slice (none) 0 0,.slice (none) 0 0,.slice (none) 0 0,.slice (none) 0 0]) fun b Sx_4=>Q b Sx_4:=by
 refine zfr hg h1 hN fun m S1 ρ1 m1 hs1=>?_
 refine zgB m1.rg h1 hN fun p S2 ρ2 m2 hp2=>?_
 have hs2:=hs1.keep m2 (by decide) (by decide)
 apply zho
 unfold zaV
 refine zhv m2.rg h1 hN fun ob S3 ρ3 m3 ho3=>?_
 have hs3:=hs2.keep m3 (fun h=>h) (fun h=>h)
 have hp3:=hp2.keep m3 (fun h=>h) (fun h=>h) (fun h=>h)
 intro kb hkb t ht h hh
 rw[zmb] at hh ⊢
 rw[zmf]
 have M4:Mv S3 ρ3 (S3.set kb (bw 127 [.slice none 0 0])) (ρ3.upd kb 10) (fun _=>False):=(Mv.refl m3.rg).new hkb _ 10
 have M5:=M4.new ht (bw 77 (knL (kn0 form) (fun _=>vx0) ob kb)) 7
 have M6:=M5.new hh (bw 86 (hdL ⟨m,p,t,ob,kb,⟨none,0,0⟩,⟨none,0,0⟩,fun _=>⟨none,0,0⟩,fun _=>vx0⟩)) 0
 have n1:kb≠t:=fun e=>by subst e;simp at ht
 have n2:kb≠h:=fun e=>by subst e;simp[qm n1] at hh
 have n3:t≠h:=fun e=>by subst e;simp at hh
 have mA:Mv S ρ S3 ρ3 Rc:=((m1.mono (fun _ h=>h.elim)).trans (m2.mono fun r hr=>by unfold R345 at hr;show r<110;omega)).trans (m3.mono fun _ h=>h.elim)
 have mB:=mA.trans (M6.mono fun _ h=>h.elim)
 have bk:((S3.set kb (bw 127 [.slice none 0 0])).set t (bw 77 (knL (kn0 form) (fun _=>vx0) ob kb))).set h (bw 86 (hdL ⟨m,p,t,ob,kb,⟨none,0,0⟩,⟨none,0,0⟩,fun _=>⟨none,0,0⟩,fun _=>vx0⟩)) kb=some (bw 127 [.slice none 0 0]):=by
  rw[qm n2,qm n1,zO]
 have pc7:Pc (((S3.set kb (bw 127 [.slice none 0 0])).set t (bw 77 (knL (kn0 form) (fun _=>vx0) ob kb))).set h (bw 86 (hdL ⟨m,p,t,ob,kb,⟨none,0,0⟩,⟨none,0,0⟩,fun _=>⟨none,0,0⟩,fun _=>vx0⟩))) (((ρ3.upd kb 10).upd t 7).upd h 0) 7 t (knL (kn0 form) (fun _=>vx0) ob kb):=by
  generalize knL (kn0 form) (fun _=>vx0) ob kb=L
  exact⟨⟨bw 77 L,by rw[qm n3];exact zO,rfl,zk rfl⟩,by rw[yn n3];exact qU⟩
 refine hQ _ _ h ⟨m,p,t,ob,kb,⟨none,0,0⟩,⟨none,0,0⟩,fun _=>⟨none,0,0⟩,fun _=>vx0⟩ mB
  ⟨mB.rg,kB hgl mB h0,kA hgl mB h0,⟨⟨_,zO,rfl,rfl⟩,qU⟩,hs3.keep M6 (fun h=>h) (fun h=>h),hp3.keep M6 (fun h=>h) (fun h=>h) (fun h=>h),Rw.nil,pc7,ho3.keep M6 (fun h=>h) (fun h=>h),
   ⟨⟨127,⟨none,0,0⟩,[],⟨bk,rfl,Row.nil,fun c hc=>(by cases hc),?_,by decide⟩,fun x hx=>(by cases hx),⟨List.nodup_nil,fun a ha=>(by cases ha),fun n k t h=>(by cases h)⟩⟩,by rw[yn n2,yn n1];exact qU⟩,Rw.nil,fun i _=>Rw.nil,fun i _=>⟨Rw.nil,fun s hs=>(by cases hs),Rw.nil,Rw.nil,fun j _=>Rw.nil⟩⟩
 exact fun i _ h=>absurd h (Nat.not_lt_zero _)
theorem keepLoop {h:Nat} {A:Ad} {form:Int} {N:Nat} {l:List Nat} {u:Nat→Bool} (hl:∀ f∈l,f<N) (hl2:l.length≤1000) {Q:Mem→Prop} (hc:CrabA S ρ h A (cstA form N l u fun _=>ow0)) (hQ:∀ S',Mv S ρ S' ρ Rc→CrabA S' ρ h A (cstN form N l u)→Q S') :
  lp (fun Xx (t_7:Int) (Sx_8:Mem)=>
   if t_7<(A.gs.n:Int) then
   sl A.gs fun b_1 o n n_1=>
   0≤t_7∧t_7<((n:Nat):Int) ∧
   gI (Sx_8.cell b_1 (o+t_7.toNat*1)) .i64 fun t_8=>
   gP (Sx_8.cell h 3) fun t_9=>
   nn t_9 fun b_2 o_1=>
   gP (Sx_8.cell b_2 (o_1+74)) fun t_10=>
   yp Sx_8 t_10 t_8 (-1) fun t_11 Sx_9=>
   Xx (IntKind.i64.wrap (t_7+1)) Sx_9
   else
   Q Sx_8) 0 S:=by
 refine zX (fun (z:Int) S'=>∃ i:Nat,z=(i:Int)∧i≤l.length∧Mv S ρ S' ρ Rc∧CrabA S' ρ h A (cstA form N l u (ownL (l.take i)))) (fun z=>l.length-z.toNat) ?_
  ⟨0,rfl,by omega,Mv.refl hc.rg,by
   have e:ownL (l.take 0)=fun _=>ow0:=by funext f;exact fL (by simp)
   rw[e];exact hc⟩
 rintro X z S1 ⟨i,rfl,hi,m1,hc1⟩ ih
 have hn:A.gs.n=l.length:=hc1.gs.n (m:=l.length) (by decide) (by show (nL l).length=_;simp[nL])
 by_cases hlt:(i:Int)<(A.gs.n:Int)
 ·rw[if_pos hlt]
  have hil:i<l.length:=by omega
  obtain⟨c,e1,e2⟩:=hc1.gs.sl (by show 0<(nL l).length;simp[nL];omega)
  rw[e1,zah]
  have h3:S1.cell h 3=some (eP (some (A.t,0))):=hc1.c3
  have h74:S1.cell A.t (0+74)=some (eP (some (A.ob,0))):=by rw[hc1.tt.cell 74 (by rw[jm];decide) (by rfl)];exact zmx
  have hcell:S1.cell c (0+(i:Int).toNat*1)=some (.int .i64 (l.getD i 0:Nat)):=by
   rw[hc1.gs.cell e2 i (by show i<(nL l).length;simp[nL];omega) (by omega)]
   show nthL (nL l) i=_
   rw[qb]
   unfold nL
   rw[List.getElem?_map,List.getElem?_eq_getElem hil,List.getD_eq_getElem?_getD,List.getElem?_eq_getElem hil];rfl
  refine⟨by omega,by omega,?_⟩
  rw[zY hcell,qP h3,qk,qP h74]
  have hf:l.getD i 0<N:=hl _ (zfP hil)
  refine zeW hc1.ow m1.rg hf (by decide) fun e S2 m2 ho2=>?_
  have hc2:=hc1.setOwn m2 ho2
  rw[w64 (by omega) (by omega)]
  refine ih _ _ ⟨i+1,rfl,by omega,m1.trans (m2.mono fun r hr=>by show r<110;omega),?_⟩ (by omega)
  have e3:keepC (ownL (l.take i)) (l.getD i 0) (-1)=ownL (l.take (i+1)):=by
   rw[zkt,List.take_add_one,List.getD_eq_getElem?_getD,List.getElem?_eq_getElem hil];rfl
  rw[←e3]
  exact hc2
 ·rw[if_neg hlt]
  have:i=l.length:=by omega
  subst this
  rw[List.take_length] at hc1
  exact hQ _ m1 hc1
def badNew (form frames region:Int):Prop:=frames<1∨512<frames∨region<1∨frames<region∨(form≠1∧form≠2)
instance (form frames region:Int):Decidable (badNew form frames region):=inferInstanceAs (Decidable (_∨_))
theorem zlT (hg:∀ b r,ρ b=some r→S b≠none) (h0:ρ 0=none) (hgl:Gl S) {form frames region:Int} {Q:Pt→Int→Mem→Prop}
  (hE:badNew form frames region→Q none 1 S)
  (hY:¬badNew form frames region→∀ S' ρ' h A l u,Mv S ρ S' ρ' Rc→CrabA S' ρ' h A (cstN form frames.toNat l u)→takeN frames.toNat l.length (fun _=>false)=some (l,u)→(l.length:Int)=region→Q (some (h,0)) 0 S'):zbI S form frames region Q:=by
 apply ziN
 unfold zcB
 simp only[jn]
 by_cases hb:badNew form frames region
 ·have:=hE hb
  unfold badNew at hb
  by_cases h1:frames<1
  ·rw[if_pos h1];exact this
  rw[if_neg h1]
  by_cases h2:512<frames
  ·rw[if_pos h2];exact this
  rw[if_neg h2]
  by_cases h3:region<1
  ·rw[if_pos h3];exact this
  rw[if_neg h3]
  by_cases h4:frames<region
  ·rw[if_pos h4];exact this
  rw[if_neg h4,if_pos (by omega),if_pos (by omega)]
  exact this
 have hY:=hY hb
 unfold badNew at hb
 rw[if_neg (by omega),if_neg (by omega),if_neg (by omega),if_neg (by omega)]
 have hform:form=1∨form=2:=by omega
 obtain⟨N,rfl⟩:∃ N:Nat,frames=N:=⟨frames.toNat,by omega⟩
 obtain⟨r,rfl⟩:∃ r:Nat,region=r:=⟨region.toNat,by omega⟩
 have key:gN S N fun t Sx_1=>zbz Sx_1 N fun t_1 Sx_2=>zbF Sx_2 form N fun t_2 Sx_3=>
   al Sx_3 86 ([eP t,eP t_1,.slice (none) 0 0,eP t_2,.slice (none) 0 0,.slice (none) 0 0,.slice (none) 0 0,.slice (none) 0 0,.slice (none) 0 0,.slice (none) 0 0,.slice (none) 0 0]) fun b Sx_4=>
  gP (Sx_4.cell b 1) fun t_3=>
  xE Sx_4 t_3 r fun t_4 t_5 Sx_5=>
  pt Sx_5 b 4 1 ([eL t_4]) fun Sx_6=>
  gL (Sx_6.cell b 4) fun t_6=>
  lp (fun Xx (t_7:Int) (Sx_8:Mem)=>
   if t_7<(t_6.n:Int) then
   sl t_6 fun b_1 o n n_1=>
   0≤t_7∧t_7<((n:Nat):Int) ∧
   gI (Sx_8.cell b_1 (o+t_7.toNat*1)) .i64 fun t_8=>
   gP (Sx_8.cell b 3) fun t_9=>
   nn t_9 fun b_2 o_1=>
   gP (Sx_8.cell b_2 (o_1+74)) fun t_10=>
   yp Sx_8 t_10 t_8 (-1) fun t_11 Sx_9=>
   Xx (IntKind.i64.wrap (t_7+1)) Sx_9
   else
   Q (some (b,0)) 0 Sx_8) 0 Sx_6:=by
  refine zjB hg h0 hgl (by omega) (by omega) fun S1 ρ1 h A m1 hc1=>?_
  have c1:S1.cell h 1=some (eP (some (A.p,0))):=hc1.c1
  rw[qP c1]
  refine zgs (r:=12) hc1.pl m1.rg (show (-1:Int)≤-1∧(-1:Int)≤4294967296 by decide) (by omega) (by decide) (fun l u hle ht s S2 ρ2 m2 hp2 hs2=>?_) (fun hN=>?_)
  ·have hll:=(xZ ht).1
   refine (hc1.hd.keep m2 (by decide)).pt m2.rg 4 (by rfl) (by rw[fa];exact (by decide:5≤11)) (by rfl) fun S3 m3 hh3=>?_
   rw[zmU] at hh3
   have M:Mv S1 ρ1 S3 ρ2 (fun x=>x=0∨R345 x∨x=12):=(m2.mono fun r hr=>.inr hr).trans (m3.mono fun r hr=>.inl hr)
   have hc3:CrabA S3 ρ2 h { A with gs:=s } (cstA form N l u fun _=>ow0):=
    ⟨M.rg,kB hc1.gl M hc1.g0,kA hc1.gl M hc1.g0,hh3,hc1.st.keep M (by decide) (by decide),hp2.keep m3 (by decide) (by decide) (by decide),hc1.ca.keep M (by decide),hc1.tt.keep M (by decide),hc1.ow.keep M (by decide) (by decide),hc1.ck.keep M (by decide) (by decide),hs2.keep m3 (by decide),fun i hi=>(hc1.ev i hi).keep M (by unfold R345;omega),fun i hi=>(hc1.vs i hi).keep M hi fun r h1 h2=>by unfold R345;omega⟩
   have c4:S3.cell h 4=some (eL s):=hc3.c4
   rw[jW c4]
   refine keepLoop (A:={ A with gs:=s }) (fun f hf=>((xZ ht).2.2.1 f hf).1) (by omega) hc3 fun S4 m4 hc4=>?_
   have e:((N:Int)).toNat=N:=by omega
   refine hY S4 ρ2 h _ l u (m1.trans ((M.mono fun x hx=>?_).trans m4)) (by rw[e];exact hc4) (by rw[e,hll];exact ht) (by rw[hll])
   unfold R345 at hx;show x<110;omega
  ·exfalso
   rcases hN with h | h
   ·exact absurd h.1 (show ¬(0:Int)≤-1 by decide)
   ·have:=jB.1 h
    have hc:count (fun f=>! (cst0 form N).used f) N=N:=by
     show count (fun f=>! false) N=N
     unfold count
     have:(List.range N).filter (fun f=>! false)=List.range N:=by simp
     rw[this];simp
    rw[show (cst0 form N).N=N from rfl,hc] at this
    omega
 by_cases h5:form≠1
 ·rw[if_pos h5,if_neg (by omega)];exact key
 ·rw[if_neg h5];exact key
theorem znc {form frames region:Int} (hb:¬badNew form frames region) {l:List Nat} {u:Nat→Bool} (h:takeN frames.toNat l.length (fun _=>false)=some (l,u)) (hl:(l.length:Int)=region):Rel (cstN form frames.toNat l u) (W0 (frames-region)) fun _ _=>0:=by
 unfold badNew at hb
 have:=zlE (φ:=fun _ _=>0) (by omega:form=1∨form=2) (by omega:frames.toNat≤512) h
 have e:((frames.toNat:Nat):Int)-l.length=frames-region:=by omega
 rwa [e] at this
end
end Go.Proofs.YtabdpmnhjlmnlaaGreatDoor
namespace Go.Cr
end Go.Cr
end
section
namespace Go.Proofs.YtabdpmnhjlmnlaaGreatDoor
open Go Go.Pt
attribute [local irreducible] Code.wp Back bodyPost wpList FR WL WC WQ WA AW Tr Yc HC AllC
set_option maxRecDepth 20000
set_option maxHeartbeats 4000000
set_option linter.unusedVariables false
def yA (S:Mem) (Q:Bool→Mem→Prop):Prop:=
 zbI S 1 40 4 fun t t_1 Sx=>
 jn (fun (Sx_1:Mem)=>
 al Sx_1 5 ([.int .u8 65,.int .u8 0,.int .u8 64,.int .u8 4,.int .u8 0,.int .u8 0,.int .u8 0,.int .u8 80]) fun b Sx_2=>
 fz Sx_2 b fun Sx_3=>
 yI Sx_3 t 1 4 1 (⟨some (b,0),8,8⟩) fun t_2 t_3 Sx_4=>
 wo Sx_4 t t_2 0 fun t_4 Sx_5=>
 wo Sx_5 t t_2 0 fun t_5 Sx_6=>
 yH Sx_6 t t_2 fun t_6 Sx_7=>
 if t_3=0 then
 if (t_6.n:Int)=4 then
 sl t_6 fun b_1 o n n_1=>
 (0:Int)<(n:Nat) ∧
 gI (Sx_7.cell b_1 o) .u8 fun t_7=>
 if t_7=1 then
 (1:Int)<(n:Nat) ∧
 gI (Sx_7.cell b_1 (o+4)) .u8 fun t_8=>
 if t_8=1 then
 (2:Int)<(n:Nat) ∧
 gA (Sx_7.part b_1 (o+8) 4) fun t_9=>
 fits [.i .u8,.i .i64,.i .u64,.i .u64] t_9=true ∧
 if (eqL t_9 ([.int .u8 3,.int .i64 0,.int .u64 65,.int .u64 0]))=true then
 (3:Int)<(n:Nat) ∧
 gA (Sx_7.part b_1 (o+12) 4) fun t_10=>
 fits [.i .u8,.i .i64,.i .u64,.i .u64] t_10=true ∧
 Q (eqL t_10 ([.int .u8 2,.int .i64 0,.int .u64 0,.int .u64 0])) Sx_7
 else
 Q false Sx_7
 else
 Q false Sx_7
 else
 Q false Sx_7
 else
 Q false Sx_7
 else
 Q false Sx_7) fun Jx=>
 if t_1≠0 then
 Q false Sx
 else
 if t=none then
 Q false Sx
 else
 Jx Sx
theorem jP {S:Mem} {Q:Bool→Mem→Prop} (H:yA S Q):qL S Q:=by
 unfold yA at H
 exact Tr.intro Tryz.func27 E Tryz.ntmps27 E fun w0=>csr<|gv E E<|nxr<|gO E E H fun t t_1 Sx H1=>mv E E<|s_p E (zg E E)<|s_p E (zg E E)<|gv E E<|gv E E<|nx<|zn H1 (fun (J:Mem→Prop) (z:Unit) S=>J S) (fun z=>⟨67,[(1,eP t)]⟩) (fun z=>[]) (fun _ Sx_1 H2=>csr<|mv E E<|zgb E E (by decide) E fun b=>ku 0 E fun hb=>have H3:=H2 b hb;zph E E H3 fun Sx_3 H4=>gO E E H4 fun t_2 t_3 Sx_4 H5=>mv E E<|s_p E (zg E E)<|s_p E (zg E E)<|gv E E<|gv E E<|nxr<|mv E E<|mv E E<|qC E E H5 fun t_4 Sx_5 H6=>nxr<|mv E E<|mv E E<|qC E E H6 fun t_5 Sx_6 H7=>nxr<|mv E E<|mv E E<|qC E E H7 fun t_6 Sx_7 H8=>gv E E<|nx<|by exact csr<|mv E E<|iteK H8 (fun c H9=>ceT E E E (c)<|mv E E<|mv E E<|s_p E (yk E)<|iteK H9 (fun c_1 H10=>ceT E E E (c_1)<|pk E E E<|mv E E<|mv E E<|by obtain⟨b_1,o,n,n_1,rfl,H11⟩:=H10;exact an H11 fun c_3 H12=>s_p E (qS E E (by decide) c_3 E)<|s_p E (zv E E)<|gx H12 fun t_7 ht_7 H13=>s_v E (zz E) (zH ht_7)<|iteK H13 (fun c_4 H14=>ceT E E E (c_4)<|pk E E E<|mv E E<|mv E E<|an H14 fun c_6 H15=>s_p E (qS E E (by decide) c_6 E)<|s_p E (zv E E)<|gx H15 fun t_8 ht_8 H16=>s_v E (zz E) (zH ht_8)<|iteK H16 (fun c_7 H17=>ceT E E E (c_7)<|pk E E E<|mv E E<|mv E E<|an H17 fun c_9 H18=>s_p E (qS E E (by decide) c_9 E)<|gx H18 fun t_9 ht_9 H19=>by refine s_v E (zT E (zG ht_9)) (yi ht_9) ?_;exact s_p E (zF E E)<|by exact an H19 fun c_10 H20=>iteK H20 (fun c_12 H21=>s_p E (yB (zjI E E c_10 E) c_12)<|pk E E E<|mv E E<|mv E E<|an H21 fun c_14 H22=>s_p E (qS E E (by decide) c_14 E)<|gx H22 fun t_10 ht_10 H23=>by refine s_v E (zT E (zG ht_10)) (yi ht_10) ?_;exact s_p E (zF E E)<|by exact an H23 fun c_15 H24=>s_p E (zjI E E c_15 E)<|pk E E E<|gv E E<|nx<|zi<|zh Tryz.results27 (zd E ze) ⟨_,E,H24⟩) fun c_12 H21=>s_p E (yB (zjI E E c_10 E) (kX c_12))<|pk E E E<|mv E E<|sk4 E E E E<|zP E<|pk E E E<|gv E E<|nx<|zi<|zh Tryz.results27 (zd E ze) ⟨_,E,H21⟩) fun c_7 H17=>ceF E E E (c_7)<|pk E E E<|mv E E<|sk4 E E E E<|zP E<|pk E E E<|mv E E<|sk4 E E E E<|zP E<|pk E E E<|gv E E<|nx<|zi<|zh Tryz.results27 (zd E ze) ⟨_,E,H17⟩) fun c_4 H14=>ceF E E E (c_4)<|pk E E E<|mv E E<|sk4 E E E E<|zP E<|pk E E E<|mv E E<|sk4 E E E E<|zP E<|pk E E E<|mv E E<|sk4 E E E E<|zP E<|pk E E E<|gv E E<|nx<|zi<|zh Tryz.results27 (zd E ze) ⟨_,E,H14⟩) fun c_1 H10=>ceF E E E (c_1)<|pk E E E<|mv E E<|sk4 E E E E<|zP E<|pk E E E<|mv E E<|sk4 E E E E<|zP E<|pk E E E<|mv E E<|sk4 E E E E<|zP E<|pk E E E<|mv E E<|sk4 E E E E<|zP E<|pk E E E<|gv E E<|nx<|zi<|zh Tryz.results27 (zd E ze) ⟨_,E,H10⟩) fun c H9=>ceF E E E (c)<|mv E E<|sk2 E E<|zP E<|pk E E E<|mv E E<|sk4 E E E E<|zP E<|pk E E E<|mv E E<|sk4 E E E E<|zP E<|pk E E E<|mv E E<|sk4 E E E E<|zP E<|pk E E E<|mv E E<|sk4 E E E E<|zP E<|pk E E E<|gv E E<|nx<|zi<|zh Tryz.results27 (zd E ze) ⟨_,E,H9⟩) (fun Jx hJx H25=>csr<|mv E E<|iteK H25 (fun c_17 H26=>s_p E (yT (zQ E E) c_17)<|mv E E<|sk2 E E<|pk E E E<|nx<|c_t E E<|csr<|gv E E<|nx<|zi<|zb<|zh Tryz.results27 (zd E ze) ⟨_,E,H26⟩) fun c_17 H26=>s_p E (yF (zQ E E) c_17)<|mv E E<|mv E E<|iteK H26 (fun c_18 H27=>s_p E (yT (qE (p:=t) E E) c_18)<|pk E E E<|nx<|c_t E E<|csr<|gv E E<|nx<|zi<|zb<|zh Tryz.results27 (zd E ze) ⟨_,E,H27⟩) fun c_18 H27=>s_p E (yF (qE (p:=t) E E) c_18)<|pk E E E<|nx<|cfs E E<|hJx () _ _ _ _ [] H27 E ⟨E,True.intro⟩ E)
end Go.Proofs.YtabdpmnhjlmnlaaGreatDoor
end
section
namespace Go.Cr
open Go Go.Pt
def awImg:List Int:=[65,0,64,4,0,0,0,80]
def awW1:Wd:=((W0 36).create 1 4 1 awImg).2.2
def awW2:Wd:=(awW1.run 0 0).2
def awW3:Wd:=(awW2.run 0 0).2
def Evt.q (e:Evt):Int×Int×Int×Int:=(e.kind,e.seat,e.a,e.b)
theorem Evt.of_q {e:Evt} {k s a b:Int} (h:e.q=(k,s,a,b)):e=⟨k,s,a,b⟩:=by
 obtain⟨_,_,_,_⟩:=e
 simp only[Evt.q,Prod.mk.injEq] at h
 obtain⟨rfl,rfl,rfl,rfl⟩:=h;rfl
theorem zoL:(awW3.ev 0).length=4:=by decide +kernel
theorem zpo:((awW3.ev 0).getD 0 ⟨0,0,0,0⟩).kind=1:=by decide +kernel
theorem zpn:((awW3.ev 0).getD 1 ⟨0,0,0,0⟩).kind=1:=by decide +kernel
theorem zpm:((awW3.ev 0).getD 2 ⟨0,0,0,0⟩).q=(3,0,65,0):=by decide +kernel
theorem zpl:((awW3.ev 0).getD 3 ⟨0,0,0,0⟩).q=(2,0,0,0):=by decide +kernel
theorem zpk:((W0 36).create 1 4 1 awImg).1=0∧((W0 36).create 1 4 1 awImg).2.1=0:=by decide +kernel
theorem zpd:∃ e1 e2:Evt,e1.kind=1∧e2.kind=1∧awW3.ev 0=[e1,e2,⟨3,0,65,0⟩,⟨2,0,0,0⟩]:=by
 have h1:=zpo
 have h2:=zpn
 have h3:=zpm
 have h4:=zpl
 have h0:=zoL
 match h:awW3.ev 0,h0 with
 | [a,b,c,d],_=>
  rw[h] at h1 h2 h3 h4
  have e3:c=_:=Evt.of_q h3
  have e4:d=_:=Evt.of_q h4
  exact⟨a,b,h1,h2,by rw[e3,e4]⟩
end Go.Cr
end
section
namespace Go.Cr
open Go Go.Pt
def Wd.evB (W:Wd) (m:Nat):Prop:=∀ i,(W.ev i).length≤m
section
variable {W:Wd} {m:Nat}
theorem Wd.evB.mono (h:W.evB m) {k:Nat} (hk:m≤k):W.evB k:=fun i=>Nat.le_trans (h i) hk
theorem Wd.evB.of {W':Wd} (h:W.evB m) (e:W'.ev=W.ev):W'.evB m:=fun i=>by rw[e];exact h i
theorem evB_W0 {f:Int}:(W0 f).evB 0:=fun _=>Nat.le_refl 0
theorem Wd.evB.tell (h:W.evB m) {n:Nat} {e:Evt}:(W.tell n e).evB (m+1):=fun i=>by
 unfold Wd.tell
 show (upd W.ev n (W.ev n++[e]) i).length≤m+1
 by_cases ei:i=n
 ·subst ei;rw[zq,List.length_append];have:=h i;simp;omega
 ·rw[zo ei];have:=h i;omega
theorem zij {n k i:Nat}:(W.raise n k i).2.ev=W.ev:=by unfold Wd.raise;split <;> rfl
theorem znb {n:Nat} {a b:Int}:(W.ring n a b).2.ev=W.ev:=by
 unfold Wd.ring;split
 ·rfl
 ·split
  ·rfl
  ·exact zij
theorem zjb {n:Nat}:(W.nextKey n).2.2.ev=W.ev:=by unfold Wd.nextKey;split <;> rfl
theorem zlO {n:Nat} {p to:Int} {w:Bool}:(W.offer n p to w).2.2.ev=W.ev:=by
 unfold Wd.offer;split
 ·rfl
 ·split
  ·rfl
  ·split
   ·rfl
   ·split <;> rfl
theorem zlZ {n:Nat} {c i p:Int}:(W.lease n c i p).2.ev=W.ev:=by
 unfold Wd.lease;split
 ·rfl
 ·split
  ·rfl
  ·split
   ·split <;> rfl
   ·split
    ·rfl
    ·split
     ·rfl
     ·split
      ·rfl
      ·split <;> rfl
theorem zny {n:Nat} {p:Int}:(W.give n p).2.ev=W.ev:=by
 unfold Wd.give;split
 ·rfl
 ·split <;> rfl
theorem zov {n:Nat} {p:Int}:(W.get n p).2.ev=W.ev:=by
 unfold Wd.get;split
 ·rfl
 ·split
  ·rfl
  ·split
   ·rfl
   ·split <;> rfl
theorem znm {n:Nat} {s p:Int}:(W.load n s p).2.ev=W.ev:=by
 unfold Wd.load;split
 ·rfl
 ·split
  ·rfl
  ·split <;> rfl
theorem zmW {n:Nat} {s p:Int}:(W.save n s p).2.ev=W.ev:=by
 unfold Wd.save;split
 ·rfl
 ·split
  ·rfl
  ·split <;> rfl
theorem xN {α:Type} {P:α→Prop} {c:Prop} [Decidable c] {a b:α} (h1:c→P a) (h2:¬c→P b):P (if c then a else b):=by
 by_cases h:c
 ·rw[if_pos h];exact h1 h
 ·rw[if_neg h];exact h2 h
theorem Wd.evB.call (h:W.evB m) {n k:Nat} {c w1 w2 w3:Int}:(W.call n k c w1 w2 w3).2.2.evB (m+1):=by
 have h1:=h.mono (Nat.le_succ m)
 unfold Wd.call
 refine xN (P:=fun r:Int×Int×Wd=>r.2.2.evB (m+1)) (fun _=>h.tell) fun _=>?_
 refine xN (P:=fun r:Int×Int×Wd=>r.2.2.evB (m+1)) (fun _=>h1.of zjb) fun _=>?_
 refine xN (P:=fun r:Int×Int×Wd=>r.2.2.evB (m+1)) (fun _=>h1.of znb) fun _=>?_
 refine xN (P:=fun r:Int×Int×Wd=>r.2.2.evB (m+1)) (fun _=>h1) fun _=>?_
 refine xN (P:=fun r:Int×Int×Wd=>r.2.2.evB (m+1)) (fun _=>h1.of zlO) fun _=>?_
 refine xN (P:=fun r:Int×Int×Wd=>r.2.2.evB (m+1)) (fun _=>h1.of zlZ) fun _=>?_
 refine xN (P:=fun r:Int×Int×Wd=>r.2.2.evB (m+1)) (fun _=>h1.of zny) fun _=>?_
 refine xN (P:=fun r:Int×Int×Wd=>r.2.2.evB (m+1)) (fun _=>h1.of zov) fun _=>?_
 refine xN (P:=fun r:Int×Int×Wd=>r.2.2.evB (m+1)) (fun _=>h1.of znm) fun _=>?_
 refine xN (P:=fun r:Int×Int×Wd=>r.2.2.evB (m+1)) (fun _=>h1.of zmW) fun _=>?_
 refine xN (P:=fun r:Int×Int×Wd=>r.2.2.evB (m+1)) (fun _=>h1) fun _=>?_
 refine xN (P:=fun r:Int×Int×Wd=>r.2.2.evB (m+1)) (fun _=>h1.of (W':=W.setV n _) rfl) fun _=>?_
 exact h1
theorem Wd.evB.run (h:W.evB m) {n k:Int}:(W.run n k).2.evB (m+3):=by
 unfold Wd.run
 by_cases h1:¬W.there n∨k<0∨(W.vm n.toNat).seats.length≤k
 ·rw[if_pos h1];exact h.mono (by omega)
 rw[if_neg h1]
 dsimp only
 generalize stepM ((W.vm n.toNat).seat k.toNat) (W.gm n.toNat) (W.time n.toNat) k=o
 by_cases h2:o.k=5
 ·rw[if_pos h2];exact h.mono (by omega)
 rw[if_neg h2]
 have h3:(((W.setDat o.g.dat).putSeat n.toNat k.toNat o.s).tell n.toNat (told o.k o.n k ((W.vm n.toNat).seat k.toNat).pc o.s)).evB (m+1):=(h.of (W':=(W.setDat o.g.dat).putSeat n.toNat k.toNat o.s) rfl).tell
 split
 ·unfold Wd.hyper
  dsimp only
  exact Wd.evB.tell (m:=m+2) (Wd.evB.of (h3.call (n:=n.toNat) (k:=k.toNat) (c:=o.n)) rfl)
 ·exact h3.mono (by omega)
theorem Wd.evB.create (h:W.evB m) {s q p:Int} {img:List Int}:(W.create s q p img).2.2.evB m:=by
 unfold Wd.create
 split
 ·exact h
 split
 ·exact h
 split
 ·exact h
 split
 ·exact h
 ·rename_i n _ _
  intro i
  show (upd W.ev n [] i).length≤m
  by_cases e:i=n
  ·rw[e,zq];exact Nat.zero_le _
  ·rw[zo e];exact h i
theorem Wd.evB.key (h:W.evB m) {n b:Int}:(W.key n b).2.evB m:=by
 unfold Wd.key
 split
 ·exact h
 split
 ·exact h
 ·exact h.of zij
def Wd.runs (W:Wd) (n k:Int):Nat→Wd
 | 0=>W
 | j+1=>((W.runs n k j).run n k).2
theorem Wd.evB.runs (h:W.evB m) {n k:Int}:∀ {j:Nat},(W.runs n k j).evB (m+3*j)
 | 0=>h
 | j+1=>(Wd.evB.run (h.runs (j:=j))).mono (by omega)
end
end Go.Cr
end
section
namespace Go.Proofs.YtabdpmnhjlmnlaaGreatDoor
open Go Go.Pt Go.Cr Go.Hp
def Lv (S0:Mem) (ρ0:Rho) (h:Nat) (S:Mem) (W:Wd):Prop:=∃ ρ A C φ,Mv S0 ρ0 S ρ Rc∧CrabA S ρ h A C∧Rel C W φ
def rho0:Rho:=fun _=>none
section
variable {S S' S0:Mem} {ρ ρ' ρ0:Rho} {R:Nat→Prop} {h:Nat} {A:Ad} {C:Cst} {W:Wd} {φ:Nat→Nat→Nat}
theorem rg0 {S:Mem}:∀ b r,rho0 b=some r→S b≠none:=fun b r h=>by cases h
theorem zdT (m:Mv S rho0 S' ρ R):Keeps S S' []:=fun b hb _=>m.kp b hb fun r e=>by cases e
theorem Lv.keeps (l:Lv S rho0 h S' W):Keeps S S' []:=by
 obtain⟨ρ,A,C,φ,m,_⟩:=l
 exact zdT m
theorem After.lv {W':Wd} (m:Mv S0 ρ0 S ρ Rc) (hA:After h A C S ρ W' S'):Lv S0 ρ0 h S' W':=by
 obtain⟨ρ',A',C',φ',m',hc,hr,_⟩:=hA
 exact⟨ρ',A',C',φ',m.trans m',hc,hr⟩
theorem Aft.lv {W':Wd} (m:Mv S0 ρ0 S ρ Rc) (hA:Aft h C S ρ W' S'):Lv S0 ρ0 h S' W':=by
 obtain⟨ρ',A',C',φ',m',hc,hr,_⟩:=hA
 exact⟨ρ',A',C',φ',m.trans m',hc,hr⟩
theorem Lv.on (l:Lv S0 ρ0 h S W) (hk:Keeps S S' []):Lv S0 ρ0 h S' W:=by
 obtain⟨ρ,A,C,φ,m,hc,hr⟩:=l
 exact⟨ρ,A,C,φ,m.then hk,hc.keeps hk,hr⟩
theorem zol (hgl:Gl S) {form frames region:Int} {Q:Pt→Int→Mem→Prop} (hE:badNew form frames region→Q none 1 S)
  (hY:¬badNew form frames region→∀ S' h,Lv S rho0 h S' (W0 (frames-region))→Q (some (h,0)) 0 S'):zbI S form frames region Q:=
 zlT rg0 rfl hgl hE fun hb S' ρ' h A l u m hc ht hl=>hY hb S' h ⟨ρ',A,_,_,m,hc,znc hb ht hl⟩
theorem zoi (l:Lv S0 ρ0 h S W) {e:Nat} (he:W.evB e) (hel:e≤800000000) {n k:Int} {Q:Int→Mem→Prop} (hQ:∀ S',Lv S0 ρ0 h S' (W.run n k).2→Q (W.run n k).1 S'):wo S (some (h,0)) n k Q:=by
 obtain⟨ρ,A,C,φ,m,hc,hr⟩:=l
 exact zld hc hr (fun i=>Nat.le_trans (he i) hel) fun S' hA=>hQ S' (hA.lv m)
theorem zmi (l:Lv S0 ρ0 h S W) {n:Nat} (hn:n<6) {e:Nat} (he:W.evB e) (hel:e≤800000000) {Q:Sl→Mem→Prop}
  (hQ:∀ t S',Keeps S S' []→Row S' 4 t ((W.ev n).flatMap evL)→(∀ b o,t.p=some (b,o)→S b=none)→Q t S'):yH S (some (h,0)) n Q:=by
 obtain⟨ρ,A,C,φ,m,hc,hr⟩:=l
 rw[←hr.ev] at hQ
 exact zec hc hn (by rw[hr.ev];have:=he n;omega) hQ
theorem znt {b:Nat} (hb:S b=none) (hg:∀ b r,ρ b=some r→S b≠none) {k:Blk} {xs:List Int} (hk:k.cs=bL xs) (hf:lpart k.cs 0 xs.length=some (bL xs)) (hx:Byt xs) {c:Nat} (hS:S' b=some k) (hc:xs.length≤c) (hp:S'.part b 0 xs.length=some (bL xs)):ImgAt S' ρ ⟨some (b,0),xs.length,c⟩ xs:=
 ⟨rfl,hc,hx,.inr ⟨b,0,rfl,hp,by
  cases e:ρ b with
  | none=>rfl
  | some r=>exact absurd hb (hg b r e),by rw[hS];simp⟩⟩
theorem zow {α:Type} {f:α→List Value} {w:Nat} (h:∀ a,(f a).length=w) {l:List α} {j k:Nat} (hj:j<l.length) (hk:k<w):nthL (l.flatMap f) (j*w+k)=nthL (f l[j]) k:=by
 obtain⟨e1,e2⟩:=zit h hj
 rw[e1,qF e2,zbB (by rw[h];exact hk)]
theorem zna {S:Mem} {t:Sl} {l:List Evt} (h:Row S 4 t (l.flatMap evL)) (h0:l≠[]):t.n=l.length∧∃ b,t=⟨some (b,0),t.n,t.c⟩∧(∀ i j x,(hi:i<l.length)→j<4→x=i*4+j→S.cell b x=nthL (evL l[i]) j)∧∀ i x,(hi:i<l.length)→x=i*4→S.part b x 4=some (evL l[i]):=by
 have hlen:(l.flatMap evL).length=l.length*4:=xF fb l
 have hpos:0<l.length:=List.length_pos_iff.2 h0
 have hw:Rw S (fun _=>some 0) 0 4 t (l.flatMap evL):=⟨h,fun _ _ _=>rfl⟩
 refine⟨hw.n (by decide) hlen,?_⟩
 obtain⟨b,e1,e2⟩:=hw.sl (by omega)
 refine⟨b,e1,fun i j x hi hj hx=>?_,fun i x hi hx=>?_⟩
 ·rw[hw.cell e2 (i*4+j) (by omega) hx,zow fb hi hj]
 ·rw[hw.part e2 (i*4) (by omega) hx,zcl fb hi]
theorem zoI:Byt awImg:=fun x hx=>by
 simp only[awImg,List.mem_cons,List.not_mem_nil,or_false] at hx
 omega
theorem zfg (hgl:Gl S) {Q:Bool→Mem→Prop} (hQ:∀ S',Keeps S S' []→Q true S'):qL S Q:=by
 apply jP
 unfold yA
 refine zol hgl (fun h=>absurd h (by decide)) fun _ S1 h l1=>?_
 simp only[jn]
 rw[if_neg (by decide),if_neg (by simp)]
 obtain⟨ρ,A,C,φ,m1,hc1,hr1⟩:=l1
 intro b hb
 refine⟨_,zO,rfl,?_⟩
 have hk:Keeps S1 ((S1.set b (bw 5 [.int .u8 65,.int .u8 0,.int .u8 64,.int .u8 4,.int .u8 0,.int .u8 0,.int .u8 0,.int .u8 80])).set b ⟨5,[.int .u8 65,.int .u8 0,.int .u8 64,.int .u8 4,.int .u8 0,.int .u8 0,.int .u8 0,.int .u8 80],(8,9)⟩) []:=fun x hx _=>by
  have:x≠b:=fun e=>hx (e ▸ hb)
  rw[qm this,qm this]
 have hc2:=hc1.keeps hk
 refine zei (xs:=awImg) hc2 hr1 (znt hb hc1.rg (k:=⟨5,bL awImg,(8,9)⟩) rfl rfl zoI zO (by decide) (by rw[yu zO];rfl)) (by decide) fun S2 hA=>?_
 have l2:=hA.lv (m1.then hk)
 have ec:((W0 (40-4)).create 1 4 1 awImg).1=0∧((W0 (40-4)).create 1 4 1 awImg).2.1=0:=zpk
 rw[ec.1,ec.2]
 have e1:awW1.evB 0:=evB_W0.create
 refine zoi l2 e1 (by decide) fun S3 l3=>?_
 refine zoi l3 e1.run (by decide) fun S4 l4=>?_
 obtain⟨x1,x2,h1,h2,he⟩:=zpd
 refine zmi (n:=0) l4 (by decide) e1.run.run (by decide) fun t S5 hk5 hrow _=>?_
 have hrow':Row S5 4 t ([x1,x2,⟨3,0,65,0⟩,⟨2,0,0,0⟩].flatMap evL):=by
  rw[←he];exact hrow
 obtain⟨hn,c,ht,hcell,hpart⟩:=zna hrow' (by simp)
 have hn4:t.n=4:=hn
 rw[if_pos rfl,if_pos (by omega),ht,zah]
 refine⟨by omega,?_⟩
 rw[zY (hcell 0 0 _ (by simp) (by decide) rfl)]
 rw[List.getElem_cons_zero,if_pos h1]
 refine⟨by omega,?_⟩
 rw[zY (hcell 1 0 _ (by simp) (by decide) rfl)]
 rw[show [x1,x2,(⟨3,0,65,0⟩:Evt),⟨2,0,0,0⟩][1]=x2 from rfl,if_pos h2]
 refine⟨by omega,?_⟩
 rw[jo (hpart 2 _ (by simp) rfl)]
 refine⟨rfl,?_⟩
 rw[if_pos (by rfl)]
 refine⟨by omega,?_⟩
 rw[jo (hpart 3 _ (by simp) rfl)]
 exact⟨rfl,hQ _ (l4.keeps.trans hk5)⟩
end
end Go.Proofs.YtabdpmnhjlmnlaaGreatDoor
end
section
namespace Go.Cr
open Go Go.Pt
structure Rv where
 ss:Sl
 ks:Sl
 d:Nat→Sl
 mb:Pt
 begun:Int
 at_:Nat→Int
def nilL:Sl:=⟨none,0,0⟩
def rv0:Rv:=⟨nilL,nilL,fun _=>nilL,none,0,fun _=>0⟩
def rvL (x:Rv) (v:Bv) (ow al:Nat→Bool):List Value:=
 [.bool v.on,eL x.ss,.int .i64 v.quota,.int .u64 x.begun,eL x.ks]++(cF 4 (fun j=>[eL (x.d j)])++(cF 6 (fun j=>[.bool (v.bells j)])++([eP x.mb]++(cF 32 (fun p=>[.bool (ow p)])++(cF 3 (fun k=>[.bool (al k)])++cF 3 fun k=>[.int .u64 (x.at_ k)])))))
section
variable {x:Rv} {v:Bv} {ow al:Nat→Bool}
theorem zff:(cF 4 (fun j=>[eL (x.d j)])).length=4:=xr (w:=1) fun _ _=>rfl
theorem zgY:(cF 6 (fun j=>[Value.bool (v.bells j)])).length=6:=xr (w:=1) fun _ _=>rfl
theorem zhS:(cF 32 (fun j=>[Value.bool (ow j)])).length=32:=xr (w:=1) fun _ _=>rfl
theorem zoH:(cF 3 (fun j=>[Value.bool (al j)])).length=3:=xr (w:=1) fun _ _=>rfl
theorem znE:(cF 3 (fun j=>[Value.int .u64 (x.at_ j)])).length=3:=xr (w:=1) fun _ _=>rfl
theorem yf:(rvL x v ow al).length=54:=by
 unfold rvL
 simp only[List.length_append,zff,zgY,zhS,zoH,znE,List.length_cons,List.length_nil]
theorem zkv {f:Nat→Value} {n i:Nat} (hi:i<n):nthL (cF n fun j=>[f j]) i=some (f i):=by
 have:=zeo (w:=1) (k:=0) (n:=n) (f:=fun j=>[f j]) (fun _ _=>rfl) hi (by decide)
 rw[Nat.mul_one] at this;exact this
theorem zcd {f g:Nat→Value} {n i:Nat} {y:Value} (hi:i<n) (hg:∀ j,j<n→g j=if j=i then y else f j):spl (cF n fun j=>[f j]) i [y]=cF n fun j=>[g j]:=by
 have:=zen (w:=1) (k:=0) (n:=n) (vs:=[y]) (f:=fun j=>[f j]) (fun _ _=>rfl) hi (by simp)
 rw[Nat.mul_one] at this
 rw[show spl (cF n fun j=>[f j]) i [y]=_ from this]
 refine ye fun j hj=>?_
 rw[hg j hj]
 unfold upd
 split <;> rfl
theorem zoS:nthL (rvL x v ow al) 15=some (eP x.mb):=by
 unfold rvL
 rw[show 15=5+(4+(6+0)) by omega,qF (n:=5) rfl,qF (n:=4) zff,qF (n:=6) zgY];rfl
theorem rvL_own {j:Nat} (hj:j<32):nthL (rvL x v ow al) (16+j)=some (.bool (ow j)):=by
 unfold rvL
 rw[show 16+j=5+(4+(6+(1+j))) by omega,qF (n:=5) rfl,qF (n:=4) zff,qF (n:=6) zgY,qF (n:=1) rfl,zbB (by rw[zhS];omega)]
 exact zkv hj
theorem zlA {j:Nat} (hj:j<32) {b:Bool}:spl (rvL x v ow al) (16+j) [.bool b]=rvL x v (upd ow j b) al:=by
 unfold rvL
 rw[show 16+j=5+(4+(6+(1+j))) by omega,qz (n:=5) rfl,qz (n:=4) zff,qz (n:=6) zgY,qz (n:=1) rfl,vX (by rw[zhS];simp;omega)]
 rw[zcd (g:=fun p=>.bool (upd ow j b p)) hj fun p _=>by unfold upd;split <;> rfl]
theorem zkh {j:Nat} (hj:j<6) {b:Bool}:spl (rvL x v ow al) (9+j) [.bool b]=rvL x { v with bells:=upd v.bells j b } ow al:=by
 unfold rvL
 rw[show 9+j=5+(4+j) by omega,qz (n:=5) rfl,qz (n:=4) zff,vX (by rw[zgY];simp;omega)]
 rw[zcd (g:=fun p=>.bool (upd v.bells j b p)) hj fun p _=>by unfold upd;split <;> rfl]
end
structure Rc0 where
 now:Int
 free:Int
 x:Nat→Rv
 vm:Nat→Bv
 ow:Nat→Nat→Bool
 al:Nat→Nat→Bool
 ls:Nat→Ls
 es:Nat→Sl
def Rc0.L (c:Rc0):List Value:=
 [.int .u64 c.now,.int .i64 c.free]++(cF 6 (fun n=>rvL (c.x n) (c.vm n) (c.ow n) (c.al n))++(cF 16 (fun i=>lsL (c.ls i))++cF 6 fun n=>[eL (c.es n)]))
section
variable {c:Rc0}
theorem fT:(cF 6 (fun n=>rvL (c.x n) (c.vm n) (c.ow n) (c.al n))).length=324:=xr (w:=54) fun _ _=>yf
theorem zfZ:(cF 16 (fun i=>lsL (c.ls i))).length=96:=xr (w:=6) fun _ _=>rfl
theorem znD:(cF 6 fun n=>[eL (c.es n)]).length=6:=xr (w:=1) fun _ _=>rfl
theorem Rc0.len:c.L.length=428:=by
 unfold Rc0.L
 simp only[List.length_append,fT,zfZ,znD,List.length_cons,List.length_nil]
theorem Rc0.get {n j i:Nat} (hn:n<6) (hj:j<54) (hi:i=2+(n*54+j)):nthL c.L i=nthL (rvL (c.x n) (c.vm n) (c.ow n) (c.al n)) j:=by
 subst hi
 unfold Rc0.L
 rw[qF (n:=2) rfl,zbB (by rw[fT];omega)]
 exact zeo (w:=54) (fun _ _=>yf) hn hj
theorem Rc0.getls {i k:Nat} (hi:i<16) (hk:k=326+i*6):lpart c.L k 6=some (lsL (c.ls i)):=by
 subst hk
 unfold Rc0.L
 rw[show 326+i*6=2+(324+(i*6+0)) by omega,yM (n:=2) rfl,yM (n:=324) fT,ki (by rw[zfZ];omega),zfY (w:=6) (fun _ _=>rfl) hi (by decide)]
 rfl
theorem Rc0.gete {n k:Nat} (hn:n<6) (hk:k=422+n):nthL c.L k=some (eL (c.es n)):=by
 subst hk
 unfold Rc0.L
 rw[show 422+n=2+(324+(96+n)) by omega,qF (n:=2) rfl,qF (n:=324) fT,qF (n:=96) zfZ]
 exact zkv hn
theorem Rc0.set {n j i:Nat} {vs:List Value} (hn:n<6) (hj:j+vs.length≤54) (hi:i=2+(n*54+j)) {x':Rv} {v':Bv} {ow' al':Nat→Bool} (he:spl (rvL (c.x n) (c.vm n) (c.ow n) (c.al n)) j vs=rvL x' v' ow' al') :
  spl c.L i vs=({ c with x:=upd c.x n x',vm:=upd c.vm n v',ow:=upd c.ow n ow',al:=upd c.al n al' }:Rc0).L:=by
 subst hi
 unfold Rc0.L
 rw[qz (n:=2) rfl,vX (by rw[fT];omega),zen (w:=54) (fun _ _=>yf) hn hj,he]
 have e:cF 6 (upd (fun n=>rvL (c.x n) (c.vm n) (c.ow n) (c.al n)) n (rvL x' v' ow' al'))=cF 6 fun m=>rvL (upd c.x n x' m) (upd c.vm n v' m) (upd c.ow n ow' m) (upd c.al n al' m):=ye fun m _=>by
  by_cases e:m=n
  ·subst e;simp only[zq]
  ·simp only[zo e]
 rw[e]
theorem Rc0.sete {n k:Nat} (hn:n<6) (hk:k=422+n) {s:Sl}:spl c.L k [eL s]=({ c with es:=upd c.es n s }:Rc0).L:=by
 subst hk
 unfold Rc0.L
 rw[show 422+n=2+(324+(96+n)) by omega,qz (n:=2) rfl,qz (n:=324) fT,qz (n:=96) zfZ]
 rw[zcd (g:=fun m=>eL (upd c.es n s m)) hn fun m _=>by unfold upd;split <;> rfl]
theorem Rc0.setf {f:Int}:spl c.L 1 [.int .i64 f]=({ c with free:=f }:Rc0).L:=rfl
end
end Go.Cr
end
section
namespace Go.Proofs.YtabdpmnhjlmnlaaGreatDoor
open Go Go.Pt
attribute [local irreducible] Code.wp Back bodyPost wpList FR WL WC WQ WA AW Tr Yc HC AllC
set_option maxRecDepth 20000
set_option maxHeartbeats 4000000
set_option linter.unusedVariables false
def xg (S:Mem) (free:Int) (Q:Pt→Mem→Prop):Prop:=
 al S 141 (spl z141 1 [.int .i64 free]) fun b Sx=>
 Q (some (b,0)) Sx
theorem gH {S:Mem} {free:Int} {Q:Pt→Mem→Prop} (H:xg S free Q):xO S free Q:=by
 unfold xg at H
 exact Tr.intro Tryz.func17 E Tryz.ntmps17 E fun w0=>csr<|gv E E<|nxr<|mv E E<|s_p E (zF E (yd (off:=1) (size:=1) E E (wa (n:=428) zlo (by decide)) fQ))<|by exact qM E E E fun b=>ku 0 E fun hb=>have H1:=H b hb;gv E E<|nx<|zi<|zh Tryz.results17 (zd E ze) ⟨_,E,H1⟩
def yr (S:Mem) (x:Pt) (seats:Int) (quota:Int) (pages:Int) (image:Sl) (Q:Int→Int→Mem→Prop):Prop:=
 jn (fun (Sx:Mem)=>
 jn (fun (Sx_1:Mem)=>
 jn (fun (n:Int) (Sx_2:Mem)=>
 jn (fun (Sx_3:Mem)=>
 jn (fun (Sx_4:Mem)=>
 nn x fun b o=>
 gI (Sx_4.cell b (o+1)) .i64 fun t=>
 pt Sx_4 b (o+1) 1 ([.int .i64 (IntKind.i64.wrap (t-(IntKind.i64.wrap (5+pages))))]) fun Sx_5=>
 gI (Sx_5.cell b o) .u64 fun t_1=>
 al Sx_5 148 z148 fun b_1 Sx_6=>
 jn (fun (v:List Value) (Sx_7:Mem)=>
 v.length=54 ∧
 jn (fun (v_1:List Value) (Sx_8:Mem)=>
 v_1.length=54 ∧
 jn (fun (v_2:List Value) (Sx_9:Mem)=>
 v_2.length=54 ∧
 0≤n∧n<6 ∧
 v_2.all (·.oneCell')=true ∧
 pt Sx_9 b (o+2+n.toNat*54) 54 v_2 fun Sx_10=>
 0≤n∧n<6 ∧
 pt Sx_10 b (o+422+n.toNat*1) 1 ([.slice (none) 0 0]) fun Sx_11=>
 Q n 0 Sx_11) fun Jx=>
 lp (fun Xx (z:Int×List Value) (Sx_12:Mem)=>
 match z with
 | (i,v_3)=>
 v_3.length=54 ∧
 jn (fun (Sx_13:Mem)=>
 jn (fun (v_4:List Value) (Sx_14:Mem)=>
 v_4.length=54 ∧
 Xx (IntKind.i64.wrap (i+1),v_4) Sx_14) fun Jx_1=>
 al Sx_13 5 (zrep 256 [.int .u8 0]) fun b_3 Sx_15=>
 jn (fun (Sx_16:Mem)=>
 gP (nthL v_3 15) fun t_2=>
 nn t_2 fun b_4 o_1=>
 0≤i∧i<32 ∧
 pt Sx_16 b_4 (o_1+i.toNat*1) 1 ([.slice (some ⟨b_3,0,none⟩) 256 256]) fun Sx_17=>
 gP (nthL v_3 15) fun t_3=>
 nn t_3 fun b_5 o_2=>
 0≤i∧i<32 ∧
 pt Sx_17 b_5 (o_2+32+i.toNat*1) 1 ([.bool true]) fun Sx_18=>
 0≤i∧i<32 ∧
 Jx_1 (spl v_3 (16+i.toNat*1) ([.bool true])) Sx_18) fun Jx_2=>
 lp (fun Xx_1 (k:Int) (Sx_19:Mem)=>
 jn (fun (Sx_20:Mem)=>
 sl image fun b_6 o_3 n_1 n_2=>
 0≤IntKind.i64.wrap ((IntKind.i64.wrap (256*i))+k)∧IntKind.i64.wrap ((IntKind.i64.wrap (256*i))+k)<((n_1:Nat):Int) ∧
 gI (Sx_20.cell b_6 (o_3+(IntKind.i64.wrap ((IntKind.i64.wrap (256*i))+k)).toNat*1)) .u8 fun t_4=>
 0≤k∧k<256 ∧
 pt Sx_20 b_3 (0+k.toNat*1) 1 ([.int .u8 t_4]) fun Sx_21=>
 Xx_1 (IntKind.i64.wrap (k+1)) Sx_21) fun Jx_3=>
 if k<256 then
 if IntKind.i64.wrap ((IntKind.i64.wrap (256*i))+k)<(image.n:Int) then
 Jx_3 Sx_19
 else
 Jx_2 Sx_19
 else
 Jx_2 Sx_19) 0 Sx_15) fun Jx_4=>
 if i<pages then
 Jx_4 Sx_12
 else
 Jx v_3 Sx_12) (0,v_1) Sx_8) fun Jx_5=>
 lp (fun Xx_2 (z:Int×List Value) (Sx_22:Mem)=>
 match z with
 | (i_1,v_5)=>
 v_5.length=54 ∧
 if i_1<4 then
 al Sx_22 5 (zrep 256 [.int .u8 0]) fun b_7 Sx_23=>
 0≤i_1∧i_1<4 ∧
 Xx_2 (IntKind.i64.wrap (i_1+1),spl v_5 (5+i_1.toNat*1) ([.slice (some ⟨b_7,0,none⟩) 256 256])) Sx_23
 else
 Jx_5 v_5 Sx_22) (0,v) Sx_7) fun Jx_6=>
 lp (fun Xx_3 (z:Int×List Value) (Sx_24:Mem)=>
 match z with
 | (i_2,v_6)=>
 v_6.length=54 ∧
 jn (fun (Sx_25:Mem)=>
 gL (nthL v_6 1) fun t_5=>
 ap Sx_25 43 26 192 z43 t_5 1 ([.int .u64 0,.int .u64 0,.int .u64 0,.int .u64 0,.int .u64 0,.int .u64 0,.int .u64 0,.int .u64 0,.int .u64 0,.int .u64 0,.int .u64 0,.int .u64 0,.int .u64 0,.int .u64 0,.int .u64 0,.int .u64 0,.int .u64 0,.int .u64 0,.int .u64 0,.int .u64 0,.int .u64 0,.int .u64 0,.bool false,.int .u8 0,.int .u32 0,.int .u32 0]) fun t_6 Sx_26=>
 Xx_3 (IntKind.i64.wrap (i_2+1),spl v_6 1 ([eL t_6])) Sx_26) fun Jx_7=>
 if i_2<seats then
 Jx_7 Sx_24
 else
 Jx_6 v_6 Sx_24) (0,[.bool true,.slice (none) 0 0,.int .i64 quota,.int .u64 t_1,.slice (none) 0 0,.slice (none) 0 0,.slice (none) 0 0,.slice (none) 0 0,.slice (none) 0 0,.bool false,.bool false,.bool false,.bool false,.bool false,.bool false,.pointer (some ⟨b_1,0,none⟩),.bool false,.bool false,.bool false,.bool false,.bool false,.bool false,.bool false,.bool false,.bool false,.bool false,.bool false,.bool false,.bool false,.bool false,.bool false,.bool false,.bool false,.bool false,.bool false,.bool false,.bool false,.bool false,.bool false,.bool false,.bool false,.bool false,.bool false,.bool false,.bool false,.bool false,.bool false,.bool false,.bool false,.bool false,.bool false,.int .u64 0,.int .u64 0,.int .u64 0]) Sx_6) fun Jx_8=>
 nn x fun b_9 o_4=>
 gI (Sx_3.cell b_9 (o_4+1)) .i64 fun t_7=>
 if t_7<IntKind.i64.wrap (5+pages) then
 Q 0 3 Sx_3
 else
 Jx_8 Sx_3) fun Jx_9=>
 if n=6 then
 Q 0 2 Sx_2
 else
 Jx_9 Sx_2) fun Jx_10=>
 lp (fun Xx_4 (n_3:Int) (Sx_27:Mem)=>
 if n_3<6 then
 nn x fun b_10 o_5=>
 0≤n_3∧n_3<6 ∧
 gB (Sx_27.cell b_10 (o_5+2+n_3.toNat*54)) fun t_8=>
 if t_8=true then
 Xx_4 (IntKind.i64.wrap (n_3+1)) Sx_27
 else
 Jx_10 n_3 Sx_27
 else
 Jx_10 n_3 Sx_27) 0 Sx_1) fun Jx_11=>
 if IntKind.i64.wrap (256*pages)<(image.n:Int) then
 Q 0 6 Sx
 else
 Jx_11 Sx) fun Jx_12=>
 if seats<1 then
 Q 0 1 S
 else
 if 3<seats then
 Q 0 1 S
 else
 if quota<1 then
 Q 0 1 S
 else
 if 32<quota then
 Q 0 1 S
 else
 if pages<1 then
 Q 0 1 S
 else
 if quota<pages then
 Q 0 1 S
 else
 Jx_12 S
theorem jD {S:Mem} {x:Pt} {seats:Int} {quota:Int} {pages:Int} {image:Sl} {Q:Int→Int→Mem→Prop} (H:yr S x seats quota pages image Q):qV S x seats quota pages image Q:=by
 unfold yr at H
 exact Tr.intro Tryz.func19 E Tryz.ntmps19 E fun w0=>csr<|gv E E<|gv E E<|nx<|zn H (fun (J:Mem→Prop) (z:Unit) S=>J S) (fun z=>⟨162,[(0,eP x),(1,.int .i64 seats),(2,.int .i64 quota),(3,.int .i64 pages),(4,eL image)]⟩) (fun z=>[]) (fun _ Sx H1=>zn H1 (fun (J:Mem→Prop) (z:Unit) S=>J S) (fun z=>⟨162,[(0,eP x),(1,.int .i64 seats),(2,.int .i64 quota),(3,.int .i64 pages),(4,eL image)]⟩) (fun z=>[]) (fun _ Sx_1 H2=>csr<|gv E E<|nx<|zn H2 (fun (J:Int→Mem→Prop) (z:Int) S=>J z S) (fun z=>⟨162,[(0,eP x),(1,.int .i64 seats),(2,.int .i64 quota),(3,.int .i64 pages),(4,eL image),(12,.int .i64 z)]⟩) (fun z=>[]) (fun n Sx_2 H3=>zn H3 (fun (J:Mem→Prop) (z:Unit) S=>J S) (fun z=>⟨162,[(0,eP x),(1,.int .i64 seats),(2,.int .i64 quota),(3,.int .i64 pages),(4,eL image),(12,.int .i64 n)]⟩) (fun z=>[]) (fun _ Sx_3 H4=>zn H4 (fun (J:Mem→Prop) (z:Unit) S=>J S) (fun z=>⟨162,[(0,eP x),(1,.int .i64 seats),(2,.int .i64 quota),(3,.int .i64 pages),(4,eL image),(12,.int .i64 n)]⟩) (fun z=>[]) (fun _ Sx_4 H5=>csr<|mv E E<|by obtain⟨b,o,rfl,H6⟩:=H5;exact s_p E (zJ E)<|s_p E (zv E E)<|gx H6 fun t ht H7=>s_v E (zz E) (zH ht)<|mv E E<|s_p E (qh E E)<|s_p E (gu E E)<|s_p E (zJ E)<|s_p E (zv E E)<|an H7 fun c H8=>qo E E E E E c E<|nxr<|mv E E<|mv E E<|s_p E (zJ E)<|s_p E (zv E E)<|gx H8 fun t_1 ht_1 H9=>s_v E (zz E) (zH ht_1)<|s_p E (zF E fQ)<|by exact qM E E E fun b_1=>ku 0 E fun hb_1=>have H10:=H9 b_1 hb_1;s_p E (zF E E)<|by exact by refine zL E fun b_2=>?_;exact zp 0 E E E E E E zlp E<|nx<|zn H10 (fun (J:List Value→Mem→Prop) (z:List Value) S=>J z S) (fun z=>⟨162,[(0,.pointer (some ⟨b,o,none⟩)),(3,.int .i64 pages),(4,eL image),(12,.int .i64 n),(13,.pointer (some ⟨b_2,0,none⟩))]⟩) (fun z=>[⟨b_2,136,z⟩]) (fun v Sx_7 H11=>an H11 fun hv H12=>zn H12 (fun (J:List Value→Mem→Prop) (z:List Value) S=>J z S) (fun z=>⟨162,[(0,.pointer (some ⟨b,o,none⟩)),(3,.int .i64 pages),(4,eL image),(12,.int .i64 n),(13,.pointer (some ⟨b_2,0,none⟩))]⟩) (fun z=>[⟨b_2,136,z⟩]) (fun v_1 Sx_8 H13=>an H13 fun hv_1 H14=>zn H14 (fun (J:List Value→Mem→Prop) (z:List Value) S=>J z S) (fun z=>⟨162,[(0,.pointer (some ⟨b,o,none⟩)),(12,.int .i64 n),(13,.pointer (some ⟨b_2,0,none⟩))]⟩) (fun z=>[⟨b_2,136,z⟩]) (fun v_2 Sx_9 H15=>an H15 fun hv_2 H16=>zC<|zM (by kernel_rfl)<|aTP 0 E (by decide +kernel) E (zm E)<|by exact aTP 1 E (by decide +kernel) E (zm E)<|by exact by refine aT 2 E (by decide +kernel) E (zT E hv_2) (zE (k:=54) 0 E (zk hv_2)) ?_;exact aTP 3 E (by decide +kernel) E (zJ E)<|by exact aTP 4 E (by decide +kernel) E (zv E E)<|by exact an2 H16 fun c_1 c_2 H17=>aTP 5 E (by decide +kernel) E (qv E E c_1 c_2 E)<|by exact zB 6 (by decide +kernel) E<|by exact an H17 fun c_3 H18=>an H18 fun c_4 H19=>qo E E E E hv_2 c_4 c_3<|zr<|zN zy<|zK (by decide +kernel)<|by exact zt<|csr<|mv E E<|mv E E<|s_p E (zJ E)<|s_p E (zv E E)<|an2 H19 fun c_5 c_6 H20=>s_p E (qv E E c_5 c_6 E)<|an H20 fun c_7 H21=>qo E E E E E c_7 E<|nxr<|mv E E<|gv E E<|gv E E<|nx<|zi<|zh Tryz.results19 (zd E (zd E ze)) ⟨_,_,E,H21⟩) (fun Jx hJx H22=>csr<|gv E E<|nx<|zw<|qB (fun z=>⟨162,[(0,.pointer (some ⟨b,o,none⟩)),(3,.int .i64 pages),(4,eL image),(12,.int .i64 n),(13,.pointer (some ⟨b_2,0,none⟩)),(16,.int .i64 z.1)]⟩) (fun z=>[⟨b_2,136,z.2⟩]) (0,v_1) (idx:=[0]) H22 E ⟨E,E,E,E,E,E,True.intro⟩ E<|by rintro Xx hXx ⟨i,v_3⟩ Sx_12 H23;exact an H23 fun hv_3 H24=>zn H24 (fun (J:Mem→Prop) (z:Unit) S=>J S) (fun z=>⟨162,[(0,.pointer (some ⟨b,o,none⟩)),(3,.int .i64 pages),(4,eL image),(12,.int .i64 n),(13,.pointer (some ⟨b_2,0,none⟩)),(16,.int .i64 i)]⟩) (fun z=>[⟨b_2,136,v_3⟩]) (fun _ Sx_13 H25=>zn H25 (fun (J:List Value→Mem→Prop) (z:List Value) S=>J z S) (fun z=>⟨162,[(0,.pointer (some ⟨b,o,none⟩)),(3,.int .i64 pages),(4,eL image),(12,.int .i64 n),(13,.pointer (some ⟨b_2,0,none⟩)),(16,.int .i64 i)]⟩) (fun z=>[⟨b_2,136,z⟩]) (fun v_4 Sx_14 H26=>an H26 fun hv_4 H27=>zu<|mv E E<|s_p E (qh E E)<|gv E E<|zr<|hXx (IntKind.i64.wrap (i+1),v_4) _ _ _ _ [0] H27 E ⟨E,E,E,E,E,E,True.intro⟩ E) (fun Jx_1 hJx_1 H28=>zw<|csr<|zmX E E E (by decide) (by decide) (by decide) (by decide) fun b_3=>ku 1 E fun hb_3=>have H29:=H28 b_3 hb_3;gv E E<|nx<|zn H29 (fun (J:Mem→Prop) (z:Unit) S=>J S) (fun z=>⟨162,[(0,.pointer (some ⟨b,o,none⟩)),(3,.int .i64 pages),(4,eL image),(12,.int .i64 n),(13,.pointer (some ⟨b_2,0,none⟩)),(16,.int .i64 i),(17,.slice (some ⟨b_3,0,none⟩) 256 256)]⟩) (fun z=>[⟨b_2,136,v_3⟩]) (fun _ Sx_16 H30=>csr<|s_p E (zv E E)<|gx H30 fun t_2 ht_2 H31=>s_v E (zz E) (zW 0 E ht_2)<|mv E E<|mv E E<|by obtain⟨b_4,o_1,rfl,H32⟩:=H31;exact s_p E (zJ E)<|s_p E (zv E E)<|an2 H32 fun c_8 c_9 H33=>s_p E (qv E E c_8 c_9 E)<|an H33 fun c_10 H34=>qo E E E E E c_10 E<|nxr<|s_p E (zv E E)<|gx H34 fun t_3 ht_3 H35=>s_v E (zz E) (zW 0 E ht_3)<|mv E E<|by obtain⟨b_5,o_2,rfl,H36⟩:=H35;exact s_p E (zJ E)<|s_p E (zv E E)<|an2 H36 fun c_11 c_12 H37=>s_p E (qv E E c_11 c_12 E)<|an H37 fun c_13 H38=>qo E E E E E c_13 E<|nx<|zu<|mv E E<|s_p E (zv E E)<|an2 H38 fun c_14 c_15 H39=>s_p E (qv E E c_14 c_15 E)<|qT (sz:=1) (vs:=[.bool true]) 0 E E E E E E (wa hv_3 (by omega)) E<|zr<|zU<|hJx_1 (spl v_3 (16+i.toNat*1) ([.bool true])) _ _ _ _ [0] H39 E ⟨E,E,E,E,E,E,True.intro⟩ E) (fun Jx_2 hJx_2 H40=>csr<|gv E E<|nx<|zw<|qB (fun z=>⟨162,[(0,.pointer (some ⟨b,o,none⟩)),(3,.int .i64 pages),(4,eL image),(12,.int .i64 n),(13,.pointer (some ⟨b_2,0,none⟩)),(16,.int .i64 i),(17,.slice (some ⟨b_3,0,none⟩) 256 256),(18,.int .i64 z)]⟩) (fun z=>[⟨b_2,136,v_3⟩]) 0 (idx:=[0]) H40 E ⟨E,E,E,E,E,E,E,E,True.intro⟩ E<|fun Xx_1 hXx_1 k Sx_19 H41=>zn H41 (fun (J:Mem→Prop) (z:Unit) S=>J S) (fun z=>⟨162,[(0,.pointer (some ⟨b,o,none⟩)),(3,.int .i64 pages),(4,eL image),(12,.int .i64 n),(13,.pointer (some ⟨b_2,0,none⟩)),(16,.int .i64 i),(17,.slice (some ⟨b_3,0,none⟩) 256 256),(18,.int .i64 k)]⟩) (fun z=>[⟨b_2,136,v_3⟩]) (fun _ Sx_20 H42=>zC<|zw<|zu<|mv E E<|mv E E<|mv E E<|mv E E<|s_p E (ji E E)<|mv E E<|s_p E (qh E E)<|by obtain⟨b_6,o_3,n_1,n_2,rfl,H43⟩:=H42;exact an2 H43 fun c_16 c_17 H44=>s_p E (qS E E c_16 c_17 E)<|gx H44 fun t_4 ht_4 H45=>s_v E (zz E) (zH ht_4)<|an2 H45 fun c_18 c_19 H46=>s_p E (qS E E c_18 c_19 E)<|an H46 fun c_20 H47=>qo E E E E E c_20 E<|zr<|zU<|zt<|zu<|mv E E<|s_p E (qh E E)<|gv E E<|zr<|hXx_1 (IntKind.i64.wrap (k+1)) _ _ _ _ [0] H47 E ⟨E,E,E,E,E,E,E,E,True.intro⟩ E) (fun Jx_3 hJx_3 H48=>csr<|mv E E<|iteK H48 (fun c_21 H49=>s_p E (yT (zD E E) c_21)<|mv E E<|mv E E<|s_p E (ji E E)<|mv E E<|s_p E (qh E E)<|mv E E<|s_p E (yk E)<|iteK H49 (fun c_22 H50=>s_p E (yT (zD E E) c_22)<|pk E E E<|nx<|c_t E E<|qg<|hJx_3 () _ _ _ _ [0] H50 E ⟨E,E,E,E,E,E,E,E,True.intro⟩ E) fun c_22 H50=>s_p E (yF (zD E E) c_22)<|pk E E E<|nx<|c_f E E<|qt<|zl<|zl<|zI<|hJx_2 () _ _ _ _ [0] H50 E ⟨E,E,E,E,E,E,E,True.intro⟩ E) fun c_21 H49=>s_p E (yF (zD E E) c_21)<|mv E E<|sk4 E E E E<|sk2 E E<|zP E<|pk E E E<|nx<|c_f E E<|qt<|zl<|zl<|zI<|hJx_2 () _ _ _ _ [0] H49 E ⟨E,E,E,E,E,E,E,True.intro⟩ E)))) (fun Jx_4 hJx_4 H51=>csr<|mv E E<|mv E E<|iteK H51 (fun c_23 H52=>s_p E (yT (zD E E) c_23)<|nx<|c_t E E<|qg<|hJx_4 () _ _ _ _ [0] H52 E ⟨E,E,E,E,E,E,True.intro⟩ E) fun c_23 H52=>s_p E (yF (zD E E) c_23)<|nx<|c_f E E<|qt<|zl<|zl<|zI<|hJx v_3 _ _ _ _ [0] H52 E ⟨E,E,E,True.intro⟩ E))) (fun Jx_5 hJx_5 H53=>csr<|gv E E<|nx<|zw<|qB (fun z=>⟨162,[(0,.pointer (some ⟨b,o,none⟩)),(3,.int .i64 pages),(4,eL image),(12,.int .i64 n),(13,.pointer (some ⟨b_2,0,none⟩)),(15,.int .i64 z.1)]⟩) (fun z=>[⟨b_2,136,z.2⟩]) (0,v) (idx:=[0]) H53 E ⟨E,E,E,E,E,E,True.intro⟩ E<|by rintro Xx_2 hXx_2 ⟨i_1,v_5⟩ Sx_22 H54;exact an H54 fun hv_5 H55=>zC<|csr<|mv E E<|iteK H55 (fun c_24 H56=>s_p E (yT (zD E E) c_24)<|nx<|c_t E E<|qg<|zt<|zC<|zw<|zu<|mv E E<|zmX E E E (by decide) (by decide) (by decide) (by decide) fun b_7=>ku 1 E fun hb_7=>have H57:=H56 b_7 hb_7;s_p E (zv E E)<|an2 H57 fun c_25 c_26 H58=>s_p E (qv E E c_25 c_26 E)<|qT (sz:=1) (vs:=[.slice (some ⟨b_7,0,none⟩) 256 256]) 0 E E E E E E (wa hv_5 (by omega)) E<|zr<|zU<|zt<|zu<|mv E E<|s_p E (qh E E)<|gv E E<|zr<|hXx_2 (IntKind.i64.wrap (i_1+1),spl v_5 (5+i_1.toNat*1) ([.slice (some ⟨b_7,0,none⟩) 256 256])) _ _ _ _ [0] H58 E ⟨E,E,E,E,E,E,True.intro⟩ E) fun c_24 H56=>s_p E (yF (zD E E) c_24)<|nx<|c_f E E<|qt<|zl<|zl<|zI<|hJx_5 v_5 _ _ _ _ [0] H56 E ⟨E,E,E,E,E,True.intro⟩ E)) (fun Jx_6 hJx_6 H59=>csr<|gv E E<|nx<|zw<|qB (fun z=>⟨162,[(0,.pointer (some ⟨b,o,none⟩)),(1,.int .i64 seats),(3,.int .i64 pages),(4,eL image),(12,.int .i64 n),(13,.pointer (some ⟨b_2,0,none⟩)),(14,.int .i64 z.1)]⟩) (fun z=>[⟨b_2,136,z.2⟩]) (0,[.bool true,.slice (none) 0 0,.int .i64 quota,.int .u64 t_1,.slice (none) 0 0,.slice (none) 0 0,.slice (none) 0 0,.slice (none) 0 0,.slice (none) 0 0,.bool false,.bool false,.bool false,.bool false,.bool false,.bool false,.pointer (some ⟨b_1,0,none⟩),.bool false,.bool false,.bool false,.bool false,.bool false,.bool false,.bool false,.bool false,.bool false,.bool false,.bool false,.bool false,.bool false,.bool false,.bool false,.bool false,.bool false,.bool false,.bool false,.bool false,.bool false,.bool false,.bool false,.bool false,.bool false,.bool false,.bool false,.bool false,.bool false,.bool false,.bool false,.bool false,.bool false,.bool false,.bool false,.int .u64 0,.int .u64 0,.int .u64 0]) (idx:=[0]) H59 E ⟨E,E,E,E,E,E,E,True.intro⟩ E<|by rintro Xx_3 hXx_3 ⟨i_2,v_6⟩ Sx_24 H60;exact an H60 fun hv_6 H61=>zn H61 (fun (J:Mem→Prop) (z:Unit) S=>J S) (fun z=>⟨162,[(0,.pointer (some ⟨b,o,none⟩)),(1,.int .i64 seats),(3,.int .i64 pages),(4,eL image),(12,.int .i64 n),(13,.pointer (some ⟨b_2,0,none⟩)),(14,.int .i64 i_2)]⟩) (fun z=>[⟨b_2,136,v_6⟩]) (fun _ Sx_25 H62=>zC<|zw<|zu<|s_p E (zv E E)<|gx H62 fun t_5 ht_5 H63=>s_v E (zz E) (zW 0 E ht_5)<|s_p E (zF E E)<|by exact zgb E E (by decide) E fun b_8=>vY (sx:=t_5) (vs:=[.int .u64 0,.int .u64 0,.int .u64 0,.int .u64 0,.int .u64 0,.int .u64 0,.int .u64 0,.int .u64 0,.int .u64 0,.int .u64 0,.int .u64 0,.int .u64 0,.int .u64 0,.int .u64 0,.int .u64 0,.int .u64 0,.int .u64 0,.int .u64 0,.int .u64 0,.int .u64 0,.int .u64 0,.int .u64 0,.bool false,.int .u8 0,.int .u32 0,.int .u32 0]) E E E (zgc 1 E E) E E (by decide) H63 fun t_6 Sx_26 H64=>s_p E (zv E E)<|qT (sz:=1) (vs:=[eL t_6]) 0 E E E E E E (wa hv_6 (by omega)) E<|zr<|zU<|zt<|zu<|mv E E<|s_p E (qh E E)<|gv E E<|zr<|hXx_3 (IntKind.i64.wrap (i_2+1),spl v_6 1 ([eL t_6])) _ _ _ _ [0] H64 E ⟨E,E,E,E,E,E,E,True.intro⟩ E) (fun Jx_7 hJx_7 H65=>csr<|mv E E<|mv E E<|iteK H65 (fun c_27 H66=>s_p E (yT (zD E E) c_27)<|nx<|c_t E E<|qg<|hJx_7 () _ _ _ _ [0] H66 E ⟨E,E,E,E,E,E,E,True.intro⟩ E) fun c_27 H66=>s_p E (yF (zD E E) c_27)<|nx<|c_f E E<|qt<|zl<|zl<|zI<|hJx_6 v_6 _ _ _ _ [0] H66 E ⟨E,E,E,E,E,True.intro⟩ E))) (fun Jx_8 hJx_8 H67=>csr<|mv E E<|by obtain⟨b_9,o_4,rfl,H68⟩:=H67;exact s_p E (zJ E)<|s_p E (zv E E)<|gx H68 fun t_7 ht_7 H69=>s_v E (zz E) (zH ht_7)<|mv E E<|s_p E (qh E E)<|iteK H69 (fun c_28 H70=>s_p E (yT (zD E E) c_28)<|nx<|c_t E E<|csr<|gv E E<|gv E E<|nx<|zi<|zb<|zh Tryz.results19 (zd E (zd E ze)) ⟨_,_,E,H70⟩) fun c_28 H70=>s_p E (yF (zD E E) c_28)<|nx<|cfs E E<|hJx_8 () _ _ _ _ [] H70 E ⟨E,E,E,E,E,E,True.intro⟩ E)) (fun Jx_9 hJx_9 H71=>csr<|mv E E<|iteK H71 (fun c_29 H72=>ceT E E E (c_29)<|nx<|c_t E E<|csr<|gv E E<|gv E E<|nx<|zi<|zb<|zh Tryz.results19 (zd E (zd E ze)) ⟨_,_,E,H72⟩) fun c_29 H72=>ceF E E E (c_29)<|nx<|cfs E E<|hJx_9 () _ _ _ _ [] H72 E ⟨E,E,E,E,E,E,True.intro⟩ E)) (fun Jx_10 hJx_10 H73=>zw<|qB (fun z=>⟨162,[(0,eP x),(1,.int .i64 seats),(2,.int .i64 quota),(3,.int .i64 pages),(4,eL image),(12,.int .i64 z)]⟩) (fun z=>[]) 0 (idx:=[]) H73 E ⟨E,E,E,E,E,E,True.intro⟩ E<|fun Xx_4 hXx_4 n_3 Sx_27 H74=>zC<|csr<|mv E E<|iteK H74 (fun c_30 H75=>s_p E (yT (zD E E) c_30)<|mv E E<|mv E E<|mv E E<|by obtain⟨b_10,o_5,rfl,H76⟩:=H75;exact s_p E (zJ E)<|s_p E (zv E E)<|an2 H76 fun c_31 c_32 H77=>s_p E (qv E E c_31 c_32 E)<|s_p E (zv E E)<|gx H77 fun t_8 ht_8 H78=>by have H79:=wM H78;rcases H79 with ⟨rfl,H80⟩ | ⟨rfl,H80⟩;exact (s_v E (zz E) (zH ht_8)<|pk E E E<|nx<|c_t E E<|qg<|zt<|zw<|zu<|mv E E<|s_p E (qh E E)<|gv E E<|zr<|zU<|hXx_4 (IntKind.i64.wrap (n_3+1)) _ _ _ _ [] H80 E ⟨E,E,E,E,E,E,True.intro⟩ E);exact (s_v E (zz E) (zH ht_8)<|pk E E E<|nx<|c_f E E<|qt<|zl<|zl<|zI<|hJx_10 n_3 _ _ _ _ [] H80 E ⟨E,E,E,E,E,E,True.intro⟩ E)) fun c_30 H75=>s_p E (yF (zD E E) c_30)<|mv E E<|sk4 E E E E<|sk2 E E<|zP E<|pk E E E<|nx<|c_f E E<|qt<|zl<|zl<|zI<|hJx_10 n_3 _ _ _ _ [] H75 E ⟨E,E,E,E,E,E,True.intro⟩ E)) (fun Jx_11 hJx_11 H81=>csr<|mv E E<|s_p E (yk E)<|mv E E<|s_p E (ji E E)<|iteK H81 (fun c_33 H82=>s_p E (yT (xu E E) c_33)<|nx<|c_t E E<|csr<|gv E E<|gv E E<|nx<|zi<|zb<|zh Tryz.results19 (zd E (zd E ze)) ⟨_,_,E,H82⟩) fun c_33 H82=>s_p E (yF (xu E E) c_33)<|nx<|cfs E E<|hJx_11 () _ _ _ _ [] H82 E ⟨E,E,E,E,E,True.intro⟩ E)) (fun Jx_12 hJx_12 H83=>csr<|mv E E<|iteK H83 (fun c_34 H84=>s_p E (yT (zD E E) c_34)<|mv E E<|sk2 E E<|pk E E E<|mv E E<|sk2 E E<|pk E E E<|mv E E<|sk2 E E<|pk E E E<|mv E E<|sk2 E E<|pk E E E<|mv E E<|sk2 E E<|zP E<|pk E E E<|nx<|c_t E E<|csr<|gv E E<|gv E E<|nx<|zi<|zb<|zh Tryz.results19 (zd E (zd E ze)) ⟨_,_,E,H84⟩) fun c_34 H84=>s_p E (yF (zD E E) c_34)<|mv E E<|mv E E<|iteK H84 (fun c_35 H85=>s_p E (yT (xu E E) c_35)<|pk E E E<|mv E E<|sk2 E E<|pk E E E<|mv E E<|sk2 E E<|pk E E E<|mv E E<|sk2 E E<|pk E E E<|mv E E<|sk2 E E<|zP E<|pk E E E<|nx<|c_t E E<|csr<|gv E E<|gv E E<|nx<|zi<|zb<|zh Tryz.results19 (zd E (zd E ze)) ⟨_,_,E,H85⟩) fun c_35 H85=>s_p E (yF (xu E E) c_35)<|pk E E E<|mv E E<|mv E E<|iteK H85 (fun c_36 H86=>s_p E (yT (zD E E) c_36)<|pk E E E<|mv E E<|sk2 E E<|pk E E E<|mv E E<|sk2 E E<|pk E E E<|mv E E<|sk2 E E<|zP E<|pk E E E<|nx<|c_t E E<|csr<|gv E E<|gv E E<|nx<|zi<|zb<|zh Tryz.results19 (zd E (zd E ze)) ⟨_,_,E,H86⟩) fun c_36 H86=>s_p E (yF (zD E E) c_36)<|pk E E E<|mv E E<|mv E E<|iteK H86 (fun c_37 H87=>s_p E (yT (xu E E) c_37)<|pk E E E<|mv E E<|sk2 E E<|pk E E E<|mv E E<|sk2 E E<|zP E<|pk E E E<|nx<|c_t E E<|csr<|gv E E<|gv E E<|nx<|zi<|zb<|zh Tryz.results19 (zd E (zd E ze)) ⟨_,_,E,H87⟩) fun c_37 H87=>s_p E (yF (xu E E) c_37)<|pk E E E<|mv E E<|mv E E<|iteK H87 (fun c_38 H88=>s_p E (yT (zD E E) c_38)<|pk E E E<|mv E E<|sk2 E E<|zP E<|pk E E E<|nx<|c_t E E<|csr<|gv E E<|gv E E<|nx<|zi<|zb<|zh Tryz.results19 (zd E (zd E ze)) ⟨_,_,E,H88⟩) fun c_38 H88=>s_p E (yF (zD E E) c_38)<|pk E E E<|mv E E<|mv E E<|mv E E<|iteK H88 (fun c_39 H89=>s_p E (yT (xu E E) c_39)<|pk E E E<|nx<|c_t E E<|csr<|gv E E<|gv E E<|nx<|zi<|zb<|zh Tryz.results19 (zd E (zd E ze)) ⟨_,_,E,H89⟩) fun c_39 H89=>s_p E (yF (xu E E) c_39)<|pk E E E<|nx<|cfs E E<|hJx_12 () _ _ _ _ [] H89 E ⟨E,E,E,E,E,True.intro⟩ E)
def yj (S:Mem) (x:Pt) (n:Int) (Q:Int→Mem→Prop):Prop:=
 jn (fun (Sx:Mem)=>
 jn (fun (Sx_1:Mem)=>
 nn x fun b o=>
 gI (Sx_1.cell b (o+1)) .i64 fun t=>
 yc Sx_1 (some (b,o)) n fun t_1 Sx_2=>
 Sx_2.cell b (o+1)=some (.int .i64 t) ∧
 pt Sx_2 b (o+1) 1 ([.int .i64 (IntKind.i64.wrap (t+(IntKind.i64.wrap (5+t_1))))]) fun Sx_3=>
 0≤n∧n<6 ∧
 pt Sx_3 b (o+2+n.toNat*54) 54 ([.bool false,.slice (none) 0 0,.int .i64 0,.int .u64 0,.slice (none) 0 0,.slice (none) 0 0,.slice (none) 0 0,.slice (none) 0 0,.slice (none) 0 0,.bool false,.bool false,.bool false,.bool false,.bool false,.bool false,.pointer none,.bool false,.bool false,.bool false,.bool false,.bool false,.bool false,.bool false,.bool false,.bool false,.bool false,.bool false,.bool false,.bool false,.bool false,.bool false,.bool false,.bool false,.bool false,.bool false,.bool false,.bool false,.bool false,.bool false,.bool false,.bool false,.bool false,.bool false,.bool false,.bool false,.bool false,.bool false,.bool false,.bool false,.bool false,.bool false,.int .u64 0,.int .u64 0,.int .u64 0]) fun Sx_4=>
 jn (fun (Sx_5:Mem)=>
 Q 0 Sx_5) fun Jx=>
 lp (fun Xx (i:Int) (Sx_6:Mem)=>
 if i<6 then
 0≤i∧i<6 ∧
 0≤n∧n<6 ∧
 pt Sx_6 b (o+2+i.toNat*54+9+n.toNat*1) 1 ([.bool false]) fun Sx_7=>
 Xx (IntKind.i64.wrap (i+1)) Sx_7
 else
 Jx Sx_6) 0 Sx_4) fun Jx_1=>
 lp (fun Xx_1 (i_1:Int) (Sx_8:Mem)=>
 jn (fun (Sx_9:Mem)=>
 jn (fun (Sx_10:Mem)=>
 Xx_1 (IntKind.i64.wrap (i_1+1)) Sx_10) fun Jx_2=>
 nn x fun b_1 o_1=>
 0≤i_1∧i_1<16 ∧
 gA (Sx_9.part b_1 (o_1+326+i_1.toNat*6) 6) fun t_2=>
 t_2.all (·.oneCell')=true ∧
 jn (fun (t_3:Bool) (Sx_11:Mem)=>
 if t_3=true then
 jn (fun (Sx_12:Mem)=>
 0≤i_1∧i_1<16 ∧
 pt Sx_12 b_1 (o_1+326+i_1.toNat*6) 6 ([.bool false,.int .i64 0,.int .i64 0,.int .i64 0,.bool false,.int .i64 0]) fun Sx_13=>
 Jx_2 Sx_13) fun Jx_3=>
 gI (nthL t_2 5) .i64 fun t_4=>
 if 0≤t_4 then
 gI (nthL t_2 3) .i64 fun t_5=>
 gI (nthL t_2 5) .i64 fun t_6=>
 zae Sx_11 (some (b_1,o_1)) t_5 t_6 fun Sx_14=>
 Jx_3 Sx_14
 else
 Jx_3 Sx_11
 else
 Jx_2 Sx_11) fun Jx_4=>
 gB (nthL t_2 0) fun t_7=>
 if t_7=true then
 gI (nthL t_2 1) .i64 fun t_8=>
 if t_8=n then
 Jx_4 true Sx_9
 else
 gI (nthL t_2 3) .i64 fun t_9=>
 if t_9=n then
 Jx_4 true Sx_9
 else
 Jx_4 false Sx_9
 else
 Jx_4 false Sx_9) fun Jx_5=>
 if i_1<16 then
 Jx_5 Sx_8
 else
 Jx_1 Sx_8) 0 Sx) fun Jx_6=>
 xb S x n fun t_10 Sx_15=>
 if t_10=true then
 Jx_6 Sx_15
 else
 Q 2 Sx_15
theorem jj {S:Mem} {x:Pt} {n:Int} {Q:Int→Mem→Prop} (H:yj S x n Q):qQ S x n Q:=by
 unfold yj at H
 exact Tr.intro Tryz.func39 E Tryz.ntmps39 E fun w0=>csr<|gv E E<|nx<|zn H (fun (J:Mem→Prop) (z:Unit) S=>J S) (fun z=>⟨80,[(0,eP x),(1,.int .i64 n)]⟩) (fun z=>[]) (fun _ Sx H1=>zn H1 (fun (J:Mem→Prop) (z:Unit) S=>J S) (fun z=>⟨80,[(0,eP x),(1,.int .i64 n)]⟩) (fun z=>[]) (fun _ Sx_1 H2=>zC<|zM (by kernel_rfl)<|aTP 0 E (by decide +kernel) E (zm E)<|by exact by obtain⟨b,o,rfl,H3⟩:=H2;exact aTP 1 E (by decide +kernel) E (zJ E)<|by exact aTP 2 E (by decide +kernel) E (zv E E)<|by exact gx H3 fun t ht H4=>aT 3 E (by decide +kernel) E (zz E) (zH ht)<|by exact aTP 4 E (by decide +kernel) E (zm E)<|by exact aTP 5 E (by decide +kernel) E (zm E)<|by exact zB 6 (by decide +kernel) E<|by exact qC E E H4 fun t_1 Sx_2 H5=>by obtain⟨k,H6⟩:=H5;exact zr<|zN (zx (zH k) zy)<|aTP 7 E (by decide +kernel) E (qh E E)<|by exact aTP 8 E (by decide +kernel) E (qh E E)<|by exact aTP 9 E (by decide +kernel) E (zJ E)<|by exact aTP 10 E (by decide +kernel) E (zv E E)<|by exact zB 11 (by decide +kernel) E<|by exact an H6 fun c H7=>qo E E E E E c E<|zr<|zN zy<|zK (by decide +kernel)<|by exact zt<|csr<|mv E E<|mv E E<|s_p E (zF E E)<|by exact s_p E (zJ E)<|s_p E (zv E E)<|an2 H7 fun c_1 c_2 H8=>s_p E (qv E E c_1 c_2 E)<|an H8 fun c_3 H9=>qo E E E E E c_3 E<|nx<|zn H9 (fun (J:Mem→Prop) (z:Unit) S=>J S) (fun z=>⟨80,[]⟩) (fun z=>[]) (fun _ Sx_5 H10=>csr<|gv E E<|nx<|zi<|zh Tryz.results39 (zd E ze) ⟨_,E,H10⟩) (fun Jx hJx H11=>csr<|gv E E<|nx<|zw<|qB (fun z=>⟨80,[(0,.pointer (some ⟨b,o,none⟩)),(1,.int .i64 n),(7,.int .i64 z)]⟩) (fun z=>[]) 0 (idx:=[]) H11 E ⟨E,E,E,True.intro⟩ E<|fun Xx hXx i Sx_6 H12=>zC<|csr<|mv E E<|iteK H12 (fun c_4 H13=>s_p E (yT (zD E E) c_4)<|nx<|c_t E E<|qg<|zt<|zC<|zw<|zu<|mv E E<|mv E E<|mv E E<|s_p E (zJ E)<|s_p E (zv E E)<|an2 H13 fun c_5 c_6 H14=>s_p E (qv E E c_5 c_6 E)<|s_p E (zv E E)<|an2 H14 fun c_7 c_8 H15=>s_p E (qv E E c_7 c_8 E)<|an H15 fun c_9 H16=>qo E E E E E c_9 E<|zr<|zU<|zt<|zu<|mv E E<|s_p E (qh E E)<|gv E E<|zr<|hXx (IntKind.i64.wrap (i+1)) _ _ _ _ [] H16 E ⟨E,E,E,True.intro⟩ E) fun c_4 H13=>s_p E (yF (zD E E) c_4)<|nx<|c_f E E<|qt<|zl<|zl<|zI<|hJx () _ _ _ _ [] H13 E True.intro E)) (fun Jx_1 hJx_1 H17=>csr<|gv E E<|nx<|zw<|qB (fun z=>⟨80,[(0,eP x),(1,.int .i64 n),(5,.int .i64 z)]⟩) (fun z=>[]) 0 (idx:=[]) H17 E ⟨E,E,E,True.intro⟩ E<|fun Xx_1 hXx_1 i_1 Sx_8 H18=>zn H18 (fun (J:Mem→Prop) (z:Unit) S=>J S) (fun z=>⟨80,[(0,eP x),(1,.int .i64 n),(5,.int .i64 i_1)]⟩) (fun z=>[]) (fun _ Sx_9 H19=>zn H19 (fun (J:Mem→Prop) (z:Unit) S=>J S) (fun z=>⟨80,[(0,eP x),(1,.int .i64 n),(5,.int .i64 i_1)]⟩) (fun z=>[]) (fun _ Sx_10 H20=>zu<|mv E E<|s_p E (qh E E)<|gv E E<|zr<|hXx_1 (IntKind.i64.wrap (i_1+1)) _ _ _ _ [] H20 E ⟨E,E,E,True.intro⟩ E) (fun Jx_2 hJx_2 H21=>zw<|csr<|mv E E<|mv E E<|by obtain⟨b_1,o_1,rfl,H22⟩:=H21;exact s_p E (zJ E)<|s_p E (zv E E)<|an2 H22 fun c_10 c_11 H23=>s_p E (qv E E c_10 c_11 E)<|gx H23 fun t_2 ht_2 H24=>by refine s_v E (zT E (zG ht_2)) (yi ht_2) ?_;exact by refine zL E fun b_2=>?_;exact an H24 fun c_12 H25=>zp 0 E E E E E (zG ht_2) E c_12<|nx<|zn H25 (fun (J:Bool→Mem→Prop) (z:Bool) S=>J z S) (fun z=>⟨80,[(0,.pointer (some ⟨b_1,o_1,none⟩)),(1,.int .i64 n),(5,.int .i64 i_1),(6,.pointer (some ⟨b_2,0,none⟩)),(35,.bool z)]⟩) (fun z=>[⟨b_2,138,t_2⟩]) (fun t_3 Sx_11 H26=>by have H27:=wM H26;rcases H27 with ⟨c_13,H28⟩ | ⟨c_13,H28⟩;exact (c_t E c_13<|zn H28 (fun (J:Mem→Prop) (z:Unit) S=>J S) (fun z=>⟨80,[(0,.pointer (some ⟨b_1,o_1,none⟩)),(1,.int .i64 n),(5,.int .i64 i_1)]⟩) (fun z=>[]) (fun _ Sx_12 H29=>zu<|mv E E<|mv E E<|s_p E (zF E E)<|by exact s_p E (zJ E)<|s_p E (zv E E)<|an2 H29 fun c_14 c_15 H30=>s_p E (qv E E c_14 c_15 E)<|an H30 fun c_16 H31=>qo E E E E E c_16 E<|zr<|zU<|hJx_2 () _ _ _ _ [] H31 E ⟨E,E,E,True.intro⟩ E) (fun Jx_3 hJx_3 H32=>csr<|s_p E (zv E E)<|gx H32 fun t_4 ht_4 H33=>s_v E (zz E) (zW 0 E ht_4)<|iteK H33 (fun c_17 H34=>s_p E (yT (qj E E) c_17)<|nx<|ctr E E<|mv E E<|s_p E (zv E E)<|gx H34 fun t_5 ht_5 H35=>s_v E (zz E) (zW 0 E ht_5)<|s_p E (zv E E)<|gx H35 fun t_6 ht_6 H36=>s_v E (zz E) (zW 0 E ht_6)<|fK E E H36 fun Sx_14 H37=>zr<|hJx_3 () _ _ _ _ [] H37 E ⟨E,E,E,True.intro⟩ E) fun c_17 H34=>s_p E (yF (qj E E) c_17)<|nx<|cfs E E<|hJx_3 () _ _ _ _ [] H34 E ⟨E,E,E,True.intro⟩ E));exact (c_f E c_13<|qg<|zU<|hJx_2 () _ _ _ _ [] H28 E ⟨E,E,E,True.intro⟩ E)) (fun Jx_4 hJx_4 H38=>zu<|s_p E (zv E E)<|gx H38 fun t_7 ht_7 H39=>by have H40:=wM H39;rcases H40 with ⟨rfl,H41⟩ | ⟨rfl,H41⟩;exact (s_v E (zz E) (zW 0 E ht_7)<|mv E E<|s_p E (zv E E)<|gx H41 fun t_8 ht_8 H42=>s_v E (zz E) (zW 0 E ht_8)<|mv E E<|iteK H42 (fun c_18 H43=>ceT E E E (c_18)<|mv E E<|sk4 E E E E<|pk E E E<|pk E E E<|zr<|hJx_4 true _ _ _ _ [0] H43 E ⟨E,E,E,E,E,True.intro⟩ E) fun c_18 H43=>ceF E E E (c_18)<|mv E E<|s_p E (zv E E)<|gx H43 fun t_9 ht_9 H44=>s_v E (zz E) (zW 0 E ht_9)<|mv E E<|iteK H44 (fun c_19 H45=>ceT E E E (c_19)<|pk E E E<|pk E E E<|zr<|hJx_4 true _ _ _ _ [0] H45 E ⟨E,E,E,E,E,True.intro⟩ E) fun c_19 H45=>ceF E E E (c_19)<|pk E E E<|pk E E E<|zr<|hJx_4 false _ _ _ _ [0] H45 E ⟨E,E,E,E,E,True.intro⟩ E);exact (s_v E (zz E) (zW 0 E ht_7)<|mv E E<|sk8 E E E E E E E E<|sk2 E E<|pk E E E<|zr<|hJx_4 false _ _ _ _ [0] H41 E ⟨E,E,E,E,E,True.intro⟩ E)))) (fun Jx_5 hJx_5 H46=>csr<|mv E E<|iteK H46 (fun c_20 H47=>s_p E (yT (zD E E) c_20)<|nx<|c_t E E<|qg<|hJx_5 () _ _ _ _ [] H47 E ⟨E,E,E,True.intro⟩ E) fun c_20 H47=>s_p E (yF (zD E E) c_20)<|nx<|c_f E E<|qt<|zl<|zl<|zI<|hJx_1 () _ _ _ _ [] H47 E ⟨E,E,True.intro⟩ E))) (fun Jx_6 hJx_6 H48=>csr<|mv E E<|mv E E<|qC E E H48 fun t_10 Sx_15 H49=>by have H50:=wM H49;rcases H50 with ⟨rfl,H51⟩ | ⟨rfl,H51⟩;exact (s_p E (yB (ql E) E)<|nx<|cfs E E<|hJx_6 () _ _ _ _ [] H51 E ⟨E,E,True.intro⟩ E);exact (s_p E (yB (ql E) E)<|nx<|c_t E E<|csr<|gv E E<|nx<|zi<|zb<|zh Tryz.results39 (zd E ze) ⟨_,E,H51⟩))
def yy (S:Mem) (x:Pt) (n:Int) (Q:Bool→Mem→Prop):Prop:=
 if 0≤n then
 if n<6 then
 nn x fun b o=>
 0≤n∧n<6 ∧
 gB (S.cell b (o+2+n.toNat*54)) fun t=>
 Q t S
 else
 Q false S
 else
 Q false S
theorem jN {S:Mem} {x:Pt} {n:Int} {Q:Bool→Mem→Prop} (H:yy S x n Q):xb S x n Q:=by
 unfold yy at H
 exact Tr.intro Tryz.func59 E Tryz.ntmps59 E fun w0=>csr<|gv E E<|nxr<|mv E E<|iteK H (fun c H1=>s_p E (yT (qj E E) c)<|mv E E<|mv E E<|iteK H1 (fun c_1 H2=>s_p E (yT (zD E E) c_1)<|pk E E E<|mv E E<|mv E E<|mv E E<|by obtain⟨b,o,rfl,H3⟩:=H2;exact s_p E (zJ E)<|s_p E (zv E E)<|an2 H3 fun c_2 c_3 H4=>s_p E (qv E E c_2 c_3 E)<|s_p E (zv E E)<|gx H4 fun t ht H5=>s_v E (zz E) (zH ht)<|pk E E E<|gv E E<|nx<|zi<|zh Tryz.results59 (zd E ze) ⟨_,E,H5⟩) fun c_1 H2=>s_p E (yF (zD E E) c_1)<|pk E E E<|mv E E<|sk4 E E E E<|sk2 E E<|zP E<|pk E E E<|gv E E<|nx<|zi<|zh Tryz.results59 (zd E ze) ⟨_,E,H2⟩) fun c H1=>s_p E (yF (qj E E) c)<|mv E E<|sk2 E E<|pk E E E<|mv E E<|sk4 E E E E<|sk2 E E<|zP E<|pk E E E<|gv E E<|nx<|zi<|zh Tryz.results59 (zd E ze) ⟨_,E,H1⟩
def yz (S:Mem) (x:Pt) (n:Int) (Q:Int→Mem→Prop):Prop:=
 jn (fun (k:Int) (Sx:Mem)=>
 Q k Sx) fun Jx=>
 lp (fun Xx (z:Int×Int) (Sx_1:Mem)=>
 match z with
 | (k_1,i)=>
 jn (fun (Sx_2:Mem)=>
 nn x fun b o=>
 0≤n∧n<6 ∧
 0≤i∧i<32 ∧
 gB (Sx_2.cell b (o+2+n.toNat*54+16+i.toNat*1)) fun t=>
 if t=true then
 Xx (IntKind.i64.wrap (k_1+1),IntKind.i64.wrap (i+1)) Sx_2
 else
 Xx (k_1,IntKind.i64.wrap (i+1)) Sx_2) fun Jx_1=>
 if i<32 then
 Jx_1 Sx_1
 else
 Jx k_1 Sx_1) (0,0) S
theorem jO {S:Mem} {x:Pt} {n:Int} {Q:Int→Mem→Prop} (H:yz S x n Q):yc S x n Q:=by
 unfold yz at H
 exact Tr.intro Tryz.func83 E Tryz.ntmps83 E fun w0=>csr<|gv E E<|nxr<|gv E E<|nx<|zn H (fun (J:Int→Mem→Prop) (z:Int) S=>J z S) (fun z=>⟨23,[(5,.int .i64 z)]⟩) (fun z=>[]) (fun k Sx H1=>csr<|mv E E<|gv E E<|nx<|zi<|zh Tryz.results83 (zd E ze) ⟨_,E,H1⟩) (fun Jx hJx H2=>csr<|gv E E<|nx<|zw<|qB (fun z=>⟨23,[(0,eP x),(1,.int .i64 n),(5,.int .i64 z.1),(6,.int .i64 z.2)]⟩) (fun z=>[]) (0,0) (idx:=[]) H2 E ⟨E,E,E,E,True.intro⟩ E<|by rintro Xx hXx ⟨k_1,i⟩ Sx_1 H3;exact zn H3 (fun (J:Mem→Prop) (z:Unit) S=>J S) (fun z=>⟨23,[(0,eP x),(1,.int .i64 n),(5,.int .i64 k_1),(6,.int .i64 i)]⟩) (fun z=>[]) (fun _ Sx_2 H4=>zC<|zw<|csr<|mv E E<|mv E E<|mv E E<|by obtain⟨b,o,rfl,H5⟩:=H4;exact s_p E (zJ E)<|s_p E (zv E E)<|an2 H5 fun c c_1 H6=>s_p E (qv E E c c_1 E)<|s_p E (zv E E)<|an2 H6 fun c_2 c_3 H7=>s_p E (qv E E c_2 c_3 E)<|gx H7 fun t ht H8=>by have H9:=wM H8;rcases H9 with ⟨rfl,H10⟩ | ⟨rfl,H10⟩;exact (s_v E (zz E) (zH ht)<|nx<|ctr E E<|mv E E<|s_p E (qh E E)<|gv E E<|zr<|zU<|zt<|zu<|mv E E<|s_p E (qh E E)<|gv E E<|zr<|hXx (IntKind.i64.wrap (k_1+1),IntKind.i64.wrap (i+1)) _ _ _ _ [] H10 E ⟨E,E,E,E,True.intro⟩ E);exact (s_v E (zz E) (zH ht)<|nx<|cfs E E<|zU<|zt<|zu<|mv E E<|s_p E (qh E E)<|gv E E<|zr<|hXx (k_1,IntKind.i64.wrap (i+1)) _ _ _ _ [] H10 E ⟨E,E,E,E,True.intro⟩ E)) (fun Jx_1 hJx_1 H11=>csr<|mv E E<|iteK H11 (fun c_4 H12=>s_p E (yT (zD E E) c_4)<|nx<|c_t E E<|qg<|hJx_1 () _ _ _ _ [] H12 E ⟨E,E,E,E,True.intro⟩ E) fun c_4 H12=>s_p E (yF (zD E E) c_4)<|nx<|c_f E E<|qt<|zl<|zl<|zI<|hJx k_1 _ _ _ _ [] H12 E ⟨E,True.intro⟩ E))
end Go.Proofs.YtabdpmnhjlmnlaaGreatDoor
end
section
namespace Go.Proofs.YtabdpmnhjlmnlaaGreatDoor
open Go Go.Pt
attribute [local irreducible] Code.wp Back bodyPost wpList FR WL WC WQ WA AW Tr Yc HC AllC
set_option maxRecDepth 20000
set_option maxHeartbeats 4000000
set_option linter.unusedVariables false
end Go.Proofs.YtabdpmnhjlmnlaaGreatDoor
end
section
namespace Go.Cr
open Go Go.Pt
structure RM (S:Mem) (b o:Nat) (A:Nat→Nat) (g:GM):Prop where
 pg:∀ p f w,g.map p=some (f,w)→S.cell b (o+p)=some (eL ⟨some (A f,0),256,256⟩)∧S.cell b (o+32+p)=some (.bool w)∧S (A f)=some (bw 5 (bL (g.dat f)))
 no:∀ p,p<32→g.map p=none→∃ sl:Sl,S.cell b (o+p)=some (eL sl)∧sl.n=0
structure RBus (m:Pt) (I:Mem→Rho→GM→Prop) (R:Nat→Prop):Prop where
 rg:∀ {S ρ g},I S ρ g→∀ b r,ρ b=some r→S b≠none
 ok:∀ {S ρ g},I S ρ g→g.Ok
 kp:∀ {S ρ g S'},I S ρ g→Keeps S S' []→I S' ρ g
 at_:∀ {S ρ g},I S ρ g→∃ b o A,m=some (b,o)∧RM S b o A g ∧
  ∀ p f,g.map p=some (f,true)→∀ off l,off+l.length≤256→Byt l→A f≠b∧I (S.set (A f) (bw 5 (bL ((wrB g f off l).dat f)))) ρ (wrB g f off l)∧Mv S ρ (S.set (A f) (bw 5 (bL ((wrB g f off l).dat f)))) ρ R
theorem By.nil {S:Mem}:By S ⟨none,0,0⟩ []:=⟨rfl,Nat.le_refl _,fun _ h=>by simp at h,.inl rfl⟩
end Go.Cr
namespace Go.Proofs.YtabdpmnhjlmnlaaGreatDoor
open Go Go.Pt Go.Cr
section
variable {S:Mem}
variable {m:Pt} {I:Mem→Rho→GM→Prop} {R:Nat→Prop} {ρ:Rho} {g:GM} {s:Seat}
end
end Go.Proofs.YtabdpmnhjlmnlaaGreatDoor
end
section
namespace Go.Cr
open Go Go.Pt
end Go.Cr
namespace Go.Proofs.YtabdpmnhjlmnlaaGreatDoor
open Go Go.Pt Go.Cr
section
variable {m:Pt} {I:Mem→Rho→GM→Prop} {R:Nat→Prop} {S:Mem} {ρ:Rho} {g:GM} {s:Seat}
end
end Go.Proofs.YtabdpmnhjlmnlaaGreatDoor
end
section
namespace Go.Cr
open Go Go.Pt
end Go.Cr
namespace Go.Proofs.YtabdpmnhjlmnlaaGreatDoor
open Go Go.Pt Go.Cr
section
variable {m:Pt} {I:Mem→Rho→GM→Prop} {R:Nat→Prop} {S:Mem} {ρ:Rho} {g:GM} {s:Seat}
end
end Go.Proofs.YtabdpmnhjlmnlaaGreatDoor
end
section
namespace Go.Proofs.YtabdpmnhjlmnlaaGreatDoor
open Go Go.Pt Go.Cr
def rdoB (Sx_4:Mem) (s:Seat) (m:Pt) (time me k x y z n:Int) (v_2:List Value) (Q:List Value→Int→Int→Mem→Prop):Prop:=
 v_2.length=26 ∧
 0≤x∧x<16 ∧
 gI (nthL s.L (0+x.toNat*1)) .u64 fun t=>
 0≤y∧y<16 ∧
 gI (nthL s.L (0+y.toNat*1)) .u64 fun t_1=>
 0≤z∧z<16 ∧
 gI (nthL s.L (0+z.toNat*1)) .u64 fun t_2=>
 gI (nthL s.L 16) .u64 fun t_3=>
 jn (fun (next:Int) (s_2:List Value) (v_3:List Value) (Sx_5:Mem)=>
  s_2.length=26 ∧
  v_3.length=26 ∧
  (spl s_2 16 ([.int .u64 next])).all (·.oneCell')=true ∧
  Q (spl s_2 16 ([.int .u64 next])) 0 0 Sx_5) fun Jx=>
 if k=1 then
  0≤x∧x<16 ∧
  Jx (IntKind.u64.wrap (t_3+4)) (spl s.L (0+x.toNat*1) ([.int .u64 (IntKind.u64.wrap (IntKind.i64.wrap n))])) v_2 Sx_4
 else
 if k=2 then
  0≤x∧x<16 ∧
  Jx (IntKind.u64.wrap (t_3+4)) (spl s.L (0+x.toNat*1) ([.int .u64 (IntKind.u64.wrap ((Int.tmod t 65536)+(IntKind.u64.wrap ((IntKind.u64.wrap (IntKind.i64.wrap n))*65536))))])) v_2 Sx_4
 else
 if k=3 then
  0≤x∧x<16 ∧
  Jx (IntKind.u64.wrap (t_3+4)) (spl s.L (0+x.toNat*1) ([.int .u64 (IntKind.u64.wrap (t_1+t_2))])) v_2 Sx_4
 else
 if k=4 then
  0≤x∧x<16 ∧
  Jx (IntKind.u64.wrap (t_3+4)) (spl s.L (0+x.toNat*1) ([.int .u64 (IntKind.u64.wrap (t_1-t_2))])) v_2 Sx_4
 else
 if k=5 then
  0≤x∧x<16 ∧
  Jx (IntKind.u64.wrap (t_3+4)) (spl s.L (0+x.toNat*1) ([.int .u64 (IntKind.u64.wrap (t_1*t_2))])) v_2 Sx_4
 else
 if k=6 then
  0≤x∧x<16 ∧
  Jx (IntKind.u64.wrap (t_3+4)) (spl s.L (0+x.toNat*1) ([.int .u64 (iand .u64 t_1 t_2)])) v_2 Sx_4
 else
 if k=7 then
  0≤x∧x<16 ∧
  Jx (IntKind.u64.wrap (t_3+4)) (spl s.L (0+x.toNat*1) ([.int .u64 (ior .u64 t_1 t_2)])) v_2 Sx_4
 else
 if k=8 then
  0≤x∧x<16 ∧
  Jx (IntKind.u64.wrap (t_3+4)) (spl s.L (0+x.toNat*1) ([.int .u64 (ixor .u64 t_1 t_2)])) v_2 Sx_4
 else
 if k=9 then
  0≤Int.tmod t_2 64 ∧
  0≤x∧x<16 ∧
  Jx (IntKind.u64.wrap (t_3+4)) (spl s.L (0+x.toNat*1) ([.int .u64 (ishl .u64 t_1 (Int.tmod t_2 64))])) v_2 Sx_4
 else
 if k=10 then
  0≤Int.tmod t_2 64 ∧
  0≤x∧x<16 ∧
  Jx (IntKind.u64.wrap (t_3+4)) (spl s.L (0+x.toNat*1) ([.int .u64 (ishr .u64 t_1 (Int.tmod t_2 64))])) v_2 Sx_4
 else
 if k=11 then
  0≤x∧x<16 ∧
  Jx (IntKind.u64.wrap (t_3+4)) (spl s.L (0+x.toNat*1) ([.int .u64 (IntKind.u64.wrap (t_1+(IntKind.u64.wrap (IntKind.i64.wrap n))))])) v_2 Sx_4
 else
 if k=12 then
  zaC Sx_4 s.L m (IntKind.u64.wrap (t_1+(IntKind.u64.wrap (IntKind.i64.wrap n)))) 8 fun t_4 t_5 Sx_6=>
  if t_5=true then
  0≤x∧x<16 ∧
  Jx (IntKind.u64.wrap (t_3+4)) (spl s.L (0+x.toNat*1) ([.int .u64 t_4])) v_2 Sx_6
  else
  yx Sx_6 s.L 3 (IntKind.u64.wrap (t_1+(IntKind.u64.wrap (IntKind.i64.wrap n)))) fun t_6 t_7 t_8 Sx_7=>
  t_6.all (·.oneCell')=true ∧
  Q t_6 t_7 t_8 Sx_7
 else
 if k=13 then
  zaB Sx_4 s.L m (IntKind.u64.wrap (t_1+(IntKind.u64.wrap (IntKind.i64.wrap n)))) t fun t_9 Sx_8=>
  if t_9=true then
  Jx (IntKind.u64.wrap (t_3+4)) s.L v_2 Sx_8
  else
  yx Sx_8 s.L 4 (IntKind.u64.wrap (t_1+(IntKind.u64.wrap (IntKind.i64.wrap n)))) fun t_10 t_11 t_12 Sx_9=>
  t_10.all (·.oneCell')=true ∧
  Q t_10 t_11 t_12 Sx_9
 else
 if k=14 then
  if t=t_1 then
  gI (nthL s.L 16) .u64 fun t_13=>
  Jx (IntKind.u64.wrap (t_13+(IntKind.u64.wrap (4*(IntKind.u64.wrap (IntKind.i64.wrap n)))))) s.L v_2 Sx_4
  else
  Jx (IntKind.u64.wrap (t_3+4)) s.L v_2 Sx_4
 else
 if k=15 then
  if t≠t_1 then
  gI (nthL s.L 16) .u64 fun t_14=>
  Jx (IntKind.u64.wrap (t_14+(IntKind.u64.wrap (4*(IntKind.u64.wrap (IntKind.i64.wrap n)))))) s.L v_2 Sx_4
  else
  Jx (IntKind.u64.wrap (t_3+4)) s.L v_2 Sx_4
 else
 if k=16 then
  if IntKind.i64.wrap t<IntKind.i64.wrap t_1 then
  gI (nthL s.L 16) .u64 fun t_15=>
  Jx (IntKind.u64.wrap (t_15+(IntKind.u64.wrap (4*(IntKind.u64.wrap (IntKind.i64.wrap n)))))) s.L v_2 Sx_4
  else
  Jx (IntKind.u64.wrap (t_3+4)) s.L v_2 Sx_4
 else
 if k=17 then
  gI (nthL s.L 16) .u64 fun t_16=>
  0≤x∧x<16 ∧
  Jx (IntKind.u64.wrap (t_1+(IntKind.u64.wrap (IntKind.i64.wrap n)))) (spl s.L (0+x.toNat*1) ([.int .u64 (IntKind.u64.wrap (t_16+4))])) v_2 Sx_4
 else
 if k=18 then
  jn (fun (openx:Int) (Sx_10:Mem)=>
   gI (nthL s.L 17) .u64 fun t_17=>
   gI (nthL s.L 18) .u64 fun t_18=>
   gI (nthL s.L 19) .u64 fun t_19=>
   gI (nthL s.L 20) .u64 fun t_20=>
   gI (nthL s.L 21) .u64 fun t_21=>
   gI (nthL s.L 25) .u32 fun t_22=>
   al Sx_10 39 ([.int .u64 t_17,.int .u64 t_18,.int .u64 t_19,.int .u64 t_20,.int .u64 t_21,.int .u64 (IntKind.u64.wrap t_22),.int .u64 openx,.int .u64 time,.int .u64 (IntKind.u64.wrap me)]) fun b_2 Sx_11=>
   0≤n∧n<9 ∧
   gI (Sx_11.cell b_2 (0+n.toNat*1)) .u64 fun t_23=>
   0≤x∧x<16 ∧
   Jx (IntKind.u64.wrap (t_3+4)) (spl s.L (0+x.toNat*1) ([.int .u64 t_23])) v_2 Sx_11) fun Jx_1=>
  gB (nthL s.L 22) fun t_24=>
  if t_24=true then
  Jx_1 1 Sx_4
  else
  Jx_1 0 Sx_4
 else
 if k=19 then
  if n=0 then
  Jx (IntKind.u64.wrap (t_3+4)) (spl s.L 17 ([.int .u64 t])) v_2 Sx_4
  else
  if n=1 then
  Jx (IntKind.u64.wrap (t_3+4)) (spl s.L 18 ([.int .u64 t])) v_2 Sx_4
  else
  if n=2 then
  Jx (IntKind.u64.wrap (t_3+4)) (spl s.L 19 ([.int .u64 t])) v_2 Sx_4
  else
  if n=3 then
  Jx (IntKind.u64.wrap (t_3+4)) (spl s.L 20 ([.int .u64 t])) v_2 Sx_4
  else
  if n=4 then
  Jx (IntKind.u64.wrap (t_3+4)) (spl s.L 21 ([.int .u64 t])) v_2 Sx_4
  else
  if n=5 then
  Jx (IntKind.u64.wrap (t_3+4)) (spl s.L 25 ([.int .u32 (IntKind.u32.wrap (Int.tmod t 256))])) v_2 Sx_4
  else
  if n=6 then
  Jx (IntKind.u64.wrap (t_3+4)) (spl s.L 22 ([.bool (decide (Int.tmod t 2=1))])) v_2 Sx_4
  else
  gI (nthL s.L 16) .u64 fun t_25=>
  yx Sx_4 s.L 1 t_25 fun t_26 t_27 t_28 Sx_12=>
  t_26.all (·.oneCell')=true ∧
  Q t_26 t_27 t_28 Sx_12
 else
 if k=20 then
  (spl s.L 16 ([.int .u64 (IntKind.u64.wrap (t_3+4))])).all (·.oneCell')=true ∧
  Q (spl s.L 16 ([.int .u64 (IntKind.u64.wrap (t_3+4))])) 2 (IntKind.u64.wrap (IntKind.i64.wrap n)) Sx_4
 else
 if k=21 then
  gI (nthL (spl s.L 16 ([.int .u64 (IntKind.u64.wrap (t_3+4))])) 24) .u32 fun t_29=>
  gI (nthL (spl s.L 16 ([.int .u64 (IntKind.u64.wrap (t_3+4))])) 25) .u32 fun t_30=>
  if iand .u32 t_29 t_30=0 then
  (spl (spl s.L 16 ([.int .u64 (IntKind.u64.wrap (t_3+4))])) 23 ([.int .u8 1])).all (·.oneCell')=true ∧
  Q (spl (spl s.L 16 ([.int .u64 (IntKind.u64.wrap (t_3+4))])) 23 ([.int .u8 1])) 3 0 Sx_4
  else
  (spl s.L 16 ([.int .u64 (IntKind.u64.wrap (t_3+4))])).all (·.oneCell')=true ∧
  Q (spl s.L 16 ([.int .u64 (IntKind.u64.wrap (t_3+4))])) 0 0 Sx_4
 else
 if k=22 then
  gI (nthL s.L 19) .u64 fun t_31=>
  (spl (spl s.L 16 ([.int .u64 t_31])) 22 ([.bool true])).all (·.oneCell')=true ∧
  Q (spl (spl s.L 16 ([.int .u64 t_31])) 22 ([.bool true])) 0 0 Sx_4
 else
 Jx (IntKind.u64.wrap (t_3+4)) s.L v_2 Sx_4
section
variable {m:Pt} {I:Mem→Rho→GM→Prop} {R:Nat→Prop} {S:Mem} {ρ:Rho} {g:GM} {s:Seat} {time me:Int}
end
end Go.Proofs.YtabdpmnhjlmnlaaGreatDoor
end
section
namespace Go.Proofs.YtabdpmnhjlmnlaaGreatDoor
open Go Go.Pt Go.Cr
section
variable {m:Pt} {I:Mem→Rho→GM→Prop} {R:Nat→Prop} {S:Mem} {ρ:Rho} {g:GM} {s:Seat} {time me:Int}
end
end Go.Proofs.YtabdpmnhjlmnlaaGreatDoor
end
section
namespace Go.Cr
open Go Go.Pt
structure Kr (S:Mem) (ρ:Rho) (r:Nat) (s:Sl) (l:List Int):Prop where
 len:l.length=s.n
 cap:s.n≤s.c
 lie:(s.p=none∧l=[])∨∃ b o,s.p=some (b,o)∧S.part b o l.length=some (bL l)∧ρ b=some r∧S b≠none
structure Ra where
 now:Int
 x:Nat→Rv
 es:Nat→Sl
 A:Nat→Nat
def Ra.c (D:Ra) (W:Wd):Rc0:=⟨D.now,W.free,D.x,W.vm,fun n p=>(W.own n p).isSome,fun n k=>(W.alarm n k).isSome,W.ls,D.es⟩
abbrev pgS (b:Nat):Sl:=⟨some (b,0),256,256⟩
structure RvP (S:Mem) (ρ:Rho) (n:Nat) (x:Rv) (v:Bv):Prop where
 se:Rw S ρ (210+n) 26 x.ss (v.seats.flatMap Seat.L)
 ke:Kr S ρ (220+n) x.ks v.keys
 di:v.on=true→∀ j,j<4→∃ b,x.d j=pgS b∧Bl S ρ (250+(4*n+j)) b (bw 5 (bL (v.disk j)))
 off:v.on=false→x=rv0
def mePg (A:Nat→Nat):Option (Nat×Bool)→Sl
 | some q=>pgS (A q.1)
 | none=>nilL
def meW:Option (Nat×Bool)→Bool
 | some q=>q.2
 | none=>false
def meL (A:Nat→Nat) (m:Nat→Option (Nat×Bool)):List Value:=cF 32 (fun p=>[eL (mePg A (m p))])++cF 32 fun p=>[.bool (meW (m p))]
theorem zkE {A:Nat→Nat} {m:Nat→Option (Nat×Bool)}:(cF 32 (fun p=>[eL (mePg A (m p))])).length=32:=xr (w:=1) fun _ _=>rfl
theorem zhz {A:Nat→Nat} {m:Nat→Option (Nat×Bool)}:(meL A m).length=64:=by
 unfold meL
 have:(cF 32 (fun p=>[Value.bool (meW (m p))])).length=32:=xr (w:=1) fun _ _=>rfl
 rw[List.length_append,zkE,this]
theorem znj {A A':Nat→Nat} {m m':Nat→Option (Nat×Bool)} {p:Nat} (hp:p<32) (hm:∀ q,q<32→q≠p→mePg A' (m' q)=mePg A (m q)∧meW (m' q)=meW (m q)) :
  spl (spl (meL A m) p [eL (mePg A' (m' p))]) (32+p) [.bool (meW (m' p))]=meL A' m':=by
 unfold meL
 rw[vX (by rw[zkE];simp;omega),zcd (g:=fun q=>eL (mePg A' (m' q))) hp fun q hq=>by
  by_cases e:q=p
  ·subst e;rw[if_pos rfl]
  ·rw[if_neg e,(hm q hq e).1]]
 rw[qz (n:=32) (xr (w:=1) fun _ _=>rfl),zcd (g:=fun q=>.bool (meW (m' q))) hp fun q hq=>by
  by_cases e:q=p
  ·subst e;rw[if_pos rfl]
  ·rw[if_neg e,(hm q hq e).2]]
structure RefA (S:Mem) (ρ:Rho) (r:Nat) (D:Ra) (W:Wd):Prop where
 rg:∀ b r,ρ b=some r→S b≠none
 hd:Pc S ρ 200 r (D.c W).L
 vs:∀ n,n<6→RvP S ρ n (D.x n) (W.vm n)
 me:∀ n,n<6→(W.vm n).on=true→∃ mb,(D.x n).mb=some (mb,0)∧Pc S ρ (230+n) mb (meL D.A (W.gm n).map)
 pg:∀ n p l,W.own n p=some l→Bl S ρ (300+(32*n+p)) (D.A (32*n+p)) (bw 5 (bL l))
 ev:∀ n,n<6→Rw S ρ (240+n) 4 (D.es n) ((W.ev n).flatMap evL)
 now:0≤D.now∧D.now≤4611686018427387904
 time:∀ n,(W.vm n).on=true→0≤(D.x n).begun∧(D.x n).begun≤D.now∧W.time n=D.now-(D.x n).begun
 at_:∀ n k w,W.alarm n k=some w→(D.x n).at_ k=w
abbrev Rd (r:Nat):Prop:=200≤r∧r<500
section
variable {S S':Mem} {ρ ρ':Rho} {R:Nat→Prop}
theorem Kr.keep {r:Nat} {s:Sl} {l:List Int} (h:Kr S ρ r s l) (m:Mv S ρ S' ρ' R) (hr:¬R r):Kr S' ρ' r s l:=by
 refine⟨h.len,h.cap,h.lie.imp id fun⟨b,o,h1,h2,h3,h4⟩=>?_⟩
 have e:S' b=S b:=m.kp b h4 fun r' e=>by rw[h3] at e;cases e;exact hr
 exact⟨b,o,h1,by simp only[Mem.part,e] at h2 ⊢;exact h2,m.ext b r h3,by rw[e];exact h4⟩
theorem Kr.nil {r:Nat}:Kr S ρ r nilL []:=⟨rfl,Nat.le_refl _,.inl ⟨rfl,rfl⟩⟩
theorem RvP.keep {n:Nat} {x:Rv} {v:Bv} (h:RvP S ρ n x v) (m:Mv S ρ S' ρ' R) (hn:n<6) (hR:∀ r,210≤r∧r<230∨250≤r∧r<300→¬R r):RvP S' ρ' n x v:=
 ⟨h.se.keep m (hR _ (by omega)),h.ke.keep m (hR _ (by omega)),fun ho j hj=>by
  obtain⟨b,h1,h2⟩:=h.di ho j hj
  exact⟨b,h1,h2.keep m (hR _ (by omega))⟩,h.off⟩
variable {r:Nat} {D:Ra} {W:Wd}
theorem RefA.keep (h:RefA S ρ r D W) (hw:∀ n p l,W.own n p=some l→n<6∧p<32) (m:Mv S ρ S' ρ' R) (hR:∀ r,200≤r→r<500→¬R r):RefA S' ρ' r D W:=
 ⟨m.rg,h.hd.keep m (hR _ (by decide) (by decide)),fun n hn=>(h.vs n hn).keep m hn fun r h1=>hR r (by omega) (by omega),fun n hn ho=>by
  obtain⟨mb,h1,h2⟩:=h.me n hn ho
  exact⟨mb,h1,h2.keep m (hR _ (by omega) (by omega))⟩,fun n p l hl=>by
  have:=hw n p l hl
  exact (h.pg n p l hl).keep m (hR _ (by omega) (by omega)),fun n hn=>(h.ev n hn).keep m (hR _ (by omega) (by omega)),h.now,h.time,h.at_⟩
theorem WOk.six' (h:WOk W) {n p:Nat} {l:List Int} (ho:W.own n p=some l):n<6∧p<32:=by
 have:=h.pg n p l ho
 refine⟨Nat.lt_of_not_le fun h6=>?_,this.2.1⟩
 have h7:=h.six n h6
 rw[this.1] at h7;cases h7
theorem WOk.on6 (h:WOk W) {n:Nat} (ho:(W.vm n).on=true):n<6:=Nat.lt_of_not_le fun h6=>by
 have h7:=h.six n h6
 rw[ho] at h7;cases h7
theorem RefA.keeps (h:RefA S ρ r D W) (hwk:WOk W) (hk:Keeps S S' []):RefA S' ρ r D W:=h.keep (fun n p l=>hwk.six') (Mv.keeps (R:=fun _=>False) h.rg hk) fun _ _ _ h=>h
theorem RefA.c0 (h:RefA S ρ r D W):S.cell r 0=some (.int .u64 D.now):=h.hd.cell 0 (by rw[Rc0.len];decide) rfl
theorem RefA.c1 (h:RefA S ρ r D W):S.cell r (0+1)=some (.int .i64 W.free):=h.hd.cell 1 (by rw[Rc0.len];decide) rfl
theorem RefA.vcell (h:RefA S ρ r D W) {n j x:Nat} (hn:n<6) (hj:j<54) (hx:x=2+n*54+j):S.cell r x=nthL (rvL (D.x n) (W.vm n) (fun p=>(W.own n p).isSome) fun k=>(W.alarm n k).isSome) j:=
 (h.hd.cell (2+(n*54+j)) (by rw[Rc0.len];omega) (by omega)).trans (Rc0.get (c:=D.c W) hn hj rfl)
theorem RefA.ecell (h:RefA S ρ r D W) {n x:Nat} (hn:n<6) (hx:x=422+n):S.cell r x=some (eL (D.es n)):=
 (h.hd.cell (422+n) (by rw[Rc0.len];omega) (by omega)).trans (Rc0.gete (c:=D.c W) hn rfl)
theorem RefA.von (h:RefA S ρ r D W) {n x:Nat} (hn:n<6) (hx:x=2+n*54):S.cell r x=some (.bool (W.vm n).on):=h.vcell hn (j:=0) (by decide) (by omega)
theorem RefA.vown (h:RefA S ρ r D W) {n p x:Nat} (hn:n<6) (hp:p<32) (hx:x=2+n*54+16+p):S.cell r x=some (.bool (W.own n p).isSome):=(h.vcell hn (j:=16+p) (by omega) (by omega)).trans (rvL_own hp)
theorem RefA.put (h:RefA S ρ r D W) {i m:Nat} {vs:List Value} (hm:m=vs.length) (hi:i+vs.length≤428) {x:Nat} (hx:x=i) {K:Mem→Prop} (hK:∀ S',Mv S ρ S' ρ (· = 200)→Pc S' ρ 200 r (spl (D.c W).L i vs)→K S'):pt S r x m vs K:=
 h.hd.pt h.rg i hm (by rw[Rc0.len];exact hi) hx hK
def Ra.setX (D:Ra) (n:Nat) (x:Rv):Ra:={ D with x:=upd D.x n x }
end
end Go.Cr
namespace Go.Proofs.YtabdpmnhjlmnlaaGreatDoor
open Go Go.Pt Go.Cr Go.Hp
section
variable {S S':Mem} {ρ ρ':Rho} {R:Nat→Prop} {r:Nat} {D:Ra} {W:Wd}
theorem zdM (h:RefA S ρ r D W) {n:Int} {Q:Bool→Mem→Prop} (hQ:Q (decide (W.there n)) S):xb S (some (r,0)) n Q:=by
 apply jN
 unfold yy
 by_cases h0:0≤n
 ·rw[if_pos h0]
  by_cases h6:n<6
  ·rw[if_pos h6,qk]
   refine⟨h0,h6,?_⟩
   rw[zaF (h.von (n:=n.toNat) (by omega) (by omega))]
   have:decide (W.there n)=(W.vm n.toNat).on:=by
    by_cases hb:(W.vm n.toNat).on=true
    ·rw[hb];exact decide_eq_true ⟨h0,h6,hb⟩
    ·rw[Bool.not_eq_true] at hb
     rw[hb];exact decide_eq_false fun h=>by rw[h.2.2] at hb;cases hb
   rw[this] at hQ;exact hQ
  ·rw[if_neg h6]
   rw[decide_eq_false fun h=>h6 h.2.1] at hQ;exact hQ
 ·rw[if_neg h0]
  rw[decide_eq_false fun h=>h0 h.1] at hQ;exact hQ
theorem zdN (h:RefA S ρ r D W) {n:Nat} (hn:n<6) {Q:Int→Mem→Prop} (hQ:Q (W.pages n) S):yc S (some (r,0)) n Q:=by
 apply jO
 unfold yz
 simp only[jn]
 refine zX (fun (z:Int×Int) S'=>∃ i:Nat,z=(((count (fun p=>(W.own n p).isSome) i:Nat):Int),(i:Int))∧i≤32∧S'=S) (fun z=>32-z.2.toNat) ?_ ⟨0,rfl,by decide,rfl⟩
 rintro X z S' ⟨i,rfl,hi,hS⟩ ih
 subst hS
 dsimp only at ih ⊢
 have hc:=kg (fun p=>(W.own n p).isSome) i
 by_cases hlt:(i:Int)<32
 ·rw[if_pos hlt,qk]
  refine⟨by omega,by omega,by omega,hlt,?_⟩
  rw[zaF (h.vown (n:=n) (p:=i) hn (by omega) (by omega))]
  have e:=qZ (fun p=>(W.own n p).isSome) i
  cases ho:(W.own n i).isSome with
  | true=>
   rw[if_pos rfl,w64 (by omega) (by omega),w64 (by omega) (by omega)]
   refine ih _ _ ⟨i+1,?_,by omega,rfl⟩ (by dsimp only;omega)
   rw[e,ho];rfl
  | false=>
   rw[if_neg (by decide),w64 (by omega) (by omega)]
   refine ih _ _ ⟨i+1,?_,by omega,rfl⟩ (by dsimp only;omega)
   rw[e,ho];rfl
 ·rw[if_neg hlt]
  have:i=32:=by omega
  subst this
  exact hQ
end
end Go.Proofs.YtabdpmnhjlmnlaaGreatDoor
end
