/- Texts of this work,joined by program (pack.py). -/
import Derived.Test.YthaiblbnpcgjpaaGreatDoorQAN
import Derived.Test.YthaiblbnpcgjpaaGreatDoorQAC
import Derived.Test.YthaiblbnpcgjpaaGreatDoorQAD
import Derived.Test.YthaiblbnpcgjpaaGreatDoorQAF
import Derived.Test.YthaiblbnpcgjpaaGreatDoorQAM
import Derived.Test.YthaiblbnpcgjpaaGreatDoorQAH
set_option linter.unusedVariables false
section
namespace Go.Cr
open Go Go.Pt
theorem zay:∀ N:Nat,cF N (fun _=>noughts)=List.replicate (256*N) (0:Int)
 | 0=>rfl
 | N+1=>by
  simp only[cF]
  rw[zay N,Nat.mul_add,Nat.mul_one,←List.replicate_append_replicate];rfl
def kn0 (form:Int):Kn:=⟨form,0,fun _=>bv0,fun _=>0,fun _=>0,fun _=>[],fun _=>ls0,fun _=>0⟩
def cst0 (form:Int) (N:Nat):Cst:={ toKn:=kn0 form,N:=N,dat:=fun _=>noughts,used:=fun _=>false,left:=-1,cache:=[],own:=fun _=>ow0,alm:=fun _ _=>none,region:=[],ev:=fun _=>[] }
end Go.Cr
namespace Go.Proofs.YthaiblbnpcgjpaaGreatDoor
open Go Go.Pt Go.Cr Go.Hp
section
variable {S S':Mem} {ρ ρ':Rho} {R:Nat→Prop}
theorem clamp {N:Nat} (h:N≤512):(if 512<(if (N:Int)<0 then 0 else (N:Int)) then 512 else (if (N:Int)<0 then 0 else (N:Int)))=(N:Int):=by
 rw[if_neg (by omega:¬(N:Int)<0),if_neg (by omega)]
theorem zgs (hg:∀ b r,ρ b=some r→S b≠none) {N:Nat} (h1:1≤N) (hN:N≤512) {Q:Pt→Mem→Prop} (hQ:∀ m S' ρ',Mv S ρ S' ρ' (fun _=>False)→StoreD S' ρ' m N (fun _=>noughts)→Q (some (m,0)) S'):fI S N Q:=by
 apply zil
 unfold zby
 rw[clamp hN,w64 (by omega) (by omega)]
 refine⟨by omega,Int.le_refl _,by omega,by omega,?_⟩
 have e:(256*(N:Int)).toNat=256*N:=by omega
 rw[e,zgl,←zay]
 intro B hB m hm
 have m1:Mv S ρ (S.set B (bw 5 (bL (cF N fun _=>noughts)))) (ρ.upd B 2) (fun _=>False):=(Mv.refl hg).new hB _ 2
 have m2:=m1.new hm (bw 214 [.slice (some ⟨B,0,none⟩) (256*N) (256*N)]) 1
 have hne:m≠B:=fun e=>by subst e;simp at hm
 refine hQ m _ _ m2 ⟨⟨B,⟨zz,by rw[zO hne.symm];exact zz,hne,by rw[zay,List.length_replicate],fun x hx=>?_,hN⟩,by rw[ye hne.symm];exact yL⟩,yL,fun _ _=>qX,fun _ _ x hx=>xK hx⟩
 rw[zay] at hx
 rw[List.eq_of_mem_replicate hx];decide
theorem ziE (hg:∀ b r,ρ b=some r→S b≠none) {N:Nat} (h1:1≤N) (hN:N≤512) {Q:Pt→Mem→Prop} (hQ:∀ m S' ρ',Mv S ρ S' ρ' (fun _=>False)→OwnP S' ρ' m N (fun _=>ow0)→Q (some (m,0)) S'):zeT S N Q:=by
 apply ziq
 unfold zbD
 rw[clamp hN]
 refine⟨by omega,Int.le_refl _,by omega,by omega,?_⟩
 rw[Int.toNat_natCast]
 have hz:zrep N [Value.int .u8 0,.int .i64 0,.int .i64 0,.int .i64 0]=cF N fun _=>owL ow0:=by
  have:∀ n:Nat,zrep n [Value.int .u8 0,.int .i64 0,.int .i64 0,.int .i64 0]=cF n fun _=>owL ow0:=by
   intro n
   induction n with
   | zero=>rfl
   | succ n ih=>
    have hs:∀ (z:List Value) (n:Nat),zrep (n+1) z=zrep n z++z:=by
     intro z n
     induction n with
     | zero=>simp[zrep]
     | succ n ih=>show z++zrep (n+1) z=(z++zrep n z)++z;rw[ih,List.append_assoc]
    rw[hs,ih];rfl
  exact this N
 rw[hz]
 intro B hB m hm
 have hl:(cF N fun _=>owL ow0).length=N*4:=xB (own:=fun _=>ow0)
 have m1:Mv S ρ (S.set B (bw 68 (cF N fun _=>owL ow0))) (ρ.upd B 9) (fun _=>False):=(Mv.refl hg).new hB _ 9
 have m2:=m1.new hm (bw 71 [.slice (some ⟨B,0,none⟩) N N]) 8
 have hne:m≠B:=fun e=>by subst e;simp at hm
 refine hQ m _ _ m2 ⟨⟨some (B,0),N,N⟩,⟨⟨_,zz,rfl,rfl⟩,yL⟩,⟨⟨hl,Nat.le_refl _,.inr ⟨B,_,rfl,by rw[zO hne.symm];exact zz,rfl,hl,?_⟩⟩,fun b o e=>by cases e;rw[ye hne.symm];exact yL⟩⟩
 show (cF N fun _=>owL ow0).take (N*4)=_
 exact List.take_of_length_le (by rw[hl];exact Nat.le_refl _)
def iL (n:Nat):List Int:=(List.range n).map fun (i:Nat)=>(i:Int)
theorem zoV (n:Nat):Hq.fl (iL (n+1))=Hq.fl (iL n)++[.int .i64 (n:Int)]:=by
 unfold iL Hq.fl
 rw[List.range_succ,List.map_append,List.flatMap_append];rfl
theorem zoW (N:Nat):iL N=freeL N fun _=>false:=by
 unfold iL freeL
 have:(List.range N).filter (fun i=>! false)=List.range N:=by simp
 rw[this]
theorem zor (n:Nat):uL (n+1) (fun _=>false)=uL n (fun _=>false)++[.bool false]:=rfl
theorem zhu (hg:∀ b r,ρ b=some r→S b≠none) {N:Nat} (h1:1≤N) (hN:N≤512) {Q:Pt→Mem→Prop} (hQ:∀ p S' ρ',Mv S ρ S' ρ' R345→PoolP S' ρ' p N (fun _=>false) (-1)→Q (some (p,0)) S'):zcl S N Q:=by
 apply zjZ
 unfold zdo
 intro p hp
 have m0:Mv S ρ (S.set p (bw 227 [.slice none 0 0,.slice none 0 0,.int .i64 (-1)])) (ρ.upd p 3) R345:=(Mv.refl hg).new hp _ 3
 simp only[jn]
 refine zC (fun (z:Int) S'=>∃ (i:Nat) (ρ':Rho) (fs us:Sl),z=(i:Int)∧i≤N∧Mv S ρ S' ρ' R345∧Pc S' ρ' 3 p [eL fs,eL us,.int .i64 (-1)]∧S' p=some (bw 227 [eL fs,eL us,.int .i64 (-1)])∧Rw S' ρ' 4 1 fs (Hq.fl (iL i))∧Rw S' ρ' 5 1 us (uL i fun _=>false)) (fun z=>N-z.toNat) ?_
  ⟨0,_,⟨none,0,0⟩,⟨none,0,0⟩,rfl,by omega,m0,⟨⟨_,zz,rfl,rfl⟩,yL⟩,zz,Rw.nil,Rw.nil⟩
 rintro X z S1 ⟨i,ρ1,fs,us,rfl,hi,m1,hpc,hblk,hf,hu⟩ ih
 rw[clamp hN]
 have hfl:(Hq.fl (iL i)).length=i*1:=by rw[Hq.fl_length];simp[iL]
 have hfn:=hf.n (by decide) hfl
 have hun:=hu.n (by decide) zaQ
 by_cases hlt:(i:Int)<(N:Int)
 ·rw[if_pos hlt,wj (hpc.cell 0 (by simp) rfl)]
  refine zkR (R:=R345) m1 (.inr (.inl rfl)) hf rfl (by decide) rfl (by omega) fun fs' S2 ρ2 m2 m2' hf2 _=>?_
  have hpc2:=hpc.keep m2' (by decide)
  have hblk2:S2 p=some (bw 227 [eL fs,eL us,.int .i64 (-1)]):=by rw[fL m2' (by rw[hblk];simp) hpc.rol (by decide)];exact hblk
  have hu2:=hu.keep m2' (by decide)
  refine zkT hblk2 (by simp) ?_
  have e1:spl [eL fs,eL us,Value.int .i64 (-1)] 0 [eL fs']=[eL fs',eL us,.int .i64 (-1)]:=rfl
  rw[e1]
  have m3:Mv S ρ (S2.set p (bw 227 [eL fs',eL us,.int .i64 (-1)])) ρ2 R345:=m2.put hpc2.rol (.inl rfl) _
  have m3':Mv S2 ρ2 (S2.set p (bw 227 [eL fs',eL us,.int .i64 (-1)])) ρ2 (· = 3):=(Mv.refl (R:=(· = 3)) m2.rg).put hpc2.rol rfl _
  have hf3:=hf2.keep m3' (by decide)
  have hu3:=hu2.keep m3' (by decide)
  have hpc3:Pc (S2.set p (bw 227 [eL fs',eL us,.int .i64 (-1)])) ρ2 3 p [eL fs',eL us,.int .i64 (-1)]:=⟨⟨_,zz,rfl,rfl⟩,hpc2.rol⟩
  rw[wj (hpc3.cell 1 (by simp) rfl)]
  refine zkR (R:=R345) m3 (.inr (.inr rfl)) hu3 rfl (by decide) rfl (by omega) fun us' S4 ρ4 m4 m4' hu4 _=>?_
  have hblk4:S4 p=some (bw 227 [eL fs',eL us,.int .i64 (-1)]):=by rw[fL m4' (by rw[zz];simp) hpc2.rol (by decide)];exact zz
  refine zkT hblk4 (by simp) ?_
  have e2:spl [eL fs',eL us,Value.int .i64 (-1)] 1 [eL us']=[eL fs',eL us',.int .i64 (-1)]:=rfl
  rw[e2]
  have hr4:=m4'.ext p 3 hpc2.rol
  have m5:Mv S ρ (S4.set p (bw 227 [eL fs',eL us',.int .i64 (-1)])) ρ4 R345:=m4.put hr4 (.inl rfl) _
  have m5':Mv S4 ρ4 (S4.set p (bw 227 [eL fs',eL us',.int .i64 (-1)])) ρ4 (· = 3):=(Mv.refl (R:=(· = 3)) m4.rg).put hr4 rfl _
  rw[w64 (by omega) (by omega)]
  refine ih _ _ ⟨i+1,ρ4,fs',us',rfl,by omega,m5,⟨⟨_,zz,rfl,rfl⟩,hr4⟩,zz,?_,?_⟩ (by omega)
  ·rw[zoV];exact (hf3.keep m4' (by decide)).keep m5' (by decide)
  ·rw[zor];exact hu4.keep m5' (by decide)
 ·rw[if_neg hlt]
  have:i=N:=by omega
  subst this
  have hil:(iL i).length=i:=by simp[iL]
  rcases Hq.row_open hf.row with ⟨_,h0⟩ | ⟨c,cap,t,j,e1,hle,hc,hj⟩
  ·rw[h0] at hil;simp at hil;omega
  have hrc:ρ1 c=some 4:=hf.rol c 0 (by rw[e1])
  have hne:p≠c:=fun e=>by rw[←e,hpc.rol] at hrc;cases hrc
  have hcell:S1.cell p 0=some (eL fs):=hpc.cell 0 (by simp) rfl
  have hw:=Hq.wi_of hc
  rw[←hw]
  refine Hq.init_spec (s:=fs) ⟨hcell,by rw[e1],by rw[e1],hne⟩ (by omega) fun l' hp' hh=>?_
  have hll:=hp'.length_eq
  have m2:Mv S ρ (Hq.wi S1 c t j l') ρ1 R345:=m1.put hrc (.inr (.inl rfl)) _
  have m2':Mv S1 ρ1 (Hq.wi S1 c t j l') ρ1 (· = 4):=(Mv.refl (R:=(· = 4)) m1.rg).put hrc rfl _
  refine hQ p _ ρ1 m2 ⟨⟨227,fs,us,l',?_,fun x hx=>?_,hu.keep m2' (by decide),by rw[←zoW];exact hp'⟩,hpc.rol,hN⟩
  ·have efs:fs=⟨some (c,0),l'.length,cap⟩:=by rw[e1,hll]
   rw[efs]
   exact Hq.ck_mk (by unfold Hq.wi;rw[zO hne,hblk,efs]) rfl Hq.wi_c (by omega) (by rw[hll];exact hj) hne hh (by omega)
  ·have:x=c:=by rw[e1] at hx;simpa [Hq.own] using hx
   rw[this];exact hrc
theorem znq {form:Int} {ob kb:Nat}:spl (spl (spl z58 0 [.int .i64 form]) 74 [eP (some (ob,0))]) 171 [.pointer (some ⟨kb,0,none⟩)]=knL (kn0 form) (fun _=>vx0) ob kb:=by kernel_rfl
theorem znu {m p t:Nat}:([eP (some (m,0)),eP (some (p,0)),.slice none 0 0,eP (some (t,0)),.slice none 0 0,.slice none 0 0,.slice none 0 0,.slice none 0 0,.slice none 0 0,.slice none 0 0,.slice none 0 0]:List Value)=hdL ⟨m,p,t,0,0,⟨none,0,0⟩,⟨none,0,0⟩,fun _=>⟨none,0,0⟩,fun _=>vx0⟩:=rfl
end
end Go.Proofs.YthaiblbnpcgjpaaGreatDoor
end
section
namespace Go.Cr
open Go Go.Pt
def ownL (l:List Nat):Nat→Ow:=fun f=>if f∈l then ⟨1,0,0,0⟩ else ow0
theorem zcP {l:List Nat} {f:Nat} (h:f∈l):ownL l f=⟨1,0,0,0⟩:=if_pos h
theorem zap {l:List Nat} {f:Nat} (h:f∉l):ownL l f=ow0:=if_neg h
theorem zlG {l:List Nat} {g:Nat}:keepC (ownL l) g (-1)=ownL (l++[g]):=by
 unfold keepC
 funext f
 by_cases hm:g∈l
 ·rw[zcP hm,if_neg (by decide)]
  by_cases hf1:f∈l
  ·rw[zcP hf1,zcP (by simp[hf1])]
  ·have:f≠g:=fun e=>hf1 (e ▸ hm)
   rw[zap hf1,zap (by simp only[List.mem_append,List.mem_singleton,not_or];exact⟨hf1,this⟩)]
 ·rw[zap hm,if_pos (show ow0.kind=0 from rfl),if_neg (by decide)]
  by_cases hf1:f=g
  ·subst hf1;rw[zl,zcP (by simp)]
  ·rw[zh hf1]
   by_cases hf2:f∈l
   ·rw[zcP hf2,zcP (by simp[hf2])]
   ·rw[zap hf2,zap (by simp only[List.mem_append,List.mem_singleton,not_or];exact⟨hf2,hf1⟩)]
def cstN (form:Int) (N:Nat) (l:List Nat) (u:Nat→Bool):Cst:={ toKn:=kn0 form,N:=N,dat:=fun _=>noughts,used:=u,left:=-1,cache:=[],own:=ownL l,alm:=fun _ _=>none,region:=l,ev:=fun _=>[] }
def cstA (form:Int) (N:Nat) (l:List Nat) (u:Nat→Bool) (o:Nat→Ow):Cst:={ toKn:=kn0 form,N:=N,dat:=fun _=>noughts,used:=u,left:=-1,cache:=[],own:=o,alm:=fun _ _=>none,region:=l,ev:=fun _=>[] }
theorem zpY {free:Int}:WOk (W0 free):=by
 refine⟨fun n _=>⟨rfl,fun _=>rfl,fun _=>rfl⟩,fun n _=>rfl,fun n h=>(by cases h),fun n s h=>(by cases h),fun n=>⟨Nat.zero_le 64,fun x h=>by cases h⟩,fun n j h=>(by cases h),fun n=>⟨Int.le_refl 0,(by decide:(0:Int)≤32)⟩,fun n k h=>(by cases h),fun n p l h=>(by cases h),fun n=>?_,fun i h=>(by cases h),fun i _=>rfl,fun i h=>(by cases h),fun i j h=>(by cases h),fun n k w h=>(by cases h)⟩
 have:(W0 free).pages n=0:=xe fun _ _=>rfl
 rw[this];exact Int.le_refl _
theorem zmU {form:Int} (hf:form=1∨form=2) {N:Nat} (hN:N≤512) {l:List Nat} {u:Nat→Bool} (h:takeN N l.length (fun _=>false)=some (l,u)) {φ:Nat→Nat→Nat}:Rel (cstN form N l u) (W0 (N-l.length)) φ:=by
 obtain⟨_,h2,h3,h4,h5⟩:=xU h
 have hk:∀ f,(cstN form N l u).own f=if f∈l then ⟨1,0,0,0⟩ else ow0:=fun _=>rfl
 have hc:count (fun f=>! (fun _=>false:Nat→Bool) f) N=N:=by
  unfold count
  have:(List.range N).filter (fun f=>! false)=List.range N:=by simp
  rw[this];simp
 refine⟨zpY,rfl,rfl,rfl,hN,hf,⟨Int.le_refl 0,(by decide:(0:Int)≤4611686018427387904)⟩,fun n h=>(by cases h),fun n k=>rfl,?_,rfl,fun f _=>?_,fun f _ h=>?_,fun f _=>?_,fun f _=>⟨qX,fun x hx=>xK hx⟩,fun n _=>⟨rfl,rfl,rfl⟩,fun n h=>(by cases h),fun n f h=>(by cases h),fun f _ h=>?_,fun n j h=>(by cases h),fun n p h=>(by cases h),fun n p l h=>(by cases h),fun f _ h=>?_,⟨h2,fun f=>?_⟩,fun r h=>(by cases h),Nat.zero_le 8⟩
 ·show ((N:Int)-l.length)=count (fun f=>! u f) N
  rw[hc] at h5;omega
 ·show u f=_
  rw[h4 f,hk f]
  by_cases e:f∈l
  ·rw[if_pos e];simp[e]
  ·rw[if_neg e];simp[e,ow0]
 ·rw[hk f] at h ⊢
  split at h
  ·cases h
  ·rename_i e;rw[if_neg e]
 ·rw[hk f]
  by_cases e:f∈l
  ·rw[if_pos e];decide
  ·rw[if_neg e];decide
 ·rw[hk f] at h
  split at h <;> cases h
 ·rw[hk f] at h
  split at h <;> cases h
 ·show f∈l↔_
  rw[hk f]
  constructor
  ·intro e;exact⟨(h3 f e).1,by rw[if_pos e]⟩
  ·rintro⟨_,e⟩
   split at e
   ·assumption
   ·cases e
end Go.Cr
namespace Go.Proofs.YthaiblbnpcgjpaaGreatDoor
open Go Go.Pt Go.Cr Go.Hp
section
variable {S S':Mem} {ρ ρ':Rho} {R:Nat→Prop}
theorem zov {A:Ad} {s:Sl}:spl (hdL A) 4 [eL s]=hdL { A with gs:=s }:=rfl
theorem zkQ (hg:∀ b r,ρ b=some r→S b≠none) (h0:ρ 0=none) (hgl:Gl S) {form:Int} {N:Nat} (h1:1≤N) (hN:N≤512) {Q:Nat→Mem→Prop}
  (hQ:∀ S' ρ' h A,Mv S ρ S' ρ' Rc→CrabA S' ρ' h A (cst0 form N)→Q h S') :
  fI S N fun t Sx_1=>zcl Sx_1 N fun t_1 Sx_2=>zcq Sx_2 form N fun t_2 Sx_3=>
   al Sx_3 39 ([eP t,eP t_1,.slice (none) 0 0,eP t_2,.slice (none) 0 0,.slice (none) 0 0,.slice (none) 0 0,.slice (none) 0 0,.slice (none) 0 0,.slice (none) 0 0,.slice (none) 0 0]) fun b Sx_4=>Q b Sx_4:=by
 refine zgs hg h1 hN fun m S1 ρ1 m1 hs1=>?_
 refine zhu m1.rg h1 hN fun p S2 ρ2 m2 hp2=>?_
 have hs2:=hs1.keep m2 (by decide) (by decide)
 apply ziu
 unfold zbH
 refine ziE m2.rg h1 hN fun ob S3 ρ3 m3 ho3=>?_
 have hs3:=hs2.keep m3 (fun h=>h) (fun h=>h)
 have hp3:=hp2.keep m3 (fun h=>h) (fun h=>h) (fun h=>h)
 intro kb hkb t ht h hh
 rw[znq] at hh ⊢
 rw[znu]
 have M4:Mv S3 ρ3 (S3.set kb (bw 122 [.slice none 0 0])) (ρ3.upd kb 10) (fun _=>False):=(Mv.refl m3.rg).new hkb _ 10
 have M5:=M4.new ht (bw 58 (knL (kn0 form) (fun _=>vx0) ob kb)) 7
 have M6:=M5.new hh (bw 39 (hdL ⟨m,p,t,ob,kb,⟨none,0,0⟩,⟨none,0,0⟩,fun _=>⟨none,0,0⟩,fun _=>vx0⟩)) 0
 have n1:kb≠t:=fun e=>by subst e;simp at ht
 have n2:kb≠h:=fun e=>by subst e;simp[zO n1] at hh
 have n3:t≠h:=fun e=>by subst e;simp at hh
 have mA:Mv S ρ S3 ρ3 Rc:=((m1.mono (fun _ h=>h.elim)).trans (m2.mono fun r hr=>by unfold R345 at hr;show r<110;omega)).trans (m3.mono fun _ h=>h.elim)
 have mB:=mA.trans (M6.mono fun _ h=>h.elim)
 have bk:((S3.set kb (bw 122 [.slice none 0 0])).set t (bw 58 (knL (kn0 form) (fun _=>vx0) ob kb))).set h (bw 39 (hdL ⟨m,p,t,ob,kb,⟨none,0,0⟩,⟨none,0,0⟩,fun _=>⟨none,0,0⟩,fun _=>vx0⟩)) kb=some (bw 122 [.slice none 0 0]):=by
  rw[zO n2,zO n1,zz]
 have pc7:Pc (((S3.set kb (bw 122 [.slice none 0 0])).set t (bw 58 (knL (kn0 form) (fun _=>vx0) ob kb))).set h (bw 39 (hdL ⟨m,p,t,ob,kb,⟨none,0,0⟩,⟨none,0,0⟩,fun _=>⟨none,0,0⟩,fun _=>vx0⟩))) (((ρ3.upd kb 10).upd t 7).upd h 0) 7 t (knL (kn0 form) (fun _=>vx0) ob kb):=by
  generalize knL (kn0 form) (fun _=>vx0) ob kb=L
  exact⟨⟨bw 58 L,by rw[zO n3];exact zz,rfl,ze rfl⟩,by rw[ye n3];exact yL⟩
 refine hQ _ _ h ⟨m,p,t,ob,kb,⟨none,0,0⟩,⟨none,0,0⟩,fun _=>⟨none,0,0⟩,fun _=>vx0⟩ mB
  ⟨mB.rg,kU hgl mB h0,kT hgl mB h0,⟨⟨_,zz,rfl,rfl⟩,yL⟩,hs3.keep M6 (fun h=>h) (fun h=>h),hp3.keep M6 (fun h=>h) (fun h=>h) (fun h=>h),Rw.nil,pc7,ho3.keep M6 (fun h=>h) (fun h=>h),
   ⟨⟨122,⟨none,0,0⟩,[],⟨bk,rfl,Row.nil,fun c hc=>(by cases hc),?_,by decide⟩,fun x hx=>(by cases hx),⟨List.nodup_nil,fun a ha=>(by cases ha),fun n k t h=>(by cases h)⟩⟩,by rw[ye n2,ye n1];exact yL⟩,Rw.nil,fun i _=>Rw.nil,fun i _=>⟨Rw.nil,fun s hs=>(by cases hs),Rw.nil,Rw.nil,fun j _=>Rw.nil⟩⟩
 exact fun i _ h=>absurd h (Nat.not_lt_zero _)
theorem keepLoop {h:Nat} {A:Ad} {form:Int} {N:Nat} {l:List Nat} {u:Nat→Bool} (hl:∀ f∈l,f<N) (hl2:l.length≤1000) {Q:Mem→Prop} (hc:CrabA S ρ h A (cstA form N l u fun _=>ow0)) (hQ:∀ S',Mv S ρ S' ρ Rc→CrabA S' ρ h A (cstN form N l u)→Q S') :
  lp (fun Xx (t_7:Int) (Sx_8:Mem)=>
   if t_7<(A.gs.n:Int) then
   sl A.gs fun b_1 o n n_1=>
   0≤t_7∧t_7<((n:Nat):Int) ∧
   gI (Sx_8.cell b_1 (o+t_7.toNat*1)) .i64 fun t_8=>
   gP (Sx_8.cell h 3) fun t_9=>
   nn t_9 fun b_2 o_1=>
   gP (Sx_8.cell b_2 (o_1+74)) fun t_10=>
   yg Sx_8 t_10 t_8 (-1) fun t_11 Sx_9=>
   Xx (IntKind.i64.wrap (t_7+1)) Sx_9
   else
   Q Sx_8) 0 S:=by
 refine zC (fun (z:Int) S'=>∃ i:Nat,z=(i:Int)∧i≤l.length∧Mv S ρ S' ρ Rc∧CrabA S' ρ h A (cstA form N l u (ownL (l.take i)))) (fun z=>l.length-z.toNat) ?_
  ⟨0,rfl,by omega,Mv.refl hc.rg,by
   have e:ownL (l.take 0)=fun _=>ow0:=by funext f;exact zap (by simp)
   rw[e];exact hc⟩
 rintro X z S1 ⟨i,rfl,hi,m1,hc1⟩ ih
 have hn:A.gs.n=l.length:=hc1.gs.n (m:=l.length) (by decide) (by show (nL l).length=_;simp[nL])
 by_cases hlt:(i:Int)<(A.gs.n:Int)
 ·rw[if_pos hlt]
  have hil:i<l.length:=by omega
  obtain⟨c,e1,e2⟩:=hc1.gs.sl (by show 0<(nL l).length;simp[nL];omega)
  rw[e1,fi]
  have h3:S1.cell h 3=some (eP (some (A.t,0))):=hc1.c3
  have h74:S1.cell A.t (0+74)=some (eP (some (A.ob,0))):=by rw[hc1.tt.cell 74 (by rw[vb];decide) (by rfl)];exact znQ
  have hcell:S1.cell c (0+(i:Int).toNat*1)=some (.int .i64 (l.getD i 0:Nat)):=by
   rw[hc1.gs.cell e2 i (by show i<(nL l).length;simp[nL];omega) (by omega)]
   show nthL (nL l) i=_
   rw[zI]
   unfold nL
   rw[List.getElem?_map,List.getElem?_eq_getElem hil,List.getD_eq_getElem?_getD,List.getElem?_eq_getElem hil];rfl
  refine⟨by omega,by omega,?_⟩
  rw[zx hcell,zS h3,zL,zS h74]
  have hf:l.getD i 0<N:=hl _ (zgP hil)
  refine zgc hc1.ow m1.rg hf (by decide) fun e S2 m2 ho2=>?_
  have hc2:=hc1.setOwn m2 ho2
  rw[w64 (by omega) (by omega)]
  refine ih _ _ ⟨i+1,rfl,by omega,m1.trans (m2.mono fun r hr=>by show r<110;omega),?_⟩ (by omega)
  have e3:keepC (ownL (l.take i)) (l.getD i 0) (-1)=ownL (l.take (i+1)):=by
   rw[zlG,List.take_add_one,List.getD_eq_getElem?_getD,List.getElem?_eq_getElem hil];rfl
  rw[←e3]
  exact hc2
 ·rw[if_neg hlt]
  have:i=l.length:=by omega
  subst this
  rw[List.take_length] at hc1
  exact hQ _ m1 hc1
def badNew (form frames region:Int):Prop:=frames<1∨512<frames∨region<1∨frames<region∨(form≠1∧form≠2)
instance (form frames region:Int):Decidable (badNew form frames region):=inferInstanceAs (Decidable (_∨_))
theorem zjE (hg:∀ b r,ρ b=some r→S b≠none) (h0:ρ 0=none) (hgl:Gl S) {form frames region:Int} {Q:Pt→Int→Mem→Prop}
  (hE:badNew form frames region→Q none 1 S)
  (hY:¬badNew form frames region→∀ S' ρ' h A l u,Mv S ρ S' ρ' Rc→CrabA S' ρ' h A (cstN form frames.toNat l u)→takeN frames.toNat l.length (fun _=>false)=some (l,u)→(l.length:Int)=region→Q (some (h,0)) 0 S'):zct S form frames region Q:=by
 apply zkb
 unfold zdq
 simp only[jn]
 by_cases hb:badNew form frames region
 ·have:=hE hb
  unfold badNew at hb
  by_cases h1:frames<1
  ·rw[if_pos h1];exact this
  rw[if_neg h1]
  by_cases h2:512<frames
  ·rw[if_pos h2];exact this
  rw[if_neg h2]
  by_cases h3:region<1
  ·rw[if_pos h3];exact this
  rw[if_neg h3]
  by_cases h4:frames<region
  ·rw[if_pos h4];exact this
  rw[if_neg h4,if_pos (by omega),if_pos (by omega)]
  exact this
 have hY:=hY hb
 unfold badNew at hb
 rw[if_neg (by omega),if_neg (by omega),if_neg (by omega),if_neg (by omega)]
 have hform:form=1∨form=2:=by omega
 obtain⟨N,rfl⟩:∃ N:Nat,frames=N:=⟨frames.toNat,by omega⟩
 obtain⟨r,rfl⟩:∃ r:Nat,region=r:=⟨region.toNat,by omega⟩
 have key:fI S N fun t Sx_1=>zcl Sx_1 N fun t_1 Sx_2=>zcq Sx_2 form N fun t_2 Sx_3=>
   al Sx_3 39 ([eP t,eP t_1,.slice (none) 0 0,eP t_2,.slice (none) 0 0,.slice (none) 0 0,.slice (none) 0 0,.slice (none) 0 0,.slice (none) 0 0,.slice (none) 0 0,.slice (none) 0 0]) fun b Sx_4=>
  gP (Sx_4.cell b 1) fun t_3=>
  xA Sx_4 t_3 r fun t_4 t_5 Sx_5=>
  pt Sx_5 b 4 1 ([eL t_4]) fun Sx_6=>
  gL (Sx_6.cell b 4) fun t_6=>
  lp (fun Xx (t_7:Int) (Sx_8:Mem)=>
   if t_7<(t_6.n:Int) then
   sl t_6 fun b_1 o n n_1=>
   0≤t_7∧t_7<((n:Nat):Int) ∧
   gI (Sx_8.cell b_1 (o+t_7.toNat*1)) .i64 fun t_8=>
   gP (Sx_8.cell b 3) fun t_9=>
   nn t_9 fun b_2 o_1=>
   gP (Sx_8.cell b_2 (o_1+74)) fun t_10=>
   yg Sx_8 t_10 t_8 (-1) fun t_11 Sx_9=>
   Xx (IntKind.i64.wrap (t_7+1)) Sx_9
   else
   Q (some (b,0)) 0 Sx_8) 0 Sx_6:=by
  refine zkQ hg h0 hgl (by omega) (by omega) fun S1 ρ1 h A m1 hc1=>?_
  have c1:S1.cell h 1=some (eP (some (A.p,0))):=hc1.c1
  rw[zS c1]
  refine zho (r:=12) hc1.pl m1.rg (show (-1:Int)≤-1∧(-1:Int)≤4294967296 by decide) (by omega) (by decide) (fun l u hle ht s S2 ρ2 m2 hp2 hs2=>?_) (fun hN=>?_)
  ·have hll:=(xU ht).1
   refine (hc1.hd.keep m2 (by decide)).pt m2.rg 4 (by rfl) (by rw[gG];exact (by decide:5≤11)) (by rfl) fun S3 m3 hh3=>?_
   rw[zov] at hh3
   have M:Mv S1 ρ1 S3 ρ2 (fun x=>x=0∨R345 x∨x=12):=(m2.mono fun r hr=>.inr hr).trans (m3.mono fun r hr=>.inl hr)
   have hc3:CrabA S3 ρ2 h { A with gs:=s } (cstA form N l u fun _=>ow0):=
    ⟨M.rg,kU hc1.gl M hc1.g0,kT hc1.gl M hc1.g0,hh3,hc1.st.keep M (by decide) (by decide),hp2.keep m3 (by decide) (by decide) (by decide),hc1.ca.keep M (by decide),hc1.tt.keep M (by decide),hc1.ow.keep M (by decide) (by decide),hc1.ck.keep M (by decide) (by decide),hs2.keep m3 (by decide),fun i hi=>(hc1.ev i hi).keep M (by unfold R345;omega),fun i hi=>(hc1.vs i hi).keep M hi fun r h1 h2=>by unfold R345;omega⟩
   have c4:S3.cell h 4=some (eL s):=hc3.c4
   rw[wj c4]
   refine keepLoop (A:={ A with gs:=s }) (fun f hf=>((xU ht).2.2.1 f hf).1) (by omega) hc3 fun S4 m4 hc4=>?_
   have e:((N:Int)).toNat=N:=by omega
   refine hY S4 ρ2 h _ l u (m1.trans ((M.mono fun x hx=>?_).trans m4)) (by rw[e];exact hc4) (by rw[e,hll];exact ht) (by rw[hll])
   unfold R345 at hx;show x<110;omega
  ·exfalso
   rcases hN with h | h
   ·exact absurd h.1 (show ¬(0:Int)≤-1 by decide)
   ·have:=ga.1 h
    have hc:count (fun f=>! (cst0 form N).used f) N=N:=by
     show count (fun f=>! false) N=N
     unfold count
     have:(List.range N).filter (fun f=>! false)=List.range N:=by simp
     rw[this];simp
    rw[show (cst0 form N).N=N from rfl,hc] at this
    omega
 by_cases h5:form≠1
 ·rw[if_pos h5,if_neg (by omega)];exact key
 ·rw[if_neg h5];exact key
theorem zly {form frames region:Int} (hb:¬badNew form frames region) {l:List Nat} {u:Nat→Bool} (h:takeN frames.toNat l.length (fun _=>false)=some (l,u)) (hl:(l.length:Int)=region):Rel (cstN form frames.toNat l u) (W0 (frames-region)) fun _ _=>0:=by
 unfold badNew at hb
 have:=zmU (φ:=fun _ _=>0) (by omega:form=1∨form=2) (by omega:frames.toNat≤512) h
 have e:((frames.toNat:Nat):Int)-l.length=frames-region:=by omega
 rwa [e] at this
end
end Go.Proofs.YthaiblbnpcgjpaaGreatDoor
namespace Go.Cr
end Go.Cr
end
namespace Go.Proofs.YthaiblbnpcgjpaaGreatDoor
section
open Go Go.Pt
attribute [local irreducible] lt WD WN Code.wp Back bodyPost wpList FR WL WC WQ WA AW Tr Yc HC AllC
set_option maxRecDepth 20000
set_option maxHeartbeats 4000000
end
end Go.Proofs.YthaiblbnpcgjpaaGreatDoor
namespace Go.Cr
section
open Go Go.Pt
def awImg:List Int:=[65,0,64,4,0,0,0,80]
def awW1:Wd:=((W0 36).create 1 4 1 awImg).2.2
def awW2:Wd:=(awW1.run 0 0).2
def awW3:Wd:=(awW2.run 0 0).2
def Evt.q (e:Evt):Int×Int×Int×Int:=(e.kind,e.seat,e.a,e.b)
end
section
open Go Go.Pt
def Wd.evB (W:Wd) (m:Nat):Prop:=∀ i,(W.ev i).length≤m
section
variable {W:Wd} {m:Nat}
theorem Wd.evB.mono (h:W.evB m) {k:Nat} (hk:m≤k):W.evB k:=fun i=>Nat.le_trans (h i) hk
theorem Wd.evB.of {W':Wd} (h:W.evB m) (e:W'.ev=W.ev):W'.evB m:=fun i=>by rw[e];exact h i
theorem zqF {f:Int}:(W0 f).evB 0:=fun _=>Nat.le_refl 0
theorem Wd.evB.tell (h:W.evB m) {n:Nat} {e:Evt}:(W.tell n e).evB (m+1):=fun i=>by
 unfold Wd.tell
 show (upd W.ev n (W.ev n++[e]) i).length≤m+1
 by_cases ei:i=n
 ·subst ei;rw[zl,List.length_append];have:=h i;simp;omega
 ·rw[zh ei];have:=h i;omega
theorem zjy {n k i:Nat}:(W.raise n k i).2.ev=W.ev:=by unfold Wd.raise;split <;> rfl
theorem zoC {n:Nat} {a b:Int}:(W.ring n a b).2.ev=W.ev:=by
 unfold Wd.ring;split
 ·rfl
 ·split
  ·rfl
  ·exact zjy
theorem zkq {n:Nat}:(W.nextKey n).2.2.ev=W.ev:=by unfold Wd.nextKey;split <;> rfl
theorem znf {n:Nat} {p to:Int} {w:Bool}:(W.offer n p to w).2.2.ev=W.ev:=by
 unfold Wd.offer;split
 ·rfl
 ·split
  ·rfl
  ·split
   ·rfl
   ·split <;> rfl
theorem znp {n:Nat} {c i p:Int}:(W.lease n c i p).2.ev=W.ev:=by
 unfold Wd.lease;split
 ·rfl
 ·split
  ·rfl
  ·split
   ·split <;> rfl
   ·split
    ·rfl
    ·split
     ·rfl
     ·split
      ·rfl
      ·split <;> rfl
theorem zoY {n:Nat} {p:Int}:(W.give n p).2.ev=W.ev:=by
 unfold Wd.give;split
 ·rfl
 ·split <;> rfl
theorem zqD {n:Nat} {p:Int}:(W.get n p).2.ev=W.ev:=by
 unfold Wd.get;split
 ·rfl
 ·split
  ·rfl
  ·split
   ·rfl
   ·split <;> rfl
theorem zoQ {n:Nat} {s p:Int}:(W.load n s p).2.ev=W.ev:=by
 unfold Wd.load;split
 ·rfl
 ·split
  ·rfl
  ·split <;> rfl
theorem zoz {n:Nat} {s p:Int}:(W.save n s p).2.ev=W.ev:=by
 unfold Wd.save;split
 ·rfl
 ·split
  ·rfl
  ·split <;> rfl
theorem vH {α:Type} {P:α→Prop} {c:Prop} [Decidable c] {a b:α} (h1:c→P a) (h2:¬c→P b):P (if c then a else b):=by
 by_cases h:c
 ·rw[if_pos h];exact h1 h
 ·rw[if_neg h];exact h2 h
theorem Wd.evB.call (h:W.evB m) {n k:Nat} {c w1 w2 w3:Int}:(W.call n k c w1 w2 w3).2.2.evB (m+1):=by
 have h1:=h.mono (Nat.le_succ m)
 unfold Wd.call
 refine vH (P:=fun r:Int×Int×Wd=>r.2.2.evB (m+1)) (fun _=>h.tell) fun _=>?_
 refine vH (P:=fun r:Int×Int×Wd=>r.2.2.evB (m+1)) (fun _=>h1.of zkq) fun _=>?_
 refine vH (P:=fun r:Int×Int×Wd=>r.2.2.evB (m+1)) (fun _=>h1.of zoC) fun _=>?_
 refine vH (P:=fun r:Int×Int×Wd=>r.2.2.evB (m+1)) (fun _=>h1) fun _=>?_
 refine vH (P:=fun r:Int×Int×Wd=>r.2.2.evB (m+1)) (fun _=>h1.of znf) fun _=>?_
 refine vH (P:=fun r:Int×Int×Wd=>r.2.2.evB (m+1)) (fun _=>h1.of znp) fun _=>?_
 refine vH (P:=fun r:Int×Int×Wd=>r.2.2.evB (m+1)) (fun _=>h1.of zoY) fun _=>?_
 refine vH (P:=fun r:Int×Int×Wd=>r.2.2.evB (m+1)) (fun _=>h1.of zqD) fun _=>?_
 refine vH (P:=fun r:Int×Int×Wd=>r.2.2.evB (m+1)) (fun _=>h1.of zoQ) fun _=>?_
 refine vH (P:=fun r:Int×Int×Wd=>r.2.2.evB (m+1)) (fun _=>h1.of zoz) fun _=>?_
 refine vH (P:=fun r:Int×Int×Wd=>r.2.2.evB (m+1)) (fun _=>h1) fun _=>?_
 refine vH (P:=fun r:Int×Int×Wd=>r.2.2.evB (m+1)) (fun _=>h1.of (W':=W.setV n _) rfl) fun _=>?_
 exact h1
theorem Wd.evB.run (h:W.evB m) {n k:Int}:(W.run n k).2.evB (m+3):=by
 unfold Wd.run
 by_cases h1:¬W.there n∨k<0∨(W.vm n.toNat).seats.length≤k
 ·rw[if_pos h1];exact h.mono (by omega)
 rw[if_neg h1]
 dsimp only
 generalize stepM ((W.vm n.toNat).seat k.toNat) (W.gm n.toNat) (W.time n.toNat) k=o
 by_cases h2:o.k=5
 ·rw[if_pos h2];exact h.mono (by omega)
 rw[if_neg h2]
 have h3:(((W.setDat o.g.dat).putSeat n.toNat k.toNat o.s).tell n.toNat (told o.k o.n k ((W.vm n.toNat).seat k.toNat).pc o.s)).evB (m+1):=(h.of (W':=(W.setDat o.g.dat).putSeat n.toNat k.toNat o.s) rfl).tell
 split
 ·unfold Wd.hyper
  dsimp only
  exact Wd.evB.tell (m:=m+2) (Wd.evB.of (h3.call (n:=n.toNat) (k:=k.toNat) (c:=o.n)) rfl)
 ·exact h3.mono (by omega)
theorem Wd.evB.create (h:W.evB m) {s q p:Int} {img:List Int}:(W.create s q p img).2.2.evB m:=by
 unfold Wd.create
 split
 ·exact h
 split
 ·exact h
 split
 ·exact h
 split
 ·exact h
 ·rename_i n _ _
  intro i
  show (upd W.ev n [] i).length≤m
  by_cases e:i=n
  ·rw[e,zl];exact Nat.zero_le _
  ·rw[zh e];exact h i
theorem Wd.evB.key (h:W.evB m) {n b:Int}:(W.key n b).2.evB m:=by
 unfold Wd.key
 split
 ·exact h
 split
 ·exact h
 ·exact h.of zjy
def Wd.runs (W:Wd) (n k:Int):Nat→Wd
 | 0=>W
 | j+1=>((W.runs n k j).run n k).2
theorem Wd.evB.runs (h:W.evB m) {n k:Int}:∀ {j:Nat},(W.runs n k j).evB (m+3*j)
 | 0=>h
 | j+1=>(Wd.evB.run (h.runs (j:=j))).mono (by omega)
end
end
end Go.Cr
namespace Go.Proofs.YthaiblbnpcgjpaaGreatDoor
section
open Go Go.Pt Go.Cr Go.Hp
def Lv (S0:Mem) (ρ0:Rho) (h:Nat) (S:Mem) (W:Wd):Prop:=∃ ρ A C φ,Mv S0 ρ0 S ρ Rc∧CrabA S ρ h A C∧Rel C W φ
def rho0:Rho:=fun _=>none
section
variable {S S' S0:Mem} {ρ ρ' ρ0:Rho} {R:Nat→Prop} {h:Nat} {A:Ad} {C:Cst} {W:Wd} {φ:Nat→Nat→Nat}
theorem rg0 {S:Mem}:∀ b r,rho0 b=some r→S b≠none:=fun b r h=>by cases h
theorem zeX (m:Mv S rho0 S' ρ R):Keeps S S' []:=fun b hb _=>m.kp b hb fun r e=>by cases e
theorem Lv.keeps (l:Lv S rho0 h S' W):Keeps S S' []:=by
 obtain⟨ρ,A,C,φ,m,_⟩:=l
 exact zeX m
theorem After.lv {W':Wd} (m:Mv S0 ρ0 S ρ Rc) (hA:After h A C S ρ W' S'):Lv S0 ρ0 h S' W':=by
 obtain⟨ρ',A',C',φ',m',hc,hr,_⟩:=hA
 exact⟨ρ',A',C',φ',m.trans m',hc,hr⟩
theorem Aft.lv {W':Wd} (m:Mv S0 ρ0 S ρ Rc) (hA:Aft h C S ρ W' S'):Lv S0 ρ0 h S' W':=by
 obtain⟨ρ',A',C',φ',m',hc,hr,_⟩:=hA
 exact⟨ρ',A',C',φ',m.trans m',hc,hr⟩
theorem Lv.on (l:Lv S0 ρ0 h S W) (hk:Keeps S S' []):Lv S0 ρ0 h S' W:=by
 obtain⟨ρ,A,C,φ,m,hc,hr⟩:=l
 exact⟨ρ,A,C,φ,m.then hk,hc.keeps hk,hr⟩
theorem zrg (hgl:Gl S) {form frames region:Int} {Q:Pt→Int→Mem→Prop} (hE:badNew form frames region→Q none 1 S)
  (hY:¬badNew form frames region→∀ S' h,Lv S rho0 h S' (W0 (frames-region))→Q (some (h,0)) 0 S'):zct S form frames region Q:=
 zjE rg0 rfl hgl hE fun hb S' ρ' h A l u m hc ht hl=>hY hb S' h ⟨ρ',A,_,_,m,hc,zly hb ht hl⟩
theorem znS {α:Type} {f:α→List Value} {w:Nat} (h:∀ a,(f a).length=w) {l:List α} {j k:Nat} (hj:j<l.length) (hk:k<w):nthL (l.flatMap f) (j*w+k)=nthL (f l[j]) k:=by
 obtain⟨e1,e2⟩:=zjM h hj
 rw[e1,we e2,zhz (by rw[h];exact hk)]
end
end
section
open Go Go.Pt Go.Cr Go.Hp
section
variable {S S':Mem} {ρ ρ':Rho} {R:Nat→Prop} {h:Nat} {A:Ad} {C:Cst} {W:Wd} {φ:Nat→Nat→Nat}
theorem zoK (m:Mv S ρ S' ρ' R) (hg:∀ b r,ρ b=some r→S b≠none) {os:List Nat} (ho:∀ x∈os,S x=none):Mv S ρ S' (fun x=>if x∈os then none else ρ' x) R:=
 ⟨fun b r e=>by rw[if_neg fun hb=>hg b r e (ho b hb)];exact m.ext b r e,fun b r e hb=>by
  split at e
  ·cases e
  ·exact m.old b r e hb,m.kp,m.al,fun b r e=>by
  split at e
  ·cases e
  ·exact m.rg b r e⟩
def notDue (now:Int) (alm:Nat→Nat→Option Int):Nat→Nat→Option Int:=fun n k=>(alm n k).filter fun t=>decide (now<t)
theorem zeV {now:Int} {alm:Nat→Nat→Option Int} {n k:Nat} {t:Int}:notDue now alm n k=some t↔alm n k=some t∧now<t:=by
 unfold notDue;rw[Option.filter_eq_some_iff,decide_eq_true_iff]
theorem zmD {kb:Nat} {alm:Nat→Nat→Option Int} (h:ClkP S ρ kb alm) (hg:∀ b r,ρ b=some r→S b≠none) {now:Int} {Q:Sl→Mem→Prop}
  (hQ:∀ S' ρ' lo out,Mv S ρ S' ρ' (fun r=>r=10∨r=11)→ClkP S' ρ' kb (notDue now alm)→Row S' 3 lo (Hk.fl out)→(∀ b o,lo.p=some (b,o)→ρ' b=none)→(∀ a∈out,0≤a.vm∧a.vm<6∧0≤a.seat∧a.seat<3∧alm a.vm.toNat a.seat.toNat=some a.tm)→out.length≤18→Q lo S'):wM S (some (kb,0)) now Q:=by
 obtain⟨tb,s,l,hck,ho,ha⟩:=h.ex
 refine Hk.due_spec hck fun S' s' l' lo out hp _ h1 h2 hL hT=>?_
 have hm:∀ x∈out++l',x∈l:=fun x hx=>hp.symm.subset hx
 have hal:AlmOf l' (notDue now alm):=by
  have hp2:=ha.perm hp.symm
  refine⟨(List.nodup_append.1 hp2.nd).2.1,fun a hm=>?_,fun n k t e=>?_⟩
  ·have h3:=hp2.of a (List.mem_append_right _ hm)
   exact⟨h3.1,h3.2.1,h3.2.2.1,h3.2.2.2.1,zeV.2 ⟨h3.2.2.2.2,h2 a hm⟩⟩
  ·obtain⟨e1,e2⟩:=zeV.1 e
   rcases List.mem_append.1 (hp2.to n k t e1) with e3 | e3
   ·have:=h1 _ e3
    simp only at this;omega
   ·exact e3
 have hc1:=hL.ck
 rw[show spl [eL s] 0 [eL s']=[eL s'] from rfl] at hc1
 obtain⟨ρ1,m1,h3⟩:=zjG (rb:=10) (rr:=11) hg hL.keep h.rol ho zlF hL.fresh hL.al fun x hx=>by
  obtain⟨k,hk⟩:=Hk.own_row hc1.row hx;rw[hk];simp
 have m2:=zoK m1 hg hT.fresh
 refine hQ S' _ lo out m2 ⟨⟨tb,s',l',hc1,fun x hx=>?_,hal⟩,m2.ext kb 10 h.rol⟩ hT.row (fun b o e=>?_) (fun a hx=>ha.of a (hm a (List.mem_append_left _ hx))) ?_
 ·show (if x∈Hk.own lo then none else ρ1 x)=_
  rw[if_neg fun hx2=>hT.apart x hx2 (List.mem_cons_of_mem _ hx)];exact h3 x hx
 ·exact if_pos (by simp[Hk.own,e])
 ·have:=hp.length_eq
  have:=ha.len
  rw[List.length_append] at *
  omega
def _root_.Go.Cr.Wd.tick1 (W:Wd):Wd:={ W with time:=fun n=>W.time n+1,alarm:=fun n k=>if dueA (W.alarm n) (W.time n+1) k=true then none else W.alarm n k }
theorem zmL (hr:Rel C W φ) (hnow:C.now<4611686018427387904):Rel { C with now:=C.now+1,alm:=notDue (C.now+1) C.alm } W.tick1 φ:=by
 have hn:=hr.now
 have hsub:∀ n k w,W.tick1.alarm n k=some w→W.alarm n k=some w:=fun n k w e=>by
  have e':(if dueA (W.alarm n) (W.time n+1) k=true then none else W.alarm n k)=some w:=e
  split at e'
  ·cases e'
  ·exact e'
 refine { hr with wk:={ hr.wk with off:=fun n e=>⟨(hr.wk.off n e).1,(hr.wk.off n e).2.1,fun k=>?_⟩,alarm:=fun n k w e=>hr.wk.alarm n k w (hsub n k w e) },now:=⟨by show 0≤C.now+1;omega,by show C.now+1≤_;omega⟩,time:=fun n e=>?_,alm:=fun n k=>?_ }
 ·show (if dueA (W.alarm n) (W.time n+1) k=true then none else W.alarm n k)=none
  rw[(hr.wk.off n e).2.2 k,ite_self]
 ·have:=hr.time n e
  show 0≤C.late n∧C.late n≤C.now+1∧W.time n+1=C.now+1-C.late n
  omega
 ·show notDue (C.now+1) C.alm n k=(if dueA (W.alarm n) (W.time n+1) k=true then none else W.alarm n k).map fun w=>min (w+C.late n) most64
  unfold notDue dueA
  rw[hr.alm n k]
  cases ha:W.alarm n k with
  | none=>rfl
  | some w=>
   have hon:(W.vm n).on=true:=by
    cases e:(W.vm n).on with
    | true=>rfl
    | false=>rw[(hr.wk.off n e).2.2 k] at ha;cases ha
   have ht:=hr.time n hon
   have hd:C.now+1<min (w+C.late n) most64↔¬w≤W.time n+1:=by unfold most64;omega
   show (some (min (w+C.late n) most64)).filter (fun t=>decide (C.now+1<t))=(if decide (w≤W.time n+1)=true then none else some w).map _
   by_cases h2:w≤W.time n+1
   ·rw[if_pos (decide_eq_true h2)]
    exact Option.filter_some_neg (decide_eq_false fun h3=>hd.1 h3 h2)
   ·rw[if_neg (by rw[decide_eq_true_iff];exact h2)]
    exact Option.filter_some_pos (decide_eq_true (hd.2 h2))
theorem zkI (hc:CrabA S ρ h A C) (hr:Rel C W φ) (hnow:C.now<4611686018427387904) {Q:Mem→Prop}
  (hQ:∀ S' W',Aft h { C with now:=C.now+1 } S ρ W' S'→(∀ i,W'.ev i=W.ev i)→Q S'):vB S (some (h,0)) Q:=by
 apply zdV
 unfold kg
 simp only[jn]
 rw[if_neg (by simp),zL,zS hc.c3,zL,zx hc.tnow]
 have hn:=hr.now
 rw[wu64 (by omega) (by omega)]
 refine hc.tt.pt hc.rg (vs:=[.int .u64 (C.now+1)]) 1 rfl (by rw[vb];simp) rfl fun S1 m1 h1=>?_
 rw[zky] at h1
 have hc1:=hc.setKn (k:={ C.toKn with now:=C.now+1 }) (x:=A.x) m1 h1 fun i hi=>(hc.vs i hi).keep m1 hi fun r h2 h3=>by omega
 rw[zS hc1.c3,zL,zS hc1.t171,zS hc1.c3,zL,zx hc1.tnow]
 refine zmD hc1.ck hc1.rg fun S2 ρ2 lo out m2 hk2 hrow hlo hout hlen=>?_
 have hc2:=hc1.setClk m2 (fun r hr=>by omega) hk2
 refine⟨hc2.c3,hc2.c3,?_⟩
 have hr2:=zmL hr hnow
 have hl:lo.n=out.length:=by
  have:=hrow.len
  rw[Hk.fl_length] at this;omega
 have m12:Mv S ρ S2 ρ2 Rc:=(m1.mono fun r hr=>by unfold Rc;omega).trans (m2.mono fun r hr=>by unfold Rc;omega)
 refine zC (fun (z:Int) S3=>∃ (i:Nat) (W':Wd),z=(i:Int)∧i≤out.length∧(∀ n,(W'.vm n).on=(W.vm n).on∧(W'.vm n).seats.length=(W.vm n).seats.length)∧W'.ev=W.ev∧∃ ρ3 A3 C3 φ3,Mv S2 ρ2 S3 ρ3 Rc∧CrabA S3 ρ3 h A3 C3∧Rel C3 W' φ3∧Kc { C with now:=C.now+1 } C3) (fun z=>out.length-z.toNat) ?_
  ⟨0,W.tick1,rfl,Nat.zero_le _,fun _=>⟨rfl,rfl⟩,rfl,ρ2,_,_,φ,Mv.refl hc2.rg,hc2,hr2,rfl,rfl,rfl,rfl,rfl⟩
 rintro X z S3 ⟨i,W3,rfl,hi,hsm,hev,ρ3,A3,C3,φ3,m3,hc3,hr3,hkc⟩ ih
 by_cases hlt:(i:Int)<(lo.n:Int)
 ·rw[if_pos hlt]
  have hil:i<out.length:=by omega
  have hrow3:=zeg hrow m3 hlo
  have hw:Rw S3 (fun _=>some 0) 0 3 lo (Hk.fl out):=⟨hrow3,fun _ _ _=>rfl⟩
  obtain⟨c,e1,e2⟩:=hw.sl (by rw[Hk.fl_length];omega)
  rw[e1,fi]
  refine⟨by omega,hlt,?_⟩
  have hpart:S3.part c (0+(i:Int).toNat*3) 3=some (Hk.ce out[i]):=by
   rw[hw.part e2 (i*3) (by rw[Hk.fl_length];omega) (by omega)];exact zfh (f:=Hk.ce) (w:=3) (fun _=>rfl) hil
  rw[xa hpart]
  have ho:=hout _ (List.getElem_mem hil)
  refine⟨rfl,?_⟩
  rw[zS hc3.c3,zx (show nthL (Hk.ce out[i]) 1=some (.int .i64 out[i].vm) from rfl),zx (show nthL (Hk.ce out[i]) 2=some (.int .i64 out[i].seat) from rfl)]
  generalize out[i]=a at ho
  have hwa:∃ w,W.alarm a.vm.toNat a.seat.toNat=some w:=by
   have:=hr.alm a.vm.toNat a.seat.toNat
   have e5:C.alm a.vm.toNat a.seat.toNat=some a.tm:=ho.2.2.2.2
   rw[e5] at this
   cases h6:W.alarm a.vm.toNat a.seat.toNat with
   | none=>rw[h6] at this;cases this
   | some w=>exact⟨w,rfl⟩
  obtain⟨w,hw⟩:=hwa
  have hon:(W.vm a.vm.toNat).on=true:=by
   cases e:(W.vm a.vm.toNat).on with
   | true=>rfl
   | false=>rw[(hr.wk.off _ e).2.2] at hw;cases hw
  have hk:=(hr.wk.alarm _ _ w hw).1
  have hs3:=hsm a.vm.toNat
  refine wW hc3 (fun ht h0 hkl c hs=>?_) fun hbad=>?_
  ·have:=zbs hc3 hr3 (n:=a.vm.toNat) (k:=a.seat.toNat) (i:=7) (by omega) (by rw[hs3.1];exact hon) (by rw[hs3.2];exact hk) hs (by decide) (Q:=fun _ Sx=>X (IntKind.i64.wrap ((i:Int)+1)) Sx) fun S4 hA=>?_
   ·exact this
   obtain⟨ρ4,A4,C4,φ4,m4,hc4,hr4,kp4,_,_⟩:=hA
   rw[w64 (by omega) (by omega)]
   have hsa:=(zhs (W:=W3) (n:=a.vm.toNat) (k:=a.seat.toNat) (i:=7)).s
   refine ih _ S4 ⟨i+1,_,rfl,by omega,fun n=>⟨(hsa.on n).trans (hsm n).1,(hsa.len n).trans (hsm n).2⟩,?_,ρ4,A4,C4,φ4,m3.trans m4,hc4,hr4,hkc.trans kp4.kc⟩ (by omega)
   unfold Wd.raise
   split
   ·exact hev
   ·exact hev
  ·refine absurd ⟨⟨ho.1,ho.2.1,?_⟩,ho.2.2.1,?_⟩ hbad
   ·rw[hr3.vm,hs3.1];exact hon
   ·rw[hr3.vm,hs3.2];omega
 ·rw[if_neg hlt]
  exact hQ S3 W3 ⟨ρ3,A3,C3,φ3,m12.trans m3,hc3,hr3,hkc⟩ fun i=>by rw[hev]
end
end
section
open Go Go.Pt Go.Cr Go.Hp
section
variable {S S':Mem} {ρ ρ':Rho} {R:Nat→Prop} {h:Nat} {A:Ad} {C:Cst} {W:Wd} {φ:Nat→Nat→Nat}
theorem zmu (hc:CrabA S ρ h A C) (hr:Rel C W φ) {i:Nat} (hi:(W.ls i).on=true) {Q:Mem→Prop} (hQ:∀ S',After h A C S ρ (W.setL i ls0) S'→Q S'):gW S (some (h,0)) i Q:=by
 have els:=hr.ls
 have hle:=hr.wk.lsr i hi
 have six:∀ {n},(W.vm n).on=true→n<6:=fun {n} e=>by
  by_cases h6:n<6
  ·exact h6
  ·rw[hr.wk.six n (by omega)] at e;cases e
 have hto:=six hle.2.2.1
 have hfr:=six hle.2.1
 apply zeB
 unfold jm
 rw[zL,zS hc.c3,zL,xa hc.tls]
 refine vE (ls:=C.ls) (fun _ _ ho=>?_) fun hb=>?_
 rotate_left
 ·rw[els,Int.toNat_natCast] at hb
  rcases hb with hb | hb | hb
  ·omega
  ·omega
  ·rw[hi] at hb;cases hb
 rw[Int.toNat_natCast,els]
 refine⟨rfl,?_⟩
 refine zZ (fun J=>∀ S1 ρ1 A1 C1 l1,Mv S ρ S1 ρ1 Rc→CrabA S1 ρ1 h A1 C1→Kp C C1→A1.t=A.t→(∀ i,(A1.x i).ss=(A.x i).ss)→C1.ls=W.ls→Rel { C1 with ls:=upd W.ls i l1 } (W.setL i l1) φ→l1.on=true→l1.at_<0→l1.fr=(W.ls i).fr→l1.pg=(W.ls i).pg→J S1) ?_ fun J hJ=>?_
 ·intro S1 ρ1 A1 C1 l1 m1 hc1 kp1' ht1 hx1 hl1 hr1 ho1 ha1 hf1 hp1
  rw[←hf1] at hfr
  have hon1:((W.setL i l1).ls i).on=true:=by show (upd W.ls i l1 i).on=_;rw[zl];exact ho1
  have e1:(W.setL i l1).ls i=l1:=zl
  have hle1:=hr1.wk.lsr i hon1
  rw[e1] at hle1
  obtain⟨lb,hlb⟩:=Option.isSome_iff_exists.1 hle1.2.2.2.2.1
  have hpg:=hr1.pg _ _ lb hlb
  have hwk:=hr1.walk hle1.2.1 (hr1.wk.pg _ _ lb hlb).2.1
  rw[where_own hlb] at hwk
  obtain⟨hrel,hk3,hv3,hs3⟩:=hr1.withdraw hon1 (by rw[e1];exact ha1)
  rw[e1] at hrel hk3 hv3 hs3
  have n1:nthL (lsL (W.ls i)) 1=some (.int .i64 l1.fr):=by rw[hf1];rfl
  have n2:nthL (lsL (W.ls i)) 2=some (.int .i64 l1.pg):=by rw[hp1];rfl
  rw[zS hc1.c3,zx n1,zL]
  refine⟨by omega,by omega,?_⟩
  rw[Int.toNat_natCast,xa (hc1.vtab hfr (by omega)),zS hc1.c0,zx n2]
  refine walkD hc1.st (hc1.vs _ hfr).fr.row (fun f b1 S2 hw hk=>?_) fun e S2 hw he hk=>?_
  ·have hw3:C1.walk l1.fr (l1.pg:Int)=some (f,b1):=hw
   have hwk':C1.walk l1.fr (l1.pg:Int)=_:=hwk
   rw[hwk'] at hw3
   simp only[Option.map_some,Option.some.injEq,Prod.mk.injEq] at hw3
   have hc2:=hc1.keeps hk
   refine⟨hc2.c3,rfl,?_⟩
   rw[zS hc2.c3,zL,zS hc2.t74,zx (show nthL (enL f b1) 1=some (.int .i64 f) from rfl),zx n1,←hw3.1]
   refine zds hc2.ow hc2.rg hpg.1 (zox hr1 hlb) fun e S3 m3 hs3 he3=>?_
   have hc3:=hc2.setOwn m3 hs3
   refine⟨hc3.c3,?_⟩
   rw[zS hc3.c3,zS hc3.c3,zL,xa hc3.tls]
   refine zkw (ls:=C1.ls) (by omega) ?_
   refine⟨hc3.c3,hc3.c3,?_⟩
   rw[zL]
   refine⟨qe,?_⟩
   refine zfn hc3 fun S4 m4 hc4=>?_
   refine hQ S4 ⟨ρ1,A1,_,φ,m1.trans ((Mv.keeps hc1.rg hk).trans ((m3.mono fun r hr=>by unfold Rc;omega).trans (m4.mono fun r hr=>by unfold Rc;omega))),hc4,?_,kp1'.trans kp1,ht1,hx1⟩
   dsimp only at hrel
   rw[gq] at hrel
   have e2:(W.setL i l1).setL i ls0=W.setL i ls0:=by unfold Wd.setL;rw[gq]
   rw[e2] at hrel
   rw[hl1]
   exact hrel
  ·have hw3:C1.walk l1.fr (l1.pg:Int)=none:=hw
   have hwk':C1.walk l1.fr (l1.pg:Int)=_:=hwk
   rw[hwk'] at hw3
   cases hw3
 ·rw[zx (show nthL (lsL (W.ls i)) 5=some (.int .i64 (W.ls i).at_) from rfl)]
  by_cases h0:0≤(W.ls i).at_
  ·rw[if_pos h0,zx (show nthL (lsL (W.ls i)) 3=some (.int .i64 (W.ls i).to) from rfl),zx (show nthL (lsL (W.ls i)) 5=some (.int .i64 (W.ls i).at_) from rfl)]
   have hcs:=hr.csize
   refine zbr hc hto (by omega) fun S1 ρ1 cs m1 hc1=>?_
   have ep:(W.ls i).at_=(((W.ls i).at_.toNat:Nat):Int):=by omega
   have hlv:=hr.leave (p:=(W.ls i).at_.toNat) hi rfl ep
   rw[←ep,els] at hlv
   exact hJ S1 ρ1 _ _ _ m1 hc1 kp1 rfl (fun _=>rfl) els hlv hi (show (-1:Int)<0 by decide) rfl rfl
  ·rw[if_neg h0]
   refine hJ S ρ A C (W.ls i) (Mv.refl hc.rg) hc Kp.refl rfl (fun _=>rfl) els ?_ hi (by omega) rfl rfl
   have e1:W.setL i (W.ls i)=W:=by unfold Wd.setL;rw[xV]
   rw[e1,xV,←els];exact hr
def ofL (ls:Nat→Ls) (n k:Nat):List Nat:=(List.range k).filter fun i=>(ls i).on && (decide ((ls i).fr=n) || decide ((ls i).to=n))
theorem zjB {ls:Nat→Ls} {n k:Nat}:ofL ls n (k+1)=ofL ls n k++(if (ls k).on=true∧((ls k).fr=n∨(ls k).to=n) then [k] else []):=by
 unfold ofL
 rw[List.range_succ,List.filter_append]
 congr 1
 by_cases h:(ls k).on=true∧((ls k).fr=n∨(ls k).to=n)
 ·rw[if_pos h];simp[h.1,h.2]
 ·rw[if_neg h]
  simp only[List.filter_cons,List.filter_nil]
  rw[if_neg (fun e=>h (by simpa using e))]
theorem zoH {ls:Nat→Ls} {n k i:Nat}:i∈ofL ls n k↔i<k∧(ls i).on=true∧((ls i).fr=n∨(ls i).to=n):=by unfold ofL;rw[List.mem_filter,List.mem_range];simp
theorem znn {ls:Nat→Ls} {n:Nat} {Q:Sl→Mem→Prop} (hQ:∀ t S',Keeps S S' []→Row S' 1 t (nL (ofL ls n 16))→(∀ b o,t.p=some (b,o)→S b=none)→Q t S'):gF S (lsC ls) n Q:=by
 apply zes
 unfold je
 refine⟨lsC_len,?_⟩
 refine zZ (fun J=>∀ t S',Keeps S S' []→Row S' 1 t (nL (ofL ls n 16))→(∀ b o,t.p=some (b,o)→S b=none)→J t S') hQ fun J hJ=>?_
 refine zC (fun (z:Sl×Int) S'=>∃ i:Nat,z.2=(i:Int)∧i≤16∧Keeps S S' []∧Row S' 1 z.1 (nL (ofL ls n i))∧∀ b o,z.1.p=some (b,o)→S b=none) (fun z=>16-z.2.toNat) ?_ ⟨0,rfl,by decide,Keeps.refl,Row.nil,fun _ _ e=>by cases e⟩
 rintro X ⟨t,z⟩ S1 ⟨i,hz,hi,hk,hrow,hf⟩ ih
 dsimp only at hz hrow hf ih ⊢
 subst hz
 have hn:t.n≤i:=by
  have h1:=hrow.len
  have h2:=List.length_filter_le (fun i=>(ls i).on && (decide ((ls i).fr=n) || decide ((ls i).to=n))) (List.range i)
  rw[List.length_range] at h2
  unfold nL ofL at h1
  rw[List.length_map] at h1
  omega
 by_cases hlt:(i:Int)<16
 ·rw[if_pos hlt]
  have hil:i<16:=by omega
  refine zZ (fun J=>∀ t S',Keeps S S' []→Row S' 1 t (nL (ofL ls n (i+1)))→(∀ b o,t.p=some (b,o)→S b=none)→J t S') (fun t S' hk hr hf=>?_) fun J2 hJ2=>?_
  ·rw[w64 (by omega) (by omega)]
   exact ih _ S' ⟨i+1,rfl,by omega,hk,hr,hf⟩ (by dsimp only;omega)
  refine⟨by omega,hlt,?_⟩
  rw[Int.toNat_natCast,xa (zas hil rfl)]
  refine⟨rfl,?_⟩
  refine zZ (fun J=>∀ b:Bool,(b=true↔(ls i).on=true∧((ls i).fr=n∨(ls i).to=n))→J b S1) (fun b hb=>?_) fun J3 hJ3=>?_
  ·cases b with
   | true=>
    rw[if_pos rfl]
    have es:ofL ls n (i+1)=ofL ls n i++[i]:=by rw[zjB,if_pos (hb.1 rfl)]
    refine wS hrow rfl (by decide) rfl (by omega) fun p3 S3 c kb e1 e2 e3 e4 e5=>?_
    have hc:S c=none:=by
     rcases e3 with e3 | e3
     ·exact hf c 0 e3
     ·cases hs:S c with
      | none=>rfl
      | some x=>rw[hk c (by rw[hs];simp) (by simp),hs] at e3;cases e3
    refine hJ2 p3 S3 (by rw[e4];exact hk.fresh hc) ?_ fun b o e=>by rw[e2] at e;cases e;exact hc
    rw[es]
    unfold nL at e5 ⊢
    rw[List.map_append];exact e5
   | false=>
    rw[if_neg (by decide)]
    have es:ofL ls n (i+1)=ofL ls n i:=by rw[zjB,if_neg fun h=>(by have:=hb.2 h;cases this),List.append_nil]
    exact hJ2 t S1 hk (by rw[es];exact hrow) hf
  rw[fo (show nthL (lsL (ls i)) 0=some (.bool (ls i).on) from rfl)]
  cases hon:(ls i).on with
  | true=>
   rw[hon] at hJ3
   rw[if_pos rfl,zx (show nthL (lsL (ls i)) 1=some (.int .i64 (ls i).fr) from rfl)]
   by_cases h1:(ls i).fr=n
   ·rw[if_pos (by omega)];exact hJ3 true ⟨fun _=>⟨rfl,.inl h1⟩,fun _=>rfl⟩
   rw[if_neg (by omega),zx (show nthL (lsL (ls i)) 3=some (.int .i64 (ls i).to) from rfl)]
   by_cases h2:(ls i).to=n
   ·rw[if_pos (by omega)];exact hJ3 true ⟨fun _=>⟨rfl,.inr h2⟩,fun _=>rfl⟩
   rw[if_neg (by omega)]
   exact hJ3 false ⟨fun h=>(by cases h),fun h=>(by omega)⟩
  | false=>
   rw[hon] at hJ3
   rw[if_neg (by decide)]
   exact hJ3 false ⟨fun h=>(by cases h),fun h=>h.1⟩
 ·rw[if_neg hlt]
  have:i=16:=by omega
  subst this
  exact hJ t S1 hk hrow hf
end
end
section
open Go Go.Pt Go.Cr Go.Hp
section
variable {S S':Mem} {ρ ρ':Rho} {R:Nat→Prop} {h:Nat} {A:Ad} {C:Cst} {W:Wd} {φ:Nat→Nat→Nat}
theorem rowK {w:Nat} {s:Sl} {l:List Value} (h:Row S w s l) (hk:Keeps S S' []):Row S' w s l:=h.keep fun b hb=>by
 rcases h.lie with ⟨h1,_⟩ | ⟨b',k,h1,h2,_⟩
 ·rw[h1] at hb;cases hb
 ·rw[h1] at hb;cases hb;exact hk b (by rw[h2];simp) (by simp)
def enP (x:Nat×Bool):List Value:=enL x.1 x.2
theorem zda (x:Nat×Bool):(enP x).length=3:=rfl
theorem zgU {l:List (Nat×Bool)}:(l.flatMap enP).length=l.length*3:=ku zda l
theorem znJ {m N:Nat} {d:Nat→List Int} {tf:Int} {fs:Sl} {fr:List Nat} (h:StoreD S ρ m N d) (hr:Row S 1 fs (nL fr)) {Q:Sl→Sl→Mem→Prop}
  (hQ:∀ t3 t4 S',Keeps S S' []→Row S' 3 t4 (((List.range 32).filterMap fun (p:Nat)=>walkC d N tf fr p).flatMap enP)→(∀ b o,t4.p=some (b,o)→S b=none)→Q t3 t4 S'):yR S (tbL tf fs) (some (m,0)) Q:=by
 apply gc
 unfold xg
 refine⟨rfl,?_⟩
 simp only[jn]
 have fr_of:∀ {S1:Mem} {b:Nat},Keeps S S1 []→S1 b=none→S b=none:=fun hk h=>by
  cases hs:S _ with
  | none=>rfl
  | some x=>rw[hk _ (by rw[hs];simp) (by simp),hs] at h;cases h
 refine zC (fun (z:Sl×Sl×Int) S'=>∃ (i:Nat) (L:List Value),z.2.2=(i:Int)∧i≤32∧Keeps S S' []∧Row S' 1 z.1 L∧L.length≤i∧Row S' 3 z.2.1 (((List.range i).filterMap fun (p:Nat)=>walkC d N tf fr p).flatMap enP)∧(∀ b o,z.1.p=some (b,o)→S b=none)∧(∀ b o,z.2.1.p=some (b,o)→S b=none)∧∀ b o o',z.1.p=some (b,o)→z.2.1.p≠some (b,o')) (fun z=>32-z.2.2.toNat) ?_
  ⟨0,[],rfl,by decide,Keeps.refl,Row.nil,by decide,Row.nil,fun _ _ e=>(by cases e),fun _ _ e=>(by cases e),fun _ _ _ e=>(by cases e)⟩
 rintro X ⟨pg,l,z⟩ S1 ⟨i,L,hz,hi,hk,hrow1,hL,hrow2,hf1,hf2,hne⟩ ih
 dsimp only at hz hrow1 hrow2 hf1 hf2 hne ih ⊢
 subst hz
 have hn1:pg.n≤i:=by have:=hrow1.len;omega
 have hn2:l.n≤i:=by
  have:=hrow2.len
  rw[zgU] at this
  have h2:=List.length_filterMap_le (fun (p:Nat)=>walkC d N tf fr p) (List.range i)
  rw[List.length_range] at h2
  omega
 by_cases hlt:(i:Int)<32
 ·rw[if_pos hlt]
  have es:(List.range (i+1)).filterMap (fun (p:Nat)=>walkC d N tf fr p)=(List.range i).filterMap (fun (p:Nat)=>walkC d N tf fr p)++(walkC d N tf fr (i:Int)).toList:=by
   rw[List.range_succ,List.filterMap_append,List.filterMap_cons]
   cases walkC d N tf fr (i:Int) <;> rfl
  refine walkD (h.keeps hk) (rowK hr hk) (fun f w S2 hw hk2=>?_) fun e S2 hw he hk2=>?_
  ·refine⟨rfl,?_⟩
   rw[if_pos rfl]
   have hk3:=hk.trans hk2
   have r1:=rowK hrow1 hk2
   have r2:=rowK hrow2 hk2
   refine wS r1 rfl (by decide) rfl (by omega) fun p3 S3 c kb e1 e2 e3 e4 e5=>?_
   have hc:S c=none:=by
    rcases e3 with e3 | e3
    ·exact hf1 c 0 e3
    ·exact fr_of hk3 e3
   have hcl:∀ o,l.p≠some (c,o):=fun o e=>by
    rcases e3 with e3 | e3
    ·exact hne c 0 o e3 e
    ·rcases r2.lie with ⟨h1,_⟩ | ⟨b',k,h1,h2,_⟩
     ·rw[h1] at e;cases e
     ·rw[h1] at e;cases e;rw[h2] at e3;cases e3
   have r2':Row S3 3 l (((List.range i).filterMap fun (p:Nat)=>walkC d N tf fr p).flatMap enP):=r2.keep fun b hb=>by
    rw[e4,zO fun e=>hcl 0 (by rw[←e];exact hb)]
   refine⟨rfl,?_⟩
   refine wS r2' rfl (by decide) rfl (by omega) fun l4 S4 c4 kb4 f1 f2 f3 f4 f5=>?_
   have hc3:S3 c=some kb:=by rw[e4];exact zz
   have hc4:S c4=none∧c4≠c:=by
    rcases f3 with f3 | f3
    ·exact⟨hf2 c4 0 f3,fun e=>hcl 0 (by rw[←e];exact f3)⟩
    ·have:c4≠c:=fun e=>by rw[e,hc3] at f3;cases f3
     rw[e4,zO this] at f3
     exact⟨fr_of hk3 f3,this⟩
   have r1':Row S4 1 p3 (L++[.int .i64 (i:Int)]):=e5.keep fun b hb=>by
    rw[e2] at hb;cases hb
    rw[f4,zO hc4.2.symm]
   rw[w64 (by omega) (by omega)]
   refine ih _ _ ⟨i+1,L++[.int .i64 (i:Int)],by dsimp only;omega,by omega,?_,r1',by simp;omega,?_,fun b o e=>?_,fun b o e=>?_,fun b o o' e e'=>?_⟩ (by dsimp only;omega)
   ·rw[f4,e4];exact (hk3.fresh hc).fresh hc4.1
   ·dsimp only
    rw[es,hw,List.flatMap_append]
    exact f5
   ·rw[e2] at e;cases e;exact hc
   ·dsimp only at e;rw[f2] at e;cases e;exact hc4.1
   ·dsimp only at e e'
    rw[e2] at e;rw[f2] at e';cases e;cases e';exact hc4.2 rfl
  ·refine⟨rfl,?_⟩
   rw[if_neg he,w64 (by omega) (by omega)]
   refine ih _ _ ⟨i+1,L,by dsimp only;omega,by omega,hk.trans hk2,rowK hrow1 hk2,by omega,?_,hf1,hf2,hne⟩ (by dsimp only;omega)
   dsimp only
   rw[es,hw]
   show Row S2 3 l (((List.range i).filterMap (fun (p:Nat)=>walkC d N tf fr p)++[]).flatMap enP)
   rw[List.append_nil]
   exact rowK hrow2 hk2
 ·rw[if_neg hlt]
  have:i=32:=by omega
  subst this
  exact hQ _ _ S1 hk hrow2 hf2
theorem zic {kb:Nat} {alm:Nat→Nat→Option Int} (h:ClkP S ρ kb alm) (hg:∀ b r,ρ b=some r→S b≠none) {n:Nat} {Q:Mem→Prop}
  (hQ:∀ S' ρ',Mv S ρ S' ρ' (fun r=>r=10∨r=11)→ClkP S' ρ' kb (upd alm n fun _=>none)→Q S'):yQ S (some (kb,0)) n Q:=by
 obtain⟨tb,s,l,hck,ho,ha⟩:=h.ex
 refine Hk.dropVM_spec hck fun S' s' l' hp hL=>?_
 have hal:AlmOf l' (upd alm n fun _=>none):=by
  refine AlmOf.perm ?_ hp
  refine⟨List.Pairwise.filter _ ha.nd,fun a hm=>?_,fun m j t e=>?_⟩
  ·have h1:=ha.of a (List.mem_filter.1 hm).1
   have h2:=(List.mem_filter.1 hm).2
   refine⟨h1.1,h1.2.1,h1.2.2.1,h1.2.2.2.1,?_⟩
   rw[zh (by simp at h2;omega)];exact h1.2.2.2.2
  ·by_cases e1:m=n
   ·subst e1;rw[zl] at e;cases e
   ·rw[zh e1] at e
    refine List.mem_filter.2 ⟨ha.to m j t e,?_⟩
    simp;omega
 obtain⟨ρ',m,h2⟩:=zjP hg h.rol ho hL hal
 exact hQ S' ρ' m h2
theorem zng {o:Nat→Ow} {f n:Nat} (h1:(o f).kind=3) (h2:(o f).vm=n) (h3:(o f).sh≤0):recC o f n=upd o f ow0:=by
 unfold recC;rw[if_pos ⟨h1,h2,h3⟩]
theorem zoG {o:Nat→Ow} {f:Nat} (h1:(o f).kind=2):relC o f=upd o f ow0:=by
 unfold relC;rw[if_neg (by omega)]
theorem zni {o:Nat→Ow} {l:List Nat} {f:Nat}:offO o (l++[f])=upd (offO o l) f ow0:=by
 unfold offO;rw[List.foldl_append];rfl
theorem znh {u:Nat→Bool} {l:List Nat} {f:Nat}:offU u (l++[f])=upd (offU u l) f false:=by
 unfold offU;rw[List.foldl_append];rfl
def _root_.Go.Cr.Cst.off (C:Cst) (l:List Nat):Cst:={ C with own:=offO C.own l,used:=offU C.used l }
theorem zik {l:List Nat} {j:Nat} (hj:j<l.length):l.take (j+1)=l.take j++[l[j]]:=List.take_succ_eq_append_getElem hj
theorem zcS {l r:List Nat} (hn:(r++l).Nodup) {j:Nat} (hj:j<l.length):l[j]∉r++l.take j:=fun hm=>by
 rw[List.nodup_append] at hn
 rcases List.mem_append.1 hm with h | h
 ·exact hn.2.2 _ h _ (List.getElem_mem hj) rfl
 ·obtain⟨k,hk,e⟩:=List.mem_iff_getElem.1 h
  rw[List.length_take] at hk
  rw[List.getElem_take] at e
  exact List.pairwise_iff_getElem.1 hn.2.1 k j (by omega) hj (by omega) e
theorem offStep {l:List Nat} (hc:CrabA S ρ h A (C.off l)) {f:Nat} (hf:f<C.N) (hu:C.used f=true) (hm:f∉l) {own':Nat→Ow} (ho:own'=upd (offO C.own l) f ow0) {S1:Mem} (m1:Mv S ρ S1 ρ (· = 9)) (hs:OwnP S1 ρ A.ob C.N own') {Q:Int→Mem→Prop}
  (hQ:∀ S' ρ',Mv S ρ S' ρ' Rc→CrabA S' ρ' h A (C.off (l++[f]))→Q 0 S'):qU S1 (some (A.p,0)) f Q:=by
 have hc3:=hc.setOwn m1 hs
 refine zfe hc3.pl hc3.rg hf (fun _ S4 ρ4 m4 hp4=>?_) fun hu'=>?_
 ·have hc4:=hc3.setPool m4 (fun r hr=>.inl hr) hp4
  refine hQ S4 ρ4 ((m1.mono fun r hr=>by unfold Rc;omega).trans (m4.mono fun r hr=>by unfold R345 at hr;unfold Rc;omega)) ?_
  have e:(C.off (l++[f])) = { C with own:=own',used:=upd (offU C.used l) f false }:=by
   unfold Go.Cr.Cst.off
   rw[zni,znh,ho]
  rw[e];exact hc4
 ·have:offU C.used l f=false:=hu'
  rw[ziG,if_neg hm,hu] at this;cases this
theorem zmK (hr:Rel C W φ) {n:Nat} (hon:(W.vm n).on=true) (hls:Alone W n):(List.range 32).filterMap (fun (p:Nat)=>walkC C.dat C.N (C.tf n) (C.fr n) p)=((W.pgs n).map (φ n)).map fun f=>(f,true):=by
 unfold Wd.pgs
 have key:∀ k,k≤32→(List.range k).filterMap (fun (p:Nat)=>walkC C.dat C.N (C.tf n) (C.fr n) p)=(((List.range k).filter fun p=>(W.own n p).isSome).map (φ n)).map fun f=>(f,true):=by
  intro k
  induction k with
  | zero=>intro _;rfl
  | succ k ih=>
   intro hk
   have hw:walkC C.dat C.N (C.tf n) (C.fr n) (k:Int)=(W.where_ n k).map fun q=>(φ q.1 q.2.1,q.2.2):=hr.walk hon (by omega)
   have hl:leaseAt W.ls n k=none:=by
    unfold leaseAt
    rw[List.find?_eq_none]
    intro i _ h
    simp only[Bool.and_eq_true,decide_eq_true_eq] at h
    exact (hls i h.1).2 h.2.1
   rw[List.range_succ,List.filterMap_append,List.filter_append,List.map_append,List.map_append,ih (by omega)]
   congr 1
   rw[List.filterMap_cons,hw]
   unfold Wd.where_
   rw[hl]
   cases ho:W.own n k with
   | none=>simp[ho]
   | some l=>simp[ho]
 exact key 32 (Nat.le_refl _)
set_option maxHeartbeats 1000000 in
theorem ziW (hc:CrabA S ρ h A C) (hr:Rel C W φ) {vm:Int} {Q:Int→Mem→Prop} (hQ:∀ S',Aft h C S ρ (W.destroy vm).2 S'→Q (W.destroy vm).1 S'):xd S (some (h,0)) vm Q:=by
 apply zbh
 unfold xR
 refine zZ (fun J=>∀ n:Nat,vm=n→n<6→(W.vm n).on=true→J S) (fun n en hn hon=>?_) fun J hJ=>?_
 rotate_left
 ·rw[if_neg (by simp),zL,zS hc.c3]
  refine qJ hc ?_
  by_cases ht:¬W.there vm
  ·rw[decide_eq_false fun h=>ht ((qD hr).1 h),if_neg (by decide)]
   have e:W.destroy vm=(2,W):=by unfold Wd.destroy;rw[if_pos ht]
   rw[e] at hQ
   exact hQ S (After.here hc hr).aft
  have ht:=Decidable.not_not.1 ht
  rw[decide_eq_true ((qD hr).2 ht),if_pos rfl]
  exact hJ vm.toNat (by have:=ht.1;omega) (by have:=ht.1;have:=ht.2.1;omega) ht.2.2
 subst en
 rw[ziV hn hon] at hQ
 refine zZ (fun J=>∀ S1 ρ1 A1 C1 φ1,Mv S ρ S1 ρ1 Rc→CrabA S1 ρ1 h A1 C1→Kc C C1→Rel C1 (W.endL n) φ1→J S1) ?_ fun J hJ=>?_
 rotate_left
 ·rw[zL,zS hc.c3,zL,xa hc.tls,hr.ls]
  refine znn fun t S1 hk1 hrow hf=>?_
  have hc1:=hc.keeps hk1
  have hnd:(ofL W.ls n 16).Nodup:=List.Pairwise.filter _ List.nodup_range
  have hmem:=fun i=>zoH (ls:=W.ls) (n:=n) (k:=16) (i:=i)
  have h16:(ofL W.ls n 16).length≤16:=Nat.le_trans (List.length_filter_le _ _) (by rw[List.length_range];exact Nat.le_refl _)
  generalize hl:ofL W.ls n 16=l at hrow hnd hmem h16
  have hfr:∀ b o,t.p=some (b,o)→ρ b=none:=fun b o e=>by
   cases hρ:ρ b with
   | none=>rfl
   | some r=>exact absurd (hf b o e) (hc.rg b r hρ)
  have hn1:t.n=l.length:=by
   have:=hrow.len
   unfold nL at this
   rw[List.length_map] at this;omega
  refine zC (fun (z:Int) S'=>∃ (j:Nat) (ρ2:Rho) (A2:Ad) (C2:Cst) (φ2:Nat→Nat→Nat),z=(j:Int)∧j≤l.length∧Mv S1 ρ S' ρ2 Rc∧CrabA S' ρ2 h A2 C2∧Kc C C2∧Rel C2 { W with ls:=fun i=>if i∈l.take j then ls0 else W.ls i } φ2) (fun z=>l.length-z.toNat) ?_ ⟨0,ρ,A,C,φ,rfl,Nat.zero_le _,Mv.refl hc1.rg,hc1,Kc.refl,by simp only[List.take_zero,List.not_mem_nil,if_false];exact hr⟩
  rintro X z S2 ⟨j,ρ2,A2,C2,φ2,rfl,hj,m2,hc2,kc2,hr2⟩ ih
  by_cases hlt:(j:Int)<(t.n:Int)
  ·rw[if_pos hlt]
   have hjl:j<l.length:=by omega
   have hw:Rw S2 (fun _=>some 0) 0 1 t (nL l):=⟨zeg hrow m2 hfr,fun _ _ _=>rfl⟩
   obtain⟨c,e1,e2⟩:=hw.sl (by unfold nL;rw[List.length_map];omega)
   rw[e1,fi]
   refine⟨by omega,hlt,?_⟩
   have hcell:S2.cell c (0+(j:Int).toNat*1)=some (.int .i64 l[j]):=by
    rw[hw.cell e2 j (by unfold nL;rw[List.length_map];omega) (by omega)]
    unfold nL
    rw[zI,List.getElem?_map,List.getElem?_eq_getElem hjl];rfl
   rw[zx hcell]
   have hnm:l[j]∉l.take j:=by
    have:=zcS (r:=[]) (l:=l) (by simpa using hnd) hjl
    simpa using this
   have hon2:=(hmem l[j]).1 (List.getElem_mem hjl)
   refine zmu hc2 hr2 (i:=l[j]) (by show (if l[j]∈l.take j then ls0 else W.ls l[j]).on=true;rw[if_neg hnm];exact hon2.2.1) fun S3 hA=>?_
   obtain⟨ρ3,A3,C3,φ3,m3,hc3,hr3,kp3,_,_⟩:=hA
   rw[w64 (by omega) (by omega)]
   refine ih _ S3 ⟨j+1,ρ3,A3,C3,φ3,by omega,by omega,m2.trans m3,hc3,kc2.trans kp3.kc,?_⟩ (by omega)
   have ew:({ W with ls:=fun i=>if i∈l.take (j+1) then ls0 else W.ls i }:Wd)=({ W with ls:=fun i=>if i∈l.take j then ls0 else W.ls i }:Wd).setL l[j] ls0:=by
    unfold Wd.setL
    have:(fun i=>if i∈l.take (j+1) then ls0 else W.ls i)=upd (fun i=>if i∈l.take j then ls0 else W.ls i) l[j] ls0:=by
     funext i
     rw[zik hjl]
     by_cases e:i=l[j]
     ·rw[e,zl,if_pos (List.mem_append_right _ (List.mem_singleton.2 rfl))]
     ·rw[zh e]
      by_cases e3:i∈l.take j
      ·rw[if_pos e3,if_pos (List.mem_append_left _ e3)]
      ·rw[if_neg e3,if_neg fun h=>(List.mem_append.1 h).elim e3 fun h=>e (List.mem_singleton.1 h)]
    rw[this]
   rw[ew];exact hr3
  ·rw[if_neg hlt]
   have:j=l.length:=by omega
   subst this
   have ew:({ W with ls:=fun i=>if i∈l.take l.length then ls0 else W.ls i }:Wd)=W.endL n:=by
    unfold Wd.endL
    have:(fun i=>if i∈l.take l.length then ls0 else W.ls i)=fun i=>if (W.ls i).on=true∧((W.ls i).fr=n∨(W.ls i).to=n) then ls0 else W.ls i:=by
     funext i
     rw[List.take_length]
     by_cases e:(W.ls i).on=true∧((W.ls i).fr=n∨(W.ls i).to=n)
     ·rw[if_pos e,if_pos ((hmem i).2 ⟨(hr.wk.lsr i e.1).1,e⟩)]
     ·rw[if_neg e,if_neg fun h=>e ((hmem i).1 h).2]
    rw[this]
   rw[ew] at hr2
   exact hJ S2 ρ2 A2 C2 φ2 ((hc.mv0 hk1).trans m2) hc2 kc2 hr2
 have hon:((W.endL n).vm n).on=true:=hon
 have hls:=zkF (W:=W) (n:=n)
 clear hc hr
 generalize W.endL n=W at hQ hon hls
 intro S ρ A C φ m0 hc kc hr
 simp only[jn]
 have hrel:=hr.destroy hon hls
 have hmem:=fun f=>ziR hr hon (f:=f)
 have hnd:=zff hr hon
 have hus:=fun f hf=>zjL hr hon (f:=f) hf
 have hwp:=zmK hr hon hls
 have hfl:∀ f∈(W.pgs n).map (φ n),(C.own f).kind=3∧(C.own f).vm=n∧(C.own f).sh≤0:=fun f hf=>by
  obtain⟨p,hp,rfl⟩:=List.mem_map.1 hf
  obtain⟨l,hl⟩:=Option.isSome_iff_exists.1 (List.mem_filter.1 hp).2
  have h1:=(hr.pg n p l hl).2.1
  have h2:lentN W.ls n p=0:=xe fun i _=>by
   cases ho:(W.ls i).on with
   | false=>rfl
   | true=>rw[Bool.true_and,decide_eq_false (hls i ho).1];rfl
  rw[h1,h2]
  exact⟨rfl,rfl,Int.le_refl _⟩
 have hfr2:∀ f∈C.fr n,(C.own f).kind=2:=fun f hf=>by rw[(hr.tabf n f hf).2]
 have hlen32:((W.pgs n).map (φ n)).length≤32:=by
  rw[List.length_map,ziD];exact kD _ 32
 generalize hP:(W.pgs n).map (φ n)=P at *
 simp only[Int.toNat_natCast] at *
 rw[zL,zS hc.c3,zL]
 refine⟨by omega,by omega,?_⟩
 rw[xa (hc.vtab hn (by omega))]
 refine⟨rfl,?_⟩
 rw[zS hc.c0]
 refine znJ hc.st (hc.vs n hn).fr.row fun t3 t4 S1 hk1 hrow hf4=>?_
 rw[hwp] at hrow
 have hc1:=hc.keeps hk1
 have hn4:t4.n=P.length:=by
  have:=hrow.len
  rw[zgU,List.length_map] at this;omega
 have hf4':∀ b o,t4.p=some (b,o)→ρ b=none:=fun b o e=>by
  have hb:=hf4 b o e
  cases hρ:ρ b with
  | none=>rfl
  | some r=>exact absurd hb (hc.rg b r hρ)
 refine zC (fun (z:Int) S'=>∃ (j:Nat) (ρ':Rho),z=(j:Int)∧j≤P.length∧Mv S1 ρ S' ρ' Rc∧CrabA S' ρ' h A (C.off (P.take j))) (fun z=>P.length-z.toNat) ?_ ⟨0,ρ,rfl,Nat.zero_le _,Mv.refl hc1.rg,hc1⟩
 rintro X z S2 ⟨j,ρ2,rfl,hj,m2,hc2⟩ ih
 by_cases hlt:(j:Int)<(t4.n:Int)
 ·rw[if_pos hlt]
  have hjl:j<P.length:=by omega
  have hrow2:=zeg hrow m2 hf4'
  have hw2:Rw S2 (fun _=>some 0) 0 3 t4 ((P.map fun f=>(f,true)).flatMap enP):=⟨hrow2,fun _ _ _=>rfl⟩
  obtain⟨c,e1,e2⟩:=hw2.sl (by rw[zgU,List.length_map];omega)
  rw[e1,fi]
  refine⟨by omega,hlt,?_⟩
  have hjm:j<(P.map fun f=>(f,true)).length:=by rw[List.length_map];exact hjl
  have hpart:S2.part c (0+(j:Int).toNat*3) 3=some (enL P[j] true):=by
   rw[hw2.part e2 (j*3) (by rw[zgU];omega) (by omega),zfh zda hjm,List.getElem_map];rfl
  rw[xa hpart]
  refine⟨rfl,?_⟩
  rw[zS hc2.c3,zL,zS hc2.t74,zx (show nthL (enL P[j] true) 1=some (.int .i64 P[j]) from rfl)]
  have hPj:=hus P[j] (List.mem_append_left _ (List.getElem_mem hjl))
  have hnm:P[j]∉P.take j:=by
   have:=zcS (r:=[]) (l:=P) (by
    rw[List.nodup_append] at hnd
    exact hnd.1) hjl
   simpa using this
  refine zdw hc2.ow hc2.rg hPj.1 fun e S3 m3 hs3=>?_
  have hc3:=hc2.setOwn m3 hs3
  refine⟨hc3.c3,?_⟩
  rw[zS hc3.c1,zx (show nthL (enL P[j] true) 1=some (.int .i64 P[j]) from rfl)]
  have hold:offO C.own (P.take j) P[j]=C.own P[j]:=by rw[zgF,if_neg hnm]
  have h3:=hfl P[j] (List.getElem_mem hjl)
  refine offStep hc2 hPj.1 hPj.2 hnm (zng (o:=offO C.own (P.take j)) (by rw[hold];exact h3.1) (by rw[hold];exact h3.2.1) (by rw[hold];exact h3.2.2)) m3 hs3 fun S4 ρ4 m4 hc4=>?_
  rw[w64 (by omega) (by omega)]
  refine ih _ _ ⟨j+1,ρ4,by omega,by omega,m2.trans m4,?_⟩ (by omega)
  rw[zik hjl];exact hc4
 rw[if_neg hlt]
 have hje:j=P.length:=by omega
 subst hje
 rw[List.take_length] at hc2
 clear ih
 rw[wj (show nthL (tbL (C.tf n) (A.x n).fs) 1=some (eL (A.x n).fs) from rfl)]
 have hfs:∀ {S':Mem} {ρ':Rho} {C':Cst},CrabA S' ρ' h A C'→C'.fr=C.fr→Rw S' ρ' (40+n) 1 (A.x n).fs (nL (C.fr n)):=fun hc' e=>by
  have:=(hc'.vs n hn).fr
  rw[e] at this;exact this
 have hfn:(A.x n).fs.n=(C.fr n).length:=(hfs hc rfl).n (by decide) (by unfold nL;rw[List.length_map,Nat.mul_one])
 have hf5:=(hr.tab n hon).2.1
 refine zC (fun (z:Int) S'=>∃ (j:Nat) (ρ':Rho),z=(j:Int)∧j≤(C.fr n).length∧Mv S1 ρ S' ρ' Rc∧CrabA S' ρ' h A (C.off (P++(C.fr n).take j))) (fun z=>(C.fr n).length-z.toNat) ?_ ⟨0,ρ2,rfl,Nat.zero_le _,m2,by rw[List.take_zero,List.append_nil];exact hc2⟩
 rintro X z S3 ⟨j,ρ3,rfl,hj3,m3,hc3⟩ ih
 by_cases hlt3:(j:Int)<((A.x n).fs.n:Int)
 ·rw[if_pos hlt3]
  have hjl:j<(C.fr n).length:=by omega
  have hw3:=hfs hc3 rfl
  obtain⟨c,e1,e2⟩:=hw3.sl (by unfold nL;rw[List.length_map];omega)
  rw[e1,fi]
  refine⟨by omega,hlt3,?_⟩
  have hcell:S3.cell c (0+(j:Int).toNat*1)=some (.int .i64 (C.fr n)[j]):=by
   rw[hw3.cell e2 j (by unfold nL;rw[List.length_map];omega) (by omega)]
   unfold nL
   rw[zI,List.getElem?_map,List.getElem?_eq_getElem hjl];rfl
  rw[zx hcell,zS hc3.c3,zL,zS hc3.t74]
  have hPj:=hus (C.fr n)[j] (List.mem_append_right _ (List.getElem_mem hjl))
  have hnm:=zcS hnd hjl
  refine zhr hc3.ow hc3.rg hPj.1 fun e S4 m4 hs4=>?_
  have hc4:=hc3.setOwn m4 hs4
  rw[zS hc4.c1]
  have hold:offO C.own (P++(C.fr n).take j) (C.fr n)[j]=C.own (C.fr n)[j]:=by rw[zgF,if_neg hnm]
  refine offStep hc3 hPj.1 hPj.2 hnm (zoG (o:=offO C.own (P++(C.fr n).take j)) (by rw[hold];exact hfr2 _ (List.getElem_mem hjl))) m4 hs4 fun S5 ρ5 m5 hc5=>?_
  rw[w64 (by omega) (by omega)]
  refine ih _ _ ⟨j+1,ρ5,by omega,by omega,m3.trans m5,?_⟩ (by omega)
  rw[zik hjl,←List.append_assoc];exact hc5
 rw[if_neg hlt3]
 have hje:j=(C.fr n).length:=by omega
 subst hje
 rw[List.take_length] at hc3
 clear ih
 have hcs:=hr.csize
 refine zhT hc3.cap hc3.rg (show C.cache.length≤100 by omega) fun S4 ρ4 m4 h4=>?_
 obtain⟨cs,h5,h6⟩:=h4.ex
 have hc4:=hc3.setCache m4 h5 h6
 rw[zS hc4.c3,zL,zS hc4.t171]
 refine zic hc4.ck hc4.rg fun S5 ρ5 m5 hk5=>?_
 have hc5:=hc4.setClk m5 (fun r hr=>by omega) hk5
 rw[zS hc5.c3,zL]
 refine⟨by omega,by omega,?_⟩
 refine zdc hc5 (j:=0) (vs:=[.bool false,.slice (none) 0 0,.int .i64 0,.slice (none) 0 0,.int .i64 0,.int .u64 0,.slice (none) 0 0,.slice (none) 0 0,.slice (none) 0 0,.slice (none) 0 0,.slice (none) 0 0,.int .u32 0]) (x':=vx0) (v':=bv0) (tf':=0) (late':=0) (fr':=[]) hn (by omega) rfl (by decide) rfl ⟨Rw.nil,fun s hs=>(by cases hs),Rw.nil,Rw.nil,fun j _=>Rw.nil⟩ fun S6 m6 hc6=>?_
 have mm:Mv S ρ S6 ρ5 Rc:=(hc.mv0 hk1).trans (m3.trans ((m4.mono fun r hr=>by unfold Rc;omega).trans ((m5.mono fun r hr=>by unfold Rc;omega).trans (m6.mono fun r hr=>by unfold Rc;omega))))
 refine zC (fun (z:Int) S'=>∃ (i:Nat) (A':Ad) (v:Nat→Bv),z=(i:Int)∧i≤6∧Mv S6 ρ5 S' ρ5 Rc∧(v=fun m=>if m<i then { upd C.vm n bv0 m with bells:=upd (upd C.vm n bv0 m).bells n false } else upd C.vm n bv0 m)∧CrabA S' ρ5 h A' { C.without n (P++C.fr n) with vm:=v }) (fun z=>6-z.toNat) ?_ ⟨0,_,_,rfl,by decide,Mv.refl hc6.rg,rfl,hc6⟩
 rintro X z S7 ⟨i,A7,v,rfl,hi,m7,hv,hc7⟩ ih
 by_cases hl6:(i:Int)<6
 ·rw[if_pos hl6,zS hc7.c3,zL]
  refine⟨by omega,hl6,?_⟩
  have hi6:i<6:=by omega
  rw[Int.toNat_natCast,zx (hc7.vcell (n:=i) (j:=11) hi6 (by decide) (by omega))]
  refine⟨by omega,by omega,hl6,?_⟩
  have hvi:=hc7.vs i hi6
  refine zdc hc7 (n:=i) (j:=11) (vs:=[.int .u32 (iandn .u32 (bI (v i).bells) (ishl .u32 1 (n:Int)))]) (x':=A7.x i) (v':={ v i with bells:=upd (v i).bells n false }) (tf':=upd C.tf n 0 i) (late':=upd C.late n 0 i) (fr':=upd C.fr n [] i) hi6 (by omega) rfl (by simp) (by rw[zcW _ hn];rfl) ⟨hvi.se,hvi.r,hvi.fr,hvi.ke,hvi.di⟩ fun S8 m8 hc8=>?_
  rw[w64 (by omega) (by omega)]
  refine ih _ _ ⟨i+1,{ A7 with x:=upd A7.x i (A7.x i) },upd v i { v i with bells:=upd (v i).bells n false },by omega,by omega,m7.trans (m8.mono fun r hr=>by unfold Rc;omega),?_,?_⟩ (by omega)
  ·funext m
   by_cases e:m=i
   ·subst e
    have e0:v m=upd C.vm n bv0 m:=by rw[hv];exact if_neg (by omega)
    rw[zl,if_pos (by omega),e0]
   ·rw[zh e,hv]
    dsimp only
    by_cases h1:m<i
    ·rw[if_pos h1,if_pos (by omega)]
    ·rw[if_neg h1,if_neg (by omega)]
  ·have e1:upd (upd C.tf n 0) i (upd C.tf n 0 i)=upd C.tf n 0:=xV
   have e2:upd (upd C.late n 0) i (upd C.late n 0 i)=upd C.late n 0:=xV
   have e3:upd (upd C.fr n []) i (upd C.fr n [] i)=upd C.fr n []:=xV
   have hc8':CrabA S8 ρ5 h { A7 with x:=upd A7.x i (A7.x i) } { C.without n (P++C.fr n) with vm:=upd v i { v i with bells:=upd (v i).bells n false },tf:=upd (upd C.tf n 0) i (upd C.tf n 0 i),late:=upd (upd C.late n 0) i (upd C.late n 0 i),fr:=upd (upd C.fr n []) i (upd C.fr n [] i) }:=hc8
   rw[e1,e2,e3] at hc8'
   exact hc8'
 rw[if_neg hl6]
 have hi6:i=6:=by omega
 subst hi6
 have hve:v=offB C.vm n:=by
  funext m
  rw[hv]
  dsimp only
  by_cases e:m=n
  ·subst e
   rw[if_pos hn,zl,fK]
   unfold bv0 upd;simp
  ·rw[zh e,yh e]
   by_cases h6:m<6
   ·rw[if_pos h6]
   ·rw[if_neg h6,hr.vm,(hr.wk.off m (hr.wk.six m (by omega))).1]
    unfold bv0 upd;simp
 rw[hve] at hc7
 exact hQ S7 ⟨ρ5,A7,_,φ,m0.trans (mm.trans m7),hc7,hrel,kc.trans ⟨rfl,rfl,rfl,rfl,rfl⟩⟩
end
end
end Go.Proofs.YthaiblbnpcgjpaaGreatDoor
namespace Go.Cr
section
open Go Go.Pt
theorem zde {g:Nat→Bool} {N:Nat} {l:List Nat} (hn:l.Nodup) (hm:∀ f,f∈l↔f<N∧g f=true):count g N=l.length:=by
 unfold count
 exact ((List.perm_ext_iff_of_nodup (List.nodup_range.filter _) hn).2 fun f=>by rw[List.mem_filter,List.mem_range,hm]).length_eq
section
variable {C:Cst} {W:Wd} {φ:Nat→Nat→Nat}
theorem Rel.cHyp (h:Rel C W φ) {n:Int}:count (fun f=>decide ((C.own f).kind=1) && (decide ((1:Int)<2) || decide ((C.own f).vm=n))) C.N=C.region.length:=
 zde h.hyp.1 fun f=>by rw[h.hyp.2 f];simp
theorem Rel.cTab (h:Rel C W φ) {n:Nat} (hon:(W.vm n).on=true):count (fun f=>decide ((C.own f).kind=2) && (decide ((2:Int)<2) || decide ((C.own f).vm=n))) C.N=5:=by
 rw[←(h.tab n hon).2.1]
 refine zde (h.tab n hon).2.2 fun f=>⟨fun hf=>?_,fun⟨h1,h2⟩=>?_⟩
 ·have:=h.tabf n f hf
  exact⟨this.1,by rw[this.2];simp⟩
 ·simp only[Bool.and_eq_true,Bool.or_eq_true,decide_eq_true_eq] at h2
  obtain⟨m,hm⟩:=h.tabk f h1 h2.1
  have:=(h.tabf m f hm).2
  rw[this] at h2
  have:m=n:=by have:=h2.2;simp only at this;omega
  rw[←this];exact hm
theorem Rel.cTab0 (h:Rel C W φ) {n:Nat} (hoff:(W.vm n).on=false):count (fun f=>decide ((C.own f).kind=2) && (decide ((2:Int)<2) || decide ((C.own f).vm=n))) C.N=0:=by
 refine xe fun f hf=>?_
 rw[Bool.eq_false_iff]
 intro h2
 simp only[Bool.and_eq_true,Bool.or_eq_true,decide_eq_true_eq] at h2
 obtain⟨m,hm⟩:=h.tabk f hf h2.1
 have:=(h.tabf m f hm).2
 rw[this] at h2
 have:m=n:=by have:=h2.2;simp only at this;omega
 subst this
 rw[(h.off m hoff).1] at hm;cases hm
theorem Rel.guest (h:Rel C W φ) {f:Nat} (hf:f<C.N) (hk:(C.own f).kind=3):∃ n p l,W.own n p=some l∧φ n p=f∧C.own f=⟨3,n,p,lentN W.ls n p⟩∧n<6∧p<32∧(W.vm n).on=true:=by
 obtain⟨n,p,ho,hp⟩:=h.pgk f hf hk
 obtain⟨l,hl⟩:=Option.isSome_iff_exists.1 ho
 have h1:=(h.pg n p l hl).2.1
 have h2:=h.wk.pg n p l hl
 refine⟨n,p,l,hl,hp,hp ▸ h1,?_,h2.2.1,h2.1⟩
 apply Classical.byContradiction;intro hc
 have:=h.wk.six n (by omega)
 rw[h2.1] at this;cases this
theorem Rel.cGuest (h:Rel C W φ) {n:Nat}:count (fun f=>decide ((C.own f).kind=3) && (decide ((3:Int)<2) || decide ((C.own f).vm=n))) C.N=W.pages n:=by
 rw[←ziD,←List.length_map (f:=φ n)]
 refine zde (zhw h) fun f=>⟨fun hf=>?_,fun⟨h1,h2⟩=>?_⟩
 ·obtain⟨p,hp,rfl⟩:=List.mem_map.1 hf
  unfold Wd.pgs at hp
  obtain⟨l,hl⟩:=Option.isSome_iff_exists.1 (List.mem_filter.1 hp).2
  have h1:=h.pg n p l hl
  exact⟨h1.1,by rw[h1.2.1];simp⟩
 ·simp only[Bool.and_eq_true,Bool.or_eq_true,decide_eq_true_eq] at h2
  obtain⟨m,p,l,hl,hp,ho,hm,hp32,hon⟩:=h.guest h1 h2.1
  rw[ho] at h2
  have:m=n:=by have:=h2.2;simp only at this;omega
  subst this
  refine List.mem_map.2 ⟨p,?_,hp⟩
  unfold Wd.pgs
  exact List.mem_filter.2 ⟨List.mem_range.2 hp32,by rw[hl];rfl⟩
structure TbOk (C:Cst):Prop where
 on:∀ i:Nat,i<6→(C.vm i).on=true→C.tf i=C.form∧(C.fr i).length=5∧count (fun f=>decide ((C.own f).kind=2) && (decide ((2:Int)<2) || decide ((C.own f).vm=i))) C.N=5
 off:∀ i:Nat,i<6→(C.vm i).on=false→C.fr i=[]∧count (fun f=>decide ((C.own f).kind=2) && (decide ((2:Int)<2) || decide ((C.own f).vm=i))) C.N=0
 row:∀ (i f:Nat),f∈C.fr i→f<C.N∧C.own f=⟨2,i,0,0⟩
theorem Rel.tb (h:Rel C W φ):TbOk C:=
 ⟨fun i _ hon=>by rw[h.vm] at hon;exact⟨(h.tab i hon).1,(h.tab i hon).2.1,h.cTab hon⟩,fun i _ hoff=>by rw[h.vm] at hoff;exact⟨(h.off i hoff).1,h.cTab0 hoff⟩,h.tabf⟩
end
end
end Go.Cr
namespace Go.Proofs.YthaiblbnpcgjpaaGreatDoor
section
open Go Go.Pt Go.Cr Go.Hp
section
variable {S S' S0:Mem} {ρ ρ' ρ0:Rho} {R:Nat→Prop} {h:Nat} {A:Ad} {C:Cst} {W:Wd} {φ:Nat→Nat→Nat}
def pxL (A:Ad) (p:Nat) (gs:Sl):List Value:=[eP (some (A.m,0)),eP (some (p,0)),eL gs,eP (some (A.t,0))]
theorem zoT {k:Kn} {x:Nat→Vx} {ob kb:Nat}:lpart (knL k x ob kb) 2 72=some (cF 6 fun i=>vmC (x i) (k.vm i) (k.tf i) (k.late i)):=by
 unfold knL
 have:=xc (A:=[Value.int .i64 k.form,.int .u64 k.now]) (B:=cF 6 (fun i=>vmC (x i) (k.vm i) (k.tf i) (k.late i))++([eP (some (ob,0))]++(cF 16 (fun i=>lsL (k.ls i))++([eP (some (kb,0))]++cF 18 fun i=>[.int .i64 (k.turns i)])))) (n:=2) (j:=0) (m:=72) rfl
 rw[this,kF (by rw[jK];decide),ze jK]
theorem CrabA.vms (hc:CrabA S ρ h A C):S.part A.t (0+2) 72=some (cF 6 fun i=>vmC (A.x i) (C.vm i) (C.tf i) (C.late i)):=(hc.tt.part 2 (by rw[vb];decide) rfl).trans zoT
theorem zlb {f:Nat→List Value} (hf:∀ i,(f i).length=12) {i:Nat} (hi:i<6):lpart (cF 6 f) (((i:Int)).toNat*12) 12=some (f i):=by
 have:=zgX (w:=12) (k:=0) (m:=12) (n:=6) (f:=f) (fun i _=>hf i) hi (by decide)
 rw[Nat.add_zero] at this
 rw[Int.toNat_natCast,this,ze (hf i)]
theorem CrabA.ownL (hc:CrabA S ρ h A C):∃ rs,S.cell A.ob 0=some (eL rs)∧rs.n=C.N∧∀ f,f<C.N→∃ c n,rs=⟨some (c,0),n,rs.c⟩∧n=C.N∧S.part c (0+(f:Int).toNat*4) 4=some (owL (C.own f)):=by
 obtain⟨rs,h1,h2⟩:=hc.ow.ex
 have hn:=h2.n (by decide) xB
 refine⟨rs,h1.cell 0 (by simp) rfl,hn,fun f hf=>?_⟩
 obtain⟨c,e1,e2⟩:=h2.sl (by rw[xB];omega)
 exact⟨c,rs.n,e1,hn,by rw[Int.toNat_natCast,h2.part e2 (f*4) (by rw[xB];omega) (by omega)];exact ziF hf⟩
theorem zoE {o o':Ow}:((!(eqL (owL o) (owL o')))=true)↔o≠o':=by
 obtain⟨a,b,c,d⟩:=o
 obtain⟨a',b',c',d'⟩:=o'
 simp[eqL,owL,eq1]
 omega
theorem zmF {s:Sl} {c o n k:Nat} {K:Nat→Nat→Nat→Nat→Prop} (e:s=⟨some (c,o),n,k⟩):sl s K=K c o n k:=by rw[e,fi]
theorem zdz (hc:CrabA S ρ h A C) {p:Nat} {u:Nat→Bool} {left:Int} (hp:PoolP S ρ' p C.N u left) {gs:Sl} {Q:Int→Mem→Prop}
  (hY:(∀ f,f<C.N→u f=decide ((C.own f).kind≠0)∧((C.own f).kind=0→C.own f=ow0))→Q 0 S)
  (hN:¬(∀ f,f<C.N→u f=decide ((C.own f).kind≠0)∧((C.own f).kind=0→C.own f=ow0))→Q 8 S):wb S (pxL A p gs) Q:=by
 apply zaE
 unfold xp
 obtain⟨rs,ho,hn,hrow⟩:=hc.ownL
 have hNN:=hc.st.lim
 refine⟨rfl,?_⟩
 simp only[jn]
 rw[zS (show nthL (pxL A p gs) 3=some (eP (some (A.t,0))) from rfl),zL,zS hc.t74,zL,wj ho]
 refine zC (fun (z:Int) S'=>∃ i:Nat,z=(i:Int)∧i≤C.N∧S'=S∧∀ f,f<i→u f=decide ((C.own f).kind≠0)∧((C.own f).kind=0→C.own f=ow0)) (fun z=>C.N-z.toNat) ?_ ⟨0,rfl,by omega,rfl,fun _ h=>by omega⟩
 rintro X z S' ⟨i,rfl,hi,rfl,hall⟩ ih
 try dsimp only at ih ⊢
 by_cases hlt:i<C.N
 ·rw[if_pos (by omega)]
  obtain⟨c,n,e,en,hpart⟩:=hrow i hlt
  rw[zmF e]
  refine⟨by omega,by omega,?_⟩
  rw[xa hpart]
  refine⟨rfl,?_⟩
  rw[zS (show nthL (pxL A p gs) 1=some (eP (some (p,0))) from rfl),zx (show nthL (owL (C.own i)) 0=some (.int .u8 (C.own i).kind) from rfl)]
  refine zlc hp hlt ?_
  by_cases h1:u i=decide ((C.own i).kind≠0)
  ·rw[if_neg (fun h=>h h1),zx (show nthL (owL (C.own i)) 0=some (.int .u8 (C.own i).kind) from rfl)]
   have go:((C.own i).kind=0→C.own i=ow0)→X (IntKind.i64.wrap ((i:Int)+1)) S':=fun hz=>by
    rw[w64 (by omega) (by omega)]
    refine ih _ S' ⟨i+1,rfl,by omega,rfl,fun f hf=>?_⟩ (by omega)
    by_cases e:f=i
    ·subst e;exact⟨h1,hz⟩
    ·exact hall f (by omega)
   by_cases h2:(C.own i).kind=0
   ·rw[if_pos h2]
    refine⟨rfl,?_⟩
    rw[show ([.int .u8 0,.int .i64 0,.int .i64 0,.int .i64 0]:List Value)=owL ow0 from rfl]
    by_cases h3:C.own i=ow0
    ·rw[if_neg (fun h=>zoE.1 h h3)];exact go fun _=>h3
    ·rw[if_pos (zoE.2 h3)]
     exact hN fun h=>h3 ((h i hlt).2 h2)
   ·rw[if_neg h2];exact go fun h=>absurd h h2
  ·rw[if_pos h1]
   exact hN fun h=>h1 (h i hlt).1
 ·rw[if_neg (by omega)]
  exact hY fun f hf=>hall f (by omega)
theorem zhv (hc:CrabA S ρ h A C) {p:Nat} {gs:Sl} {l:List Nat} {r:Nat} (hg:Rw S ρ' r 1 gs (nL l)) (hl:∀ f∈l,f<C.N∧(C.own f).kind=1) (hl5:l.length≤512) {Q:Int→Mem→Prop}
  (hQ:Q (if count (fun f=>decide ((C.own f).kind=1) && (decide ((1:Int)<2) || decide ((C.own f).vm=0))) C.N=l.length then 0 else 7) S):kP S (pxL A p gs) Q:=by
 apply zcA
 unfold vh
 have hN:=hc.st.lim
 have hn:gs.n=l.length:=hg.n (m:=l.length) (by decide) (by simp[nL])
 refine⟨rfl,?_⟩
 refine zZ (fun J=>J S) ?_ fun J hJ=>?_
 ·rw[zS (show nthL (pxL A p gs) 3=some (eP (some (A.t,0))) from rfl),zL,zS hc.t74,wj (show nthL (pxL A p gs) 2=some (eL gs) from rfl)]
  refine gk hc.ow hN ?_
  by_cases e:count (fun f=>decide ((C.own f).kind=1) && (decide ((1:Int)<2) || decide ((C.own f).vm=0))) C.N=l.length
  ·rw[if_neg (by omega)];rw[if_pos e] at hQ;exact hQ
  ·rw[if_pos (by omega)];rw[if_neg e] at hQ;exact hQ
 ·rw[wj (show nthL (pxL A p gs) 2=some (eL gs) from rfl)]
  refine zC (fun (z:Int) S'=>∃ i:Nat,z=(i:Int)∧i≤l.length∧S'=S) (fun z=>l.length-z.toNat) ?_ ⟨0,rfl,by omega,rfl⟩
  rintro X z S' ⟨i,rfl,hi,rfl⟩ ih
  try dsimp only at ih ⊢
  by_cases hlt:i<l.length
  ·rw[if_pos (by omega)]
   obtain⟨c,e1,e2⟩:=hg.sl (by simp[nL];omega)
   rw[zmF e1]
   refine⟨by omega,by omega,?_⟩
   have hcell:S'.cell c (0+(i:Int).toNat*1)=some (.int .i64 (l[i]:Nat)):=by
    rw[hg.cell e2 i (by simp[nL];omega) (by omega),zI]
    unfold nL
    simp[hlt]
   have hx:=hl l[i] (List.getElem_mem hlt)
   rw[zx hcell,zS (show nthL (pxL A p gs) 3=some (eP (some (A.t,0))) from rfl),zL,zS hc.t74]
   refine zcs hc.ow hx.1 ?_
   refine⟨rfl,?_⟩
   rw[if_neg (by decide),zx (show nthL (owL (C.own l[i])) 0=some (.int .u8 (C.own l[i]).kind) from rfl),hx.2,if_neg (by decide),w64 (by omega) (by omega)]
   exact ih _ S' ⟨i+1,rfl,by omega,rfl⟩ (by omega)
  ·rw[if_neg (by omega)]
   have:i=l.length:=by omega
   exact hJ
theorem zbL {x:Vx} {v:Bv} {tf late:Int}:(vmC x v tf late).all (·.oneCell')=true:=by
 unfold vmC eL;rfl
theorem zdx (hc:CrabA S ρ h A C) (hr:TbOk C) {p:Nat} {gs:Sl} {Q:Int→Mem→Prop} (hQ:Q 0 S):xY S (pxL A p gs) Q:=by
 apply zaB
 unfold xm
 have hN:=hc.st.lim
 refine⟨rfl,?_⟩
 simp only[jn]
 rw[zS (show nthL (pxL A p gs) 3=some (eP (some (A.t,0))) from rfl),zL,xa hc.vms]
 refine zC (fun (z:Int) S'=>∃ i:Nat,z=(i:Int)∧i≤6∧S'=S) (fun z=>6-z.toNat) ?_ ⟨0,rfl,by omega,rfl⟩
 rintro X z S' ⟨i,rfl,hi,rfl⟩ ih
 try dsimp only at ih ⊢
 by_cases hlt:i<6
 ·rw[if_pos (by omega)]
  refine⟨by omega,by omega,?_⟩
  rw[xa (zlb (fun _=>rfl) hlt)]
  refine⟨zbL,?_⟩
  have hv:=hc.vs i hlt
  have hfn:(A.x i).fs.n=(C.fr i).length:=hv.fr.n (m:=(C.fr i).length) (by decide) (by simp[nL])
  have go:X (IntKind.i64.wrap ((i:Int)+1)) S':=by
   rw[w64 (by omega) (by omega)]
   exact ih _ S' ⟨i+1,rfl,by omega,rfl⟩ (by omega)
  have loop:lp (fun (X_1:Int→Mem→Prop) (t_5:Int) (Sx_5:Mem)=>if t_5<((A.x i).fs.n:Int) then sl (A.x i).fs fun b_3 o_1 n _=>0≤t_5∧t_5<((n:Nat):Int) ∧
    gI (Sx_5.cell b_3 (o_1+t_5.toNat*1)) .i64 fun t_6=>gP (nthL (pxL A p gs) 3) fun t_7=>nn t_7 fun b_4 o_2=>gP (Sx_5.cell b_4 (o_2+74)) fun t_8=>
    qW Sx_5 t_8 t_6 fun t_9 t_10 Sx_6=>t_9.all (·.oneCell')=true∧if t_10≠0 then Q 7 Sx_6 else fits [.i .u8,.i .i64,.i .i64,.i .i64] t_9=true ∧
    if (!(eqL t_9 ([.int .u8 2,.int .i64 (i:Int),.int .i64 0,.int .i64 0])))=true then Q 7 Sx_6 else X_1 (IntKind.i64.wrap (t_5+1)) Sx_6 else X (IntKind.i64.wrap ((i:Int)+1)) Sx_5) 0 S':=by
   have hf5:(C.fr i).length≤5:=by
    cases hon:(C.vm i).on with
    | true=>rw[(hr.on i hlt hon).2.1];decide
    | false=>rw[(hr.off i hlt hon).1];decide
   refine zC (fun (z:Int) S1=>∃ j:Nat,z=(j:Int)∧j≤(C.fr i).length∧S1=S') (fun z=>(C.fr i).length-z.toNat) ?_ ⟨0,rfl,by omega,rfl⟩
   rintro Y z S1 ⟨j,rfl,hj,rfl⟩ ih2
   try dsimp only at ih2 ⊢
   by_cases hjl:j<(C.fr i).length
   ·rw[if_pos (by omega)]
    obtain⟨c,e1,e2⟩:=hv.fr.sl (by simp[nL];omega)
    rw[zmF e1]
    refine⟨by omega,by omega,?_⟩
    have hcell:S1.cell c (0+(j:Int).toNat*1)=some (.int .i64 ((C.fr i)[j]:Nat)):=by
     rw[hv.fr.cell e2 j (by simp[nL];omega) (by omega),zI]
     unfold nL
     simp[hjl]
    have hx:=hr.row i _ (List.getElem_mem hjl)
    rw[zx hcell,zS (show nthL (pxL A p gs) 3=some (eP (some (A.t,0))) from rfl),zL,zS hc.t74]
    refine zcs hc.ow hx.1 ?_
    refine⟨rfl,?_⟩
    rw[if_neg (by decide),hx.2]
    refine⟨rfl,?_⟩
    rw[show ([.int .u8 2,.int .i64 (i:Int),.int .i64 0,.int .i64 0]:List Value)=owL ⟨2,i,0,0⟩ from rfl,if_neg (fun h=>zoE.1 h rfl),w64 (by omega) (by omega)]
    exact ih2 _ S1 ⟨j+1,rfl,by omega,rfl⟩ (by omega)
   ·rw[if_neg (by omega)];exact go
  have c0:nthL (vmC (A.x i) (C.vm i) (C.tf i) (C.late i)) 0=some (.bool (C.vm i).on):=rfl
  have c3:nthL (vmC (A.x i) (C.vm i) (C.tf i) (C.late i)) 3=some (eL (A.x i).fs):=rfl
  have c2:nthL (vmC (A.x i) (C.vm i) (C.tf i) (C.late i)) 2=some (.int .i64 (C.tf i)):=rfl
  rw[fo c0]
  cases hon:(C.vm i).on with
  | true=>
   rw[if_pos rfl,wj c3,if_neg (by rw[hfn,(hr.on i hlt hon).2.1];simp),zS (show nthL (pxL A p gs) 3=some (eP (some (A.t,0))) from rfl),zL,zS hc.t74]
   refine gk hc.ow hN ?_
   rw[(hr.on i hlt hon).2.2,if_neg (by simp),fo c0,hon,if_pos rfl,zx c2,zS (show nthL (pxL A p gs) 3=some (eP (some (A.t,0))) from rfl),zL,zx hc.tform,if_neg (fun hne=>hne (hr.on i hlt hon).1),wj c3]
   exact loop
  | false=>
   rw[if_neg (by simp),wj c3,if_neg (by rw[hfn,(hr.off i hlt hon).1];simp),zS (show nthL (pxL A p gs) 3=some (eP (some (A.t,0))) from rfl),zL,zS hc.t74]
   refine gk hc.ow hN ?_
   rw[(hr.off i hlt hon).2,if_neg (by simp),fo c0,hon,if_neg (by simp),wj c3]
   exact loop
 ·rw[if_neg (by omega)]
  exact hQ
structure Vmk (C:Cst) (W:Wd):Prop where
 wk:WOk W
 vm:C.vm=W.vm
 now:0≤C.now∧C.now≤4611686018427387904
 time:∀ n,(W.vm n).on=true→0≤C.late n∧C.late n≤C.now∧W.time n=C.now-C.late n
 cGuest:∀ n:Nat,count (fun f=>decide ((C.own f).kind=3) && (decide ((3:Int)<2) || decide ((C.own f).vm=n))) C.N=W.pages n
theorem Vmk.of (h:Rel C W φ):Vmk C W:=⟨h.wk,h.vm,h.now,h.time,fun _=>h.cGuest⟩
theorem zdy (hc:CrabA S ρ h A C) (hr:Vmk C W) {p:Nat} {gs:Sl} {Q:Int→Mem→Prop} (hQ:Q 0 S):xZ S (pxL A p gs) Q:=by
 apply zaC
 unfold xn
 have hN:=hc.st.lim
 refine⟨rfl,?_⟩
 simp only[jn]
 rw[zS (show nthL (pxL A p gs) 3=some (eP (some (A.t,0))) from rfl),zL,xa hc.vms]
 refine zC (fun (z:Int) S'=>∃ i:Nat,z=(i:Int)∧i≤6∧S'=S) (fun z=>6-z.toNat) ?_ ⟨0,rfl,by omega,rfl⟩
 rintro X z S' ⟨i,rfl,hi,rfl⟩ ih
 try dsimp only at ih ⊢
 by_cases hlt:i<6
 ·rw[if_pos (by omega)]
  refine⟨by omega,by omega,?_⟩
  rw[xa (zlb (fun _=>rfl) hlt)]
  refine⟨zbL,?_⟩
  rw[zS (show nthL (pxL A p gs) 3=some (eP (some (A.t,0))) from rfl),zL,zS hc.t74,zx (show nthL (vmC (A.x i) (C.vm i) (C.tf i) (C.late i)) 4=some (.int .i64 (C.vm i).quota) from rfl)]
  refine gk hc.ow hN ?_
  have:=hr.wk.most i
  rw[hr.cGuest,hr.vm,if_neg (by omega),w64 (by omega) (by omega)]
  exact ih _ S' ⟨i+1,rfl,by omega,rfl⟩ (by omega)
 ·rw[if_neg (by omega)]
  exact hQ
theorem zht (hc:CrabA S ρ h A C) (hr:Vmk C W) {p:Nat} {gs:Sl} {Q:Int→Mem→Prop} (hQ:Q 0 S):kO S (pxL A p gs) Q:=by
 apply zcz
 unfold vg
 refine⟨rfl,?_⟩
 simp only[jn]
 rw[zS (show nthL (pxL A p gs) 3=some (eP (some (A.t,0))) from rfl),zL,xa hc.vms]
 refine zC (fun (z:Int) S'=>∃ i:Nat,z=(i:Int)∧i≤6∧S'=S) (fun z=>6-z.toNat) ?_ ⟨0,rfl,by omega,rfl⟩
 rintro X z S' ⟨i,rfl,hi,rfl⟩ ih
 try dsimp only at ih ⊢
 by_cases hlt:i<6
 ·rw[if_pos (by omega)]
  refine⟨by omega,by omega,?_⟩
  rw[xa (zlb (fun _=>rfl) hlt)]
  refine⟨zbL,?_⟩
  have hv:=hc.vs i hlt
  have hsn:(A.x i).ss.n=(C.vm i).seats.length:=hv.se.n (by decide) (zfO hv.r)
  have hkn:(A.x i).ks.n=(C.vm i).keys.length:=hv.ke.n (m:=(C.vm i).keys.length) (by decide) (by simp[bL])
  have go:X (IntKind.i64.wrap ((i:Int)+1)) S':=by
   rw[w64 (by omega) (by omega)]
   exact ih _ S' ⟨i+1,rfl,by omega,rfl⟩ (by omega)
  have c0:nthL (vmC (A.x i) (C.vm i) (C.tf i) (C.late i)) 0=some (.bool (W.vm i).on):=by rw[hr.vm];rfl
  have c1:nthL (vmC (A.x i) (C.vm i) (C.tf i) (C.late i)) 1=some (eL (A.x i).ss):=rfl
  have c6:nthL (vmC (A.x i) (C.vm i) (C.tf i) (C.late i)) 6=some (eL (A.x i).ks):=rfl
  have c5:nthL (vmC (A.x i) (C.vm i) (C.tf i) (C.late i)) 5=some (.int .u64 (C.late i)):=rfl
  have c11:nthL (vmC (A.x i) (C.vm i) (C.tf i) (C.late i)) 11=some (.int .u32 (bI (C.vm i).bells)):=rfl
  rw[fo c0]
  cases hon:(W.vm i).on with
  | true=>
   rw[if_pos rfl]
   refine zC (fun (z:Int) S1=>∃ j:Nat,z=(j:Int)∧j≤6∧S1=S') (fun z=>6-z.toNat) ?_ ⟨0,rfl,by omega,rfl⟩
   rintro Y z S1 ⟨j,rfl,hj,rfl⟩ ih2
   try dsimp only at ih2 ⊢
   by_cases hj6:j<6
   ·rw[if_pos (by omega),zx c11]
    refine⟨by omega,?_⟩
    have hb:=zjR (C.vm i).bells hj6
    have go2:Y (IntKind.i64.wrap ((j:Int)+1)) S1:=by
     rw[w64 (by omega) (by omega)]
     exact ih2 _ S1 ⟨j+1,rfl,by omega,rfl⟩ (by omega)
    cases hbl:(C.vm i).bells j with
    | false=>
     rw[hbl] at hb
     rw[if_neg (of_decide_eq_false hb)]
     exact go2
    | true=>
     rw[hbl] at hb
     rw[if_pos (of_decide_eq_true hb),zS (show nthL (pxL A p gs) 3=some (eP (some (A.t,0))) from rfl)]
     rw[hr.vm] at hbl
     have hw:=hr.wk.bells i j hbl
     refine zfd hc ?_
     have e1:thereV C.vm (j:Int):=⟨by omega,by omega,by rw[Int.toNat_natCast,hr.vm];exact hw.2.1⟩
     have e2:thereV C.vm (i:Int):=⟨by omega,by omega,by rw[Int.toNat_natCast,hr.vm];exact hw.1⟩
     rw[decide_eq_true e1,decide_eq_true e2,Int.toNat_natCast,Int.toNat_natCast,hr.vm,hw.2.2.1,if_pos (by decide),if_neg (by have:=hw.2.2.2;omega)]
     exact go2
   ·rw[if_neg (by omega),wj c1]
    have h3:=hr.wk.seats i hon
    have hk:=(hr.wk.keys i).1
    have ht:=hr.time i hon
    have hnow:=hr.now
    rw[hr.vm] at hsn hkn
    rw[if_neg (by omega),wj c1,if_neg (by omega),wj c6,if_neg (by omega),zx c11]
    have hb6:=znI (C.vm i).bells
    have key:∀ m:Fin 64,ishr .u32 ((m.1:Nat):Int) 6=0:=by decide
    rw[if_neg (fun hne=>hne (key ⟨_,hb6⟩)),zx c5,zS (show nthL (pxL A p gs) 3=some (eP (some (A.t,0))) from rfl),zL,zx hc.tnow,if_neg (by omega)]
    exact go
  | false=>
   have hz:=(hr.wk.off i hon).1
   rw[hr.vm,hz] at hsn
   have hb0:bI (C.vm i).bells=0:=by rw[hr.vm,hz];rfl
   rw[if_neg (by simp),zx c11,if_neg (by rw[hb0];decide),wj c1,hsn,if_neg (by decide)]
   exact go
 ·rw[if_neg (by omega)]
  exact hQ
end
end
end Go.Proofs.YthaiblbnpcgjpaaGreatDoor
