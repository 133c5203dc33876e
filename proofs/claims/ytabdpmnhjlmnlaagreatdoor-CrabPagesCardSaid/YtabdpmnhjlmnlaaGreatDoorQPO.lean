/- Texts of this work,joined by program (pack.py): Ii,Ij,PsO,Ik,Il,Im,Ka,Kb,Kc,Jw,Ke,PsP,PsR. -/
import Derived.Test.YtabdpmnhjlmnlaaGreatDoorQPN
import Derived.Test.YtabdpmnhjlmnlaaGreatDoorQPC
import Derived.Test.YtabdpmnhjlmnlaaGreatDoorQPI
import Derived.Test.YtabdpmnhjlmnlaaGreatDoorQPL
set_option linter.unusedVariables false
section
namespace Go.Cr
open Go Go.Pt
theorem cF_noughts:∀ N:Nat,cF N (fun _=>noughts)=List.replicate (256*N) (0:Int)
 | 0=>rfl
 | N+1=>by
  simp only[cF]
  rw[cF_noughts N,Nat.mul_add,Nat.mul_one,←List.replicate_append_replicate];rfl
def kn0 (form:Int):Kn:=⟨form,0,fun _=>bv0,fun _=>0,fun _=>0,fun _=>[],fun _=>ls0,fun _=>0⟩
def cst0 (form:Int) (N:Nat):Cst:={ toKn:=kn0 form,N:=N,dat:=fun _=>noughts,used:=fun _=>false,left:=-1,cache:=[],own:=fun _=>ow0,alm:=fun _ _=>none,region:=[],ev:=fun _=>[] }
end Go.Cr
namespace Go.Proofs.YtabdpmnhjlmnlaaGreatDoor
open Go Go.Pt Go.Cr Go.Hp
section
variable {S S':Mem} {ρ ρ':Rho} {R:Nat→Prop}
theorem clamp {N:Nat} (h:N≤512):(if 512<(if (N:Int)<0 then 0 else (N:Int)) then 512 else (if (N:Int)<0 then 0 else (N:Int)))=(N:Int):=by
 rw[if_neg (by omega:¬(N:Int)<0),if_neg (by omega)]
theorem storeNew_spec (hg:∀ b r,ρ b=some r→S b≠none) {N:Nat} (h1:1≤N) (hN:N≤512) {Q:Pt→Mem→Prop} (hQ:∀ m S' ρ',Mv S ρ S' ρ' (fun _=>False)→StoreD S' ρ' m N (fun _=>noughts)→Q (some (m,0)) S'):store_New S N Q:=by
 apply t_store_New
 unfold b_store_New
 rw[clamp hN,w64 (by omega) (by omega)]
 refine⟨by omega,Int.le_refl _,by omega,by omega,?_⟩
 have e:(256*(N:Int)).toNat=256*N:=by omega
 rw[e,zrep_bL,←cF_noughts]
 intro B hB m hm
 have m1:Mv S ρ (S.set B (bw 5 (bL (cF N fun _=>noughts)))) (ρ.upd B 2) (fun _=>False):=(Mv.refl hg).new hB _ 2
 have m2:=m1.new hm (bw 180 [.slice (some ⟨B,0,none⟩) (256*N) (256*N)]) 1
 have hne:m≠B:=fun e=>by subst e;simp at hm
 refine hQ m _ _ m2 ⟨⟨B,⟨set_same,by rw[set_ne hne.symm];exact set_same,hne,by rw[cF_noughts,List.length_replicate],fun x hx=>?_,hN⟩,by rw[upd_ne hne.symm];exact upd_same⟩,upd_same,fun _ _=>noughts_len,fun _ _ x hx=>noughts_byt hx⟩
 rw[cF_noughts] at hx
 rw[List.eq_of_mem_replicate hx];decide
theorem ownNew_spec (hg:∀ b r,ρ b=some r→S b≠none) {N:Nat} (h1:1≤N) (hN:N≤512) {Q:Pt→Mem→Prop} (hQ:∀ m S' ρ',Mv S ρ S' ρ' (fun _=>False)→OwnP S' ρ' m N (fun _=>ow0)→Q (some (m,0)) S'):owner_New S N Q:=by
 apply t_owner_New
 unfold b_owner_New
 rw[clamp hN]
 refine⟨by omega,Int.le_refl _,by omega,by omega,?_⟩
 rw[Int.toNat_natCast]
 have hz:zrep N [Value.int .u8 0,.int .i64 0,.int .i64 0,.int .i64 0]=cF N fun _=>owL ow0:=by
  have:∀ n:Nat,zrep n [Value.int .u8 0,.int .i64 0,.int .i64 0,.int .i64 0]=cF n fun _=>owL ow0:=by
   intro n
   induction n with
   | zero=>rfl
   | succ n ih=>
    have hs:∀ (z:List Value) (n:Nat),zrep (n+1) z=zrep n z++z:=by
     intro z n
     induction n with
     | zero=>simp[zrep]
     | succ n ih=>show z++zrep (n+1) z=(z++zrep n z)++z;rw[ih,List.append_assoc]
    rw[hs,ih];rfl
  exact this N
 rw[hz]
 intro B hB m hm
 have hl:(cF N fun _=>owL ow0).length=N*4:=ow_len (own:=fun _=>ow0)
 have m1:Mv S ρ (S.set B (bw 91 (cF N fun _=>owL ow0))) (ρ.upd B 9) (fun _=>False):=(Mv.refl hg).new hB _ 9
 have m2:=m1.new hm (bw 199 [.slice (some ⟨B,0,none⟩) N N]) 8
 have hne:m≠B:=fun e=>by subst e;simp at hm
 refine hQ m _ _ m2 ⟨⟨some (B,0),N,N⟩,⟨⟨_,set_same,rfl,rfl⟩,upd_same⟩,⟨⟨hl,Nat.le_refl _,.inr ⟨B,_,rfl,by rw[set_ne hne.symm];exact set_same,rfl,hl,?_⟩⟩,fun b o e=>by cases e;rw[upd_ne hne.symm];exact upd_same⟩⟩
 show (cF N fun _=>owL ow0).take (N*4)=_
 exact List.take_of_length_le (by rw[hl];exact Nat.le_refl _)
def iL (n:Nat):List Int:=(List.range n).map fun (i:Nat)=>(i:Int)
theorem iL_succ (n:Nat):Hq.fl (iL (n+1))=Hq.fl (iL n)++[.int .i64 (n:Int)]:=by
 unfold iL Hq.fl
 rw[List.range_succ,List.map_append,List.flatMap_append];rfl
theorem iL_free (N:Nat):iL N=freeL N fun _=>false:=by
 unfold iL freeL
 have:(List.range N).filter (fun i=>! false)=List.range N:=by simp
 rw[this]
theorem uL_succ (n:Nat):uL (n+1) (fun _=>false)=uL n (fun _=>false)++[.bool false]:=rfl
theorem poolNew_spec (hg:∀ b r,ρ b=some r→S b≠none) {N:Nat} (h1:1≤N) (hN:N≤512) {Q:Pt→Mem→Prop} (hQ:∀ p S' ρ',Mv S ρ S' ρ' R345→PoolP S' ρ' p N (fun _=>false) (-1)→Q (some (p,0)) S'):pool_New S N Q:=by
 apply t_pool_New
 unfold b_pool_New
 intro p hp
 have m0:Mv S ρ (S.set p (bw 178 [.slice none 0 0,.slice none 0 0,.int .i64 (-1)])) (ρ.upd p 3) R345:=(Mv.refl hg).new hp _ 3
 simp only[jn]
 refine lp_rule (fun (z:Int) S'=>∃ (i:Nat) (ρ':Rho) (fs us:Sl),z=(i:Int)∧i≤N∧Mv S ρ S' ρ' R345∧Pc S' ρ' 3 p [eL fs,eL us,.int .i64 (-1)]∧S' p=some (bw 178 [eL fs,eL us,.int .i64 (-1)])∧Rw S' ρ' 4 1 fs (Hq.fl (iL i))∧Rw S' ρ' 5 1 us (uL i fun _=>false)) (fun z=>N-z.toNat) ?_
  ⟨0,_,⟨none,0,0⟩,⟨none,0,0⟩,rfl,by omega,m0,⟨⟨_,set_same,rfl,rfl⟩,upd_same⟩,set_same,Rw.nil,Rw.nil⟩
 rintro X z S1 ⟨i,ρ1,fs,us,rfl,hi,m1,hpc,hblk,hf,hu⟩ ih
 rw[clamp hN]
 have hfl:(Hq.fl (iL i)).length=i*1:=by rw[Hq.fl_length];simp[iL]
 have hfn:=hf.n (by decide) hfl
 have hun:=hu.n (by decide) uL_len
 by_cases hlt:(i:Int)<(N:Int)
 ·rw[if_pos hlt,gL_i (hpc.cell 0 (by simp) rfl)]
  refine ap_rw (R:=R345) m1 (.inr (.inl rfl)) hf rfl (by decide) rfl (by omega) fun fs' S2 ρ2 m2 m2' hf2 _=>?_
  have hpc2:=hpc.keep m2' (by decide)
  have hblk2:S2 p=some (bw 178 [eL fs,eL us,.int .i64 (-1)]):=by rw[mv_keep m2' (by rw[hblk];simp) hpc.rol (by decide)];exact hblk
  have hu2:=hu.keep m2' (by decide)
  refine pt_i hblk2 (by simp) ?_
  have e1:spl [eL fs,eL us,Value.int .i64 (-1)] 0 [eL fs']=[eL fs',eL us,.int .i64 (-1)]:=rfl
  rw[e1]
  have m3:Mv S ρ (S2.set p (bw 178 [eL fs',eL us,.int .i64 (-1)])) ρ2 R345:=m2.put hpc2.rol (.inl rfl) _
  have m3':Mv S2 ρ2 (S2.set p (bw 178 [eL fs',eL us,.int .i64 (-1)])) ρ2 (· = 3):=(Mv.refl (R:=(· = 3)) m2.rg).put hpc2.rol rfl _
  have hf3:=hf2.keep m3' (by decide)
  have hu3:=hu2.keep m3' (by decide)
  have hpc3:Pc (S2.set p (bw 178 [eL fs',eL us,.int .i64 (-1)])) ρ2 3 p [eL fs',eL us,.int .i64 (-1)]:=⟨⟨_,set_same,rfl,rfl⟩,hpc2.rol⟩
  rw[gL_i (hpc3.cell 1 (by simp) rfl)]
  refine ap_rw (R:=R345) m3 (.inr (.inr rfl)) hu3 rfl (by decide) rfl (by omega) fun us' S4 ρ4 m4 m4' hu4 _=>?_
  have hblk4:S4 p=some (bw 178 [eL fs',eL us,.int .i64 (-1)]):=by rw[mv_keep m4' (by rw[set_same];simp) hpc2.rol (by decide)];exact set_same
  refine pt_i hblk4 (by simp) ?_
  have e2:spl [eL fs',eL us,Value.int .i64 (-1)] 1 [eL us']=[eL fs',eL us',.int .i64 (-1)]:=rfl
  rw[e2]
  have hr4:=m4'.ext p 3 hpc2.rol
  have m5:Mv S ρ (S4.set p (bw 178 [eL fs',eL us',.int .i64 (-1)])) ρ4 R345:=m4.put hr4 (.inl rfl) _
  have m5':Mv S4 ρ4 (S4.set p (bw 178 [eL fs',eL us',.int .i64 (-1)])) ρ4 (· = 3):=(Mv.refl (R:=(· = 3)) m4.rg).put hr4 rfl _
  rw[w64 (by omega) (by omega)]
  refine ih _ _ ⟨i+1,ρ4,fs',us',rfl,by omega,m5,⟨⟨_,set_same,rfl,rfl⟩,hr4⟩,set_same,?_,?_⟩ (by omega)
  ·rw[iL_succ];exact (hf3.keep m4' (by decide)).keep m5' (by decide)
  ·rw[uL_succ];exact hu4.keep m5' (by decide)
 ·rw[if_neg hlt]
  have:i=N:=by omega
  subst this
  have hil:(iL i).length=i:=by simp[iL]
  rcases Hq.row_open hf.row with ⟨_,h0⟩ | ⟨c,cap,t,j,e1,hle,hc,hj⟩
  ·rw[h0] at hil;simp at hil;omega
  have hrc:ρ1 c=some 4:=hf.rol c 0 (by rw[e1])
  have hne:p≠c:=fun e=>by rw[←e,hpc.rol] at hrc;cases hrc
  have hcell:S1.cell p 0=some (eL fs):=hpc.cell 0 (by simp) rfl
  have hw:=Hq.wi_of hc
  rw[←hw]
  refine Hq.init_spec (s:=fs) ⟨hcell,by rw[e1],by rw[e1],hne⟩ (by omega) fun l' hp' hh=>?_
  have hll:=hp'.length_eq
  have m2:Mv S ρ (Hq.wi S1 c t j l') ρ1 R345:=m1.put hrc (.inr (.inl rfl)) _
  have m2':Mv S1 ρ1 (Hq.wi S1 c t j l') ρ1 (· = 4):=(Mv.refl (R:=(· = 4)) m1.rg).put hrc rfl _
  refine hQ p _ ρ1 m2 ⟨⟨178,fs,us,l',?_,fun x hx=>?_,hu.keep m2' (by decide),by rw[←iL_free];exact hp'⟩,hpc.rol,hN⟩
  ·have efs:fs=⟨some (c,0),l'.length,cap⟩:=by rw[e1,hll]
   rw[efs]
   exact Hq.ck_mk (by unfold Hq.wi;rw[set_ne hne,hblk,efs]) rfl Hq.wi_c (by omega) (by rw[hll];exact hj) hne hh (by omega)
  ·have:x=c:=by rw[e1] at hx;simpa [Hq.own] using hx
   rw[this];exact hrc
theorem kn_cells {form:Int} {ob kb:Nat}:spl (spl (spl z77 0 [.int .i64 form]) 74 [eP (some (ob,0))]) 171 [.pointer (some ⟨kb,0,none⟩)]=knL (kn0 form) (fun _=>vx0) ob kb:=by kernel_rfl
theorem hd_cells {m p t:Nat}:([eP (some (m,0)),eP (some (p,0)),.slice none 0 0,eP (some (t,0)),.slice none 0 0,.slice none 0 0,.slice none 0 0,.slice none 0 0,.slice none 0 0,.slice none 0 0,.slice none 0 0]:List Value)=hdL ⟨m,p,t,0,0,⟨none,0,0⟩,⟨none,0,0⟩,fun _=>⟨none,0,0⟩,fun _=>vx0⟩:=rfl
end
end Go.Proofs.YtabdpmnhjlmnlaaGreatDoor
end
section
namespace Go.Cr
open Go Go.Pt
def ownL (l:List Nat):Nat→Ow:=fun f=>if f∈l then ⟨1,0,0,0⟩ else ow0
theorem ownL_in {l:List Nat} {f:Nat} (h:f∈l):ownL l f=⟨1,0,0,0⟩:=if_pos h
theorem ownL_out {l:List Nat} {f:Nat} (h:f∉l):ownL l f=ow0:=if_neg h
theorem ownL_keep {l:List Nat} {g:Nat}:keepC (ownL l) g (-1)=ownL (l++[g]):=by
 unfold keepC
 funext f
 by_cases hm:g∈l
 ·rw[ownL_in hm,if_neg (by decide)]
  by_cases hf1:f∈l
  ·rw[ownL_in hf1,ownL_in (by simp[hf1])]
  ·have:f≠g:=fun e=>hf1 (e ▸ hm)
   rw[ownL_out hf1,ownL_out (by simp only[List.mem_append,List.mem_singleton,not_or];exact⟨hf1,this⟩)]
 ·rw[ownL_out hm,if_pos (show ow0.kind=0 from rfl),if_neg (by decide)]
  by_cases hf1:f=g
  ·subst hf1;rw[upd_at,ownL_in (by simp)]
  ·rw[upd_of hf1]
   by_cases hf2:f∈l
   ·rw[ownL_in hf2,ownL_in (by simp[hf2])]
   ·rw[ownL_out hf2,ownL_out (by simp only[List.mem_append,List.mem_singleton,not_or];exact⟨hf2,hf1⟩)]
def cstN (form:Int) (N:Nat) (l:List Nat) (u:Nat→Bool):Cst:={ toKn:=kn0 form,N:=N,dat:=fun _=>noughts,used:=u,left:=-1,cache:=[],own:=ownL l,alm:=fun _ _=>none,region:=l,ev:=fun _=>[] }
def cstA (form:Int) (N:Nat) (l:List Nat) (u:Nat→Bool) (o:Nat→Ow):Cst:={ toKn:=kn0 form,N:=N,dat:=fun _=>noughts,used:=u,left:=-1,cache:=[],own:=o,alm:=fun _ _=>none,region:=l,ev:=fun _=>[] }
theorem wok_W0 {free:Int}:WOk (W0 free):=by
 refine⟨fun n _=>⟨rfl,fun _=>rfl,fun _=>rfl⟩,fun n _=>rfl,fun n h=>(by cases h),fun n s h=>(by cases h),fun n=>⟨Nat.zero_le 64,fun x h=>by cases h⟩,fun n j h=>(by cases h),fun n=>⟨Int.le_refl 0,(by decide:(0:Int)≤32)⟩,fun n k h=>(by cases h),fun n p l h=>(by cases h),fun n=>?_,fun i h=>(by cases h),fun i _=>rfl,fun i h=>(by cases h),fun i j h=>(by cases h),fun n k w h=>(by cases h)⟩
 have:(W0 free).pages n=0:=count_zero fun _ _=>rfl
 rw[this];exact Int.le_refl _
theorem rel_cstN {form:Int} (hf:form=1∨form=2) {N:Nat} (hN:N≤512) {l:List Nat} {u:Nat→Bool} (h:takeN N l.length (fun _=>false)=some (l,u)) {φ:Nat→Nat→Nat}:Rel (cstN form N l u) (W0 (N-l.length)) φ:=by
 obtain⟨_,h2,h3,h4,h5⟩:=takeN_some h
 have hk:∀ f,(cstN form N l u).own f=if f∈l then ⟨1,0,0,0⟩ else ow0:=fun _=>rfl
 have hc:count (fun f=>! (fun _=>false:Nat→Bool) f) N=N:=by
  unfold count
  have:(List.range N).filter (fun f=>! false)=List.range N:=by simp
  rw[this];simp
 refine⟨wok_W0,rfl,rfl,rfl,hN,hf,⟨Int.le_refl 0,(by decide:(0:Int)≤4611686018427387904)⟩,fun n h=>(by cases h),fun n k=>rfl,?_,rfl,fun f _=>?_,fun f _ h=>?_,fun f _=>?_,fun f _=>⟨noughts_len,fun x hx=>noughts_byt hx⟩,fun n _=>⟨rfl,rfl,rfl⟩,fun n h=>(by cases h),fun n f h=>(by cases h),fun f _ h=>?_,fun n j h=>(by cases h),fun n p h=>(by cases h),fun n p l h=>(by cases h),fun f _ h=>?_,⟨h2,fun f=>?_⟩,fun r h=>(by cases h),Nat.zero_le 8⟩
 ·show ((N:Int)-l.length)=count (fun f=>! u f) N
  rw[hc] at h5;omega
 ·show u f=_
  rw[h4 f,hk f]
  by_cases e:f∈l
  ·rw[if_pos e];simp[e]
  ·rw[if_neg e];simp[e,ow0]
 ·rw[hk f] at h ⊢
  split at h
  ·cases h
  ·rename_i e;rw[if_neg e]
 ·rw[hk f]
  by_cases e:f∈l
  ·rw[if_pos e];decide
  ·rw[if_neg e];decide
 ·rw[hk f] at h
  split at h <;> cases h
 ·rw[hk f] at h
  split at h <;> cases h
 ·show f∈l↔_
  rw[hk f]
  constructor
  ·intro e;exact⟨(h3 f e).1,by rw[if_pos e]⟩
  ·rintro⟨_,e⟩
   split at e
   ·assumption
   ·cases e
end Go.Cr
namespace Go.Proofs.YtabdpmnhjlmnlaaGreatDoor
open Go Go.Pt Go.Cr Go.Hp
section
variable {S S':Mem} {ρ ρ':Rho} {R:Nat→Prop}
theorem spl_reg {A:Ad} {s:Sl}:spl (hdL A) 4 [eL s]=hdL { A with gs:=s }:=rfl
theorem begin_spec (hg:∀ b r,ρ b=some r→S b≠none) (h0:ρ 0=none) (hgl:Gl S) {form:Int} {N:Nat} (h1:1≤N) (hN:N≤512) {Q:Nat→Mem→Prop}
  (hQ:∀ S' ρ' h A,Mv S ρ S' ρ' Rc→CrabA S' ρ' h A (cst0 form N)→Q h S') :
  store_New S N fun t Sx_1=>pool_New Sx_1 N fun t_1 Sx_2=>guest_New Sx_2 form N fun t_2 Sx_3=>
   al Sx_3 86 ([eP t,eP t_1,.slice (none) 0 0,eP t_2,.slice (none) 0 0,.slice (none) 0 0,.slice (none) 0 0,.slice (none) 0 0,.slice (none) 0 0,.slice (none) 0 0,.slice (none) 0 0]) fun b Sx_4=>Q b Sx_4:=by
 refine storeNew_spec hg h1 hN fun m S1 ρ1 m1 hs1=>?_
 refine poolNew_spec m1.rg h1 hN fun p S2 ρ2 m2 hp2=>?_
 have hs2:=hs1.keep m2 (by decide) (by decide)
 apply t_guest_New
 unfold b_guest_New
 refine ownNew_spec m2.rg h1 hN fun ob S3 ρ3 m3 ho3=>?_
 have hs3:=hs2.keep m3 (fun h=>h) (fun h=>h)
 have hp3:=hp2.keep m3 (fun h=>h) (fun h=>h) (fun h=>h)
 intro kb hkb t ht h hh
 rw[kn_cells] at hh ⊢
 rw[hd_cells]
 have M4:Mv S3 ρ3 (S3.set kb (bw 127 [.slice none 0 0])) (ρ3.upd kb 10) (fun _=>False):=(Mv.refl m3.rg).new hkb _ 10
 have M5:=M4.new ht (bw 77 (knL (kn0 form) (fun _=>vx0) ob kb)) 7
 have M6:=M5.new hh (bw 86 (hdL ⟨m,p,t,ob,kb,⟨none,0,0⟩,⟨none,0,0⟩,fun _=>⟨none,0,0⟩,fun _=>vx0⟩)) 0
 have n1:kb≠t:=fun e=>by subst e;simp at ht
 have n2:kb≠h:=fun e=>by subst e;simp[set_ne n1] at hh
 have n3:t≠h:=fun e=>by subst e;simp at hh
 have mA:Mv S ρ S3 ρ3 Rc:=((m1.mono (fun _ h=>h.elim)).trans (m2.mono fun r hr=>by unfold R345 at hr;show r<110;omega)).trans (m3.mono fun _ h=>h.elim)
 have mB:=mA.trans (M6.mono fun _ h=>h.elim)
 have bk:((S3.set kb (bw 127 [.slice none 0 0])).set t (bw 77 (knL (kn0 form) (fun _=>vx0) ob kb))).set h (bw 86 (hdL ⟨m,p,t,ob,kb,⟨none,0,0⟩,⟨none,0,0⟩,fun _=>⟨none,0,0⟩,fun _=>vx0⟩)) kb=some (bw 127 [.slice none 0 0]):=by
  rw[set_ne n2,set_ne n1,set_same]
 have pc7:Pc (((S3.set kb (bw 127 [.slice none 0 0])).set t (bw 77 (knL (kn0 form) (fun _=>vx0) ob kb))).set h (bw 86 (hdL ⟨m,p,t,ob,kb,⟨none,0,0⟩,⟨none,0,0⟩,fun _=>⟨none,0,0⟩,fun _=>vx0⟩))) (((ρ3.upd kb 10).upd t 7).upd h 0) 7 t (knL (kn0 form) (fun _=>vx0) ob kb):=by
  generalize knL (kn0 form) (fun _=>vx0) ob kb=L
  exact⟨⟨bw 77 L,by rw[set_ne n3];exact set_same,rfl,lpart_all rfl⟩,by rw[upd_ne n3];exact upd_same⟩
 refine hQ _ _ h ⟨m,p,t,ob,kb,⟨none,0,0⟩,⟨none,0,0⟩,fun _=>⟨none,0,0⟩,fun _=>vx0⟩ mB
  ⟨mB.rg,g0_keep hgl mB h0,gl_keep hgl mB h0,⟨⟨_,set_same,rfl,rfl⟩,upd_same⟩,hs3.keep M6 (fun h=>h) (fun h=>h),hp3.keep M6 (fun h=>h) (fun h=>h) (fun h=>h),Rw.nil,pc7,ho3.keep M6 (fun h=>h) (fun h=>h),
   ⟨⟨127,⟨none,0,0⟩,[],⟨bk,rfl,Row.nil,fun c hc=>(by cases hc),?_,by decide⟩,fun x hx=>(by cases hx),⟨List.nodup_nil,fun a ha=>(by cases ha),fun n k t h=>(by cases h)⟩⟩,by rw[upd_ne n2,upd_ne n1];exact upd_same⟩,Rw.nil,fun i _=>Rw.nil,fun i _=>⟨Rw.nil,fun s hs=>(by cases hs),Rw.nil,Rw.nil,fun j _=>Rw.nil⟩⟩
 exact fun i _ h=>absurd h (Nat.not_lt_zero _)
theorem keepLoop {h:Nat} {A:Ad} {form:Int} {N:Nat} {l:List Nat} {u:Nat→Bool} (hl:∀ f∈l,f<N) (hl2:l.length≤1000) {Q:Mem→Prop} (hc:CrabA S ρ h A (cstA form N l u fun _=>ow0)) (hQ:∀ S',Mv S ρ S' ρ Rc→CrabA S' ρ h A (cstN form N l u)→Q S') :
  lp (fun Xx (t_7:Int) (Sx_8:Mem)=>
   if t_7<(A.gs.n:Int) then
   sl A.gs fun b_1 o n n_1=>
   0≤t_7∧t_7<((n:Nat):Int) ∧
   gI (Sx_8.cell b_1 (o+t_7.toNat*1)) .i64 fun t_8=>
   gP (Sx_8.cell h 3) fun t_9=>
   nn t_9 fun b_2 o_1=>
   gP (Sx_8.cell b_2 (o_1+74)) fun t_10=>
   owner_Book_Keep Sx_8 t_10 t_8 (-1) fun t_11 Sx_9=>
   Xx (IntKind.i64.wrap (t_7+1)) Sx_9
   else
   Q Sx_8) 0 S:=by
 refine lp_rule (fun (z:Int) S'=>∃ i:Nat,z=(i:Int)∧i≤l.length∧Mv S ρ S' ρ Rc∧CrabA S' ρ h A (cstA form N l u (ownL (l.take i)))) (fun z=>l.length-z.toNat) ?_
  ⟨0,rfl,by omega,Mv.refl hc.rg,by
   have e:ownL (l.take 0)=fun _=>ow0:=by funext f;exact ownL_out (by simp)
   rw[e];exact hc⟩
 rintro X z S1 ⟨i,rfl,hi,m1,hc1⟩ ih
 have hn:A.gs.n=l.length:=hc1.gs.n (m:=l.length) (by decide) (by show (nL l).length=_;simp[nL])
 by_cases hlt:(i:Int)<(A.gs.n:Int)
 ·rw[if_pos hlt]
  have hil:i<l.length:=by omega
  obtain⟨c,e1,e2⟩:=hc1.gs.sl (by show 0<(nL l).length;simp[nL];omega)
  rw[e1,sl_i]
  have h3:S1.cell h 3=some (eP (some (A.t,0))):=hc1.c3
  have h74:S1.cell A.t (0+74)=some (eP (some (A.ob,0))):=by rw[hc1.tt.cell 74 (by rw[knL_len];decide) (by rfl)];exact knL_ow
  have hcell:S1.cell c (0+(i:Int).toNat*1)=some (.int .i64 (l.getD i 0:Nat)):=by
   rw[hc1.gs.cell e2 i (by show i<(nL l).length;simp[nL];omega) (by omega)]
   show nthL (nL l) i=_
   rw[nthL_eq]
   unfold nL
   rw[List.getElem?_map,List.getElem?_eq_getElem hil,List.getD_eq_getElem?_getD,List.getElem?_eq_getElem hil];rfl
  refine⟨by omega,by omega,?_⟩
  rw[gI_i hcell,gP_i h3,nn_i,gP_i h74]
  have hf:l.getD i 0<N:=hl _ (getD_mem hil)
  refine keepB_spec hc1.ow m1.rg hf (by decide) fun e S2 m2 ho2=>?_
  have hc2:=hc1.setOwn m2 ho2
  rw[w64 (by omega) (by omega)]
  refine ih _ _ ⟨i+1,rfl,by omega,m1.trans (m2.mono fun r hr=>by show r<110;omega),?_⟩ (by omega)
  have e3:keepC (ownL (l.take i)) (l.getD i 0) (-1)=ownL (l.take (i+1)):=by
   rw[ownL_keep,List.take_add_one,List.getD_eq_getElem?_getD,List.getElem?_eq_getElem hil];rfl
  rw[←e3]
  exact hc2
 ·rw[if_neg hlt]
  have:i=l.length:=by omega
  subst this
  rw[List.take_length] at hc1
  exact hQ _ m1 hc1
def badNew (form frames region:Int):Prop:=frames<1∨512<frames∨region<1∨frames<region∨(form≠1∧form≠2)
instance (form frames region:Int):Decidable (badNew form frames region):=inferInstanceAs (Decidable (_∨_))
theorem new_spec (hg:∀ b r,ρ b=some r→S b≠none) (h0:ρ 0=none) (hgl:Gl S) {form frames region:Int} {Q:Pt→Int→Mem→Prop}
  (hE:badNew form frames region→Q none 1 S)
  (hY:¬badNew form frames region→∀ S' ρ' h A l u,Mv S ρ S' ρ' Rc→CrabA S' ρ' h A (cstN form frames.toNat l u)→takeN frames.toNat l.length (fun _=>false)=some (l,u)→(l.length:Int)=region→Q (some (h,0)) 0 S'):crab_New S form frames region Q:=by
 apply t_crab_New
 unfold b_crab_New
 simp only[jn]
 by_cases hb:badNew form frames region
 ·have:=hE hb
  unfold badNew at hb
  by_cases h1:frames<1
  ·rw[if_pos h1];exact this
  rw[if_neg h1]
  by_cases h2:512<frames
  ·rw[if_pos h2];exact this
  rw[if_neg h2]
  by_cases h3:region<1
  ·rw[if_pos h3];exact this
  rw[if_neg h3]
  by_cases h4:frames<region
  ·rw[if_pos h4];exact this
  rw[if_neg h4,if_pos (by omega),if_pos (by omega)]
  exact this
 have hY:=hY hb
 unfold badNew at hb
 rw[if_neg (by omega),if_neg (by omega),if_neg (by omega),if_neg (by omega)]
 have hform:form=1∨form=2:=by omega
 obtain⟨N,rfl⟩:∃ N:Nat,frames=N:=⟨frames.toNat,by omega⟩
 obtain⟨r,rfl⟩:∃ r:Nat,region=r:=⟨region.toNat,by omega⟩
 have key:store_New S N fun t Sx_1=>pool_New Sx_1 N fun t_1 Sx_2=>guest_New Sx_2 form N fun t_2 Sx_3=>
   al Sx_3 86 ([eP t,eP t_1,.slice (none) 0 0,eP t_2,.slice (none) 0 0,.slice (none) 0 0,.slice (none) 0 0,.slice (none) 0 0,.slice (none) 0 0,.slice (none) 0 0,.slice (none) 0 0]) fun b Sx_4=>
  gP (Sx_4.cell b 1) fun t_3=>
  pool_Pool_Some Sx_4 t_3 r fun t_4 t_5 Sx_5=>
  pt Sx_5 b 4 1 ([eL t_4]) fun Sx_6=>
  gL (Sx_6.cell b 4) fun t_6=>
  lp (fun Xx (t_7:Int) (Sx_8:Mem)=>
   if t_7<(t_6.n:Int) then
   sl t_6 fun b_1 o n n_1=>
   0≤t_7∧t_7<((n:Nat):Int) ∧
   gI (Sx_8.cell b_1 (o+t_7.toNat*1)) .i64 fun t_8=>
   gP (Sx_8.cell b 3) fun t_9=>
   nn t_9 fun b_2 o_1=>
   gP (Sx_8.cell b_2 (o_1+74)) fun t_10=>
   owner_Book_Keep Sx_8 t_10 t_8 (-1) fun t_11 Sx_9=>
   Xx (IntKind.i64.wrap (t_7+1)) Sx_9
   else
   Q (some (b,0)) 0 Sx_8) 0 Sx_6:=by
  refine begin_spec hg h0 hgl (by omega) (by omega) fun S1 ρ1 h A m1 hc1=>?_
  have c1:S1.cell h 1=some (eP (some (A.p,0))):=hc1.c1
  rw[gP_i c1]
  refine some_spec (r:=12) hc1.pl m1.rg (show (-1:Int)≤-1∧(-1:Int)≤4294967296 by decide) (by omega) (by decide) (fun l u hle ht s S2 ρ2 m2 hp2 hs2=>?_) (fun hN=>?_)
  ·have hll:=(takeN_some ht).1
   refine (hc1.hd.keep m2 (by decide)).pt m2.rg 4 (by rfl) (by rw[hdL_len];exact (by decide:5≤11)) (by rfl) fun S3 m3 hh3=>?_
   rw[spl_reg] at hh3
   have M:Mv S1 ρ1 S3 ρ2 (fun x=>x=0∨R345 x∨x=12):=(m2.mono fun r hr=>.inr hr).trans (m3.mono fun r hr=>.inl hr)
   have hc3:CrabA S3 ρ2 h { A with gs:=s } (cstA form N l u fun _=>ow0):=
    ⟨M.rg,g0_keep hc1.gl M hc1.g0,gl_keep hc1.gl M hc1.g0,hh3,hc1.st.keep M (by decide) (by decide),hp2.keep m3 (by decide) (by decide) (by decide),hc1.ca.keep M (by decide),hc1.tt.keep M (by decide),hc1.ow.keep M (by decide) (by decide),hc1.ck.keep M (by decide) (by decide),hs2.keep m3 (by decide),fun i hi=>(hc1.ev i hi).keep M (by unfold R345;omega),fun i hi=>(hc1.vs i hi).keep M hi fun r h1 h2=>by unfold R345;omega⟩
   have c4:S3.cell h 4=some (eL s):=hc3.c4
   rw[gL_i c4]
   refine keepLoop (A:={ A with gs:=s }) (fun f hf=>((takeN_some ht).2.2.1 f hf).1) (by omega) hc3 fun S4 m4 hc4=>?_
   have e:((N:Int)).toNat=N:=by omega
   refine hY S4 ρ2 h _ l u (m1.trans ((M.mono fun x hx=>?_).trans m4)) (by rw[e];exact hc4) (by rw[e,hll];exact ht) (by rw[hll])
   unfold R345 at hx;show x<110;omega
  ·exfalso
   rcases hN with h | h
   ·exact absurd h.1 (show ¬(0:Int)≤-1 by decide)
   ·have:=takeN_none.1 h
    have hc:count (fun f=>! (cst0 form N).used f) N=N:=by
     show count (fun f=>! false) N=N
     unfold count
     have:(List.range N).filter (fun f=>! false)=List.range N:=by simp
     rw[this];simp
    rw[show (cst0 form N).N=N from rfl,hc] at this
    omega
 by_cases h5:form≠1
 ·rw[if_pos h5,if_neg (by omega)];exact key
 ·rw[if_neg h5];exact key
theorem rel_new {form frames region:Int} (hb:¬badNew form frames region) {l:List Nat} {u:Nat→Bool} (h:takeN frames.toNat l.length (fun _=>false)=some (l,u)) (hl:(l.length:Int)=region):Rel (cstN form frames.toNat l u) (W0 (frames-region)) fun _ _=>0:=by
 unfold badNew at hb
 have:=rel_cstN (φ:=fun _ _=>0) (by omega:form=1∨form=2) (by omega:frames.toNat≤512) h
 have e:((frames.toNat:Nat):Int)-l.length=frames-region:=by omega
 rwa [e] at this
end
end Go.Proofs.YtabdpmnhjlmnlaaGreatDoor
namespace Go.Cr
end Go.Cr
end
section
namespace Go.Proofs.YtabdpmnhjlmnlaaGreatDoor
open Go Go.Pt
attribute [local irreducible] Code.wp Back bodyPost wpList FR WL WC WQ WA AW Tr Yc HC AllC
set_option maxRecDepth 20000
set_option maxHeartbeats 4000000
set_option linter.unusedVariables false
def b_hermitcrablaw16_awake (S:Mem) (Q:Bool→Mem→Prop):Prop:=
 crab_New S 1 40 4 fun t t_1 Sx=>
 jn (fun (Sx_1:Mem)=>
 al Sx_1 5 ([.int .u8 65,.int .u8 0,.int .u8 64,.int .u8 4,.int .u8 0,.int .u8 0,.int .u8 0,.int .u8 80]) fun b Sx_2=>
 fz Sx_2 b fun Sx_3=>
 crab_Crab_Create Sx_3 t 1 4 1 (⟨some (b,0),8,8⟩) fun t_2 t_3 Sx_4=>
 crab_Crab_Run Sx_4 t t_2 0 fun t_4 Sx_5=>
 crab_Crab_Run Sx_5 t t_2 0 fun t_5 Sx_6=>
 crab_Crab_Events Sx_6 t t_2 fun t_6 Sx_7=>
 if t_3=0 then
 if (t_6.n:Int)=4 then
 sl t_6 fun b_1 o n n_1=>
 (0:Int)<(n:Nat) ∧
 gI (Sx_7.cell b_1 o) .u8 fun t_7=>
 if t_7=1 then
 (1:Int)<(n:Nat) ∧
 gI (Sx_7.cell b_1 (o+4)) .u8 fun t_8=>
 if t_8=1 then
 (2:Int)<(n:Nat) ∧
 gA (Sx_7.part b_1 (o+8) 4) fun t_9=>
 fits [.i .u8,.i .i64,.i .u64,.i .u64] t_9=true ∧
 if (eqL t_9 ([.int .u8 3,.int .i64 0,.int .u64 65,.int .u64 0]))=true then
 (3:Int)<(n:Nat) ∧
 gA (Sx_7.part b_1 (o+12) 4) fun t_10=>
 fits [.i .u8,.i .i64,.i .u64,.i .u64] t_10=true ∧
 Q (eqL t_10 ([.int .u8 2,.int .i64 0,.int .u64 0,.int .u64 0])) Sx_7
 else
 Q false Sx_7
 else
 Q false Sx_7
 else
 Q false Sx_7
 else
 Q false Sx_7
 else
 Q false Sx_7) fun Jx=>
 if t_1≠0 then
 Q false Sx
 else
 if t=none then
 Q false Sx
 else
 Jx Sx
theorem t_hermitcrablaw16_awake {S:Mem} {Q:Bool→Mem→Prop} (H:b_hermitcrablaw16_awake S Q):hermitcrablaw16_awake S Q:=by
 unfold b_hermitcrablaw16_awake at H
 exact Tr.intro Tryz.func27 E Tryz.ntmps27 E fun w0=>csr<|gv E E<|nxr<|s_k2 E E H fun t t_1 Sx H1=>mv E E<|s_p E (y_extract E E)<|s_p E (y_extract E E)<|gv E E<|gv E E<|nx<|c_join2 H1 (fun (J:Mem→Prop) (z:Unit) S=>J S) (fun z=>⟨67,[(1,eP t)]⟩) (fun z=>[]) (fun _ Sx_1 H2=>csr<|mv E E<|s_bs E E (by decide) E fun b=>s_pub 0 E fun hb=>have H3:=H2 b hb;s_fz E E H3 fun Sx_3 H4=>s_k2 E E H4 fun t_2 t_3 Sx_4 H5=>mv E E<|s_p E (y_extract E E)<|s_p E (y_extract E E)<|gv E E<|gv E E<|nxr<|mv E E<|mv E E<|s_k1 E E H5 fun t_4 Sx_5 H6=>nxr<|mv E E<|mv E E<|s_k1 E E H6 fun t_5 Sx_6 H7=>nxr<|mv E E<|mv E E<|s_k1 E E H7 fun t_6 Sx_7 H8=>gv E E<|nx<|by exact csr<|mv E E<|iteK H8 (fun c H9=>ceT E E E (c)<|mv E E<|mv E E<|s_p E (y_len E)<|iteK H9 (fun c_1 H10=>ceT E E E (c_1)<|pk E E E<|mv E E<|mv E E<|by obtain⟨b_1,o,n,n_1,rfl,H11⟩:=H10;exact an H11 fun c_3 H12=>s_p E (y_ixL E E (by decide) c_3 E)<|s_p E (y_fa E E)<|gx H12 fun t_7 ht_7 H13=>s_v E (y_ld E) (hc_S ht_7)<|iteK H13 (fun c_4 H14=>ceT E E E (c_4)<|pk E E E<|mv E E<|mv E E<|an H14 fun c_6 H15=>s_p E (y_ixL E E (by decide) c_6 E)<|s_p E (y_fa E E)<|gx H15 fun t_8 ht_8 H16=>s_v E (y_ld E) (hc_S ht_8)<|iteK H16 (fun c_7 H17=>ceT E E E (c_7)<|pk E E E<|mv E E<|mv E E<|an H17 fun c_9 H18=>s_p E (y_ixL E E (by decide) c_9 E)<|gx H18 fun t_9 ht_9 H19=>by refine s_v E (y_ldA E (part_len ht_9)) (hc_SP ht_9) ?_;exact s_p E (y_build E E)<|by exact an H19 fun c_10 H20=>iteK H20 (fun c_12 H21=>s_p E (yB (y_eqA E E c_10 E) c_12)<|pk E E E<|mv E E<|mv E E<|an H21 fun c_14 H22=>s_p E (y_ixL E E (by decide) c_14 E)<|gx H22 fun t_10 ht_10 H23=>by refine s_v E (y_ldA E (part_len ht_10)) (hc_SP ht_10) ?_;exact s_p E (y_build E E)<|by exact an H23 fun c_15 H24=>s_p E (y_eqA E E c_15 E)<|pk E E E<|gv E E<|nx<|c_ret<|q_ret Tryz.results27 (rv_tmp E rv_nil) ⟨_,E,H24⟩) fun c_12 H21=>s_p E (yB (y_eqA E E c_10 E) (bf_of c_12))<|pk E E E<|mv E E<|sk4 E E E E<|s_skip E<|pk E E E<|gv E E<|nx<|c_ret<|q_ret Tryz.results27 (rv_tmp E rv_nil) ⟨_,E,H21⟩) fun c_7 H17=>ceF E E E (c_7)<|pk E E E<|mv E E<|sk4 E E E E<|s_skip E<|pk E E E<|mv E E<|sk4 E E E E<|s_skip E<|pk E E E<|gv E E<|nx<|c_ret<|q_ret Tryz.results27 (rv_tmp E rv_nil) ⟨_,E,H17⟩) fun c_4 H14=>ceF E E E (c_4)<|pk E E E<|mv E E<|sk4 E E E E<|s_skip E<|pk E E E<|mv E E<|sk4 E E E E<|s_skip E<|pk E E E<|mv E E<|sk4 E E E E<|s_skip E<|pk E E E<|gv E E<|nx<|c_ret<|q_ret Tryz.results27 (rv_tmp E rv_nil) ⟨_,E,H14⟩) fun c_1 H10=>ceF E E E (c_1)<|pk E E E<|mv E E<|sk4 E E E E<|s_skip E<|pk E E E<|mv E E<|sk4 E E E E<|s_skip E<|pk E E E<|mv E E<|sk4 E E E E<|s_skip E<|pk E E E<|mv E E<|sk4 E E E E<|s_skip E<|pk E E E<|gv E E<|nx<|c_ret<|q_ret Tryz.results27 (rv_tmp E rv_nil) ⟨_,E,H10⟩) fun c H9=>ceF E E E (c)<|mv E E<|sk2 E E<|s_skip E<|pk E E E<|mv E E<|sk4 E E E E<|s_skip E<|pk E E E<|mv E E<|sk4 E E E E<|s_skip E<|pk E E E<|mv E E<|sk4 E E E E<|s_skip E<|pk E E E<|mv E E<|sk4 E E E E<|s_skip E<|pk E E E<|gv E E<|nx<|c_ret<|q_ret Tryz.results27 (rv_tmp E rv_nil) ⟨_,E,H9⟩) (fun Jx hJx H25=>csr<|mv E E<|iteK H25 (fun c_17 H26=>s_p E (yT (y_neq E E) c_17)<|mv E E<|sk2 E E<|pk E E E<|nx<|c_t E E<|csr<|gv E E<|nx<|c_ret<|q_then_ret<|q_ret Tryz.results27 (rv_tmp E rv_nil) ⟨_,E,H26⟩) fun c_17 H26=>s_p E (yF (y_neq E E) c_17)<|mv E E<|mv E E<|iteK H26 (fun c_18 H27=>s_p E (yT (y_pnil (p:=t) E E) c_18)<|pk E E E<|nx<|c_t E E<|csr<|gv E E<|nx<|c_ret<|q_then_ret<|q_ret Tryz.results27 (rv_tmp E rv_nil) ⟨_,E,H27⟩) fun c_18 H27=>s_p E (yF (y_pnil (p:=t) E E) c_18)<|pk E E E<|nx<|cfs E E<|hJx () _ _ _ _ [] H27 E ⟨E,True.intro⟩ E)
end Go.Proofs.YtabdpmnhjlmnlaaGreatDoor
end
section
namespace Go.Cr
open Go Go.Pt
def awImg:List Int:=[65,0,64,4,0,0,0,80]
def awW1:Wd:=((W0 36).create 1 4 1 awImg).2.2
def awW2:Wd:=(awW1.run 0 0).2
def awW3:Wd:=(awW2.run 0 0).2
def Evt.q (e:Evt):Int×Int×Int×Int:=(e.kind,e.seat,e.a,e.b)
theorem Evt.of_q {e:Evt} {k s a b:Int} (h:e.q=(k,s,a,b)):e=⟨k,s,a,b⟩:=by
 obtain⟨_,_,_,_⟩:=e
 simp only[Evt.q,Prod.mk.injEq] at h
 obtain⟨rfl,rfl,rfl,rfl⟩:=h;rfl
theorem aw_len:(awW3.ev 0).length=4:=by decide +kernel
theorem aw_1:((awW3.ev 0).getD 0 ⟨0,0,0,0⟩).kind=1:=by decide +kernel
theorem aw_2:((awW3.ev 0).getD 1 ⟨0,0,0,0⟩).kind=1:=by decide +kernel
theorem aw_3:((awW3.ev 0).getD 2 ⟨0,0,0,0⟩).q=(3,0,65,0):=by decide +kernel
theorem aw_4:((awW3.ev 0).getD 3 ⟨0,0,0,0⟩).q=(2,0,0,0):=by decide +kernel
theorem aw_c:((W0 36).create 1 4 1 awImg).1=0∧((W0 36).create 1 4 1 awImg).2.1=0:=by decide +kernel
theorem aw_ev:∃ e1 e2:Evt,e1.kind=1∧e2.kind=1∧awW3.ev 0=[e1,e2,⟨3,0,65,0⟩,⟨2,0,0,0⟩]:=by
 have h1:=aw_1
 have h2:=aw_2
 have h3:=aw_3
 have h4:=aw_4
 have h0:=aw_len
 match h:awW3.ev 0,h0 with
 | [a,b,c,d],_=>
  rw[h] at h1 h2 h3 h4
  have e3:c=_:=Evt.of_q h3
  have e4:d=_:=Evt.of_q h4
  exact⟨a,b,h1,h2,by rw[e3,e4]⟩
end Go.Cr
end
section
namespace Go.Cr
open Go Go.Pt
def Wd.evB (W:Wd) (m:Nat):Prop:=∀ i,(W.ev i).length≤m
section
variable {W:Wd} {m:Nat}
theorem Wd.evB.mono (h:W.evB m) {k:Nat} (hk:m≤k):W.evB k:=fun i=>Nat.le_trans (h i) hk
theorem Wd.evB.of {W':Wd} (h:W.evB m) (e:W'.ev=W.ev):W'.evB m:=fun i=>by rw[e];exact h i
theorem evB_W0 {f:Int}:(W0 f).evB 0:=fun _=>Nat.le_refl 0
theorem Wd.evB.tell (h:W.evB m) {n:Nat} {e:Evt}:(W.tell n e).evB (m+1):=fun i=>by
 unfold Wd.tell
 show (upd W.ev n (W.ev n++[e]) i).length≤m+1
 by_cases ei:i=n
 ·subst ei;rw[upd_at,List.length_append];have:=h i;simp;omega
 ·rw[upd_of ei];have:=h i;omega
theorem raise_ev {n k i:Nat}:(W.raise n k i).2.ev=W.ev:=by unfold Wd.raise;split <;> rfl
theorem ring_ev {n:Nat} {a b:Int}:(W.ring n a b).2.ev=W.ev:=by
 unfold Wd.ring;split
 ·rfl
 ·split
  ·rfl
  ·exact raise_ev
theorem nextKey_ev {n:Nat}:(W.nextKey n).2.2.ev=W.ev:=by unfold Wd.nextKey;split <;> rfl
theorem offer_ev {n:Nat} {p to:Int} {w:Bool}:(W.offer n p to w).2.2.ev=W.ev:=by
 unfold Wd.offer;split
 ·rfl
 ·split
  ·rfl
  ·split
   ·rfl
   ·split <;> rfl
theorem lease_ev {n:Nat} {c i p:Int}:(W.lease n c i p).2.ev=W.ev:=by
 unfold Wd.lease;split
 ·rfl
 ·split
  ·rfl
  ·split
   ·split <;> rfl
   ·split
    ·rfl
    ·split
     ·rfl
     ·split
      ·rfl
      ·split <;> rfl
theorem give_ev {n:Nat} {p:Int}:(W.give n p).2.ev=W.ev:=by
 unfold Wd.give;split
 ·rfl
 ·split <;> rfl
theorem get_ev {n:Nat} {p:Int}:(W.get n p).2.ev=W.ev:=by
 unfold Wd.get;split
 ·rfl
 ·split
  ·rfl
  ·split
   ·rfl
   ·split <;> rfl
theorem load_ev {n:Nat} {s p:Int}:(W.load n s p).2.ev=W.ev:=by
 unfold Wd.load;split
 ·rfl
 ·split
  ·rfl
  ·split <;> rfl
theorem save_ev {n:Nat} {s p:Int}:(W.save n s p).2.ev=W.ev:=by
 unfold Wd.save;split
 ·rfl
 ·split
  ·rfl
  ·split <;> rfl
theorem ite_ind {α:Type} {P:α→Prop} {c:Prop} [Decidable c] {a b:α} (h1:c→P a) (h2:¬c→P b):P (if c then a else b):=by
 by_cases h:c
 ·rw[if_pos h];exact h1 h
 ·rw[if_neg h];exact h2 h
theorem Wd.evB.call (h:W.evB m) {n k:Nat} {c w1 w2 w3:Int}:(W.call n k c w1 w2 w3).2.2.evB (m+1):=by
 have h1:=h.mono (Nat.le_succ m)
 unfold Wd.call
 refine ite_ind (P:=fun r:Int×Int×Wd=>r.2.2.evB (m+1)) (fun _=>h.tell) fun _=>?_
 refine ite_ind (P:=fun r:Int×Int×Wd=>r.2.2.evB (m+1)) (fun _=>h1.of nextKey_ev) fun _=>?_
 refine ite_ind (P:=fun r:Int×Int×Wd=>r.2.2.evB (m+1)) (fun _=>h1.of ring_ev) fun _=>?_
 refine ite_ind (P:=fun r:Int×Int×Wd=>r.2.2.evB (m+1)) (fun _=>h1) fun _=>?_
 refine ite_ind (P:=fun r:Int×Int×Wd=>r.2.2.evB (m+1)) (fun _=>h1.of offer_ev) fun _=>?_
 refine ite_ind (P:=fun r:Int×Int×Wd=>r.2.2.evB (m+1)) (fun _=>h1.of lease_ev) fun _=>?_
 refine ite_ind (P:=fun r:Int×Int×Wd=>r.2.2.evB (m+1)) (fun _=>h1.of give_ev) fun _=>?_
 refine ite_ind (P:=fun r:Int×Int×Wd=>r.2.2.evB (m+1)) (fun _=>h1.of get_ev) fun _=>?_
 refine ite_ind (P:=fun r:Int×Int×Wd=>r.2.2.evB (m+1)) (fun _=>h1.of load_ev) fun _=>?_
 refine ite_ind (P:=fun r:Int×Int×Wd=>r.2.2.evB (m+1)) (fun _=>h1.of save_ev) fun _=>?_
 refine ite_ind (P:=fun r:Int×Int×Wd=>r.2.2.evB (m+1)) (fun _=>h1) fun _=>?_
 refine ite_ind (P:=fun r:Int×Int×Wd=>r.2.2.evB (m+1)) (fun _=>h1.of (W':=W.setV n _) rfl) fun _=>?_
 exact h1
theorem Wd.evB.run (h:W.evB m) {n k:Int}:(W.run n k).2.evB (m+3):=by
 unfold Wd.run
 by_cases h1:¬W.there n∨k<0∨(W.vm n.toNat).seats.length≤k
 ·rw[if_pos h1];exact h.mono (by omega)
 rw[if_neg h1]
 dsimp only
 generalize stepM ((W.vm n.toNat).seat k.toNat) (W.gm n.toNat) (W.time n.toNat) k=o
 by_cases h2:o.k=5
 ·rw[if_pos h2];exact h.mono (by omega)
 rw[if_neg h2]
 have h3:(((W.setDat o.g.dat).putSeat n.toNat k.toNat o.s).tell n.toNat (told o.k o.n k ((W.vm n.toNat).seat k.toNat).pc o.s)).evB (m+1):=(h.of (W':=(W.setDat o.g.dat).putSeat n.toNat k.toNat o.s) rfl).tell
 split
 ·unfold Wd.hyper
  dsimp only
  exact Wd.evB.tell (m:=m+2) (Wd.evB.of (h3.call (n:=n.toNat) (k:=k.toNat) (c:=o.n)) rfl)
 ·exact h3.mono (by omega)
theorem Wd.evB.create (h:W.evB m) {s q p:Int} {img:List Int}:(W.create s q p img).2.2.evB m:=by
 unfold Wd.create
 split
 ·exact h
 split
 ·exact h
 split
 ·exact h
 split
 ·exact h
 ·rename_i n _ _
  intro i
  show (upd W.ev n [] i).length≤m
  by_cases e:i=n
  ·rw[e,upd_at];exact Nat.zero_le _
  ·rw[upd_of e];exact h i
theorem Wd.evB.key (h:W.evB m) {n b:Int}:(W.key n b).2.evB m:=by
 unfold Wd.key
 split
 ·exact h
 split
 ·exact h
 ·exact h.of raise_ev
def Wd.runs (W:Wd) (n k:Int):Nat→Wd
 | 0=>W
 | j+1=>((W.runs n k j).run n k).2
theorem Wd.evB.runs (h:W.evB m) {n k:Int}:∀ {j:Nat},(W.runs n k j).evB (m+3*j)
 | 0=>h
 | j+1=>(Wd.evB.run (h.runs (j:=j))).mono (by omega)
end
end Go.Cr
end
section
namespace Go.Proofs.YtabdpmnhjlmnlaaGreatDoor
open Go Go.Pt Go.Cr Go.Hp
def Lv (S0:Mem) (ρ0:Rho) (h:Nat) (S:Mem) (W:Wd):Prop:=∃ ρ A C φ,Mv S0 ρ0 S ρ Rc∧CrabA S ρ h A C∧Rel C W φ
def rho0:Rho:=fun _=>none
section
variable {S S' S0:Mem} {ρ ρ' ρ0:Rho} {R:Nat→Prop} {h:Nat} {A:Ad} {C:Cst} {W:Wd} {φ:Nat→Nat→Nat}
theorem rg0 {S:Mem}:∀ b r,rho0 b=some r→S b≠none:=fun b r h=>by cases h
theorem mv_keeps0 (m:Mv S rho0 S' ρ R):Keeps S S' []:=fun b hb _=>m.kp b hb fun r e=>by cases e
theorem Lv.keeps (l:Lv S rho0 h S' W):Keeps S S' []:=by
 obtain⟨ρ,A,C,φ,m,_⟩:=l
 exact mv_keeps0 m
theorem After.lv {W':Wd} (m:Mv S0 ρ0 S ρ Rc) (hA:After h A C S ρ W' S'):Lv S0 ρ0 h S' W':=by
 obtain⟨ρ',A',C',φ',m',hc,hr,_⟩:=hA
 exact⟨ρ',A',C',φ',m.trans m',hc,hr⟩
theorem Aft.lv {W':Wd} (m:Mv S0 ρ0 S ρ Rc) (hA:Aft h C S ρ W' S'):Lv S0 ρ0 h S' W':=by
 obtain⟨ρ',A',C',φ',m',hc,hr,_⟩:=hA
 exact⟨ρ',A',C',φ',m.trans m',hc,hr⟩
theorem Lv.on (l:Lv S0 ρ0 h S W) (hk:Keeps S S' []):Lv S0 ρ0 h S' W:=by
 obtain⟨ρ,A,C,φ,m,hc,hr⟩:=l
 exact⟨ρ,A,C,φ,m.then hk,hc.keeps hk,hr⟩
theorem new_L (hgl:Gl S) {form frames region:Int} {Q:Pt→Int→Mem→Prop} (hE:badNew form frames region→Q none 1 S)
  (hY:¬badNew form frames region→∀ S' h,Lv S rho0 h S' (W0 (frames-region))→Q (some (h,0)) 0 S'):crab_New S form frames region Q:=
 new_spec rg0 rfl hgl hE fun hb S' ρ' h A l u m hc ht hl=>hY hb S' h ⟨ρ',A,_,_,m,hc,rel_new hb ht hl⟩
theorem run_L (l:Lv S0 ρ0 h S W) {e:Nat} (he:W.evB e) (hel:e≤800000000) {n k:Int} {Q:Int→Mem→Prop} (hQ:∀ S',Lv S0 ρ0 h S' (W.run n k).2→Q (W.run n k).1 S'):crab_Crab_Run S (some (h,0)) n k Q:=by
 obtain⟨ρ,A,C,φ,m,hc,hr⟩:=l
 exact crun_spec hc hr (fun i=>Nat.le_trans (he i) hel) fun S' hA=>hQ S' (hA.lv m)
theorem events_L (l:Lv S0 ρ0 h S W) {n:Nat} (hn:n<6) {e:Nat} (he:W.evB e) (hel:e≤800000000) {Q:Sl→Mem→Prop}
  (hQ:∀ t S',Keeps S S' []→Row S' 4 t ((W.ev n).flatMap evL)→(∀ b o,t.p=some (b,o)→S b=none)→Q t S'):crab_Crab_Events S (some (h,0)) n Q:=by
 obtain⟨ρ,A,C,φ,m,hc,hr⟩:=l
 rw[←hr.ev] at hQ
 exact events_spec hc hn (by rw[hr.ev];have:=he n;omega) hQ
theorem img_new {b:Nat} (hb:S b=none) (hg:∀ b r,ρ b=some r→S b≠none) {k:Blk} {xs:List Int} (hk:k.cs=bL xs) (hf:lpart k.cs 0 xs.length=some (bL xs)) (hx:Byt xs) {c:Nat} (hS:S' b=some k) (hc:xs.length≤c) (hp:S'.part b 0 xs.length=some (bL xs)):ImgAt S' ρ ⟨some (b,0),xs.length,c⟩ xs:=
 ⟨rfl,hc,hx,.inr ⟨b,0,rfl,hp,by
  cases e:ρ b with
  | none=>rfl
  | some r=>exact absurd hb (hg b r e),by rw[hS];simp⟩⟩
theorem fm_get {α:Type} {f:α→List Value} {w:Nat} (h:∀ a,(f a).length=w) {l:List α} {j k:Nat} (hj:j<l.length) (hk:k<w):nthL (l.flatMap f) (j*w+k)=nthL (f l[j]) k:=by
 obtain⟨e1,e2⟩:=fm_split h hj
 rw[e1,nthL_skip e2,nthL_left (by rw[h];exact hk)]
theorem row_get {S:Mem} {t:Sl} {l:List Evt} (h:Row S 4 t (l.flatMap evL)) (h0:l≠[]):t.n=l.length∧∃ b,t=⟨some (b,0),t.n,t.c⟩∧(∀ i j x,(hi:i<l.length)→j<4→x=i*4+j→S.cell b x=nthL (evL l[i]) j)∧∀ i x,(hi:i<l.length)→x=i*4→S.part b x 4=some (evL l[i]):=by
 have hlen:(l.flatMap evL).length=l.length*4:=fm_len ev_len l
 have hpos:0<l.length:=List.length_pos_iff.2 h0
 have hw:Rw S (fun _=>some 0) 0 4 t (l.flatMap evL):=⟨h,fun _ _ _=>rfl⟩
 refine⟨hw.n (by decide) hlen,?_⟩
 obtain⟨b,e1,e2⟩:=hw.sl (by omega)
 refine⟨b,e1,fun i j x hi hj hx=>?_,fun i x hi hx=>?_⟩
 ·rw[hw.cell e2 (i*4+j) (by omega) hx,fm_get ev_len hi hj]
 ·rw[hw.part e2 (i*4) (by omega) hx,fm_part ev_len hi]
theorem byt_aw:Byt awImg:=fun x hx=>by
 simp only[awImg,List.mem_cons,List.not_mem_nil,or_false] at hx
 omega
theorem awake_spec (hgl:Gl S) {Q:Bool→Mem→Prop} (hQ:∀ S',Keeps S S' []→Q true S'):hermitcrablaw16_awake S Q:=by
 apply t_hermitcrablaw16_awake
 unfold b_hermitcrablaw16_awake
 refine new_L hgl (fun h=>absurd h (by decide)) fun _ S1 h l1=>?_
 simp only[jn]
 rw[if_neg (by decide),if_neg (by simp)]
 obtain⟨ρ,A,C,φ,m1,hc1,hr1⟩:=l1
 intro b hb
 refine⟨_,set_same,rfl,?_⟩
 have hk:Keeps S1 ((S1.set b (bw 5 [.int .u8 65,.int .u8 0,.int .u8 64,.int .u8 4,.int .u8 0,.int .u8 0,.int .u8 0,.int .u8 80])).set b ⟨5,[.int .u8 65,.int .u8 0,.int .u8 64,.int .u8 4,.int .u8 0,.int .u8 0,.int .u8 0,.int .u8 80],(8,9)⟩) []:=fun x hx _=>by
  have:x≠b:=fun e=>hx (e ▸ hb)
  rw[set_ne this,set_ne this]
 have hc2:=hc1.keeps hk
 refine create_spec (xs:=awImg) hc2 hr1 (img_new hb hc1.rg (k:=⟨5,bL awImg,(8,9)⟩) rfl rfl byt_aw set_same (by decide) (by rw[part_of set_same];rfl)) (by decide) fun S2 hA=>?_
 have l2:=hA.lv (m1.then hk)
 have ec:((W0 (40-4)).create 1 4 1 awImg).1=0∧((W0 (40-4)).create 1 4 1 awImg).2.1=0:=aw_c
 rw[ec.1,ec.2]
 have e1:awW1.evB 0:=evB_W0.create
 refine run_L l2 e1 (by decide) fun S3 l3=>?_
 refine run_L l3 e1.run (by decide) fun S4 l4=>?_
 obtain⟨x1,x2,h1,h2,he⟩:=aw_ev
 refine events_L (n:=0) l4 (by decide) e1.run.run (by decide) fun t S5 hk5 hrow _=>?_
 have hrow':Row S5 4 t ([x1,x2,⟨3,0,65,0⟩,⟨2,0,0,0⟩].flatMap evL):=by
  rw[←he];exact hrow
 obtain⟨hn,c,ht,hcell,hpart⟩:=row_get hrow' (by simp)
 have hn4:t.n=4:=hn
 rw[if_pos rfl,if_pos (by omega),ht,sl_i]
 refine⟨by omega,?_⟩
 rw[gI_i (hcell 0 0 _ (by simp) (by decide) rfl)]
 rw[List.getElem_cons_zero,if_pos h1]
 refine⟨by omega,?_⟩
 rw[gI_i (hcell 1 0 _ (by simp) (by decide) rfl)]
 rw[show [x1,x2,(⟨3,0,65,0⟩:Evt),⟨2,0,0,0⟩][1]=x2 from rfl,if_pos h2]
 refine⟨by omega,?_⟩
 rw[gA_i (hpart 2 _ (by simp) rfl)]
 refine⟨rfl,?_⟩
 rw[if_pos (by rfl)]
 refine⟨by omega,?_⟩
 rw[gA_i (hpart 3 _ (by simp) rfl)]
 exact⟨rfl,hQ _ (l4.keeps.trans hk5)⟩
end
end Go.Proofs.YtabdpmnhjlmnlaaGreatDoor
end
section
namespace Go.Cr
open Go Go.Pt
structure One (W:Wd) (n:Nat) (s:Seat):Prop where
 lt:n<6
 on:(W.vm n).on=true
 seats:(W.vm n).seats=[s]
def Wd.done (W:Wd) (n:Nat) (s s':Seat) (k c:Int):Wd:=(W.putSeat n 0 s').tell n (told k c 0 s.pc s')
section
variable {W:Wd} {n:Nat} {s s':Seat} {g:GM} {k c:Int}
theorem One.seat (h:One W n s):(W.vm n).seat 0=s:=by unfold Bv.seat;rw[h.seats];rfl
theorem One.run (h:One W n s) (ho:stepM s (W.gm n) (W.time n) 0=⟨s',k,c,g⟩) (h5:k≠5):W.run n 0=(0,if k=2 then ((W.setDat g.dat).done n s s' k c).hyper n 0 c s' else (W.setDat g.dat).done n s s' k c):=by
 have ht:W.there (n:Int):=⟨by omega,by have:=h.lt;omega,by rw[Int.toNat_natCast];exact h.on⟩
 unfold Wd.run
 rw[Int.toNat_natCast,if_neg (by
  rintro (h1 | h1 | h1)
  ·exact h1 ht
  ·omega
  ·rw[h.seats] at h1;simp at h1)]
 dsimp only
 rw[show (0:Int).toNat=0 from rfl,h.seat,ho]
 dsimp only
 rw[if_neg h5]
 rfl
theorem done_vm (m:Nat):(W.done n s s' k c).vm m=if m=n then (W.vm n).setSeat 0 s' else W.vm m:=by
 show upd W.vm n _ m=_
 unfold upd;rfl
theorem One.done (h:One W n s):One (W.done n s s' k c) n s':=by
 refine⟨h.lt,?_,?_⟩
 ·rw[done_vm,if_pos rfl];exact h.on
 ·rw[done_vm,if_pos rfl]
  show (W.vm n).seats.set 0 s'=[s']
  rw[h.seats];rfl
theorem done_keys:((W.done n s s' k c).vm n).keys=(W.vm n).keys:=by rw[done_vm,if_pos rfl];rfl
theorem done_ev:(W.done n s s' k c).ev n=W.ev n++[told k c 0 s.pc s']:=upd_at
theorem done_own:(W.done n s s' k c).own=W.own:=rfl
theorem step_of {time me w:Int} (h0:s.st=0) (ho:s.opn=false) (hb:s.base=0) {pc:Nat} (hpc:s.pc=pc) (hp:pc%4=0) (hlt:pc<256) {f:Nat} {b:Bool} (hm:g.map 0=some (f,b)) {page:List Int} (hd:g.dat f=page) (hw:num ((page.drop pc).take 4)=w) (hi:isW w):stepM s g time me=doM s g time me (dK w) (dA w) (dB w) (dC w) (dN w):=by
 unfold stepM
 rw[if_neg (by rw[h0];simp)]
 have hn:nextL s=none:=by unfold nextL;rw[if_neg (by rw[ho];simp)]
 have hg:getW s g s.pc 4=some w:=by
  unfold getW place
  rw[if_neg (by omega),if_pos hb]
  dsimp only
  rw[if_neg (by omega)]
  unfold ldB
  rw[show (s.pc/256).toNat=0 by omega,show (s.pc%256).toNat=pc by omega,hm]
  simp only[Option.map_some,hd,hw]
 rw[hn,hg]
 dsimp only
 rw[if_pos hi]
end
section
variable {s:Seat} {g:GM} {t me a b c n:Int}
theorem doM1:doM s g t me 1 a b c n=⟨{ s.setr a (x64 n) with pc:=x64 (s.pc+4) },0,0,g⟩:=rfl
theorem doM3:doM s g t me 3 a b c n=⟨{ s.setr a (x64 (s.r b+s.r c)) with pc:=x64 (s.pc+4) },0,0,g⟩:=rfl
theorem doM11:doM s g t me 11 a b c n=⟨{ s.setr a (x64 (s.r b+x64 n)) with pc:=x64 (s.pc+4) },0,0,g⟩:=rfl
theorem doM14:doM s g t me 14 a b c n=⟨{ s with pc:=if s.r a=s.r b then x64 (s.pc+x64 (4*x64 n)) else x64 (s.pc+4) },0,0,g⟩:=rfl
theorem doM20:doM s g t me 20 a b c n=⟨{ s with pc:=x64 (s.pc+4) },2,x64 n,g⟩:=rfl
end
def Wd.ans (W:Wd) (n:Nat) (c e v:Int):Wd:=(W.putSeat n 0 (((W.vm n).seat 0).answer e v)).tell n ⟨2,0,ior .u64 (x64 (c*256)) e,v⟩
section
variable {W W':Wd} {n:Nat} {s:Seat} {c e v:Int}
theorem hyper_eq (h:W.call n 0 c (s.r 1) (s.r 2) (s.r 3)=(v,e,W')):W.hyper n 0 c s=W'.ans n c e v:=by
 unfold Wd.hyper
 rw[h];rfl
theorem ans_vm (m:Nat):(W.ans n c e v).vm m=if m=n then (W.vm n).setSeat 0 (((W.vm n).seat 0).answer e v) else W.vm m:=by
 show upd W.vm n _ m=_
 unfold upd;rfl
theorem One.ans (h:One W n s):One (W.ans n c e v) n (s.answer e v):=by
 refine⟨h.lt,?_,?_⟩
 ·rw[ans_vm,if_pos rfl];exact h.on
 ·rw[ans_vm,if_pos rfl,h.seat]
  show (W.vm n).seats.set 0 _=_
  rw[h.seats];rfl
theorem ans_keys:((W.ans n c e v).vm n).keys=(W.vm n).keys:=by rw[ans_vm,if_pos rfl];rfl
theorem ans_ev:(W.ans n c e v).ev n=W.ev n++[⟨2,0,ior .u64 (x64 (c*256)) e,v⟩]:=upd_at
theorem ans_own:(W.ans n c e v).own=W.own:=rfl
theorem gm_own {p:Nat} (hp:p<32) {l:List Int} (h:W.own n p=some l):(W.gm n).map p=some (32*n+p,true)∧(W.gm n).dat (32*n+p)=l:=by
 constructor
 ·show (if 32≤p then none else (W.where_ n p).map fun q=>(32*q.1+q.2.1,q.2.2))=_
  rw[if_neg (by omega)]
  unfold Wd.where_
  rw[if_pos (by rw[h];rfl)];rfl
 ·show (W.own ((32*n+p)/32) ((32*n+p)%32)).getD []=l
  rw[show (32*n+p)/32=n by omega,show (32*n+p)%32=p by omega,h];rfl
end
end Go.Cr
end
section
namespace Go.Cr
open Go Go.Pt
def keyImg:List Int:=[8,0,0,5,1,0,0,80,255,255,168,58]
structure KX (W:Wd) (pc:Nat) (l:List Int):Prop where
 ex:∃ s:Seat,One W 0 s∧s.st=0∧s.opn=false∧s.base=0∧s.pc=pc
 keys:(W.vm 0).keys=l
 own:W.own 0 0=some (pageB keyImg 0)
theorem One.setV {W:Wd} {n:Nat} {s s':Seat} (h:One W n s) {v:Bv} {b:Bool} (hb:b=true) (h1:v.on=b) (h2:v.seats=[s']):One (W.setV n v) n s':=by
 subst hb
 refine⟨h.lt,?_,?_⟩
 ·show Bv.on (upd W.vm n v n)=true
  rw[upd_at];exact h1
 ·show Bv.seats (upd W.vm n v n)=[s']
  rw[upd_at];exact h2
theorem isW_hvc:isW 1342177281:=by decide +kernel
theorem isW_beq:isW 984154111:=by decide +kernel
section
variable {W:Wd} {l:List Int}
theorem KX.done {pc:Nat} (h:KX W pc l) {s s':Seat} (ho:One W 0 s) {pc':Nat} (h1:s'.st=0) (h2:s'.opn=false) (h3:s'.base=0) (h4:s'.pc=pc') {k c:Int}:KX (W.done 0 s s' k c) pc' l:=
 ⟨⟨s',ho.done,h1,h2,h3,h4⟩,by rw[done_keys];exact h.keys,by rw[done_own];exact h.own⟩
theorem KX.hvc (hwk:WOk W) (h:KX W 4 l):(W.run 0 0).1=0∧KX (W.run 0 0).2 8 l.tail∧∃ x,(W.run 0 0).2.ev 0=W.ev 0++[x,⟨2,0,if l=[] then 258 else 256,l.headD 0⟩]:=by
 obtain⟨s,ho,h1,h2,h3,h4⟩:=h.ex
 obtain⟨g1,g2⟩:=gm_own (n:=0) (by decide) h.own
 have hst:stepM s (W.gm 0) (W.time 0) 0=⟨{ s with pc:=8 },2,1,W.gm 0⟩:=by
  rw[step_of (w:=1342177281) h1 h2 h3 h4 (by decide) (by decide) g1 g2 (by decide +kernel) isW_hvc]
  have e1:dK 1342177281=20:=by decide
  have e2:dN 1342177281=1:=by decide
  rw[e1,e2,doM20,h4];rfl
 have hr:=ho.run hst (by decide)
 rw[show ((0:Nat):Int)=0 from rfl,if_pos rfl] at hr
 rw[setDat_self fun m q l h=>(hwk.pg m q l h).2.1] at hr
 rw[hr]
 have hd:KX (W.done 0 s { s with pc:=8 } 2 1) 8 l:=h.done (s':={ s with pc:=8 }) ho h1 h2 h3 (pc':=8) rfl
 have hdo:One (W.done 0 s { s with pc:=8 } 2 1) 0 { s with pc:=8 }:=ho.done
 have hdk:=hd.keys
 refine⟨rfl,?_⟩
 cases l with
 | nil=>
  have hcall:(W.done 0 s { s with pc:=8 } 2 1).call 0 0 1 (({ s with pc:=8 }:Seat).r 1) (({ s with pc:=8 }:Seat).r 2) (({ s with pc:=8 }:Seat).r 3)=(0,2,W.done 0 s { s with pc:=8 } 2 1):=by
   show Wd.nextKey _ 0=_
   unfold Wd.nextKey
   rw[hdk]
  rw[hyper_eq hcall]
  refine⟨⟨⟨_,hdo.ans,h1,h2,h3,rfl⟩,by rw[ans_keys];exact hdk,by rw[ans_own];exact hd.own⟩,told 2 1 0 s.pc { s with pc:=8 },?_⟩
  rw[ans_ev,done_ev,List.append_assoc];rfl
 | cons x l=>
  have hcall:(W.done 0 s { s with pc:=8 } 2 1).call 0 0 1 (({ s with pc:=8 }:Seat).r 1) (({ s with pc:=8 }:Seat).r 2) (({ s with pc:=8 }:Seat).r 3)=(x,0,(W.done 0 s { s with pc:=8 } 2 1).setV 0 (((W.done 0 s { s with pc:=8 } 2 1).vm 0).setKeys l)):=by
   show Wd.nextKey _ 0=_
   unfold Wd.nextKey
   rw[hdk]
  rw[hyper_eq hcall]
  have hdo2:One ((W.done 0 s { s with pc:=8 } 2 1).setV 0 (((W.done 0 s { s with pc:=8 } 2 1).vm 0).setKeys l)) 0 { s with pc:=8 }:=hdo.setV rfl hdo.on hdo.seats
  refine⟨⟨⟨_,hdo2.ans,h1,h2,h3,rfl⟩,?_,by rw[ans_own];exact hd.own⟩,told 2 1 0 s.pc { s with pc:=8 },?_⟩
  ·rw[ans_keys]
   show Bv.keys (upd (W.done 0 s { s with pc:=8 } 2 1).vm 0 (((W.done 0 s { s with pc:=8 } 2 1).vm 0).setKeys l) 0)=_
   rw[upd_at];rfl
  ·rw[ans_ev]
   show (W.done 0 s { s with pc:=8 } 2 1).ev 0++_=_
   rw[done_ev,List.append_assoc];rfl
theorem KX.beq (hwk:WOk W) (h:KX W 8 l):(W.run 0 0).1=0∧KX (W.run 0 0).2 4 l∧∃ x,(W.run 0 0).2.ev 0=W.ev 0++[x]:=by
 obtain⟨s,ho,h1,h2,h3,h4⟩:=h.ex
 obtain⟨g1,g2⟩:=gm_own (n:=0) (by decide) h.own
 have hst:stepM s (W.gm 0) (W.time 0) 0=⟨{ s with pc:=4 },0,0,W.gm 0⟩:=by
  rw[step_of (w:=984154111) h1 h2 h3 h4 (by decide) (by decide) g1 g2 (by decide +kernel) isW_beq]
  have e1:dK 984154111=14:=by decide
  have e2:dN 984154111 = -1:=by decide
  have e3:dA 984154111=dB 984154111:=by decide
  rw[e1,e2,e3,doM14,if_pos rfl,h4];rfl
 have hr:=ho.run hst (by decide)
 rw[show ((0:Nat):Int)=0 from rfl,if_neg (by decide)] at hr
 rw[setDat_self fun m q l h=>(hwk.pg m q l h).2.1] at hr
 rw[hr]
 exact⟨rfl,h.done (s':={ s with pc:=4 }) ho h1 h2 h3 (pc':=4) rfl,_,done_ev⟩
end
end Go.Cr
end
section
namespace Go.Cr
open Go Go.Pt
def le4 (w:Int):List Int:=[w%256,w/256%256,w/65536%256,w/16777216%256]
theorem le4_num {w:Int} (h:0≤w) (h2:w<4294967296):num (le4 w)=w:=by simp only[le4,num];omega
def imgW (l:List Int):List Int:=l.flatMap le4
theorem imgW_len:∀ l:List Int,(imgW l).length=4*l.length
 | []=>rfl
 | a :: l=>by
  have:=imgW_len l
  unfold imgW at this ⊢
  rw[List.flatMap_cons,List.length_append,this,List.length_cons]
  show 4+_=_
  omega
theorem imgW_byt {l:List Int}:Byt (imgW l):=fun x hx=>by
 obtain⟨w,_,h⟩:=List.mem_flatMap.1 hx
 simp only[le4,List.mem_cons,List.not_mem_nil,or_false] at h
 omega
theorem imgW_at:∀ {l:List Int} {i:Nat} {w:Int},l[i]? = some w→((imgW l).drop (4*i)).take 4=le4 w
 | [],i,w,h=>by simp at h
 | a :: l,0,w,h=>by
  simp only[List.getElem?_cons_zero,Option.some.injEq] at h
  subst h
  rfl
 | a :: l,i+1,w,h=>by
  rw[List.getElem?_cons_succ] at h
  have:=imgW_at h
  rw[←this,show imgW (a :: l)=le4 a++imgW l from rfl,show 4*(i+1)=(le4 a).length+4*i by simp only[le4,List.length_cons,List.length_nil];omega,List.drop_append]
  rw[List.drop_of_length_le (by omega),List.nil_append,show (le4 a).length+4*i-(le4 a).length=4*i by omega]
theorem pageW_at {l:List Int} (hl:l.length≤64) {i:Nat} {w:Int} (h:l[i]? = some w):((pageB (imgW l) 0).drop (4*i)).take 4=le4 w:=by
 have hi:=(List.getElem?_eq_some_iff.1 h).1
 have hn:=imgW_len l
 unfold pageB fit256
 have e:(imgW l).take 256=imgW l:=List.take_of_length_le (by omega)
 rw[Nat.mul_zero,List.drop_zero,e,List.drop_append_of_le_length (by omega),List.take_append_of_le_length (by rw[List.length_drop];omega)]
 exact imgW_at h
theorem rtN {k a b c n:Int} (h:Rt k a b c 0) (hn:fN (cls k)=true) (hk:¬(k=18∨k=19)):Rt k a b c n:=⟨h.kk,h.aa,h.bb,h.cc,.inl hn,fun h=>absurd h hk⟩
structure PX (W:Wd) (n:Nat) (ws:List Int) (s:Seat):Prop where
 one:One W n s
 st:s.st=0
 opn:s.opn=false
 base:s.base=0
 own:W.own n 0=some (pageB (imgW ws) 0)
 len:ws.length≤64
section
variable {W:Wd} {n:Nat} {ws:List Int} {s s':Seat} {g:GM} {i:Nat} {k a b c m x y:Int}
theorem PX.run (h:PX W n ws s) (hpc:s.pc=(4*i:Nat)) (hi:ws[i]? = some (wrd k a b c m)) (hb:Bd k a b c m) (hr:Rt k a b c m)
  (hd:doM s (W.gm n) (W.time n) 0 k a b c m=⟨s',x,y,g⟩) (h5:x≠5):W.run n 0=(0,if x=2 then ((W.setDat g.dat).done n s s' x y).hyper n 0 y s' else (W.setDat g.dat).done n s s' x y):=by
 obtain⟨w1,e1,e2,e3,e4,e5⟩:=wrd_is hb hr
 have hw:=wrd_bd hb hr
 have hlt:=(List.getElem?_eq_some_iff.1 hi).1
 have hlen:=h.len
 obtain⟨g1,g2⟩:=gm_own (n:=n) (by decide) h.own
 refine h.one.run ?_ h5
 rw[step_of h.st h.opn h.base hpc (by omega) (by omega) g1 g2 (by rw[pageW_at h.len hi];exact le4_num hw.1 (by omega)) w1,e1,e2,e3,e4,e5,hd]
theorem PX.plain (h:PX W n ws s) (hwk:WOk W) (hpc:s.pc=(4*i:Nat)) (hi:ws[i]? = some (wrd k a b c m)) (hb:Bd k a b c m) (hr:Rt k a b c m)
  (hd:doM s (W.gm n) (W.time n) 0 k a b c m=⟨s',0,y,W.gm n⟩):W.run n 0=(0,W.done n s s' 0 y):=by
 rw[h.run hpc hi hb hr hd (by decide),if_neg (by decide),setDat_self fun m q l h=>(hwk.pg m q l h).2.1]
theorem PX.hvc (h:PX W n ws s) (hwk:WOk W) (hpc:s.pc=(4*i:Nat)) (hi:ws[i]? = some (wrd 20 0 0 0 m)) (h1:0≤m) (h2:m≤255) (hp:s' = { s with pc:=s.pc+4 }) {e v:Int} {W':Wd}
  (hc:(W.done n s s' 2 m).call n 0 m (s'.r 1) (s'.r 2) (s'.r 3)=(v,e,W')):W.run n 0=(0,W'.ans n m e v):=by
 have hlt:=(List.getElem?_eq_some_iff.1 hi).1
 have hlen:=h.len
 have hd:doM s (W.gm n) (W.time n) 0 20 0 0 0 m=⟨s',2,m,W.gm n⟩:=by
  rw[doM20,show x64 m=m by rw[x64_mod];omega,show x64 (s.pc+4)=s.pc+4 by rw[x64_mod];omega,hp]
 have hb:Bd 20 0 0 0 m:=by constructor <;> omega
 rw[h.run hpc hi hb (rtN (by decide) (by decide) (by decide)) hd (by decide),if_pos rfl,setDat_self fun m q l h=>(hwk.pg m q l h).2.1,hyper_eq hc]
theorem PX.done (h:PX W n ws s) (h1:s'.st=0) (h2:s'.opn=false) (h3:s'.base=0):PX (W.done n s s' x y) n ws s':=
 ⟨h.one.done,h1,h2,h3,h.own,h.len⟩
theorem PX.ans {e v:Int} (h:PX W n ws s):PX (W.ans n c e v) n ws (s.answer e v):=
 ⟨h.one.ans,h.st,h.opn,h.base,h.own,h.len⟩
end
def Wd.made (W:Wd) (n:Nat) (seats quota pages:Int) (img:List Int):Wd:=
 { W with free:=W.free-(5+pages),vm:=upd W.vm n (mkV seats quota),time:=upd W.time n 0,ev:=upd W.ev n [],own:=upd W.own n fun p=>if (p:Int)<pages then some (pageB img p) else none }
theorem create_ok {W:Wd} {seats quota pages:Int} {img:List Int} {n:Nat} (h1:¬(seats<1∨3<seats∨quota<1∨32<quota∨pages<1∨quota<pages)) (h2:img.length≤256*pages) (hn:firstOff (fun n=>(W.vm n).on) 6=some n) (hf:5+pages≤W.free) :
  W.create seats quota pages img=((n:Int),0,W.made n seats quota pages img):=by
 unfold Wd.create
 rw[if_neg h1,if_neg (by omega),hn]
 dsimp only
 rw[if_neg (by omega)];rfl
theorem PX.begin {W:Wd} {n:Nat} (hn:n<6) {quota pages:Int} {ws:List Int} (hp:0<pages) (hl:ws.length≤64):PX (W.made n 1 quota pages (imgW ws)) n ws seat0:=by
 refine⟨⟨hn,?_,?_⟩,rfl,rfl,rfl,?_,hl⟩
 ·show Bv.on (upd W.vm n (mkV 1 quota) n)=true
  rw[upd_at];rfl
 ·show Bv.seats (upd W.vm n (mkV 1 quota) n)=[seat0]
  rw[upd_at];rfl
 ·show upd W.own n _ n 0=_
  rw[upd_at,if_pos (by omega)]
theorem run00 {W:Wd} {a:Int} {X:Wd} (h:W.run ((0:Nat):Int) 0=(a,X)):(W.run 0 0).2=X:=by
 rw[show ((0:Nat):Int)=0 from rfl] at h
 rw[h]
theorem x64_id {n:Int} (h:0≤n) (h2:n<18446744073709551616):x64 n=n:=by rw[x64_mod];omega
theorem small_id {n:Int} (h:n≤65535):small n=n:=if_neg (by omega)
end Go.Cr
end
section
namespace Go.Cr
open Go Go.Pt
theorem ishr32 {a s:Nat} (hs:s≤31):ishr .u32 (a:Int) (s:Int)=((a/2 ^ s:Nat):Int):=by
 unfold ishr
 have e:min ((s:Int)).toNat IntKind.u32.bits=s:=by
  show min ((s:Int)).toNat 32=s
  simp;omega
 rw[e]
 have e2:((2:Int) ^ s)=((2 ^ s:Nat):Int):=by push_cast;rfl
 rw[e2,Int.fdiv_eq_ediv_of_nonneg _ (Int.natCast_nonneg _)]
 exact (Int.natCast_ediv _ _).symm
theorem le4_b {w:Int} (h0:0≤w):[Value.int .u8 (IntKind.u8.wrap w),.int .u8 (IntKind.u8.wrap (ishr .u32 w 8)),.int .u8 (IntKind.u8.wrap (ishr .u32 w 16)),.int .u8 (IntKind.u8.wrap (ishr .u32 w 24))]=bL (le4 w):=by
 obtain⟨a,rfl⟩:∃ a:Nat,w=a:=⟨w.toNat,by omega⟩
 have e8:=ishr32 (a:=a) (s:=8) (by decide)
 have e16:=ishr32 (a:=a) (s:=16) (by decide)
 have e24:=ishr32 (a:=a) (s:=24) (by decide)
 rw[show ((8:Nat):Int)=8 from rfl] at e8
 rw[show ((16:Nat):Int)=16 from rfl] at e16
 rw[show ((24:Nat):Int)=24 from rfl] at e24
 rw[e8,e16,e24,u8_mod,u8_mod,u8_mod,u8_mod,Int.natCast_ediv,Int.natCast_ediv,Int.natCast_ediv];rfl
end Go.Cr
namespace Go.Proofs.YtabdpmnhjlmnlaaGreatDoor
open Go Go.Pt Go.Cr Go.Hp
section
variable {S S':Mem} {ρ:Rho}
theorem imgW_app {l:List Int} {i:Nat} (h:i<l.length):imgW (l.take (i+1))=imgW (l.take i)++le4 l[i]:=by
 unfold imgW
 rw[List.take_succ_eq_append_getElem h,List.flatMap_append,List.flatMap_cons,List.flatMap_nil,List.append_nil]
theorem img_loop {b:Nat} {ws:List Int} (hb:S b=some (bw 41 (ws.map (Value.int .u32)))) (hw:∀ w∈ws,0≤w) (hl:ws.length≤64) {m:Int} (hm:m=ws.length) {K:Sl×Int→Mem→Prop}
  (hK:∀ p i S',Keeps S S' []→Row S' 1 p (bL (imgW ws))→(∀ c o,p.p=some (c,o)→S c=none)→K (p,i) S') :
  lp (fun Xx (z:Sl×Int) (Sx_18:Mem)=>
        if z.2<m then
          0≤z.2∧z.2<m ∧
          gI (Sx_18.cell b (0+z.2.toNat*1)) .u32 fun t_16=>
          0≤z.2∧z.2<m ∧
          gI (Sx_18.cell b (0+z.2.toNat*1)) .u32 fun t_17=>
          0≤z.2∧z.2<m ∧
          gI (Sx_18.cell b (0+z.2.toNat*1)) .u32 fun t_18=>
          0≤z.2∧z.2<m ∧
          gI (Sx_18.cell b (0+z.2.toNat*1)) .u32 fun t_19=>
          ap Sx_18 5 1 1 [.int .u8 0] z.1 4 ([.int .u8 (IntKind.u8.wrap t_16),.int .u8 (IntKind.u8.wrap (ishr .u32 t_17 8)),.int .u8 (IntKind.u8.wrap (ishr .u32 t_18 16)),.int .u8 (IntKind.u8.wrap (ishr .u32 t_19 24))]) fun t_20 Sx_20=>
          Sx_20.cell b (0+z.2.toNat*1)=some (.int .u32 t_19) ∧
          Sx_20.cell b (0+z.2.toNat*1)=some (.int .u32 t_18) ∧
          Sx_20.cell b (0+z.2.toNat*1)=some (.int .u32 t_17) ∧
          Sx_20.cell b (0+z.2.toNat*1)=some (.int .u32 t_16) ∧
          Xx (t_20,IntKind.i64.wrap (z.2+1)) Sx_20
        else
        K z Sx_18) (⟨none,0,0⟩,0) S:=by
 subst hm
 refine lp_rule (fun (z:Sl×Int) S'=>∃ i:Nat,z.2=(i:Int)∧i≤ws.length∧Keeps S S' []∧Row S' 1 z.1 (bL (imgW (ws.take i)))∧∀ c o,z.1.p=some (c,o)→S c=none) (fun z=>ws.length-z.2.toNat) ?_ ⟨0,rfl,Nat.zero_le _,Keeps.refl,Row.nil,fun c o h=>by cases h⟩
 rintro X ⟨p,z⟩ S1 ⟨i,hz,hi,hk,hrow,hf⟩ ih
 dsimp only at hz hrow hf ih ⊢
 subst hz
 by_cases hlt:(i:Int)<(ws.length:Int)
 ·rw[if_pos hlt]
  have hil:i<ws.length:=by omega
  have hb1:S1 b=some (bw 41 (ws.map (Value.int .u32))):=by rw[hk b (by rw[hb];simp) (by simp)];exact hb
  have hcell:∀ S2:Mem,S2 b=some (bw 41 (ws.map (Value.int .u32)))→S2.cell b (0+(i:Int).toNat*1)=some (.int .u32 ws[i]):=fun S2 h2=>by
   rw[cell_of h2,nthL_eq]
   show (ws.map (Value.int .u32))[0+(i:Int).toNat*1]? = _
   rw[show 0+(i:Int).toNat*1=i by omega,List.getElem?_map,List.getElem?_eq_getElem hil];rfl
  refine⟨by omega,hlt,?_⟩
  rw[gI_i (hcell S1 hb1)]
  refine⟨by omega,hlt,?_⟩
  rw[gI_i (hcell S1 hb1)]
  refine⟨by omega,hlt,?_⟩
  rw[gI_i (hcell S1 hb1)]
  refine⟨by omega,hlt,?_⟩
  rw[gI_i (hcell S1 hb1)]
  rw[le4_b (hw _ (List.getElem_mem hil))]
  have hn:p.n=4*i:=by
   have:=hrow.len
   unfold bL at this
   rw[List.length_map,imgW_len,List.length_take] at this
   omega
  refine ap_row hrow rfl (by decide) rfl (by omega) fun t S2 c kb e1 e2 e3 e4 e5=>?_
  have hc:S c=none:=by
   rcases e3 with e3 | e3
   ·exact hf c 0 e3
   ·cases hs:S c with
    | none=>rfl
    | some x=>rw[hk c (by rw[hs];simp) (by simp),hs] at e3;cases e3
  have hcb:b≠c:=fun e=>by rw[←e,hb] at hc;cases hc
  have hb2:S2 b=some (bw 41 (ws.map (Value.int .u32))):=by rw[e4,set_ne hcb];exact hb1
  refine⟨hcell S2 hb2,hcell S2 hb2,hcell S2 hb2,hcell S2 hb2,?_⟩
  rw[w64 (by omega) (by omega)]
  refine ih _ _ ⟨i+1,by dsimp only;omega,by omega,by rw[e4];exact hk.fresh hc,?_,fun c' o' e'=>?_⟩ (by dsimp only;omega)
  ·dsimp only
   rw[imgW_app hil]
   unfold bL at e5 ⊢
   rw[List.map_append];exact e5
  ·rw[e2] at e';cases e';exact hc
 ·rw[if_neg hlt]
  have:i=ws.length:=by omega
  subst this
  rw[List.take_length] at hrow
  exact hK p _ S1 hk hrow hf
theorem img_row {p:Sl} {xs:List Int} (hx:Byt xs) (hr:Row S' 1 p (bL xs)) (hf:∀ c o,p.p=some (c,o)→ρ c=none):ImgAt S' ρ p xs:=by
 have hn:=hr.len
 unfold bL at hn
 rw[List.length_map,Nat.mul_one] at hn
 refine⟨hn,hr.cap,hx,?_⟩
 rcases hr.lie with ⟨h1,h2⟩ | ⟨b,k,h1,h2,h3,h4,h5⟩
 ·left
  have:=hr.cap
  cases xs with
  | nil=>rfl
  | cons a l=>simp at hn;omega
 ·right
  have:=hr.part h1
  rw[Nat.mul_one,←hn] at this
  exact⟨b,0,h1,this,hf b 0 h1,by rw[h2];simp⟩
theorem Lv.wok {S0:Mem} {ρ0:Rho} {h:Nat} {W:Wd} (l:Lv S0 ρ0 h S W):WOk W:=by
 obtain⟨_,_,_,_,_,_,hr⟩:=l
 exact hr.wk
end
end Go.Proofs.YtabdpmnhjlmnlaaGreatDoor
end
section
namespace Go.Cr
open Go Go.Pt
def pgW:List Int:=[wrd 1 5 0 0 1,wrd 3 1 5 8 0,wrd 20 0 0 0 9,wrd 11 5 5 0 1,wrd 14 10 10 0 (-3)]
def se (r0 r1 r5 pc:Int):Seat:={ seat0 with R:=[r0,r1,0,0,0,r5,0,0,0,0,0,0,0,0,0,0],pc:=pc }
structure GX (q:Int) (W:Wd) (s:Seat) (m:Nat):Prop where
 px:PX W 0 pgW s
 quota:(W.vm 0).quota=q
 own:∀ p,p<32→(W.own 0 p).isSome=decide (p<m)
 ls:∀ i,(W.ls i).on=false
 free:W.free=51-m
section
variable {q:Int} {W W':Wd} {s s':Seat} {m m' i:Nat}
theorem GX.done (h:GX q W s m) {x y:Int} (h1:s'.st=0) (h2:s'.opn=false) (h3:s'.base=0):GX q (W.done 0 s s' x y) s' m:=
 ⟨h.px.done h1 h2 h3,by rw[done_vm,if_pos rfl];exact h.quota,h.own,h.ls,h.free⟩
theorem GX.ans (h:GX q W s m) {c e x:Int}:GX q (W.ans 0 c e x) (s.answer e x) m:=
 ⟨h.px.ans,by rw[ans_vm,if_pos rfl];exact h.quota,h.own,h.ls,h.free⟩
theorem GX.plain (h:GX q W s m) (hwk:WOk W) (hpc:s.pc=(4*i:Nat)) {o a b c n y:Int} (hi:pgW[i]? = some (wrd o a b c n)) (hb:Bd o a b c n) (hr:Rt o a b c n)
  (hd:doM s (W.gm 0) (W.time 0) 0 o a b c n=⟨s',0,y,W.gm 0⟩) (h1:s'.st=0) (h2:s'.opn=false) (h3:s'.base=0):GX q (W.run 0 0).2 s' m:=by
 rw[run00 (h.px.plain hwk hpc hi hb hr hd)]
 exact h.done h1 h2 h3
theorem count_lt {f:Nat→Bool} {m n:Nat} (hm:m≤n) (h:∀ p,p<n→f p=decide (p<m)):count f n=m:=by
 unfold count
 have e:(List.range n).filter f=List.range m:=by
  rw[show n=m+(n-m) by omega,List.range_add,List.filter_append]
  have e1:(List.range m).filter f=List.range m:=List.filter_eq_self.2 fun p hp=>by
   rw[List.mem_range] at hp
   rw[h p (by omega)];exact decide_eq_true hp
  have e2:((List.range (n-m)).map fun x=>m+x).filter f=[]:=List.filter_eq_nil_iff.2 fun p hp=>by
   obtain⟨x,hx,rfl⟩:=List.mem_map.1 hp
   rw[List.mem_range] at hx
   rw[h (m+x) (by omega)]
   simp
  rw[e1,e2,List.append_nil]
 rw[e,List.length_range]
theorem GX.pages (h:GX q W s m) (hm:m≤32):W.pages 0=m:=count_lt hm h.own
theorem GX.get (h:GX q W s m) (hq:q≤32) (hmq:m≤q) {p:Nat} (hp:m≤p) (hp2:p<32):∃ e,(W.get 0 p).1=e∧GX q (W.get 0 p).2 s (if (m:Int)<q then (if p=m then m+1 else m) else m)∨(m:Int)<q∧p≠m:=by
 by_cases hpm:(m:Int)<q∧p≠m
 ·exact⟨0,.inr hpm⟩
 have hw:W.where_ 0 (p:Int).toNat=none:=by
  unfold Wd.where_
  rw[Int.toNat_natCast,h.own p hp2,if_neg (by simp;omega)]
  have:leaseAt W.ls 0 p=none:=by
   unfold leaseAt
   rw[List.find?_eq_none]
   intro i _
   rw[h.ls i];simp
  rw[this];rfl
 refine⟨_,.inl ⟨rfl,?_⟩⟩
 unfold Wd.get
 rw[if_neg (by omega),if_neg (by rw[hw];simp),h.pages (by omega),h.quota]
 by_cases hlt:(m:Int)<q
 ·have e:p=m:=by
   by_cases e:p=m
   ·exact e
   ·exact absurd ⟨hlt,e⟩ hpm
  subst e
  have hf:=h.free
  rw[if_neg (by omega),if_neg (by omega),if_pos hlt,if_pos rfl,Int.toNat_natCast]
  refine⟨⟨⟨h.px.one.lt,h.px.one.on,h.px.one.seats⟩,h.px.st,h.px.opn,h.px.base,?_,h.px.len⟩,h.quota,fun x hx=>?_,h.ls,?_⟩
  ·show upd W.own 0 (upd (W.own 0) p (some noughts)) 0 0=_
   rw[upd_at,upd_of,h.px.own]
   intro e0
   have:=h.own 0 (by decide)
   rw[h.px.own] at this
   simp at this
   omega
  ·show (upd W.own 0 (upd (W.own 0) p (some noughts)) 0 x).isSome=_
   rw[upd_at]
   by_cases e:x=p
   ·subst e;rw[upd_at];simp
   ·rw[upd_of e,h.own x hx]
    by_cases h1:x<p
    ·rw[decide_eq_true h1,decide_eq_true (by omega)]
    ·rw[decide_eq_false h1,decide_eq_false (by omega)]
  ·show W.free-1=_
   rw[hf];omega
 ·rw[if_pos (by omega),if_neg hlt]
  exact h
theorem GX.hvc (h:GX q W s m) (hwk:WOk W) (hpc:s.pc=(4*i:Nat)) {n:Int} (hi:pgW[i]? = some (wrd 20 0 0 0 n)) (h1:0≤n) (h2:n≤255) (hs:s' = { s with pc:=s.pc+4 }) {e x:Int}
  (hc:(W.done 0 s s' 2 n).call 0 0 n (s'.r 1) (s'.r 2) (s'.r 3)=(x,e,W')) (hW:GX q (W.done 0 s s' 2 n) s' m→GX q W' s' m'):GX q (W.run 0 0).2 (s'.answer e x) m':=by
 rw[run00 (h.px.hvc hwk hpc hi h1 h2 hs hc)]
 exact (hW (h.done (by rw[hs];exact h.px.st) (by rw[hs];exact h.px.opn) (by rw[hs];exact h.px.base))).ans
def gM (q:Int) (j:Nat):Nat:=min (1+j) q.toNat
def GXi (q:Int) (j i:Nat) (W:Wd):Prop:=∃ r0 r1:Int,
 GX q W (if i=0 then se r0 r1 (j+1) 4 else if i=1 then se r0 (j+1) (j+1) 8 else if i=2 then se r0 r1 (j+1) 12 else se r0 r1 (j+2) 16) (gM q (if i≤1 then j else j+1))
theorem gM_q (hq:1≤q) {j:Nat}:(gM q j:Int)≤q:=by unfold gM;omega
theorem GXi.s0 (hq:1≤q∧q≤32) (hwk:WOk W) (h:GX q W seat0 1):GXi q 0 0 (W.run 0 0).2:=by
 refine⟨0,0,?_⟩
 rw[if_pos rfl,if_pos (by decide),show gM q 0=1 by unfold gM;omega]
 refine h.plain (i:=0) (y:=0) hwk rfl rfl (by constructor <;> omega) (rtN (by decide) (by decide) (by decide)) ?_ rfl rfl rfl
 rw[doM1];rfl
theorem GXi.s1 (hwk:WOk W) {j:Nat} (hj:j≤20) (h:GXi q j 0 W):GXi q j 1 (W.run 0 0).2:=by
 obtain⟨r0,r1,h⟩:=h
 rw[if_pos rfl,if_pos (by decide)] at h
 refine⟨r0,r1,?_⟩
 rw[if_neg (by decide),if_pos rfl,if_pos (by decide)]
 refine h.plain (i:=1) (y:=0) hwk rfl rfl (by constructor <;> omega) (by decide) ?_ rfl rfl rfl
 rw[doM3,show x64 ((se r0 r1 (↑j+1) 4).r 5+(se r0 r1 (↑j+1) 4).r 8)=(j:Int)+1 from x64_id (by show (0:Int)≤(j:Int)+1+0;omega) (by show (j:Int)+1+0<_;omega) |>.trans (by show (j:Int)+1+0=_;omega)];rfl
theorem GXi.s2 (hq:1≤q∧q≤32) (hwk:WOk W) {j:Nat} (hj:j<20) (h:GXi q j 1 W):GXi q j 2 (W.run 0 0).2:=by
 obtain⟨r0,r1,h⟩:=h
 rw[if_neg (by decide),if_pos rfl,if_pos (by decide)] at h
 have hd:GX q (W.done 0 (se r0 (j+1) (j+1) 8) (se r0 (j+1) (j+1) 12) 2 9) (se r0 (j+1) (j+1) 12) (gM q j):=h.done rfl rfl rfl
 have hg:=hd.get hq.2 (gM_q hq.1) (p:=j+1) (by unfold gM;omega) (by omega)
 obtain⟨e,⟨he,hg⟩ | hg⟩:=hg
 ·have hc:(W.done 0 (se r0 (j+1) (j+1) 8) (se r0 (j+1) (j+1) 12) 2 9).call 0 0 9 ((se r0 (j+1) (j+1) 12).r 1) ((se r0 (j+1) (j+1) 12).r 2) ((se r0 (j+1) (j+1) 12).r 3)=(0,e,((W.done 0 (se r0 (j+1) (j+1) 8) (se r0 (j+1) (j+1) 12) 2 9).get 0 ((j+1:Nat):Int)).2):=by
   show ((0:Int),Wd.get _ 0 (small ((j:Int)+1)))=_
   rw[small_id (by omega),←he,show (j:Int)+1=((j+1:Nat):Int) by omega]
  have:=h.hvc (i:=2) (n:=9) (s':=se r0 (j+1) (j+1) 12) hwk rfl rfl (by decide) (by decide) rfl hc fun _=>hg
  refine⟨e,0,?_⟩
  rw[if_neg (by decide),if_neg (by decide),if_pos rfl,if_neg (by decide)]
  have em:(if ((gM q j:Nat):Int)<q then (if j+1=gM q j then gM q j+1 else gM q j) else gM q j)=gM q (j+1):=by
   unfold gM
   split
   ·rw[if_pos (by omega)];omega
   ·omega
  rw[em] at this
  exact this
 ·exfalso
  have:=hg.2
  have:=hg.1
  unfold gM at *
  omega
theorem GXi.s3 (hwk:WOk W) {j:Nat} (hj:j<20) (h:GXi q j 2 W):GXi q j 3 (W.run 0 0).2:=by
 obtain⟨r0,r1,h⟩:=h
 rw[if_neg (by decide),if_neg (by decide),if_pos rfl,if_neg (by decide)] at h
 refine⟨r0,r1,?_⟩
 rw[if_neg (by decide),if_neg (by decide),if_neg (by decide),if_neg (by decide)]
 refine h.plain (i:=3) (y:=0) hwk rfl rfl (by constructor <;> omega) (rtN (by decide) (by decide) (by decide)) ?_ rfl rfl rfl
 rw[doM11,show x64 ((se r0 r1 (↑j+1) 12).r 5+x64 1)=(j:Int)+2 from by
  rw[x64_id (n:=1) (by decide) (by decide)]
  exact (x64_id (by show (0:Int)≤(j:Int)+1+1;omega) (by show (j:Int)+1+1<_;omega)).trans (by show (j:Int)+1+1=_;omega)];rfl
theorem GXi.s4 (hwk:WOk W) {j:Nat} (h:GXi q j 3 W):GXi q (j+1) 0 (W.run 0 0).2:=by
 obtain⟨r0,r1,h⟩:=h
 rw[if_neg (by decide),if_neg (by decide),if_neg (by decide),if_neg (by decide)] at h
 refine⟨r0,r1,?_⟩
 rw[if_pos rfl,if_pos (by decide),show ((j+1:Nat):Int)+1=(j:Int)+2 by omega]
 refine h.plain (i:=4) (y:=0) hwk rfl rfl (by constructor <;> omega) (rtN (by decide) (by decide) (by decide)) ?_ rfl rfl rfl
 rw[doM14,if_pos rfl];rfl
def pgA (q:Int):Wd:=(W0 56).made 0 1 q 1 (imgW pgW)
theorem pg_c (hq:1≤q∧q≤32):(W0 56).create 1 q 1 (imgW pgW)=(0,0,pgA q):=create_ok (n:=0) (by omega) (by rw[imgW_len];decide) (by decide) (by decide)
theorem pg_0:GX q (pgA q) seat0 1:=by
 refine⟨PX.begin (by decide) (by decide) (by decide),rfl,fun p hp=>?_,fun _=>rfl,rfl⟩
 show (upd (W0 56).own 0 (fun p=>if (p:Int)<1 then some (pageB (imgW pgW) p) else none) 0 p).isSome=_
 rw[upd_at]
 by_cases h:p<1
 ·rw[if_pos (by omega),decide_eq_true h];rfl
 ·rw[if_neg (by omega),decide_eq_false h];rfl
end
end Go.Cr
end
section
namespace Go.Proofs.YtabdpmnhjlmnlaaGreatDoor
open Go Go.Pt
attribute [local irreducible] Code.wp Back bodyPost wpList FR WL WC WQ WA AW Tr Yc HC AllC
set_option maxRecDepth 20000
set_option maxHeartbeats 4000000
set_option linter.unusedVariables false
def b_crab_Crab_Destroy (S:Mem) (h:Pt) (vm:Int) (Q:Int→Mem→Prop):Prop:=
 jn (fun (Sx:Mem)=>
 jn (fun (Sx_1:Mem)=>
 nn h fun b o=>
 gP (Sx_1.cell b (o+3)) fun t=>
 nn t fun b_1 o_1=>
 0≤vm∧vm<6 ∧
 gA (Sx_1.part b_1 (o_1+2+vm.toNat*12+2) 2) fun t_1=>
 t_1.all (·.oneCell')=true ∧
 gP (Sx_1.cell b o) fun t_2=>
 table_Table_All Sx_1 t_1 t_2 fun t_3 t_4 Sx_2=>
 jn (fun (Sx_3:Mem)=>
 jn (fun (Sx_4:Mem)=>
 cache_Cache_DropVM Sx_4 (some (b,o+2)) vm fun Sx_5=>
 gP (Sx_5.cell b (o+3)) fun t_5=>
 nn t_5 fun b_3 o_2=>
 gP (Sx_5.cell b_3 (o_2+171)) fun t_6=>
 alarm_Clock_DropVM Sx_5 t_6 vm fun Sx_6=>
 gP (Sx_6.cell b (o+3)) fun t_7=>
 nn t_7 fun b_4 o_3=>
 0≤vm∧vm<6 ∧
 pt Sx_6 b_4 (o_3+2+vm.toNat*12) 12 ([.bool false,.slice (none) 0 0,.int .i64 0,.slice (none) 0 0,.int .i64 0,.int .u64 0,.slice (none) 0 0,.slice (none) 0 0,.slice (none) 0 0,.slice (none) 0 0,.slice (none) 0 0,.int .u32 0]) fun Sx_7=>
 jn (fun (Sx_8:Mem)=>
 Q 0 Sx_8) fun Jx=>
 lp (fun Xx (t_8:Int) (Sx_9:Mem)=>
 if t_8<6 then
 gP (Sx_9.cell b (o+3)) fun t_9=>
 nn t_9 fun b_5 o_4=>
 0≤t_8∧t_8<6 ∧
 gI (Sx_9.cell b_5 (o_4+2+t_8.toNat*12+11)) .u32 fun t_10=>
 0≤vm ∧
 0≤t_8∧t_8<6 ∧
 pt Sx_9 b_5 (o_4+2+t_8.toNat*12+11) 1 ([.int .u32 (iandn .u32 t_10 (ishl .u32 1 vm))]) fun Sx_10=>
 Xx (IntKind.i64.wrap (t_8+1)) Sx_10
 else
 Jx Sx_9) 0 Sx_7) fun Jx_1=>
 gL (nthL t_1 1) fun t_11=>
 lp (fun Xx_1 (t_12:Int) (Sx_11:Mem)=>
 if t_12<(t_11.n:Int) then
 sl t_11 fun b_6 o_5 n n_1=>
 0≤t_12∧t_12<((n:Nat):Int) ∧
 gI (Sx_11.cell b_6 (o_5+t_12.toNat*1)) .i64 fun t_13=>
 gP (Sx_11.cell b (o+3)) fun t_14=>
 nn t_14 fun b_7 o_6=>
 gP (Sx_11.cell b_7 (o_6+74)) fun t_15=>
 owner_Book_Release Sx_11 t_15 t_13 fun t_16 Sx_12=>
 gP (Sx_12.cell b (o+1)) fun t_17=>
 pool_Pool_Give Sx_12 t_17 t_13 fun t_18 Sx_13=>
 Xx_1 (IntKind.i64.wrap (t_12+1)) Sx_13
 else
 Jx_1 Sx_11) 0 Sx_3) fun Jx_2=>
 lp (fun Xx_2 (t_19:Int) (Sx_14:Mem)=>
 if t_19<(t_4.n:Int) then
 sl t_4 fun b_8 o_7 n_2 n_3=>
 0≤t_19∧t_19<((n_2:Nat):Int) ∧
 gA (Sx_14.part b_8 (o_7+t_19.toNat*3) 3) fun t_20=>
 t_20.all (·.oneCell')=true ∧
 gP (Sx_14.cell b (o+3)) fun t_21=>
 nn t_21 fun b_10 o_8=>
 gP (Sx_14.cell b_10 (o_8+74)) fun t_22=>
 gI (nthL t_20 1) .i64 fun t_23=>
 owner_Book_Reclaim Sx_14 t_22 t_23 vm fun t_24 Sx_15=>
 Sx_15.cell b (o+3)=some (.pointer (some ⟨b_10,o_8,none⟩)) ∧
 gP (Sx_15.cell b (o+1)) fun t_25=>
 gI (nthL t_20 1) .i64 fun t_26=>
 pool_Pool_Give Sx_15 t_25 t_26 fun t_27 Sx_16=>
 Xx_2 (IntKind.i64.wrap (t_19+1)) Sx_16
 else
 Jx_2 Sx_14) 0 Sx_2) fun Jx_3=>
 nn h fun b_11 o_9=>
 gP (Sx.cell b_11 (o_9+3)) fun t_28=>
 nn t_28 fun b_12 o_10=>
 gA (Sx.part b_12 (o_10+75) 96) fun t_29=>
 lease_Book_Of Sx t_29 vm fun t_30 Sx_17=>
 lp (fun Xx_3 (t_31:Int) (Sx_18:Mem)=>
 if t_31<(t_30.n:Int) then
 sl t_30 fun b_13 o_11 n_4 n_5=>
 0≤t_31∧t_31<((n_4:Nat):Int) ∧
 gI (Sx_18.cell b_13 (o_11+t_31.toNat*1)) .i64 fun t_32=>
 crab_Crab_end Sx_18 (some (b_11,o_9)) t_32 fun Sx_19=>
 Xx_3 (IntKind.i64.wrap (t_31+1)) Sx_19
 else
 Jx_3 Sx_18) 0 Sx_17) fun Jx_4=>
 if h=none then
 Q 2 S
 else
 nn h fun b_14 o_12=>
 gP (S.cell b_14 (o_12+3)) fun t_33=>
 guest_State_There S t_33 vm fun t_34 Sx_20=>
 if t_34=true then
 Jx_4 Sx_20
 else
 Q 2 Sx_20
theorem t_crab_Crab_Destroy {S:Mem} {h:Pt} {vm:Int} {Q:Int→Mem→Prop} (H:b_crab_Crab_Destroy S h vm Q):crab_Crab_Destroy S h vm Q:=by
 unfold b_crab_Crab_Destroy at H
 exact Tr.intro Tryz.func38 E Tryz.ntmps38 E fun w0=>csr<|gv E E<|nx<|c_join2 H (fun (J:Mem→Prop) (z:Unit) S=>J S) (fun z=>⟨155,[(0,eP h),(1,.int .i64 vm)]⟩) (fun z=>[]) (fun _ Sx H1=>c_join2 H1 (fun (J:Mem→Prop) (z:Unit) S=>J S) (fun z=>⟨155,[(0,eP h),(1,.int .i64 vm)]⟩) (fun z=>[]) (fun _ Sx_1 H2=>csr<|mv E E<|by obtain⟨b,o,rfl,H3⟩:=H2;exact s_p E (y_nc E)<|s_p E (y_fa E E)<|gx H3 fun t ht H4=>s_v E (y_ld E) (hc_S ht)<|mv E E<|by obtain⟨b_1,o_1,rfl,H5⟩:=H4;exact s_p E (y_nc E)<|s_p E (y_fa E E)<|an2 H5 fun c c_1 H6=>s_p E (y_ixA E E c c_1 E)<|s_p E (y_fa E E)<|gx H6 fun t_1 ht_1 H7=>by refine s_v E (y_ldA E (part_len ht_1)) (hc_SP ht_1) ?_;exact by refine s_alloc E fun b_2=>?_;exact an H7 fun c_2 H8=>s_stV_all 0 E E E E E (part_len ht_1) E c_2<|nx<|c_seq<|c_drawn (by kernel_rfl)<|by refine aT 0 E (by decide +kernel) E (y_ldA E (part_len ht_1)) (hc_VP (k:=2) 0 E (lpart_all (part_len ht_1))) ?_;exact aTP 1 E (by decide +kernel) E (y_move E)<|by exact aTP 2 E (by decide +kernel) E (y_nc E)<|by exact aTP 3 E (by decide +kernel) E (y_fa E E)<|by exact gx H8 fun t_2 ht_2 H9=>aT 4 E (by decide +kernel) E (y_ld E) (hc_S ht_2)<|by exact a_step 5 (by decide +kernel) E<|by exact s_k2 E E H9 fun t_3 t_4 Sx_2 H10=>s_nil<|q_any ac_nil<|aTP 6 E (by decide +kernel) E (y_move E)<|by exact aTP 7 E (by decide +kernel) E (y_extract E E)<|by exact aTP 8 E (by decide +kernel) E (y_extract E E)<|by exact aTP 9 E (by decide +kernel) E (y_assign E)<|by exact aTP 10 E (by decide +kernel) E (y_assign E)<|by exact a_done (by decide +kernel)<|by exact q_then<|c_join2 H10 (fun (J:Mem→Prop) (z:Unit) S=>J S) (fun z=>⟨155,[(0,.pointer (some ⟨b,o,none⟩)),(1,.int .i64 vm),(7,.pointer (some ⟨b_2,0,none⟩))]⟩) (fun z=>[⟨b_2,63,t_1⟩]) (fun _ Sx_3 H11=>c_join2 H11 (fun (J:Mem→Prop) (z:Unit) S=>J S) (fun z=>⟨155,[(0,.pointer (some ⟨b,o,none⟩)),(1,.int .i64 vm)]⟩) (fun z=>[]) (fun _ Sx_4 H12=>csr<|mv E E<|s_p E (y_nc E)<|s_p E (y_fa E E)<|mv E E<|s_k0 E E H12 fun Sx_5 H13=>nxr<|mv E E<|s_p E (y_nc E)<|s_p E (y_fa E E)<|gx H13 fun t_5 ht_5 H14=>s_v E (y_ld E) (hc_S ht_5)<|by obtain⟨b_3,o_2,rfl,H15⟩:=H14;exact s_p E (y_nc E)<|s_p E (y_fa E E)<|gx H15 fun t_6 ht_6 H16=>s_v E (y_ld E) (hc_S ht_6)<|mv E E<|s_k0 E E H16 fun Sx_6 H17=>nxr<|mv E E<|s_p E (y_nc E)<|s_p E (y_fa E E)<|gx H17 fun t_7 ht_7 H18=>s_v E (y_ld E) (hc_S ht_7)<|mv E E<|s_p E (y_build E E)<|by exact by obtain⟨b_4,o_3,rfl,H19⟩:=H18;exact s_p E (y_nc E)<|s_p E (y_fa E E)<|an2 H19 fun c_3 c_4 H20=>s_p E (y_ixA E E c_3 c_4 E)<|an H20 fun c_5 H21=>s_stS E E E E E c_5 E<|nx<|c_join2 H21 (fun (J:Mem→Prop) (z:Unit) S=>J S) (fun z=>⟨155,[]⟩) (fun z=>[]) (fun _ Sx_8 H22=>csr<|gv E E<|nx<|c_ret<|q_ret Tryz.results38 (rv_tmp E rv_nil) ⟨_,E,H22⟩) (fun Jx hJx H23=>csr<|mv E E<|nx<|c_block<|c_loop (fun z=>⟨155,[(0,.pointer (some ⟨b,o,none⟩)),(1,.int .i64 vm),(134,.int .i64 z)]⟩) (fun z=>[]) 0 (idx:=[]) H23 E ⟨E,E,E,True.intro⟩ E<|fun Xx hXx t_8 Sx_9 H24=>csr<|iteK H24 (fun c_6 H25=>s_p E (yT (y_lss E E) c_6)<|nx<|c_seq<|c_t E E<|c_skip<|q_then<|c_seq<|c_block<|csr<|mv E E<|gv E E<|nx<|c_drawn (by kernel_rfl)<|a_takeP 0 E (by decide +kernel) (np_blk (np_then (np_then (np_blk (np_then np_body))))) E (y_move E)<|by exact a_takeP 1 E (by decide +kernel) (np_blk (np_then (np_then (np_blk (np_then np_body))))) E (y_nc E)<|by exact a_takeP 2 E (by decide +kernel) (np_blk (np_then (np_then (np_blk (np_then np_body))))) E (y_fa E E)<|by exact gx H25 fun t_9 ht_9 H26=>a_take 3 E (by decide +kernel) (np_blk (np_then (np_then (np_blk (np_then np_body))))) E (y_ld E) (hc_S ht_9)<|by exact a_takeP 4 E (by decide +kernel) (np_blk (np_then (np_then (np_blk (np_then np_body))))) E (y_move E)<|by exact by obtain⟨b_5,o_4,rfl,H27⟩:=H26;exact a_takeP 5 E (by decide +kernel) (np_blk (np_then (np_then (np_blk (np_then np_body))))) E (y_nc E)<|by exact a_takeP 6 E (by decide +kernel) (np_blk (np_then (np_then (np_blk (np_then np_body))))) E (y_fa E E)<|by exact an2 H27 fun c_7 c_8 H28=>a_takeP 7 E (by decide +kernel) (np_blk (np_then (np_then (np_blk (np_then np_body))))) E (y_ixA E E c_7 c_8 E)<|by exact a_takeP 8 E (by decide +kernel) (np_blk (np_then (np_then (np_blk (np_then np_body))))) E (y_fa E E)<|by exact gx H28 fun t_10 ht_10 H29=>a_take 9 E (by decide +kernel) (np_blk (np_then (np_then (np_blk (np_then np_body))))) E (y_ld E) (hc_S ht_10)<|by exact a_takeP 10 E (by decide +kernel) (np_blk (np_then (np_then (np_blk (np_then np_body))))) E (y_move E)<|by exact an H29 fun c_9 H30=>a_takeP 11 E (by decide +kernel) (np_blk (np_then (np_then (np_blk (np_then np_body))))) E (y_shl E E c_9)<|by exact a_takeP 12 E (by decide +kernel) (np_blk (np_then (np_then (np_blk (np_then np_body))))) E (y_andn E E)<|by exact a_takeP 13 E (by decide +kernel) (np_blk (np_then (np_then (np_blk (np_then np_body))))) E (y_nc E)<|by exact a_takeP 14 E (by decide +kernel) (np_blk (np_then (np_then (np_blk (np_then np_body))))) E (y_fa E E)<|by exact an2 H30 fun c_10 c_11 H31=>a_takeP 15 E (by decide +kernel) (np_blk (np_then (np_then (np_blk (np_then np_body))))) E (y_ixA E E c_10 c_11 E)<|by exact a_takeP 16 E (by decide +kernel) (np_blk (np_then (np_then (np_blk (np_then np_body))))) E (y_fa E E)<|by exact a_step 17 (by decide +kernel) E<|by exact an H31 fun c_12 H32=>s_stS E E E E E c_12 E<|s_nil<|q_any ac_nil<|a_done (by decide +kernel)<|by exact q_blk<|q_then<|c_region<|s_p E (y_add E E)<|mv E E<|s_nil<|hXx (IntKind.i64.wrap (t_8+1)) _ _ _ _ [] H32 E ⟨E,E,E,True.intro⟩ E) fun c_6 H25=>s_p E (yF (y_lss E E) c_6)<|nx<|c_seq<|c_f E E<|c_exit<|q_then_exit<|q_then_exit<|q_blk_out<|hJx () _ _ _ _ [] H25 E True.intro E)) (fun Jx_1 hJx_1 H33=>csr<|s_p E (y_fa E E)<|gx H33 fun t_11 ht_11 H34=>s_v E (y_ld E) (hc_V 0 E ht_11)<|s_p E (y_len E)<|mv E E<|nx<|c_block<|c_loop (fun z=>⟨155,[(0,.pointer (some ⟨b,o,none⟩)),(1,.int .i64 vm),(89,eL t_11),(90,.int .i64 (t_11.n:Int)),(91,.int .i64 z)]⟩) (fun z=>[]) 0 (idx:=[]) H34 E ⟨E,E,E,E,E,True.intro⟩ E<|fun Xx_1 hXx_1 t_12 Sx_11 H35=>csr<|iteK H35 (fun c_13 H36=>s_p E (yT (y_lss E E) c_13)<|nx<|c_seq<|c_t E E<|c_skip<|q_then<|c_seq<|c_block<|csr<|by obtain⟨b_6,o_5,n,n_1,rfl,H37⟩:=H36;exact an2 H37 fun c_14 c_15 H38=>s_p E (y_ixL E E c_14 c_15 E)<|gx H38 fun t_13 ht_13 H39=>s_v E (y_ld E) (hc_S ht_13)<|gv E E<|nxr<|mv E E<|s_p E (y_nc E)<|s_p E (y_fa E E)<|gx H39 fun t_14 ht_14 H40=>s_v E (y_ld E) (hc_S ht_14)<|by obtain⟨b_7,o_6,rfl,H41⟩:=H40;exact s_p E (y_nc E)<|s_p E (y_fa E E)<|gx H41 fun t_15 ht_15 H42=>s_v E (y_ld E) (hc_S ht_15)<|mv E E<|s_k1 E E H42 fun t_16 Sx_12 H43=>nx<|c_region<|mv E E<|s_p E (y_nc E)<|s_p E (y_fa E E)<|gx H43 fun t_17 ht_17 H44=>s_v E (y_ld E) (hc_S ht_17)<|mv E E<|s_k1 E E H44 fun t_18 Sx_13 H45=>s_nil<|q_blk<|q_then<|c_region<|s_p E (y_add E E)<|mv E E<|s_nil<|hXx_1 (IntKind.i64.wrap (t_12+1)) _ _ _ _ [] H45 E ⟨E,E,E,E,E,True.intro⟩ E) fun c_13 H36=>s_p E (yF (y_lss E E) c_13)<|nx<|c_seq<|c_f E E<|c_exit<|q_then_exit<|q_then_exit<|q_blk_out<|hJx_1 () _ _ _ _ [] H36 E ⟨E,E,True.intro⟩ E)) (fun Jx_2 hJx_2 H46=>csr<|mv E E<|s_p E (y_len E)<|mv E E<|nx<|c_block<|c_loop (fun z=>⟨155,[(0,.pointer (some ⟨b,o,none⟩)),(1,.int .i64 vm),(7,.pointer (some ⟨b_2,0,none⟩)),(63,eL t_4),(64,.int .i64 (t_4.n:Int)),(65,.int .i64 z)]⟩) (fun z=>[⟨b_2,63,t_1⟩]) 0 (idx:=[0]) H46 E ⟨E,E,E,E,E,E,True.intro⟩ E<|fun Xx_2 hXx_2 t_19 Sx_14 H47=>csr<|iteK H47 (fun c_16 H48=>s_p E (yT (y_lss E E) c_16)<|nx<|c_seq<|c_t E E<|c_skip<|q_then<|c_seq<|c_block<|csr<|by obtain⟨b_8,o_7,n_2,n_3,rfl,H49⟩:=H48;exact an2 H49 fun c_17 c_18 H50=>s_p E (y_ixL E E c_17 c_18 E)<|gx H50 fun t_20 ht_20 H51=>by refine s_v E (y_ldA E (part_len ht_20)) (hc_SP ht_20) ?_;exact by refine s_alloc E fun b_9=>?_;exact an H51 fun c_19 H52=>s_stV_all 1 E E E E E (part_len ht_20) E c_19<|nx<|c_seq<|c_drawn (by kernel_rfl)<|a_takeP 0 E (by decide +kernel) (np_then (np_blk (np_then (np_then (np_blk (np_then np_body)))))) E (y_move E)<|by exact a_takeP 1 E (by decide +kernel) (np_then (np_blk (np_then (np_then (np_blk (np_then np_body)))))) E (y_nc E)<|by exact a_takeP 2 E (by decide +kernel) (np_then (np_blk (np_then (np_then (np_blk (np_then np_body)))))) E (y_fa E E)<|by exact gx H52 fun t_21 ht_21 H53=>a_take 3 E (by decide +kernel) (np_then (np_blk (np_then (np_then (np_blk (np_then np_body)))))) E (y_ld E) (hc_S ht_21)<|by exact by obtain⟨b_10,o_8,rfl,H54⟩:=H53;exact a_takeP 4 E (by decide +kernel) (np_then (np_blk (np_then (np_then (np_blk (np_then np_body)))))) E (y_nc E)<|by exact a_takeP 5 E (by decide +kernel) (np_then (np_blk (np_then (np_then (np_blk (np_then np_body)))))) E (y_fa E E)<|by exact gx H54 fun t_22 ht_22 H55=>a_take 6 E (by decide +kernel) (np_then (np_blk (np_then (np_then (np_blk (np_then np_body)))))) E (y_ld E) (hc_S ht_22)<|by exact a_takeP 7 E (by decide +kernel) (np_then (np_blk (np_then (np_then (np_blk (np_then np_body)))))) E (y_fa E E)<|by exact gx H55 fun t_23 ht_23 H56=>a_take 8 E (by decide +kernel) (np_then (np_blk (np_then (np_then (np_blk (np_then np_body)))))) E (y_ld E) (hc_V 1 E ht_23)<|by exact a_takeP 9 E (by decide +kernel) (np_then (np_blk (np_then (np_then (np_blk (np_then np_body)))))) E (y_move E)<|by exact a_step 10 (by decide +kernel) E<|by exact s_k1 E E H56 fun t_24 Sx_15 H57=>by obtain⟨k,H58⟩:=H57;exact s_nil<|q_any (ac_cons (hc_S k) ac_nil)<|a_done (by decide +kernel)<|by exact q_then<|c_drawn (by kernel_rfl)<|a_takeP 0 E (by decide +kernel) (np_blk (np_then (np_then (np_blk (np_then np_body))))) E (y_move E)<|by exact a_takeP 1 E (by decide +kernel) (np_blk (np_then (np_then (np_blk (np_then np_body))))) E (y_nc E)<|by exact a_takeP 2 E (by decide +kernel) (np_blk (np_then (np_then (np_blk (np_then np_body))))) E (y_fa E E)<|by exact gx H58 fun t_25 ht_25 H59=>a_take 3 E (by decide +kernel) (np_blk (np_then (np_then (np_blk (np_then np_body))))) E (y_ld E) (hc_S ht_25)<|by exact a_takeP 4 E (by decide +kernel) (np_blk (np_then (np_then (np_blk (np_then np_body))))) E (y_fa E E)<|by exact gx H59 fun t_26 ht_26 H60=>a_take 5 E (by decide +kernel) (np_blk (np_then (np_then (np_blk (np_then np_body))))) E (y_ld E) (hc_V 1 E ht_26)<|by exact a_step 6 (by decide +kernel) E<|by exact s_k1 E E H60 fun t_27 Sx_16 H61=>s_nil<|q_any ac_nil<|a_done (by decide +kernel)<|by exact q_blk<|q_then<|c_region<|s_p E (y_add E E)<|mv E E<|s_nil<|hXx_2 (IntKind.i64.wrap (t_19+1)) _ _ _ _ [0] H61 E ⟨E,E,E,E,E,E,True.intro⟩ E) fun c_16 H48=>s_p E (yF (y_lss E E) c_16)<|nx<|c_seq<|c_f E E<|c_exit<|q_then_exit<|q_then_exit<|q_blk_out<|hJx_2 () _ _ _ _ [0] H48 E ⟨E,E,E,True.intro⟩ E)) (fun Jx_3 hJx_3 H62=>csr<|mv E E<|by obtain⟨b_11,o_9,rfl,H63⟩:=H62;exact s_p E (y_nc E)<|s_p E (y_fa E E)<|gx H63 fun t_28 ht_28 H64=>s_v E (y_ld E) (hc_S ht_28)<|by obtain⟨b_12,o_10,rfl,H65⟩:=H64;exact s_p E (y_nc E)<|s_p E (y_fa E E)<|gx H65 fun t_29 ht_29 H66=>by refine s_v E (y_ldA E (part_len ht_29)) (hc_SP ht_29) ?_;exact mv E E<|s_k1 E E H66 fun t_30 Sx_17 H67=>s_p E (y_len E)<|mv E E<|nx<|c_block<|c_loop (fun z=>⟨155,[(0,.pointer (some ⟨b_11,o_9,none⟩)),(1,.int .i64 vm),(34,eL t_30),(35,.int .i64 (t_30.n:Int)),(36,.int .i64 z)]⟩) (fun z=>[]) 0 (idx:=[]) H67 E ⟨E,E,E,E,E,True.intro⟩ E<|fun Xx_3 hXx_3 t_31 Sx_18 H68=>csr<|iteK H68 (fun c_20 H69=>s_p E (yT (y_lss E E) c_20)<|nx<|c_seq<|c_t E E<|c_skip<|q_then<|c_seq<|c_block<|csr<|by obtain⟨b_13,o_11,n_4,n_5,rfl,H70⟩:=H69;exact an2 H70 fun c_21 c_22 H71=>s_p E (y_ixL E E c_21 c_22 E)<|gx H71 fun t_32 ht_32 H72=>s_v E (y_ld E) (hc_S ht_32)<|gv E E<|nx<|c_region<|mv E E<|mv E E<|s_k0 E E H72 fun Sx_19 H73=>s_nil<|q_blk<|q_then<|c_region<|s_p E (y_add E E)<|mv E E<|s_nil<|hXx_3 (IntKind.i64.wrap (t_31+1)) _ _ _ _ [] H73 E ⟨E,E,E,E,E,True.intro⟩ E) fun c_20 H69=>s_p E (yF (y_lss E E) c_20)<|nx<|c_seq<|c_f E E<|c_exit<|q_then_exit<|q_then_exit<|q_blk_out<|hJx_3 () _ _ _ _ [] H69 E ⟨E,E,True.intro⟩ E)) (fun Jx_4 hJx_4 H74=>csr<|mv E E<|iteK H74 (fun c_23 H75=>s_p E (yT (y_pnil (p:=h) E E) c_23)<|mv E E<|sk4 E E E E<|sk2 E E<|s_skip E<|pk E E E<|nx<|c_t E E<|csr<|gv E E<|nx<|c_ret<|q_then_ret<|q_ret Tryz.results38 (rv_tmp E rv_nil) ⟨_,E,H75⟩) fun c_23 H75=>s_p E (yF (y_pnil (p:=h) E E) c_23)<|mv E E<|mv E E<|by obtain⟨b_14,o_12,rfl,H76⟩:=H75;exact s_p E (y_nc E)<|s_p E (y_fa E E)<|gx H76 fun t_33 ht_33 H77=>s_v E (y_ld E) (hc_S ht_33)<|mv E E<|s_k1 E E H77 fun t_34 Sx_20 H78=>by have H79:=ib_e H78;rcases H79 with ⟨rfl,H80⟩ | ⟨rfl,H80⟩;exact (s_p E (yB (y_not E) E)<|pk E E E<|nx<|cfs E E<|hJx_4 () _ _ _ _ [] H80 E ⟨E,E,True.intro⟩ E);exact (s_p E (yB (y_not E) E)<|pk E E E<|nx<|c_t E E<|csr<|gv E E<|nx<|c_ret<|q_then_ret<|q_ret Tryz.results38 (rv_tmp E rv_nil) ⟨_,E,H80⟩))
end Go.Proofs.YtabdpmnhjlmnlaaGreatDoor
end
section
namespace Go.Proofs.YtabdpmnhjlmnlaaGreatDoor
open Go Go.Pt
attribute [local irreducible] Code.wp Back bodyPost wpList FR WL WC WQ WA AW Tr Yc HC AllC
set_option maxRecDepth 20000
set_option maxHeartbeats 4000000
set_option linter.unusedVariables false
def b_table_Table_All (S:Mem) (t:List Value) (s:Pt) (Q:Sl→Sl→Mem→Prop):Prop:=
 t.length=2 ∧
 jn (fun (pages:Sl) (l:Sl) (Sx:Mem)=>
 Q pages l Sx) fun Jx=>
 lp (fun Xx (z:Sl×Sl×Int) (Sx_1:Mem)=>
 match z with
 | (pages_1,l_1,t_1)=>
 if t_1<32 then
 table_Table_Walk Sx_1 t s t_1 fun t_2 t_3 Sx_2=>
 t_2.all (·.oneCell')=true ∧
 if t_3=0 then
 ap Sx_2 3 1 8 [.int .i64 0] pages_1 1 ([.int .i64 t_1]) fun t_4 Sx_3=>
 t_2.all (·.oneCell')=true ∧
 ap Sx_3 111 3 24 [.bool false,.int .i64 0,.bool false] l_1 1 t_2 fun t_5 Sx_4=>
 Xx (t_4,t_5,IntKind.i64.wrap (t_1+1)) Sx_4
 else
 Xx (pages_1,l_1,IntKind.i64.wrap (t_1+1)) Sx_2
 else
 Jx pages_1 l_1 Sx_1) (⟨none,0,0⟩,⟨none,0,0⟩,0) S
theorem t_table_Table_All {S:Mem} {t:List Value} {s:Pt} {Q:Sl→Sl→Mem→Prop} (H:b_table_Table_All S t s Q):table_Table_All S t s Q:=by
 unfold b_table_Table_All at H
 exact Tr.intro Tryz.func86 E Tryz.ntmps86 E fun w0=>an H fun ht H1=>csr<|s_box E E E fun b=>gv E E<|gv E E<|nxr<|gv E E<|nxr<|gv E E<|nx<|c_join2 H1 (fun (J:Sl→Sl→Mem→Prop) (z:Sl×Sl) S=>J z.1 z.2 S) (fun z=>⟨34,[(6,eL z.1),(7,eL z.2)]⟩) (fun z=>[]) (by rintro⟨pages,l⟩ Sx H2;exact csr<|mv E E<|mv E E<|gv E E<|gv E E<|nx<|c_ret<|q_ret Tryz.results86 (rv_tmp E (rv_tmp E rv_nil)) ⟨_,_,E,H2⟩) (fun Jx hJx H3=>csr<|mv E E<|nx<|c_block<|c_loop (fun z=>⟨34,[(1,eP s),(2,.pointer (some ⟨b,0,none⟩)),(6,eL z.1),(7,eL z.2.1),(11,.int .i64 z.2.2)]⟩) (fun z=>[⟨b,63,t⟩]) (⟨none,0,0⟩,⟨none,0,0⟩,0) (idx:=[0]) H3 E ⟨E,E,E,E,E,True.intro⟩ E<|by rintro Xx hXx ⟨pages_1,l_1,t_1⟩ Sx_1 H4;exact csr<|iteK H4 (fun c H5=>s_p E (yT (y_lss E E) c)<|nx<|c_seq<|c_t E E<|c_skip<|q_then<|c_seq<|c_block<|csr<|mv E E<|gv E E<|nxr<|by refine s_v E (y_ldA E ht) (hc_VP (k:=2) 0 E (lpart_all ht)) ?_;exact mv E E<|mv E E<|s_call E E H5 fun rv Sx_2 H6=>by obtain⟨t_2,t_3,rfl,ht_2,H7⟩:=H6;exact mv E E<|s_p E (y_extract E E)<|s_p E (y_extract E E)<|by refine s_alloc E fun b_1=>?_;exact an H7 fun c_1 H8=>s_stV_all 1 E E E E E ht_2 E c_1<|gv E E<|nxr<|mv E E<|iteK H8 (fun c_2 H9=>ceT E E E (c_2)<|nx<|c_t E E<|c_drawn (by kernel_rfl)<|a_takeP 0 E (by decide +kernel) (np_blk (np_then (np_then (np_blk (np_then np_body))))) E (y_move E)<|by exact a_takeP 1 E (by decide +kernel) (np_blk (np_then (np_then (np_blk (np_then np_body))))) E (y_move E)<|by exact a_takeP 4 E (by decide +kernel) (np_blk (np_then (np_then (np_blk (np_then np_body))))) E (y_move E)<|by exact by refine a_take 5 E (by decide +kernel) (np_blk (np_then (np_then (np_blk (np_then np_body))))) E (y_ldA E ht_2) (hc_VP (k:=3) 1 E (lpart_all ht_2)) ?_;exact a_step2 2 6 (by decide +kernel) E E (s_bs E E (by decide) E fun b_2=>s_nil<|q_any (ac_cons (hc_VP (k:=3) 1 E (lpart_all ht_2)) ac_nil)<|a_step2 3 6 (by decide +kernel) E E (s_app (sx:=pages_1) (vs:=[.int .i64 t_1]) E E E (fc_V 2 E E) E E (by decide) H9 fun t_4 Sx_3 H10=>s_nil<|q_any (ac_cons (hc_VP (k:=3) 1 E (lpart_all ht_2)) ac_nil)<|a_step 6 (by decide +kernel) E<|by exact s_bs E E (by decide) (fill_one (size:=3) E ht_2) fun b_3=>s_nil<|q_any ac_nil<|a_step 7 (by decide +kernel) E<|by exact an H10 fun c_3 H11=>s_app (sx:=l_1) (vs:=t_2) E E E (fc_V 3 E (lpart_all ht_2)) ht_2 c_3 (by decide) H11 fun t_5 Sx_4 H12=>s_nil<|q_any ac_nil<|a_takeP 8 E (by decide +kernel) (np_blk (np_then (np_then (np_blk (np_then np_body))))) E (y_assign E)<|by exact a_takeP 9 E (by decide +kernel) (np_blk (np_then (np_then (np_blk (np_then np_body))))) E (y_assign E)<|by exact a_done (by decide +kernel)<|by exact q_blk<|q_then<|c_region<|s_p E (y_add E E)<|mv E E<|s_nil<|hXx (t_4,t_5,IntKind.i64.wrap (t_1+1)) _ _ _ _ [0] H12 E ⟨E,E,E,E,E,True.intro⟩ E) (s_bs E E (by decide) (fill_one (size:=3) E ht_2) fun b_3=>s_nil<|q_any ac_nil<|a_step 3 (by decide +kernel) E<|by exact s_app (sx:=pages_1) (vs:=[.int .i64 t_1]) E E E (fc_V 2 E E) E E (by decide) H9 fun t_4 Sx_3 H13=>s_nil<|q_any ac_nil<|a_step 7 (by decide +kernel) E<|by exact an H13 fun c_3 H14=>s_app (sx:=l_1) (vs:=t_2) E E E (fc_V 3 E (lpart_all ht_2)) ht_2 c_3 (by decide) H14 fun t_5 Sx_4 H15=>s_nil<|q_any ac_nil<|a_takeP 8 E (by decide +kernel) (np_blk (np_then (np_then (np_blk (np_then np_body))))) E (y_assign E)<|by exact a_takeP 9 E (by decide +kernel) (np_blk (np_then (np_then (np_blk (np_then np_body))))) E (y_assign E)<|by exact a_done (by decide +kernel)<|by exact q_blk<|q_then<|c_region<|s_p E (y_add E E)<|mv E E<|s_nil<|hXx (t_4,t_5,IntKind.i64.wrap (t_1+1)) _ _ _ _ [0] H15 E ⟨E,E,E,E,E,True.intro⟩ E)) (s_bs E E (by decide) (fill_one (size:=3) E ht_2) fun b_2=>s_nil<|q_any ac_nil<|a_step 2 (by decide +kernel) E<|by exact s_bs E E (by decide) E fun b_3=>s_nil<|q_any ac_nil<|a_step 3 (by decide +kernel) E<|by exact s_app (sx:=pages_1) (vs:=[.int .i64 t_1]) E E E (fc_V 3 E E) E E (by decide) H9 fun t_4 Sx_3 H16=>s_nil<|q_any ac_nil<|a_step 7 (by decide +kernel) E<|by exact an H16 fun c_3 H17=>s_app (sx:=l_1) (vs:=t_2) E E E (fc_V 2 E (lpart_all ht_2)) ht_2 c_3 (by decide) H17 fun t_5 Sx_4 H18=>s_nil<|q_any ac_nil<|a_takeP 8 E (by decide +kernel) (np_blk (np_then (np_then (np_blk (np_then np_body))))) E (y_assign E)<|by exact a_takeP 9 E (by decide +kernel) (np_blk (np_then (np_then (np_blk (np_then np_body))))) E (y_assign E)<|by exact a_done (by decide +kernel)<|by exact q_blk<|q_then<|c_region<|s_p E (y_add E E)<|mv E E<|s_nil<|hXx (t_4,t_5,IntKind.i64.wrap (t_1+1)) _ _ _ _ [0] H18 E ⟨E,E,E,E,E,True.intro⟩ E)) fun c_2 H9=>ceF E E E (c_2)<|nx<|cfs E E<|q_blk<|q_then<|c_region<|s_p E (y_add E E)<|mv E E<|s_nil<|hXx (pages_1,l_1,IntKind.i64.wrap (t_1+1)) _ _ _ _ [0] H9 E ⟨E,E,E,E,E,True.intro⟩ E) fun c H5=>s_p E (yF (y_lss E E) c)<|nx<|c_seq<|c_f E E<|c_exit<|q_then_exit<|q_then_exit<|q_blk_out<|hJx (pages_1,l_1) _ _ _ _ [] H5 E ⟨E,E,True.intro⟩ E)
end Go.Proofs.YtabdpmnhjlmnlaaGreatDoor
end
