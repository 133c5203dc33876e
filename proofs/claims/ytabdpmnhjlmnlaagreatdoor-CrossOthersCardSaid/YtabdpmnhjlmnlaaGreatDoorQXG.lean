/- Texts of this work,joined by program (pack.py): Ij,PsO,Ik,Il,Im,Yd,PtL,PtM,Jr. -/
import Derived.Test.YtabdpmnhjlmnlaaGreatDoorQXF
import Derived.Test.YtabdpmnhjlmnlaaGreatDoorQXB
import Derived.Test.YtabdpmnhjlmnlaaGreatDoorQXD
import Derived.Test.YtabdpmnhjlmnlaaGreatDoorQXC
import Derived.ProofKit
import Derived.OpenShut
import Derived.Test.YtabdpmnhjlmnlaaGreatDoorRows
import Derived.LaidMore
import Derived.Lay
import Derived.Lib.LaidU8
import Derived.Deep.Slices
import Derived.Stop.Joined
set_option linter.unusedVariables false
section
namespace Go.Cr
open Go Go.Pt
def ownL (l:List Nat):Nat→Ow:=fun f=>if f∈l then ⟨1,0,0,0⟩ else ow0
theorem wm {l:List Nat} {f:Nat} (h:f∈l):ownL l f=⟨1,0,0,0⟩:=if_pos h
theorem xm {l:List Nat} {f:Nat} (h:f∉l):ownL l f=ow0:=if_neg h
theorem gW {l:List Nat} {g:Nat}:keepC (ownL l) g (-1)=ownL (l++[g]):=by
 unfold keepC
 funext f
 by_cases hm:g∈l
 ·rw[wm hm,if_neg (by decide)]
  by_cases hf1:f∈l
  ·rw[wm hf1,wm (by simp[hf1])]
  ·have:f≠g:=fun e=>hf1 (e ▸ hm)
   rw[xm hf1,xm (by simp only[List.mem_append,List.mem_singleton,not_or];exact⟨hf1,this⟩)]
 ·rw[xm hm,if_pos (show ow0.kind=0 from rfl),if_neg (by decide)]
  by_cases hf1:f=g
  ·subst hf1;rw[zi,wm (by simp)]
  ·rw[ze hf1]
   by_cases hf2:f∈l
   ·rw[wm hf2,wm (by simp[hf2])]
   ·rw[xm hf2,xm (by simp only[List.mem_append,List.mem_singleton,not_or];exact⟨hf2,hf1⟩)]
def cstN (form:Int) (N:Nat) (l:List Nat) (u:Nat→Bool):Cst:={ toKn:=kn0 form,N:=N,dat:=fun _=>noughts,used:=u,left:=-1,cache:=[],own:=ownL l,alm:=fun _ _=>none,region:=l,ev:=fun _=>[] }
def cstA (form:Int) (N:Nat) (l:List Nat) (u:Nat→Bool) (o:Nat→Ow):Cst:={ toKn:=kn0 form,N:=N,dat:=fun _=>noughts,used:=u,left:=-1,cache:=[],own:=o,alm:=fun _ _=>none,region:=l,ev:=fun _=>[] }
end Go.Cr
namespace Go.Proofs.YtabdpmnhjlmnlaaGreatDoor
open Go Go.Pt Go.Cr Go.Hp
section
variable {S S':Mem} {ρ ρ':Rho} {R:Nat→Prop}
theorem zaB {A:Ad} {s:Sl}:spl (hdL A) 4 [eL s]=hdL { A with gs:=s }:=rfl
theorem gq (hg:∀ b r,ρ b=some r→S b≠none) (h0:ρ 0=none) (hgl:Gl S) {form:Int} {N:Nat} (h1:1≤N) (hN:N≤512) {Q:Nat→Mem→Prop}
  (hQ:∀ S' ρ' h A,Mv S ρ S' ρ' Rc→CrabA S' ρ' h A (cst0 form N)→Q h S') :
  yY S N fun t Sx_1=>xQ Sx_1 N fun t_1 Sx_2=>xU Sx_2 form N fun t_2 Sx_3=>
   al Sx_3 86 ([eP t,eP t_1,.slice (none) 0 0,eP t_2,.slice (none) 0 0,.slice (none) 0 0,.slice (none) 0 0,.slice (none) 0 0,.slice (none) 0 0,.slice (none) 0 0,.slice (none) 0 0]) fun b Sx_4=>Q b Sx_4:=by
 refine ka hg h1 hN fun m S1 ρ1 m1 hs1=>?_
 refine kK m1.rg h1 hN fun p S2 ρ2 m2 hp2=>?_
 have hs2:=hs1.keep m2 (by decide) (by decide)
 apply jf
 unfold xF
 refine jl m2.rg h1 hN fun ob S3 ρ3 m3 ho3=>?_
 have hs3:=hs2.keep m3 (fun h=>h) (fun h=>h)
 have hp3:=hp2.keep m3 (fun h=>h) (fun h=>h) (fun h=>h)
 intro kb hkb t ht h hh
 rw[fZ] at hh ⊢
 rw[zad]
 have M4:Mv S3 ρ3 (S3.set kb (bw 127 [.slice none 0 0])) (ρ3.upd kb 10) (fun _=>False):=(Mv.refl m3.rg).new hkb _ 10
 have M5:=M4.new ht (bw 77 (knL (kn0 form) (fun _=>vx0) ob kb)) 7
 have M6:=M5.new hh (bw 86 (hdL ⟨m,p,t,ob,kb,⟨none,0,0⟩,⟨none,0,0⟩,fun _=>⟨none,0,0⟩,fun _=>vx0⟩)) 0
 have n1:kb≠t:=fun e=>by subst e;simp at ht
 have n2:kb≠h:=fun e=>by subst e;simp[zJ n1] at hh
 have n3:t≠h:=fun e=>by subst e;simp at hh
 have mA:Mv S ρ S3 ρ3 Rc:=((m1.mono (fun _ h=>h.elim)).trans (m2.mono fun r hr=>by unfold R345 at hr;show r<110;omega)).trans (m3.mono fun _ h=>h.elim)
 have mB:=mA.trans (M6.mono fun _ h=>h.elim)
 have bk:((S3.set kb (bw 127 [.slice none 0 0])).set t (bw 77 (knL (kn0 form) (fun _=>vx0) ob kb))).set h (bw 86 (hdL ⟨m,p,t,ob,kb,⟨none,0,0⟩,⟨none,0,0⟩,fun _=>⟨none,0,0⟩,fun _=>vx0⟩)) kb=some (bw 127 [.slice none 0 0]):=by
  rw[zJ n2,zJ n1,zk]
 have pc7:Pc (((S3.set kb (bw 127 [.slice none 0 0])).set t (bw 77 (knL (kn0 form) (fun _=>vx0) ob kb))).set h (bw 86 (hdL ⟨m,p,t,ob,kb,⟨none,0,0⟩,⟨none,0,0⟩,fun _=>⟨none,0,0⟩,fun _=>vx0⟩))) (((ρ3.upd kb 10).upd t 7).upd h 0) 7 t (knL (kn0 form) (fun _=>vx0) ob kb):=by
  generalize knL (kn0 form) (fun _=>vx0) ob kb=L
  exact⟨⟨bw 77 L,by rw[zJ n3];exact zk,rfl,qa rfl⟩,by rw[yX n3];exact qn⟩
 refine hQ _ _ h ⟨m,p,t,ob,kb,⟨none,0,0⟩,⟨none,0,0⟩,fun _=>⟨none,0,0⟩,fun _=>vx0⟩ mB
  ⟨mB.rg,vh hgl mB h0,vg hgl mB h0,⟨⟨_,zk,rfl,rfl⟩,qn⟩,hs3.keep M6 (fun h=>h) (fun h=>h),hp3.keep M6 (fun h=>h) (fun h=>h) (fun h=>h),Rw.nil,pc7,ho3.keep M6 (fun h=>h) (fun h=>h),
   ⟨⟨127,⟨none,0,0⟩,[],⟨bk,rfl,Row.nil,fun c hc=>(by cases hc),?_,by decide⟩,fun x hx=>(by cases hx),⟨List.nodup_nil,fun a ha=>(by cases ha),fun n k t h=>(by cases h)⟩⟩,by rw[yX n2,yX n1];exact qn⟩,Rw.nil,fun i _=>Rw.nil,fun i _=>⟨Rw.nil,fun s hs=>(by cases hs),Rw.nil,Rw.nil,fun j _=>Rw.nil⟩⟩
 exact fun i _ h=>absurd h (Nat.not_lt_zero _)
theorem keepLoop {h:Nat} {A:Ad} {form:Int} {N:Nat} {l:List Nat} {u:Nat→Bool} (hl:∀ f∈l,f<N) (hl2:l.length≤1000) {Q:Mem→Prop} (hc:CrabA S ρ h A (cstA form N l u fun _=>ow0)) (hQ:∀ S',Mv S ρ S' ρ Rc→CrabA S' ρ h A (cstN form N l u)→Q S') :
  lp (fun Xx (t_7:Int) (Sx_8:Mem)=>
   if t_7<(A.gs.n:Int) then
   sl A.gs fun b_1 o n n_1=>
   0≤t_7∧t_7<((n:Nat):Int) ∧
   gI (Sx_8.cell b_1 (o+t_7.toNat*1)) .i64 fun t_8=>
   gP (Sx_8.cell h 3) fun t_9=>
   nn t_9 fun b_2 o_1=>
   gP (Sx_8.cell b_2 (o_1+74)) fun t_10=>
   zZ Sx_8 t_10 t_8 (-1) fun t_11 Sx_9=>
   Xx (IntKind.i64.wrap (t_7+1)) Sx_9
   else
   Q Sx_8) 0 S:=by
 refine qh (fun (z:Int) S'=>∃ i:Nat,z=(i:Int)∧i≤l.length∧Mv S ρ S' ρ Rc∧CrabA S' ρ h A (cstA form N l u (ownL (l.take i)))) (fun z=>l.length-z.toNat) ?_
  ⟨0,rfl,by omega,Mv.refl hc.rg,by
   have e:ownL (l.take 0)=fun _=>ow0:=by funext f;exact xm (by simp)
   rw[e];exact hc⟩
 rintro X z S1 ⟨i,rfl,hi,m1,hc1⟩ ih
 have hn:A.gs.n=l.length:=hc1.gs.n (m:=l.length) (by decide) (by show (nL l).length=_;simp[nL])
 by_cases hlt:(i:Int)<(A.gs.n:Int)
 ·rw[if_pos hlt]
  have hil:i<l.length:=by omega
  obtain⟨c,e1,e2⟩:=hc1.gs.sl (by show 0<(nL l).length;simp[nL];omega)
  rw[e1,jU]
  have h3:S1.cell h 3=some (eP (some (A.t,0))):=hc1.c3
  have h74:S1.cell A.t (0+74)=some (eP (some (A.ob,0))):=by rw[hc1.tt.cell 74 (by rw[zV];decide) (by rfl)];exact fh
  have hcell:S1.cell c (0+(i:Int).toNat*1)=some (.int .i64 (l.getD i 0:Nat)):=by
   rw[hc1.gs.cell e2 i (by show i<(nL l).length;simp[nL];omega) (by omega)]
   show nthL (nL l) i=_
   rw[zv]
   unfold nL
   rw[List.getElem?_map,List.getElem?_eq_getElem hil,List.getD_eq_getElem?_getD,List.getElem?_eq_getElem hil];rfl
  refine⟨by omega,by omega,?_⟩
  rw[kS hcell,zae h3,wK,zae h74]
  have hf:l.getD i 0<N:=hl _ (ku hil)
  refine gj hc1.ow m1.rg hf (by decide) fun e S2 m2 ho2=>?_
  have hc2:=hc1.setOwn m2 ho2
  rw[w64 (by omega) (by omega)]
  refine ih _ _ ⟨i+1,rfl,by omega,m1.trans (m2.mono fun r hr=>by show r<110;omega),?_⟩ (by omega)
  have e3:keepC (ownL (l.take i)) (l.getD i 0) (-1)=ownL (l.take (i+1)):=by
   rw[gW,List.take_add_one,List.getD_eq_getElem?_getD,List.getElem?_eq_getElem hil];rfl
  rw[←e3]
  exact hc2
 ·rw[if_neg hlt]
  have:i=l.length:=by omega
  subst this
  rw[List.take_length] at hc1
  exact hQ _ m1 hc1
def badNew (form frames region:Int):Prop:=frames<1∨512<frames∨region<1∨frames<region∨(form≠1∧form≠2)
instance (form frames region:Int):Decidable (badNew form frames region):=inferInstanceAs (Decidable (_∨_))
theorem fX (hg:∀ b r,ρ b=some r→S b≠none) (h0:ρ 0=none) (hgl:Gl S) {form frames region:Int} {Q:Pt→Int→Mem→Prop}
  (hE:badNew form frames region→Q none 1 S)
  (hY:¬badNew form frames region→∀ S' ρ' h A l u,Mv S ρ S' ρ' Rc→CrabA S' ρ' h A (cstN form frames.toNat l u)→takeN frames.toNat l.length (fun _=>false)=some (l,u)→(l.length:Int)=region→Q (some (h,0)) 0 S'):kz S form frames region Q:=by
 apply jT
 unfold wy
 simp only[jn]
 by_cases hb:badNew form frames region
 ·have:=hE hb
  unfold badNew at hb
  by_cases h1:frames<1
  ·rw[if_pos h1];exact this
  rw[if_neg h1]
  by_cases h2:512<frames
  ·rw[if_pos h2];exact this
  rw[if_neg h2]
  by_cases h3:region<1
  ·rw[if_pos h3];exact this
  rw[if_neg h3]
  by_cases h4:frames<region
  ·rw[if_pos h4];exact this
  rw[if_neg h4,if_pos (by omega),if_pos (by omega)]
  exact this
 have hY:=hY hb
 unfold badNew at hb
 rw[if_neg (by omega),if_neg (by omega),if_neg (by omega),if_neg (by omega)]
 have hform:form=1∨form=2:=by omega
 obtain⟨N,rfl⟩:∃ N:Nat,frames=N:=⟨frames.toNat,by omega⟩
 obtain⟨r,rfl⟩:∃ r:Nat,region=r:=⟨region.toNat,by omega⟩
 have key:yY S N fun t Sx_1=>xQ Sx_1 N fun t_1 Sx_2=>xU Sx_2 form N fun t_2 Sx_3=>
   al Sx_3 86 ([eP t,eP t_1,.slice (none) 0 0,eP t_2,.slice (none) 0 0,.slice (none) 0 0,.slice (none) 0 0,.slice (none) 0 0,.slice (none) 0 0,.slice (none) 0 0,.slice (none) 0 0]) fun b Sx_4=>
  gP (Sx_4.cell b 1) fun t_3=>
  qD Sx_4 t_3 r fun t_4 t_5 Sx_5=>
  pt Sx_5 b 4 1 ([eL t_4]) fun Sx_6=>
  gL (Sx_6.cell b 4) fun t_6=>
  lp (fun Xx (t_7:Int) (Sx_8:Mem)=>
   if t_7<(t_6.n:Int) then
   sl t_6 fun b_1 o n n_1=>
   0≤t_7∧t_7<((n:Nat):Int) ∧
   gI (Sx_8.cell b_1 (o+t_7.toNat*1)) .i64 fun t_8=>
   gP (Sx_8.cell b 3) fun t_9=>
   nn t_9 fun b_2 o_1=>
   gP (Sx_8.cell b_2 (o_1+74)) fun t_10=>
   zZ Sx_8 t_10 t_8 (-1) fun t_11 Sx_9=>
   Xx (IntKind.i64.wrap (t_7+1)) Sx_9
   else
   Q (some (b,0)) 0 Sx_8) 0 Sx_6:=by
  refine gq hg h0 hgl (by omega) (by omega) fun S1 ρ1 h A m1 hc1=>?_
  have c1:S1.cell h 1=some (eP (some (A.p,0))):=hc1.c1
  rw[zae c1]
  refine gJ (r:=12) hc1.pl m1.rg (show (-1:Int)≤-1∧(-1:Int)≤4294967296 by decide) (by omega) (by decide) (fun l u hle ht s S2 ρ2 m2 hp2 hs2=>?_) (fun hN=>?_)
  ·have hll:=(qY ht).1
   refine (hc1.hd.keep m2 (by decide)).pt m2.rg 4 (by rfl) (by rw[vf];exact (by decide:5≤11)) (by rfl) fun S3 m3 hh3=>?_
   rw[zaB] at hh3
   have M:Mv S1 ρ1 S3 ρ2 (fun x=>x=0∨R345 x∨x=12):=(m2.mono fun r hr=>.inr hr).trans (m3.mono fun r hr=>.inl hr)
   have hc3:CrabA S3 ρ2 h { A with gs:=s } (cstA form N l u fun _=>ow0):=
    ⟨M.rg,vh hc1.gl M hc1.g0,vg hc1.gl M hc1.g0,hh3,hc1.st.keep M (by decide) (by decide),hp2.keep m3 (by decide) (by decide) (by decide),hc1.ca.keep M (by decide),hc1.tt.keep M (by decide),hc1.ow.keep M (by decide) (by decide),hc1.ck.keep M (by decide) (by decide),hs2.keep m3 (by decide),fun i hi=>(hc1.ev i hi).keep M (by unfold R345;omega),fun i hi=>(hc1.vs i hi).keep M hi fun r h1 h2=>by unfold R345;omega⟩
   have c4:S3.cell h 4=some (eL s):=hc3.c4
   rw[wA c4]
   refine keepLoop (A:={ A with gs:=s }) (fun f hf=>((qY ht).2.2.1 f hf).1) (by omega) hc3 fun S4 m4 hc4=>?_
   have e:((N:Int)).toNat=N:=by omega
   refine hY S4 ρ2 h _ l u (m1.trans ((M.mono fun x hx=>?_).trans m4)) (by rw[e];exact hc4) (by rw[e,hll];exact ht) (by rw[hll])
   unfold R345 at hx;show x<110;omega
  ·exfalso
   rcases hN with h | h
   ·exact absurd h.1 (show ¬(0:Int)≤-1 by decide)
   ·have:=we.1 h
    have hc:count (fun f=>! (cst0 form N).used f) N=N:=by
     show count (fun f=>! false) N=N
     unfold count
     have:(List.range N).filter (fun f=>! false)=List.range N:=by simp
     rw[this];simp
    rw[show (cst0 form N).N=N from rfl,hc] at this
    omega
 by_cases h5:form≠1
 ·rw[if_pos h5,if_neg (by omega)];exact key
 ·rw[if_neg h5];exact key
end
end Go.Proofs.YtabdpmnhjlmnlaaGreatDoor
namespace Go.Cr
end Go.Cr
end
section
namespace Go.Proofs.YtabdpmnhjlmnlaaGreatDoor
open Go Go.Pt
attribute [local irreducible] Code.wp Back bodyPost wpList FR WL WC WQ WA AW Tr Yc HC AllC
set_option maxRecDepth 20000
set_option maxHeartbeats 4000000
set_option linter.unusedVariables false
end Go.Proofs.YtabdpmnhjlmnlaaGreatDoor
end
section
namespace Go.Cr
open Go Go.Pt
def awImg:List Int:=[65,0,64,4,0,0,0,80]
def awW1:Wd:=((W0 36).create 1 4 1 awImg).2.2
def awW2:Wd:=(awW1.run 0 0).2
def awW3:Wd:=(awW2.run 0 0).2
def Evt.q (e:Evt):Int×Int×Int×Int:=(e.kind,e.seat,e.a,e.b)
end Go.Cr
end
section
namespace Go.Cr
open Go Go.Pt
def Wd.evB (W:Wd) (m:Nat):Prop:=∀ i,(W.ev i).length≤m
section
variable {W:Wd} {m:Nat}
theorem Wd.evB.mono (h:W.evB m) {k:Nat} (hk:m≤k):W.evB k:=fun i=>Nat.le_trans (h i) hk
theorem Wd.evB.of {W':Wd} (h:W.evB m) (e:W'.ev=W.ev):W'.evB m:=fun i=>by rw[e];exact h i
theorem Wd.evB.tell (h:W.evB m) {n:Nat} {e:Evt}:(W.tell n e).evB (m+1):=fun i=>by
 unfold Wd.tell
 show (upd W.ev n (W.ev n++[e]) i).length≤m+1
 by_cases ei:i=n
 ·subst ei;rw[zi,List.length_append];have:=h i;simp;omega
 ·rw[ze ei];have:=h i;omega
theorem jC {n k i:Nat}:(W.raise n k i).2.ev=W.ev:=by unfold Wd.raise;split <;> rfl
theorem zaL {n:Nat} {a b:Int}:(W.ring n a b).2.ev=W.ev:=by
 unfold Wd.ring;split
 ·rfl
 ·split
  ·rfl
  ·exact jC
theorem gf {n:Nat}:(W.nextKey n).2.2.ev=W.ev:=by unfold Wd.nextKey;split <;> rfl
theorem fV {n:Nat} {p to:Int} {w:Bool}:(W.offer n p to w).2.2.ev=W.ev:=by
 unfold Wd.offer;split
 ·rfl
 ·split
  ·rfl
  ·split
   ·rfl
   ·split <;> rfl
theorem fY {n:Nat} {c i p:Int}:(W.lease n c i p).2.ev=W.ev:=by
 unfold Wd.lease;split
 ·rfl
 ·split
  ·rfl
  ·split
   ·split <;> rfl
   ·split
    ·rfl
    ·split
     ·rfl
     ·split
      ·rfl
      ·split <;> rfl
theorem zaV {n:Nat} {p:Int}:(W.give n p).2.ev=W.ev:=by
 unfold Wd.give;split
 ·rfl
 ·split <;> rfl
theorem zbw {n:Nat} {p:Int}:(W.get n p).2.ev=W.ev:=by
 unfold Wd.get;split
 ·rfl
 ·split
  ·rfl
  ·split
   ·rfl
   ·split <;> rfl
theorem zaN {n:Nat} {s p:Int}:(W.load n s p).2.ev=W.ev:=by
 unfold Wd.load;split
 ·rfl
 ·split
  ·rfl
  ·split <;> rfl
theorem zaJ {n:Nat} {s p:Int}:(W.save n s p).2.ev=W.ev:=by
 unfold Wd.save;split
 ·rfl
 ·split
  ·rfl
  ·split <;> rfl
theorem qI {α:Type} {P:α→Prop} {c:Prop} [Decidable c] {a b:α} (h1:c→P a) (h2:¬c→P b):P (if c then a else b):=by
 by_cases h:c
 ·rw[if_pos h];exact h1 h
 ·rw[if_neg h];exact h2 h
theorem Wd.evB.call (h:W.evB m) {n k:Nat} {c w1 w2 w3:Int}:(W.call n k c w1 w2 w3).2.2.evB (m+1):=by
 have h1:=h.mono (Nat.le_succ m)
 unfold Wd.call
 refine qI (P:=fun r:Int×Int×Wd=>r.2.2.evB (m+1)) (fun _=>h.tell) fun _=>?_
 refine qI (P:=fun r:Int×Int×Wd=>r.2.2.evB (m+1)) (fun _=>h1.of gf) fun _=>?_
 refine qI (P:=fun r:Int×Int×Wd=>r.2.2.evB (m+1)) (fun _=>h1.of zaL) fun _=>?_
 refine qI (P:=fun r:Int×Int×Wd=>r.2.2.evB (m+1)) (fun _=>h1) fun _=>?_
 refine qI (P:=fun r:Int×Int×Wd=>r.2.2.evB (m+1)) (fun _=>h1.of fV) fun _=>?_
 refine qI (P:=fun r:Int×Int×Wd=>r.2.2.evB (m+1)) (fun _=>h1.of fY) fun _=>?_
 refine qI (P:=fun r:Int×Int×Wd=>r.2.2.evB (m+1)) (fun _=>h1.of zaV) fun _=>?_
 refine qI (P:=fun r:Int×Int×Wd=>r.2.2.evB (m+1)) (fun _=>h1.of zbw) fun _=>?_
 refine qI (P:=fun r:Int×Int×Wd=>r.2.2.evB (m+1)) (fun _=>h1.of zaN) fun _=>?_
 refine qI (P:=fun r:Int×Int×Wd=>r.2.2.evB (m+1)) (fun _=>h1.of zaJ) fun _=>?_
 refine qI (P:=fun r:Int×Int×Wd=>r.2.2.evB (m+1)) (fun _=>h1) fun _=>?_
 refine qI (P:=fun r:Int×Int×Wd=>r.2.2.evB (m+1)) (fun _=>h1.of (W':=W.setV n _) rfl) fun _=>?_
 exact h1
theorem Wd.evB.run (h:W.evB m) {n k:Int}:(W.run n k).2.evB (m+3):=by
 unfold Wd.run
 by_cases h1:¬W.there n∨k<0∨(W.vm n.toNat).seats.length≤k
 ·rw[if_pos h1];exact h.mono (by omega)
 rw[if_neg h1]
 dsimp only
 generalize stepM ((W.vm n.toNat).seat k.toNat) (W.gm n.toNat) (W.time n.toNat) k=o
 by_cases h2:o.k=5
 ·rw[if_pos h2];exact h.mono (by omega)
 rw[if_neg h2]
 have h3:(((W.setDat o.g.dat).putSeat n.toNat k.toNat o.s).tell n.toNat (told o.k o.n k ((W.vm n.toNat).seat k.toNat).pc o.s)).evB (m+1):=(h.of (W':=(W.setDat o.g.dat).putSeat n.toNat k.toNat o.s) rfl).tell
 split
 ·unfold Wd.hyper
  dsimp only
  exact Wd.evB.tell (m:=m+2) (Wd.evB.of (h3.call (n:=n.toNat) (k:=k.toNat) (c:=o.n)) rfl)
 ·exact h3.mono (by omega)
theorem Wd.evB.create (h:W.evB m) {s q p:Int} {img:List Int}:(W.create s q p img).2.2.evB m:=by
 unfold Wd.create
 split
 ·exact h
 split
 ·exact h
 split
 ·exact h
 split
 ·exact h
 ·rename_i n _ _
  intro i
  show (upd W.ev n [] i).length≤m
  by_cases e:i=n
  ·rw[e,zi];exact Nat.zero_le _
  ·rw[ze e];exact h i
theorem Wd.evB.key (h:W.evB m) {n b:Int}:(W.key n b).2.evB m:=by
 unfold Wd.key
 split
 ·exact h
 split
 ·exact h
 ·exact h.of jC
def Wd.runs (W:Wd) (n k:Int):Nat→Wd
 | 0=>W
 | j+1=>((W.runs n k j).run n k).2
theorem Wd.evB.runs (h:W.evB m) {n k:Int}:∀ {j:Nat},(W.runs n k j).evB (m+3*j)
 | 0=>h
 | j+1=>(Wd.evB.run (h.runs (j:=j))).mono (by omega)
end
end Go.Cr
end
section
namespace Go.Proofs.YtabdpmnhjlmnlaaGreatDoor
open Go Go.Pt Go.Cr Go.Hp
def Lv (S0:Mem) (ρ0:Rho) (h:Nat) (S:Mem) (W:Wd):Prop:=∃ ρ A C φ,Mv S0 ρ0 S ρ Rc∧CrabA S ρ h A C∧Rel C W φ
def rho0:Rho:=fun _=>none
section
variable {S S' S0:Mem} {ρ ρ' ρ0:Rho} {R:Nat→Prop} {h:Nat} {A:Ad} {C:Cst} {W:Wd} {φ:Nat→Nat→Nat}
theorem rg0 {S:Mem}:∀ b r,rho0 b=some r→S b≠none:=fun b r h=>by cases h
theorem kN (m:Mv S rho0 S' ρ R):Keeps S S' []:=fun b hb _=>m.kp b hb fun r e=>by cases e
theorem Lv.keeps (l:Lv S rho0 h S' W):Keeps S S' []:=by
 obtain⟨ρ,A,C,φ,m,_⟩:=l
 exact kN m
theorem Lv.on (l:Lv S0 ρ0 h S W) (hk:Keeps S S' []):Lv S0 ρ0 h S' W:=by
 obtain⟨ρ,A,C,φ,m,hc,hr⟩:=l
 exact⟨ρ,A,C,φ,m.then hk,hc.keeps hk,hr⟩
end
end Go.Proofs.YtabdpmnhjlmnlaaGreatDoor
end
section
namespace Go.Proofs.YtabdpmnhjlmnlaaGreatDoor
open Go Go.Pt Go.Cr Go.Hp
section
variable {S S' S0:Mem} {ρ:Rho} {h:Nat} {A:Ad} {C:Cst} {W:Wd} {φ:Nat→Nat→Nat}
theorem zap {own:Nat→Ow} {N:Nat}:(cF N fun f=>owL (own f)).all (·.oneCell')=true:=jL fun _ _=>rfl
theorem zbJ (hc:CrabA S ρ h A C) (hw:∀ i,i<6→(C.vm i).seats.length≤1000000∧(C.fr i).length≤1000000∧(C.vm i).keys.length≤1000000∧∀ j,j<4→((C.vm i).disk j).length≤1000000) :
  ∃ ar,StR S A.t C.toKn A.x A.ob A.kb (cF C.N fun f=>owL (C.own f)) ar∧ar.all (·.oneCell')=true∧ar.length≤3000000:=by
 have hT:=hc.tt.rol
 have nt:∀ {c q:Nat},ρ c=some q→q≠7→c≠A.t:=fun h1 h2 e=>by rw[e,hT] at h1;cases h1;exact h2 rfl
 obtain⟨tb,s,l,hck,ho,_⟩:=hc.ck.ex
 obtain⟨rs,hr1,hr2⟩:=hc.ow.ex
 refine⟨Hk.fl l,⟨hc.tt.at_,fun i hi=>?_,⟨rs,nt hr1.rol (by decide),?_,hr2.row,fun c e=>nt (hr2.rol c 0 e) (by decide)⟩,⟨s,nt hc.ck.rol (by decide),?_,hck.row,fun c e=>nt (ho c (by simp[Hk.own,e])) (by decide)⟩⟩,?_,?_⟩
 ·have hv:=hc.vs i hi
  obtain⟨w1,w2,w3,w4⟩:=hw i hi
  refine⟨⟨hv.se.row,hv.fr.row,hv.ke.row,fun j hj=>(hv.di j hj).row⟩,⟨?_,?_,?_,fun j hj=>?_⟩,fun c hc2=>?_⟩
  ·have:=hv.se.n (by decide) (gM hv.r);omega
  ·have:=hv.fr.n (by decide) (by rw[kM,Nat.mul_one]);omega
  ·have:=hv.ke.n (m:=(C.vm i).keys.length) (by decide) (by unfold bL;rw[List.length_map,Nat.mul_one]);omega
  ·have:=(hv.di j hj).n (m:=((C.vm i).disk j).length) (by decide) (by unfold bL;rw[List.length_map,Nat.mul_one])
   have:=w4 j hj
   omega
  ·rcases hc2 with e | e | e | ⟨j,hj,e⟩
   ·exact nt (hv.se.rol c 0 e) (by omega)
   ·exact nt (hv.fr.rol c 0 e) (by omega)
   ·exact nt (hv.ke.rol c 0 e) (by omega)
   ·exact nt ((hv.di j hj).rol c 0 e) (by omega)
 ·exact hr1.cell 0 (by simp) rfl
 ·rw[qq hck.blk];exact hck.cell
 ·unfold Hk.fl;rw[List.all_flatMap];exact List.all_eq_true.2 fun x _=>rfl
 ·have:=hck.len
  have e:(Hk.fl l).length=l.length*3:=zar (f:=Hk.ce) (w:=3) (fun _=>rfl) l
  omega
theorem gg (hgl:Gl S) {Q:Pt→Mem→Prop} (hQ:∀ S' ρ' h A l u,Mv S rho0 S' ρ' Rc→CrabA S' ρ' h A (cstN 1 64 l u)→Q (some (h,0)) S'):qd S 1 64 4 ⟨none,0,0⟩ ⟨none,0,0⟩ Q:=by
 apply yR
 unfold zX
 refine fX rg0 rfl hgl (fun hb=>absurd hb (by decide)) fun _ S' ρ' h A l u m hc _ _=>?_
 refine qk (fun J=>J S') ?_ fun J hJ=>by rw[if_neg (fun e=>e rfl)];exact hJ
 refine qk (fun J=>J S') (hQ S' ρ' h A l u m hc) fun J hJ=>?_
 refine qh (fun (z:Int) S2=>z=0∧S2=S') (fun _=>0) ?_ ⟨rfl,rfl⟩
 rintro X z S2 ⟨rfl,hS⟩ _
 subst hS
 refine qk (fun _=>True) trivial fun J2 _=>?_
 rw[if_neg (by decide)]
 exact hJ
theorem awake20 (hgl:Gl S) {Q:Bool→Mem→Prop} (hQ:∀ S',Keeps S S' []→Q true S'):zM S Q:=by
 apply yA
 unfold zS
 refine gg hgl fun S1 ρ1 h A l u m hc=>?_
 have hk01:Keeps S S1 []:=kN m
 refine qk (fun J=>J S1) ?_ fun J hJ=>by rw[if_neg (by simp)];exact hJ
 obtain⟨ar,hst,har,hal⟩:=zbJ hc fun i _=>⟨Nat.zero_le _,Nat.zero_le _,Nat.zero_le _,fun j _=>Nat.zero_le _⟩
 have hol:(cF (cstN 1 64 l u).N fun f=>owL ((cstN 1 64 l u).own f)).length≤4000000:=by rw[xR];exact (by decide:64*4≤4000000)
 rw[wK,zae hc.c3]
 apply jS
 unfold wx
 refine wS hst zap hol har hal (fun e=>absurd rfl e) fun _ t1 x1 o1 k1 S2 hk2 ht1 h1=>?_
 apply kF
 unfold xj
 refine wS h1 zap hol har hal (fun e=>absurd rfl e) fun _ t2 x2 o2 k2 S3 hk3 ht2 h2=>?_
 dsimp only
 rw[if_pos rfl,if_pos rfl,zae ((hc.keeps (hk2.trans hk3)).c3)]
 have hst3:=hst.keeps (hk2.trans hk3)
 have h13:=h1.keeps hk3
 refine zaK h2 hst3 (N:=64) rfl (by decide) rfl rfl rfl (fun i s hs=>by cases hs) (fun i=>Nat.zero_le _) ?_
 rw[if_pos rfl,wK,kS ((h13.at_.cell0 (by rw[zV];decide)).trans ko)]
 rw[if_pos rfl,wK,kS ((h2.at_.cell0 (by rw[zV];decide)).trans ko)]
 rw[if_pos rfl]
 apply qW
 unfold qc
 rw[if_pos rfl]
 dsimp only
 rw[if_pos rfl]
 apply qW
 unfold qc
 rw[if_neg (by decide)]
 exact hQ S3 (hk01.trans (hk2.trans hk3))
theorem vu (hgl:Gl S) {form:Int}:zu S form fun r S'=>r=true∧Keeps S S' []:=by
 unfold zu
 have key:∀ want:Int,want=(if form=1 then 2 else 1)→zM S fun t Sx_1=>if t=true then qA Sx_1 form fun t_1 Sx_2=>(fun r S'=>r=true∧Keeps S S' []) (decide (t_1=want)) Sx_2 else (fun r S'=>r=true∧Keeps S S' []) false Sx_1:=fun want hw=>by
  refine awake20 hgl fun S1 hk=>?_
  rw[if_pos rfl]
  apply qW
  unfold qc
  subst hw
  by_cases h1:form=1
  ·rw[if_pos h1,if_pos h1];exact⟨rfl,hk⟩
  ·rw[if_neg h1,if_neg h1];exact⟨rfl,hk⟩
 refine qk (fun J=>J (if form=1 then 2 else 1) S) (key _ rfl) fun J hJ=>?_
 by_cases h1:form=1
 ·rw[if_pos h1] at hJ ⊢;exact hJ
 ·rw[if_neg h1] at hJ ⊢;exact hJ
end
end Go.Proofs.YtabdpmnhjlmnlaaGreatDoor
end
section
namespace Go.Pt
open Go Go.RowKit Go.ChangeShapes
def memOf (W:World):Mem:=fun b=>match W.heap[b]? with
 | some (.cells c t fr)=>some ⟨t,c.toList,fr⟩
 | _=>none
theorem jE (W:World):St W (memOf W) (memOf W) [] W:=by
 refine⟨rfl,rfl,rfl,Nat.le_refl _,fun _ _ _=>rfl,fun b k h=>?_,by simp,by simp,fun b h1 h2=>(h2 h1).elim,fun _ h=>h⟩
 unfold memOf at h
 split at h
 ·rename_i c t fr hh
  cases h
  simpa using hh
 ·cases h
theorem jt {P:Program} {f:FuncId} {args:List Value} {W:World} {u:Value} (h:Tr P f (memOf W) args (fun v S'=>v=u∧Keeps (memOf W) S' [])) :
  Calls P f args.toArray W fun e W'=>e=.returned u∧Below W.heap.size W W':=by
 refine (h W (jE W)).mono ?_
 rintro e W' ⟨v,S',rfl,⟨rfl,hk⟩,hS⟩
 refine⟨rfl,hS.os,hS.tape,hS.output,hS.size,fun k hlt=>?_⟩
 cases hm:memOf W k with
 | none=>exact hS.frame k hlt hm
 | some q=>
  have e1:=hS.mem k q (hk.get hm (by simp))
  have e2:=(jE W).mem k q hm
  rw[e1,e2]
def BytesIn (S:Mem) (l:Sl):Prop:=∀ i:Nat,i<l.n→∃ b o z,l.p=some (b,o)∧S.cell b (o+i)=some (.int .u8 z)∧0≤z∧z≤255
theorem BytesIn.keep {S S':Mem} {l:Sl} (h:BytesIn S l) (hk:Keeps S S' []):BytesIn S' l:=fun i hi=>by
 obtain⟨b,o,z,h1,h2,h3⟩:=h i hi
 obtain⟨k,h4,h5⟩:=jJ h2
 exact⟨b,o,z,h1,by rw[qq (hk.get h4 (by simp))];exact h5,h3⟩
end Go.Pt
end
section
namespace Go.Pt
open Go Go.RowKit Go.ChangeShapes
def NumsIn (S:Mem) (l:Sl):Prop:=∀ i:Nat,i<l.n→∃ b o z,l.p=some (b,o)∧S.cell b (o+i)=some (.int .u64 z)∧0≤z∧z≤18446744073709551615
theorem NumsIn.keep {S S':Mem} {l:Sl} (h:NumsIn S l) (hk:Keeps S S' []):NumsIn S' l:=fun i hi=>by
 obtain⟨b,o,z,h1,h2,h3⟩:=h i hi
 obtain⟨k,h4,h5⟩:=jJ h2
 exact⟨b,o,z,h1,by rw[qq (hk.get h4 (by simp))];exact h5,h3⟩
end Go.Pt
end
section
namespace Go.Pt
open Go Go.RowKit Go.ChangeShapes Go.WideShapes Go.ChangeAt Go.Lib
theorem jq {H:Type} {enc:TypeId×Value→H} {a:Assume} {C:Checked} {os:Os} {f:FuncId} {fn:Func} {s:ChangeSpec} {conds:List PathCond} {apart fresh handsOn again:Bool} {X:World→Array Value→Prop}
  (hX:∀ (w w':World) (args:Array Value),w.heap=w'.heap→X w args→X w' args) (own:ownKnob C.prog.godebug=none) (started:os.Started) (noInit:C.prog.inits.idxOf? f=none) (hfn:C.prog.funcs[f]? = some fn)
  (witness:∃ (w:World) (tape:Tape) (i:Input),w.os=os∧(w.forCall tape i).Shaped C.prog∧i.vars=[]∧Input.okWide C.prog (w.forCall tape i) .any w.heap.size f i ∧
   ((s.pre enc C.prog fn conds apart (w.forCall tape i).memory i.args∧X (w.forCall tape i).memory i.args)∧sizedMet enc C.prog fn (OpenSpec.ofChange s) apart (w.forCall tape i).memory i.args)∧a.holds C.prog (lone (Frame.enter C.prog f i.args .normal) [] (w.forCall tape i)))
  (law:∀ (W:World) (base:Nat) (args:Array Value) (ds gs:List (DataW H)) (before:List MemPlace),(∀ (j:Nat) t v,fn.params[j]? = some t→args[j]? = some v→Value.okWide C.prog W .any base t v) →
   DataW.Whole enc C.prog fn.params.toList s.vars apart W args.toList ds gs before→X W args→W.ShapedOpen C.prog →
   Calls C.prog f args W fun e W'=>∃ v,e=.returned v∧s.post enc C.prog fn apart fresh handsOn again W args v W') :
  ReturnsInHanded a C os f .any (fun w args=>(s.pre enc C.prog fn conds apart w args∧X w args)∧sizedMet enc C.prog fn (OpenSpec.ofChange s) apart w args) (s.post enc C.prog fn apart fresh handsOn again):=
 returnsInHanded_of_calls own started noInit witness fun w tape i _ hsh _ hok hpre _=>by
  obtain⟨_,_,_,g,hg,_,_,_,_,hval⟩:=hok
  obtain rfl:g=fn:=Option.some.inj (hg.symm.trans hfn)
  obtain⟨⟨⟨ds,gs,before,hw,_⟩,hx⟩,_⟩:=hpre
  refine (law (w.forCall tape i) w.heap.size i.args ds gs before hval (DataW.Whole.of_heap (w':=w.forCall tape i) (by rfl) hw) (hX _ _ _ (by rfl) hx) hsh).mono fun e W' h=>?_
  obtain⟨v,rfl,hp⟩:=h
  exact ChangeSpec.post_blind hp
theorem qi {a b:Bool} (h:a=true) (k:b=true):(a && b)=true:=by rw[h,k];rfl
end Go.Pt
namespace Go.Proofs.YtabdpmnhjlmnlaaGreatDoor
open Go Go.Pt Go.RowKit Go.Lib Go.Cr Go.ChangeShapes Go.WideShapes
set_option maxRecDepth 10000
theorem zag {W:World} {P:Program} {n:String} {g:Nat} {cs:Array Value} (hg:P.globalNamed n=some g) (h:W.var? P n=some cs):∃ t fr,memOf W g=some ⟨t,cs.toList,fr⟩:=by
 unfold World.var? at h
 rw[hg] at h
 simp only[Option.bind_some] at h
 split at h
 ·rename_i c t fr hh
  cases h
  exact⟨t,fr,by unfold memOf;rw[hh]⟩
 ·cases h
theorem gl_of_laid {W:World} (h:laidMetH Tryz.prog Rows.crabBeginsRow.laid W):Gl (memOf W):=by
 rw[MakeChecks.laidMetH_plain _ _ _ (by kernel_rfl)] at h
 have hp : VarReads Tryz.prog W "math/bits.deBruijn64tab" Rows.laid_math_bits_deBruijn64tab := laidMet.reads h (by simp [Rows.crabBeginsRow])
 obtain⟨g,t,cs,fuel,p,hg,ht,hv,hd⟩:=hp
 obtain rfl := Option.some.inj ((show Tryz.prog.globalNamed "math/bits.deBruijn64tab" = some 0 by kernel_rfl).symm.trans hg)
 obtain rfl:=Option.some.inj ((show (Tryz.prog.globals[0]?).map (·.type)=some 337 by kernel_rfl).symm.trans ht)
 obtain⟨t',fr,hm⟩:=zag hg hv
 have e:(Rows.laid_math_bits_deBruijn64tab:DataW Unit)=tabData .u8 (deBruijn64tab.map fun (n:Nat)=>(n:Int)):=by kernel_rfl
 rw[e] at hd
 have hcs:=cells_of_tab Tryz.underlying337 Tryz.underlying5 (by kernel_rfl) (by kernel_rfl) hd
 rw[hcs,List.map_map] at hm
 exact⟨t',fr,hm⟩
end Go.Proofs.YtabdpmnhjlmnlaaGreatDoor
end
