/- Texts of this work,joined by program (pack.py): Rh,Ri,Rj,Rk,Rm,Rn,Ro,Ka,Kb,Kc,Rs,Rt,Ru,Rp,Wk,Rq,PsV,Jv,PtL,PtM,Jr,Jt,Jg. -/
import Derived.Test.YtabdpmnhjlmnlaaGreatDoorQCO
import Derived.Test.YtabdpmnhjlmnlaaGreatDoorQCL
import Derived.Test.YtabdpmnhjlmnlaaGreatDoorQCN
import Derived.Test.YtabdpmnhjlmnlaaGreatDoorQCI
import Derived.Test.YtabdpmnhjlmnlaaGreatDoorQCC
import Derived.Test.YtabdpmnhjlmnlaaGreatDoorQCF
import Derived.Test.YtabdpmnhjlmnlaaGreatDoorQCH
import Derived.Test.YtabdpmnhjlmnlaaGreatDoorQCB
import Derived.ProofKit
import Derived.OpenShut
import Derived.Test.YtabdpmnhjlmnlaaGreatDoorRows
import Derived.LaidMore
import Derived.Lay
import Derived.Lib.LaidU8
import Derived.Deep.Slices
import Derived.Stop.Joined
set_option linter.unusedVariables false
section
namespace Go.Cr
open Go Go.Pt
open Go.Proofs.YtabdpmnhjlmnlaaGreatDoor (zbu zfw zkg zmv zok)
section
variable {S S':Mem} {ρ ρ':Rho} {R:Nat→Prop} {r:Nat} {D:Ra} {W:Wd}
theorem RefA.setV (h:RefA S ρ r D W) (hwk:WOk W) {n:Nat} (hn:n<6) (m:Mv S ρ S' ρ' R) (hR:∀ q,R q→q=200∨q=210+n∨q=220+n∨(250+4*n≤q∧q<254+4*n)) {x':Rv} {v':Bv} (hd:Pc S' ρ' 200 r ((D.setX n x').c (W.setV n v')).L) (hv:RvP S' ρ' n x' v')
  (hon:v'.on=(W.vm n).on) (hmb:x'.mb=(D.x n).mb) (hbe:x'.begun=(D.x n).begun) (hat:x'.at_=(D.x n).at_):RefA S' ρ' r (D.setX n x') (W.setV n v'):=by
 have hvm:∀ i,(W.setV n v').vm i=if i=n then v' else W.vm i:=fun i=>rfl
 have hx:∀ i,(D.setX n x').x i=if i=n then x' else D.x i:=fun i=>rfl
 refine⟨m.rg,hd,fun i hi=>?_,fun i hi ho=>?_,fun i p l hl=>?_,fun i hi=>?_,h.now,fun i ho=>?_,fun i k w hw=>?_⟩
 ·rw[hvm,hx]
  by_cases e:i=n
  ·subst e;rw[if_pos rfl,if_pos rfl];exact hv
  ·rw[if_neg e,if_neg e]
   have h0:=h.vs i hi
   exact⟨h0.se.keep m fun hr=>by have:=hR _ hr;omega,h0.ke.keep m fun hr=>by have:=hR _ hr;omega,fun ho j hj=>by
    obtain⟨b,h1,h2⟩:=h0.di ho j hj
    exact⟨b,h1,h2.keep m fun hr=>by have:=hR _ hr;omega⟩,h0.off⟩
 ·have ho':(W.vm i).on=true:=by
   rw[hvm] at ho
   by_cases e:i=n
   ·subst e;rw[if_pos rfl] at ho;rw[←hon];exact ho
   ·rw[if_neg e] at ho;exact ho
  obtain⟨mb,h1,h2⟩:=h.me i hi ho'
  refine⟨mb,?_,h2.keep m fun hr=>by have:=hR _ hr;omega⟩
  rw[hx]
  by_cases e:i=n
  ·subst e;rw[if_pos rfl,hmb];exact h1
  ·rw[if_neg e];exact h1
 ·have:=hwk.six' hl
  exact (h.pg i p l hl).keep m fun hr=>by have:=hR _ hr;omega
 ·exact (h.ev i hi).keep m fun hr=>by have:=hR _ hr;omega
 ·have ho':(W.vm i).on=true:=by
   rw[hvm] at ho
   by_cases e:i=n
   ·subst e;rw[if_pos rfl] at ho;rw[←hon];exact ho
   ·rw[if_neg e] at ho;exact ho
  have:=h.time i ho'
  rw[hx]
  by_cases e:i=n
  ·subst e;rw[if_pos rfl,hbe];exact this
  ·rw[if_neg e];exact this
 ·have:=h.at_ i k w hw
  rw[hx]
  by_cases e:i=n
  ·subst e;rw[if_pos rfl,hat];exact this
  ·rw[if_neg e];exact this
theorem zbs {n:Nat}:D.setX n (D.x n)=D:=by unfold Ra.setX;rw[xG]
theorem RefA.seats (h:RefA S ρ r D W) (hwk:WOk W) {n:Nat} (hn:n<6) {seats':List Seat} (hon:(W.vm n).on=true) (m:Mv S ρ S' ρ (· = 210+n)) (hs:Rw S' ρ (210+n) 26 (D.x n).ss (seats'.flatMap Seat.L)):RefA S' ρ r D (W.setV n { W.vm n with seats:=seats' }):=by
 have hv:=h.vs n hn
 have:=h.setV hwk hn (x':=D.x n) (v':={ W.vm n with seats:=seats' }) m (fun q hq=>by omega) (by
  have h2:=h.hd.keep m (by omega)
  rw[zbs]
  have e:(D.c (W.setV n { W.vm n with seats:=seats' })).L=(D.c W).L:=by
   unfold Rc0.L
   show _++(cF 6 (fun i=>rvL (D.x i) ((W.setV n { W.vm n with seats:=seats' }).vm i) (fun p=>(W.own i p).isSome) fun k=>(W.alarm i k).isSome)++_)=_++(cF 6 (fun i=>rvL (D.x i) (W.vm i) (fun p=>(W.own i p).isSome) fun k=>(W.alarm i k).isSome)++_)
   rw[ye (n:=6) (f:=fun i=>rvL (D.x i) ((W.setV n { W.vm n with seats:=seats' }).vm i) (fun p=>(W.own i p).isSome) fun k=>(W.alarm i k).isSome) (g:=fun i=>rvL (D.x i) (W.vm i) (fun p=>(W.own i p).isSome) fun k=>(W.alarm i k).isSome) fun i _=>by
    show rvL (D.x i) (upd W.vm n { W.vm n with seats:=seats' } i) _ _=_
    by_cases e:i=n
    ·subst e;rw[zq];rfl
    ·rw[zo e]]
   rfl
  rw[e];exact h2) ⟨hs,hv.ke.keep m (by omega),fun ho j hj=>by
   obtain⟨b,h1,h2⟩:=hv.di hon j hj
   exact⟨b,h1,h2.keep m (by omega)⟩,fun ho=>hv.off ho⟩ rfl rfl rfl rfl
 rw[zbs] at this
 exact this
end
end Go.Cr
namespace Go.Proofs.YtabdpmnhjlmnlaaGreatDoor
open Go Go.Pt Go.Cr Go.Hp
def RAft (r:Nat) (S:Mem) (ρ:Rho) (W':Wd) (S':Mem):Prop:=∃ ρ' D',Mv S ρ S' ρ' Rd∧RefA S' ρ' r D' W'
section
variable {S S':Mem} {ρ ρ':Rho} {R:Nat→Prop} {r:Nat} {D:Ra} {W:Wd}
theorem RAft.here (h:RefA S ρ r D W):RAft r S ρ W S:=⟨ρ,D,Mv.refl h.rg,h⟩
theorem _root_.Go.Cr.RefA.aft {W':Wd} {D':Ra} (h:RefA S' ρ' r D' W') (m:Mv S ρ S' ρ' R) (hR:∀ q,R q→200≤q∧q<500):RAft r S ρ W' S':=⟨ρ',D',m.mono hR,h⟩
theorem RAft.trans {S1:Mem} {W':Wd} (m:Mv S ρ S1 ρ' R) (hR:∀ q,R q→200≤q∧q<500) (h:RAft r S1 ρ' W' S'):RAft r S ρ W' S':=by
 obtain⟨ρ2,D2,m2,h2⟩:=h
 exact⟨ρ2,D2,(m.mono hR).trans m2,h2⟩
end
end Go.Proofs.YtabdpmnhjlmnlaaGreatDoor
end
section
namespace Go.Cr
open Go Go.Pt
def ra0:Ra:=⟨0,fun _=>rv0,fun _=>nilL,fun _=>0⟩
theorem zoU {f:Int}:(ra0.c (W0 f)).L=spl (Rc0.L ⟨0,0,fun _=>rv0,fun _=>bv0,fun _ _=>false,fun _ _=>false,fun _=>ls0,fun _=>nilL⟩) 1 [.int .i64 f]:=rfl
end Go.Cr
namespace Go.Proofs.YtabdpmnhjlmnlaaGreatDoor
open Go Go.Pt Go.Cr Go.Hp
section
variable {S S':Mem} {ρ ρ':Rho} {R:Nat→Prop} {r:Nat} {D:Ra} {W:Wd}
theorem zmH:z141=Rc0.L ⟨0,0,fun _=>rv0,fun _=>bv0,fun _ _=>false,fun _ _=>false,fun _=>ls0,fun _=>nilL⟩:=by kernel_rfl
theorem zkj (hg:∀ b r,ρ b=some r→S b≠none) {f:Int} {Q:Pt→Mem→Prop} (hQ:∀ r ρ' S',Mv S ρ S' ρ' (fun _=>False)→RefA S' ρ' r ra0 (W0 f)→Q (some (r,0)) S'):xO S f Q:=by
 apply gH
 unfold xg
 intro b hb
 have m:Mv S ρ (S.set b (bw 141 (spl z141 1 [.int .i64 f]))) (ρ.upd b 200) (fun _=>False):=(Mv.refl hg).new hb _ 200
 refine hQ b _ _ m ⟨m.rg,⟨⟨⟨_,zO,rfl,?_⟩⟩,qU⟩,fun n _=>⟨Rw.nil,Kr.nil,fun h=>(by cases h),fun _=>rfl⟩,fun n _ h=>(by cases h),fun n p l h=>(by cases h),fun n _=>Rw.nil,by decide,fun n h=>(by cases h),fun n k w h=>(by cases h)⟩
 rw[zoU,←zmH]
 have e:(bw 141 (spl z141 1 [.int .i64 f])).cs=spl z141 1 [.int .i64 f]:=rfl
 rw[e]
 exact zk rfl
end
end Go.Proofs.YtabdpmnhjlmnlaaGreatDoor
end
section
namespace Go.Cr
open Go Go.Pt
section
variable {S S':Mem} {ρ ρ':Rho} {R:Nat→Prop} {r:Nat} {D:Ra} {W:Wd}
theorem zgt {m q:Nat} {l l':List Int} (ho:W.own m q=some l) (n p:Nat):((W.setO m q (some l')).own n p).isSome=(W.own n p).isSome:=by
 show (upd W.own m (upd (W.own m) q (some l')) n p).isSome=_
 by_cases e:n=m
 ·subst e
  rw[zq]
  by_cases e2:p=q
  ·subst e2;rw[zq,ho];rfl
  ·rw[zo e2]
 ·rw[zo e]
theorem zod {m q:Nat} {l l':List Int} (ho:W.own m q=some l):D.c (W.setO m q (some l'))=D.c W:=by
 unfold Ra.c
 have:(fun n p=>((W.setO m q (some l')).own n p).isSome)=fun n p=>(W.own n p).isSome:=by
  funext n p;exact zgt ho n p
 rw[this];rfl
theorem zkd {m q:Nat} {l l':List Int} (ho:W.own m q=some l) (n:Nat):((W.setO m q (some l')).gm n).map=(W.gm n).map:=by
 funext p
 show (if 32≤p then none else ((W.setO m q (some l')).where_ n p).map fun q=>(32*q.1+q.2.1,q.2.2))=if 32≤p then none else (W.where_ n p).map fun q=>(32*q.1+q.2.1,q.2.2)
 have:(W.setO m q (some l')).where_ n p=W.where_ n p:=by
  unfold Wd.where_
  rw[zgt ho];rfl
 rw[this]
theorem RefA.page (h:RefA S ρ r D W) (hwk:WOk W) {m q:Nat} {l l':List Int} (ho:W.own m q=some l) :
  RefA (S.set (D.A (32*m+q)) (bw 5 (bL l'))) ρ r D (W.setO m q (some l'))∧Mv S ρ (S.set (D.A (32*m+q)) (bw 5 (bL l'))) ρ (· = 300+(32*m+q)):=by
 have hb:=h.pg m q l ho
 have h6:=hwk.six' ho
 have mv:Mv S ρ (S.set (D.A (32*m+q)) (bw 5 (bL l'))) ρ (· = 300+(32*m+q)):=(Mv.refl (R:=(· = 300+(32*m+q))) h.rg).put hb.rol rfl _
 refine⟨⟨mv.rg,?_,fun i hi=>(h.vs i hi).keep mv hi fun r h1=>by omega,fun i hi hon=>?_,fun n p l2 hl2=>?_,fun i hi=>(h.ev i hi).keep mv (by omega),h.now,h.time,h.at_⟩,mv⟩
 ·rw[zod ho];exact h.hd.keep mv (by omega)
 ·obtain⟨mb,h1,h2⟩:=h.me i hi hon
  refine⟨mb,h1,?_⟩
  rw[zkd ho];exact h2.keep mv (by omega)
 ·have hl3:upd W.own m (upd (W.own m) q (some l')) n p=some l2:=hl2
  by_cases e:n=m∧p=q
  ·obtain⟨rfl,rfl⟩:=e
   rw[zq,zq] at hl3
   cases hl3
   exact⟨zO,hb.rol⟩
  ·have e3:W.own n p=some l2:=by
    by_cases e1:n=m
    ·subst e1
     rw[zq,zo (fun e2=>e ⟨rfl,e2⟩)] at hl3;exact hl3
    ·rw[zo e1] at hl3;exact hl3
   have h7:=hwk.six' e3
   exact (h.pg n p l2 e3).keep mv (by omega)
def RI (r n:Nat) (D:Ra) (W:Wd) (S:Mem) (ρ:Rho) (g:GM):Prop:=∃ d,RefA S ρ r D (W.setDat d)∧WOk (W.setDat d)∧g=(W.setDat d).gm n
end
end Go.Cr
end
section
namespace Go.Cr
open Go Go.Pt
structure Sole (W:Wd) (n:Nat):Prop where
 on:(W.vm n).on=true
 off:∀ m,m≠n→(W.vm m).on=false
 ls:∀ i,(W.ls i).on=false
section
variable {S S':Mem} {ρ ρ':Rho} {R:Nat→Prop} {r:Nat} {D:Ra} {W:Wd} {n:Nat}
theorem Sole.at_ (h:Sole W n) (m:Nat) (p:Int):leaseAt W.ls m p=none:=by
 unfold leaseAt
 rw[List.find?_eq_none]
 intro i _
 rw[h.ls i];simp
theorem Sole.where_ (h:Sole W n) (p:Nat):W.where_ n p=if (W.own n p).isSome=true then some (n,p,true) else none:=by
 unfold Wd.where_
 rw[h.at_];rfl
theorem Sole.map (h:Sole W n) {p:Nat} (hp:p<32):(W.gm n).map p=if (W.own n p).isSome=true then some (32*n+p,true) else none:=by
 rw[zbG hp,h.where_]
 split <;> rfl
theorem Sole.there (h:Sole W n) {m:Int} (hm:W.there m):m=n:=by
 by_cases e:m.toNat=n
 ·have:=hm.1;omega
 ·have:=h.off m.toNat e
  rw[hm.2.2] at this;cases this
theorem zoD {v':Bv} (h1:v'.on=(W.vm n).on) (h2:v'.quota=(W.vm n).quota) (h3:v'.bells=(W.vm n).bells):(D.c (W.setV n v')).L=(D.c W).L:=by
 unfold Rc0.L
 show _++(cF 6 (fun i=>rvL (D.x i) ((W.setV n v').vm i) (fun p=>(W.own i p).isSome) fun k=>(W.alarm i k).isSome)++_)=_++(cF 6 (fun i=>rvL (D.x i) (W.vm i) (fun p=>(W.own i p).isSome) fun k=>(W.alarm i k).isSome)++_)
 rw[ye (n:=6) (f:=fun i=>rvL (D.x i) ((W.setV n v').vm i) (fun p=>(W.own i p).isSome) fun k=>(W.alarm i k).isSome) (g:=fun i=>rvL (D.x i) (W.vm i) (fun p=>(W.own i p).isSome) fun k=>(W.alarm i k).isSome) fun i _=>by
  show rvL (D.x i) (upd W.vm n v' i) _ _=_
  by_cases e:i=n
  ·subst e
   rw[zq]
   unfold rvL
   rw[h1,h2,h3]
  ·rw[zo e]]
 rfl
theorem Bl.pt {q b:Nat} {cs:List Value} (h:Bl S ρ q b (bw 5 cs)) (hg:∀ b r,ρ b=some r→S b≠none) {i x:Nat} {v:Value} (hi:i<cs.length) (hx:x=i) {K:Mem→Prop} (hK:∀ S',Mv S ρ S' ρ (· = q)→Bl S' ρ q b (bw 5 (spl cs i [v]))→K S'):Go.Pt.pt S b x 1 [v] K:=by
 subst hx
 refine⟨⟨_,h.at_,rfl,by show x+1≤cs.length;omega⟩,?_⟩
 rw[vU h.at_]
 exact hK _ ((Mv.refl (R:=(· = q)) hg).put h.rol rfl _) ⟨zO,h.rol⟩
theorem Bl.cell {q b:Nat} {cs:List Value} (h:Bl S ρ q b (bw 5 cs)) {i:Nat}:S.cell b i=nthL cs i:=by rw[qA h.at_]
theorem zgu {p:Nat} {o:Option (List Int)} (m q:Nat):(W.setO n p o).own m q=if m=n∧q=p then o else W.own m q:=by
 show upd W.own n (upd (W.own n) p o) m q=_
 by_cases e:m=n
 ·subst e
  rw[zq]
  by_cases e2:q=p
  ·subst e2;rw[zq,if_pos ⟨rfl,rfl⟩]
  ·rw[zo e2,if_neg (fun h=>e2 h.2)]
 ·rw[zo e,if_neg (fun h=>e h.1)]
def Wd.setOF (W:Wd) (n p:Nat) (o:Option (List Int)) (f:Int):Wd:={ W.setO n p o with free:=f }
theorem Sole.setOF (h:Sole W n) {p:Nat} {o:Option (List Int)} {f:Int}:Sole (W.setOF n p o f) n:=⟨h.on,h.off,h.ls⟩
theorem RefA.own (h:RefA S ρ r D W) (hwk:WOk W) (hs:Sole W n) {p:Nat} (hp:p<32) {o:Option (List Int)} {f:Int} {A':Nat→Nat} (hA:∀ f,f≠32*n+p→A' f=D.A f) (m:Mv S ρ S' ρ' R) (hR:∀ q,R q→q=200∨q=230+n∨q=300+(32*n+p))
  {mb:Nat} (hmb:(D.x n).mb=some (mb,0)) (hd:Pc S' ρ' 200 r (({ D with A:=A' }:Ra).c (W.setOF n p o f)).L) (hme:Pc S' ρ' (230+n) mb (meL A' ((W.setOF n p o f).gm n).map)) (hpg:∀ l,o=some l→Bl S' ρ' (300+(32*n+p)) (A' (32*n+p)) (bw 5 (bL l))):RefA S' ρ' r { D with A:=A' } (W.setOF n p o f):=by
 have hn:=hwk.on6 hs.on
 refine⟨m.rg,hd,fun i hi=>(h.vs i hi).keep m hi fun q h1 h2=>by have:=hR q h2;omega,fun i hi ho=>?_,fun i q l hl=>?_,fun i hi=>(h.ev i hi).keep m fun h2=>by have:=hR _ h2;omega,h.now,h.time,h.at_⟩
 ·by_cases e:i=n
  ·subst e;exact⟨mb,hmb,hme⟩
  ·have ho':(W.vm i).on=true:=ho
   rw[hs.off i e] at ho';cases ho'
 ·have hl2:(W.setO n p o).own i q=some l:=hl
  rw[zgu] at hl2
  by_cases e:i=n∧q=p
  ·rw[if_pos e] at hl2
   obtain⟨rfl,rfl⟩:=e
   exact hpg l hl2
  ·rw[if_neg e] at hl2
   have h6:=hwk.six' hl2
   have hne:32*i+q≠32*n+p:=fun he=>e ⟨by omega,by omega⟩
   show Bl S' ρ' (300+(32*i+q)) (A' (32*i+q)) _
   rw[hA _ hne]
   exact (h.pg i q l hl2).keep m fun h2=>by have:=hR _ h2;omega
end
end Go.Cr
end
section
namespace Go.Cr
open Go Go.Pt
theorem znI {d l:List Int} (hl:l.length=d.length) {i:Nat} (hi:i<d.length):spl (bL (d.take i++l.drop i)) i [.int .u8 d[i]]=bL (d.take (i+1)++l.drop (i+1)):=by
 have h1:(d.take i).length=i:=by rw[List.length_take];omega
 have h2:(bL (d.take i)).length=i:=by unfold bL;rw[List.length_map];exact h1
 have e:bL (d.take i++l.drop i)=bL (d.take i)++bL (l.drop i):=by unfold bL;rw[List.map_append]
 have e0:l.drop i=l[i] :: l.drop (i+1):=List.drop_eq_getElem_cons (by omega)
 have e3:spl (bL (d.take i)++bL (l.drop i)) (i+0) [.int .u8 d[i]]=_:=qz (n:=i) h2
 rw[Nat.add_zero] at e3
 have e2:spl (bL (l[i] :: l.drop (i+1))) 0 [.int .u8 d[i]]=.int .u8 d[i] :: bL (l.drop (i+1)):=rfl
 rw[e,e3,e0,e2,List.take_succ_eq_append_getElem hi]
 unfold bL
 rw[List.map_append,List.map_append,List.append_assoc];rfl
end Go.Cr
namespace Go.Proofs.YtabdpmnhjlmnlaaGreatDoor
open Go Go.Pt Go.Cr Go.Hp
section
variable {S S':Mem} {ρ ρ':Rho} {R:Nat→Prop} {r:Nat} {D:Ra} {W:Wd} {n:Nat}
end
end Go.Proofs.YtabdpmnhjlmnlaaGreatDoor
end
section
namespace Go.Cr
open Go Go.Pt
section
variable {S S':Mem} {ρ ρ':Rho} {R:Nat→Prop} {r:Nat} {D:Ra} {W:Wd} {n:Nat}
theorem zmZ {x:Rv} {v:Bv} {ow al:Nat→Bool}:(rvL x v ow al).all (·.oneCell')=true:=by
 have h1:∀ {k:Nat} {f:Nat→List Value},(∀ i,(f i).all (·.oneCell')=true)→(cF k f).all (·.oneCell')=true:=fun {k f} h=>by
  induction k with
  | zero=>rfl
  | succ k ih=>show (cF k f++f k).all _=true;rw[List.all_append,ih,h k];rfl
 unfold rvL
 simp only[List.all_append,Bool.and_eq_true]
 exact⟨rfl,h1 fun _=>rfl,h1 fun _=>rfl,rfl,h1 fun _=>rfl,h1 fun _=>rfl,h1 fun _=>rfl⟩
theorem RefA.alarm (h:RefA S ρ r D W) (hwk:WOk W) (hn:n<6) {k:Nat} {w:Int} (m:Mv S ρ S' ρ (· = 200)) (hd:Pc S' ρ 200 r ((D.setX n { D.x n with at_:=upd (D.x n).at_ k w }).c (W.setAlarm n k w)).L) (hon:(W.vm n).on=true):RefA S' ρ r (D.setX n { D.x n with at_:=upd (D.x n).at_ k w }) (W.setAlarm n k w):=by
 have hx:∀ i,(D.setX n { D.x n with at_:=upd (D.x n).at_ k w }).x i=if i=n then { D.x n with at_:=upd (D.x n).at_ k w } else D.x i:=fun i=>rfl
 refine⟨m.rg,hd,fun i hi=>?_,fun i hi ho=>?_,fun i p l hl=>?_,fun i hi=>(h.ev i hi).keep m (by omega),h.now,fun i ho=>?_,fun i j a ha=>?_⟩
 ·rw[hx]
  have h0:=(h.vs i hi).keep m hi fun q h1=>by omega
  by_cases e:i=n
  ·subst e;rw[if_pos rfl]
   exact⟨h0.se,h0.ke,h0.di,fun ho=>by
    have ho':(W.vm i).on=false:=ho
    rw[hon] at ho';cases ho'⟩
  ·rw[if_neg e];exact h0
 ·obtain⟨mb,h1,h2⟩:=h.me i hi ho
  refine⟨mb,?_,h2.keep m (by omega)⟩
  rw[hx]
  by_cases e:i=n
  ·subst e;rw[if_pos rfl];exact h1
  ·rw[if_neg e];exact h1
 ·have:=hwk.six' (W:=W) (n:=i) (p:=p) (l:=l) hl
  exact (h.pg i p l hl).keep m (by omega)
 ·have:=h.time i ho
  rw[hx]
  by_cases e:i=n
  ·subst e;rw[if_pos rfl];exact this
  ·rw[if_neg e];exact this
 ·have ha':upd W.alarm n (upd (W.alarm n) k (some w)) i j=some a:=ha
  rw[hx]
  by_cases e:i=n
  ·subst e
   rw[zq] at ha'
   rw[if_pos rfl]
   show upd (D.x i).at_ k w j=a
   by_cases e2:j=k
   ·subst e2;rw[zq] at ha' ⊢;cases ha';rfl
   ·rw[zo e2] at ha' ⊢;exact h.at_ i j a ha'
  ·rw[zo e] at ha'
   rw[if_neg e];exact h.at_ i j a ha'
theorem zmr:zrep 256 [Value.int .u8 0]=bL noughts:=by kernel_rfl
theorem RefA.sec (h:RefA S ρ r D W) (hn:n<6) (hon:(W.vm n).on=true) {j:Nat} (hj:j<4):∃ b,(D.x n).d j=pgS b∧Bl S ρ (250+(4*n+j)) b (bw 5 (bL ((W.vm n).disk j))):=(h.vs n hn).di hon j hj
theorem RefA.disk (h:RefA S ρ r D W) (hwk:WOk W) (hn:n<6) (hon:(W.vm n).on=true) {j b:Nat} (hj:j<4) {l:List Int} (hb:(D.x n).d j=pgS b) (m:Mv S ρ S' ρ (· = 250+(4*n+j))) (hl:Bl S' ρ (250+(4*n+j)) b (bw 5 (bL l))):RefA S' ρ r D (W.setV n ((W.vm n).setDisk j l)):=by
 have hv:=h.vs n hn
 have hd:Pc S' ρ 200 r ((D.setX n (D.x n)).c (W.setV n ((W.vm n).setDisk j l))).L:=by
  rw[zbs,zoD (D:=D) (W:=W) (n:=n) (v':=(W.vm n).setDisk j l) rfl rfl rfl]
  exact h.hd.keep m (by omega)
 have:=h.setV hwk hn (x':=D.x n) (v':=(W.vm n).setDisk j l) m (fun q hq=>by omega) hd ⟨hv.se.keep m (by omega),hv.ke.keep m (by omega),fun _ i hi=>by
   by_cases e:i=j
   ·subst e
    refine⟨b,hb,?_⟩
    have e2:((W.vm n).setDisk i l).disk i=l:=zq
    rw[e2];exact hl
   ·obtain⟨b',h1,h2⟩:=hv.di hon i hi
    refine⟨b',h1,?_⟩
    have e2:((W.vm n).setDisk j l).disk i=(W.vm n).disk i:=zo e
    rw[e2];exact h2.keep m (by omega),fun ho=>by
   have ho':(W.vm n).on=false:=ho
   rw[hon] at ho';cases ho'⟩ rfl rfl rfl rfl
 rw[zbs] at this
 exact this
end
end Go.Cr
end
section
namespace Go.Proofs.YtabdpmnhjlmnlaaGreatDoor
open Go Go.Pt Go.Cr Go.Hp
section
variable {S S':Mem} {ρ ρ':Rho} {R:Nat→Prop} {r:Nat} {D:Ra} {W:Wd} {n:Nat}
end
end Go.Proofs.YtabdpmnhjlmnlaaGreatDoor
end
section
namespace Go.Cr
open Go Go.Pt
structure One (W:Wd) (n:Nat) (s:Seat):Prop where
 lt:n<6
 on:(W.vm n).on=true
 seats:(W.vm n).seats=[s]
def Wd.done (W:Wd) (n:Nat) (s s':Seat) (k c:Int):Wd:=(W.putSeat n 0 s').tell n (told k c 0 s.pc s')
section
variable {W:Wd} {n:Nat} {s s':Seat} {g:GM} {k c:Int}
theorem One.seat (h:One W n s):(W.vm n).seat 0=s:=by unfold Bv.seat;rw[h.seats];rfl
theorem One.run (h:One W n s) (ho:stepM s (W.gm n) (W.time n) 0=⟨s',k,c,g⟩) (h5:k≠5):W.run n 0=(0,if k=2 then ((W.setDat g.dat).done n s s' k c).hyper n 0 c s' else (W.setDat g.dat).done n s s' k c):=by
 have ht:W.there (n:Int):=⟨by omega,by have:=h.lt;omega,by rw[Int.toNat_natCast];exact h.on⟩
 unfold Wd.run
 rw[Int.toNat_natCast,if_neg (by
  rintro (h1 | h1 | h1)
  ·exact h1 ht
  ·omega
  ·rw[h.seats] at h1;simp at h1)]
 dsimp only
 rw[show (0:Int).toNat=0 from rfl,h.seat,ho]
 dsimp only
 rw[if_neg h5]
 rfl
theorem zfT (m:Nat):(W.done n s s' k c).vm m=if m=n then (W.vm n).setSeat 0 s' else W.vm m:=by
 show upd W.vm n _ m=_
 unfold upd;rfl
theorem One.done (h:One W n s):One (W.done n s s' k c) n s':=by
 refine⟨h.lt,?_,?_⟩
 ·rw[zfT,if_pos rfl];exact h.on
 ·rw[zfT,if_pos rfl]
  show (W.vm n).seats.set 0 s'=[s']
  rw[h.seats];rfl
theorem zkY:((W.done n s s' k c).vm n).keys=(W.vm n).keys:=by rw[zfT,if_pos rfl];rfl
theorem zhJ:(W.done n s s' k c).ev n=W.ev n++[told k c 0 s.pc s']:=zq
theorem done_own:(W.done n s s' k c).own=W.own:=rfl
theorem zhr {time me w:Int} (h0:s.st=0) (ho:s.opn=false) (hb:s.base=0) {pc:Nat} (hpc:s.pc=pc) (hp:pc%4=0) (hlt:pc<256) {f:Nat} {b:Bool} (hm:g.map 0=some (f,b)) {page:List Int} (hd:g.dat f=page) (hw:num ((page.drop pc).take 4)=w) (hi:isW w):stepM s g time me=doM s g time me (dK w) (dA w) (dB w) (dC w) (dN w):=by
 unfold stepM
 rw[if_neg (by rw[h0];simp)]
 have hn:nextL s=none:=by unfold nextL;rw[if_neg (by rw[ho];simp)]
 have hg:getW s g s.pc 4=some w:=by
  unfold getW place
  rw[if_neg (by omega),if_pos hb]
  dsimp only
  rw[if_neg (by omega)]
  unfold ldB
  rw[show (s.pc/256).toNat=0 by omega,show (s.pc%256).toNat=pc by omega,hm]
  simp only[Option.map_some,hd,hw]
 rw[hn,hg]
 dsimp only
 rw[if_pos hi]
end
section
variable {s:Seat} {g:GM} {t me a b c n:Int}
theorem doM3:doM s g t me 3 a b c n=⟨{ s.setr a (x64 (s.r b+s.r c)) with pc:=x64 (s.pc+4) },0,0,g⟩:=rfl
theorem doM14:doM s g t me 14 a b c n=⟨{ s with pc:=if s.r a=s.r b then x64 (s.pc+x64 (4*x64 n)) else x64 (s.pc+4) },0,0,g⟩:=rfl
theorem doM20:doM s g t me 20 a b c n=⟨{ s with pc:=x64 (s.pc+4) },2,x64 n,g⟩:=rfl
end
def Wd.ans (W:Wd) (n:Nat) (c e v:Int):Wd:=(W.putSeat n 0 (((W.vm n).seat 0).answer e v)).tell n ⟨2,0,ior .u64 (x64 (c*256)) e,v⟩
section
variable {W W':Wd} {n:Nat} {s:Seat} {c e v:Int}
theorem zfL (h:W.call n 0 c (s.r 1) (s.r 2) (s.r 3)=(v,e,W')):W.hyper n 0 c s=W'.ans n c e v:=by
 unfold Wd.hyper
 rw[h];rfl
theorem ziz (m:Nat):(W.ans n c e v).vm m=if m=n then (W.vm n).setSeat 0 (((W.vm n).seat 0).answer e v) else W.vm m:=by
 show upd W.vm n _ m=_
 unfold upd;rfl
theorem One.ans (h:One W n s):One (W.ans n c e v) n (s.answer e v):=by
 refine⟨h.lt,?_,?_⟩
 ·rw[ziz,if_pos rfl];exact h.on
 ·rw[ziz,if_pos rfl,h.seat]
  show (W.vm n).seats.set 0 _=_
  rw[h.seats];rfl
theorem ziA:((W.ans n c e v).vm n).keys=(W.vm n).keys:=by rw[ziz,if_pos rfl];rfl
theorem zmD:(W.ans n c e v).ev n=W.ev n++[⟨2,0,ior .u64 (x64 (c*256)) e,v⟩]:=zq
theorem ans_own:(W.ans n c e v).own=W.own:=rfl
theorem gm_own {p:Nat} (hp:p<32) {l:List Int} (h:W.own n p=some l):(W.gm n).map p=some (32*n+p,true)∧(W.gm n).dat (32*n+p)=l:=by
 constructor
 ·show (if 32≤p then none else (W.where_ n p).map fun q=>(32*q.1+q.2.1,q.2.2))=_
  rw[if_neg (by omega)]
  unfold Wd.where_
  rw[if_pos (by rw[h];rfl)];rfl
 ·show (W.own ((32*n+p)/32) ((32*n+p)%32)).getD []=l
  rw[show (32*n+p)/32=n by omega,show (32*n+p)%32=p by omega,h];rfl
end
end Go.Cr
end
section
namespace Go.Cr
open Go Go.Pt
def keyImg:List Int:=[8,0,0,5,1,0,0,80,255,255,168,58]
structure KX (W:Wd) (pc:Nat) (l:List Int):Prop where
 ex:∃ s:Seat,One W 0 s∧s.st=0∧s.opn=false∧s.base=0∧s.pc=pc
 keys:(W.vm 0).keys=l
 own:W.own 0 0=some (pageB keyImg 0)
theorem One.setV {W:Wd} {n:Nat} {s s':Seat} (h:One W n s) {v:Bv} {b:Bool} (hb:b=true) (h1:v.on=b) (h2:v.seats=[s']):One (W.setV n v) n s':=by
 subst hb
 refine⟨h.lt,?_,?_⟩
 ·show Bv.on (upd W.vm n v n)=true
  rw[zq];exact h1
 ·show Bv.seats (upd W.vm n v n)=[s']
  rw[zq];exact h2
theorem znr:isW 1342177281:=by decide +kernel
theorem zns:isW 984154111:=by decide +kernel
section
variable {W:Wd} {l:List Int}
theorem KX.done {pc:Nat} (h:KX W pc l) {s s':Seat} (ho:One W 0 s) {pc':Nat} (h1:s'.st=0) (h2:s'.opn=false) (h3:s'.base=0) (h4:s'.pc=pc') {k c:Int}:KX (W.done 0 s s' k c) pc' l:=
 ⟨⟨s',ho.done,h1,h2,h3,h4⟩,by rw[zkY];exact h.keys,by rw[done_own];exact h.own⟩
theorem KX.hvc (hwk:WOk W) (h:KX W 4 l):(W.run 0 0).1=0∧KX (W.run 0 0).2 8 l.tail∧∃ x,(W.run 0 0).2.ev 0=W.ev 0++[x,⟨2,0,if l=[] then 258 else 256,l.headD 0⟩]:=by
 obtain⟨s,ho,h1,h2,h3,h4⟩:=h.ex
 obtain⟨g1,g2⟩:=gm_own (n:=0) (by decide) h.own
 have hst:stepM s (W.gm 0) (W.time 0) 0=⟨{ s with pc:=8 },2,1,W.gm 0⟩:=by
  rw[zhr (w:=1342177281) h1 h2 h3 h4 (by decide) (by decide) g1 g2 (by decide +kernel) znr]
  have e1:dK 1342177281=20:=by decide
  have e2:dN 1342177281=1:=by decide
  rw[e1,e2,doM20,h4];rfl
 have hr:=ho.run hst (by decide)
 rw[show ((0:Nat):Int)=0 from rfl,if_pos rfl] at hr
 rw[xK fun m q l h=>(hwk.pg m q l h).2.1] at hr
 rw[hr]
 have hd:KX (W.done 0 s { s with pc:=8 } 2 1) 8 l:=h.done (s':={ s with pc:=8 }) ho h1 h2 h3 (pc':=8) rfl
 have hdo:One (W.done 0 s { s with pc:=8 } 2 1) 0 { s with pc:=8 }:=ho.done
 have hdk:=hd.keys
 refine⟨rfl,?_⟩
 cases l with
 | nil=>
  have hcall:(W.done 0 s { s with pc:=8 } 2 1).call 0 0 1 (({ s with pc:=8 }:Seat).r 1) (({ s with pc:=8 }:Seat).r 2) (({ s with pc:=8 }:Seat).r 3)=(0,2,W.done 0 s { s with pc:=8 } 2 1):=by
   show Wd.nextKey _ 0=_
   unfold Wd.nextKey
   rw[hdk]
  rw[zfL hcall]
  refine⟨⟨⟨_,hdo.ans,h1,h2,h3,rfl⟩,by rw[ziA];exact hdk,by rw[ans_own];exact hd.own⟩,told 2 1 0 s.pc { s with pc:=8 },?_⟩
  rw[zmD,zhJ,List.append_assoc];rfl
 | cons x l=>
  have hcall:(W.done 0 s { s with pc:=8 } 2 1).call 0 0 1 (({ s with pc:=8 }:Seat).r 1) (({ s with pc:=8 }:Seat).r 2) (({ s with pc:=8 }:Seat).r 3)=(x,0,(W.done 0 s { s with pc:=8 } 2 1).setV 0 (((W.done 0 s { s with pc:=8 } 2 1).vm 0).setKeys l)):=by
   show Wd.nextKey _ 0=_
   unfold Wd.nextKey
   rw[hdk]
  rw[zfL hcall]
  have hdo2:One ((W.done 0 s { s with pc:=8 } 2 1).setV 0 (((W.done 0 s { s with pc:=8 } 2 1).vm 0).setKeys l)) 0 { s with pc:=8 }:=hdo.setV rfl hdo.on hdo.seats
  refine⟨⟨⟨_,hdo2.ans,h1,h2,h3,rfl⟩,?_,by rw[ans_own];exact hd.own⟩,told 2 1 0 s.pc { s with pc:=8 },?_⟩
  ·rw[ziA]
   show Bv.keys (upd (W.done 0 s { s with pc:=8 } 2 1).vm 0 (((W.done 0 s { s with pc:=8 } 2 1).vm 0).setKeys l) 0)=_
   rw[zq];rfl
  ·rw[zmD]
   show (W.done 0 s { s with pc:=8 } 2 1).ev 0++_=_
   rw[zhJ,List.append_assoc];rfl
theorem KX.beq (hwk:WOk W) (h:KX W 8 l):(W.run 0 0).1=0∧KX (W.run 0 0).2 4 l∧∃ x,(W.run 0 0).2.ev 0=W.ev 0++[x]:=by
 obtain⟨s,ho,h1,h2,h3,h4⟩:=h.ex
 obtain⟨g1,g2⟩:=gm_own (n:=0) (by decide) h.own
 have hst:stepM s (W.gm 0) (W.time 0) 0=⟨{ s with pc:=4 },0,0,W.gm 0⟩:=by
  rw[zhr (w:=984154111) h1 h2 h3 h4 (by decide) (by decide) g1 g2 (by decide +kernel) zns]
  have e1:dK 984154111=14:=by decide
  have e2:dN 984154111 = -1:=by decide
  have e3:dA 984154111=dB 984154111:=by decide
  rw[e1,e2,e3,doM14,if_pos rfl,h4];rfl
 have hr:=ho.run hst (by decide)
 rw[show ((0:Nat):Int)=0 from rfl,if_neg (by decide)] at hr
 rw[xK fun m q l h=>(hwk.pg m q l h).2.1] at hr
 rw[hr]
 exact⟨rfl,h.done (s':={ s with pc:=4 }) ho h1 h2 h3 (pc':=4) rfl,_,zhJ⟩
end
end Go.Cr
end
section
namespace Go.Cr
open Go Go.Pt
def le4 (w:Int):List Int:=[w%256,w/256%256,w/65536%256,w/16777216%256]
theorem znn {w:Int} (h:0≤w) (h2:w<4294967296):num (le4 w)=w:=by simp only[le4,num];omega
def imgW (l:List Int):List Int:=l.flatMap le4
theorem zir:∀ l:List Int,(imgW l).length=4*l.length
 | []=>rfl
 | a :: l=>by
  have:=zir l
  unfold imgW at this ⊢
  rw[List.flatMap_cons,List.length_append,this,List.length_cons]
  show 4+_=_
  omega
theorem zkR:∀ {l:List Int} {i:Nat} {w:Int},l[i]? = some w→((imgW l).drop (4*i)).take 4=le4 w
 | [],i,w,h=>by simp at h
 | a :: l,0,w,h=>by
  simp only[List.getElem?_cons_zero,Option.some.injEq] at h
  subst h
  rfl
 | a :: l,i+1,w,h=>by
  rw[List.getElem?_cons_succ] at h
  have:=zkR h
  rw[←this,show imgW (a :: l)=le4 a++imgW l from rfl,show 4*(i+1)=(le4 a).length+4*i by simp only[le4,List.length_cons,List.length_nil];omega,List.drop_append]
  rw[List.drop_of_length_le (by omega),List.nil_append,show (le4 a).length+4*i-(le4 a).length=4*i by omega]
theorem zlK {l:List Int} (hl:l.length≤64) {i:Nat} {w:Int} (h:l[i]? = some w):((pageB (imgW l) 0).drop (4*i)).take 4=le4 w:=by
 have hi:=(List.getElem?_eq_some_iff.1 h).1
 have hn:=zir l
 unfold pageB fit256
 have e:(imgW l).take 256=imgW l:=List.take_of_length_le (by omega)
 rw[Nat.mul_zero,List.drop_zero,e,List.drop_append_of_le_length (by omega),List.take_append_of_le_length (by rw[List.length_drop];omega)]
 exact zkR h
theorem rtN {k a b c n:Int} (h:Rt k a b c 0) (hn:fN (cls k)=true) (hk:¬(k=18∨k=19)):Rt k a b c n:=⟨h.kk,h.aa,h.bb,h.cc,.inl hn,fun h=>absurd h hk⟩
structure PX (W:Wd) (n:Nat) (ws:List Int) (s:Seat):Prop where
 one:One W n s
 st:s.st=0
 opn:s.opn=false
 base:s.base=0
 own:W.own n 0=some (pageB (imgW ws) 0)
 len:ws.length≤64
section
variable {W:Wd} {n:Nat} {ws:List Int} {s s':Seat} {g:GM} {i:Nat} {k a b c m x y:Int}
theorem PX.run (h:PX W n ws s) (hpc:s.pc=(4*i:Nat)) (hi:ws[i]? = some (wrd k a b c m)) (hb:Bd k a b c m) (hr:Rt k a b c m)
  (hd:doM s (W.gm n) (W.time n) 0 k a b c m=⟨s',x,y,g⟩) (h5:x≠5):W.run n 0=(0,if x=2 then ((W.setDat g.dat).done n s s' x y).hyper n 0 y s' else (W.setDat g.dat).done n s s' x y):=by
 obtain⟨w1,e1,e2,e3,e4,e5⟩:=znQ hb hr
 have hw:=znR hb hr
 have hlt:=(List.getElem?_eq_some_iff.1 hi).1
 have hlen:=h.len
 obtain⟨g1,g2⟩:=gm_own (n:=n) (by decide) h.own
 refine h.one.run ?_ h5
 rw[zhr h.st h.opn h.base hpc (by omega) (by omega) g1 g2 (by rw[zlK h.len hi];exact znn hw.1 (by omega)) w1,e1,e2,e3,e4,e5,hd]
theorem PX.plain (h:PX W n ws s) (hwk:WOk W) (hpc:s.pc=(4*i:Nat)) (hi:ws[i]? = some (wrd k a b c m)) (hb:Bd k a b c m) (hr:Rt k a b c m)
  (hd:doM s (W.gm n) (W.time n) 0 k a b c m=⟨s',0,y,W.gm n⟩):W.run n 0=(0,W.done n s s' 0 y):=by
 rw[h.run hpc hi hb hr hd (by decide),if_neg (by decide),xK fun m q l h=>(hwk.pg m q l h).2.1]
theorem PX.hvc (h:PX W n ws s) (hwk:WOk W) (hpc:s.pc=(4*i:Nat)) (hi:ws[i]? = some (wrd 20 0 0 0 m)) (h1:0≤m) (h2:m≤255) (hp:s' = { s with pc:=s.pc+4 }) {e v:Int} {W':Wd}
  (hc:(W.done n s s' 2 m).call n 0 m (s'.r 1) (s'.r 2) (s'.r 3)=(v,e,W')):W.run n 0=(0,W'.ans n m e v):=by
 have hlt:=(List.getElem?_eq_some_iff.1 hi).1
 have hlen:=h.len
 have hd:doM s (W.gm n) (W.time n) 0 20 0 0 0 m=⟨s',2,m,W.gm n⟩:=by
  rw[doM20,show x64 m=m by rw[zbL];omega,show x64 (s.pc+4)=s.pc+4 by rw[zbL];omega,hp]
 have hb:Bd 20 0 0 0 m:=by constructor <;> omega
 rw[h.run hpc hi hb (rtN (by decide) (by decide) (by decide)) hd (by decide),if_pos rfl,xK fun m q l h=>(hwk.pg m q l h).2.1,zfL hc]
theorem PX.done (h:PX W n ws s) (h1:s'.st=0) (h2:s'.opn=false) (h3:s'.base=0):PX (W.done n s s' x y) n ws s':=
 ⟨h.one.done,h1,h2,h3,h.own,h.len⟩
theorem PX.ans {e v:Int} (h:PX W n ws s):PX (W.ans n c e v) n ws (s.answer e v):=
 ⟨h.one.ans,h.st,h.opn,h.base,h.own,h.len⟩
end
def Wd.made (W:Wd) (n:Nat) (seats quota pages:Int) (img:List Int):Wd:=
 { W with free:=W.free-(5+pages),vm:=upd W.vm n (mkV seats quota),time:=upd W.time n 0,ev:=upd W.ev n [],own:=upd W.own n fun p=>if (p:Int)<pages then some (pageB img p) else none }
theorem PX.begin {W:Wd} {n:Nat} (hn:n<6) {quota pages:Int} {ws:List Int} (hp:0<pages) (hl:ws.length≤64):PX (W.made n 1 quota pages (imgW ws)) n ws seat0:=by
 refine⟨⟨hn,?_,?_⟩,rfl,rfl,rfl,?_,hl⟩
 ·show Bv.on (upd W.vm n (mkV 1 quota) n)=true
  rw[zq];rfl
 ·show Bv.seats (upd W.vm n (mkV 1 quota) n)=[seat0]
  rw[zq];rfl
 ·show upd W.own n _ n 0=_
  rw[zq,if_pos (by omega)]
theorem run00 {W:Wd} {a:Int} {X:Wd} (h:W.run ((0:Nat):Int) 0=(a,X)):(W.run 0 0).2=X:=by
 rw[show ((0:Nat):Int)=0 from rfl] at h
 rw[h]
theorem znP {n:Int} (h:0≤n) (h2:n<18446744073709551616):x64 n=n:=by rw[zbL];omega
theorem zlx {n:Int} (h:n≤65535):small n=n:=if_neg (by omega)
end Go.Cr
end
section
namespace Go.Cr
open Go Go.Pt
open Go.Proofs.YtabdpmnhjlmnlaaGreatDoor (zbu)
section
variable {S S':Mem} {ρ ρ':Rho} {R:Nat→Prop} {r:Nat} {D:Ra} {W:Wd} {n:Nat}
theorem zoh {x:Rv} {v:Bv} {ow al:Nat→Bool} {j:Nat} (hj:j<4) {s:Sl}:spl (rvL x v ow al) (5+j) [eL s]=rvL { x with d:=upd x.d j s } v ow al:=by
 unfold rvL
 rw[qz (n:=5) rfl,vX (by rw[zff];simp;omega)]
 rw[zcd (g:=fun p=>eL (upd x.d j s p)) hj fun p _=>by unfold upd;split <;> rfl]
abbrev RN (n:Nat) (q:Nat):Prop:=q=210+n∨q=230+n∨(250+4*n≤q∧q<254+4*n)∨(300+32*n≤q∧q<332+32*n)
theorem znA {l:List Int} {k:Nat} (hk:k<256):(fit256 l)[k]? = some (l.getD k 0):=by
 unfold fit256
 by_cases h:k<l.length
 ·rw[List.getElem?_append_left (by rw[List.length_take];omega),List.getElem?_take,if_pos hk,List.getD_eq_getElem?_getD,List.getElem?_eq_getElem h];rfl
 ·rw[List.getElem?_append_right (by rw[List.length_take];omega),List.getElem?_replicate,if_pos (by rw[List.length_take];omega),List.getD_eq_getElem?_getD,List.getElem?_eq_none (by omega)];rfl
theorem zmh {l:List Int} {k:Nat} (hk:l.length≤k) (hk2:k≤256):(fit256 l).take k++noughts.drop k=fit256 l:=by
 have e:(fit256 l).drop k=noughts.drop k:=by
  unfold fit256 noughts
  rw[List.drop_append,List.drop_of_length_le (by rw[List.length_take];omega),List.nil_append,List.drop_replicate,List.drop_replicate,List.length_take]
  congr 1
  omega
 rw[←e,List.take_append_drop]
theorem zkr {img:List Int} (i:Nat):(pageB img i).length=256:=zeY _
theorem zmG:Go.Proofs.YtabdpmnhjlmnlaaGreatDoor.z148=meL (fun _=>0) (fun _=>none):=by kernel_rfl
def xn (ss:Sl) (d:Nat→Sl) (mb:Nat) (now:Int):Rv:=⟨ss,nilL,d,some (mb,0),now,fun _=>0⟩
set_option maxRecDepth 20000 in
theorem zme {img:Sl} {xs:List Int} (hi:Go.Proofs.YtabdpmnhjlmnlaaGreatDoor.ImgAt S ρ img xs) (hl:xs.length≤1000000) {i b q:Nat} (hi32:i<32) (hb:Bl S ρ q b (bw 5 (bL noughts))) (hg:∀ b r,ρ b=some r→S b≠none) {K:Mem→Prop}
  (hK:∀ S',Mv S ρ S' ρ (· = q)→Bl S' ρ q b (bw 5 (bL (pageB xs i)))→K S') :
  lp (fun Xx_1 (k:Int) (Sx_19:Mem)=>if k<256 then if IntKind.i64.wrap ((IntKind.i64.wrap (256*(i:Int)))+k)<(img.n:Int) then
    sl img fun b_6 o_3 n_1 n_2=>0≤IntKind.i64.wrap ((IntKind.i64.wrap (256*(i:Int)))+k)∧IntKind.i64.wrap ((IntKind.i64.wrap (256*(i:Int)))+k)<((n_1:Nat):Int) ∧
    gI (Sx_19.cell b_6 (o_3+(IntKind.i64.wrap ((IntKind.i64.wrap (256*(i:Int)))+k)).toNat*1)) .u8 fun t_4=>0≤k∧k<256∧pt Sx_19 b (0+k.toNat*1) 1 ([.int .u8 t_4]) fun Sx_21=>Xx_1 (IntKind.i64.wrap (k+1)) Sx_21
   else K Sx_19 else K Sx_19) 0 S:=by
 have hlen:=hi.len
 have hpl:=zkr (img:=xs) i
 refine zX (fun (z:Int) S'=>∃ k:Nat,z=(k:Int)∧k≤256∧Mv S ρ S' ρ (· = q)∧Bl S' ρ q b (bw 5 (bL ((pageB xs i).take k++noughts.drop k)))) (fun z=>256-z.toNat) ?_ ⟨0,rfl,by decide,Mv.refl hg,by rw[List.take_zero,List.drop_zero,List.nil_append];exact hb⟩
 rintro X z S1 ⟨k,rfl,hk,m1,hb1⟩ ih
 have ew:IntKind.i64.wrap (IntKind.i64.wrap (256*(i:Int))+k)=((256*i+k:Nat):Int):=by
  rw[w64 (x:=256*(i:Int)) (by omega) (by omega),w64 (by omega) (by omega)];omega
 have fin:(xs.drop (256*i)).length≤k→K S1:=fun hle=>by
  have e:=zmh hle hk
  have e2:(pageB xs i).take k++noughts.drop k=pageB xs i:=e
  rw[e2] at hb1
  exact hK S1 m1 hb1
 by_cases hlt:(k:Int)<256
 ·rw[if_pos hlt,ew]
  by_cases hin:((256*i+k:Nat):Int)<(img.n:Int)
  ·rw[if_pos hin]
   have hkl:256*i+k<xs.length:=by omega
   rcases hi.lie with h0 | ⟨c,o,hp,hpart,hρ,hc⟩
   ·rw[h0] at hkl;simp at hkl
   have hcs:S1 c=S c:=m1.kp c hc fun r' e=>by rw[hρ] at e;cases e
   have hx:S1.cell c (o+(256*i+k))=some (.int .u8 xs[256*i+k]):=by
    obtain⟨kb,k1,k2⟩:=zeL hpart
    have:=vl k2 (256*i+k) (by omega)
    rw[qA (hcs.trans k1),qb,←this]
    unfold bL
    rw[List.getElem?_map,List.getElem?_eq_getElem hkl];rfl
   obtain⟨ip,inn,ic⟩:=img
   simp only at hp hlen hin
   subst hp
   rw[zah]
   refine⟨by omega,hin,?_⟩
   rw[Int.toNat_natCast,Nat.mul_one,zY hx]
   refine⟨by omega,hlt,?_⟩
   have hk256:k<256:=by omega
   have hget:(pageB xs i)[k]'(by rw[hpl];exact hk256)=xs[256*i+k]:=by
    have e:=znA (l:=xs.drop (256*i)) hk256
    rw[List.getD_eq_getElem?_getD,List.getElem?_drop,List.getElem?_eq_getElem hkl] at e
    exact (List.getElem?_eq_some_iff.1 e).2
   have hst:=znI (d:=pageB xs i) (l:=noughts) (by rw[hpl,qI]) (i:=k) (by rw[hpl];exact hk256)
   rw[hget] at hst
   refine Bl.pt hb1 m1.rg (i:=k) (by unfold bL;rw[List.length_map,List.length_append,List.length_take,List.length_drop,hpl,qI];omega) (by omega) fun S2 m2 hb2=>?_
   rw[hst] at hb2
   rw[w64 (by omega) (by omega)]
   exact ih _ _ ⟨k+1,by omega,by omega,m1.trans m2,hb2⟩ (by omega)
  ·rw[if_neg hin]
   exact fin (by rw[List.length_drop];omega)
 ·rw[if_neg hlt]
  have:k=256:=by omega
  subst this
  rw[List.take_of_length_le (by rw[hpl];exact Nat.le_refl _),List.drop_of_length_le (by rw[qI];exact Nat.le_refl _),List.append_nil] at hb1
  exact hK S1 m1 hb1
end
end Go.Cr
end
section
namespace Go.Cr
open Go Go.Pt
open Go.Proofs.YtabdpmnhjlmnlaaGreatDoor (zbu)
section
variable {S S':Mem} {ρ ρ':Rho} {R:Nat→Prop} {r:Nat} {D:Ra} {W:Wd} {n:Nat}
structure NewP (S:Mem) (ρ:Rho) (n mb:Nat) (A:Nat→Nat) (xs:List Int) (i:Nat):Prop where
 me:Pc S ρ (230+n) mb (meL A fun p=>if p<i then some (32*n+p,true) else none)
 pg:∀ p,p<i→Bl S ρ (300+(32*n+p)) (A (32*n+p)) (bw 5 (bL (pageB xs p)))
theorem zjg (hwk:WOk W) (hoff:(W.vm n).on=false) {seats quota pages:Int} {img:List Int} (m p:Nat):(W.made n seats quota pages img).where_ m p=if m=n then (if (p:Int)<pages then some (n,p,true) else none) else W.where_ m p:=by
 have hown:∀ m p,(W.made n seats quota pages img).own m p=if m=n then (if (p:Int)<pages then some (pageB img p) else none) else W.own m p:=fun m p=>by
  show upd W.own n _ m p=_
  by_cases e:m=n
  ·subst e;rw[zq,if_pos rfl]
  ·rw[zo e,if_neg e]
 unfold Wd.where_
 rw[hown]
 by_cases e:m=n
 ·subst e
  rw[if_pos rfl,if_pos rfl]
  have hat:leaseAt W.ls m (p:Int)=none:=by
   cases hf:leaseAt W.ls m p with
   | none=>rfl
   | some j=>
    obtain⟨_,h1,h2,h3⟩:=yb hf
    have:=(hwk.lsr j h1).2.2.1
    rw[h2,hoff] at this;cases this
  by_cases hp:(p:Int)<pages
  ·rw[if_pos hp,if_pos hp,if_pos (by rfl)]
  ·rw[if_neg hp,if_neg hp,if_neg (by decide)]
   show (leaseAt W.ls m p).map _=none
   rw[hat];rfl
 ·rw[if_neg e,if_neg e];rfl
theorem RefA.made (h:RefA S ρ r D W) (hwk:WOk W) (hn:n<6) (hoff:(W.vm n).on=false) {sn quota pages:Nat} {xs:List Int} (hp:pages≤32) {ss:Sl} {d:Nat→Sl} {mb:Nat} {A':Nat→Nat} (hA:∀ f,¬(32*n≤f∧f<32*n+32)→A' f=D.A f)
  (m:Mv S ρ S' ρ' R) (hR:∀ q,R q→q=200∨RN n q) (hse:Rw S' ρ' (210+n) 26 ss ((List.replicate sn seat0).flatMap Seat.L)) (hdi:∀ j,j<4→∃ b,d j=pgS b∧Bl S' ρ' (250+(4*n+j)) b (bw 5 (bL noughts)))
  (hpg:NewP S' ρ' n mb A' xs pages) (hd:Pc S' ρ' 200 r (({ D with x:=upd D.x n (xn ss d mb D.now),es:=upd D.es n nilL,A:=A' }:Ra).c (W.made n sn quota pages xs)).L) :
  RefA S' ρ' r { D with x:=upd D.x n (xn ss d mb D.now),es:=upd D.es n nilL,A:=A' } (W.made n sn quota pages xs):=by
 have hR':∀ q,q≠200→¬RN n q→¬R q:=fun q h0 h1 h2=>(hR q h2).elim h0 h1
 have hown:∀ m p,(W.made n sn quota pages xs).own m p=if m=n then (if (p:Int)<(pages:Int) then some (pageB xs p) else none) else W.own m p:=fun m p=>by
  show upd W.own n _ m p=_
  by_cases e:m=n
  ·subst e;rw[zq,if_pos rfl]
  ·rw[zo e,if_neg e]
 have hvm:∀ i,(W.made n sn quota pages xs).vm i=if i=n then mkV sn quota else W.vm i:=fun i=>rfl
 have hx:∀ i,({ D with x:=upd D.x n (xn ss d mb D.now),es:=upd D.es n nilL,A:=A' }:Ra).x i=if i=n then xn ss d mb D.now else D.x i:=fun i=>rfl
 refine⟨m.rg,hd,fun i hi=>?_,fun i hi ho=>?_,fun i p l hl=>?_,fun i hi=>?_,h.now,fun i ho=>?_,fun i k w hw=>?_⟩
 ·rw[hvm,hx]
  by_cases e:i=n
  ·subst e
   rw[if_pos rfl,if_pos rfl]
   exact⟨by rw[show (mkV sn quota).seats=List.replicate sn seat0 from by show List.replicate ((sn:Int)).toNat seat0=_;rw[Int.toNat_natCast]];exact hse,Kr.nil,fun _ j hj=>hdi j hj,fun ho=>by cases ho⟩
  ·rw[if_neg e,if_neg e]
   have h0:=h.vs i hi
   exact⟨h0.se.keep m (hR' _ (by omega) (by unfold RN;omega)),h0.ke.keep m (hR' _ (by omega) (by unfold RN;omega)),fun ho j hj=>by
    obtain⟨b,h1,h2⟩:=h0.di ho j hj
    exact⟨b,h1,h2.keep m (hR' _ (by omega) (by unfold RN;omega))⟩,h0.off⟩
 ·rw[hx]
  have hmap:∀ p,p<32→((W.made n sn quota pages xs).gm i).map p=if i=n then (if p<pages then some (32*n+p,true) else none) else (W.gm i).map p:=fun p hp=>by
   rw[zbG hp,zbG hp,zjg hwk hoff]
   by_cases e:i=n
   ·rw[if_pos e,if_pos e]
    by_cases hpp:p<pages
    ·rw[if_pos (by omega),if_pos hpp];rfl
    ·rw[if_neg (by omega),if_neg hpp];rfl
   ·rw[if_neg e,if_neg e]
  by_cases e:i=n
  ·subst e
   rw[if_pos rfl]
   refine⟨mb,rfl,?_⟩
   have e2:meL A' ((W.made i sn quota pages xs).gm i).map=meL A' fun p=>if p<pages then some (32*i+p,true) else none:=by
    unfold meL
    rw[ye (n:=32) (f:=fun p=>[eL (mePg A' (((W.made i sn quota pages xs).gm i).map p))]) fun p hp=>by rw[hmap p hp,if_pos rfl],ye (n:=32) (f:=fun p=>[Value.bool (meW (((W.made i sn quota pages xs).gm i).map p))]) fun p hp=>by rw[hmap p hp,if_pos rfl]]
   show Pc S' ρ' (230+i) mb (meL A' ((W.made i sn quota pages xs).gm i).map)
   rw[e2];exact hpg.me
  ·rw[if_neg e]
   have ho':(W.vm i).on=true:=by rw[hvm,if_neg e] at ho;exact ho
   obtain⟨mb',h1,h2⟩:=h.me i hi ho'
   refine⟨mb',h1,?_⟩
   have hgm:∀ p f w,(W.gm i).map p=some (f,w)→¬(32*n≤f∧f<32*n+32):=fun p f w hm=>by
    have hp:p<32:=Nat.lt_of_not_le fun h32=>by rw[(hwk.gm i).pg p h32] at hm;cases hm
    rw[zbG hp] at hm
    cases hw:W.where_ i p with
    | none=>rw[hw] at hm;cases hm
    | some q=>
     obtain⟨l,hl⟩:=hwk.where_own hw
     rw[hw] at hm
     simp only[Option.map_some,Option.some.injEq,Prod.mk.injEq] at hm
     have h6:=hwk.six' hl
     have hon:=(hwk.pg _ _ _ hl).1
     have:q.1≠n:=fun e=>by rw[e,hoff] at hon;cases hon
     omega
   have e2:meL A' ((W.made n sn quota pages xs).gm i).map=meL D.A (W.gm i).map:=by
    unfold meL
    rw[ye (n:=32) (f:=fun p=>[eL (mePg A' (((W.made n sn quota pages xs).gm i).map p))]) (g:=fun p=>[eL (mePg D.A ((W.gm i).map p))]) fun p hp=>by
     rw[hmap p hp,if_neg e]
     cases hm:(W.gm i).map p with
     | none=>rfl
     | some q=>
      show [eL (pgS (A' q.1))]=[eL (pgS (D.A q.1))]
      rw[hA q.1 (hgm p q.1 q.2 hm)],ye (n:=32) (f:=fun p=>[Value.bool (meW (((W.made n sn quota pages xs).gm i).map p))]) fun p hp=>by rw[hmap p hp,if_neg e]]
   show Pc S' ρ' (230+i) mb' (meL A' ((W.made n sn quota pages xs).gm i).map)
   rw[e2];exact h2.keep m (hR' _ (by omega) (by unfold RN;omega))
 ·rw[hown] at hl
  show Bl S' ρ' (300+(32*i+p)) (A' (32*i+p)) _
  by_cases e:i=n
  ·subst e
   rw[if_pos rfl] at hl
   by_cases hpp:(p:Int)<pages
   ·rw[if_pos hpp] at hl
    cases hl
    exact hpg.pg p (by omega)
   ·rw[if_neg hpp] at hl;cases hl
  ·rw[if_neg e] at hl
   have h6:=hwk.six' hl
   rw[hA _ (by omega)]
   exact (h.pg i p l hl).keep m (hR' _ (by omega) (by unfold RN;omega))
 ·show Rw S' ρ' (240+i) 4 (upd D.es n nilL i) ((upd W.ev n [] i).flatMap evL)
  by_cases e:i=n
  ·subst e;rw[zq,zq];exact Rw.nil
  ·rw[zo e,zo e];exact (h.ev i hi).keep m (hR' _ (by omega) (by unfold RN;omega))
 ·rw[hx]
  show _∧_∧upd W.time n 0 i=_
  by_cases e:i=n
  ·subst e
   rw[if_pos rfl,zq]
   have:=h.now
   exact⟨this.1,Int.le_refl _,by show (0:Int)=D.now-D.now;omega⟩
  ·rw[if_neg e,zo e]
   have ho':(W.vm i).on=true:=by rw[hvm,if_neg e] at ho;exact ho
   exact h.time i ho'
 ·have hw':W.alarm i k=some w:=hw
  rw[hx]
  by_cases e:i=n
  ·subst e
   rw[(hwk.off i hoff).2.2 k] at hw';cases hw'
  ·rw[if_neg e];exact h.at_ i k w hw'
end
end Go.Cr
end
section
namespace Go.Proofs.YtabdpmnhjlmnlaaGreatDoor
open Go Go.Pt Go.Cr Go.Hp
section
variable {S S':Mem} {ρ ρ':Rho} {R:Nat→Prop} {r:Nat} {D:Ra} {W:Wd}
theorem zoe (k:Nat):(List.replicate (k+1) seat0).flatMap Seat.L=(List.replicate k seat0).flatMap Seat.L++seat0.L:=by
 rw[List.replicate_succ',List.flatMap_append];simp
set_option maxHeartbeats 1000000 in
set_option maxRecDepth 20000 in
theorem zgA (h:RefA S ρ r D W) (hwk:WOk W) (hf : -90000≤W.free∧W.free≤90000) {seats quota pages:Int} {img:Sl} {xs:List Int} (himg:ImgAt S ρ img xs) (hil:xs.length≤1000000) {Q:Int→Int→Mem→Prop}
  (hQ:∀ S',RAft r S ρ (W.create seats quota pages xs).2.2 S'→Q (W.create seats quota pages xs).1 (W.create seats quota pages xs).2.1 S'):qV S (some (r,0)) seats quota pages img Q:=by
 have hlen:=himg.len
 apply jD
 unfold yr
 unfold Wd.create at hQ
 by_cases hbad:seats<1∨3<seats∨quota<1∨32<quota∨pages<1∨quota<pages
 ·rw[if_pos hbad] at hQ
  have hq:=hQ S (RAft.here h)
  refine qc (fun _=>True) trivial fun J _=>?_
  by_cases b1:seats<1
  ·rw[if_pos b1];exact hq
  rw[if_neg b1]
  by_cases b2:3<seats
  ·rw[if_pos b2];exact hq
  rw[if_neg b2]
  by_cases b3:quota<1
  ·rw[if_pos b3];exact hq
  rw[if_neg b3]
  by_cases b4:32<quota
  ·rw[if_pos b4];exact hq
  rw[if_neg b4]
  by_cases b5:pages<1
  ·rw[if_pos b5];exact hq
  rw[if_neg b5,if_pos (by omega)]
  exact hq
 rw[if_neg hbad] at hQ
 refine qc (fun J=>J S) ?_ fun J hJ=>by
  rw[if_neg (by omega),if_neg (by omega),if_neg (by omega),if_neg (by omega),if_neg (by omega),if_neg (by omega)];exact hJ
 obtain⟨sn,rfl⟩:∃ m:Nat,seats=m:=⟨seats.toNat,by omega⟩
 obtain⟨qn,rfl⟩:∃ m:Nat,quota=m:=⟨quota.toNat,by omega⟩
 obtain⟨pn,rfl⟩:∃ m:Nat,pages=m:=⟨pages.toNat,by omega⟩
 have e256:IntKind.i64.wrap (256*(pn:Int))=256*pn:=w64 (by omega) (by omega)
 by_cases hlong:256*(pn:Int)<xs.length
 ·rw[if_pos hlong] at hQ
  refine qc (fun _=>True) trivial fun J _=>?_
  rw[e256,if_pos (by omega)]
  exact hQ S (RAft.here h)
 rw[if_neg hlong] at hQ
 refine qc (fun J=>J S) ?_ fun J hJ=>by
  rw[e256,if_neg (by omega)];exact hJ
 refine qc (fun J=>∀ m:Nat,m≤6→(∀ j,j<m→(W.vm j).on=true)→(m<6→(W.vm m).on=false)→J m S) ?_ fun J hJ=>?_
 rotate_left
 ·refine zX (fun (z:Int) S'=>∃ i:Nat,z=(i:Int)∧i≤6∧S'=S∧∀ j,j<i→(W.vm j).on=true) (fun z=>6-z.toNat) ?_ ⟨0,rfl,by decide,rfl,fun j hj=>by omega⟩
  rintro X z S1 ⟨i,rfl,hi,hS,hall⟩ ih
  subst hS
  by_cases hlt:(i:Int)<6
  ·rw[if_pos hlt,qk]
   refine⟨by omega,hlt,?_⟩
   rw[zaF (h.von (n:=i) (by omega) (by omega))]
   cases hon:(W.vm i).on with
   | true=>
    rw[if_pos rfl,w64 (by omega) (by omega)]
    refine ih _ _ ⟨i+1,by omega,by omega,rfl,fun j hj=>?_⟩ (by omega)
    by_cases e:j=i
    ·subst e;exact hon
    ·exact hall j (by omega)
   | false=>
    rw[if_neg (by decide)]
    exact hJ i hi hall fun _=>hon
  ·rw[if_neg hlt]
   exact hJ i hi hall fun h6=>by omega
 intro n hn6 hall hoff
 by_cases h6:n=6
 ·subst h6
  have hnone:firstOff (fun n=>(W.vm n).on) 6=none:=by
   cases hf:firstOff (fun n=>(W.vm n).on) 6 with
   | none=>rfl
   | some f=>
    obtain⟨h1,h2,_⟩:=qf hf
    rw[hall f h1] at h2;cases h2
  rw[hnone] at hQ
  refine qc (fun _=>True) trivial fun J _=>?_
  rw[if_pos (by rfl)]
  exact hQ S (RAft.here h)
 have hn:n<6:=by omega
 have hoff:=hoff hn
 have hsome:firstOff (fun n=>(W.vm n).on) 6=some n:=kD hn hoff hall
 rw[hsome] at hQ
 dsimp only at hQ
 refine qc (fun J=>J S) ?_ fun J hJ=>by rw[if_neg (by omega)];exact hJ
 have e5:IntKind.i64.wrap (5+(pn:Int))=5+pn:=w64 (by omega) (by omega)
 by_cases hfree:W.free<5+(pn:Int)
 ·rw[if_pos hfree] at hQ
  refine qc (fun _=>True) trivial fun J _=>?_
  rw[qk,zY h.c1,e5,if_pos hfree]
  exact hQ S (RAft.here h)
 rw[if_neg hfree] at hQ
 refine qc (fun J=>J S) ?_ fun J hJ=>by
  rw[qk,zY h.c1,e5,if_neg hfree];exact hJ
 have hmade:({ W with free:=W.free-(5+(pn:Int)),vm:=upd W.vm n (mkV sn qn),time:=upd W.time n 0,ev:=upd W.ev n [],own:=upd W.own n fun p=>if (p:Int)<(pn:Int) then some (pageB xs p) else none }:Wd)=W.made n sn qn pn xs:=rfl
 rw[hmade] at hQ
 rw[qk,zY h.c1,e5,w64 (x:=W.free-(5+(pn:Int))) (by omega) (by omega)]
 refine h.put (i:=1) (vs:=[.int .i64 (W.free-(5+(pn:Int)))]) rfl (by simp) rfl fun S1 m1 hd1=>?_
 have hnow:S1.cell r 0=some (.int .u64 D.now):=by
  rw[hd1.cell 0 (by rw[qx (by rw[Rc0.len];simp),Rc0.len];decide) rfl,Rc0.setf];rfl
 rw[zY hnow]
 intro mb hmb
 have m2:Mv S1 ρ (S1.set mb (bw 148 z148)) (ρ.upd mb (230+n)) (RN n):=(Mv.refl m1.rg).new hmb _ _
 have hP0:NewP (S1.set mb (bw 148 z148)) (ρ.upd mb (230+n)) n mb D.A xs 0:=⟨⟨⟨_,zO,rfl,by
  show lpart z148 0 _=_
  rw[zmG]
  have e:meL D.A (fun p=>if p<0 then some (32*n+p,true) else none)=meL (fun _=>0) fun _=>none:=rfl
  rw[e];exact zk rfl⟩,qU⟩,fun p hp=>by omega⟩
 generalize S1.set mb (bw 148 z148)=S2 at m2 hP0 ⊢
 generalize ρ.upd mb (230+n)=ρ2 at m2 hP0
 have hv0:([.bool true,.slice (none) 0 0,.int .i64 (qn:Int),.int .u64 D.now,.slice (none) 0 0,.slice (none) 0 0,.slice (none) 0 0,.slice (none) 0 0,.slice (none) 0 0,.bool false,.bool false,.bool false,.bool false,.bool false,.bool false,.pointer (some ⟨mb,0,none⟩),.bool false,.bool false,.bool false,.bool false,.bool false,.bool false,.bool false,.bool false,.bool false,.bool false,.bool false,.bool false,.bool false,.bool false,.bool false,.bool false,.bool false,.bool false,.bool false,.bool false,.bool false,.bool false,.bool false,.bool false,.bool false,.bool false,.bool false,.bool false,.bool false,.bool false,.bool false,.bool false,.bool false,.bool false,.bool false,.int .u64 0,.int .u64 0,.int .u64 0]:List Value)=rvL (xn nilL (fun _=>nilL) mb D.now) (mkV sn qn) (fun _=>false) (fun _=>false):=rfl
 rw[hv0]
 refine qc (fun J=>∀ S3 ρ3 ss,Mv S2 ρ2 S3 ρ3 (RN n)→NewP S3 ρ3 n mb D.A xs 0→Rw S3 ρ3 (210+n) 26 ss ((List.replicate sn seat0).flatMap Seat.L)→J (rvL (xn ss (fun _=>nilL) mb D.now) (mkV sn qn) (fun _=>false) (fun _=>false)) S3) ?_ fun J hJ=>?_
 rotate_left
 ·refine zX (fun (z:Int×List Value) S'=>∃ (i:Nat) (ρ3:Rho) (ss:Sl),z=((i:Int),rvL (xn ss (fun _=>nilL) mb D.now) (mkV sn qn) (fun _=>false) (fun _=>false))∧i≤sn∧Mv S2 ρ2 S' ρ3 (RN n)∧NewP S' ρ3 n mb D.A xs 0∧Rw S' ρ3 (210+n) 26 ss ((List.replicate i seat0).flatMap Seat.L)) (fun z=>sn-z.1.toNat) ?_ ⟨0,ρ2,nilL,rfl,Nat.zero_le _,Mv.refl m2.rg,hP0,Rw.nil⟩
  rintro X z S3 ⟨i,ρ3,ss,rfl,hi,m3,hP3,hs3⟩ ih
  dsimp only at ih ⊢
  refine⟨yf,?_⟩
  simp only[jn]
  by_cases hlt:(i:Int)<(sn:Int)
  ·rw[if_pos hlt,jW (show nthL (rvL (xn ss (fun _=>nilL) mb D.now) (mkV sn qn) (fun _=>false) (fun _=>false)) 1=some (eL ss) from rfl)]
   have hssn:=hs3.n (by decide) (zbu (zmY i))
   rw[List.length_replicate] at hssn
   refine zjC (R:=RN n) (Mv.refl m3.rg) (.inl rfl) hs3 rfl (by decide) rfl (by omega) fun s' S4 ρ4 m4 m4' h4 _=>?_
   rw[w64 (by omega) (by omega)]
   have hrep:(List.replicate (i+1) seat0).flatMap Seat.L=(List.replicate i seat0).flatMap Seat.L++seat0.L:=zoe i
   refine ih _ _ ⟨i+1,ρ4,s',rfl,by omega,m3.trans m4,⟨hP3.me.keep m4' (by omega),fun p hp=>by omega⟩,by rw[hrep];exact h4⟩ (by dsimp only;omega)
  ·rw[if_neg hlt]
   have:i=sn:=by omega
   subst this
   exact hJ S3 ρ3 ss m3 hP3 hs3
 intro S3 ρ3 ss m3 hP3 hs3
 refine⟨yf,?_⟩
 refine qc (fun J=>∀ S4 ρ4 d,Mv S3 ρ3 S4 ρ4 (RN n)→NewP S4 ρ4 n mb D.A xs 0→Rw S4 ρ4 (210+n) 26 ss ((List.replicate sn seat0).flatMap Seat.L)→(∀ j,j<4→∃ b,d j=pgS b∧Bl S4 ρ4 (250+(4*n+j)) b (bw 5 (bL noughts)))→J (rvL (xn ss d mb D.now) (mkV sn qn) (fun _=>false) (fun _=>false)) S4) ?_ fun J hJ=>?_
 rotate_left
 ·refine zX (fun (z:Int×List Value) S'=>∃ (i:Nat) (ρ4:Rho) (d:Nat→Sl),z=((i:Int),rvL (xn ss d mb D.now) (mkV sn qn) (fun _=>false) (fun _=>false))∧i≤4∧Mv S3 ρ3 S' ρ4 (RN n)∧NewP S' ρ4 n mb D.A xs 0∧Rw S' ρ4 (210+n) 26 ss ((List.replicate sn seat0).flatMap Seat.L)∧∀ j,j<i→∃ b,d j=pgS b∧Bl S' ρ4 (250+(4*n+j)) b (bw 5 (bL noughts))) (fun z=>4-z.1.toNat) ?_ ⟨0,ρ3,fun _=>nilL,rfl,by decide,Mv.refl m3.rg,hP3,hs3,fun j hj=>by omega⟩
  rintro X z S4 ⟨i,ρ4,d,rfl,hi,m4,hP4,hs4,hd4⟩ ih
  dsimp only at ih ⊢
  refine⟨yf,?_⟩
  by_cases hlt:(i:Int)<4
  ·rw[if_pos hlt]
   intro b hb
   rw[zmr]
   have m5:Mv S4 ρ4 (S4.set b (bw 5 (bL noughts))) (ρ4.upd b (250+(4*n+i))) (fun _=>False):=(Mv.refl m4.rg).new hb _ _
   refine⟨by omega,hlt,?_⟩
   rw[w64 (by omega) (by omega),show 5+(i:Int).toNat*1=5+i by omega]
   have e:spl (rvL (xn ss d mb D.now) (mkV sn qn) (fun _=>false) (fun _=>false)) (5+i) [.slice (some ⟨b,0,none⟩) 256 256]=rvL (xn ss (upd d i (pgS b)) mb D.now) (mkV sn qn) (fun _=>false) (fun _=>false):=zoh (s:=pgS b) (by omega)
   rw[e]
   refine ih _ _ ⟨i+1,_,upd d i (pgS b),rfl,by omega,m4.trans (m5.mono fun _ h=>h.elim),⟨hP4.me.keep m5 (fun h=>h),fun p hp=>by omega⟩,hs4.keep m5 (fun h=>h),fun j hj=>?_⟩ (by dsimp only;omega)
   by_cases e:j=i
   ·subst e
    exact⟨b,zq,zO,qU⟩
   ·obtain⟨b',h1,h2⟩:=hd4 j (by omega)
    exact⟨b',by rw[zo e];exact h1,h2.keep m5 (fun h=>h)⟩
  ·rw[if_neg hlt]
   have:i=4:=by omega
   subst this
   exact hJ S4 ρ4 d m4 hP4 hs4 hd4
 intro S4 ρ4 d m4 hP4 hs4 hd4
 refine⟨yf,?_⟩
 refine qc (fun J=>∀ S5 ρ5 A',Mv S4 ρ4 S5 ρ5 (RN n)→(∀ f,¬(32*n≤f∧f<32*n+32)→A' f=D.A f)→NewP S5 ρ5 n mb A' xs pn→Rw S5 ρ5 (210+n) 26 ss ((List.replicate sn seat0).flatMap Seat.L)→(∀ j,j<4→∃ b,d j=pgS b∧Bl S5 ρ5 (250+(4*n+j)) b (bw 5 (bL noughts)))→J (rvL (xn ss d mb D.now) (mkV sn qn) (fun p=>decide (p<pn)) (fun _=>false)) S5) ?_ fun J hJ=>?_
 rotate_left
 ·have m14:Mv S ρ S4 ρ4 (fun q=>q=200∨RN n q):=(m1.mono fun q hq=>.inl hq).trans ((m2.mono fun q hq=>.inr hq).trans ((m3.mono fun q hq=>.inr hq).trans (m4.mono fun q hq=>.inr hq)))
  have himg4:=himg.mv m14
  refine zX (fun (z:Int×List Value) S'=>∃ (i:Nat) (ρ5:Rho) (A':Nat→Nat),z=((i:Int),rvL (xn ss d mb D.now) (mkV sn qn) (fun p=>decide (p<i)) (fun _=>false))∧i≤pn∧Mv S4 ρ4 S' ρ5 (RN n)∧(∀ f,¬(32*n≤f∧f<32*n+32)→A' f=D.A f)∧NewP S' ρ5 n mb A' xs i∧Rw S' ρ5 (210+n) 26 ss ((List.replicate sn seat0).flatMap Seat.L)∧(∀ j,j<4→∃ b,d j=pgS b∧Bl S' ρ5 (250+(4*n+j)) b (bw 5 (bL noughts)))) (fun z=>pn-z.1.toNat) ?_ ⟨0,ρ4,D.A,rfl,Nat.zero_le _,Mv.refl m4.rg,fun _ _=>rfl,hP4,hs4,hd4⟩
  rintro X z S5 ⟨i,ρ5,A',rfl,hi,m5,hA5,hP5,hs5,hd5⟩ ih
  dsimp only at ih ⊢
  refine⟨yf,?_⟩
  simp only[jn]
  by_cases hlt:(i:Int)<(pn:Int)
  ·rw[if_pos hlt]
   intro b hb
   rw[zmr]
   have hi32:i<32:=by omega
   have m6:Mv S5 ρ5 (S5.set b (bw 5 (bL noughts))) (ρ5.upd b (300+(32*n+i))) (fun _=>False):=(Mv.refl m5.rg).new hb _ _
   have himg6:=(himg4.mv m5).mv m6
   refine zme himg6 hil (q:=300+(32*n+i)) hi32 ⟨zO,qU⟩ m6.rg fun S7 m7 hb7=>?_
   have g15:nthL (rvL (xn ss d mb D.now) (mkV sn qn) (fun p=>decide (p<i)) (fun _=>false)) 15=some (eP (some (mb,0))):=zoS
   rw[qP g15,qk]
   refine⟨by omega,by omega,?_⟩
   have hme7:=(hP5.me.keep m6 (fun h=>h)).keep m7 (by omega)
   refine hme7.pt m7.rg (vs:=[eL (pgS b)]) i rfl (by rw[zhz];simp;omega) (by omega) fun S8 m8 h8=>?_
   rw[qP g15,qk]
   refine⟨by omega,by omega,?_⟩
   refine h8.pt m8.rg (vs:=[.bool true]) (32+i) rfl (by rw[qx (by rw[zhz];simp;omega),zhz];simp;omega) (by omega) fun S9 m9 h9=>?_
   refine⟨by omega,by omega,?_⟩
   rw[show 16+(i:Int).toNat*1=16+i by omega,zlA hi32]
   refine⟨yf,?_⟩
   rw[w64 (by omega) (by omega)]
   have hown:upd (fun p=>decide (p<i)) i true=fun p=>decide (p<i+1):=by
    funext p
    by_cases e:p=i
    ·subst e;rw[zq];simp
    ·rw[zo e]
     by_cases h1:p<i
     ·rw[decide_eq_true h1,decide_eq_true (by omega)]
     ·rw[decide_eq_false h1,decide_eq_false (by omega)]
   rw[hown]
   have hml:=znj (A:=A') (A':=upd A' (32*n+i) b) (m:=fun p=>if p<i then some (32*n+p,true) else none) (m':=fun p=>if p<i+1 then some (32*n+p,true) else none) hi32 fun q hq e=>by
    by_cases h1:q<i
    ·rw[if_pos h1,if_pos (by omega)]
     refine⟨?_,rfl⟩
     show pgS (upd A' (32*n+i) b (32*n+q))=pgS (A' (32*n+q))
     rw[zo (by omega)]
    ·rw[if_neg h1,if_neg (by omega)]
     exact⟨rfl,rfl⟩
   have epg:mePg (upd A' (32*n+i) b) (if i<i+1 then some (32*n+i,true) else none)=pgS b:=by
    rw[if_pos (by omega)]
    show pgS (upd A' (32*n+i) b (32*n+i))=_
    rw[zq]
   have epw:meW (if i<i+1 then some (32*n+i,true) else none)=true:=by rw[if_pos (by omega)];rfl
   rw[epg,epw] at hml
   rw[hml] at h9
   have m79:Mv (S5.set b (bw 5 (bL noughts))) (ρ5.upd b (300+(32*n+i))) S9 (ρ5.upd b (300+(32*n+i))) (fun q=>q=300+(32*n+i)∨q=230+n):=(m7.mono fun q hq=>.inl hq).trans ((m8.mono fun q hq=>.inr hq).trans (m9.mono fun q hq=>.inr hq))
   have m69:Mv S5 ρ5 S9 (ρ5.upd b (300+(32*n+i))) (RN n):=(m6.mono fun _ h=>h.elim).trans (m79.mono fun q hq=>by unfold RN;omega)
   refine ih _ _ ⟨i+1,_,upd A' (32*n+i) b,rfl,by omega,m5.trans m69,fun f hf=>by rw[zo (by omega)];exact hA5 f hf,⟨h9,fun p hp=>?_⟩,(hs5.keep m6 (fun h=>h)).keep m79 (by omega),fun j hj=>?_⟩ (by dsimp only;omega)
   ·by_cases e:p=i
    ·subst e
     rw[zq]
     exact (hb7.keep m8 (by omega)).keep m9 (by omega)
    ·rw[zo (by omega)]
     exact ((hP5.pg p (by omega)).keep m6 (fun h=>h)).keep m79 (by omega)
   ·obtain⟨b',h1,h2⟩:=hd5 j hj
    exact⟨b',h1,(h2.keep m6 (fun h=>h)).keep m79 (by omega)⟩
  ·rw[if_neg hlt]
   have:i=pn:=by omega
   subst this
   exact hJ S5 ρ5 A' m5 hA5 hP5 hs5 hd5
 intro S5 ρ5 A' m5 hA5 hP5 hs5 hd5
 refine⟨yf,by omega,by omega,zmZ,?_⟩
 have m25:Mv S1 ρ S5 ρ5 (RN n):=m2.trans (m3.trans (m4.trans m5))
 have hd5':=hd1.keep m25 (by unfold RN;omega)
 refine hd5'.pt m5.rg (vs:=rvL (xn ss d mb D.now) (mkV sn qn) (fun p=>decide (p<pn)) (fun _=>false)) (2+(n*54+0)) (by rw[yf]) (by rw[yf,qx (by rw[Rc0.len];simp),Rc0.len];omega) (by rw[Int.toNat_natCast];omega) fun S6 m6 hd6=>?_
 refine⟨by omega,by omega,?_⟩
 have hlen6:(spl (spl (D.c W).L 1 [Value.int .i64 (W.free-(5+(pn:Int)))]) (2+(n*54+0)) (rvL (xn ss d mb D.now) (mkV sn qn) (fun p=>decide (p<pn)) (fun _=>false))).length=428:=by
  rw[qx (by rw[yf,qx (by rw[Rc0.len];simp),Rc0.len];omega),qx (by rw[Rc0.len];simp),Rc0.len]
 refine hd6.pt m6.rg (vs:=[eL nilL]) (422+n) rfl (by rw[hlen6];simp;omega) (by rw[Int.toNat_natCast];omega) fun S7 m7 hd7=>?_
 have hfull:spl (rvL (D.x n) (W.vm n) (fun p=>(W.own n p).isSome) fun k=>(W.alarm n k).isSome) 0 (rvL (xn ss d mb D.now) (mkV sn qn) (fun p=>decide (p<pn)) (fun _=>false))=rvL (xn ss d mb D.now) (mkV sn qn) (fun p=>decide (p<pn)) (fun _=>false):=zbZ (by rw[yf,yf])
 have hset:=Rc0.set (c:={ D.c W with free:=W.free-(5+(pn:Int)) }) (n:=n) (j:=0) (vs:=rvL (xn ss d mb D.now) (mkV sn qn) (fun p=>decide (p<pn)) (fun _=>false)) (x':=xn ss d mb D.now) (v':=mkV sn qn) (ow':=fun p=>decide (p<pn)) (al':=fun _=>false) hn (by rw[yf];omega) rfl hfull
 rw[Rc0.setf,hset,Rc0.sete hn rfl] at hd7
 have hfin:Pc S7 ρ5 200 r (({ D with x:=upd D.x n (xn ss d mb D.now),es:=upd D.es n nilL,A:=A' }:Ra).c (W.made n sn qn pn xs)).L:=by
  have e1:(fun i p=>((W.made n sn qn pn xs).own i p).isSome)=upd (fun i p=>(W.own i p).isSome) n (fun p=>decide (p<pn)):=by
   funext i p
   show (upd W.own n (fun p=>if (p:Int)<(pn:Int) then some (pageB xs p) else none) i p).isSome=_
   by_cases e:i=n
   ·subst e
    rw[zq,zq]
    by_cases hp:p<pn
    ·rw[if_pos (by omega),decide_eq_true hp];rfl
    ·rw[if_neg (by omega),decide_eq_false hp];rfl
   ·rw[zo e,zo e]
  have e2:(fun i k=>((W.made n sn qn pn xs).alarm i k).isSome)=upd (fun i k=>(W.alarm i k).isSome) n (fun _=>false):=by
   funext i k
   show (W.alarm i k).isSome=_
   by_cases e:i=n
   ·subst e;rw[zq,(hwk.off i hoff).2.2 k];rfl
   ·rw[zo e]
  unfold Ra.c
  rw[e1,e2]
  exact hd7
 have mm:Mv S ρ S7 ρ5 (fun q=>q=200∨RN n q):=(m1.mono fun q hq=>.inl hq).trans ((m25.mono fun q hq=>.inr hq).trans ((m6.mono fun q hq=>.inl hq).trans (m7.mono fun q hq=>.inl hq)))
 have m67:=m6.trans m7
 have hR:=h.made (sn:=sn) (quota:=qn) (pages:=pn) (xs:=xs) (d:=d) (mb:=mb) hwk hn hoff (by omega) hA5 mm (fun q hq=>hq) (hs5.keep m67 (by omega)) (fun j hj=>by
  obtain⟨b',h1,h2⟩:=hd5 j hj
  exact⟨b',h1,h2.keep m67 (by omega)⟩) ⟨hP5.me.keep m67 (by omega),fun p hp=>(hP5.pg p hp).keep m67 (by omega)⟩ hfin
 exact hQ S7 (hR.aft mm fun q hq=>by unfold RN at hq;omega)
end
end Go.Proofs.YtabdpmnhjlmnlaaGreatDoor
end
section
namespace Go.Cr
open Go Go.Pt
end Go.Cr
namespace Go.Proofs.YtabdpmnhjlmnlaaGreatDoor
open Go Go.Pt Go.Cr Go.Hp
section
variable {S S':Mem} {ρ ρ':Rho} {R:Nat→Prop} {r:Nat} {D:Ra} {W:Wd} {n:Nat}
set_option maxHeartbeats 4000000 in
end
end Go.Proofs.YtabdpmnhjlmnlaaGreatDoor
end
section
namespace Go.Cr
open Go Go.Pt
section
variable {W:Wd} {n:Nat}
theorem WOk.tell (h:WOk W) {m:Nat} {e:Evt}:WOk (W.tell m e):=⟨h.off,h.six,h.seats,h.ok,h.keys,h.disk,h.quota,h.bells,h.pg,h.most,h.lsr,h.lso,h.lsa,h.lsu,h.alarm⟩
theorem WOk.setAlarm (h:WOk W) (hon:(W.vm n).on=true) {k:Nat} (hk:k<(W.vm n).seats.length) {w:Int} (hw:W64 w):WOk (W.setAlarm n k w):=by
 refine⟨fun m hm=>⟨(h.off m hm).1,(h.off m hm).2.1,fun j=>?_⟩,h.six,h.seats,h.ok,h.keys,h.disk,h.quota,h.bells,h.pg,h.most,h.lsr,h.lso,h.lsa,h.lsu,fun m j a ha=>?_⟩
 ·have hm':(W.vm m).on=false:=hm
  show upd W.alarm n (upd (W.alarm n) k (some w)) m j=none
  rw[zo fun e=>by rw[e,hon] at hm';cases hm']
  exact (h.off m hm).2.2 j
 ·have ha':upd W.alarm n (upd (W.alarm n) k (some w)) m j=some a:=ha
  by_cases e:m=n
  ·subst e
   rw[zq] at ha'
   by_cases e2:j=k
   ·subst e2
    rw[zq] at ha'
    cases ha'
    exact⟨hk,hw⟩
   ·rw[zo e2] at ha';exact h.alarm m j a ha'
  ·rw[zo e] at ha';exact h.alarm m j a ha'
theorem WOk.setOF (h:WOk W) (hs:Sole W n) {p:Nat} (hp:p<32) {o:Option (List Int)} {f:Int} (ho:∀ l,o=some l→l.length=256∧Byt l) (hm:((W.setOF n p o f).pages n:Int)≤(W.vm n).quota):WOk (W.setOF n p o f):=by
 have hw:∀ m q,(W.setOF n p o f).own m q=if m=n∧q=p then o else W.own m q:=fun m q=>zgu m q
 refine⟨fun m hmo=>⟨(h.off m hmo).1,fun q=>?_,(h.off m hmo).2.2⟩,h.six,h.seats,h.ok,h.keys,h.disk,h.quota,h.bells,fun m q l hl=>?_,fun m=>?_,fun i hi=>?_,h.lso,fun i hi=>?_,fun i j hi=>?_,h.alarm⟩
 ·have hm':(W.vm m).on=false:=hmo
  rw[hw,if_neg fun e=>by rw[e.1,hs.on] at hm';cases hm']
  exact (h.off m hmo).2.1 q
 ·rw[hw] at hl
  split at hl
  ·rename_i e
   obtain⟨rfl,rfl⟩:=e
   exact⟨hs.on,hp,ho l hl⟩
  ·exact h.pg m q l hl
 ·by_cases e:m=n
  ·subst e;exact hm
  ·have:(W.setOF n p o f).pages m=W.pages m:=by
    unfold Wd.pages
    congr 1
    funext q
    rw[hw,if_neg fun h=>e h.1]
   rw[this];exact h.most m
 ·have:(W.ls i).on=true:=hi
  rw[hs.ls i] at this;cases this
 ·have:(W.ls i).on=true:=hi
  rw[hs.ls i] at this;cases this
 ·have:(W.ls i).on=true:=hi
  rw[hs.ls i] at this;cases this
structure Lft (n:Nat) (W W':Wd):Prop where
 wk:WOk W'
 so:Sole W' n
 f:W.free-1≤W'.free∧W'.free≤W.free+1
theorem Lft.refl (h:WOk W) (hs:Sole W n):Lft n W W:=⟨h,hs,by omega⟩
theorem Lft.setV (h:WOk W) (hs:Sole W n) {v:Bv} (hw:WOk (W.setV n v)) (hon:v.on=true):Lft n W (W.setV n v):=by
 refine⟨hw,⟨?_,fun m hm=>?_,hs.ls⟩,by show W.free-1≤W.free∧W.free≤W.free+1;omega⟩
 ·show (upd W.vm n v n).on=true
  rw[zq];exact hon
 ·show (upd W.vm n v m).on=false
  rw[zo hm];exact hs.off m hm
theorem WOk.putSeat (h:WOk W) (hon:(W.vm n).on=true) {k:Nat} {s:Seat} (hs:s.Ok):WOk (W.putSeat n k s):=by
 refine h.setV hon hon ?_ (fun t ht=>?_) (h.keys n) (fun j=>h.disk n j hon) rfl rfl
 ·show ((W.vm n).seats.set k s).length=_
  rw[List.length_set]
 ·have ht':t∈(W.vm n).seats.set k s:=ht
  rcases List.mem_or_eq_of_mem_set ht' with e | e
  ·exact h.ok n t e
  ·rw[e];exact hs
theorem Sole.putSeat (hs:Sole W n) {k:Nat} {s:Seat}:Sole (W.putSeat n k s) n:=by
 refine⟨?_,fun m hm=>?_,hs.ls⟩
 ·show (upd W.vm n _ n).on=true
  rw[zq];exact hs.on
 ·show (upd W.vm n _ m).on=false
  rw[zo hm];exact hs.off m hm
end
end Go.Cr
end
section
namespace Go.Proofs.YtabdpmnhjlmnlaaGreatDoor
open Go Go.Pt Go.Cr Go.Hp
section
variable {S S':Mem} {ρ ρ':Rho} {R:Nat→Prop} {r:Nat} {D:Ra} {W:Wd} {n:Nat}
end
end Go.Proofs.YtabdpmnhjlmnlaaGreatDoor
end
section
namespace Go.Proofs.YtabdpmnhjlmnlaaGreatDoor
open Go Go.Pt
attribute [local irreducible] Code.wp Back bodyPost wpList FR WL WC WQ WA AW Tr Yc HC AllC
set_option maxRecDepth 20000
set_option maxHeartbeats 4000000
set_option linter.unusedVariables false
def yO (S:Mem) (h:Pt) (x:Pt) (Q:Bool→Mem→Prop):Prop:=
 jn (fun (Sx:Mem)=>
 nn h fun b o=>
 gP (Sx.cell b (o+1)) fun t=>
 nn x fun b_1 o_1=>
 gI (Sx.cell b_1 (o_1+1)) .i64 fun t_1=>
 vj Sx t fun t_2 Sx_1=>
 Sx_1.cell b_1 (o_1+1)=some (.int .i64 t_1) ∧
 Q (decide (t_2=t_1)) Sx_1) fun Jx=>
 lp (fun Xx (n:Int) (Sx_2:Mem)=>
 jn (fun (Sx_3:Mem)=>
 jn (fun (Sx_4:Mem)=>
 Xx (IntKind.i64.wrap (n+1)) Sx_4) fun Jx_1=>
 yH Sx_3 h n fun t_3 Sx_5=>
 jn (fun (Sx_6:Mem)=>
 jn (fun (Sx_7:Mem)=>
 jn (fun (pages:Int) (Sx_8:Mem)=>
 xd Sx_8 h n fun t_4 Sx_9=>
 if t_4≠pages then
 Q false Sx_9
 else
 nn h fun b_2 o_2=>
 gP (Sx_9.cell b_2 (o_2+3)) fun t_5=>
 nn x fun b_3 o_3=>
 0≤n∧n<6 ∧
 gB (Sx_9.cell b_3 (o_3+2+n.toNat*54)) fun t_6=>
 qy Sx_9 t_5 n fun t_7 Sx_10=>
 Sx_10.cell b_3 (o_3+2+n.toNat*54)=some (.bool t_6) ∧
 if t_7≠t_6 then
 Q false Sx_10
 else
 Jx_1 Sx_10) fun Jx_2=>
 nn x fun b_4 o_4=>
 0≤n∧n<6 ∧
 gB (Sx_7.cell b_4 (o_4+2+n.toNat*54)) fun t_8=>
 if t_8=true then
 yc Sx_7 (some (b_4,o_4)) n fun t_9 Sx_11=>
 Jx_2 t_9 Sx_11
 else
 Jx_2 0 Sx_7) fun Jx_3=>
 lp (fun Xx_1 (i:Int) (Sx_12:Mem)=>
 jn (fun (Sx_13:Mem)=>
 sl t_3 fun b_5 o_5 n_1 n_2=>
 0≤i∧i<((n_1:Nat):Int) ∧
 gA (Sx_13.part b_5 (o_5+i.toNat*4) 4) fun t_10=>
 nn x fun b_6 o_6=>
 0≤n∧n<6 ∧
 gL (Sx_13.cell b_6 (o_6+422+n.toNat*1)) fun t_11=>
 sl t_11 fun b_7 o_7 n_3 n_4=>
 0≤i∧i<((n_3:Nat):Int) ∧
 gA (Sx_13.part b_7 (o_7+i.toNat*4) 4) fun t_12=>
 fits [.i .u8,.i .i64,.i .u64,.i .u64] t_10=true ∧
 fits [.i .u8,.i .i64,.i .u64,.i .u64] t_12=true ∧
 if (!(eqL t_10 t_12))=true then
 Q false Sx_13
 else
 Xx_1 (IntKind.i64.wrap (i+1)) Sx_13) fun Jx_4=>
 if i<(t_3.n:Int) then
 Jx_4 Sx_12
 else
 Jx_3 Sx_12) 0 Sx_6) fun Jx_5=>
 nn x fun b_8 o_8=>
 0≤n∧n<6 ∧
 gL (Sx_5.cell b_8 (o_8+422+n.toNat*1)) fun t_13=>
 if (t_3.n:Int)≠(t_13.n:Int) then
 Q false Sx_5
 else
 Jx_5 Sx_5) fun Jx_6=>
 if n<6 then
 Jx_6 Sx_2
 else
 Jx Sx_2) 0 S
theorem gw {S:Mem} {h:Pt} {x:Pt} {Q:Bool→Mem→Prop} (H:yO S h x Q):yl S h x Q:=by
 unfold yO at H
 exact Tr.intro Tryz.func37 E Tryz.ntmps37 E fun w0=>csr<|gv E E<|nx<|zn H (fun (J:Mem→Prop) (z:Unit) S=>J S) (fun z=>⟨87,[(0,eP h),(1,eP x)]⟩) (fun z=>[]) (fun _ Sx H1=>zC<|zM (by kernel_rfl)<|aTP 0 E (by decide +kernel) E (zm E)<|by exact by obtain⟨b,o,rfl,H2⟩:=H1;exact aTP 1 E (by decide +kernel) E (zJ E)<|by exact aTP 2 E (by decide +kernel) E (zv E E)<|by exact gx H2 fun t ht H3=>aT 3 E (by decide +kernel) E (zz E) (zH ht)<|by exact aTP 5 E (by decide +kernel) E (zm E)<|by exact by obtain⟨b_1,o_1,rfl,H4⟩:=H3;exact aTP 6 E (by decide +kernel) E (zJ E)<|by exact aTP 7 E (by decide +kernel) E (zv E E)<|by exact gx H4 fun t_1 ht_1 H5=>aT 8 E (by decide +kernel) E (zz E) (zH ht_1)<|by exact zB 4 (by decide +kernel) E<|by exact qC E E H5 fun t_2 Sx_1 H6=>by obtain⟨k,H7⟩:=H6;exact zr<|zN (zx (zH k) zy)<|aTP 9 E (by decide +kernel) E (jA E E)<|by exact aTP 10 E (by decide +kernel) E (zS E)<|by exact zK (by decide +kernel)<|by exact zt<|zi<|zh Tryz.results37 (zd E ze) ⟨_,E,H7⟩) (fun Jx hJx H8=>csr<|gv E E<|nx<|zw<|qB (fun z=>⟨87,[(0,eP h),(1,eP x),(5,.int .i64 z)]⟩) (fun z=>[]) 0 (idx:=[]) H8 E ⟨E,E,E,True.intro⟩ E<|fun Xx hXx n Sx_2 H9=>zn H9 (fun (J:Mem→Prop) (z:Unit) S=>J S) (fun z=>⟨87,[(0,eP h),(1,eP x),(5,.int .i64 n)]⟩) (fun z=>[]) (fun _ Sx_3 H10=>zn H10 (fun (J:Mem→Prop) (z:Unit) S=>J S) (fun z=>⟨87,[(0,eP h),(1,eP x),(5,.int .i64 n)]⟩) (fun z=>[]) (fun _ Sx_4 H11=>zu<|mv E E<|s_p E (qh E E)<|gv E E<|zr<|hXx (IntKind.i64.wrap (n+1)) _ _ _ _ [] H11 E ⟨E,E,E,True.intro⟩ E) (fun Jx_1 hJx_1 H12=>zw<|csr<|mv E E<|mv E E<|qC E E H12 fun t_3 Sx_5 H13=>gv E E<|nx<|zn H13 (fun (J:Mem→Prop) (z:Unit) S=>J S) (fun z=>⟨87,[(0,eP h),(1,eP x),(5,.int .i64 n),(6,eL t_3)]⟩) (fun z=>[]) (fun _ Sx_6 H14=>zn H14 (fun (J:Mem→Prop) (z:Unit) S=>J S) (fun z=>⟨87,[(0,eP h),(1,eP x),(5,.int .i64 n)]⟩) (fun z=>[]) (fun _ Sx_7 H15=>csr<|gv E E<|nx<|zn H15 (fun (J:Int→Mem→Prop) (z:Int) S=>J z S) (fun z=>⟨87,[(0,eP h),(1,eP x),(5,.int .i64 n),(8,.int .i64 z)]⟩) (fun z=>[]) (fun pages Sx_8 H16=>zC<|zM (by kernel_rfl)<|a_takeP 0 E (by decide +kernel) (za (zf (za (za (zf (za zc)))))) E (zm E)<|by exact a_takeP 1 E (by decide +kernel) (za (zf (za (za (zf (za zc)))))) E (zm E)<|by exact a_takeP 3 E (by decide +kernel) (za (zf (za (za (zf (za zc)))))) E (zm E)<|by exact zB 2 (by decide +kernel) E<|by exact qC E E H16 fun t_4 Sx_9 H17=>zr<|zN zy<|iteK H17 (fun c H18=>a_takeP 4 E (by decide +kernel) (za (zf (za (za (zf (za zc)))))) E (yT (zQ E E) c)<|by exact a_takeP 5 E (by decide +kernel) (za (zf (za (za (zf (za zc)))))) E (zm E)<|by exact zR 6 E (by decide +kernel) (za (zf (za (za (zf (za zc)))))) E<|by exact zR 7 E (by decide +kernel) (za (zf (za (za (zf (za zc)))))) E<|by exact zR 8 E (by decide +kernel) (za (zf (za (za (zf (za zc)))))) E<|by exact zR 9 E (by decide +kernel) (za (zf (za (za (zf (za zc)))))) E<|by exact zR 10 E (by decide +kernel) (za (zf (za (za (zf (za zc)))))) E<|by exact zR 11 E (by decide +kernel) (za (zf (za (za (zf (za zc)))))) E<|by exact zR 12 E (by decide +kernel) (za (zf (za (za (zf (za zc)))))) E<|by exact zR 13 E (by decide +kernel) (za (zf (za (za (zf (za zc)))))) E<|by exact zR 14 E (by decide +kernel) (za (zf (za (za (zf (za zc)))))) E<|by exact zR 15 E (by decide +kernel) (za (zf (za (za (zf (za zc)))))) E<|by exact zR 16 E (by decide +kernel) (za (zf (za (za (zf (za zc)))))) E<|by exact zR 17 E (by decide +kernel) (za (zf (za (za (zf (za zc)))))) E<|by exact zR 18 E (by decide +kernel) (za (zf (za (za (zf (za zc)))))) E<|by exact zR 19 E (by decide +kernel) (za (zf (za (za (zf (za zc)))))) E<|by exact a_takeP 20 E (by decide +kernel) (za (zf (za (za (zf (za zc)))))) E (yQ E E)<|by exact zK (by decide +kernel)<|by exact zt<|c_t E E<|csr<|gv E E<|nx<|zi<|zj<|zb<|zb<|zj<|zb<|zh Tryz.results37 (zd E ze) ⟨_,E,H18⟩) fun c H18=>a_takeP 4 E (by decide +kernel) (za (zf (za (za (zf (za zc)))))) E (yF (zQ E E) c)<|by exact a_takeP 5 E (by decide +kernel) (za (zf (za (za (zf (za zc)))))) E (zm E)<|by exact a_takeP 6 E (by decide +kernel) (za (zf (za (za (zf (za zc)))))) E (zm E)<|by exact by obtain⟨b_2,o_2,rfl,H19⟩:=H18;exact a_takeP 7 E (by decide +kernel) (za (zf (za (za (zf (za zc)))))) E (zJ E)<|by exact a_takeP 8 E (by decide +kernel) (za (zf (za (za (zf (za zc)))))) E (zv E E)<|by exact gx H19 fun t_5 ht_5 H20=>zV 9 E (by decide +kernel) (za (zf (za (za (zf (za zc)))))) E (zz E) (zH ht_5)<|by exact a_takeP 10 E (by decide +kernel) (za (zf (za (za (zf (za zc)))))) E (zm E)<|by exact a_takeP 12 E (by decide +kernel) (za (zf (za (za (zf (za zc)))))) E (zm E)<|by exact a_takeP 13 E (by decide +kernel) (za (zf (za (za (zf (za zc)))))) E (zm E)<|by exact by obtain⟨b_3,o_3,rfl,H21⟩:=H20;exact a_takeP 14 E (by decide +kernel) (za (zf (za (za (zf (za zc)))))) E (zJ E)<|by exact a_takeP 15 E (by decide +kernel) (za (zf (za (za (zf (za zc)))))) E (zv E E)<|by exact an2 H21 fun c_1 c_2 H22=>a_takeP 16 E (by decide +kernel) (za (zf (za (za (zf (za zc)))))) E (qv E E c_1 c_2 E)<|by exact a_takeP 17 E (by decide +kernel) (za (zf (za (za (zf (za zc)))))) E (zv E E)<|by exact gx H22 fun t_6 ht_6 H23=>zV 18 E (by decide +kernel) (za (zf (za (za (zf (za zc)))))) E (zz E) (zH ht_6)<|by exact zB 11 (by decide +kernel) E<|by exact qC E E H23 fun t_7 Sx_10 H24=>by obtain⟨k_1,H25⟩:=H24;exact zr<|zN (zx (zH k_1) zy)<|iteK H25 (fun c_3 H26=>a_takeP 19 E (by decide +kernel) (za (zf (za (za (zf (za zc)))))) E (yT (znO E E) c_3)<|by exact a_takeP 20 E (by decide +kernel) (za (zf (za (za (zf (za zc)))))) E (yQ E E)<|by exact zK (by decide +kernel)<|by exact zt<|c_t E E<|csr<|gv E E<|nx<|zi<|zj<|zb<|zb<|zj<|zb<|zh Tryz.results37 (zd E ze) ⟨_,E,H26⟩) fun c_3 H26=>a_takeP 19 E (by decide +kernel) (za (zf (za (za (zf (za zc)))))) E (yF (znO E E) c_3)<|by exact a_takeP 20 E (by decide +kernel) (za (zf (za (za (zf (za zc)))))) E (yQ E E)<|by exact zK (by decide +kernel)<|by exact zt<|cfs E E<|zU<|hJx_1 () _ _ _ _ [] H26 E ⟨E,E,E,True.intro⟩ E) (fun Jx_2 hJx_2 H27=>csr<|mv E E<|mv E E<|by obtain⟨b_4,o_4,rfl,H28⟩:=H27;exact s_p E (zJ E)<|s_p E (zv E E)<|an2 H28 fun c_4 c_5 H29=>s_p E (qv E E c_4 c_5 E)<|s_p E (zv E E)<|gx H29 fun t_8 ht_8 H30=>by have H31:=wM H30;rcases H31 with ⟨rfl,H32⟩ | ⟨rfl,H32⟩;exact (s_v E (zz E) (zH ht_8)<|nx<|ctr E E<|mv E E<|mv E E<|qC E E H32 fun t_9 Sx_11 H33=>gv E E<|zr<|hJx_2 t_9 _ _ _ _ [] H33 E ⟨E,E,E,E,True.intro⟩ E);exact (s_v E (zz E) (zH ht_8)<|nx<|cfs E E<|hJx_2 0 _ _ _ _ [] H32 E ⟨E,E,E,E,True.intro⟩ E))) (fun Jx_3 hJx_3 H34=>csr<|gv E E<|nx<|zw<|qB (fun z=>⟨87,[(0,eP h),(1,eP x),(5,.int .i64 n),(6,eL t_3),(7,.int .i64 z)]⟩) (fun z=>[]) 0 (idx:=[]) H34 E ⟨E,E,E,E,E,True.intro⟩ E<|fun Xx_1 hXx_1 i Sx_12 H35=>zn H35 (fun (J:Mem→Prop) (z:Unit) S=>J S) (fun z=>⟨87,[(0,eP h),(1,eP x),(5,.int .i64 n),(6,eL t_3),(7,.int .i64 i)]⟩) (fun z=>[]) (fun _ Sx_13 H36=>zC<|zw<|zC<|zM (by kernel_rfl)<|a_takeP 0 E (by decide +kernel) (za (zf (za (za (zf (za (zf (za (za (zf (za zc))))))))))) E (zm E)<|by exact a_takeP 1 E (by decide +kernel) (za (zf (za (za (zf (za (zf (za (za (zf (za zc))))))))))) E (zm E)<|by exact by obtain⟨b_5,o_5,n_1,n_2,rfl,H37⟩:=H36;exact an2 H37 fun c_6 c_7 H38=>a_takeP 2 E (by decide +kernel) (za (zf (za (za (zf (za (zf (za (za (zf (za zc))))))))))) E (qS E E c_6 c_7 E)<|by exact gx H38 fun t_10 ht_10 H39=>by refine zV 3 E (by decide +kernel) (za (zf (za (za (zf (za (zf (za (za (zf (za zc))))))))))) E (zT E (zG ht_10)) (yi ht_10) ?_;exact a_takeP 4 E (by decide +kernel) (za (zf (za (za (zf (za (zf (za (za (zf (za zc))))))))))) E (zm E)<|by exact a_takeP 5 E (by decide +kernel) (za (zf (za (za (zf (za (zf (za (za (zf (za zc))))))))))) E (zm E)<|by exact by obtain⟨b_6,o_6,rfl,H40⟩:=H39;exact a_takeP 6 E (by decide +kernel) (za (zf (za (za (zf (za (zf (za (za (zf (za zc))))))))))) E (zJ E)<|by exact a_takeP 7 E (by decide +kernel) (za (zf (za (za (zf (za (zf (za (za (zf (za zc))))))))))) E (zv E E)<|by exact an2 H40 fun c_8 c_9 H41=>a_takeP 8 E (by decide +kernel) (za (zf (za (za (zf (za (zf (za (za (zf (za zc))))))))))) E (qv E E c_8 c_9 E)<|by exact gx H41 fun t_11 ht_11 H42=>zV 9 E (by decide +kernel) (za (zf (za (za (zf (za (zf (za (za (zf (za zc))))))))))) E (zz E) (zH ht_11)<|by exact a_takeP 10 E (by decide +kernel) (za (zf (za (za (zf (za (zf (za (za (zf (za zc))))))))))) E (zm E)<|by exact by obtain⟨b_7,o_7,n_3,n_4,rfl,H43⟩:=H42;exact an2 H43 fun c_10 c_11 H44=>a_takeP 11 E (by decide +kernel) (za (zf (za (za (zf (za (zf (za (za (zf (za zc))))))))))) E (qS E E c_10 c_11 E)<|by exact gx H44 fun t_12 ht_12 H45=>by refine zV 12 E (by decide +kernel) (za (zf (za (za (zf (za (zf (za (za (zf (za zc))))))))))) E (zT E (zG ht_12)) (yi ht_12) ?_;exact an H45 fun c_12 H46=>an H46 fun c_13 H47=>iteK H47 (fun c_14 H48=>a_takeP 13 E (by decide +kernel) (za (zf (za (za (zf (za (zf (za (za (zf (za zc))))))))))) E (yB (zmJ E E c_12 c_13) c_14)<|by exact zK (by decide +kernel)<|by exact zt<|c_t E E<|csr<|gv E E<|nx<|zi<|zj<|zb<|zb<|zj<|zb<|zj<|zb<|zb<|zj<|zb<|zh Tryz.results37 (zd E ze) ⟨_,E,H48⟩) fun c_14 H48=>a_takeP 13 E (by decide +kernel) (za (zf (za (za (zf (za (zf (za (za (zf (za zc))))))))))) E (yB (zmJ E E c_12 c_13) (kX c_14))<|by exact zK (by decide +kernel)<|by exact zt<|cfs E E<|zU<|zt<|zu<|mv E E<|s_p E (qh E E)<|gv E E<|zr<|hXx_1 (IntKind.i64.wrap (i+1)) _ _ _ _ [] H48 E ⟨E,E,E,E,E,True.intro⟩ E) (fun Jx_4 hJx_4 H49=>csr<|mv E E<|mv E E<|s_p E (yk E)<|iteK H49 (fun c_15 H50=>s_p E (yT (zD E E) c_15)<|nx<|c_t E E<|qg<|by exact hJx_4 () _ _ _ _ [] H50 E ⟨E,E,E,E,E,True.intro⟩ E) fun c_15 H50=>s_p E (yF (zD E E) c_15)<|nx<|c_f E E<|qt<|zl<|zl<|zI<|by exact hJx_3 () _ _ _ _ [] H50 E ⟨E,E,E,True.intro⟩ E))) (fun Jx_5 hJx_5 H51=>csr<|mv E E<|s_p E (yk E)<|mv E E<|mv E E<|by obtain⟨b_8,o_8,rfl,H52⟩:=H51;exact s_p E (zJ E)<|s_p E (zv E E)<|an2 H52 fun c_16 c_17 H53=>s_p E (qv E E c_16 c_17 E)<|gx H53 fun t_13 ht_13 H54=>s_v E (zz E) (zH ht_13)<|s_p E (yk E)<|iteK H54 (fun c_18 H55=>s_p E (yT (zQ E E) c_18)<|nx<|c_t E E<|csr<|gv E E<|nx<|zi<|zb<|zj<|zb<|zb<|zj<|zb<|zh Tryz.results37 (zd E ze) ⟨_,E,H55⟩) fun c_18 H55=>s_p E (yF (zQ E E) c_18)<|nx<|cfs E E<|hJx_5 () _ _ _ _ [] H55 E ⟨E,E,E,E,True.intro⟩ E))) (fun Jx_6 hJx_6 H56=>csr<|mv E E<|iteK H56 (fun c_19 H57=>s_p E (yT (zD E E) c_19)<|nx<|c_t E E<|qg<|hJx_6 () _ _ _ _ [] H57 E ⟨E,E,E,True.intro⟩ E) fun c_19 H57=>s_p E (yF (zD E E) c_19)<|nx<|c_f E E<|qt<|zl<|zl<|zI<|hJx () _ _ _ _ [] H57 E ⟨E,E,True.intro⟩ E))
end Go.Proofs.YtabdpmnhjlmnlaaGreatDoor
end
section
namespace Go.Proofs.YtabdpmnhjlmnlaaGreatDoor
open Go Go.Pt Go.Cr Go.Hp
structure Bth (S0 S:Mem) (h r:Nat) (W:Wd):Prop where
 ex:∃ ρ A C φ D,Mv S0 rho0 S ρ (fun q=>Rc q∨Rd q)∧CrabA S ρ h A C∧Rel C W φ∧RefA S ρ r D W
section
variable {S S' S0:Mem} {ρ ρ':Rho} {R:Nat→Prop} {h r:Nat} {A:Ad} {C:Cst} {W W':Wd} {φ:Nat→Nat→Nat} {D:Ra}
theorem Bth.wk (b:Bth S0 S h r W):WOk W:=by
 obtain⟨_,_,_,_,_,_,_,hr,_⟩:=b.ex
 exact hr.wk
theorem Bth.keeps0 (b:Bth S0 S h r W):Keeps S0 S []:=by
 obtain⟨_,_,_,_,_,m,_⟩:=b.ex
 exact zdT m
theorem Bth.on (b:Bth S0 S h r W) (hk:Keeps S S' []):Bth S0 S' h r W:=by
 obtain⟨ρ,A,C,φ,D,m,hc,hr,hR⟩:=b.ex
 exact⟨⟨ρ,A,C,φ,D,m.then hk,hc.keeps hk,hr,hR.keeps hr.wk hk⟩⟩
theorem Bth.act {hc:CrabA S ρ h A C} (m0:Mv S0 rho0 S ρ (fun q=>Rc q∨Rd q)) (hwk:WOk W) (hR:RefA S ρ r D W) {ρ1:Rho} {A1:Ad} {C1:Cst} {S1:Mem} {φ1:Nat→Nat→Nat} (m1:Mv S ρ S1 ρ1 Rc) (hc1:CrabA S1 ρ1 h A1 C1) (hr1:Rel C1 W' φ1) :
  RefA S1 ρ1 r D W∧∀ S2,RAft r S1 ρ1 W' S2→Bth S0 S2 h r W':=by
 refine⟨hR.keep (fun n p l=>hwk.six') m1 fun q h1 h2 h3=>by unfold Rc at h3;omega,fun S2 hA=>?_⟩
 obtain⟨ρ2,D2,m2,h2⟩:=hA
 exact⟨⟨ρ2,A1,C1,φ1,D2,(m0.trans (m1.mono fun q hq=>.inl hq)).trans (m2.mono fun q hq=>.inr hq),hc1.keep m2 fun q h1 h3=>by unfold Rd at h3;omega,hr1,h2⟩⟩
theorem zmk (b:Bth S0 S h r W) {seats quota pages:Int} {img:Sl} {xs:List Int} (himg:∀ ρ,Mv S0 rho0 S ρ (fun q=>Rc q∨Rd q)→ImgAt S ρ img xs) (hil:xs.length≤1000000) {Q:Int→Int→Int→Int→Mem→Prop} (hQ:∀ S',Bth S0 S' h r (W.create seats quota pages xs).2.2→Q (W.create seats quota pages xs).1 (W.create seats quota pages xs).2.1 (W.create seats quota pages xs).1 (W.create seats quota pages xs).2.1 S') :
  yI S (some (h,0)) seats quota pages img fun t u S1=>qV S1 (some (r,0)) seats quota pages img fun t' u' S2=>Q t u t' u' S2:=by
 obtain⟨ρ,A,C,φ,D,m0,hc,hr,hR⟩:=b.ex
 have hf : -90000≤W.free∧W.free≤90000:=by
  have:=hr.free
  have h2:=kg (fun f=>! C.used f) C.N
  have h3:=hr.N
  omega
 have hi:=himg ρ m0
 refine zei hc hr hi hil fun S1 hA=>?_
 obtain⟨ρ1,A1,C1,φ1,m1,hc1,hr1,_⟩:=hA
 obtain⟨hR1,hfin⟩:=Bth.act (hc:=hc) m0 hr.wk hR m1 hc1 hr1
 exact zgA hR1 hr.wk hf (hi.mv m1) hil fun S2 hA2=>hQ S2 (hfin S2 hA2)
theorem zin (hr:Rel C W φ) {n:Nat} (hon:(W.vm n).on=false):¬thereV C.vm (n:Int):=fun h=>by
 have h2:(C.vm (n:Int).toNat).on=true:=h.2.2
 rw[Int.toNat_natCast,hr.vm,hon] at h2;cases h2
theorem zjv (hc:CrabA S ρ h A C) (hr:Rel C W φ) {n:Nat} (hn:n<6) {Q:Int→Mem→Prop} (hQ:Q (W.pages n) S):xd S (some (h,0)) n Q:=by
 cases hon:(W.vm n).on with
 | true=>exact zel hc hr hn hon hQ
 | false=>
  have hz:W.pages n=0:=xm fun p _=>by rw[(hr.wk.off n hon).2.1 p];rfl
  rw[hz] at hQ
  apply jE
  unfold xp
  simp only[jn]
  rw[if_neg (by simp),qk,qP hc.c3]
  refine xY hc ?_
  rw[decide_eq_false (zin hr hon),if_neg (by decide)]
  exact hQ
theorem zgx (b:Bth S0 S h r W) {e:Nat} (he:W.evB e) (hel:e≤700000000) {Q:Bool→Mem→Prop} (hQ:∀ S',Keeps S S' []→Q true S'):yl S (some (h,0)) (some (r,0)) Q:=by
 apply gw
 unfold yO
 refine qc (fun J=>∀ S',Keeps S S' []→J S') (fun S' hk=>?_) fun J hJ=>?_
 ·obtain⟨ρ,A,C,φ,D,m0,hc,hr,hR⟩:=(b.on hk).ex
  rw[qk,qP hc.c1,qk,zY hR.c1]
  refine zgG hc.pl ?_
  refine⟨hR.c1,?_⟩
  rw[decide_eq_true hr.free.symm]
  exact hQ S' hk
 refine zX (fun (z:Int) S'=>∃ i:Nat,z=(i:Int)∧i≤6∧Keeps S S' []) (fun z=>6-z.toNat) ?_ ⟨0,rfl,by decide,Keeps.refl⟩
 rintro X z S1 ⟨n,rfl,hn6,hk1⟩ ih
 by_cases hlt:(n:Int)<6
 rotate_left
 ·refine qc (fun _=>True) trivial fun J' _=>?_
  rw[if_neg hlt];exact hJ S1 hk1
 have hn:n<6:=by omega
 refine qc (fun J'=>J' S1) ?_ fun J' hJ'=>by rw[if_pos hlt];exact hJ'
 obtain⟨ρ,A,C,φ,D,m0,hc,hr,hR⟩:=(b.on hk1).ex
 have hevn:=he n
 refine qc (fun J'=>∀ S',Keeps S S' []→J' S') (fun S' hk=>by rw[w64 (by omega) (by omega)];exact ih _ _ ⟨n+1,by omega,by omega,hk⟩ (by omega)) fun J1 hJ1=>?_
 refine zec hc hn (by rw[hr.ev];omega) fun t S2 hk2 hrow hfr=>?_
 rw[hr.ev] at hrow
 have hc2:=hc.keeps hk2
 have hR2:=hR.keeps hr.wk hk2
 have hrw:=hR2.ev n hn
 have hn2:=hrw.n (by decide) (xF fb _)
 have hw1:Rw S2 (fun _=>some 0) 0 4 t ((W.ev n).flatMap evL):=⟨hrow,fun _ _ _=>rfl⟩
 have hn1:=hw1.n (by decide) (xF fb _)
 refine qc (fun J'=>J' S2) ?_ fun J' hJ'=>by
  rw[qk]
  refine⟨by omega,by omega,?_⟩
  rw[jW (hR2.ecell hn (by omega)),if_neg (by rw[hn1,hn2];simp)];exact hJ'
 refine qc (fun J'=>J' S2) ?_ fun J' hJ'=>?_
 ·refine qc (fun J'=>∀ u:Int,u=W.pages n→J' u S2) ?_ fun J' hJ'=>?_
  ·intro u hu
   refine zjv hc2 hr hn ?_
   rw[if_neg (by rw[hu];simp),qk,qP hc2.c3,qk]
   refine⟨by omega,by omega,?_⟩
   rw[zaF (hR2.von hn (by omega))]
   refine xY hc2 ?_
   refine⟨hR2.von hn (by omega),?_⟩
   have hth:decide (thereV C.vm (n:Int))=(W.vm n).on:=by
    cases hon:(W.vm n).on with
    | true=>exact decide_eq_true ⟨by omega,by omega,by rw[Int.toNat_natCast,hr.vm];exact hon⟩
    | false=>exact decide_eq_false (zin hr hon)
   rw[hth,if_neg (fun h=>h rfl)]
   exact hJ1 S2 (hk1.trans hk2)
  ·rw[qk]
   refine⟨by omega,by omega,?_⟩
   rw[zaF (hR2.von hn (by omega))]
   cases hon:(W.vm n).on with
   | true=>
    rw[if_pos rfl]
    exact zdN hR2 hn (hJ' _ rfl)
   | false=>
    rw[if_neg (by decide)]
    have hz:W.pages n=0:=xm fun p _=>by rw[(hr.wk.off n hon).2.1 p];rfl
    exact hJ' 0 (by rw[hz];rfl)
 ·refine zX (fun (z:Int) S'=>∃ i:Nat,z=(i:Int)∧i≤(W.ev n).length∧S'=S2) (fun z=>(W.ev n).length-z.toNat) ?_ ⟨0,rfl,Nat.zero_le _,rfl⟩
  rintro X2 z S3 ⟨i,rfl,hi,hS⟩ ih2
  subst hS
  by_cases hl2:(i:Int)<(t.n:Int)
  rotate_left
  ·refine qc (fun _=>True) trivial fun J2 _=>?_
   rw[if_neg hl2];exact hJ'
  refine qc (fun J2=>J2 S3) ?_ fun J2 hJ2=>by rw[if_pos hl2];exact hJ2
  have hil:i<(W.ev n).length:=by omega
  have hfl:=xF fb (W.ev n)
  obtain⟨c,e1,e2⟩:=hw1.sl (by rw[hfl];omega)
  obtain⟨c',e1',e2'⟩:=hrw.sl (by rw[hfl];omega)
  rw[show sl t=sl ⟨some (c,0),t.n,t.c⟩ by rw[←e1],zah]
  refine⟨by omega,by omega,?_⟩
  rw[jo ((hw1.part e2 (i*4) (by rw[hfl];omega) (by omega)).trans (zcl fb hil)),qk]
  refine⟨by omega,by omega,?_⟩
  rw[jW (hR2.ecell hn (by omega)),show sl (D.es n)=sl ⟨some (c',0),(D.es n).n,(D.es n).c⟩ by rw[←e1'],zah]
  refine⟨by omega,by omega,?_⟩
  rw[jo ((hrw.part e2' (i*4) (by rw[hfl];omega) (by omega)).trans (zcl fb hil))]
  refine⟨rfl,rfl,?_⟩
  rw[(zee (ks:=[.i .u8,.i .i64,.i .u64,.i .u64]) rfl rfl).2 rfl,if_neg (by decide),w64 (by omega) (by omega)]
  exact ih2 _ _ ⟨i+1,by omega,by omega,rfl⟩ (by omega)
end
end Go.Proofs.YtabdpmnhjlmnlaaGreatDoor
end
section
namespace Go.Pt
open Go Go.RowKit Go.ChangeShapes
def memOf (W:World):Mem:=fun b=>match W.heap[b]? with
 | some (.cells c t fr)=>some ⟨t,c.toList,fr⟩
 | _=>none
theorem zip (W:World):St W (memOf W) (memOf W) [] W:=by
 refine⟨rfl,rfl,rfl,Nat.le_refl _,fun _ _ _=>rfl,fun b k h=>?_,by simp,by simp,fun b h1 h2=>(h2 h1).elim,fun _ h=>h⟩
 unfold memOf at h
 split at h
 ·rename_i c t fr hh
  cases h
  simpa using hh
 ·cases h
theorem zje {W:World} {b o:Nat} {v:Value} (h:W.cell? ⟨b,o,none⟩=some v):(memOf W).cell b o=some v:=by
 unfold World.cell? at h
 unfold Mem.cell memOf
 split at h
 ·rename_i c t fr hh
  simp only at hh
  simp only[Option.isSome_none,Bool.false_eq_true,if_false] at h
  rw[hh]
  simp only[qb]
  simpa using h
 ·cases h
theorem zhR {P:Program} {f:FuncId} {args:List Value} {W:World} {u:Value} (h:Tr P f (memOf W) args (fun v S'=>v=u∧Keeps (memOf W) S' [])) :
  Calls P f args.toArray W fun e W'=>e=.returned u∧Below W.heap.size W W':=by
 refine (h W (zip W)).mono ?_
 rintro e W' ⟨v,S',rfl,⟨rfl,hk⟩,hS⟩
 refine⟨rfl,hS.os,hS.tape,hS.output,hS.size,fun k hlt=>?_⟩
 cases hm:memOf W k with
 | none=>exact hS.frame k hlt hm
 | some q=>
  have e1:=hS.mem k q (hk.get hm (by simp))
  have e2:=(zip W).mem k q hm
  rw[e1,e2]
def BytesIn (S:Mem) (l:Sl):Prop:=∀ i:Nat,i<l.n→∃ b o z,l.p=some (b,o)∧S.cell b (o+i)=some (.int .u8 z)∧0≤z∧z≤255
theorem BytesIn.keep {S S':Mem} {l:Sl} (h:BytesIn S l) (hk:Keeps S S' []):BytesIn S' l:=fun i hi=>by
 obtain⟨b,o,z,h1,h2,h3⟩:=h i hi
 obtain⟨k,h4,h5⟩:=zfe h2
 exact⟨b,o,z,h1,by rw[qA (hk.get h4 (by simp))];exact h5,h3⟩
end Go.Pt
end
section
namespace Go.Pt
open Go Go.RowKit Go.ChangeShapes
def NumsIn (S:Mem) (l:Sl):Prop:=∀ i:Nat,i<l.n→∃ b o z,l.p=some (b,o)∧S.cell b (o+i)=some (.int .u64 z)∧0≤z∧z≤18446744073709551615
theorem NumsIn.keep {S S':Mem} {l:Sl} (h:NumsIn S l) (hk:Keeps S S' []):NumsIn S' l:=fun i hi=>by
 obtain⟨b,o,z,h1,h2,h3⟩:=h i hi
 obtain⟨k,h4,h5⟩:=zfe h2
 exact⟨b,o,z,h1,by rw[qA (hk.get h4 (by simp))];exact h5,h3⟩
end Go.Pt
end
section
namespace Go.Pt
open Go Go.RowKit Go.ChangeShapes Go.WideShapes Go.ChangeAt Go.Lib
theorem zhE {H:Type} {enc:TypeId×Value→H} {a:Assume} {C:Checked} {os:Os} {f:FuncId} {fn:Func} {s:ChangeSpec} {conds:List PathCond} {apart fresh handsOn again:Bool} {X:World→Array Value→Prop}
  (hX:∀ (w w':World) (args:Array Value),w.heap=w'.heap→X w args→X w' args) (own:ownKnob C.prog.godebug=none) (started:os.Started) (noInit:C.prog.inits.idxOf? f=none) (hfn:C.prog.funcs[f]? = some fn)
  (witness:∃ (w:World) (tape:Tape) (i:Input),w.os=os∧(w.forCall tape i).Shaped C.prog∧i.vars=[]∧Input.okWide C.prog (w.forCall tape i) .any w.heap.size f i ∧
   ((s.pre enc C.prog fn conds apart (w.forCall tape i).memory i.args∧X (w.forCall tape i).memory i.args)∧sizedMet enc C.prog fn (OpenSpec.ofChange s) apart (w.forCall tape i).memory i.args)∧a.holds C.prog (lone (Frame.enter C.prog f i.args .normal) [] (w.forCall tape i)))
  (law:∀ (W:World) (base:Nat) (args:Array Value) (ds gs:List (DataW H)) (before:List MemPlace),(∀ (j:Nat) t v,fn.params[j]? = some t→args[j]? = some v→Value.okWide C.prog W .any base t v) →
   DataW.Whole enc C.prog fn.params.toList s.vars apart W args.toList ds gs before→X W args→W.ShapedOpen C.prog →
   Calls C.prog f args W fun e W'=>∃ v,e=.returned v∧s.post enc C.prog fn apart fresh handsOn again W args v W') :
  ReturnsInHanded a C os f .any (fun w args=>(s.pre enc C.prog fn conds apart w args∧X w args)∧sizedMet enc C.prog fn (OpenSpec.ofChange s) apart w args) (s.post enc C.prog fn apart fresh handsOn again):=
 returnsInHanded_of_calls own started noInit witness fun w tape i _ hsh _ hok hpre _=>by
  obtain⟨_,_,_,g,hg,_,_,_,_,hval⟩:=hok
  obtain rfl:g=fn:=Option.some.inj (hg.symm.trans hfn)
  obtain⟨⟨⟨ds,gs,before,hw,_⟩,hx⟩,_⟩:=hpre
  refine (law (w.forCall tape i) w.heap.size i.args ds gs before hval (DataW.Whole.of_heap (w':=w.forCall tape i) (by rfl) hw) (hX _ _ _ (by rfl) hx) hsh).mono fun e W' h=>?_
  obtain⟨v,rfl,hp⟩:=h
  exact ChangeSpec.post_blind hp
theorem xX {a b:Bool} (h:a=true) (k:b=true):(a && b)=true:=by rw[h,k];rfl
end Go.Pt
namespace Go.Proofs.YtabdpmnhjlmnlaaGreatDoor
open Go Go.Pt Go.RowKit Go.Lib Go.Cr Go.ChangeShapes Go.WideShapes
set_option maxRecDepth 10000
theorem zmm {W:World} {P:Program} {n:String} {g:Nat} {cs:Array Value} (hg:P.globalNamed n=some g) (h:W.var? P n=some cs):∃ t fr,memOf W g=some ⟨t,cs.toList,fr⟩:=by
 unfold World.var? at h
 rw[hg] at h
 simp only[Option.bind_some] at h
 split at h
 ·rename_i c t fr hh
  cases h
  exact⟨t,fr,by unfold memOf;rw[hh]⟩
 ·cases h
theorem gl_of_laid {W:World} (h:laidMetH Tryz.prog Rows.crabBeginsRow.laid W):Gl (memOf W):=by
 rw[MakeChecks.laidMetH_plain _ _ _ (by kernel_rfl)] at h
 have hp : VarReads Tryz.prog W "math/bits.deBruijn64tab" Rows.laid_math_bits_deBruijn64tab := laidMet.reads h (by simp [Rows.crabBeginsRow])
 obtain⟨g,t,cs,fuel,p,hg,ht,hv,hd⟩:=hp
 obtain rfl := Option.some.inj ((show Tryz.prog.globalNamed "math/bits.deBruijn64tab" = some 0 by kernel_rfl).symm.trans hg)
 obtain rfl:=Option.some.inj ((show (Tryz.prog.globals[0]?).map (·.type)=some 337 by kernel_rfl).symm.trans ht)
 obtain⟨t',fr,hm⟩:=zmm hg hv
 have e:(Rows.laid_math_bits_deBruijn64tab:DataW Unit)=tabData .u8 (deBruijn64tab.map fun (n:Nat)=>(n:Int)):=by kernel_rfl
 rw[e] at hd
 have hcs:=cells_of_tab Tryz.underlying337 Tryz.underlying5 (by kernel_rfl) (by kernel_rfl) hd
 rw[hcs,List.map_map] at hm
 exact⟨t',fr,hm⟩
end Go.Proofs.YtabdpmnhjlmnlaaGreatDoor
end
section
namespace Go.Proofs.YtabdpmnhjlmnlaaGreatDoor
open Go Go.Pt Go.RowKit Go.Lib Go.Cr Go.ChangeShapes Go.WideShapes
structure By (S:Mem) (l:Sl) (xs:List Int):Prop where
 len:xs.length=l.n
 cap:l.n≤l.c
 byt:Byt xs
 lie:xs=[]∨∃ b o,l.p=some (b,o)∧S b≠none∧S.part b o xs.length=some (bL xs)
theorem By.keep {S S':Mem} {l:Sl} {xs:List Int} (h:By S l xs) (hk:Keeps S S' []):By S' l xs:=
 ⟨h.len,h.cap,h.byt,h.lie.imp id fun⟨b,o,h1,h2,h3⟩=>by
  have e:=hk b h2 (by simp)
  obtain⟨k,hk⟩:=Option.ne_none_iff_exists'.1 h2
  exact⟨b,o,h1,by rw[e];exact h2,by rw[yu hk] at h3;rw[yu (e.trans hk)];exact h3⟩⟩
theorem By.img {S:Mem} {ρ:Rho} {l:Sl} {xs:List Int} (h:By S l xs) (hr:∀ b o,l.p=some (b,o)→ρ b=none):ImgAt S ρ l xs:=
 ⟨h.len,h.cap,h.byt,h.lie.imp id fun⟨b,o,h1,h2,h3⟩=>⟨b,o,h1,h3,hr b o h1,h2⟩⟩
theorem znf {H:Type} {enc:TypeId×Value→H} {P:Program} {W:World} {base bs:Nat} {spare:Nat→Bool} {held:Bool} {r:Reach} {t e:TypeId} {v:Value} {d:DataW H} {ps:List MemPlace}
  (ht:P.underlying t=some (.slice e)) (he:P.underlying e=some (.int .u8)) (hc:P.cellsOf e=1) (hval:Value.okWide P W r bs t v) (h:DataW.Trod enc P W base spare held t v d ps):∃ (l:Sl) (xs:List Int),v=eL l∧By (memOf W) l xs:=by
 obtain⟨fuel,hf⟩:=h
 rcases open_ints ht he hc hf with ⟨h0,_⟩ | ⟨a,len,cap,zs,h0,_,hl,hm,hz,_,hcell,hw⟩
 ·refine⟨⟨none,0,0⟩,[],?_,⟨rfl,Nat.le_refl _,fun x hx=>(by cases hx),.inl rfl⟩⟩
  cases v <;> simp_all [Value.cells,eL,adr,Value.okWide,Cell.okWide,Cell.ok]
 ·have hv:v=.slice (some a) len cap:=by
   cases v <;> simp_all [Value.cells,Value.okWide,Cell.okWide,Cell.ok]
  subst hv
  have hval':a.spot=none∧len≤cap:=by
   simp only[Value.okWide,ht,Cell.okWide,Cell.ok] at hval
   exact⟨hval.2.2.2.1,hval.1⟩
  obtain⟨b,o,sp⟩:=a
  simp only at hval'
  obtain⟨hsp,hcap⟩:=hval'
  subst hsp
  have hln:len≤zs.length:=by rw[hz];split <;> omega
  refine⟨⟨some (b,o),len,cap⟩,zs.take len,rfl,⟨?_,hcap,fun x hx=>bounds_u8 (hw _ (List.mem_of_mem_take hx)),?_⟩⟩
  ·simp only[List.length_take];omega
  ·by_cases h0:len=0
   ·left;rw[h0];rfl
   right
   have key:∀ i,i<len→(memOf W).cell b (o+i)=some (.int .u8 (zs.getD i 0)):=fun i hi=>by
    have:=hcell i (by omega)
    have e:(⟨b,o,none⟩:Addr).add i=⟨b,o+i,none⟩:=by unfold Addr.add;split <;> simp_all
    rw[e] at this
    exact zje this
   obtain⟨k,hk,_⟩:=zfe (key 0 (by omega))
   have hlt:∀ i,i<len→k.cs[o+i]? = some (.int .u8 (zs.getD i 0)):=fun i hi=>by
    have:=key i hi
    rw[qA hk,qb] at this
    exact this
   have hb:o+(len-1)<k.cs.length:=by
    have:=hlt (len-1) (by omega)
    exact (List.getElem?_eq_some_iff.1 this).1
   have hll:(zs.take len).length=len:=by rw[List.length_take];omega
   refine⟨b,o,rfl,by rw[hk];simp,?_⟩
   rw[hll,yu hk,qJ (by omega)]
   congr 1
   apply List.ext_getElem?
   intro i
   rw[List.getElem?_take,List.getElem?_drop]
   unfold bL
   rw[List.getElem?_map,List.getElem?_take]
   by_cases hi:i<len
   ·rw[if_pos hi,if_pos hi,hlt i hi,List.getElem?_eq_getElem (by omega),List.getD_eq_getElem?_getD,List.getElem?_eq_getElem (by omega)];rfl
   ·rw[if_neg hi,if_neg hi];rfl
end Go.Proofs.YtabdpmnhjlmnlaaGreatDoor
end
section
namespace Go.Proofs.YtabdpmnhjlmnlaaGreatDoor
open Go Go.Pt Go.Cr Go.Hp
section
variable {S S' S0:Mem} {h r:Nat} {W:Wd}
theorem By.imgB {S0 S:Mem} {p:Sl} {xs:List Int} (hb:By S0 p xs) {ρ:Rho} {R:Nat→Prop} (m:Mv S0 rho0 S ρ R):ImgAt S ρ p xs:=by
 have h:=hb.keep (zdT m)
 refine⟨h.len,h.cap,h.byt,?_⟩
 rcases h.lie with h0 | ⟨b,o,g1,g2,g3⟩
 ·exact .inl h0
 rcases hb.lie with h0 | ⟨b',o',h1,h2,h3⟩
 ·exact .inl h0
 have e:b'=b:=by rw[h1] at g1;cases g1;rfl
 subst e
 refine .inr ⟨b',o,g1,g3,?_,g2⟩
 cases hρ:ρ b' with
 | none=>rfl
 | some q=>have:=m.old b' q hρ h2;cases this
end
end Go.Proofs.YtabdpmnhjlmnlaaGreatDoor
end
