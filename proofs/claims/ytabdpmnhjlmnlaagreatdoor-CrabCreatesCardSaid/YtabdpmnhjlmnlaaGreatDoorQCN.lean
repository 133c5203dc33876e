/- Texts of this work,joined by program (pack.py): Ce,Sk,Id,Ie,Ck,If,Ig,Ih. -/
import Derived.Test.YtabdpmnhjlmnlaaGreatDoorQCM
import Derived.Test.YtabdpmnhjlmnlaaGreatDoorQCL
import Derived.Test.YtabdpmnhjlmnlaaGreatDoorQCI
import Derived.Test.YtabdpmnhjlmnlaaGreatDoorQCC
set_option linter.unusedVariables false
section
namespace Go.Cr
open Go Go.Pt
structure Sam (W W':Wd):Prop where
 on:∀ i,(W'.vm i).on=(W.vm i).on
 len:∀ i,(W'.vm i).seats.length=(W.vm i).seats.length
 ev:∀ i,(W'.ev i).length≤(W.ev i).length+1
 time:W'.time=W.time
section
variable {W:Wd}
theorem Sam.refl:Sam W W:=⟨fun _=>rfl,fun _=>rfl,fun _=>Nat.le_succ _,rfl⟩
theorem Sam.setV {n:Nat} {v:Bv} (h1:v.on=(W.vm n).on) (h2:v.seats.length=(W.vm n).seats.length):Sam W (W.setV n v):=by
 refine⟨fun i=>?_,fun i=>?_,fun _=>Nat.le_succ _,rfl⟩
 ·show (upd W.vm n v i).on=_
  by_cases e:i=n
  ·subst e;rw[zq,h1]
  ·rw[zo e]
 ·show (upd W.vm n v i).seats.length=_
  by_cases e:i=n
  ·subst e;rw[zq,h2]
  ·rw[zo e]
theorem Sam.tell {n:Nat} {e:Evt}:Sam W (W.tell n e):=by
 refine⟨fun _=>rfl,fun _=>rfl,fun i=>?_,rfl⟩
 show (upd W.ev n (W.ev n++[e]) i).length≤_
 by_cases h:i=n
 ·subst h;rw[zq];simp
 ·rw[zo h];omega
structure Ans (W:Wd) (r:Int×Int×Wd):Prop where
 v:0≤r.1∧r.1≤255
 e:0≤r.2.1∧r.2.1≤13
 s:Sam W r.2.2
theorem Ans.err {v e:Int} (hv:0≤v∧v≤255) (he:0≤e∧e≤13):Ans W (v,e,W):=⟨hv,he,Sam.refl⟩
theorem zkm {n k i:Nat}:Ans W (0,W.raise n k i):=by
 unfold Wd.raise
 split
 ·exact Ans.err (by decide) (by decide)
 ·exact⟨show (0:Int)≤0∧(0:Int)≤255 by decide,show (0:Int)≤0∧(0:Int)≤13 by decide,Sam.setV rfl (by show ((W.vm n).seats.set k _).length=_;rw[List.length_set])⟩
theorem zkD {n:Nat} {p:Int}:0≤W.mine n p∧W.mine n p≤13:=by
 unfold Wd.mine
 split
 ·decide
 ·split <;> decide
theorem zmo (h:WOk W) {n k:Nat} (hn:n<6) {c w1 w2 w3:Int}:Ans W (W.call n k c w1 w2 w3):=by
 have z:(0:Int)≤0∧(0:Int)≤255:=by decide
 have z2:(0:Int)≤0∧(0:Int)≤13:=by decide
 unfold Wd.call
 by_cases h1:c=0
 ·rw[if_pos h1]
  exact⟨z,z2,Sam.tell⟩
 rw[if_neg h1]
 by_cases h2:c=1
 ·rw[if_pos h2]
  unfold Wd.nextKey
  cases hk:(W.vm n).keys with
  | nil=>exact Ans.err z (by decide)
  | cons x l=>
   have:=(h.keys n).2 x (by rw[hk];simp)
   exact⟨this,z2,Sam.setV rfl rfl⟩
 rw[if_neg h2]
 by_cases h3:c=2
 ·rw[if_pos h3]
  unfold Wd.ring
  split
  ·exact Ans.err z (by decide)
  split
  ·exact Ans.err z (by decide)
  ·exact zkm
 rw[if_neg h3]
 by_cases h4:c=3
 ·rw[if_pos h4]
  exact⟨z,z2,⟨fun _=>rfl,fun _=>rfl,fun _=>Nat.le_succ _,rfl⟩⟩
 rw[if_neg h4]
 by_cases h5:c=4
 ·rw[if_pos h5]
  unfold Wd.offer
  split
  ·exact Ans.err z zkD
  split
  ·exact Ans.err z (by decide)
  split
  ·exact Ans.err z (by decide)
  cases hf:firstOff (fun i=>(W.ls i).on) 16 with
  | none=>exact Ans.err z (by decide)
  | some i=>
   have:=(qf hf).1
   exact⟨show (0:Int)≤(i:Int)∧(i:Int)≤255 by omega,z2,⟨fun _=>rfl,fun _=>rfl,fun _=>Nat.le_succ _,rfl⟩⟩
 rw[if_neg h5]
 by_cases h6:5≤c∧c≤7
 ·rw[if_pos h6]
  unfold Wd.lease
  have q:∀ i l,Ans W (0,0,W.setL i l):=fun i l=>⟨z,z2,⟨fun _=>rfl,fun _=>rfl,fun _=>Nat.le_succ _,rfl⟩⟩
  split
  ·exact Ans.err z (by decide)
  split
  ·exact Ans.err z (by decide)
  split
  ·split
   ·exact Ans.err z (by decide)
   ·exact q _ _
  split
  ·exact Ans.err z (by decide)
  split
  ·exact q _ _
  split
  ·exact Ans.err z (by decide)
  split
  ·exact Ans.err z (by decide)
  ·exact q _ _
 rw[if_neg h6]
 have q:∀ (W':Wd),W'.vm=W.vm→W'.ev=W.ev→W'.time=W.time→Ans W (0,0,W'):=fun W' h1 h2 h3=>⟨z,z2,⟨fun i=>by rw[h1],fun i=>by rw[h1],fun i=>by show (W'.ev i).length≤_;rw[h2];omega,h3⟩⟩
 by_cases h7:c=8
 ·rw[if_pos h7]
  unfold Wd.give
  split
  ·exact Ans.err z zkD
  split
  ·exact Ans.err z (by decide)
  ·exact q _ rfl rfl rfl
 rw[if_neg h7]
 by_cases h8:c=9
 ·rw[if_pos h8]
  unfold Wd.get
  split
  ·exact Ans.err z (by decide)
  split
  ·exact Ans.err z (by decide)
  split
  ·exact Ans.err z (by decide)
  split
  ·exact Ans.err z (by decide)
  ·exact q _ rfl rfl rfl
 rw[if_neg h8]
 by_cases h9:c=10
 ·rw[if_pos h9]
  unfold Wd.load
  split
  ·exact Ans.err z (by decide)
  split
  ·exact Ans.err z (by decide)
  cases hw:W.where_ n (small w2).toNat with
  | none=>exact Ans.err z (by decide)
  | some x=>
   obtain⟨m,q',b⟩:=x
   cases b with
   | false=>exact Ans.err z (by decide)
   | true=>exact q _ rfl rfl rfl
 rw[if_neg h9]
 by_cases h10:c=11
 ·rw[if_pos h10]
  unfold Wd.save
  split
  ·exact Ans.err z (by decide)
  split
  ·exact Ans.err z (by decide)
  cases hw:W.where_ n (small w2).toNat with
  | none=>exact Ans.err z (by decide)
  | some x=>exact⟨z,z2,Sam.setV rfl rfl⟩
 rw[if_neg h10]
 by_cases h11:c=12
 ·rw[if_pos h11]
  exact Ans.err (by omega) z2
 rw[if_neg h11]
 by_cases h12:c=13
 ·rw[if_pos h12]
  exact⟨z,z2,Sam.setV rfl (by show ((W.vm n).seats.set k _).length=_;rw[List.length_set])⟩
 rw[if_neg h12]
 exact Ans.err z (by decide)
end
end Go.Cr
end
section
namespace Go.Cr
open Go Go.Pt
open Go.Proofs.YtabdpmnhjlmnlaaGreatDoor
theorem wrapu (n:Int):IntKind.u64.wrap n=n%18446744073709551616:=by simp[IntKind.wrap,IntKind.bits,IntKind.signed]
theorem znS (n:Int):W64 (IntKind.u64.wrap n):=by rw[wrapu];exact⟨by omega,by omega⟩
theorem zor {x:Int} (h:W64 x) (k:Int):W64 (ishr .u64 x k):=by
 unfold ishr
 obtain⟨m,rfl⟩:∃ m:Nat,x=m:=⟨x.toNat,by have:=h.1;omega⟩
 have e:Int.fdiv (m:Int) (2 ^ min k.toNat IntKind.u64.bits)=((m/2 ^ min k.toNat IntKind.u64.bits:Nat):Int):=by
  rw[Int.fdiv_eq_ediv_of_nonneg _ (by exact Int.pow_nonneg (by decide))]
  rw[Int.natCast_ediv,Int.natCast_pow];rfl
 rw[e]
 have:=Nat.div_le_self m (2 ^ min k.toNat IntKind.u64.bits)
 have h2:=h.2
 generalize m/2 ^ min k.toNat IntKind.u64.bits=q at *
 exact⟨by omega,by omega⟩
theorem zoO {k b c:Int} (hb:W64 b):W64 (sumM k b c):=by
 unfold sumM
 repeat' split
 all_goals first | exact wN _ | exact znS _ | exact zor hb _
theorem zoY {s:Seat} (h:s.Ok) {time me n:Int} (ht:W64 time) (hm:0≤me∧me≤2):W64 (getR s time me n):=by
 have hk:=h.mask
 unfold getR
 split
 ·exact h.base
 split
 ·exact h.vec
 split
 ·exact h.epc
 split
 ·exact h.cause
 split
 ·exact h.addr
 split
 ·exact⟨by omega,by omega⟩
 split
 ·split <;> exact⟨by decide,by decide⟩
 split
 ·exact ht
 ·exact⟨by omega,by omega⟩
theorem zoc {s t:Seat} (h:s.Ok) {n v:Int} (hv:W64 v) (he:setR s n v=some t):t.Ok:=by
 unfold setR at he
 split at he
 ·cases he;exact { h with base:=hv }
 split at he
 ·cases he;exact { h with vec:=hv }
 split at he
 ·cases he;exact { h with epc:=hv }
 split at he
 ·cases he;exact { h with cause:=hv }
 split at he
 ·cases he;exact { h with addr:=hv }
 split at he
 ·cases he;exact { h with mask:=⟨by show 0≤v%256;omega,by show v%256≤255;omega⟩ }
 split at he
 ·cases he;exact { h with }
 ·cases he
theorem r_w {s:Seat} (h:s.Ok) {i:Int}:W64 (s.r i):=by
 unfold Seat.r
 rw[List.getD_eq_getElem?_getD]
 cases hq:s.R[i.toNat]? with
 | none=>exact⟨by decide,by decide⟩
 | some x=>exact h.r x (List.mem_of_getElem? hq)
theorem setr_ok {s:Seat} (h:s.Ok) {i v:Int} (hv:W64 v):(s.setr i v).Ok:={ h with
 len:=by show (s.R.set i.toNat v).length=16;rw[List.length_set];exact h.len
 r:=fun x hx=>by
  rcases List.mem_or_eq_of_mem_set hx with e | e
  ·exact h.r x e
  ·rw[e];exact hv }
theorem zad {s:Seat} (h:s.Ok) {v:Int} (hv:W64 v):({ s with pc:=v }:Seat).Ok:={ h with pc:=hv }
theorem fI {s:Seat} {g:GM} (h:s.Ok) {c a:Int} (hc:W64 c) (ha:W64 a):(trapM s g c a).s.Ok:=Seat.trap_ok h hc ha
set_option maxHeartbeats 1000000 in
theorem zpa {s:Seat} {g:GM} (hg:g.Ok) (h:s.Ok) {time me k a b c n:Int} (ht:W64 time) (hm:0≤me∧me≤2):(doM s g time me k a b c n).s.Ok:=by
 have w3:W64 3:=⟨by decide,by decide⟩
 have w4:W64 4:=⟨by decide,by decide⟩
 have w1:W64 1:=⟨by decide,by decide⟩
 unfold doM
 dsimp only
 by_cases h1:k=1
 ·rw[if_pos h1];exact zad (setr_ok h (wN _)) (wN _)
 rw[if_neg h1]
 by_cases h2:k=2
 ·rw[if_pos h2];exact zad (setr_ok h (wN _)) (wN _)
 rw[if_neg h2]
 by_cases h11:k=11
 ·rw[if_pos h11];exact zad (setr_ok h (wN _)) (wN _)
 rw[if_neg h11]
 by_cases h12:k=12
 ·rw[if_pos h12]
  cases hw:getW s g (x64 (s.r b+x64 n)) 8 with
  | none=>exact fI h w3 (wN _)
  | some v=>
   have:=zhF hg (wN _) (.inr rfl) hw
   exact zad (setr_ok h (by first | exact this | exact⟨this.1,by omega⟩)) (wN _)
 rw[if_neg h12]
 by_cases h13:k=13
 ·rw[if_pos h13]
  cases hw:putW s g (x64 (s.r b+x64 n)) (s.r a) with
  | none=>exact fI h w4 (wN _)
  | some v=>exact zad h (wN _)
 rw[if_neg h13]
 by_cases h14:k=14
 ·rw[if_pos h14];refine zad h ?_;split <;> exact wN _
 rw[if_neg h14]
 by_cases h15:k=15
 ·rw[if_pos h15];refine zad h ?_;split <;> exact wN _
 rw[if_neg h15]
 by_cases h16:k=16
 ·rw[if_pos h16];refine zad h ?_;split <;> exact wN _
 rw[if_neg h16]
 by_cases h17:k=17
 ·rw[if_pos h17];exact zad (setr_ok h (wN _)) (wN _)
 rw[if_neg h17]
 by_cases h18:k=18
 ·rw[if_pos h18];exact zad (setr_ok h (zoY h ht hm)) (wN _)
 rw[if_neg h18]
 by_cases h19:k=19
 ·rw[if_pos h19]
  cases hs:setR s n (s.r a) with
  | none=>exact fI h w1 h.pc
  | some t=>exact zad (zoc h (r_w h) hs) (wN _)
 rw[if_neg h19]
 by_cases h20:k=20
 ·rw[if_pos h20];exact zad h (wN _)
 rw[if_neg h20]
 by_cases h21:k=21
 ·rw[if_pos h21]
  split
  ·exact { zad h (wN (s.pc+4)) with st:=⟨show (0:Int)≤1 by decide,show (1:Int)≤2 by decide⟩ }
  ·exact zad h (wN _)
 rw[if_neg h21]
 by_cases h22:k=22
 ·rw[if_pos h22];exact Seat.back_ok h
 rw[if_neg h22]
 by_cases h3:3≤k
 ·rw[if_pos h3];exact zad (setr_ok h (zoO (r_w h))) (wN _)
 ·rw[if_neg h3];exact zad h (wN _)
theorem zmT {s:Seat} {g:GM} (hg:g.Ok) (h:s.Ok) {time me:Int} (ht:W64 time) (hm:0≤me∧me≤2):(stepM s g time me).s.Ok:=by
 unfold stepM
 by_cases h0:s.st≠0
 ·rw[if_pos h0];exact h
 rw[if_neg h0]
 cases hn:nextL s with
 | some n=>
  obtain⟨h8,_,_,hge⟩:=zfE h hn
  have hp:=h.pend
  dsimp only
  have hpos:(0:Int)<2 ^ n:=Int.pow_pos (by decide)
  exact fI (s:={ s with pend:=s.pend-2 ^ n }) { h with pend:=⟨by show 0≤s.pend-2 ^ n;omega,by show s.pend-2 ^ n≤255;omega⟩ } ⟨by omega,by omega⟩ ⟨by decide,by decide⟩
 | none=>
  dsimp only
  cases hw:getW s g s.pc 4 with
  | none=>exact fI h ⟨by decide,by decide⟩ h.pc
  | some w=>
   dsimp only
   have:=zhF hg h.pc (.inl rfl) hw
   split
   ·exact zpa hg h ht hm
   ·exact fI h ⟨by decide,by decide⟩ ⟨by omega,by omega⟩
theorem zjY {s:Seat} {g:GM} {time me:Int} (h:(stepM s g time me).k=5):(stepM s g time me).s=s∧(stepM s g time me).g=g:=by
 have tr:∀ (s:Seat) (g:GM) c a,(trapM s g c a).k≠5:=fun s g c a=>by unfold trapM;dsimp only;split <;> decide
 unfold stepM at h ⊢
 by_cases h0:s.st≠0
 ·rw[if_pos h0];exact⟨rfl,rfl⟩
 rw[if_neg h0] at h
 exfalso
 cases hn:nextL s with
 | some n=>rw[hn] at h;exact tr _ _ _ _ h
 | none=>
  rw[hn] at h
  dsimp only at h
  cases hw:getW s g s.pc 4 with
  | none=>rw[hw] at h;exact tr _ _ _ _ h
  | some w=>
   rw[hw] at h
   dsimp only at h
   split at h
   ·have key:∀ k a b c n,(doM s g time me k a b c n).k≠5:=by
     intro k a b c n
     have t0:(0:Int)≠5:=by decide
     unfold doM
     dsimp only
     by_cases h1:k=1
     ·rw[if_pos h1];exact t0
     rw[if_neg h1]
     by_cases h2:k=2
     ·rw[if_pos h2];exact t0
     rw[if_neg h2]
     by_cases h11:k=11
     ·rw[if_pos h11];exact t0
     rw[if_neg h11]
     by_cases h12:k=12
     ·rw[if_pos h12]
      cases getW s g (x64 (s.r b+x64 n)) 8 with
      | none=>exact tr _ _ _ _
      | some v=>exact t0
     rw[if_neg h12]
     by_cases h13:k=13
     ·rw[if_pos h13]
      cases putW s g (x64 (s.r b+x64 n)) (s.r a) with
      | none=>exact tr _ _ _ _
      | some v=>exact t0
     rw[if_neg h13]
     by_cases h14:k=14
     ·rw[if_pos h14];exact t0
     rw[if_neg h14]
     by_cases h15:k=15
     ·rw[if_pos h15];exact t0
     rw[if_neg h15]
     by_cases h16:k=16
     ·rw[if_pos h16];exact t0
     rw[if_neg h16]
     by_cases h17:k=17
     ·rw[if_pos h17];exact t0
     rw[if_neg h17]
     by_cases h18:k=18
     ·rw[if_pos h18];exact t0
     rw[if_neg h18]
     by_cases h19:k=19
     ·rw[if_pos h19]
      cases setR s n (s.r a) with
      | none=>exact tr _ _ _ _
      | some t=>exact t0
     rw[if_neg h19]
     by_cases h20:k=20
     ·rw[if_pos h20];exact show (2:Int)≠5 by decide
     rw[if_neg h20]
     by_cases h21:k=21
     ·rw[if_pos h21]
      split
      ·exact show (3:Int)≠5 by decide
      ·exact t0
     rw[if_neg h21]
     by_cases h22:k=22
     ·rw[if_pos h22];exact t0
     rw[if_neg h22]
     by_cases h3:3≤k
     ·rw[if_pos h3];exact t0
     ·rw[if_neg h3];exact t0
    exact key _ _ _ _ _ h
   ·exact tr _ _ _ _ h
end Go.Cr
end
section
namespace Go.Proofs.YtabdpmnhjlmnlaaGreatDoor
open Go Go.Pt Go.Cr Go.Hp
section
variable {S S':Mem} {ρ ρ':Rho} {h:Nat} {A:Ad} {C:Cst} {W:Wd} {φ:Nat→Nat→Nat}
theorem and255 {w:Int} (hw:W64 w):iand .u64 w 255=w%256:=by
 obtain⟨n,rfl⟩:∃ n:Nat,w=n:=⟨w.toNat,by have:=hw.1;omega⟩
 have hn:n<18446744073709551616:=by have:=hw.2;omega
 have:=yw (a:=n) (b:=255) hn (by decide)
 have e:n &&& 255=n%256:=Nat.and_two_pow_sub_one_eq_mod n 8
 rw[e] at this
 have e3:((255:Nat):Int)=255:=rfl
 rw[e3] at this
 rw[this];omega
theorem zos {w:Int} (hw:W64 w):ineg .u64 w=18446744073709551615-w:=by
 obtain⟨n,rfl⟩:∃ n:Nat,w=n:=⟨w.toNat,by have:=hw.1;omega⟩
 have hn:n<18446744073709551616:=by have:=hw.2;omega
 rw[zfK hn];omega
theorem After.tell (hc:CrabA S ρ h A C) (hr:Rel C W φ) {n:Nat} (hn:n<6) (hl:(W.ev n).length≤1000000000) {e:Evt} {Q:Mem→Prop} (hQ:∀ S',After h A C S ρ (W.tell n e) S'→Q S'):yN S (some (h,0)) n (evL e) Q:=by
 refine zjR hc hn (by rw[hr.ev];exact hl) fun S1 ρ1 A1 m1 hc1 ht hx=>hQ S1 ⟨ρ1,A1,_,φ,m1.mono fun r hr=>by unfold Rc;omega,hc1,hr.tell n e,kp1,ht,fun i=>by rw[hx]⟩
theorem zmn (hc:CrabA S ρ h A C) (hr:Rel C W φ) {n k:Nat} (hn:n<6) (hon:(W.vm n).on=true) (hk:k<(W.vm n).seats.length) (hl:(W.ev n).length≤1000000000) {c w1 w2 w3:Int} (h1:W64 w1) {Q:Int→Int→Mem→Prop}
  (hQ:∀ S',After h A C S ρ (W.call n k c w1 w2 w3).2.2 S'→Q (W.call n k c w1 w2 w3).1 (W.call n k c w1 w2 w3).2.1 S'):fd S (some (h,0)) n k c w1 (small w2) (decide (w3≠0)) Q:=by
 have h3:=hr.wk.seats n hon
 apply zet
 unfold jv
 refine zeG h1 ?_
 rw[qk,qP hc.c3,qk]
 refine⟨by omega,by omega,?_⟩
 simp only[jn]
 rw[Int.toNat_natCast]
 unfold Wd.call at hQ
 by_cases c0:c=0
 ·rw[if_pos c0] at hQ ⊢
  rw[and255 h1]
  exact After.tell hc hr hn hl (e:=⟨3,k,w1%256,0⟩) hQ
 rw[if_neg c0] at hQ ⊢
 by_cases c1:c=1
 ·rw[if_pos c1] at hQ ⊢
  exact zgC hc hr hn hon hQ
 rw[if_neg c1] at hQ ⊢
 by_cases c2:c=2
 ·rw[if_pos c2] at hQ ⊢
  exact zjt hc hr hn hon hQ
 rw[if_neg c2] at hQ ⊢
 by_cases c3:c=3
 ·rw[if_pos c3] at hQ ⊢
  have hlate:=hr.time n hon
  have hnow:=hr.now
  have hlc:S.cell A.t (0+2+n*12+5)=some (.int .u64 (C.late n)):=hc.vcell (n:=n) (j:=5) hn (by decide) (by omega)
  have hw1:=h1.1
  have hw2:=h1.2
  rw[qP hc.c3,qk,qP hc.t171,zY hlc,zos h1]
  have e:IntKind.u64.wrap (w1+if 18446744073709551615-w1<C.late n then 18446744073709551615-w1 else C.late n)=min (w1+C.late n) most64:=by
   unfold most64
   split
   ·rw[wu64 (by omega) (by omega)];omega
   ·rw[wu64 (by omega) (by omega)];omega
  rw[e]
  refine zll hc.ck hc.rg hn (by omega) fun S1 ρ1 m1 hk1=>?_
  have hc1:=hc.setClk m1 (fun r hr=>by omega) hk1
  refine⟨hc1.vcell (n:=n) (j:=5) hn (by decide) (by omega),hc1.c3,?_⟩
  exact hQ S1 ⟨ρ1,A,_,φ,m1.mono fun r hr=>by unfold Rc;omega,hc1,hr.setAlarm hk h1,kp1,rfl,fun _=>rfl⟩
 rw[if_neg c3] at hQ ⊢
 by_cases c4:c=4
 ·rw[if_pos c4] at hQ ⊢
  exact zhP hc hr hn hon hQ
 rw[if_neg c4] at hQ ⊢
 by_cases c5:c=5
 ·subst c5
  rw[if_pos (by decide)] at hQ
  rw[if_pos rfl]
  exact zgX hc hr hn hon hQ
 by_cases c6:c=6
 ·subst c6
  rw[if_pos (by decide)] at hQ
  rw[if_neg (by decide),if_pos rfl]
  exact zhQ hc hr hn hQ
 by_cases c7:c=7
 ·subst c7
  rw[if_pos (by decide)] at hQ
  rw[if_neg (by decide),if_neg (by decide),if_pos rfl]
  exact zeA hc hr hn hQ
 rw[if_neg (by omega)] at hQ
 rw[if_neg c5,if_neg c6,if_neg c7]
 by_cases c8:c=8
 ·rw[if_pos c8] at hQ ⊢
  exact zjy hc hr hn hon hQ
 rw[if_neg c8] at hQ ⊢
 by_cases c9:c=9
 ·rw[if_pos c9] at hQ ⊢
  exact zlg hc hr hn hon hQ
 rw[if_neg c9] at hQ ⊢
 by_cases c10:c=10
 ·rw[if_pos c10] at hQ ⊢
  exact zjx hc hr hn hon hQ
 rw[if_neg c10] at hQ ⊢
 by_cases c11:c=11
 ·rw[if_pos c11] at hQ ⊢
  exact zjs hc hr hn hon hQ
 rw[if_neg c11] at hQ ⊢
 by_cases c12:c=12
 ·rw[if_pos c12] at hQ ⊢
  rw[wu64 (by omega) (by omega)]
  exact hQ S (After.here hc hr)
 rw[if_neg c12] at hQ ⊢
 by_cases c13:c=13
 ·rw[if_pos c13] at hQ ⊢
  rw[qP hc.c3]
  have hk':k<(C.vm n).seats.length:=by rw[hr.vm];exact hk
  refine jF hc (fun _ _ _ cb hs=>?_) fun hbad=>absurd ⟨(yY hr).2 ⟨by omega,by omega,by rw[Int.toNat_natCast];exact hon⟩,by omega,by rw[Int.toNat_natCast];omega⟩ hbad
  rw[Int.toNat_natCast] at hs
  obtain⟨hA,hok,hrol⟩:=zdH hc hn hk' hs
  have hok':((C.vm n).seat k).die.Ok:={ hok with st:=⟨show (0:Int)≤2 by decide,show (2:Int)≤2 by decide⟩ }
  obtain⟨m,hc1⟩:=jT hc hn hk' hs hok'
  rw[qk,Int.toNat_natCast,Nat.zero_add]
  refine hA.pt1 (s':=((C.vm n).seat k).die) hok.len (by decide) (Seat.s23 hok.len 2) ?_
  have hr1:=Rel.putSeat hr hon hk hok'
  have e:(C.vm n).seat k=(W.vm n).seat k:=by rw[hr.vm]
  refine hQ _ ⟨ρ,A,_,φ,m.mono fun r hr=>by unfold Rc;omega,hc1,?_,kp1,rfl,fun _=>rfl⟩
  rw[e] at hr1 ⊢
  exact hr1
 rw[if_neg c13] at hQ ⊢
 exact hQ S (After.here hc hr)
end
end Go.Proofs.YtabdpmnhjlmnlaaGreatDoor
namespace Go.Proofs.YtabdpmnhjlmnlaaGreatDoor
open Go Go.Pt Go.Cr Go.Hp
section
variable {S S':Mem} {ρ ρ':Rho} {h:Nat} {A:Ad} {C:Cst} {W:Wd} {φ:Nat→Nat→Nat}
theorem Seat.r_eq {s:Seat} {i:Nat}:s.R.getD i 0=s.r i:=by unfold Seat.r;rw[Int.toNat_natCast]
theorem Seat.r_w {s:Seat} (h:s.Ok) {i:Nat} (hi:i<16):W64 (s.r i):=by
 rw[←Seat.r_eq,List.getD_eq_getElem?_getD,List.getElem?_eq_getElem (by rw[h.len];exact hi)]
 exact h.r _ (List.getElem_mem _)
theorem Seat.setr_ok {s:Seat} (h:s.Ok) {i v:Int} (hv:W64 v):(s.setr i v).Ok:={ h with
 len:=by show (s.R.set i.toNat v).length=16;rw[List.length_set];exact h.len
 r:=fun x hx=>by
  rcases List.mem_or_eq_of_mem_set hx with e | e
  ·exact h.r x e
  ·rw[e];exact hv }
theorem zgZ {W':Wd} {r:Int×Int×Wd} (h:Ans W' r):W64 r.1∧W64 r.2.1:=⟨⟨h.v.1,by have:=h.v.2;omega⟩,⟨h.e.1,by have:=h.e.2;omega⟩⟩
theorem zjz (hc:CrabA S ρ h A C) (hr:Rel C W φ) {n k:Nat} (hn:n<6) (hon:(W.vm n).on=true) (hk:k<(W.vm n).seats.length) (hl:(W.ev n).length≤900000000) {c:Int} {Q:Mem→Prop}
  (hQ:∀ S',After h A C S ρ (W.hyper n k c ((W.vm n).seat k)) S'→Q S'):jt S (some (h,0)) n k c Q:=by
 have hk':k<(C.vm n).seats.length:=by rw[hr.vm];exact hk
 have hth:thereV C.vm (n:Int):=(yY hr).2 ⟨by omega,by omega,by rw[Int.toNat_natCast];exact hon⟩
 apply zdb
 unfold vO
 rw[qk,qP hc.c3]
 refine jF hc (fun _ _ _ cb hs=>?_) fun hbad=>absurd ⟨hth,by omega,by rw[Int.toNat_natCast];omega⟩ hbad
 rw[Int.toNat_natCast] at hs
 obtain⟨hA,hok,hrol⟩:=zdH hc hn hk' hs
 have e0:(C.vm n).seat k=(W.vm n).seat k:=by rw[hr.vm]
 rw[e0] at hA hok
 have g1:S.cell cb (k*26+1)=some (.int .u64 (((W.vm n).seat k).r 1)):=(hA.cell (i:=1) (by rw[Seat.L_len hok.len];decide)).trans (Seat.L_r hok.len (by decide))
 have g2:S.cell cb (k*26+2)=some (.int .u64 (((W.vm n).seat k).r 2)):=(hA.cell (i:=2) (by rw[Seat.L_len hok.len];decide)).trans (Seat.L_r hok.len (by decide))
 have g3:S.cell cb (k*26+3)=some (.int .u64 (((W.vm n).seat k).r 3)):=(hA.cell (i:=3) (by rw[Seat.L_len hok.len];decide)).trans (Seat.L_r hok.len (by decide))
 rw[qk,Int.toNat_natCast,Nat.zero_add,zY g1,zY g2,zY g3]
 refine zeG (Seat.r_w hok (i:=2) (by decide)) ?_
 refine⟨g3,g1,?_⟩
 unfold Wd.hyper at hQ
 dsimp only at hQ
 have hans:=zmo (c:=c) (w1:=((W.vm n).seat k).r 1) (w2:=((W.vm n).seat k).r 2) (w3:=((W.vm n).seat k).r 3) hr.wk (k:=k) hn
 obtain⟨hv64,he64⟩:=zgZ hans
 have hsam:=hans.s
 refine zmn hc hr hn hon hk (by omega) (Seat.r_w hok (i:=1) (by decide)) fun S2 hA2=>?_
 generalize W.call n k c (((W.vm n).seat k).r 1) (((W.vm n).seat k).r 2) (((W.vm n).seat k).r 3)=r at hQ hA2 hv64 he64 hsam ⊢
 obtain⟨v,e,W'⟩:=r
 dsimp only at hQ hA2 hv64 he64 hsam ⊢
 obtain⟨ρ2,A2,C2,φ2,m2,hc2,hr2,kp2,ht2,hx2⟩:=hA2
 have hon2:(W'.vm n).on=true:=by rw[hsam.on];exact hon
 have hk2:k<(W'.vm n).seats.length:=by rw[hsam.len];exact hk
 have hk2':k<(C2.vm n).seats.length:=by rw[hr2.vm];exact hk2
 have hs2:(A2.x n).ss.p=some (cb,0):=by rw[hx2];exact hs
 obtain⟨hA3,hok3,hrol3⟩:=zdH hc2 hn hk2' hs2
 rw[wu64 he64.1 he64.2]
 have hl3:=hok3.len
 have hok4:=Seat.setr_ok hok3 (i:=0) he64
 have hok5:(((C2.vm n).seat k).answer e v).Ok:=Seat.setr_ok hok4 (i:=1) hv64
 refine hA3.pt1 (i:=0) (s':=((C2.vm n).seat k).setr 0 e) hl3 (by decide) (Seat.set_r hl3 (by decide) e) ?_
 have hp3:=Pl.of hA3 hl3
 refine hp3.pt hok4.len (i:=1) (s':=((C2.vm n).seat k).answer e v) (by decide) (Seat.set_r hok4.len (by decide) v) ?_
 obtain⟨m4,hc4⟩:=jT hc2 hn hk2' hs2 hok5
 have e2:(C2.vm n).seat k=(W'.vm n).seat k:=by rw[hr2.vm]
 have hr4:=Rel.putSeat hr2 hon2 hk2 hok5
 rw[e2] at hr4 hc4 ⊢
 have es:ishl .u64 c 8=x64 (c*256):=rfl
 rw[es]
 have hl4:((W'.putSeat n k (((W'.vm n).seat k).answer e v)).ev n).length≤1000000000:=by
  have:=hsam.ev n
  show (W'.ev n).length≤_
  omega
 rw[e2] at m4
 refine After.tell (e:=⟨2,k,ior .u64 (x64 (c*256)) e,v⟩) hc4 hr4 hn hl4 fun S6 hA6=>hQ S6 ?_
 obtain⟨ρ6,A6,C6,φ6,m6,hc6,hr6,kp6,ht6,hx6⟩:=hA6
 exact⟨ρ6,A6,C6,φ6,m2.trans ((m4.mono fun r hr=>by unfold Rc;omega).trans m6),hc6,hr6,kp2.trans ((show Kp C2 { C2 with vm:=_ } from kp1).trans kp6),ht6.trans ht2,fun i=>(hx6 i).trans (hx2 i)⟩
theorem zjP {x n:Int} {k:Int} {pc:Int} {s:Seat} (hs:s.Ok) {Q:List Value→Mem→Prop} (hQ:∀ S',Keeps S S' []→Q (evL (told x n k pc s)) S'):zej S (exL x n) k pc s.L Q:=by
 apply zhp
 unfold zaW
 refine⟨rfl,Seat.L_len hs.len,?_⟩
 simp only[jn]
 unfold told at hQ
 rw[zY (show nthL (exL x n) 0=some (.int .u8 x) from rfl)]
 by_cases h1:x=1
 ·rw[if_pos h1] at hQ ⊢
  rw[zY (show nthL (exL x n) 1=some (.int .u64 n) from rfl)]
  exact hQ S Keeps.refl
 rw[if_neg h1] at hQ ⊢
 by_cases h4:x=4
 ·rw[if_pos h4] at hQ ⊢
  rw[zY (show nthL (exL x n) 1=some (.int .u64 n) from rfl)]
  exact hQ S Keeps.refl
 rw[if_neg h4] at hQ ⊢
 refine⟨rfl,?_⟩
 exact zjW hs fun S' hk=>hQ S' hk
theorem ziS {d:Nat→List Int} {f:Nat→List Int} {ca:List Cw} {n:Nat} (hr:Rel { C with cache:=ca,dat:=f } (W.setDat d) φ) {g:GM} (hg:g=(W.setDat d).gm n) (hW:WOk W):Rel { C with cache:=ca,dat:=f } (W.setDat g.dat) φ:=by
 rw[hg,zkf fun m q l h=>(hW.pg m q l h).2.1]
 exact hr
set_option maxHeartbeats 1000000 in
theorem zld (hc:CrabA S ρ h A C) (hr:Rel C W φ) {n k:Int} (hl:∀ i,(W.ev i).length≤800000000) {Q:Int→Mem→Prop}
  (hQ:∀ S',After h A C S ρ (W.run n k).2 S'→Q (W.run n k).1 S'):wo S (some (h,0)) n k Q:=by
 apply zdB
 unfold kS
 simp only[jn]
 rw[if_neg (by simp),qk,qP hc.c3]
 unfold Wd.run at hQ
 refine jF hc (fun hth hk0 hkl cb hs=>?_) fun hbad=>?_
 rotate_left
 ·rw[if_pos rfl]
  rw[if_pos] at hQ
  ·exact hQ S (After.here hc hr)
  ·by_cases ht:W.there n
   ·right
    apply Classical.byContradiction
    intro hh
    exact hbad ⟨(yY hr).2 ht,by omega,by rw[hr.vm];omega⟩
   ·exact .inl ht
 have ht:W.there n:=(yY hr).1 hth
 obtain⟨n,rfl⟩:∃ m:Nat,n=m:=⟨n.toNat,by have:=ht.1;omega⟩
 obtain⟨k,rfl⟩:∃ m:Nat,k=m:=⟨k.toNat,by omega⟩
 rw[Int.toNat_natCast] at hs hkl
 have hon:(W.vm n).on=true:=by have:=ht.2.2;rwa [Int.toNat_natCast] at this
 have hn:n<6:=by have:=ht.2.1;omega
 have hk':k<(C.vm n).seats.length:=by omega
 have hk:k<(W.vm n).seats.length:=by rw[←hr.vm];exact hk'
 have h3:=hr.wk.seats n hon
 rw[if_neg (fun h=>h.elim (fun h=>h ht) (fun h=>by rw[Int.toNat_natCast] at h;omega))] at hQ
 simp only[Int.toNat_natCast] at hQ
 rw[if_neg (by simp),qk,qP hc.c3]
 refine jF hc (fun _ _ _ cb' hs'=>?_) fun hbad=>absurd ⟨hth,by omega,by rw[Int.toNat_natCast];omega⟩ hbad
 rw[Int.toNat_natCast] at hs'
 have ecb:cb'=cb:=by rw[hs] at hs';cases hs';rfl
 subst ecb
 obtain⟨hA,hok,hrol⟩:=zdH hc hn hk' hs
 have e0:(C.vm n).seat k=(W.vm n).seat k:=by rw[hr.vm]
 rw[e0] at hA hok
 have g16:S.cell cb' (k*26+16)=some (.int .u64 ((W.vm n).seat k).pc):=(hA.cell (i:=16) (by rw[Seat.L_len hok.len];decide)).trans (Seat.g16 hok.len)
 rw[qk,Int.toNat_natCast,Nat.zero_add,zY g16,qP hc.c3]
 refine zjQ hc hn ?_
 have htm:=hr.time n hon
 have hnow:=hr.now
 rw[wu64 (by omega) (by omega),←htm.2.2]
 have hbus:(.iface 173 (valL ([.pointer (some ⟨h,0,none⟩),.int .i64 n])):Value)=.iface 173 (valL (busL h n)):=rfl
 rw[hbus]
 have hW:=fun m q l h=>((hr.wk.pg m q l h).2.1:q<32)
 have hB:=zml (C:=C) (φ:=φ) (h:=h) hn hon hr.wk A.t A.x
 have hI:BI h n C W φ A.t A.x S ρ (W.gm n):=⟨A,(W.gm n).dat,C.cache,C.dat,hc,by rw[xK hW];exact hr,by rw[xK hW],rfl,rfl⟩
 have hx:Cx (BI h n C W φ A.t A.x) R026 S ρ (W.gm n) cb' (k*26) ((W.vm n).seat k):=⟨hI,hA,30+n,hrol,by unfold R026;omega⟩
 refine zjX hB hx hok ⟨by omega,by omega⟩ ⟨by omega,by omega⟩ fun S1 ρ1 m1 hI1 hA1=>?_
 obtain⟨A1,d1,ca1,dt1,hc1,hr1,hg1,ht1,hx1⟩:=hI1
 have hr1':=ziS hr1 hg1 hr.wk
 have hstep:=zmT (hr.wk.gm n) hok (time:=W.time n) (me:=k) ⟨by omega,by omega⟩ ⟨by omega,by omega⟩
 have hidle:(stepM ((W.vm n).seat k) (W.gm n) (W.time n) k).k=5→(stepM ((W.vm n).seat k) (W.gm n) (W.time n) k).s=(W.vm n).seat k∧(stepM ((W.vm n).seat k) (W.gm n) (W.time n) k).g=W.gm n:=fun h=>zjY h
 generalize stepM ((W.vm n).seat k) (W.gm n) (W.time n) k=o at hQ hg1 hr1' hstep hidle ⊢
 refine⟨rfl,?_⟩
 rw[zY (show nthL (exL o.k o.n) 0=some (.int .u8 o.k) from rfl)]
 have hs1:(A1.x n).ss.p=some (cb',0):=by rw[hx1];exact hs
 have hk1:k<(({ C with cache:=ca1,dat:=dt1 }:Cst).vm n).seats.length:=hk'
 obtain⟨m2,hc2⟩:=jT hc1 hn hk1 hs1 hstep
 have hm12:Mv S ρ (S1.put cb' (k*26) o.s.L) ρ1 Rc:=(m1.mono fun r hr=>by unfold R026 at hr;unfold Rc;omega).trans (m2.mono fun r hr=>by unfold Rc;omega)
 by_cases h5:o.k=5
 ·rw[if_pos h5] at hQ ⊢
  obtain⟨e1,e2⟩:=hidle h5
  rw[e1,hA1.self]
  rw[e2,xK hW] at hr1'
  exact hQ S1 ⟨ρ1,A1,_,φ,m1.mono fun r hr=>by unfold R026 at hr;unfold Rc;omega,hc1,hr1',kp1,ht1,fun i=>by rw[hx1]⟩
 ·rw[if_neg h5] at hQ ⊢
  have hl1:((W.setDat o.g.dat).putSeat n k o.s).ev=W.ev:=rfl
  have hr2:=Rel.putSeat (k:=k) (n:=n) (s:=o.s) hr1' hon hk hstep
  have hpl:=Pl.of hA1 hok.len
  rw[jo (hpl.all hstep.len)]
  refine zjP hstep fun S3 hk3=>?_
  have hc3:=hc2.keeps hk3
  have hm3:Mv S ρ S3 ρ1 Rc:=hm12.trans (Mv.keeps hc2.rg hk3)
  refine After.tell hc3 hr2 hn (by rw[hl1];have:=hl n;omega) fun S4 hA4=>?_
  obtain⟨ρ4,A4,C4,φ4,m4,hc4,hr4,kp4,ht4,hx4⟩:=hA4
  have kp04:Kp C C4:=(show Kp C { C with cache:=ca1,dat:=dt1,vm:=_ } from kp1).trans kp4
  rw[zY (show nthL (exL o.k o.n) 0=some (.int .u8 o.k) from rfl)]
  by_cases h2:o.k=2
  ·simp only[if_pos h2] at hQ
   rw[if_pos h2,zY (show nthL (exL o.k o.n) 1=some (.int .u64 o.n) from rfl)]
   generalize hW2:(((W.setDat o.g.dat).putSeat n k o.s).tell n (told o.k o.n k ((W.vm n).seat k).pc o.s))=W2 at hQ hr4
   have v2:W2.vm n=(W.vm n).setSeat k o.s:=by rw[←hW2];show upd W.vm n _ n=_;rw[zq];rfl
   have ev2:(W2.ev n).length≤900000000:=by
    rw[←hW2]
    show (upd W.ev n _ n).length≤_
    rw[zq,List.length_append]
    have:=hl n
    show (W.ev n).length+1≤_
    omega
   have es:(W2.vm n).seat k=o.s:=by
    rw[v2]
    show ((W.vm n).seats.set k o.s).getD k seat0=o.s
    rw[List.getD_eq_getElem?_getD,List.getElem?_set_self hk];rfl
   refine zjz hc4 hr4 hn (by rw[v2];exact hon) (by rw[v2];show k<((W.vm n).seats.set k o.s).length;rw[List.length_set];exact hk) ev2 fun S5 hA5=>?_
   rw[es] at hA5
   obtain⟨ρ5,A5,C5,φ5,m5,hc5,hr5,kp5,ht5,hx5⟩:=hA5
   exact hQ S5 ⟨ρ5,A5,C5,φ5,hm3.trans (m4.trans m5),hc5,hr5,kp04.trans kp5,ht5.trans (ht4.trans ht1),fun i=>(hx5 i).trans ((hx4 i).trans (by rw[hx1]))⟩
  ·simp only[if_neg h2] at hQ
   rw[if_neg h2]
   exact hQ S4 ⟨ρ4,A4,C4,φ4,hm3.trans m4,hc4,hr4,kp04,ht4.trans ht1,fun i=>(hx4 i).trans (by rw[hx1])⟩
end
end Go.Proofs.YtabdpmnhjlmnlaaGreatDoor
end
section
namespace Go.Proofs.YtabdpmnhjlmnlaaGreatDoor
open Go Go.Pt Go.Cr Go.Hp
section
variable {S S':Mem} {ρ ρ':Rho} {h:Nat} {A:Ad} {C:Cst} {W:Wd} {φ:Nat→Nat→Nat}
theorem After.comp {A1:Ad} {C1:Cst} {S1 S2:Mem} {ρ1:Rho} {W2:Wd} (m:Mv S ρ S1 ρ1 Rc) (kp:Kp C C1) (ht:A1.t=A.t) (hx:∀ i,(A1.x i).ss=(A.x i).ss) (hA:After h A1 C1 S1 ρ1 W2 S2):After h A C S ρ W2 S2:=by
 obtain⟨ρ',A',C',φ',m',hc',hr',kp',ht',hx'⟩:=hA
 exact⟨ρ',A',C',φ',m.trans m',hc',hr',kp.trans kp',ht'.trans ht,fun i=>(hx' i).trans (hx i)⟩
theorem zec (hc:CrabA S ρ h A C) {n:Nat} (hn:n<6) (hl:(C.ev n).length≤1000000000) {Q:Sl→Mem→Prop}
  (hQ:∀ t S',Keeps S S' []→Row S' 4 t ((C.ev n).flatMap evL)→(∀ b o,t.p=some (b,o)→S b=none)→Q t S'):yH S (some (h,0)) n Q:=by
 have hrow:=hc.ev n hn
 have hsn:=hrow.n (by decide) (xF fb _)
 apply zbl
 unfold wD
 simp only[jn]
 rw[if_neg (by simp),if_neg (by omega),if_neg (by omega),qk]
 refine⟨by omega,by omega,?_⟩
 rw[Int.toNat_natCast,jW (hc.cev hn (by omega))]
 have hfl:=xF fb (C.ev n)
 refine⟨(C.ev n).flatMap evL,?_,?_,?_⟩
 ·rcases hrow.row.lie with ⟨h1,h2⟩ | ⟨b,k,h1,_⟩
  ·left
   have h3:=hrow.row.cap
   have hz:(A.es n).n=0:=by omega
   have:C.ev n=[]:=List.length_eq_zero_iff.1 (by omega)
   exact⟨h1,hz,by rw[this];rfl⟩
  ·right
   exact⟨b,0,h1,hrow.row.part h1⟩
 ·rw[List.all_flatMap];exact List.all_eq_true.2 fun x _=>rfl
 ·exact zlm (by rw[hfl,hsn]) rfl (by omega) fun s' S1 _ hr hk hf=>hQ s' S1 hk hr hf
theorem zjk (f:Nat→Bool) {k:Nat} (hk:k<6):iandn .u32 (bI f:Int) (ishl .u32 1 (k:Int))=(bI (upd f k false):Int):=by
 have b (g:Nat→Bool) (i:Nat):(g i).toNat≤1:=Bool.toNat_le _
 have key:∀ m:Fin 64,∀ j:Fin 6,iandn .u32 ((m.1:Nat):Int) (ishl .u32 1 ((j.1:Nat):Int))=((m.1-m.1/2 ^ j.1%2*2 ^ j.1:Nat):Int):=by decide +kernel
 rw[key ⟨bI f,zoK f⟩ ⟨k,hk⟩,zmC f k hk]
 congr 1
 have:=b f 0;have:=b f 1;have:=b f 2;have:=b f 3;have:=b f 4;have:=b f 5
 match k,hk with
 | 0,_=>simp[bI,upd] <;> omega
 | 1,_=>simp[bI,upd] <;> omega
 | 2,_=>simp[bI,upd] <;> omega
 | 3,_=>simp[bI,upd] <;> omega
 | 4,_=>simp[bI,upd] <;> omega
 | 5,_=>simp[bI,upd] <;> omega
end
end Go.Proofs.YtabdpmnhjlmnlaaGreatDoor
end
section
namespace Go.Cr
open Go Go.Pt
def clrD (d:Nat→List Int) (fr:List Nat):Nat→List Int:=fr.foldl (fun d f=>upd d f noughts) d
def rootD (d:Nat→List Int) (form:Int) (r:Nat) (fr:List Nat):Nat→Nat→List Int
 | 0=>d
 | i+1=>wr (rootD d form r fr i) r (8*i) (bytes8 (pk form (fr.getD (i+1) 0) true))
def makeD (d:Nat→List Int) (form:Int) (fr:List Nat):Nat→List Int:=rootD (clrD d fr) form (fr.getD 0 0) fr 4
theorem zdj:∀ {fr:List Nat} {d:Nat→List Int} {x:Nat},clrD d fr x=if x∈fr then noughts else d x
 | [],d,x=>by simp[clrD]
 | f :: fr,d,x=>by
  unfold clrD
  rw[List.foldl_cons]
  have:=zdj (fr:=fr) (d:=upd d f noughts) (x:=x)
  unfold clrD at this
  rw[this]
  by_cases e:x∈fr
  ·rw[if_pos e,if_pos (List.mem_cons_of_mem _ e)]
  ·rw[if_neg e]
   by_cases e2:x=f
   ·subst e2;rw[zq,if_pos List.mem_cons_self]
   ·rw[zo e2,if_neg (by simp[e,e2])]
theorem jS {d:Nat→List Int} {form:Int} {r x:Nat} {fr:List Nat} (h:x≠r):∀ {i:Nat},rootD d form r fr i x=d x
 | 0=>rfl
 | i+1=>by rw[rootD,znT h,jS h]
theorem zdO {d:Nat→List Int} {form:Int} {r:Nat} {fr:List Nat} (h:(d r).length=256∧Byt (d r)):∀ {i:Nat},i≤31→(rootD d form r fr i r).length=256∧Byt (rootD d form r fr i r)
 | 0,_=>h
 | i+1,hi=>by
  have ih:=zdO (form:=form) (fr:=fr) h (i:=i) (by omega)
  rw[rootD]
  exact⟨by rw[zhX (by rw[ih.1,xo];omega)];exact ih.1,zhY (kn _) ih.2⟩
theorem zii {d:Nat→List Int} {form:Int} {r:Nat} {fr:List Nat} (h:(d r).length=256∧Byt (d r)) (hf:∀ f∈fr,f≤65535):∀ {i j:Nat},i≤31→j<i→ld (rootD d form r fr i) r j=pk form (fr.getD (j+1) 0) true
 | 0,j,_,hj=>by omega
 | i+1,j,hi,hj=>by
  have ih:=zdO (form:=form) (fr:=fr) h (i:=i) (by omega)
  have h6:fr.getD (i+1) 0≤65535:=by
   rw[List.getD_eq_getElem?_getD]
   cases hq:fr[i+1]? with
   | none=>exact Nat.zero_le _
   | some x=>exact hf x (List.mem_of_getElem? hq)
  rw[rootD,zoo ih.1 (by omega) (by omega) (znL h6).1]
  by_cases e:j=i
  ·rw[if_pos ⟨rfl,e⟩,e]
  ·rw[if_neg (fun h=>e h.2)]
   exact zii h hf (by omega) (by omega)
theorem zji {d:Nat→List Int} {f i:Nat} (h:d f=noughts):ld d f i=0:=by
 unfold ld
 rw[h]
 have key:∀ l:List Int,(∀ x∈l,x=0)→num l=0:=by
  intro l
  induction l with
  | nil=>intro _;rfl
  | cons x l ih=>
   intro hl
   simp only[num]
   rw[hl x (by simp),ih fun y hy=>hl y (by simp[hy])];rfl
 exact key _ fun x hx=>zdR (List.mem_of_mem_drop (List.mem_of_mem_take hx))
def keepL (own:Nat→Ow) (n:Nat) (l:List Nat):Nat→Ow:=l.foldl (fun o f=>keepC o f n) own
theorem zgK {n:Nat}:∀ {l:List Nat} {own:Nat→Ow} {x:Nat},(∀ f∈l,(own f).kind=0)→l.Nodup→keepL own n l x=if x∈l then ⟨2,n,0,0⟩ else own x
 | [],own,x,_,_=>by simp[keepL]
 | f :: l,own,x,h,hn=>by
  obtain⟨h1,h2⟩:=List.nodup_cons.1 hn
  have e0:keepC own f n=upd own f ⟨2,n,0,0⟩:=by
   unfold keepC
   rw[if_pos (h f (by simp)),if_pos (by omega)]
  have ih:=zgK (n:=n) (l:=l) (own:=keepC own f n) (x:=x) (fun g hg=>by
   rw[e0,zo (fun e=>by subst e;exact h1 hg)];exact h g (by simp[hg])) h2
  unfold keepL at ih ⊢
  rw[List.foldl_cons,ih]
  by_cases e:x∈l
  ·rw[if_pos e,if_pos (List.mem_cons_of_mem _ e)]
  ·rw[if_neg e,e0]
   by_cases e2:x=f
   ·subst e2;rw[zq,if_pos List.mem_cons_self]
   ·rw[zo e2,if_neg (by simp[e,e2])]
def Wd.newV (W:Wd) (n:Nat) (seats quota:Int):Wd:=
 { W with free:=W.free-5,vm:=upd W.vm n (mkV seats quota),time:=upd W.time n 0,ev:=upd W.ev n [] }
section
variable {C:Cst} {W:Wd} {φ:Nat→Nat→Nat}
theorem znh (h:WOk W) {n:Nat} (hn:n<6) (hoff:(W.vm n).on=false) {seats quota:Int} (hs:1≤seats∧seats≤3) (hq:1≤quota∧quota≤32):WOk (W.newV n seats quota):=by
 have vn:(W.newV n seats quota).vm n=mkV seats quota:=zq
 have vo:∀ i,i≠n→(W.newV n seats quota).vm i=W.vm i:=fun i e=>zo e
 have h0:=h.off n hoff
 have on_of:∀ i,(W.vm i).on=true→i≠n:=fun i hi e=>by subst e;rw[hoff] at hi;cases hi
 refine { h with off:=fun i hi=>?_,six:=fun i hi=>?_,seats:=fun i hi=>?_,ok:=fun i s hs'=>?_,keys:=fun i=>?_,disk:=fun i j hi=>?_,quota:=fun i=>?_,bells:=fun i k hk=>?_,pg:=fun i p l hl=>?_,most:=fun i=>?_,lsr:=fun i hi=>?_,alarm:=fun i k w hw=>?_ }
 ·have e:i≠n:=fun e=>by subst e;rw[vn] at hi;cases hi
  rw[vo i e] at hi ⊢;exact h.off i hi
 ·rw[vo i (by omega)];exact h.six i hi
 ·by_cases e:i=n
  ·subst e;rw[vn]
   show 1≤(List.replicate seats.toNat seat0).length∧_
   rw[List.length_replicate]
   exact⟨by omega,by show (List.replicate seats.toNat seat0).length≤3;rw[List.length_replicate];omega⟩
  ·rw[vo i e] at hi ⊢;exact h.seats i hi
 ·by_cases e:i=n
  ·subst e;rw[vn] at hs'
   rw[List.eq_of_mem_replicate hs'];exact zie
  ·rw[vo i e] at hs';exact h.ok i s hs'
 ·by_cases e:i=n
  ·subst e;rw[vn];exact⟨Nat.zero_le _,fun x hx=>by cases hx⟩
  ·rw[vo i e];exact h.keys i
 ·by_cases e:i=n
  ·subst e;rw[vn];exact⟨qI,fun x hx=>xL hx⟩
  ·rw[vo i e] at hi ⊢;exact h.disk i j hi
 ·by_cases e:i=n
  ·subst e;rw[vn];exact⟨show 0≤quota by omega,hq.2⟩
  ·rw[vo i e];exact h.quota i
 ·by_cases e:i=n
  ·subst e;rw[vn] at hk;cases hk
  ·rw[vo i e] at hk
   obtain⟨a,b,c,d⟩:=h.bells i k hk
   have hkn:=on_of k b
   rw[vo i e,vo k hkn];exact⟨a,b,c,d⟩
 ·obtain⟨a,b⟩:=h.pg i p l hl
  rw[vo i (on_of i a)];exact⟨a,b⟩
 ·by_cases e:i=n
  ·subst e
   have:(W.newV i seats quota).pages i=0:=xm fun p _=>by
    show (W.own i p).isSome=false
    rw[h0.2.1];rfl
   rw[this,vn];show (0:Int)≤quota;omega
  ·rw[vo i e];exact h.most i
 ·obtain⟨a,b,c,d⟩:=h.lsr i hi
  have e1:(W.newV n seats quota).ls i=W.ls i:=rfl
  rw[e1,vo _ (on_of _ b),vo _ (on_of _ c)];exact⟨a,b,c,d⟩
 ·have hw':W.alarm i k=some w:=hw
  have e:i≠n:=fun e=>by subst e;rw[h0.2.2] at hw';cases hw'
  rw[vo i e];exact h.alarm i k w hw'
theorem Rel.newV (h:Rel C W φ) {n:Nat} (hn:n<6) (hoff:(W.vm n).on=false) {seats quota:Int} (hs:1≤seats∧seats≤3) (hq:1≤quota∧quota≤32) {l:List Nat} {u:Nat→Bool} (ht:takeN C.N 5 C.used=some (l,u)) :
  Rel { C with used:=u,own:=keepL C.own n l,dat:=makeD C.dat C.form l,vm:=upd C.vm n (mkV seats quota),tf:=upd C.tf n C.form,fr:=upd C.fr n l,late:=upd C.late n C.now,ev:=upd C.ev n [] } (W.newV n seats quota) φ:=by
 obtain⟨hl5,hnd,hfree,hu,hcnt⟩:=xZ ht
 have hk0:∀ f∈l,(C.own f).kind=0:=fun f hf=>by
  have h1:=hfree f hf
  have:=h.used f h1.1
  rw[h1.2] at this
  have h2:=of_decide_eq_false this.symm
  exact Classical.byContradiction fun h3=>h2 h3
 have hown:∀ x,keepL C.own n l x=if x∈l then ⟨2,n,0,0⟩ else C.own x:=fun x=>zgK hk0 hnd
 have hN:=h.N
 have hmem:∀ j,j<5→l.getD j 0∈l:=fun j hj=>zfP (by omega)
 have h0:=h.wk.off n hoff
 have ht0:=h.off n hoff
 have vo:∀ i,i≠n→(W.newV n seats quota).vm i=W.vm i:=fun i e=>zo e
 have vn:(W.newV n seats quota).vm n=mkV seats quota:=zq
 have hr:l.getD 0 0∈l:=hmem 0 (by decide)
 have hinj:∀ j,j<5→j≠0→l.getD j 0≠l.getD 0 0:=fun j hj hj0 e=>by
  rw[List.getD_eq_getElem?_getD,List.getD_eq_getElem?_getD,List.getElem?_eq_getElem (by omega),List.getElem?_eq_getElem (by omega)] at e
  exact hj0 ((List.getElem_inj hnd).1 e)
 have hclr:∀ x,x∈l→clrD C.dat l x=noughts:=fun x hx=>by rw[zdj,if_pos hx]
 have hnb:noughts.length=256∧Byt noughts:=⟨qI,fun x hx=>xL hx⟩
 have hdn:∀ x,x∉l→makeD C.dat C.form l x=C.dat x:=fun x hx=>by
  unfold makeD
  rw[jS (fun e=>hx (by rw[e];exact hr)),zdj,if_neg hx]
 have hlen:∀ f,f<C.N→(makeD C.dat C.form l f).length=256∧Byt (makeD C.dat C.form l f):=fun f hf=>by
  by_cases e:f=l.getD 0 0
  ·unfold makeD
   rw[e]
   exact zdO (by rw[hclr _ hr];exact hnb) (by decide)
  ·unfold makeD
   rw[jS e,zdj]
   split
   ·exact hnb
   ·exact h.len f hf
 have hnl:∀ f,(C.own f).kind≠0→f∉l:=fun f hf hm=>hf (hk0 f hm)
 have fr_of:∀ m j,(W.vm m).on=true→j<5→(C.fr m).getD j 0∉l:=fun m j hm hj=>hnl _ (by rw[(h.frN hm hj).2];exact show (2:Int)≠0 by decide)
 have on_of:∀ i,(W.vm i).on=true→i≠n:=fun i hi e=>by subst e;rw[hoff] at hi;cases hi
 have ldn:∀ x i,x∉l→ld (makeD C.dat C.form l) x i=ld C.dat x i:=fun x i hx=>by unfold ld;rw[hdn x hx]
 have hroot:∀ m j,((W.newV n seats quota).vm m).on=true→j<4→unp C.form (ld (makeD C.dat C.form l) ((upd C.fr n l m).getD 0 0) j)=some ((upd C.fr n l m).getD (j+1) 0,true):=fun m j hm hj=>by
  by_cases e:m=n
  ·subst e
   rw[zq]
   have e1:ld (makeD C.dat C.form l) (l.getD 0 0) j=pk C.form (l.getD (j+1) 0) true:=zii (by rw[hclr _ hr];exact hnb) (fun f hf=>by have:=(hfree f hf).1;omega) (by decide) hj
   rw[e1,zjN (by have:=(hfree _ (hmem (j+1) (by omega))).1;omega)]
  ·rw[vo m e] at hm
   rw[zo e,ldn _ _ (fr_of m 0 hm (by decide))]
   exact h.root m j hm hj
 have hwhere:∀ m p,(W.newV n seats quota).where_ m p=W.where_ m p:=fun m p=>rfl
 have hwn:∀ p,W.where_ n p=none:=fun p=>by
  unfold Wd.where_
  rw[h0.2.1]
  cases hf:leaseAt W.ls n p with
  | none=>rfl
  | some j=>
   obtain⟨_,h1,h2,_⟩:=yb hf
   have:=(h.wk.lsr j h1).2.2.1
   rw[h2,hoff] at this;cases this
 have hleaf:∀ m p,((W.newV n seats quota).vm m).on=true→p<32→unp C.form (ld (makeD C.dat C.form l) ((upd C.fr n l m).getD (p/8+1) 0) (p%8))=(W.where_ m p).map fun q=>(φ q.1 q.2.1,q.2.2):=fun m p hm hp=>by
  by_cases e:m=n
  ·subst e
   rw[zq,hwn]
   have e1:makeD C.dat C.form l (l.getD (p/8+1) 0)=noughts:=by
    unfold makeD
    rw[jS (hinj _ (by omega) (by omega)),hclr _ (hmem _ (by omega))]
   rw[zji e1,zba];rfl
  ·rw[vo m e] at hm
   rw[zo e,ldn _ _ (fr_of m _ hm (by omega))]
   exact h.leaf m p hm hp
 exact { h with
  wk:=znh h.wk hn hoff hs hq
  vm:=by show upd C.vm n _=upd W.vm n _;rw[h.vm]
  ev:=by show upd C.ev n _=upd W.ev n _;rw[h.ev]
  time:=fun i hi=>by
   show 0≤upd C.late n C.now i∧upd C.late n C.now i≤C.now∧upd W.time n 0 i=C.now-upd C.late n C.now i
   have hnow:=h.now
   by_cases e:i=n
   ·subst e;rw[zq,zq];omega
   ·rw[vo i e] at hi
    rw[zo e,zo e];exact h.time i hi
  alm:=fun i k=>by
   show C.alm i k=(W.alarm i k).map fun w=>min (w+upd C.late n C.now i) most64
   by_cases e:i=n
   ·subst e
    rw[h.alm i k,h0.2.2];rfl
   ·rw[zo e];exact h.alm i k
  free:=by
   show W.free-5=(count (fun f=>! u f) C.N:Int)
   have:=h.free
   omega
  used:=fun f hf=>by
   show u f=decide ((keepL C.own n l f).kind≠0)
   rw[hu,hown]
   by_cases e:f∈l
   ·rw[if_pos e];simp[e]
   ·rw[if_neg e,h.used f hf];simp[e]
  own0:=fun f hf hk=>by
   have hk':(keepL C.own n l f).kind=0:=hk
   show keepL C.own n l f=ow0
   rw[hown] at hk' ⊢
   by_cases e:f∈l
   ·rw[if_pos e] at hk';cases hk'
   ·rw[if_neg e] at hk' ⊢;exact h.own0 f hf hk'
  kind:=fun f hf=>by
   show 0≤(keepL C.own n l f).kind∧(keepL C.own n l f).kind≤3
   rw[hown]
   split
   ·exact⟨show (0:Int)≤2 by decide,show (2:Int)≤3 by decide⟩
   ·exact h.kind f hf
  len:=hlen
  off:=fun i hi=>by
   have e:i≠n:=fun e=>by subst e;rw[vn] at hi;cases hi
   rw[vo i e] at hi
   show upd C.fr n l i=[]∧upd C.tf n C.form i=0∧upd C.late n C.now i=0
   rw[zo e,zo e,zo e];exact h.off i hi
  tab:=fun i hi=>by
   show upd C.tf n C.form i=C.form∧(upd C.fr n l i).length=5∧(upd C.fr n l i).Nodup
   by_cases e:i=n
   ·subst e;rw[zq,zq];exact⟨rfl,hl5,hnd⟩
   ·rw[vo i e] at hi
    rw[zo e,zo e];exact h.tab i hi
  tabf:=fun m f hm=>by
   have hm':f∈upd C.fr n l m:=hm
   show f<C.N∧keepL C.own n l f=⟨2,m,0,0⟩
   rw[hown]
   by_cases e:m=n
   ·subst e
    rw[zq] at hm'
    rw[if_pos hm'];exact⟨(hfree f hm').1,rfl⟩
   ·rw[zo e] at hm'
    have:=h.tabf m f hm'
    rw[if_neg (hnl f (by rw[this.2];exact show (2:Int)≠0 by decide))];exact this
  tabk:=fun f hf h2=>by
   have h2':(keepL C.own n l f).kind=2:=h2
   rw[hown] at h2'
   by_cases e:f∈l
   ·exact⟨n,by show f∈upd C.fr n l n;rw[zq];exact e⟩
   ·rw[if_neg e] at h2'
    obtain⟨m,hm⟩:=h.tabk f hf h2'
    have hmn:m≠n:=fun e2=>by subst e2;rw[ht0.1] at hm;cases hm
    exact⟨m,by show f∈upd C.fr n l m;rw[zo hmn];exact hm⟩
  root:=hroot
  leaf:=hleaf
  pg:=fun m p l2 hl2=>by
   have h3:=h.pg m p l2 hl2
   have hnm:φ m p∉l:=hnl _ (by rw[h3.2.1];exact show (3:Int)≠0 by decide)
   refine⟨h3.1,?_,?_⟩
   ·show keepL C.own n l (φ m p)=_
    rw[hown,if_neg hnm];exact h3.2.1
   ·show makeD C.dat C.form l (φ m p)=l2
    rw[hdn _ hnm];exact h3.2.2
  pgk:=fun f hf h3=>by
   have h3':(keepL C.own n l f).kind=3:=h3
   rw[hown] at h3'
   by_cases e:f∈l
   ·rw[if_pos e] at h3';cases h3'
   ·rw[if_neg e] at h3';exact h.pgk f hf h3'
  hyp:=⟨h.hyp.1,fun f=>by
   show _↔f<C.N∧(keepL C.own n l f).kind=1
   rw[hown]
   by_cases e:f∈l
   ·rw[if_pos e,h.hyp.2 f,hk0 f e]
    exact⟨fun h=>(by cases h.2),fun h=>(by cases h.2)⟩
   ·rw[if_neg e];exact h.hyp.2 f⟩
  cache:=fun r hr'=>by
   obtain⟨m,h1,h2,h3⟩:=h.cache r hr'
   have hmn:=on_of m h2
   refine⟨m,h1,by rw[vo m hmn];exact h2,?_⟩
   show walkC (makeD C.dat C.form l) C.N (upd C.tf n C.form m) (upd C.fr n l m) r.page=_
   rw[zo hmn,zo hmn,←h3]
   by_cases hp:r.page<0∨31<r.page
   ·rw[zdg hp]
    unfold walkC Go.Cr.leafC
    rw[if_pos hp]
   ·obtain⟨q,hq⟩:∃ q:Nat,r.page=q:=⟨r.page.toNat,by omega⟩
    have hf:=(h.tab m h2).1
    have hr2:=fun j hj=>hroot m j (by rw[vo m hmn];exact h2) hj
    simp only[zo hmn] at hr2
    have hl2:=hleaf m q (by rw[vo m hmn];exact h2) (by omega)
    rw[zo hmn] at hl2
    rw[hq,zjM (h.tab m h2).2.1 (fun j hj=>(h.frN h2 hj).1) (fun j hj=>by rw[hf];exact hr2 j hj) (by omega),hf,hl2,h.walk h2 (by omega)] }
def partB (img:List Int) (p:Nat):List Int:=(img.drop (256*p)).take 256
theorem zeM (img:List Int) (p:Nat):spB noughts 0 (partB img p)=pageB img p:=by
 unfold spB pageB fit256 partB
 rw[List.take_zero,List.nil_append,Nat.zero_add]
 congr 1
 unfold noughts
 rw[List.drop_replicate]
 congr 1
 rw[List.length_take];omega
theorem ziY {img:List Int} {p:Nat} (h:img.length≤256*p):pageB img p=noughts:=by
 unfold pageB fit256
 rw[List.drop_of_length_le h];rfl
theorem zlL {img:List Int} (hb:Byt img) (p:Nat):(pageB img p).length=256∧Byt (pageB img p):=by
 refine⟨zeY _,fun x hx=>?_⟩
 unfold pageB fit256 at hx
 rcases List.mem_append.1 hx with h | h
 ·exact hb x (List.mem_of_mem_drop (List.mem_of_mem_take h))
 ·rw[List.eq_of_mem_replicate h];decide
theorem zkc {n p:Nat} {o o':Option (List Int)}:(W.setO n p o).setO n p o'=W.setO n p o':=by
 have e:upd (W.setO n p o).own n (upd ((W.setO n p o).own n) p o')=upd W.own n (upd (W.own n) p o'):=by
  show upd (upd W.own n (upd (W.own n) p o)) n (upd ((upd W.own n (upd (W.own n) p o)) n) p o')=_
  rw[zfl,zq,zfl]
 exact congrArg (fun x=>({ W with own:=x }:Wd)) e
theorem Rel.page (h:Rel C W φ) {n p f:Nat} {img:List Int} (hb:Byt img) (hon:(W.vm n).on=true) (hp:p<32) (hno:W.where_ n p=none) (hq:(W.pages n:Int)<(W.vm n).quota) (hf:firstOff C.used C.N=some f) :
  Rel { C with dat:=(if 256*p<img.length then wr (setC (upd C.dat f noughts) C.N (C.tf n) (C.fr n) p (pk (C.tf n) f true)) f 0 (partB img p) else setC (upd C.dat f noughts) C.N (C.tf n) (C.fr n) p (pk (C.tf n) f true)),cache:=dropC C.cache n p,own:=donC C.own f n p,used:=upd C.used f true } { W.setO n p (some (pageB img p)) with free:=W.free-1 } (upφ φ n p f):=by
 have hg:=h.get (l:=noughts) ⟨qI,fun x hx=>xL hx⟩ hon hp hno hq hf true rfl
 by_cases hl:256*p<img.length
 ·rw[if_pos hl]
  have ho:({ W.setO n p (some noughts) with free:=W.free-1 }:Wd).own n p=some noughts:=by
   show (W.setO n p (some noughts)).own n p=_
   rw[setO_own,if_pos ⟨rfl,rfl⟩]
  have h2:=hg.setO (l':=spB noughts 0 (partB img p)) ho (by rw[zeM];exact zlL hb p)
  have hpg:=hg.pg n p noughts ho
  have eφ:upφ φ n p f n p=f:=by unfold upφ;rw[if_pos ⟨rfl,rfl⟩]
  rw[eφ] at h2 hpg
  have ed:(setC (upd C.dat f noughts) C.N (C.tf n) (C.fr n) p (pk (C.tf n) f true)) f=noughts:=hpg.2.2
  have ew:wr (setC (upd C.dat f noughts) C.N (C.tf n) (C.fr n) p (pk (C.tf n) f true)) f 0 (partB img p)=upd (setC (upd C.dat f noughts) C.N (C.tf n) (C.fr n) p (pk (C.tf n) f true)) f (spB noughts 0 (partB img p)):=by unfold wr;rw[ed]
  rw[ew]
  have eo:({ W.setO n p (some noughts) with free:=W.free-1 }:Wd).setO n p (some (spB noughts 0 (partB img p))) = { W.setO n p (some (pageB img p)) with free:=W.free-1 }:=by
   have:=zkc (W:=W) (n:=n) (p:=p) (o:=some noughts) (o':=some (spB noughts 0 (partB img p)))
   rw[zeM] at this ⊢
   exact congrArg (fun w=>({ w with free:=W.free-1 }:Wd)) this
  rw[eo] at h2
  exact h2
 ·rw[if_neg hl,ziY (by omega)]
  exact hg
def Wd.newP (W:Wd) (n:Nat) (seats quota:Int) (img:List Int) (i:Nat):Wd:=
 { W.newV n seats quota with free:=W.free-5-i,own:=upd W.own n fun p=>if p<i then some (pageB img p) else W.own n p }
theorem zkz {n:Nat} {seats quota:Int} {img:List Int}:W.newP n seats quota img 0=W.newV n seats quota:=by
 have e:upd W.own n (fun p=>if p<0 then some (pageB img p) else W.own n p)=W.own:=by
  have:(fun p=>if p<0 then some (pageB img p) else W.own n p)=W.own n:=by funext p;rw[if_neg (by omega)]
  rw[this,xG]
 unfold Wd.newP
 rw[e]
 show ({ W.newV n seats quota with free:=W.free-5-((0:Nat):Int),own:=W.own }:Wd)=_
 have:W.free-5-((0:Nat):Int)=W.free-5:=by omega
 rw[this];rfl
theorem zkA {n:Nat} {seats quota:Int} {img:List Int} {i:Nat}:({ (W.newP n seats quota img i).setO n i (some (pageB img i)) with free:=(W.newP n seats quota img i).free-1 }:Wd)=W.newP n seats quota img (i+1):=by
 have e:upd (W.newP n seats quota img i).own n (upd ((W.newP n seats quota img i).own n) i (some (pageB img i)))=(W.newP n seats quota img (i+1)).own:=by
  show upd (upd W.own n _) n (upd ((upd W.own n _) n) i (some (pageB img i)))=upd W.own n _
  rw[zfl,zq]
  congr 1
  funext p
  unfold upd
  by_cases h1:p=i
  ·rw[if_pos h1,if_pos (by omega),h1]
  ·rw[if_neg h1]
   show (if p<i then some (pageB img p) else W.own n p)=_
   by_cases h2:p<i
   ·rw[if_pos h2,if_pos (by omega)]
   ·rw[if_neg h2,if_neg (by omega)]
 have ef:(W.newP n seats quota img i).free-1=(W.newP n seats quota img (i+1)).free:=by
  show W.free-5-(i:Int)-1=W.free-5-((i+1:Nat):Int)
  omega
 have key:∀ (a b:Int) (o o':Nat→Nat→Option (List Int)),a=b→o=o'→({ W.newV n seats quota with free:=a,own:=o }:Wd) = { W.newV n seats quota with free:=b,own:=o' }:=by
  rintro a b o o' rfl rfl;rfl
 exact key _ _ _ _ ef e
theorem zjc (h:WOk W) {n:Nat} (hoff:(W.vm n).on=false) {seats quota:Int} {img:List Int} {i p:Nat} (hp:i≤p):(W.newP n seats quota img i).where_ n p=none:=by
 have h0:=h.off n hoff
 apply zak
 ·show upd W.own n _ n p=none
  rw[zq,if_neg (by omega)];exact h0.2.1 p
 ·show leaseAt W.ls n p=none
  cases hf:leaseAt W.ls n p with
  | none=>rfl
  | some j=>
   obtain⟨_,h1,h2,_⟩:=yb hf
   have:=(h.lsr j h1).2.2.1
   rw[h2,hoff] at this;cases this
theorem zjd (h:WOk W) {n:Nat} (hoff:(W.vm n).on=false) {seats quota:Int} {img:List Int} {i:Nat}:(W.newP n seats quota img i).pages n≤i:=by
 have h0:=h.off n hoff
 have key:∀ m,count (fun p=>((W.newP n seats quota img i).own n p).isSome) m≤min i m:=by
  intro m
  induction m with
  | zero=>simp[count]
  | succ m ih=>
   rw[qZ]
   by_cases e:m<i
   ·have:(((W.newP n seats quota img i).own n m).isSome).toNat≤1:=Bool.toNat_le _
    omega
   ·have:((W.newP n seats quota img i).own n m).isSome=false:=by
     show (upd W.own n _ n m).isSome=false
     rw[zq,if_neg e,h0.2.1];rfl
    rw[this]
    have:Bool.toNat false=0:=rfl
    omega
 have:=key 32
 exact Nat.le_trans this (Nat.min_le_left _ _)
end
end Go.Cr
end
section
namespace Go.Proofs.YtabdpmnhjlmnlaaGreatDoor
open Go Go.Pt Go.Cr Go.Hp
abbrev pg (b:Nat):Sl:=⟨some (b,0),256,256⟩
structure Pages (S S':Mem) (bs:List Nat):Prop where
 nodup:bs.Nodup
 at_:∀ b∈bs,S b=none∧S' b=some (bw 5 (bL noughts))
 keep:Keeps S S' []
def nilS:Value:=.slice none 0 0
theorem zmF:zrep 256 [Value.int .u8 0]=bL noughts:=by
 rw[zfh];rfl
section
variable {S:Mem}
theorem zjA {Q:List Value→Mem→Prop} (hQ:∀ b0 b1 b2 b3 S',Pages S S' [b0,b1,b2,b3]→Q [eL (pg b0),eL (pg b1),eL (pg b2),eL (pg b3)] S'):zaE S Q:=by
 apply zfn
 unfold gi
 simp only[jn]
 refine zX (fun (z:Int×List Value) S'=>∃ bs:List Nat,z=((bs.length:Int),bs.map (fun b=>eL (pg b))++List.replicate (4-bs.length) nilS)∧bs.length≤4∧Pages S S' bs) (fun z=>(4-z.1).toNat) ?_ ⟨[],rfl,by simp,by simp,by simp,Keeps.refl⟩
 rintro X z S' ⟨bs,rfl,hl,hP⟩ ih
 dsimp only at ih ⊢
 have hlen:(bs.map (fun b=>eL (pg b))++List.replicate (4-bs.length) nilS).length=4:=by simp;omega
 refine⟨hlen,?_⟩
 by_cases hlt:(bs.length:Int)<4
 ·rw[if_pos hlt]
  intro b hb
  refine⟨by omega,hlt,?_⟩
  rw[w64 (by omega) (by omega),zmF]
  have hbS:=zfQ hP.keep hb
  have hnb:b∉bs:=fun h=>by have:=(hP.at_ b h).2;rw[hb] at this;cases this
  refine ih _ _ ⟨bs++[b],?_,by simp;omega,⟨?_,?_,hP.keep.new hb⟩⟩ (by simp only;omega)
  ·have e:spl (bs.map (fun b=>eL (pg b))++List.replicate (4-bs.length) nilS) (0+(bs.length:Int).toNat*1) [.slice (some ⟨b,0,none⟩) 256 256]=(bs++[b]).map (fun b=>eL (pg b))++List.replicate (4-(bs++[b]).length) nilS:=by
    rw[show 0+(bs.length:Int).toNat*1=bs.length by omega,xq _ _ _ (by rw[hlen];omega)]
    rw[List.take_left' (by simp),←List.drop_drop,List.drop_left' (by simp),show 4-bs.length=(4-(bs++[b]).length)+1 by simp;omega,List.replicate_succ]
    simp
    rfl
   rw[e];simp
  ·rw[List.nodup_append]
   exact⟨hP.nodup,by simp,fun x hx y hy e=>by simp at hy;subst hy;subst e;exact hnb hx⟩
  ·intro x hx
   rcases List.mem_append.1 hx with hx | hx
   ·have hxb:x≠b:=fun e=>hnb (e ▸ hx)
    exact⟨(hP.at_ x hx).1,by rw[qm hxb];exact (hP.at_ x hx).2⟩
   ·rw[List.mem_singleton] at hx;subst hx;exact⟨hbS,zO⟩
 ·rw[if_neg hlt]
  have h4:bs.length=4:=by omega
  match bs,h4 with
  | [b0,b1,b2,b3],_=>exact⟨rfl,rfl,hQ b0 b1 b2 b3 S' hP⟩
structure Made (S S':Mem) (n:Nat) (ss:Sl) (bs:List Nat):Prop where
 pages:Pages S S' bs
 row:Row S' 26 ss ((List.replicate n seat0).flatMap Seat.L)
 fresh:∀ x o,ss.p=some (x,o)→S x=none∧x∉bs
def mk12 (ss:Sl) (quota:Int) (b0 b1 b2 b3:Nat):List Value:=[.bool true,eL ss,.int .i64 0,.slice none 0 0,.int .i64 quota,.int .u64 0,.slice none 0 0,eL (pg b0),eL (pg b1),eL (pg b2),eL (pg b3),.int .u32 0]
theorem zmY:∀ n,∀ s∈List.replicate n seat0,s.Ok:=fun n s hs=>by rw[List.eq_of_mem_replicate hs];exact zie
theorem zog (n:Nat):((List.replicate n seat0).flatMap Seat.L).length=n*26:=by rw[zbu (zmY n),List.length_replicate]
theorem zkG {n:Nat} {quota:Int} (h1:1≤n) (h2:n≤3) (h3:1≤quota) (h4:quota≤32) {Q:List Value→Int→Mem→Prop}
  (hQ:∀ ss b0 b1 b2 b3 S',Made S S' n ss [b0,b1,b2,b3]→Q (mk12 ss quota b0 b1 b2 b3) 0 S'):fP S n quota Q:=by
 apply zcF
 unfold jh
 simp only[jn]
 rw[if_neg (by omega),if_neg (by omega),if_neg (by omega),if_neg (by omega)]
 refine⟨rfl,zjA fun b0 b1 b2 b3 S1 hP=>⟨rfl,?_⟩⟩
 refine zX (fun (z:Int×List Value) S'=>∃ (k:Nat) (ss:Sl),z=((k:Int),mk12 ss quota b0 b1 b2 b3)∧k≤n∧Made S S' k ss [b0,b1,b2,b3]) (fun z=>(n-z.1).toNat) ?_
  ⟨0,⟨none,0,0⟩,rfl,by omega,hP,Row.nil,fun x o h=>by cases h⟩
 rintro X z S2 ⟨k,ss,rfl,hk,hM⟩ ih
 dsimp only at ih ⊢
 refine⟨rfl,?_⟩
 by_cases hlt:(k:Int)<(n:Int)
 ·rw[if_pos hlt,jW (show nthL (mk12 ss quota b0 b1 b2 b3) 1=some (eL ss) from rfl)]
  apply ziI
  unfold zcw
  refine⟨rfl,?_⟩
  have hsn:ss.n=k:=by
   have:=hM.row.len
   rw[zog] at this;omega
  refine gr hM.row rfl (by decide) (by kernel_rfl) (by omega) fun s' S3 b q e1 e2 e3 e4 e5=>?_
  have hb:S b=none∧b∉[b0,b1,b2,b3]:=by
   rcases e3 with e3 | e3
   ·exact hM.fresh b 0 e3
   ·refine⟨zfQ hM.pages.keep e3,fun hm=>?_⟩
    have:=(hM.pages.at_ b hm).2
    rw[e3] at this;cases this
  rw[w64 (by omega) (by omega)]
  refine ih _ _ ⟨k+1,s',?_,by omega,⟨⟨hM.pages.nodup,fun x hx=>⟨(hM.pages.at_ x hx).1,?_⟩,?_⟩,?_,?_⟩⟩ (by simp only;omega)
  ·have:spl (mk12 ss quota b0 b1 b2 b3) 1 [eL s']=mk12 s' quota b0 b1 b2 b3:=rfl
   rw[this];simp
  ·rw[e4,qm (fun e=>by subst e;exact hb.2 hx)];exact (hM.pages.at_ x hx).2
  ·rw[e4];exact hM.pages.keep.fresh hb.1
  ·have e:(List.replicate (k+1) seat0).flatMap Seat.L=(List.replicate k seat0).flatMap Seat.L++seat0.L:=by
    rw[List.replicate_succ',List.flatMap_append];simp
   rw[e];exact e5
  ·intro x o hx;rw[e2] at hx;cases hx;exact hb
 ·rw[if_neg hlt]
  have:k=n:=by omega
  subst this
  exact⟨rfl,rfl,hQ ss b0 b1 b2 b3 S2 hM⟩
theorem zlX {seats quota:Int} (h:seats<1∨3<seats∨quota<1∨32<quota) {Q:List Value→Int→Mem→Prop} (hQ:∀ t,t.all (·.oneCell')=true→Q t 1 S):fP S seats quota Q:=by
 apply zcF
 unfold jh
 simp only[jn]
 by_cases h1:seats<1
 ·rw[if_pos h1];exact hQ _ rfl
 rw[if_neg h1]
 by_cases h2:3<seats
 ·rw[if_pos h2];exact hQ _ rfl
 rw[if_neg h2]
 by_cases h3:quota<1
 ·rw[if_pos h3];exact hQ _ rfl
 rw[if_neg h3,if_pos (by omega)]
 exact hQ _ rfl
variable {ρ:Rho} {m N:Nat} {d:Nat→List Int}
theorem zjf (h:StoreD S ρ m N d) (hg:∀ b r,ρ b=some r→S b≠none) {form:Int} (hform:form=1∨form=2) {l:List Nat} {t:Sl} {r c:Nat} (hr:r≠2) (hrow:Rw S ρ r 1 t (nL l)) (hc:t.p=some (c,0)) (h5:5≤l.length) (hl:∀ f∈l,f<N) {Q:List Value→Int→Mem→Prop}
  (hQ:∀ t' S',Mv S ρ S' ρ (· = 2)→StoreD S' ρ m N (makeD d form (l.take 5))→Row S' 1 t' (nL (l.take 5))→(∀ b o,t'.p=some (b,o)→S b=none∧ρ b=none)→Q (tbL form t') 0 S'):fJ S (some (m,0)) form ⟨some (c,0),5,t.c⟩ Q:=by
 have hN:=h.lim
 have htn:=hrow.n (by decide) (jG l)
 have hcap:=hrow.row.cap
 have hget:∀ {S':Mem},Rw S' ρ r 1 t (nL l)→∀ i (hi:i<l.length) {x:Nat},x=i→S'.cell c x=some (.int .i64 (l[i]:Nat)):=fun hr i hi x hx=>by
  rw[hr.cell hc i (by rw[jG];omega) hx];exact zio hi
 apply zgj
 unfold fk
 refine qc (fun J=>J [.int .i64 0,.slice none 0 0] S) ?_ fun J hJ=>?_
 rotate_left
 ·rw[if_neg (by simp)]
  by_cases h1:form=1
  ·rw[if_neg (fun h=>h h1)];exact hJ
  ·rw[if_pos h1,if_neg (by omega)];exact hJ
 refine⟨rfl,?_⟩
 simp only[jn]
 refine zX (fun (z:Int×List Value) S'=>∃ (i:Nat) (v:List Value),z=((i:Int),v)∧v.length=2∧i≤5∧Mv S ρ S' ρ (· = 2)∧StoreD S' ρ m N (clrD d (l.take i))∧Rw S' ρ r 1 t (nL l)) (fun z=>5-z.1.toNat) ?_ ⟨0,_,rfl,rfl,by omega,Mv.refl hg,h,hrow⟩
 rintro X z S1 ⟨i,v,rfl,hv,hi,m1,hs1,hr1⟩ ih
 dsimp only at ih ⊢
 refine⟨hv,?_⟩
 by_cases hlt:(i:Int)<((5:Nat):Int)
 ·rw[if_pos hlt,zah]
  refine⟨by omega,hlt,?_⟩
  have hil:i<l.length:=by omega
  rw[Int.toNat_natCast,zY (hget hr1 i hil (by omega))]
  refine clearD hs1 m1.rg (hl _ (List.getElem_mem hil)) fun S2 m2 hs2=>?_
  rw[if_neg (by decide),w64 (by omega) (by omega)]
  refine ih _ S2 ⟨i+1,v,rfl,hv,by omega,m1.trans m2,?_,hr1.keep m2 hr⟩ (by dsimp only;omega)
  have e:clrD d (l.take (i+1))=upd (clrD d (l.take i)) l[i] noughts:=by
   unfold clrD
   rw[List.take_succ_eq_append_getElem hil,List.foldl_append];rfl
  rw[e];exact hs2
 ·rw[if_neg hlt]
  have h5i:i=5:=by omega
  subst h5i
  refine⟨hv,by decide,by decide,by show ((5:Nat):Int)≤(t.c:Int);omega,?_⟩
  have es:slc 1 ⟨some (c,0),5,t.c⟩ 1 ((5:Nat):Int)=⟨some (c,1),4,t.c-1⟩:=by
   unfold slc
   have e1:(1:Int).toNat=1:=rfl
   simp only[e1]
   rw[if_neg (by omega)];rfl
  show lp _ 0 S1
  refine zX (fun (z:Int) S'=>∃ i:Nat,z=(i:Int)∧i≤4∧Mv S ρ S' ρ (· = 2)∧StoreD S' ρ m N (rootD (clrD d (l.take 5)) form ((l.take 5).getD 0 0) (l.take 5) i)∧Rw S' ρ r 1 t (nL l)) (fun z=>4-z.toNat) ?_ ⟨0,rfl,by omega,m1,hs1,hr1⟩
  rintro Y z S2 ⟨j,rfl,hj,m2,hs2,hr2⟩ ih2
  rw[es]
  have e0:(l.take 5).getD 0 0=l[0]:=by rw[List.getD_eq_getElem?_getD,List.getElem?_take,if_pos (by decide),List.getElem?_eq_getElem (by omega)];rfl
  by_cases hlt2:(j:Int)<((4:Nat):Int)
  ·rw[if_pos hlt2,zah]
   have hjl:j+1<l.length:=by omega
   refine⟨by omega,hlt2,?_⟩
   rw[Int.toNat_natCast,zY (hget hr2 (j+1) hjl (by omega)),zah]
   refine⟨by decide,?_⟩
   rw[zY (hget hr2 0 (by omega) rfl)]
   have hf1:=hl _ (List.getElem_mem hjl)
   have hf0:=hl _ (List.getElem_mem (show 0<l.length by omega))
   refine zcb (by omega) ?_
   refine⟨hget hr2 0 (by omega) rfl,?_⟩
   refine saveD hs2 m2.rg (by omega) (znL (by omega)).1 fun e S3 m3 hs3=>?_
   rw[if_pos hf0] at hs3
   rw[w64 (by omega) (by omega)]
   refine ih2 _ S3 ⟨j+1,rfl,by omega,m2.trans m3,?_,hr2.keep m3 hr⟩ (by omega)
   have e1:(l.take 5).getD (j+1) 0=l[j+1]:=by rw[List.getD_eq_getElem?_getD,List.getElem?_take,if_pos (by omega),List.getElem?_eq_getElem (by omega)];rfl
   rw[rootD,e1,e0]
   rw[e0] at hs3
   exact hs3
  ·rw[if_neg hlt2]
   have:j=4:=by omega
   subst this
   have hnl5:(nL (l.take 5)).length=5:=by rw[jG,List.length_take];omega
   refine⟨nL (l.take 5),.inr ⟨c,0,rfl,?_⟩,?_,?_⟩
   ·show S2.part c 0 (5*1)=_
    rw[hr2.part hc 0 (by rw[jG];omega) rfl]
    have e:nL l=nL (l.take 5)++nL (l.drop 5):=by unfold nL;rw[←List.map_append,List.take_append_drop]
    have e2:5*1=(nL (l.take 5)).length:=by rw[hnl5]
    rw[e,e2,ki (by omega),zk rfl]
   ·unfold nL;rw[List.all_map];exact List.all_eq_true.2 fun x _=>rfl
   ·refine zlm (m:=5) (by rw[hnl5]) rfl (by decide) fun t' S3 _ hrow3 hk3 hf3=>?_
    refine hQ t' S3 (m2.trans (Mv.keeps m2.rg hk3)) (hs2.keeps hk3) hrow3 fun b o hb=>?_
    have hb2:=hf3 b o hb
    refine⟨?_,?_⟩
    ·cases hs:S b with
     | none=>rfl
     | some k=>exact absurd hb2 (m2.al b (by rw[hs];simp))
    ·cases hq:ρ b with
     | none=>rfl
     | some q=>exact absurd hb2 (m2.rg b q hq)
end
end Go.Proofs.YtabdpmnhjlmnlaaGreatDoor
end
section
namespace Go.Cr
open Go Go.Pt
theorem zdp {N:Nat}:∀ {i k:Nat} {u u':Nat→Bool} {l:List Nat},takeN N (i+k) u=some (l,u')→∃ u1,takeN N i u=some (l.take i,u1)∧takeN N k u1=some (l.drop i,u')
 | 0,k,u,u',l,h=>by
  rw[Nat.zero_add] at h
  exact⟨u,by simp[takeN],by simpa using h⟩
 | i+1,k,u,u',l,h=>by
  rw[show i+1+k=(i+k)+1 by omega] at h
  simp only[takeN] at h
  cases h1:firstOff u N with
  | none=>rw[h1] at h;cases h
  | some f=>
   rw[h1] at h
   dsimp only at h
   cases h2:takeN N (i+k) (upd u f true) with
   | none=>rw[h2] at h;cases h
   | some q=>
    obtain⟨l2,u2⟩:=q
    rw[h2] at h
    simp only[Option.some.injEq,Prod.mk.injEq] at h
    obtain⟨rfl,rfl⟩:=h
    obtain⟨u1,h3,h4⟩:=zdp h2
    refine⟨u1,?_,by simpa using h4⟩
    have e:takeN N (i+1) u=(match firstOff u N with
     | none=>none
     | some f=>match takeN N i (upd u f true) with
      | none=>none
      | some (l,u')=>some (f :: l,u')):=rfl
    rw[e]
    simp only[h1,h3]
    rfl
theorem ziE {N k:Nat} {u u':Nat→Bool} {f:Nat} {l:List Nat} (h:takeN N (k+1) u=some (f :: l,u')):firstOff u N=some f∧takeN N k (upd u f true)=some (l,u'):=by
 simp only[takeN] at h
 cases h1:firstOff u N with
 | none=>rw[h1] at h;cases h
 | some g=>
  rw[h1] at h
  dsimp only at h
  cases h2:takeN N k (upd u g true) with
  | none=>rw[h2] at h;cases h
  | some q=>
   obtain⟨l2,u2⟩:=q
   rw[h2] at h
   simp only[Option.some.injEq,Prod.mk.injEq,List.cons.injEq] at h
   obtain⟨⟨rfl,rfl⟩,rfl⟩:=h
   exact⟨rfl,h2⟩
end Go.Cr
namespace Go.Proofs.YtabdpmnhjlmnlaaGreatDoor
open Go Go.Pt Go.Cr Go.Hp
structure ImgAt (S:Mem) (ρ:Rho) (s:Sl) (xs:List Int):Prop where
 len:xs.length=s.n
 cap:s.n≤s.c
 byt:Byt xs
 lie:xs=[]∨∃ b o,s.p=some (b,o)∧S.part b o xs.length=some (bL xs)∧ρ b=none∧S b≠none
section
variable {S S':Mem} {ρ ρ':Rho} {R:Nat→Prop} {h:Nat} {A:Ad} {C:Cst} {W:Wd} {φ:Nat→Nat→Nat}
theorem ImgAt.mv {s:Sl} {xs:List Int} (hi:ImgAt S ρ s xs) (m:Mv S ρ S' ρ' R):ImgAt S' ρ' s xs:=by
 refine⟨hi.len,hi.cap,hi.byt,hi.lie.imp id fun⟨b,o,h1,h2,h3,h4⟩=>?_⟩
 have e:S' b=S b:=m.kp b h4 fun r e=>by rw[h3] at e;cases e
 refine⟨b,o,h1,?_,?_,by rw[e];exact h4⟩
 ·obtain⟨k,e1,e2⟩:=zeL h2
  rw[yu (by rw[e];exact e1)];exact e2
 ·cases hq:ρ' b with
  | none=>rfl
  | some r=>have:=m.old b r hq h4;rw[h3] at this;cases this
theorem kj {r size:Nat} {t:Sl} {l:List Value} (m:Mv S ρ S' ρ' R) (hrow:Row S' size t l) (hf:∀ b o,t.p=some (b,o)→S b=none∧ρ' b=none) (h0:S 0≠none) :
  ∃ ρ'',Mv S ρ S' ρ'' R∧Wide S' ρ' ρ''∧Rw S' ρ'' r size t l∧∀ x,(∀ o,t.p≠some (x,o))→ρ'' x=ρ' x:=by
 rcases hrow.lie with ⟨h1,_⟩ | ⟨b,k,h1,h2,_⟩
 ·exact⟨ρ',m,⟨fun _ _ h=>h,m.rg,fun h=>h⟩,⟨hrow,fun b o h=>by rw[h1] at h;cases h⟩,fun _ _=>rfl⟩
 ·obtain⟨hb,hb2⟩:=hf b 0 h1
  have hs:S' b≠none:=by rw[h2];simp
  refine⟨ρ'.upd b r,⟨fun x q e=>?_,fun x q e hx=>?_,m.kp,m.al,fun x q e=>?_⟩,⟨fun x q e=>?_,fun x q e=>?_,fun e=>?_⟩,⟨hrow,fun b' o h=>by rw[h1] at h;cases h;exact qU⟩,fun x hx=>?_⟩
  ·rw[yn (fun e2=>by have:=m.ext x q e;rw[e2,hb2] at this;cases this)];exact m.ext x q e
  ·rw[yn (fun e2=>hx (by rw[e2];exact hb))] at e;exact m.old x q e hx
  ·by_cases e2:x=b
   ·rw[e2];exact hs
   ·rw[yn e2] at e;exact m.rg x q e
  ·rw[yn (fun e2=>by rw[e2,hb2] at e;cases e)];exact e
  ·by_cases e2:x=b
   ·rw[e2];exact hs
   ·rw[yn e2] at e;exact m.rg x q e
  ·rw[yn (fun e2=>h0 (by rw[e2];exact hb))];exact e
  ·exact yn fun e=>hx 0 (by rw[e];exact h1)
theorem Wide.trans {ρ'':Rho} (h1:Wide S ρ ρ') (h2:Wide S ρ' ρ''):Wide S ρ ρ'':=⟨fun b r e=>h2.ext b r (h1.ext b r e),h2.rg,fun e=>h2.g0 (h1.g0 e)⟩
theorem zig {b:Nat} (hb:S b=some (bw 5 (bL noughts))):Row S 1 (pg b) (bL noughts):=by
 have hl:(bL noughts).length=256:=by unfold bL;rw[List.length_map];exact qI
 refine⟨by rw[hl];rfl,Nat.le_refl _,.inr ⟨b,_,rfl,hb,rfl,?_,?_⟩⟩
 ·show (bL noughts).length=256*1;rw[hl]
 ·show (bL noughts).take (256*1)=_
  exact List.take_of_length_le (by rw[hl];decide)
theorem pagesLoop {n:Nat} (hn:n<6) {seats quota:Int} (hwk:WOk W) (hoff:(W.vm n).on=false) {pages:Nat} (hp:pages≤32) (hpq:(pages:Int)≤quota) {img:Sl} {xs:List Int} {t:Sl} {l:List Nat} {c:Nat} {u:Nat→Bool} (hll:l.length=5+pages) (hlN:∀ f∈l,f<C.N)
  (hcC:CrabA S ρ h A C) (hu:C.used=u) {u0:Nat→Bool} (htk:takeN C.N pages u0=some (l.drop 5,u)) (hrel:Rel { C with used:=u0 } (W.newV n seats quota) φ)
  (hrow:Rw S ρ 102 1 t (nL l)) (hc:t.p=some (c,0)) (himg:ImgAt S ρ img xs) (hil:(xs.length:Int)≤1000000) {Q:Mem→Prop}
  (hQ:∀ S',After h A C S ρ (W.newP n seats quota xs pages) S'→Q S') :
  lp (fun (Xx:Int→Mem→Prop) (t_15:Int) (Sx_11:Mem)=>
   if t_15<((slc 1 t 5 (t.n:Int)).n:Int) then
    sl (slc 1 t 5 (t.n:Int)) fun b_5 o_4 n_1 n_2=>
    0≤t_15∧t_15<((n_1:Nat):Int) ∧
    gI (Sx_11.cell b_5 (o_4+t_15.toNat*1)) .i64 fun t_16=>
    crab_Crab_own Sx_11 (some (h,0)) n t_15 t_16 fun Sx_12=>
    if IntKind.i64.wrap (256*t_15)<(img.n:Int) then
     gP (Sx_12.cell h 0) fun t_17=>
     (0:Int)≤IntKind.i64.wrap (256*t_15)∧(IntKind.i64.wrap (256*t_15):Int)≤(if (img.n:Int)<IntKind.i64.wrap ((IntKind.i64.wrap (256*t_15))+256) then (img.n:Int) else IntKind.i64.wrap ((IntKind.i64.wrap (256*t_15))+256))∧(if (img.n:Int)<IntKind.i64.wrap ((IntKind.i64.wrap (256*t_15))+256) then (img.n:Int) else IntKind.i64.wrap ((IntKind.i64.wrap (256*t_15))+256))≤(img.c:Int) ∧
     lt (slc 1 img (IntKind.i64.wrap (256*t_15)) (if (img.n:Int)<IntKind.i64.wrap ((IntKind.i64.wrap (256*t_15))+256) then (img.n:Int) else IntKind.i64.wrap ((IntKind.i64.wrap (256*t_15))+256))) fun t_18=>
     qp Sx_12 t_17 t_16 0 t_18 fun t_19 Sx_13=>
     Xx (IntKind.i64.wrap (t_15+1)) Sx_13
    else
    Xx (IntKind.i64.wrap (t_15+1)) Sx_12
   else Q Sx_11) 0 S:=by
 have htn:=hrow.n (by decide) (jG l)
 have hcap:=hrow.row.cap
 have es:slc 1 t 5 (t.n:Int)=if t.c=5 then ⟨some (c,0),pages,t.c-5⟩ else ⟨some (c,5),pages,t.c-5⟩:=by
  unfold slc
  rw[hc]
  have e1:(5:Int).toNat=5:=rfl
  have e2:((t.n:Int)-5).toNat=pages:=by omega
  rw[e1,e2]
  split <;> rfl
 have hN:=hcC.st.lim
 refine zX (fun (z:Int) S'=>∃ (i:Nat) (ρ':Rho) (A':Ad) (C':Cst) (φ':Nat→Nat→Nat) (ui:Nat→Bool),z=(i:Int)∧i≤pages∧Mv S ρ S' ρ' Rc∧CrabA S' ρ' h A' C'∧C'.used=u∧Kp C C'∧A'.t=A.t∧A'.m=A.m∧A'.x=A.x∧takeN C.N (pages-i) ui=some (l.drop (5+i),u)∧Rel { C' with used:=ui } (W.newP n seats quota xs i) φ'∧Rw S' ρ' 102 1 t (nL l)) (fun z=>pages-z.toNat) ?_
  ⟨0,ρ,A,C,φ,u0,rfl,by omega,Mv.refl hcC.rg,hcC,hu,Kp.refl,rfl,rfl,rfl,by simpa using htk,by rw[zkz];exact hrel,hrow⟩
 rintro X z S1 ⟨i,ρ1,A1,C1,φ1,ui,rfl,hi,m1,hc1,hu1,kp1',ht1,hm1,hx1,htk1,hr1,hrow1⟩ ih
 by_cases hlt:(i:Int)<((slc 1 t 5 (t.n:Int)).n:Int)
 ·rw[if_pos hlt]
  have hip:i<pages:=by rw[es] at hlt;split at hlt <;> (dsimp only at hlt;omega)
  have htc:¬t.c=5:=by omega
  rw[if_neg htc] at es
  rw[es,zah]
  refine⟨by omega,by omega,?_⟩
  have h5i:5+i<l.length:=by omega
  rw[Int.toNat_natCast,zY (by rw[hrow1.cell hc (5+i) (by rw[jG];omega) (by omega)];exact zio h5i)]
  have hdrop:l.drop (5+i)=l[5+i] :: l.drop (5+(i+1)):=by rw[List.drop_eq_getElem_cons h5i];rfl
  rw[show pages-i=(pages-(i+1))+1 by omega,hdrop] at htk1
  obtain⟨hff,htk2⟩:=ziE htk1
  have hfN:l[5+i]<C1.N:=by rw[kp1'.N];exact hlN _ (List.getElem_mem h5i)
  have hcs:=hr1.csize
  have hcs':C1.cache.length≤100:=by have:C1.cache.length≤8:=hcs;omega
  have hon:((W.newP n seats quota xs i).vm n).on=true:=by
   show (upd W.vm n _ n).on=true
   rw[zq];rfl
  have hq:((W.newP n seats quota xs i).vm n).quota=quota:=by
   show (upd W.vm n _ n).quota=_
   rw[zq];rfl
  have hpg:=zjd hwk hoff (seats:=seats) (quota:=quota) (img:=xs) (i:=i)
  have hrp:=hr1.page (n:=n) (p:=i) (f:=l[5+i]) himg.byt hon (by omega) (zjc hwk hoff (Nat.le_refl i)) (by rw[hq];omega) (by show firstOff ui C1.N=_;rw[kp1'.N];exact hff)
  rw[zkA] at hrp
  refine zik hc1 hn (by omega) hfN hcs' fun S2 ρ2 cs m2 hc2=>?_
  have hrow2:Rw S2 ρ2 102 1 t (nL l):=hrow1.keep m2 (by decide)
  have m12:Mv S ρ S2 ρ2 Rc:=m1.trans (m2.mono fun r hr=>by unfold Rc;omega)
  have himg2:=himg.mv m12
  have hlen:=himg.len
  have hicap:=himg.cap
  rw[w64 (x:=256*(i:Int)) (by omega) (by omega),w64 (x:=256*(i:Int)+256) (by omega) (by omega),w64 (x:=(i:Int)+1) (by omega) (by omega)]
  by_cases hat:256*(i:Int)<(img.n:Int)
  ·rw[if_pos hat,qP hc2.c0]
   have hpl:(partB xs i).length=min 256 (xs.length-256*i):=by unfold partB;rw[List.length_take,List.length_drop]
   rw[if_pos (by omega)] at hrp
   generalize hmx:(if (img.n:Int)<256*(i:Int)+256 then (img.n:Int) else 256*(i:Int)+256)=mx
   have hmx2:mx=256*(i:Int)+(partB xs i).length:=by
    rw[←hmx,hpl]
    split <;> omega
   refine⟨by omega,by omega,by omega,?_⟩
   rcases himg2.lie with h0 | ⟨b,o,hb1,hb2,hb3,hb4⟩
   ·rw[h0] at hlen;simp at hlen;omega
   have eimg:slc 1 img (256*(i:Int)) mx=⟨some (b,o+256*i),(partB xs i).length,img.c-256*i⟩:=by
    unfold slc
    rw[hb1]
    have e1:(256*(i:Int)).toNat=256*i:=by omega
    have e2:(mx-256*(i:Int)).toNat=(partB xs i).length:=by omega
    rw[e1,e2,if_neg (by omega)]
    simp
   show qp S2 (some (A1.m,0)) l[5+i] 0 (slc 1 img (256*(i:Int)) mx) _
   rw[eimg]
   have hpart:S2.part b (o+256*i) ((partB xs i).length*1)=some (bL (partB xs i)):=by
    obtain⟨k,e1,e2⟩:=zeL hb2
    have e3:=qG e2
    rw[yu e1,qJ (by omega)]
    refine congrArg some ?_
    have e4:(k.cs.drop o).take xs.length=bL xs:=e3.2.1
    unfold partB
    have e5:bL ((xs.drop (256*i)).take 256)=((bL xs).drop (256*i)).take 256:=by unfold bL;rw[List.map_take,List.map_drop]
    rw[e5,←e4]
    apply List.ext_getElem?
    intro j
    simp only[List.getElem?_take,List.getElem?_drop,List.length_take,List.length_drop,Nat.mul_one]
    by_cases hj:j<min 256 (xs.length-256*i)
    ·rw[if_pos hj,if_pos (by omega),if_pos (by omega)]
     exact congrArg (fun x=>k.cs[x]?) (by omega)
    ·rw[if_neg hj]
     by_cases hj2:j<256
     ·rw[if_pos hj2,if_neg (by omega)]
     ·rw[if_neg hj2]
   have hbp:Byt (partB xs i):=fun x hx=>himg.byt x (List.mem_of_mem_drop (List.mem_of_mem_take hx))
   refine writeD hc2.st hc2.rg (off:=0) hfN ⟨b,_,rfl,hpart⟩ rfl (fun e=>by rw[e] at hpl;simp at hpl;omega) (by omega) hbp fun S3 m3 hs3=>?_
   have hc3:=hc2.setStore m3 hs3
   refine ih _ S3 ⟨i+1,ρ2,{ A1 with cs:=cs },_,_,upd ui l[5+i] true,rfl,by omega,m12.trans (m3.mono fun r hr=>by unfold Rc;omega),hc3,hu1,kp1'.trans kp1,ht1,hm1,hx1,?_,hrp,hrow2.keep m3 (by decide)⟩ (by omega)
   rw[show pages-(i+1)=pages-(i+1) from rfl]
   exact htk2
  ·rw[if_neg hat]
   rw[if_neg (by omega)] at hrp
   exact ih _ S2 ⟨i+1,ρ2,{ A1 with cs:=cs },_,_,upd ui l[5+i] true,rfl,by omega,m12,hc2,hu1,kp1'.trans kp1,ht1,hm1,hx1,htk2,hrp,hrow2⟩ (by omega)
 ·rw[if_neg hlt]
  have hie:i=pages:=by rw[es] at hlt;split at hlt <;> (dsimp only at hlt;omega)
  subst hie
  rw[Nat.sub_self] at htk1
  simp only[takeN,Option.some.injEq,Prod.mk.injEq] at htk1
  have hr2:Rel C1 (W.newP n seats quota xs i) φ1:=by
   have e:({ C1 with used:=ui }:Cst)=C1:=by rw[htk1.2,←hu1]
   rw[e] at hr1;exact hr1
  exact hQ S1 ⟨ρ1,A1,C1,φ1,m1,hc1,hr2,kp1',ht1,fun j=>by rw[hx1]⟩
end
end Go.Proofs.YtabdpmnhjlmnlaaGreatDoor
end
section
namespace Go.Proofs.YtabdpmnhjlmnlaaGreatDoor
open Go Go.Pt Go.Cr Go.Hp
structure Kc (C C':Cst):Prop where
 N:C'.N=C.N
 form:C'.form=C.form
 region:C'.region=C.region
 turns:C'.turns=C.turns
 now:C'.now=C.now
theorem Kc.refl {C:Cst}:Kc C C:=⟨rfl,rfl,rfl,rfl,rfl⟩
theorem Kc.trans {C C' C'':Cst} (h:Kc C C') (k:Kc C' C''):Kc C C'':=⟨k.N.trans h.N,k.form.trans h.form,k.region.trans h.region,k.turns.trans h.turns,k.now.trans h.now⟩
theorem Kp.kc {C C':Cst} (h:Kp C C'):Kc C C':=⟨h.N,h.form,h.region,h.turns,h.now⟩
def Aft (h:Nat) (C:Cst) (S:Mem) (ρ:Rho) (W':Wd) (S':Mem):Prop:=∃ ρ' A' C' φ',Mv S ρ S' ρ' Rc∧CrabA S' ρ' h A' C'∧Rel C' W' φ'∧Kc C C'
section
variable {S S':Mem} {ρ ρ':Rho} {R:Nat→Prop} {h:Nat} {A:Ad} {C:Cst} {W:Wd} {φ:Nat→Nat→Nat}
theorem After.aft {W':Wd} (hA:After h A C S ρ W' S'):Aft h C S ρ W' S':=by
 obtain⟨ρ',A',C',φ',m,hc,hr,kp,_⟩:=hA
 exact⟨ρ',A',C',φ',m,hc,hr,kp.kc⟩
theorem zhy (hwk:WOk W) {n:Nat} (hoff:(W.vm n).on=false) {seats quota:Int} {xs:List Int} {pages:Nat}:W.newP n seats quota xs pages = { W with free:=W.free-(5+(pages:Int)),vm:=upd W.vm n (mkV seats quota),time:=upd W.time n 0,ev:=upd W.ev n [],own:=upd W.own n fun p=>if (p:Int)<pages then some (pageB xs p) else none }:=by
 have h0:=(hwk.off n hoff).2.1
 have key:∀ (a b:Int) (o o':Nat→Nat→Option (List Int)),a=b→o=o'→({ W.newV n seats quota with free:=a,own:=o }:Wd) = { W.newV n seats quota with free:=b,own:=o' }:=by
  rintro a b o o' rfl rfl;rfl
 refine key _ _ _ _ (by omega) ?_
 congr 1
 funext p
 by_cases e:p<pages
 ·rw[if_pos e,if_pos (by omega)]
 ·rw[if_neg e,if_neg (by omega)];exact h0 p
theorem slc5 {t:Sl} {c:Nat} (hc:t.p=some (c,0)) (h:5≤t.c):slc 1 t 0 5=⟨some (c,0),5,t.c⟩:=by
 unfold slc
 rw[hc]
 have e1:(0:Int).toNat=0:=rfl
 have e2:((5:Int)-0).toNat=5:=rfl
 rw[e1,e2,if_neg (by omega)]
 simp
theorem zih {w:Nat} {s:Sl} {l:List Value} (h:Row S w s l) (m:Mv S ρ S' ρ' R) (hr:∀ b o,s.p=some (b,o)→ρ b=none):Row S' w s l:=
 h.keep fun b hb=>by
  rcases h.lie with ⟨h1,_⟩ | ⟨b',k,h1,h2,_⟩
  ·rw[h1] at hb;cases hb
  ·rw[h1] at hb;cases hb
   exact m.kp b (by rw[h2];simp) fun r e=>by rw[hr b 0 h1] at e;cases e
theorem give6 {n w1:Nat} {ss t:Sl} {b0 b1 b2 b3:Nat} {L1 L2:List Value} (m:Mv S ρ S' ρ' R) (h0:S 0≠none) (hs:Row S' w1 ss L1) (hsf:∀ b o,ss.p=some (b,o)→S b=none∧ρ' b=none) (ht:Row S' 1 t L2) (htf:∀ b o,t.p=some (b,o)→S b=none∧ρ' b=none)
  (hb:∀ b∈[b0,b1,b2,b3],S b=none∧ρ' b=none∧S' b=some (bw 5 (bL noughts))) (hnd:[b0,b1,b2,b3].Nodup) (hsb:∀ b o,ss.p=some (b,o)→b∉[b0,b1,b2,b3]) (htb:∀ b o,t.p=some (b,o)→b∉[b0,b1,b2,b3]) (hst:∀ b o o',ss.p=some (b,o)→t.p≠some (b,o')) :
  ∃ ρ'',Mv S ρ S' ρ'' R∧Wide S' ρ' ρ''∧Rw S' ρ'' (30+n) w1 ss L1∧Rw S' ρ'' (40+n) 1 t L2∧Rw S' ρ'' (60+4*n+0) 1 (pg b0) (bL noughts)∧Rw S' ρ'' (60+4*n+1) 1 (pg b1) (bL noughts)∧Rw S' ρ'' (60+4*n+2) 1 (pg b2) (bL noughts)∧Rw S' ρ'' (60+4*n+3) 1 (pg b3) (bL noughts):=by
 simp only[List.nodup_cons,List.mem_cons,List.not_mem_nil,or_false,not_or,not_false_eq_true,List.nodup_nil,and_true] at hnd
 obtain⟨⟨n01,n02,n03⟩,⟨n12,n13⟩,n23⟩:=hnd
 have B0:=hb b0 (by simp)
 have B1:=hb b1 (by simp)
 have B2:=hb b2 (by simp)
 have B3:=hb b3 (by simp)
 have pgne:∀ {a b:Nat},a≠b→∀ o,(pg a).p≠some (b,o):=fun h o e=>by cases e;exact h rfl
 obtain⟨ρ1,m1,w1',r1,k1⟩:=kj (r:=60+4*n+0) m (zig B0.2.2) (fun b o e=>by cases e;exact⟨B0.1,B0.2.1⟩) h0
 obtain⟨ρ2,m2,w2,r2,k2⟩:=kj (r:=60+4*n+1) m1 (zig B1.2.2) (fun b o e=>by cases e;exact⟨B1.1,by rw[k1 _ (pgne n01)];exact B1.2.1⟩) h0
 obtain⟨ρ3,m3,w3,r3,k3⟩:=kj (r:=60+4*n+2) m2 (zig B2.2.2) (fun b o e=>by cases e;exact⟨B2.1,by rw[k2 _ (pgne n12),k1 _ (pgne n02)];exact B2.2.1⟩) h0
 obtain⟨ρ4,m4,w4,r4,k4⟩:=kj (r:=60+4*n+3) m3 (zig B3.2.2) (fun b o e=>by cases e;exact⟨B3.1,by rw[k3 _ (pgne n23),k2 _ (pgne n13),k1 _ (pgne n03)];exact B3.2.1⟩) h0
 have kk:∀ x,x∉[b0,b1,b2,b3]→ρ4 x=ρ' x:=fun x hx=>by
  simp only[List.mem_cons,List.not_mem_nil,or_false,not_or] at hx
  rw[k4 _ (pgne (Ne.symm hx.2.2.2)),k3 _ (pgne (Ne.symm hx.2.2.1)),k2 _ (pgne (Ne.symm hx.2.1)),k1 _ (pgne (Ne.symm hx.1))]
 obtain⟨ρ5,m5,w5,r5,k5⟩:=kj (r:=30+n) m4 hs (fun b o e=>⟨(hsf b o e).1,by rw[kk b (hsb b o e)];exact (hsf b o e).2⟩) h0
 obtain⟨ρ6,m6,w6,r6,k6⟩:=kj (r:=40+n) m5 ht (fun b o e=>⟨(htf b o e).1,by rw[k5 b fun o' e'=>hst b o' o e' e,kk b (htb b o e)];exact (htf b o e).2⟩) h0
 have w56:=Wide.trans w5 w6
 have w46:=Wide.trans w4 w56
 have w36:=Wide.trans w3 w46
 have w26:=Wide.trans w2 w36
 exact⟨ρ6,m6,Wide.trans w1' w26,wRw w6 r5,r6,wRw w26 r1,wRw w36 r2,wRw w46 r3,wRw w56 r4⟩
set_option maxHeartbeats 1000000 in
theorem zei (hc:CrabA S ρ h A C) (hr:Rel C W φ) {seats quota pages:Int} {img:Sl} {xs:List Int} (himg:ImgAt S ρ img xs) (hil:xs.length≤1000000) {Q:Int→Int→Mem→Prop}
  (hQ:∀ S',Aft h C S ρ (W.create seats quota pages xs).2.2 S'→Q (W.create seats quota pages xs).1 (W.create seats quota pages xs).2.1 S'):yI S (some (h,0)) seats quota pages img Q:=by
 have hlen:=himg.len
 apply zbm
 unfold wE
 unfold Wd.create at hQ
 by_cases hbad:seats<1∨3<seats∨quota<1∨32<quota
 ·rw[if_pos (by omega)] at hQ
  refine zlX hbad fun t ht=>⟨ht,?_⟩
  simp only[jn]
  rw[if_neg (by simp),if_pos (by decide)]
  exact hQ S (After.here hc hr).aft
 obtain⟨sn,rfl⟩:∃ m:Nat,seats=m:=⟨seats.toNat,by omega⟩
 refine zkG (by omega) (by omega) (by omega) (by omega) fun ss b0 b1 b2 b3 S1 hM=>?_
 have hk1:=hM.pages.keep
 have hc1:=hc.keeps hk1
 refine⟨rfl,?_⟩
 refine qc (fun J=>¬(pages<1∨quota<pages)→¬256*pages<xs.length→J S1) ?_ fun J hJ=>?_
 rotate_left
 ·rw[if_neg (by simp),if_neg (by decide)]
  by_cases hp1:pages<1
  ·rw[if_pos (by omega)] at hQ
   rw[if_pos hp1];exact hQ S1 (After.keeps hc hr hk1).aft
  rw[if_neg hp1]
  by_cases hp2:quota<pages
  ·rw[if_pos (by omega)] at hQ
   rw[if_pos hp2];exact hQ S1 (After.keeps hc hr hk1).aft
  rw[if_neg hp2,w64 (by omega) (by omega)]
  by_cases hp3:256*pages<xs.length
  ·rw[if_neg (by omega),if_pos hp3] at hQ
   rw[if_pos (by omega)];exact hQ S1 (After.keeps hc hr hk1).aft
  ·rw[if_neg (by omega)]
   exact hJ (by omega) hp3
 intro hp12 hp3
 rw[if_neg (by omega),if_neg hp3] at hQ
 obtain⟨pn,rfl⟩:∃ m:Nat,pages=m:=⟨pages.toNat,by omega⟩
 have hvm:C.vm=W.vm:=hr.vm
 refine qc (fun J=>(∀ n:Nat,firstOff (fun n=>(W.vm n).on) 6=some n→J n S1)∧(firstOff (fun n=>(W.vm n).on) 6=none→J 6 S1)) ?_ fun J hJ=>?_
 rotate_left
 ·refine zX (fun (z:Int) S'=>∃ i:Nat,z=(i:Int)∧i≤6∧S'=S1∧∀ j,j<i→(W.vm j).on=true) (fun z=>6-z.toNat) ?_ ⟨0,rfl,by omega,rfl,fun _ h=>by omega⟩
  rintro X z S' ⟨i,rfl,hi,rfl,hall⟩ ih
  by_cases hlt:(i:Int)<6
  ·rw[if_pos hlt,qk,qP hc1.c3,qk]
   refine⟨by omega,hlt,?_⟩
   rw[Int.toNat_natCast,zaF (hc1.vcell (n:=i) (j:=0) (by omega) (by decide) (by omega)),hvm]
   cases hon:(W.vm i).on with
   | true=>
    rw[if_pos rfl,w64 (by omega) (by omega)]
    refine ih _ _ ⟨i+1,rfl,by omega,rfl,fun j hj=>?_⟩ (by omega)
    by_cases e:j=i
    ·subst e;exact hon
    ·exact hall j (by omega)
   | false=>
    rw[if_neg (by decide)]
    exact hJ.1 i (kD (by omega) hon hall)
  ·rw[if_neg hlt]
   have:i=6:=by omega
   subst this
   refine hJ.2 ?_
   cases hf:firstOff (fun n=>(W.vm n).on) 6 with
   | none=>rfl
   | some g=>
    obtain⟨a,b,_⟩:=qf hf
    rw[hall g a] at b;cases b
 constructor
 rotate_left
 ·intro hnone
  rw[hnone] at hQ
  simp only[jn]
  rw[if_pos trivial]
  exact hQ S1 (After.keeps hc hr hk1).aft
 intro n hfirst
 rw[hfirst] at hQ
 dsimp only at hQ
 obtain⟨hn,hoff,_⟩:=qf hfirst
 simp only[jn]
 rw[if_neg (by omega),qk,qP hc1.c1,w64 (by omega) (by omega)]
 have hleft:=hr.left
 have hfree:=hr.free
 have e5:5+(pn:Int)=((5+pn:Nat):Int):=by omega
 rw[e5]
 refine zgs hc1.pl hc1.rg (by omega) (n:=5+pn) (by omega) (r:=102) ⟨by decide,by decide,by decide⟩ (fun l u hnl htk t S2 ρ2 m2 hp2 hrow2=>?_) fun hbad2 S2 ρ2 left' m2 hl' _ hp2=>?_
 rotate_left
 ·have hfull:W.free<5+(pn:Int):=by
   rcases hbad2 with e | e
   ·omega
   ·have:=jB.1 e;omega
  rw[if_pos hfull] at hQ
  rw[if_pos (by decide)]
  have hc2:=hc1.setPool m2 (fun r hr=>hr.elim .inl fun h=>.inr (by omega)) hp2
  have e1:left'=C.left:=by rw[hl' hleft,hleft]
  rw[e1] at hc2
  exact hQ S2 ⟨ρ2,A,C,φ,(Mv.keeps hc.rg hk1).trans (m2.mono fun r hr=>by unfold R345 at hr;unfold Rc;omega),hc2,hr,Kc.refl⟩
 have hroom:¬W.free<5+(pn:Int):=by
  intro hlt
  have:=jB (N:=C.N) (k:=5+pn) (u:=C.used)
  rw[htk] at this
  exact absurd (this.2 (by omega)) (by simp)
 rw[if_neg hroom] at hQ
 rw[if_neg (by decide)]
 have hlv:leftN C.left (5+pn)=C.left:=by unfold leftN;rw[if_pos (by omega),hleft]
 rw[hlv] at hp2
 have hc2:=hc1.setPool m2 (fun r hr=>hr.elim .inl fun h=>.inr (by omega)) hp2
 obtain⟨hll,hlnd,hlfree,_,_⟩:=xZ htk
 have htn:=hrow2.n (by decide) (jG l)
 have htcap:=hrow2.row.cap
 obtain⟨c,ec1,ec2⟩:=hrow2.sl (by rw[jG];omega)
 obtain⟨u5,htk5,htkp⟩:=zdp (i:=5) (k:=pn) htk
 have hl5len:(l.take 5).length=5:=by rw[List.length_take];omega
 have hs5:=slc5 ec2 (by omega)
 refine⟨by decide,by omega,?_⟩
 rw[hs5]
 show lp _ 0 S2
 refine zX (fun (z:Int) S'=>∃ i:Nat,z=(i:Int)∧i≤5∧Mv S2 ρ2 S' ρ2 (· = 9)∧CrabA S' ρ2 h A { C with used:=u,own:=keepL C.own n (l.take i) }∧Rw S' ρ2 102 1 t (nL l)) (fun z=>5-z.toNat) ?_ ⟨0,rfl,by omega,Mv.refl hc2.rg,hc2,hrow2⟩
 rintro X z S3 ⟨i,rfl,hi,m3,hc3,hrow3⟩ ih
 by_cases hlt:(i:Int)<((5:Nat):Int)
 ·rw[if_pos hlt,zah]
  refine⟨by omega,hlt,?_⟩
  have hil2:i<l.length:=by omega
  rw[Int.toNat_natCast,zY (by rw[hrow3.cell ec2 i (by rw[jG];omega) (by omega)];exact zio hil2),qP hc3.c3,qk,qP hc3.t74]
  refine zeW hc3.ow hc3.rg (hlfree _ (List.getElem_mem hil2)).1 (by omega) fun e S4 m4 hs4=>?_
  rw[w64 (by omega) (by omega)]
  refine ih _ S4 ⟨i+1,rfl,by omega,m3.trans m4,?_,hrow3.keep m4 (by decide)⟩ (by omega)
  have e1:keepL C.own n (l.take (i+1))=keepC (keepL C.own n (l.take i)) l[i] n:=by
   unfold keepL
   rw[List.take_succ_eq_append_getElem hil2,List.foldl_append];rfl
  rw[e1]
  exact hc3.setOwn m4 hs4
 rw[if_neg hlt]
 have hi5:i=5:=by omega
 subst hi5
 rw[qP hc3.c0,qP hc3.c3,qk,zY hc3.tform]
 refine⟨by decide,by omega,?_⟩
 show fJ S3 (some (A.m,0)) C.form ⟨some (c,0),5,t.c⟩ _
 refine zjf hc3.st hc3.rg hr.form (by decide) hrow3 ec2 (by omega) (fun f hf=>(hlfree f hf).1) fun t' S4 m4 hs4 hrow4 hfr4=>?_
 have hc4:=hc3.setStore m4 hs4
 have hrow4l:=hrow3.keep m4 (by decide)
 refine⟨hc4.c3,rfl,?_⟩
 rw[qP hc4.c3,qk,zY hc4.tnow,qP hc4.c3,qk]
 refine⟨by omega,by omega,rfl,?_⟩
 have mS12:Mv S1 ρ S4 ρ2 Rc:=(m2.mono fun r hr=>by unfold R345 at hr;unfold Rc;omega).trans ((m3.mono fun r hr=>by unfold Rc;omega).trans (m4.mono fun r hr=>by unfold Rc;omega))
 have mS:Mv S ρ S4 ρ2 Rc:=(Mv.keeps hc.rg hk1).trans mS12
 have hnorole:∀ b,S b=none→ρ b=none:=fun b hb=>by
  cases hq:ρ b with
  | none=>rfl
  | some r=>exact absurd hb (hc.rg b r hq)
 have hnew:∀ b,S b=none→S1 b≠none→ρ2 b=none∧S4 b=S1 b:=fun b hb hb1=>by
  refine⟨?_,mS12.kp b hb1 fun r e=>by rw[hnorole b hb] at e;cases e⟩
  cases hq:ρ2 b with
  | none=>rfl
  | some r=>have:=mS12.old b r hq hb1;rw[hnorole b hb] at this;cases this
 have hss:∀ b o,ss.p=some (b,o)→S1 b≠none:=fun b o e=>by
  rcases hM.row.lie with ⟨h1,_⟩ | ⟨b',k,h1,h2,_⟩
  ·rw[h1] at e;cases e
  ·rw[h1] at e;cases e;rw[h2];simp
 have hS3grow:∀ b,S1 b≠none→S3 b≠none:=fun b hb=>m3.al b (m2.al b hb)
 obtain⟨ρ5,m5,w5,g1,g2,g3,g4,g5,g6⟩:=give6 (n:=n) mS (zck hc.gl) (zih hM.row mS12 fun b o e=>hnorole b (hM.fresh b o e).1) (fun b o e=>⟨(hM.fresh b o e).1,(hnew b (hM.fresh b o e).1 (hss b o e)).1⟩) hrow4 (fun b o e=>⟨by
   cases hs:S b with
   | none=>rfl
   | some k=>exact absurd (hfr4 b o e).1 (hS3grow b (by rw[hk1 b (by rw[hs];simp) (by simp),hs];simp)),(hfr4 b o e).2⟩)
  (fun b hb=>by
   obtain⟨h1,h2⟩:=hM.pages.at_ b hb
   have:=hnew b h1 (by rw[h2];simp)
   exact⟨h1,this.1,by rw[this.2];exact h2⟩) hM.pages.nodup (fun b o e=>(hM.fresh b o e).2)
  (fun b o e hb=>by
   have h1:=(hfr4 b o e).1
   exact hS3grow b (by rw[(hM.pages.at_ b hb).2];simp) h1)
  (fun b o o' e e'=>by
   have h1:=(hfr4 b o' e').1
   exact hS3grow b (hss b o e) h1)
 have hc5:=CrabA.wide w5 hc4
 have hrow5:=wRw w5 hrow4l
 generalize hdd:(fun j:Nat=>if j=0 then pg b0 else if j=1 then pg b1 else if j=2 then pg b2 else pg b3)=dd
 have hd0:dd 0=pg b0:=by rw[←hdd];rfl
 have hd1:dd 1=pg b1:=by rw[←hdd];rfl
 have hd2:dd 2=pg b2:=by rw[←hdd];rfl
 have hd3:dd 3=pg b3:=by rw[←hdd];rfl
 have hvn:VmP S4 ρ5 n ⟨ss,t',⟨none,0,0⟩,dd⟩ (mkV sn quota) (l.take 5):=⟨g1,zmY _,g2,Rw.nil,fun j hj=>by
  match j,hj with
  | 0,_=>show Rw _ _ _ _ (dd 0) _;rw[hd0];exact g3
  | 1,_=>show Rw _ _ _ _ (dd 1) _;rw[hd1];exact g4
  | 2,_=>show Rw _ _ _ _ (dd 2) _;rw[hd2];exact g5
  | 3,_=>show Rw _ _ _ _ (dd 3) _;rw[hd3];exact g6⟩
 have hcells:spl (spl (mk12 ss quota b0 b1 b2 b3) 2 (tbL C.form t')) 5 [.int .u64 C.now]=vmC ⟨ss,t',⟨none,0,0⟩,dd⟩ (mkV sn quota) C.form C.now:=by
  unfold vmC
  simp only[hd0,hd1,hd2,hd3]
  rfl
 rw[Int.toNat_natCast]
 show pt S4 A.t (0+2+n*12) 12 (spl (spl (mk12 ss quota b0 b1 b2 b3) 2 (tbL C.form t')) 5 [.int .u64 C.now]) _
 rw[hcells]
 refine zeg hc5 (j:=0) (vs:=vmC ⟨ss,t',⟨none,0,0⟩,dd⟩ (mkV sn quota) C.form C.now) (tf':=C.form) (late':=C.now) hn (by omega) rfl (by rw[zhc];decide) (zbZ (by rw[zhc,zhc])) hvn fun S6 m6 hc6=>?_
 refine⟨by omega,by omega,?_⟩
 refine hc6.hd.pt hc6.rg (vs:=[eL ⟨none,0,0⟩]) (5+n) rfl (by rw[fa];simp;omega) (by omega) fun S7 m7 h7=>?_
 rw[zkT hn] at h7
 have hc7:=hc6.setEv m7 (fun r hr=>.inl hr) (es:=upd A.es n ⟨none,0,0⟩) (ev:=upd C.ev n []) h7 fun i hi=>by
  by_cases e:i=n
  ·subst e;rw[zq,zq];exact Rw.nil
  ·rw[zo e,zo e];exact (hc6.ev i hi).keep m7 (by omega)
 have hrow7:=(hrow5.keep m6 (by decide)).keep m7 (by decide)
 have m57:Mv S ρ S7 ρ5 Rc:=m5.trans ((m6.mono fun r hr=>by unfold Rc;omega).trans (m7.mono fun r hr=>by unfold Rc;omega))
 have hrel0:=hr.newV (seats:=sn) (quota:=quota) hn hoff (by omega) (by omega) htk5
 have himg7:=himg.mv m57
 refine⟨by decide,by omega,by omega,?_⟩
 have hloop:=pagesLoop (C:={ C with used:=u,own:=keepL C.own n (l.take 5),dat:=makeD C.dat C.form (l.take 5),vm:=upd C.vm n (mkV sn quota),tf:=upd C.tf n C.form,late:=upd C.late n C.now,fr:=upd C.fr n (l.take 5),ev:=upd C.ev n [] }) (W:=W) (pages:=pn) (seats:=sn) (quota:=quota) (t:=t) (l:=l) (c:=c) (u:=u) (u0:=u5) (xs:=xs) (img:=img) (h:=h) hn hr.wk hoff (by omega) (by omega) hll (fun f hf=>(hlfree f hf).1) hc7 rfl htkp hrel0 hrow7 ec2 himg7 (by omega) (Q:=fun Sx=>Q n 0 Sx) fun S8 hA8=>?_
 ·exact hloop
 ·rw[zhy hr.wk hoff] at hA8
  obtain⟨ρ8,A8,C8,φ8,m8,hc8,hr8,kp8,_⟩:=hA8
  exact hQ S8 ⟨ρ8,A8,C8,φ8,m57.trans m8,hc8,hr8,⟨kp8.N,kp8.form,kp8.region,kp8.turns,kp8.now⟩⟩
end
end Go.Proofs.YtabdpmnhjlmnlaaGreatDoor
end
