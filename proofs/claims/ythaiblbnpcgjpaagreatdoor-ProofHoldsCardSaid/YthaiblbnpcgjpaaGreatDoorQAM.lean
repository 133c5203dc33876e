/- Texts of this work,joined by program (pack.py). -/
import Derived.Test.YthaiblbnpcgjpaaGreatDoorQAK
import Derived.Test.YthaiblbnpcgjpaaGreatDoorQAF
import Derived.Test.YthaiblbnpcgjpaaGreatDoorQAL
import Derived.Test.YthaiblbnpcgjpaaGreatDoorQAC
import Derived.Test.YthaiblbnpcgjpaaGreatDoorQAD
set_option linter.unusedVariables false
namespace Go.Cr
section
open Go Go.Pt
open Go.Proofs.YthaiblbnpcgjpaaGreatDoor
theorem wrapu (n:Int):IntKind.u64.wrap n=n%18446744073709551616:=by simp[IntKind.wrap,IntKind.bits,IntKind.signed]
theorem zpW (n:Int):W64 (IntKind.u64.wrap n):=by rw[wrapu];exact⟨by omega,by omega⟩
theorem zqy {x:Int} (h:W64 x) (k:Int):W64 (ishr .u64 x k):=by
 unfold ishr
 obtain⟨m,rfl⟩:∃ m:Nat,x=m:=⟨x.toNat,by have:=h.1;omega⟩
 have e:Int.fdiv (m:Int) (2 ^ min k.toNat IntKind.u64.bits)=((m/2 ^ min k.toNat IntKind.u64.bits:Nat):Int):=by
  rw[Int.fdiv_eq_ediv_of_nonneg _ (by exact Int.pow_nonneg (by decide))]
  rw[Int.natCast_ediv,Int.natCast_pow];rfl
 rw[e]
 have:=Nat.div_le_self m (2 ^ min k.toNat IntKind.u64.bits)
 have h2:=h.2
 generalize m/2 ^ min k.toNat IntKind.u64.bits=q at *
 exact⟨by omega,by omega⟩
theorem zrc {k b c:Int} (hb:W64 b):W64 (sumM k b c):=by
 unfold sumM
 repeat' split
 all_goals first | exact wU _ | exact zpW _ | exact zqy hb _
theorem zrn {s:Seat} (h:s.Ok) {time me n:Int} (ht:W64 time) (hm:0≤me∧me≤2):W64 (getR s time me n):=by
 have hk:=h.mask
 unfold getR
 split
 ·exact h.base
 split
 ·exact h.vec
 split
 ·exact h.epc
 split
 ·exact h.cause
 split
 ·exact h.addr
 split
 ·exact⟨by omega,by omega⟩
 split
 ·split <;> exact⟨by decide,by decide⟩
 split
 ·exact ht
 ·exact⟨by omega,by omega⟩
theorem zqf {s t:Seat} (h:s.Ok) {n v:Int} (hv:W64 v) (he:setR s n v=some t):t.Ok:=by
 unfold setR at he
 split at he
 ·cases he;exact { h with base:=hv }
 split at he
 ·cases he;exact { h with vec:=hv }
 split at he
 ·cases he;exact { h with epc:=hv }
 split at he
 ·cases he;exact { h with cause:=hv }
 split at he
 ·cases he;exact { h with addr:=hv }
 split at he
 ·cases he;exact { h with mask:=⟨by show 0≤v%256;omega,by show v%256≤255;omega⟩ }
 split at he
 ·cases he;exact { h with }
 ·cases he
theorem r_w {s:Seat} (h:s.Ok) {i:Int}:W64 (s.r i):=by
 unfold Seat.r
 rw[List.getD_eq_getElem?_getD]
 cases hq:s.R[i.toNat]? with
 | none=>exact⟨by decide,by decide⟩
 | some x=>exact h.r x (List.mem_of_getElem? hq)
theorem setr_ok {s:Seat} (h:s.Ok) {i v:Int} (hv:W64 v):(s.setr i v).Ok:={ h with
 len:=by show (s.R.set i.toNat v).length=16;rw[List.length_set];exact h.len
 r:=fun x hx=>by
  rcases List.mem_or_eq_of_mem_set hx with e | e
  ·exact h.r x e
  ·rw[e];exact hv }
theorem zaN {s:Seat} (h:s.Ok) {v:Int} (hv:W64 v):({ s with pc:=v }:Seat).Ok:={ h with pc:=hv }
theorem zam {s:Seat} {g:GM} (h:s.Ok) {c a:Int} (hc:W64 c) (ha:W64 a):(trapM s g c a).s.Ok:=Seat.trap_ok h hc ha
set_option maxHeartbeats 1000000 in
theorem zrp {s:Seat} {g:GM} (hg:g.Ok) (h:s.Ok) {time me k a b c n:Int} (ht:W64 time) (hm:0≤me∧me≤2):(doM s g time me k a b c n).s.Ok:=by
 have w3:W64 3:=⟨by decide,by decide⟩
 have w4:W64 4:=⟨by decide,by decide⟩
 have w1:W64 1:=⟨by decide,by decide⟩
 unfold doM
 dsimp only
 by_cases h1:k=1
 ·rw[if_pos h1];exact zaN (setr_ok h (wU _)) (wU _)
 rw[if_neg h1]
 by_cases h2:k=2
 ·rw[if_pos h2];exact zaN (setr_ok h (wU _)) (wU _)
 rw[if_neg h2]
 by_cases h11:k=11
 ·rw[if_pos h11];exact zaN (setr_ok h (wU _)) (wU _)
 rw[if_neg h11]
 by_cases h12:k=12
 ·rw[if_pos h12]
  cases hw:getW s g (x64 (s.r b+x64 n)) 8 with
  | none=>exact zam h w3 (wU _)
  | some v=>
   have:=ziQ hg (wU _) (.inr rfl) hw
   exact zaN (setr_ok h (by first | exact this | exact⟨this.1,by omega⟩)) (wU _)
 rw[if_neg h12]
 by_cases h13:k=13
 ·rw[if_pos h13]
  cases hw:putW s g (x64 (s.r b+x64 n)) (s.r a) with
  | none=>exact zam h w4 (wU _)
  | some v=>exact zaN h (wU _)
 rw[if_neg h13]
 by_cases h14:k=14
 ·rw[if_pos h14];refine zaN h ?_;split <;> exact wU _
 rw[if_neg h14]
 by_cases h15:k=15
 ·rw[if_pos h15];refine zaN h ?_;split <;> exact wU _
 rw[if_neg h15]
 by_cases h16:k=16
 ·rw[if_pos h16];refine zaN h ?_;split <;> exact wU _
 rw[if_neg h16]
 by_cases h17:k=17
 ·rw[if_pos h17];exact zaN (setr_ok h (wU _)) (wU _)
 rw[if_neg h17]
 by_cases h18:k=18
 ·rw[if_pos h18];exact zaN (setr_ok h (zrn h ht hm)) (wU _)
 rw[if_neg h18]
 by_cases h19:k=19
 ·rw[if_pos h19]
  cases hs:setR s n (s.r a) with
  | none=>exact zam h w1 h.pc
  | some t=>exact zaN (zqf h (r_w h) hs) (wU _)
 rw[if_neg h19]
 by_cases h20:k=20
 ·rw[if_pos h20];exact zaN h (wU _)
 rw[if_neg h20]
 by_cases h21:k=21
 ·rw[if_pos h21]
  split
  ·exact { zaN h (wU (s.pc+4)) with st:=⟨show (0:Int)≤1 by decide,show (1:Int)≤2 by decide⟩ }
  ·exact zaN h (wU _)
 rw[if_neg h21]
 by_cases h22:k=22
 ·rw[if_pos h22];exact Seat.back_ok h
 rw[if_neg h22]
 by_cases h3:3≤k
 ·rw[if_pos h3];exact zaN (setr_ok h (zrc (r_w h))) (wU _)
 ·rw[if_neg h3];exact zaN h (wU _)
theorem zou {s:Seat} {g:GM} (hg:g.Ok) (h:s.Ok) {time me:Int} (ht:W64 time) (hm:0≤me∧me≤2):(stepM s g time me).s.Ok:=by
 unfold stepM
 by_cases h0:s.st≠0
 ·rw[if_pos h0];exact h
 rw[if_neg h0]
 cases hn:nextL s with
 | some n=>
  obtain⟨h8,_,_,hge⟩:=zgG h hn
  have hp:=h.pend
  dsimp only
  have hpos:(0:Int)<2 ^ n:=Int.pow_pos (by decide)
  exact zam (s:={ s with pend:=s.pend-2 ^ n }) { h with pend:=⟨by show 0≤s.pend-2 ^ n;omega,by show s.pend-2 ^ n≤255;omega⟩ } ⟨by omega,by omega⟩ ⟨by decide,by decide⟩
 | none=>
  dsimp only
  cases hw:getW s g s.pc 4 with
  | none=>exact zam h ⟨by decide,by decide⟩ h.pc
  | some w=>
   dsimp only
   have:=ziQ hg h.pc (.inl rfl) hw
   split
   ·exact zrp hg h ht hm
   ·exact zam h ⟨by decide,by decide⟩ ⟨by omega,by omega⟩
theorem zlm {s:Seat} {g:GM} {time me:Int} (h:(stepM s g time me).k=5):(stepM s g time me).s=s∧(stepM s g time me).g=g:=by
 have tr:∀ (s:Seat) (g:GM) c a,(trapM s g c a).k≠5:=fun s g c a=>by unfold trapM;dsimp only;split <;> decide
 unfold stepM at h ⊢
 by_cases h0:s.st≠0
 ·rw[if_pos h0];exact⟨rfl,rfl⟩
 rw[if_neg h0] at h
 exfalso
 cases hn:nextL s with
 | some n=>rw[hn] at h;exact tr _ _ _ _ h
 | none=>
  rw[hn] at h
  dsimp only at h
  cases hw:getW s g s.pc 4 with
  | none=>rw[hw] at h;exact tr _ _ _ _ h
  | some w=>
   rw[hw] at h
   dsimp only at h
   split at h
   ·have key:∀ k a b c n,(doM s g time me k a b c n).k≠5:=by
     intro k a b c n
     have t0:(0:Int)≠5:=by decide
     unfold doM
     dsimp only
     by_cases h1:k=1
     ·rw[if_pos h1];exact t0
     rw[if_neg h1]
     by_cases h2:k=2
     ·rw[if_pos h2];exact t0
     rw[if_neg h2]
     by_cases h11:k=11
     ·rw[if_pos h11];exact t0
     rw[if_neg h11]
     by_cases h12:k=12
     ·rw[if_pos h12]
      cases getW s g (x64 (s.r b+x64 n)) 8 with
      | none=>exact tr _ _ _ _
      | some v=>exact t0
     rw[if_neg h12]
     by_cases h13:k=13
     ·rw[if_pos h13]
      cases putW s g (x64 (s.r b+x64 n)) (s.r a) with
      | none=>exact tr _ _ _ _
      | some v=>exact t0
     rw[if_neg h13]
     by_cases h14:k=14
     ·rw[if_pos h14];exact t0
     rw[if_neg h14]
     by_cases h15:k=15
     ·rw[if_pos h15];exact t0
     rw[if_neg h15]
     by_cases h16:k=16
     ·rw[if_pos h16];exact t0
     rw[if_neg h16]
     by_cases h17:k=17
     ·rw[if_pos h17];exact t0
     rw[if_neg h17]
     by_cases h18:k=18
     ·rw[if_pos h18];exact t0
     rw[if_neg h18]
     by_cases h19:k=19
     ·rw[if_pos h19]
      cases setR s n (s.r a) with
      | none=>exact tr _ _ _ _
      | some t=>exact t0
     rw[if_neg h19]
     by_cases h20:k=20
     ·rw[if_pos h20];exact show (2:Int)≠5 by decide
     rw[if_neg h20]
     by_cases h21:k=21
     ·rw[if_pos h21]
      split
      ·exact show (3:Int)≠5 by decide
      ·exact t0
     rw[if_neg h21]
     by_cases h22:k=22
     ·rw[if_pos h22];exact t0
     rw[if_neg h22]
     by_cases h3:3≤k
     ·rw[if_pos h3];exact t0
     ·rw[if_neg h3];exact t0
    exact key _ _ _ _ _ h
   ·exact tr _ _ _ _ h
end
end Go.Cr
section
namespace Go.Proofs.YthaiblbnpcgjpaaGreatDoor
open Go Go.Pt Go.Cr Go.Hp
section
variable {S S':Mem} {ρ ρ':Rho} {h:Nat} {A:Ad} {C:Cst} {W:Wd} {φ:Nat→Nat→Nat}
theorem and255 {w:Int} (hw:W64 w):iand .u64 w 255=w%256:=by
 obtain⟨n,rfl⟩:∃ n:Nat,w=n:=⟨w.toNat,by have:=hw.1;omega⟩
 have hn:n<18446744073709551616:=by have:=hw.2;omega
 have:=yr (a:=n) (b:=255) hn (by decide)
 have e:n &&& 255=n%256:=Nat.and_two_pow_sub_one_eq_mod n 8
 rw[e] at this
 have e3:((255:Nat):Int)=255:=rfl
 rw[e3] at this
 rw[this];omega
theorem zqz {w:Int} (hw:W64 w):ineg .u64 w=18446744073709551615-w:=by
 obtain⟨n,rfl⟩:∃ n:Nat,w=n:=⟨w.toNat,by have:=hw.1;omega⟩
 have hn:n<18446744073709551616:=by have:=hw.2;omega
 rw[zgN hn];omega
theorem After.tell (hc:CrabA S ρ h A C) (hr:Rel C W φ) {n:Nat} (hn:n<6) (hl:(W.ev n).length≤1000000000) {e:Evt} {Q:Mem→Prop} (hQ:∀ S',After h A C S ρ (W.tell n e) S'→Q S'):yH S (some (h,0)) n (evL e) Q:=by
 refine zlg hc hn (by rw[hr.ev];exact hl) fun S1 ρ1 A1 m1 hc1 ht hx=>hQ S1 ⟨ρ1,A1,_,φ,m1.mono fun r hr=>by unfold Rc;omega,hc1,hr.tell n e,kp1,ht,fun i=>by rw[hx]⟩
theorem znF (hc:CrabA S ρ h A C) (hr:Rel C W φ) {n k:Nat} (hn:n<6) (hon:(W.vm n).on=true) (hk:k<(W.vm n).seats.length) (hl:(W.ev n).length≤1000000000) {c w1 w2 w3:Int} (h1:W64 w1) {Q:Int→Int→Mem→Prop}
  (hQ:∀ S',After h A C S ρ (W.call n k c w1 w2 w3).2.2 S'→Q (W.call n k c w1 w2 w3).1 (W.call n k c w1 w2 w3).2.1 S'):fT S (some (h,0)) n k c w1 (small w2) (decide (w3≠0)) Q:=by
 have h3:=hr.wk.seats n hon
 apply zfw
 unfold jV
 refine zfM h1 ?_
 rw[zL,zS hc.c3,zL]
 refine⟨by omega,by omega,?_⟩
 simp only[jn]
 rw[Int.toNat_natCast]
 unfold Wd.call at hQ
 by_cases c0:c=0
 ·rw[if_pos c0] at hQ ⊢
  rw[and255 h1]
  exact After.tell hc hr hn hl (e:=⟨3,k,w1%256,0⟩) hQ
 rw[if_neg c0] at hQ ⊢
 by_cases c1:c=1
 ·rw[if_pos c1] at hQ ⊢
  exact zhA hc hr hn hon hQ
 rw[if_neg c1] at hQ ⊢
 by_cases c2:c=2
 ·rw[if_pos c2] at hQ ⊢
  exact zkK hc hr hn hon hQ
 rw[if_neg c2] at hQ ⊢
 by_cases c3:c=3
 ·rw[if_pos c3] at hQ ⊢
  have hlate:=hr.time n hon
  have hnow:=hr.now
  have hlc:S.cell A.t (0+2+n*12+5)=some (.int .u64 (C.late n)):=hc.vcell (n:=n) (j:=5) hn (by decide) (by omega)
  have hw1:=h1.1
  have hw2:=h1.2
  rw[zS hc.c3,zL,zS hc.t171,zx hlc,zqz h1]
  have e:IntKind.u64.wrap (w1+if 18446744073709551615-w1<C.late n then 18446744073709551615-w1 else C.late n)=min (w1+C.late n) most64:=by
   unfold most64
   split
   ·rw[wu64 (by omega) (by omega)];omega
   ·rw[wu64 (by omega) (by omega)];omega
  rw[e]
  refine zmB hc.ck hc.rg hn (by omega) fun S1 ρ1 m1 hk1=>?_
  have hc1:=hc.setClk m1 (fun r hr=>by omega) hk1
  refine⟨hc1.vcell (n:=n) (j:=5) hn (by decide) (by omega),hc1.c3,?_⟩
  exact hQ S1 ⟨ρ1,A,_,φ,m1.mono fun r hr=>by unfold Rc;omega,hc1,hr.setAlarm hk h1,kp1,rfl,fun _=>rfl⟩
 rw[if_neg c3] at hQ ⊢
 by_cases c4:c=4
 ·rw[if_pos c4] at hQ ⊢
  exact zjb hc hr hn hon hQ
 rw[if_neg c4] at hQ ⊢
 by_cases c5:c=5
 ·subst c5
  rw[if_pos (by decide)] at hQ
  rw[if_pos rfl]
  exact zhX hc hr hn hon hQ
 by_cases c6:c=6
 ·subst c6
  rw[if_pos (by decide)] at hQ
  rw[if_neg (by decide),if_pos rfl]
  exact zjc hc hr hn hQ
 by_cases c7:c=7
 ·subst c7
  rw[if_pos (by decide)] at hQ
  rw[if_neg (by decide),if_neg (by decide),if_pos rfl]
  exact zfF hc hr hn hQ
 rw[if_neg (by omega)] at hQ
 rw[if_neg c5,if_neg c6,if_neg c7]
 by_cases c8:c=8
 ·rw[if_pos c8] at hQ ⊢
  exact zkN hc hr hn hon hQ
 rw[if_neg c8] at hQ ⊢
 by_cases c9:c=9
 ·rw[if_pos c9] at hQ ⊢
  exact zmt hc hr hn hon hQ
 rw[if_neg c9] at hQ ⊢
 by_cases c10:c=10
 ·rw[if_pos c10] at hQ ⊢
  exact zkL hc hr hn hon hQ
 rw[if_neg c10] at hQ ⊢
 by_cases c11:c=11
 ·rw[if_pos c11] at hQ ⊢
  exact zkJ hc hr hn hon hQ
 rw[if_neg c11] at hQ ⊢
 by_cases c12:c=12
 ·rw[if_pos c12] at hQ ⊢
  rw[wu64 (by omega) (by omega)]
  exact hQ S (After.here hc hr)
 rw[if_neg c12] at hQ ⊢
 by_cases c13:c=13
 ·rw[if_pos c13] at hQ ⊢
  rw[zS hc.c3]
  have hk':k<(C.vm n).seats.length:=by rw[hr.vm];exact hk
  refine wW hc (fun _ _ _ cb hs=>?_) fun hbad=>absurd ⟨(qD hr).2 ⟨by omega,by omega,by rw[Int.toNat_natCast];exact hon⟩,by omega,by rw[Int.toNat_natCast];omega⟩ hbad
  rw[Int.toNat_natCast] at hs
  obtain⟨hA,hok,hrol⟩:=zeK hc hn hk' hs
  have hok':((C.vm n).seat k).die.Ok:={ hok with st:=⟨show (0:Int)≤2 by decide,show (2:Int)≤2 by decide⟩ }
  obtain⟨m,hc1⟩:=gE hc hn hk' hs hok'
  rw[zL,Int.toNat_natCast,Nat.zero_add]
  refine hA.pt1 (s':=((C.vm n).seat k).die) hok.len (by decide) (Seat.s23 hok.len 2) ?_
  have hr1:=Rel.putSeat hr hon hk hok'
  have e:(C.vm n).seat k=(W.vm n).seat k:=by rw[hr.vm]
  refine hQ _ ⟨ρ,A,_,φ,m.mono fun r hr=>by unfold Rc;omega,hc1,?_,kp1,rfl,fun _=>rfl⟩
  rw[e] at hr1 ⊢
  exact hr1
 rw[if_neg c13] at hQ ⊢
 exact hQ S (After.here hc hr)
end
open Go Go.Pt Go.Cr Go.Hp
section
variable {S S':Mem} {ρ ρ':Rho} {h:Nat} {A:Ad} {C:Cst} {W:Wd} {φ:Nat→Nat→Nat}
theorem Seat.setr_ok {s:Seat} (h:s.Ok) {i v:Int} (hv:W64 v):(s.setr i v).Ok:={ h with
 len:=by show (s.R.set i.toNat v).length=16;rw[List.length_set];exact h.len
 r:=fun x hx=>by
  rcases List.mem_or_eq_of_mem_set hx with e | e
  ·exact h.r x e
  ·rw[e];exact hv }
theorem zia {W':Wd} {r:Int×Int×Wd} (h:Ans W' r):W64 r.1∧W64 r.2.1:=⟨⟨h.v.1,by have:=h.v.2;omega⟩,⟨h.e.1,by have:=h.e.2;omega⟩⟩
theorem zkO (hc:CrabA S ρ h A C) (hr:Rel C W φ) {n k:Nat} (hn:n<6) (hon:(W.vm n).on=true) (hk:k<(W.vm n).seats.length) (hl:(W.ev n).length≤900000000) {c:Int} {Q:Mem→Prop}
  (hQ:∀ S',After h A C S ρ (W.hyper n k c ((W.vm n).seat k)) S'→Q S'):jT S (some (h,0)) n k c Q:=by
 have hk':k<(C.vm n).seats.length:=by rw[hr.vm];exact hk
 have hth:thereV C.vm (n:Int):=(qD hr).2 ⟨by omega,by omega,by rw[Int.toNat_natCast];exact hon⟩
 apply zdU
 unfold ka
 rw[zL,zS hc.c3]
 refine wW hc (fun _ _ _ cb hs=>?_) fun hbad=>absurd ⟨hth,by omega,by rw[Int.toNat_natCast];omega⟩ hbad
 rw[Int.toNat_natCast] at hs
 obtain⟨hA,hok,hrol⟩:=zeK hc hn hk' hs
 have e0:(C.vm n).seat k=(W.vm n).seat k:=by rw[hr.vm]
 rw[e0] at hA hok
 have g1:S.cell cb (k*26+1)=some (.int .u64 (((W.vm n).seat k).r 1)):=(hA.cell (i:=1) (by rw[Seat.L_len hok.len];decide)).trans (Seat.L_r hok.len (by decide))
 have g2:S.cell cb (k*26+2)=some (.int .u64 (((W.vm n).seat k).r 2)):=(hA.cell (i:=2) (by rw[Seat.L_len hok.len];decide)).trans (Seat.L_r hok.len (by decide))
 have g3:S.cell cb (k*26+3)=some (.int .u64 (((W.vm n).seat k).r 3)):=(hA.cell (i:=3) (by rw[Seat.L_len hok.len];decide)).trans (Seat.L_r hok.len (by decide))
 rw[zL,Int.toNat_natCast,Nat.zero_add,zx g1,zx g2,zx g3]
 refine zfM (Seat.r_w hok 2) ?_
 refine⟨g3,g1,?_⟩
 unfold Wd.hyper at hQ
 dsimp only at hQ
 have hans:=znG (c:=c) (w1:=((W.vm n).seat k).r 1) (w2:=((W.vm n).seat k).r 2) (w3:=((W.vm n).seat k).r 3) hr.wk (k:=k) hn
 obtain⟨hv64,he64⟩:=zia hans
 have hsam:=hans.s
 refine znF hc hr hn hon hk (by omega) (Seat.r_w hok 1) fun S2 hA2=>?_
 generalize W.call n k c (((W.vm n).seat k).r 1) (((W.vm n).seat k).r 2) (((W.vm n).seat k).r 3)=r at hQ hA2 hv64 he64 hsam ⊢
 obtain⟨v,e,W'⟩:=r
 dsimp only at hQ hA2 hv64 he64 hsam ⊢
 obtain⟨ρ2,A2,C2,φ2,m2,hc2,hr2,kp2,ht2,hx2⟩:=hA2
 have hon2:(W'.vm n).on=true:=by rw[hsam.on];exact hon
 have hk2:k<(W'.vm n).seats.length:=by rw[hsam.len];exact hk
 have hk2':k<(C2.vm n).seats.length:=by rw[hr2.vm];exact hk2
 have hs2:(A2.x n).ss.p=some (cb,0):=by rw[hx2];exact hs
 obtain⟨hA3,hok3,hrol3⟩:=zeK hc2 hn hk2' hs2
 rw[wu64 he64.1 he64.2]
 have hl3:=hok3.len
 have hok4:=Seat.setr_ok hok3 (i:=0) he64
 have hok5:(((C2.vm n).seat k).answer e v).Ok:=Seat.setr_ok hok4 (i:=1) hv64
 refine hA3.pt1 (i:=0) (s':=((C2.vm n).seat k).setr 0 e) hl3 (by decide) (Seat.set_r hl3 (by decide) e) ?_
 have hp3:=Pl.of hA3 hl3
 refine hp3.pt hok4.len (i:=1) (s':=((C2.vm n).seat k).answer e v) (by decide) (Seat.set_r hok4.len (by decide) v) ?_
 obtain⟨m4,hc4⟩:=gE hc2 hn hk2' hs2 hok5
 have e2:(C2.vm n).seat k=(W'.vm n).seat k:=by rw[hr2.vm]
 have hr4:=Rel.putSeat hr2 hon2 hk2 hok5
 rw[e2] at hr4 hc4 ⊢
 have es:ishl .u64 c 8=x64 (c*256):=rfl
 rw[es]
 have hl4:((W'.putSeat n k (((W'.vm n).seat k).answer e v)).ev n).length≤1000000000:=by
  have:=hsam.ev n
  show (W'.ev n).length≤_
  omega
 rw[e2] at m4
 refine After.tell (e:=⟨2,k,ior .u64 (x64 (c*256)) e,v⟩) hc4 hr4 hn hl4 fun S6 hA6=>hQ S6 ?_
 obtain⟨ρ6,A6,C6,φ6,m6,hc6,hr6,kp6,ht6,hx6⟩:=hA6
 exact⟨ρ6,A6,C6,φ6,m2.trans ((m4.mono fun r hr=>by unfold Rc;omega).trans m6),hc6,hr6,kp2.trans ((show Kp C2 { C2 with vm:=_ } from kp1).trans kp6),ht6.trans ht2,fun i=>(hx6 i).trans (hx2 i)⟩
theorem zle {x n:Int} {k:Int} {pc:Int} {s:Seat} (hs:s.Ok) {Q:List Value→Mem→Prop} (hQ:∀ S',Keeps S S' []→Q (evL (told x n k pc s)) S'):zfm S (exL x n) k pc s.L Q:=by
 apply ziv
 unfold zbI
 refine⟨rfl,Seat.L_len hs.len,?_⟩
 simp only[jn]
 unfold told at hQ
 rw[zx (show nthL (exL x n) 0=some (.int .u8 x) from rfl)]
 by_cases h1:x=1
 ·rw[if_pos h1] at hQ ⊢
  rw[zx (show nthL (exL x n) 1=some (.int .u64 n) from rfl)]
  exact hQ S Keeps.refl
 rw[if_neg h1] at hQ ⊢
 by_cases h4:x=4
 ·rw[if_pos h4] at hQ ⊢
  rw[zx (show nthL (exL x n) 1=some (.int .u64 n) from rfl)]
  exact hQ S Keeps.refl
 rw[if_neg h4] at hQ ⊢
 refine⟨rfl,?_⟩
 exact zlk hs fun S' hk=>hQ S' hk
theorem zkg {d:Nat→List Int} {f:Nat→List Int} {ca:List Cw} {n:Nat} (hr:Rel { C with cache:=ca,dat:=f } (W.setDat d) φ) {g:GM} (hg:g=(W.setDat d).gm n) (hW:WOk W):Rel { C with cache:=ca,dat:=f } (W.setDat g.dat) φ:=by
 rw[hg,zls fun m q l h=>(hW.pg m q l h).2.1]
 exact hr
set_option maxHeartbeats 1000000 in
theorem zmp (hc:CrabA S ρ h A C) (hr:Rel C W φ) {n k:Int} (hl:∀ i,(W.ev i).length≤800000000) {Q:Int→Mem→Prop}
  (hQ:∀ S',After h A C S ρ (W.run n k).2 S'→Q (W.run n k).1 S'):ws S (some (h,0)) n k Q:=by
 apply zeC
 unfold jp
 simp only[jn]
 rw[if_neg (by simp),zL,zS hc.c3]
 unfold Wd.run at hQ
 refine wW hc (fun hth hk0 hkl cb hs=>?_) fun hbad=>?_
 rotate_left
 ·rw[if_pos rfl]
  rw[if_pos] at hQ
  ·exact hQ S (After.here hc hr)
  ·by_cases ht:W.there n
   ·right
    apply Classical.byContradiction
    intro hh
    exact hbad ⟨(qD hr).2 ht,by omega,by rw[hr.vm];omega⟩
   ·exact .inl ht
 have ht:W.there n:=(qD hr).1 hth
 obtain⟨n,rfl⟩:∃ m:Nat,n=m:=⟨n.toNat,by have:=ht.1;omega⟩
 obtain⟨k,rfl⟩:∃ m:Nat,k=m:=⟨k.toNat,by omega⟩
 rw[Int.toNat_natCast] at hs hkl
 have hon:(W.vm n).on=true:=by have:=ht.2.2;rwa [Int.toNat_natCast] at this
 have hn:n<6:=by have:=ht.2.1;omega
 have hk':k<(C.vm n).seats.length:=by omega
 have hk:k<(W.vm n).seats.length:=by rw[←hr.vm];exact hk'
 have h3:=hr.wk.seats n hon
 rw[if_neg (fun h=>h.elim (fun h=>h ht) (fun h=>by rw[Int.toNat_natCast] at h;omega))] at hQ
 simp only[Int.toNat_natCast] at hQ
 rw[if_neg (by simp),zL,zS hc.c3]
 refine wW hc (fun _ _ _ cb' hs'=>?_) fun hbad=>absurd ⟨hth,by omega,by rw[Int.toNat_natCast];omega⟩ hbad
 rw[Int.toNat_natCast] at hs'
 have ecb:cb'=cb:=by rw[hs] at hs';cases hs';rfl
 subst ecb
 obtain⟨hA,hok,hrol⟩:=zeK hc hn hk' hs
 have e0:(C.vm n).seat k=(W.vm n).seat k:=by rw[hr.vm]
 rw[e0] at hA hok
 have g16:S.cell cb' (k*26+16)=some (.int .u64 ((W.vm n).seat k).pc):=(hA.cell (i:=16) (by rw[Seat.L_len hok.len];decide)).trans (Seat.g16 hok.len)
 rw[zL,Int.toNat_natCast,Nat.zero_add,zx g16,zS hc.c3]
 refine zlf hc hn ?_
 have htm:=hr.time n hon
 have hnow:=hr.now
 rw[wu64 (by omega) (by omega),←htm.2.2]
 have hbus:(.iface 184 (valL ([.pointer (some ⟨h,0,none⟩),.int .i64 n])):Value)=.iface 184 (valL (busL h n)):=rfl
 rw[hbus]
 have hW:=fun m q l h=>((hr.wk.pg m q l h).2.1:q<32)
 have hB:=znC (C:=C) (φ:=φ) (h:=h) hn hon hr.wk A.t A.x
 have hI:BI h n C W φ A.t A.x S ρ (W.gm n):=⟨A,(W.gm n).dat,C.cache,C.dat,hc,by rw[zbk hW];exact hr,by rw[zbk hW],rfl,rfl⟩
 have hx:Cx (BI h n C W φ A.t A.x) R026 S ρ (W.gm n) cb' (k*26) ((W.vm n).seat k):=⟨hI,hA,30+n,hrol,by unfold R026;omega⟩
 refine zll hB hx hok ⟨by omega,by omega⟩ ⟨by omega,by omega⟩ fun S1 ρ1 m1 hI1 hA1=>?_
 obtain⟨A1,d1,ca1,dt1,hc1,hr1,hg1,ht1,hx1⟩:=hI1
 have hr1':=zkg hr1 hg1 hr.wk
 have hstep:=zou (hr.wk.gm n) hok (time:=W.time n) (me:=k) ⟨by omega,by omega⟩ ⟨by omega,by omega⟩
 have hidle:(stepM ((W.vm n).seat k) (W.gm n) (W.time n) k).k=5→(stepM ((W.vm n).seat k) (W.gm n) (W.time n) k).s=(W.vm n).seat k∧(stepM ((W.vm n).seat k) (W.gm n) (W.time n) k).g=W.gm n:=fun h=>zlm h
 generalize stepM ((W.vm n).seat k) (W.gm n) (W.time n) k=o at hQ hg1 hr1' hstep hidle ⊢
 refine⟨rfl,?_⟩
 rw[zx (show nthL (exL o.k o.n) 0=some (.int .u8 o.k) from rfl)]
 have hs1:(A1.x n).ss.p=some (cb',0):=by rw[hx1];exact hs
 have hk1:k<(({ C with cache:=ca1,dat:=dt1 }:Cst).vm n).seats.length:=hk'
 obtain⟨m2,hc2⟩:=gE hc1 hn hk1 hs1 hstep
 have hm12:Mv S ρ (S1.put cb' (k*26) o.s.L) ρ1 Rc:=(m1.mono fun r hr=>by unfold R026 at hr;unfold Rc;omega).trans (m2.mono fun r hr=>by unfold Rc;omega)
 by_cases h5:o.k=5
 ·rw[if_pos h5] at hQ ⊢
  obtain⟨e1,e2⟩:=hidle h5
  rw[e1,hA1.self]
  rw[e2,zbk hW] at hr1'
  exact hQ S1 ⟨ρ1,A1,_,φ,m1.mono fun r hr=>by unfold R026 at hr;unfold Rc;omega,hc1,hr1',kp1,ht1,fun i=>by rw[hx1]⟩
 ·rw[if_neg h5] at hQ ⊢
  have hl1:((W.setDat o.g.dat).putSeat n k o.s).ev=W.ev:=rfl
  have hr2:=Rel.putSeat (k:=k) (n:=n) (s:=o.s) hr1' hon hk hstep
  have hpl:=Pl.of hA1 hok.len
  rw[xa (hpl.all hstep.len)]
  refine zle hstep fun S3 hk3=>?_
  have hc3:=hc2.keeps hk3
  have hm3:Mv S ρ S3 ρ1 Rc:=hm12.trans (Mv.keeps hc2.rg hk3)
  refine After.tell hc3 hr2 hn (by rw[hl1];have:=hl n;omega) fun S4 hA4=>?_
  obtain⟨ρ4,A4,C4,φ4,m4,hc4,hr4,kp4,ht4,hx4⟩:=hA4
  have kp04:Kp C C4:=(show Kp C { C with cache:=ca1,dat:=dt1,vm:=_ } from kp1).trans kp4
  rw[zx (show nthL (exL o.k o.n) 0=some (.int .u8 o.k) from rfl)]
  by_cases h2:o.k=2
  ·simp only[if_pos h2] at hQ
   rw[if_pos h2,zx (show nthL (exL o.k o.n) 1=some (.int .u64 o.n) from rfl)]
   generalize hW2:(((W.setDat o.g.dat).putSeat n k o.s).tell n (told o.k o.n k ((W.vm n).seat k).pc o.s))=W2 at hQ hr4
   have v2:W2.vm n=(W.vm n).setSeat k o.s:=by rw[←hW2];show upd W.vm n _ n=_;rw[zl];rfl
   have ev2:(W2.ev n).length≤900000000:=by
    rw[←hW2]
    show (upd W.ev n _ n).length≤_
    rw[zl,List.length_append]
    have:=hl n
    show (W.ev n).length+1≤_
    omega
   have es:(W2.vm n).seat k=o.s:=by
    rw[v2]
    show ((W.vm n).seats.set k o.s).getD k seat0=o.s
    rw[List.getD_eq_getElem?_getD,List.getElem?_set_self hk];rfl
   refine zkO hc4 hr4 hn (by rw[v2];exact hon) (by rw[v2];show k<((W.vm n).seats.set k o.s).length;rw[List.length_set];exact hk) ev2 fun S5 hA5=>?_
   rw[es] at hA5
   obtain⟨ρ5,A5,C5,φ5,m5,hc5,hr5,kp5,ht5,hx5⟩:=hA5
   exact hQ S5 ⟨ρ5,A5,C5,φ5,hm3.trans (m4.trans m5),hc5,hr5,kp04.trans kp5,ht5.trans (ht4.trans ht1),fun i=>(hx5 i).trans ((hx4 i).trans (by rw[hx1]))⟩
  ·simp only[if_neg h2] at hQ
   rw[if_neg h2]
   exact hQ S4 ⟨ρ4,A4,C4,φ4,hm3.trans m4,hc4,hr4,kp04,ht4.trans ht1,fun i=>(hx4 i).trans (by rw[hx1])⟩
end
end Go.Proofs.YthaiblbnpcgjpaaGreatDoor
end
namespace Go.Proofs.YthaiblbnpcgjpaaGreatDoor
section
open Go Go.Pt Go.Cr Go.Hp
section
variable {S S':Mem} {ρ ρ':Rho} {h:Nat} {A:Ad} {C:Cst} {W:Wd} {φ:Nat→Nat→Nat}
theorem After.comp {A1:Ad} {C1:Cst} {S1 S2:Mem} {ρ1:Rho} {W2:Wd} (m:Mv S ρ S1 ρ1 Rc) (kp:Kp C C1) (ht:A1.t=A.t) (hx:∀ i,(A1.x i).ss=(A.x i).ss) (hA:After h A1 C1 S1 ρ1 W2 S2):After h A C S ρ W2 S2:=by
 obtain⟨ρ',A',C',φ',m',hc',hr',kp',ht',hx'⟩:=hA
 exact⟨ρ',A',C',φ',m.trans m',hc',hr',kp.trans kp',ht'.trans ht,fun i=>(hx' i).trans (hx i)⟩
theorem zpZ {n:Nat} {x':Vx} (h:x'.ss=(A.x n).ss):∀ i,(upd A.x n x' i).ss=(A.x i).ss:=fun i=>by
 by_cases e:i=n
 ·rw[e,zl,h]
 ·rw[zh e]
theorem zns (hc:CrabA S ρ h A C) (hr:Rel C W φ) {n b:Int} (hb:0≤b∧b≤255) {Q:Int→Mem→Prop} (hQ:∀ S',After h A C S ρ (W.key n b).2 S'→Q (W.key n b).1 S'):kB S (some (h,0)) n b Q:=by
 unfold Wd.key at hQ
 apply zeD
 unfold jq
 simp only[jn]
 rw[if_neg (by simp),zL,zS hc.c3]
 refine qJ hc ?_
 by_cases ht:W.there n
 ·rw[if_neg (fun h=>h ht)] at hQ
  rw[decide_eq_true ((qD hr).2 ht),if_pos rfl]
  obtain⟨n,rfl⟩:∃ m:Nat,n=m:=⟨n.toNat,by have:=ht.1;omega⟩
  have hon:(W.vm n).on=true:=by have:=ht.2.2;rwa [Int.toNat_natCast] at this
  have hn:n<6:=by have:=ht.2.1;omega
  simp only[Int.toNat_natCast] at hQ ⊢
  have hv:=hc.vs n hn
  have hcell:S.cell A.t (0+2+n*12+6)=some (eL (A.x n).ks):=hc.vcell (n:=n) (j:=6) hn (by decide) (by omega)
  have hkl:(bL (C.vm n).keys).length=(C.vm n).keys.length*1:=by simp[bL]
  have hkn:=hv.ke.n (by decide) hkl
  have h64:=hr.wk.keys n
  rw[←hr.vm] at h64
  rw[zS hc.c3,zL]
  refine⟨by omega,by omega,?_⟩
  rw[wj hcell]
  by_cases h6:64≤(W.vm n).keys.length
  ·rw[if_pos h6] at hQ
   rw[←hr.vm] at h6
   rw[if_pos (by omega)]
   exact hQ S (After.here hc hr)
  ·rw[if_neg h6] at hQ
   rw[←hr.vm] at h6
   rw[if_neg (by omega),zL,zS hc.c3,zS hc.c3,zL]
   refine⟨by omega,by omega,?_⟩
   rw[wj hcell,zL]
   refine zkR (R:=(· = 50+n)) (Mv.refl hc.rg) rfl hv.ke rfl (by decide) rfl (by omega) fun s' S1 ρ1 m1 _ hrow _=>?_
   have hb':bL (C.vm n).keys++[.int .u8 b]=bL ((C.vm n).keys++[b]):=by simp[bL]
   rw[hb'] at hrow
   have kd:∀ r,r<90→r≠50+n→¬(r=50+n):=fun r _ h=>h
   have hd1:=hc.hd.keep m1 (by omega)
   have ht1:=hc.tt.keep m1 (by omega)
   have c3:S1.cell h (0+3)=some (eP (some (A.t,0))):=hd1.cell 3 (by rw[gG];decide) rfl
   refine⟨c3,c3,by omega,by omega,?_⟩
   have hvn:VmP S1 ρ1 n { A.x n with ks:=s' } ((C.vm n).setKeys ((C.vm n).keys++[b])) (C.fr n):=
    ⟨hv.se.keep m1 (by omega),hv.r,hv.fr.keep m1 (by omega),hrow,fun j hj=>(hv.di j hj).keep m1 (by omega)⟩
   have he:spl (vmC (A.x n) (C.vm n) (C.tf n) (C.late n)) 6 [eL s']=vmC { A.x n with ks:=s' } ((C.vm n).setKeys ((C.vm n).keys++[b])) (C.tf n) (C.late n):=rfl
   refine ht1.pt m1.rg (vs:=[eL s']) (2+(n*12+6)) rfl (by rw[vb];simp;omega) (by omega) fun S2 m2 h2=>?_
   rw[zlZ (fr':=C.fr n) hn (by simp) he] at h2
   have m12:Mv S ρ S2 ρ1 (fun r=>r=7∨r=50+n):=(m1.mono fun r hr=>.inr hr).trans (m2.mono fun r hr=>.inl hr)
   have hc2:=hc.setVm (k:={ C.toKn with vm:=upd C.vm n ((C.vm n).setKeys ((C.vm n).keys++[b])),tf:=upd C.tf n (C.tf n),late:=upd C.late n (C.late n),fr:=upd C.fr n (C.fr n) }) (x:=upd A.x n { A.x n with ks:=s' }) m12 (fun r hr=>by omega) h2 fun i hi=>by
    show VmP S2 ρ1 i (upd A.x n _ i) (upd C.vm n _ i) (upd C.fr n (C.fr n) i)
    by_cases e:i=n
    ·subst e
     rw[zl,zl,zl]
     exact hvn.keep m2 hi fun r h1 h2=>by omega
    ·rw[zh e,zh e,zh e]
     have hvi:=hc.vs i hi
     exact⟨hvi.se.keep m12 (by omega),hvi.r,hvi.fr.keep m12 (by omega),hvi.ke.keep m12 (by omega),fun j hj=>(hvi.di j hj).keep m12 (by omega)⟩
   have hc2':CrabA S2 ρ1 h { A with x:=upd A.x n { A.x n with ks:=s' } } { C with vm:=upd C.vm n ((C.vm n).setKeys ((C.vm n).keys++[b])) }:=by
    have:=hc2
    have e:=zej (C:=C) (n:=n) (v':=(C.vm n).setKeys ((C.vm n).keys++[b]))
    exact e ▸ this
   have hwo:WOk (W.setV n ((W.vm n).setKeys ((W.vm n).keys++[b]))):=hr.wk.setV hon hon rfl (hr.wk.ok n) ⟨by
    show ((W.vm n).keys++[b]).length≤64
    rw[List.length_append,←hr.vm];simp;omega,fun y hy=>by
    have hy':y∈(W.vm n).keys++[b]:=hy
    rcases List.mem_append.1 hy' with e | e
    ·exact (hr.wk.keys n).2 y e
    ·rw[List.mem_singleton] at e;rw[e];exact hb⟩ (fun j=>hr.wk.disk n j hon) rfl rfl
   have hr2:=hr.setV (v:=(W.vm n).setKeys ((W.vm n).keys++[b])) hon hon hwo
   have ev:(C.vm n).setKeys ((C.vm n).keys++[b])=(W.vm n).setKeys ((W.vm n).keys++[b]):=by rw[hr.vm]
   rw[ev] at hc2'
   rw[zS hc2'.c3]
   have h3:=hr.wk.seats n hon
   have hxs:=zpZ (A:=A) (n:=n) (x':={ A.x n with ks:=s' }) rfl
   generalize hW2:W.setV n ((W.vm n).setKeys ((W.vm n).keys++[b]))=W2 at hr2 hQ
   have v2:W2.vm n=(W.vm n).setKeys ((W.vm n).keys++[b]):=by rw[←hW2];exact zl
   have hon2:(W2.vm n).on=true:=by rw[v2];exact hon
   have hlen2:(W2.vm n).seats.length=(W.vm n).seats.length:=by rw[v2];rfl
   refine wW hc2' (fun _ _ _ c hs=>?_) fun hbad=>?_
   ·rw[Int.toNat_natCast] at hs
    have:=zbs hc2' hr2 hn hon2 (k:=0) (i:=6) (by omega) hs (by decide) (Q:=fun _ Sx=>Q 0 Sx) fun S3 hA3=>hQ S3 (After.comp (A:=A) (A1:={ A with x:=upd A.x n { A.x n with ks:=s' } }) (m12.mono fun r hr=>by unfold Rc;omega) kp1 rfl hxs hA3)
    exact this
   ·refine absurd ⟨⟨by omega,by omega,?_⟩,by decide,?_⟩ hbad
    ·rw[Int.toNat_natCast]
     show ((upd C.vm n _) n).on=true
     rw[zl];exact hon
    ·rw[Int.toNat_natCast]
     show (0:Int)<(((upd C.vm n _) n).seats.length:Nat)
     rw[zl]
     show (0:Int)<((W.vm n).seats.length:Nat)
     omega
 ·rw[if_pos ht] at hQ
  rw[decide_eq_false (fun h=>ht ((qD hr).1 h)),if_neg (by decide)]
  exact hQ S (After.here hc hr)
theorem zcW (f:Nat→Bool) {k:Nat} (hk:k<6):iandn .u32 (bI f:Int) (ishl .u32 1 (k:Int))=(bI (upd f k false):Int):=by
 have b (g:Nat→Bool) (i:Nat):(g i).toNat≤1:=Bool.toNat_le _
 have key:∀ m:Fin 64,∀ j:Fin 6,iandn .u32 ((m.1:Nat):Int) (ishl .u32 1 ((j.1:Nat):Int))=((m.1-m.1/2 ^ j.1%2*2 ^ j.1:Nat):Int):=by decide +kernel
 rw[key ⟨bI f,znI f⟩ ⟨k,hk⟩,zmz f k hk]
 congr 1
 have:=b f 0;have:=b f 1;have:=b f 2;have:=b f 3;have:=b f 4;have:=b f 5
 match k,hk with
 | 0,_=>simp[bI,upd] <;> omega
 | 1,_=>simp[bI,upd] <;> omega
 | 2,_=>simp[bI,upd] <;> omega
 | 3,_=>simp[bI,upd] <;> omega
 | 4,_=>simp[bI,upd] <;> omega
 | 5,_=>simp[bI,upd] <;> omega
theorem zjK (f:Nat→Bool) {k:Nat} (hk:k<6):ior .u32 (bI (upd f k false):Int) (ishl .u32 1 (k:Int))=(bI (upd f k true):Int):=by
 have b (g:Nat→Bool) (i:Nat):(g i).toNat≤1:=Bool.toNat_le _
 have key:∀ m:Fin 64,∀ j:Fin 6,m.1/2 ^ j.1%2=0→ior .u32 ((m.1:Nat):Int) (ishl .u32 1 ((j.1:Nat):Int))=((m.1+2 ^ j.1:Nat):Int):=by decide +kernel
 have h0:bI (upd f k false)/2 ^ k%2=0:=by rw[zmz _ k hk,zl];rfl
 rw[key ⟨bI (upd f k false),znI _⟩ ⟨k,hk⟩ h0]
 congr 1
 match k,hk with
 | 0,_=>simp[bI,upd] <;> omega
 | 1,_=>simp[bI,upd] <;> omega
 | 2,_=>simp[bI,upd] <;> omega
 | 3,_=>simp[bI,upd] <;> omega
 | 4,_=>simp[bI,upd] <;> omega
 | 5,_=>simp[bI,upd] <;> omega
end
end
end Go.Proofs.YthaiblbnpcgjpaaGreatDoor
namespace Go.Cr
section
open Go Go.Pt
def offO (o:Nat→Ow) (l:List Nat):Nat→Ow:=l.foldl (fun o f=>upd o f ow0) o
def offU (u:Nat→Bool) (l:List Nat):Nat→Bool:=l.foldl (fun u f=>upd u f false) u
theorem zgF:∀ {l:List Nat} {o:Nat→Ow} {f:Nat},offO o l f=if f∈l then ow0 else o f
 | [],o,f=>by simp[offO]
 | a :: l,o,f=>by
  show offO (upd o a ow0) l f=_
  rw[zgF]
  by_cases h:f∈l
  ·rw[if_pos h,if_pos (by simp[h])]
  ·rw[if_neg h]
   by_cases e:f=a
   ·subst e;rw[zl,if_pos (by simp)]
   ·rw[zh e,if_neg (by simp[e,h])]
theorem ziG:∀ {l:List Nat} {u:Nat→Bool} {f:Nat},offU u l f=if f∈l then false else u f
 | [],u,f=>by simp[offU]
 | a :: l,u,f=>by
  show offU (upd u a false) l f=_
  rw[ziG]
  by_cases h:f∈l
  ·rw[if_pos h,if_pos (by simp[h])]
  ·rw[if_neg h]
   by_cases e:f=a
   ·subst e;rw[zl,if_pos (by simp)]
   ·rw[zh e,if_neg (by simp[e,h])]
theorem zfU {N:Nat}:∀ {l:List Nat} {u:Nat→Bool},l.Nodup→(∀ f∈l,f<N∧u f=true)→count (fun i=>! offU u l i) N=count (fun i=>! u i) N+l.length
 | [],u,_,_=>rfl
 | a :: l,u,hnd,h=>by
  have ha:=h a (by simp)
  obtain⟨h1,h2⟩:=List.nodup_cons.1 hnd
  show count (fun i=>! offU (upd u a false) l i) N=_
  rw[zfU h2 fun f hf=>⟨(h f (by simp[hf])).1,by
   rw[zh (show f≠a from fun e=>h1 (by rw[←e];exact hf))]
   exact (h f (by simp[hf])).2⟩]
  have e1:(fun f=>! upd u a false f)=upd (fun f=>! u f) a true:=by
   funext g;unfold upd;split <;> rfl
  have:=kZ (g:=fun f=>! u f) ha.1 true
  rw[←e1] at this
  simp only[ha.2,Bool.not_true,Bool.toNat_false,Bool.toNat_true] at this
  rw[List.length_cons];omega
def Wd.pgs (W:Wd) (n:Nat):List Nat:=(List.range 32).filter fun p=>(W.own n p).isSome
theorem ziD {W:Wd} {n:Nat}:(W.pgs n).length=W.pages n:=rfl
def offB (f:Nat→Bv) (n:Nat):Nat→Bv:=fun i=>if i=n then bv0 else { f i with bells:=upd (f i).bells n false }
def Cst.without (C:Cst) (n:Nat) (l:List Nat):Cst:=
 { C with vm:=offB C.vm n,late:=upd C.late n 0,tf:=upd C.tf n 0,fr:=upd C.fr n [],used:=offU C.used l,own:=offO C.own l,cache:=C.cache.filter fun r=>! decide (r.vm=(n:Int)),alm:=upd C.alm n fun _=>none }
def Wd.without (W:Wd) (n:Nat):Wd:=
 { W with free:=W.free+(5+W.pages n),vm:=offB W.vm n,own:=upd W.own n fun _=>none,alarm:=upd W.alarm n fun _=>none }
section
variable {C:Cst} {W:Wd} {φ:Nat→Nat→Nat} {n:Nat}
def Alone (W:Wd) (n:Nat):Prop:=∀ i,(W.ls i).on=true→(W.ls i).fr≠n∧(W.ls i).to≠n
def Wd.endL (W:Wd) (n:Nat):Wd:={ W with ls:=fun i=>if (W.ls i).on=true∧((W.ls i).fr=n∨(W.ls i).to=n) then ls0 else W.ls i }
theorem zkF:Alone (W.endL n) n:=fun i hi=>by
 have hi':(if (W.ls i).on=true∧((W.ls i).fr=n∨(W.ls i).to=n) then ls0 else W.ls i).on=true:=hi
 show (if (W.ls i).on=true∧((W.ls i).fr=n∨(W.ls i).to=n) then ls0 else W.ls i).fr≠n∧(if (W.ls i).on=true∧((W.ls i).fr=n∨(W.ls i).to=n) then ls0 else W.ls i).to≠n
 split at hi'
 ·cases hi'
 ·rename_i h
  rw[if_neg h]
  exact⟨fun e=>h ⟨hi',.inl e⟩,fun e=>h ⟨hi',.inr e⟩⟩
theorem ziV (hn:n<6) (hon:(W.vm n).on=true):W.destroy n=(0,(W.endL n).without n):=by
 unfold Wd.destroy
 rw[if_neg (fun h=>h ⟨by omega,by omega,by rw[Int.toNat_natCast];exact hon⟩),Int.toNat_natCast]
 rfl
theorem zcQ {f:Nat→Bv} {m:Nat} (h:(offB f n m).on=true):m≠n∧(f m).on=true:=by
 unfold offB at h
 split at h
 ·cases h
 ·rename_i e;exact⟨e,h⟩
theorem yh {f:Nat→Bv} {m:Nat} (h:m≠n):offB f n m = { f m with bells:=upd (f m).bells n false }:=if_neg h
theorem fK {f:Nat→Bv}:offB f n n=bv0:=if_pos rfl
theorem WOk.without (h:WOk W) (hls:Alone W n):WOk (W.without n):=by
 have hown:∀ m p,(W.without n).own m p=if m=n then none else W.own m p:=fun m p=>by
  show upd W.own n (fun _=>none) m p=_
  by_cases e:m=n
  ·subst e;rw[zl,if_pos rfl]
  ·rw[zh e,if_neg e]
 refine⟨fun m hm=>?_,fun m hm=>?_,fun m hm=>?_,fun m s hs=>?_,fun m=>?_,fun m j hm=>?_,fun m=>?_,fun m k hk=>?_,fun m p l hl=>?_,fun m=>?_,fun i hi=>?_,fun i hi=>?_,fun i hi=>?_,fun i j hi=>?_,fun m k w hw=>?_⟩
 ·have hm':(offB W.vm n m).on=false:=hm
  by_cases e:m=n
  ·subst e
   refine⟨fK,fun p=>by rw[hown,if_pos rfl],fun k=>?_⟩
   show upd W.alarm m _ m k=none
   rw[zl]
  ·rw[yh e] at hm'
   have:=h.off m hm'
   refine⟨?_,fun p=>by rw[hown,if_neg e];exact this.2.1 p,fun k=>?_⟩
   ·show offB W.vm n m=bv0
    rw[yh e,this.1]
    unfold bv0 upd
    simp
   ·show upd W.alarm n _ m k=none
    rw[zh e];exact this.2.2 k
 ·show (offB W.vm n m).on=false
  by_cases e:m=n
  ·subst e;rw[fK];rfl
  ·rw[yh e];exact h.six m hm
 ·obtain⟨e,hm'⟩:=zcQ hm
  show 1≤(offB W.vm n m).seats.length∧(offB W.vm n m).seats.length≤3
  rw[yh e];exact h.seats m hm'
 ·have hs':s∈(offB W.vm n m).seats:=hs
  by_cases e:m=n
  ·subst e;rw[fK] at hs';cases hs'
  ·rw[yh e] at hs';exact h.ok m s hs'
 ·show (offB W.vm n m).keys.length≤64∧Byt (offB W.vm n m).keys
  by_cases e:m=n
  ·subst e;rw[fK];exact⟨by decide,fun x hx=>by cases hx⟩
  ·rw[yh e];exact h.keys m
 ·obtain⟨e,hm'⟩:=zcQ hm
  show ((offB W.vm n m).disk j).length=256∧Byt ((offB W.vm n m).disk j)
  rw[yh e];exact h.disk m j hm'
 ·show 0≤(offB W.vm n m).quota∧(offB W.vm n m).quota≤32
  by_cases e:m=n
  ·subst e;rw[fK];exact⟨by decide,by decide⟩
  ·rw[yh e];exact h.quota m
 ·have hk':(offB W.vm n m).bells k=true:=hk
  by_cases e:m=n
  ·subst e;rw[fK] at hk';cases hk'
  ·rw[yh e] at hk'
   have hk2:upd (W.vm m).bells n false k=true:=hk'
   by_cases ek:k=n
   ·subst ek;rw[zl] at hk2;cases hk2
   ·rw[zh ek] at hk2
    have:=h.bells m k hk2
    refine⟨?_,?_,?_,this.2.2.2⟩
    ·show (offB W.vm n m).on=true
     rw[yh e];exact this.1
    ·show (offB W.vm n k).on=true
     rw[yh ek];exact this.2.1
    ·show (offB W.vm n k).bells m=true
     rw[yh ek]
     show upd (W.vm k).bells n false m=true
     rw[zh e];exact this.2.2.1
 ·rw[hown] at hl
  split at hl
  ·cases hl
  ·rename_i e
   have:=h.pg m p l hl
   refine⟨?_,this.2⟩
   show (offB W.vm n m).on=true
   rw[yh e];exact this.1
 ·show ((W.without n).pages m:Int)≤(offB W.vm n m).quota
  by_cases e:m=n
  ·subst e
   have:(W.without m).pages m=0:=xe fun p _=>by rw[hown,if_pos rfl];rfl
   rw[this,fK];exact Int.le_refl 0
  ·have:(W.without n).pages m=W.pages m:=ja fun p _=>by rw[hown,if_neg e]
   rw[this,yh e];exact h.most m
 ·have h1:=h.lsr i hi
  have h2:=hls i hi
  refine⟨h1.1,?_,?_,h1.2.2.2.1,?_,h1.2.2.2.2.2⟩
  ·show (offB W.vm n (W.ls i).fr).on=true
   rw[yh h2.1];exact h1.2.1
  ·show (offB W.vm n (W.ls i).to).on=true
   rw[yh h2.2];exact h1.2.2.1
  ·show ((W.without n).own (W.ls i).fr (W.ls i).pg).isSome=true
   rw[hown,if_neg h2.1];exact h1.2.2.2.2.1
 ·exact h.lso i hi
 ·intro p hp
  show (W.without n).own (W.ls i).to p=none
  rw[hown,if_neg (hls i hi).2];exact h.lsa i hi p hp
 ·exact h.lsu i j hi
 ·have hw':upd W.alarm n (fun _=>none) m k=some w:=hw
  by_cases e:m=n
  ·subst e;rw[zl] at hw';cases hw'
  ·rw[zh e] at hw'
   show k<(offB W.vm n m).seats.length∧_
   rw[yh e];exact h.alarm m k w hw'
def Rel.frs (_h:Rel C W φ) (n:Nat):List Nat:=(W.pgs n).map (φ n)++C.fr n
theorem ziR (h:Rel C W φ) (hon:(W.vm n).on=true) {f:Nat}:f∈(W.pgs n).map (φ n)++C.fr n↔f<C.N∧((C.own f).kind=3∨(C.own f).kind=2)∧(C.own f).vm=n:=by
 rw[List.mem_append,List.mem_map]
 constructor
 ·rintro (⟨p,hp,rfl⟩ | hf)
  ·obtain⟨l,hl⟩:=Option.isSome_iff_exists.1 (List.mem_filter.1 hp).2
   have:=h.pg n p l hl
   exact⟨this.1,.inl (by rw[this.2.1]),by rw[this.2.1]⟩
  ·have:=h.tabf n f hf
   exact⟨this.1,.inr (by rw[this.2]),by rw[this.2]⟩
 ·rintro⟨hf,hk | hk,hv⟩
  ·left
   obtain⟨m,q,h1,h2⟩:=h.pgk f hf hk
   obtain⟨l,hl⟩:=Option.isSome_iff_exists.1 h1
   have h3:=(h.pg m q l hl).2.1
   rw[h2] at h3
   rw[h3] at hv
   have:m=n:=by simp only at hv;omega
   subst this
   exact⟨q,List.mem_filter.2 ⟨List.mem_range.2 (h.wk.pg m q l hl).2.1,h1⟩,h2⟩
  ·right
   obtain⟨m,hm⟩:=h.tabk f hf hk
   have:=(h.tabf m f hm).2
   rw[this] at hv
   have:m=n:=by simp only at hv;omega
   subst this;exact hm
theorem zhw (h:Rel C W φ):((W.pgs n).map (φ n)).Nodup:=by
 unfold List.Nodup
 rw[List.pairwise_map]
 have hnd:=List.Pairwise.filter (fun p=>(W.own n p).isSome) (List.nodup_range (n:=32))
 rw[List.pairwise_iff_forall_sublist] at hnd ⊢
 intro a b hs he
 have ha:a∈(List.range 32).filter fun p=>(W.own n p).isSome:=hs.subset (by simp)
 have hb:b∈(List.range 32).filter fun p=>(W.own n p).isSome:=hs.subset (by simp)
 obtain⟨la,hla⟩:=Option.isSome_iff_exists.1 (List.mem_filter.1 ha).2
 obtain⟨lb,hlb⟩:=Option.isSome_iff_exists.1 (List.mem_filter.1 hb).2
 exact hnd hs (h.inj hla hlb he).2
theorem zff (h:Rel C W φ) (hon:(W.vm n).on=true):((W.pgs n).map (φ n)++C.fr n).Nodup:=by
 rw[List.nodup_append]
 refine⟨zhw h,(h.tab n hon).2.2,fun a ha b hb e=>?_⟩
 subst e
 obtain⟨p,hp,rfl⟩:=List.mem_map.1 ha
 obtain⟨l,hl⟩:=Option.isSome_iff_exists.1 (List.mem_filter.1 hp).2
 have h1:=(h.pg n p l hl).2.1
 have h2:=(h.tabf n _ hb).2
 rw[h1] at h2;simp at h2
theorem zjL (h:Rel C W φ) (hon:(W.vm n).on=true) {f:Nat} (hf:f∈(W.pgs n).map (φ n)++C.fr n):f<C.N∧C.used f=true:=by
 have:=(ziR h hon).1 hf
 refine⟨this.1,?_⟩
 rw[h.used f this.1]
 exact decide_eq_true (by omega)
theorem Rel.destroy (h:Rel C W φ) (hon:(W.vm n).on=true) (hls:Alone W n):Rel (C.without n ((W.pgs n).map (φ n)++C.fr n)) (W.without n) φ:=by
 have hmem:=fun f=>ziR h hon (f:=f)
 have hcount:=zfU (zff h hon) fun f hf=>zjL h hon hf
 have hnd:=zff h hon
 have hlen:((W.pgs n).map (φ n)++C.fr n).length=W.pages n+5:=by
  rw[List.length_append,List.length_map,ziD,(h.tab n hon).2.1]
 generalize hL:(W.pgs n).map (φ n)++C.fr n=L at hmem hcount hnd hlen
 have hown:∀ f,(C.without n L).own f=if f∈L then ow0 else C.own f:=fun f=>zgF
 have hno:∀ f,f<C.N→(C.own f).vm≠n→(C.without n L).own f=C.own f:=fun f hf hv=>by
  rw[hown,if_neg fun h=>hv ((hmem f).1 h).2.2]
 have hwo:∀ m p,(W.without n).own m p=if m=n then none else W.own m p:=fun m p=>by
  show upd W.own n (fun _=>none) m p=_
  by_cases e:m=n
  ·subst e;rw[zl,if_pos rfl]
  ·rw[zh e,if_neg e]
 have hwh:∀ m p,m≠n→(W.without n).where_ m p=W.where_ m p:=fun m p e=>by
  unfold Wd.where_
  rw[hwo,if_neg e];rfl
 refine⟨h.wk.without hls,by show offB C.vm n=offB W.vm n;rw[h.vm],h.ls,h.ev,h.N,h.form,h.now,fun m hm=>?_,fun m k=>?_,?_,h.left,fun f hf=>?_,fun f hf hk=>?_,fun f hf=>?_,h.len,fun m hm=>?_,fun m hm=>?_,fun m f hf=>?_,fun f hf hk=>?_,fun m j hm hj=>?_,fun m p hm hp=>?_,fun m p l hl=>?_,fun f hf hk=>?_,⟨h.hyp.1,fun f=>?_⟩,fun r hr=>?_,?_⟩
 ·obtain⟨e,hm'⟩:=zcQ hm
  have:=h.time m hm'
  show 0≤upd C.late n 0 m∧upd C.late n 0 m≤C.now∧W.time m=C.now-upd C.late n 0 m
  rw[zh e];exact this
 ·show upd C.alm n (fun _=>none) m k=(upd W.alarm n (fun _=>none) m k).map fun w=>min (w+upd C.late n 0 m) most64
  by_cases e:m=n
  ·subst e;rw[zl,zl,zl];rfl
  ·rw[zh e,zh e,zh e];exact h.alm m k
 ·show W.free+(5+(W.pages n:Int))=(count (fun f=>! offU C.used L f) C.N:Int)
  rw[hcount,hlen,h.free];omega
 ·show offU C.used L f=decide (((C.without n L).own f).kind≠0)
  rw[ziG,hown]
  by_cases e:f∈L
  ·rw[if_pos e,if_pos e];rfl
  ·rw[if_neg e,if_neg e];exact h.used f hf
 ·rw[hown] at hk ⊢
  split
  ·rfl
  ·rename_i e
   rw[if_neg e] at hk
   exact h.own0 f hf hk
 ·rw[hown]
  split
  ·exact⟨by decide,by decide⟩
  ·exact h.kind f hf
 ·have hm':(offB W.vm n m).on=false:=hm
  show upd C.fr n [] m=[]∧upd C.tf n 0 m=0∧upd C.late n 0 m=0
  by_cases e:m=n
  ·subst e;rw[zl,zl,zl];exact⟨rfl,rfl,rfl⟩
  ·rw[zh e,zh e,zh e]
   rw[yh e] at hm'
   exact h.off m hm'
 ·obtain⟨e,hm'⟩:=zcQ hm
  show upd C.tf n 0 m=C.form∧(upd C.fr n [] m).length=5∧(upd C.fr n [] m).Nodup
  rw[zh e,zh e];exact h.tab m hm'
 ·have hf':f∈upd C.fr n [] m:=hf
  by_cases e:m=n
  ·subst e;rw[zl] at hf';cases hf'
  ·rw[zh e] at hf'
   have:=h.tabf m f hf'
   refine⟨this.1,?_⟩
   rw[hno f this.1 (by rw[this.2];simp only;omega)];exact this.2
 ·rw[hown] at hk
  split at hk
  ·cases hk
  ·rename_i e
   obtain⟨m,hm⟩:=h.tabk f hf hk
   refine⟨m,?_⟩
   show f∈upd C.fr n [] m
   rw[zh fun em=>e ((hmem f).2 ⟨hf,.inr hk,by rw[(h.tabf m f hm).2,em]⟩)]
   exact hm
 ·obtain⟨e,hm'⟩:=zcQ hm
  show unp C.form (ld C.dat ((upd C.fr n [] m).getD 0 0) j)=some ((upd C.fr n [] m).getD (j+1) 0,true)
  rw[zh e];exact h.root m j hm' hj
 ·obtain⟨e,hm'⟩:=zcQ hm
  show LW C.form (ld C.dat ((upd C.fr n [] m).getD (p/8+1) 0) (p%8)) _
  rw[zh e,hwh m p e];exact h.leaf m p hm' hp
 ·rw[hwo] at hl
  split at hl
  ·cases hl
  ·rename_i e
   have:=h.pg m p l hl
   refine⟨this.1,?_,this.2.2⟩
   rw[hno _ this.1 (by rw[this.2.1];simp only;omega)];exact this.2.1
 ·rw[hown] at hk
  split at hk
  ·cases hk
  ·rename_i e
   obtain⟨m,p,h1,h2⟩:=h.pgk f hf hk
   refine⟨m,p,?_,h2⟩
   rw[hwo,if_neg ?_]
   ·exact h1
   ·intro em
    obtain⟨l,hl⟩:=Option.isSome_iff_exists.1 h1
    have h3:=(h.pg m p l hl).2.1
    rw[h2] at h3
    exact e ((hmem f).2 ⟨hf,.inl hk,by rw[h3,em]⟩)
 ·refine (h.hyp.2 f).trans ?_
  constructor
  ·rintro⟨h1,h2⟩
   refine⟨h1,?_⟩
   rw[hown,if_neg fun hm=>by have:=((hmem f).1 hm).2.1;omega];exact h2
  ·rintro⟨h1,h2⟩
   refine⟨h1,?_⟩
   rw[hown] at h2
   split at h2
   ·cases h2
   ·exact h2
 ·obtain⟨h1,h2⟩:=List.mem_filter.1 hr
  obtain⟨m,hm1,hm2,hm3⟩:=h.cache r h1
  have e:m≠n:=fun e=>by
   subst e
   rw[hm1] at h2;simp at h2
  refine⟨m,hm1,?_,?_⟩
  ·show (offB W.vm n m).on=true
   rw[yh e];exact hm2
  ·show walkC C.dat C.N (upd C.tf n 0 m) (upd C.fr n [] m) r.page=_
   rw[zh e,zh e];exact hm3
 ·exact Nat.le_trans (List.length_filter_le _ _) h.csize
end
end
end Go.Cr
namespace Go.Proofs.YthaiblbnpcgjpaaGreatDoor
section
open Go Go.Pt Go.Proofs.Tryz
attribute [local irreducible] lt WD WN Code.wp Back bodyPost wpList FR WL WC WQ WA AW Tr Yc HC AllC
set_option maxRecDepth 20000
set_option maxHeartbeats 4000000
def jm (S:Mem) (h:Pt) (n:Int) (Q:Mem→Prop):Prop:=
 nn h fun b o=>
 gP (S.cell b (o+3)) fun t=>
 nn t fun b_1 o_1=>
 gA (S.part b_1 (o_1+75) 96) fun t_1=>
 qC S t_1 n fun t_2 t_3 Sx=>
 t_2.all (·.oneCell')=true ∧
 jn (fun (Sx_1:Mem)=>
 gP (Sx_1.cell b (o+3)) fun t_4=>
 gI (nthL t_2 1) .i64 fun t_5=>
 nn t_4 fun b_3 o_2=>
 0≤t_5∧t_5<6 ∧
 gA (Sx_1.part b_3 (o_2+2+t_5.toNat*12+2) 2) fun t_6=>
 gP (Sx_1.cell b o) fun t_7=>
 gI (nthL t_2 2) .i64 fun t_8=>
 zP Sx_1 t_6 t_7 t_8 fun t_9 t_10 Sx_2=>
 Sx_2.cell b (o+3)=some (.pointer (some ⟨b_3,o_2,none⟩)) ∧
 t_9.all (·.oneCell')=true ∧
 gP (Sx_2.cell b (o+3)) fun t_11=>
 nn t_11 fun b_5 o_3=>
 gP (Sx_2.cell b_5 (o_3+74)) fun t_12=>
 gI (nthL t_9 1) .i64 fun t_13=>
 gI (nthL t_2 1) .i64 fun t_14=>
 qQ Sx_2 t_12 t_13 t_14 fun t_15 Sx_3=>
 Sx_3.cell b (o+3)=some (.pointer (some ⟨b_5,o_3,none⟩)) ∧
 gP (Sx_3.cell b (o+3)) fun t_16=>
 gP (Sx_3.cell b (o+3)) fun t_17=>
 nn t_17 fun b_6 o_4=>
 gA (Sx_3.part b_6 (o_4+75) 96) fun t_18=>
 kS Sx_3 t_18 n fun t_19 Sx_4=>
 Sx_4.cell b (o+3)=some (.pointer (some ⟨b_6,o_4,none⟩)) ∧
 Sx_4.cell b (o+3)=some (eP t_16) ∧
 nn t_16 fun b_7 o_5=>
 t_19.all (·.oneCell')=true ∧
 pt Sx_4 b_7 (o_5+75) 96 t_19 fun Sx_5=>
 Q Sx_5) fun Jx=>
 gI (nthL t_2 5) .i64 fun t_20=>
 if 0≤t_20 then
 gI (nthL t_2 3) .i64 fun t_21=>
 gI (nthL t_2 5) .i64 fun t_22=>
 yj Sx (some (b,o)) t_21 t_22 fun Sx_6=>
 Jx Sx_6
 else
 Jx Sx
theorem zeB {S:Mem} {h:Pt} {n:Int} {Q:Mem→Prop} (H:jm S h n Q):gW S h n Q:=by
 unfold jm at H
 exact Tr.intro func100 E ntmps100 E fun w0=>csr<|mv E E<|by obtain⟨b,o,rfl,H1⟩:=H;exact s_p E (qx E)<|s_p E (zA E E)<|gx H1 fun t ht H2=>s_v E (zG E) (qh ht)<|by obtain⟨b_1,o_1,rfl,H3⟩:=H2;exact s_p E (qx E)<|s_p E (zA E E)<|gx H3 fun t_1 ht_1 H4=>by refine s_v E (qk E (qL ht_1)) (jw ht_1) ?_;exact mv E E<|qz E E H4 fun rv Sx H5=>by obtain⟨t_2,t_3,rfl,ht_2,H6⟩:=H5;exact mv E E<|s_p E (zk E E)<|s_p E (zk E E)<|by refine zX E fun b_2=>?_;exact an H6 fun c H7=>zn 0 E E E E E ht_2 E c<|gv E E<|nx<|zy H7 (fun (J:Mem→Prop) (z:Unit) S=>J S) (fun z=>⟨77,[(0,.pointer (some ⟨b,o,none⟩)),(1,.int .i64 n),(4,.pointer (some ⟨b_2,0,none⟩))]⟩) (fun z=>[⟨b_2,51,t_2⟩]) (fun _ Sx_1 H8=>qb<|qa (by kernel_rfl)<|aTP 0 E (by decide +kernel) E (zp E)<|by exact aTP 1 E (by decide +kernel) E (qx E)<|by exact aTP 2 E (by decide +kernel) E (zA E E)<|by exact gx H8 fun t_4 ht_4 H9=>aT 3 E (by decide +kernel) E (zG E) (qh ht_4)<|by exact aTP 4 E (by decide +kernel) E (zA E E)<|by exact gx H9 fun t_5 ht_5 H10=>aT 5 E (by decide +kernel) E (zG E) (zR 0 E ht_5)<|by exact by obtain⟨b_3,o_2,rfl,H11⟩:=H10;exact aTP 6 E (by decide +kernel) E (qx E)<|by exact aTP 7 E (by decide +kernel) E (zA E E)<|by exact an2 H11 fun c_1 c_2 H12=>aTP 8 E (by decide +kernel) E (wO E E c_1 c_2 E)<|by exact aTP 9 E (by decide +kernel) E (zA E E)<|by exact gx H12 fun t_6 ht_6 H13=>by refine aT 10 E (by decide +kernel) E (qk E (qL ht_6)) (jw ht_6) ?_;exact aTP 11 E (by decide +kernel) E (zp E)<|by exact aTP 12 E (by decide +kernel) E (qx E)<|by exact aTP 13 E (by decide +kernel) E (zA E E)<|by exact gx H13 fun t_7 ht_7 H14=>aT 14 E (by decide +kernel) E (zG E) (qh ht_7)<|by exact aTP 15 E (by decide +kernel) E (zA E E)<|by exact gx H14 fun t_8 ht_8 H15=>aT 16 E (by decide +kernel) E (zG E) (zR 0 E ht_8)<|by exact ff 17 21 (by decide +kernel) E E (qz E E H15 fun rv Sx_2 H16=>by obtain⟨t_9,t_10,rfl,ht_9,H17⟩:=H16;exact by obtain⟨k,H18⟩:=H17;exact zr<|zH (zj (zR 0 E ht_5) (zj (qh k) zq))<|aTP 18 E (by decide +kernel) E (zp E)<|by exact aTP 19 E (by decide +kernel) E (zk E E)<|by exact aTP 20 E (by decide +kernel) E (zk E E)<|by exact zw 21 (by decide +kernel) E<|by exact by refine zX E fun b_4=>?_;exact zr<|zH (zj (zR 0 E ht_5) (zj (qh k) zq))<|zw 22 (by decide +kernel) E<|by exact an H18 fun c_3 H19=>zn 1 E E E E E ht_9 E c_3<|zr<|zH zq<|aTP 23 E (by decide +kernel) E (zT E)<|by exact zW (by decide +kernel)<|by exact zB<|qb<|qa (by kernel_rfl)<|aTP 0 E (by decide +kernel) E (zp E)<|by exact aTP 1 E (by decide +kernel) E (qx E)<|by exact aTP 2 E (by decide +kernel) E (zA E E)<|by exact gx H19 fun t_11 ht_11 H20=>aT 3 E (by decide +kernel) E (zG E) (qh ht_11)<|by exact by obtain⟨b_5,o_3,rfl,H21⟩:=H20;exact aTP 4 E (by decide +kernel) E (qx E)<|by exact aTP 5 E (by decide +kernel) E (zA E E)<|by exact gx H21 fun t_12 ht_12 H22=>aT 6 E (by decide +kernel) E (zG E) (qh ht_12)<|by exact aTP 7 E (by decide +kernel) E (zA E E)<|by exact gx H22 fun t_13 ht_13 H23=>aT 8 E (by decide +kernel) E (zG E) (zR 1 E ht_13)<|by exact aTP 9 E (by decide +kernel) E (zA E E)<|by exact gx H23 fun t_14 ht_14 H24=>aT 10 E (by decide +kernel) E (zG E) (zR 0 E ht_14)<|by exact zw 11 (by decide +kernel) E<|by exact kq E E H24 fun t_15 Sx_3 H25=>by obtain⟨k_1,H26⟩:=H25;exact zr<|zH (zj (qh k_1) zq)<|zW (by decide +kernel)<|by exact zB<|qa (by kernel_rfl)<|a_takeP 0 E (by decide +kernel) zb E (zp E)<|by exact a_takeP 1 E (by decide +kernel) zb E (qx E)<|by exact a_takeP 2 E (by decide +kernel) zb E (zA E E)<|by exact gx H26 fun t_16 ht_16 H27=>zY 3 E (by decide +kernel) zb E (zG E) (qh ht_16)<|by exact a_takeP 4 E (by decide +kernel) zb E (zp E)<|by exact a_takeP 5 E (by decide +kernel) zb E (qx E)<|by exact a_takeP 6 E (by decide +kernel) zb E (zA E E)<|by exact gx H27 fun t_17 ht_17 H28=>zY 7 E (by decide +kernel) zb E (zG E) (qh ht_17)<|by exact by obtain⟨b_6,o_4,rfl,H29⟩:=H28;exact a_takeP 8 E (by decide +kernel) zb E (qx E)<|by exact a_takeP 9 E (by decide +kernel) zb E (zA E E)<|by exact gx H29 fun t_18 ht_18 H30=>by refine zY 10 E (by decide +kernel) zb E (qk E (qL ht_18)) (jw ht_18) ?_;exact a_takeP 11 E (by decide +kernel) zb E (zp E)<|by exact zw 12 (by decide +kernel) E<|by exact qz E E H30 fun rv Sx_4 H31=>by obtain⟨t_19,rfl,ht_19,H32⟩:=H31;exact by obtain⟨k_2,H33⟩:=H32;exact by obtain⟨k_3,H34⟩:=H33;exact zr<|zH (zj (qh k_2) (zj (qh k_3) zq))<|by obtain⟨b_7,o_5,rfl,H35⟩:=H34;exact a_takeP 13 E (by decide +kernel) zb E (qx E)<|by exact a_takeP 14 E (by decide +kernel) zb E (zA E E)<|by exact zw 15 (by decide +kernel) E<|by exact an H35 fun c_4 H36=>an H36 fun c_5 H37=>vD E E E E ht_19 c_5 c_4<|zr<|zH zq<|zW (by decide +kernel)<|by exact zgz results100 (zi) ⟨E,H37⟩) (by refine zX E fun b_4=>?_;exact zr<|zH (zj (zR 0 E ht_8) (zj (qh ht_7) (zj (jw ht_6) (zj (zR 0 E ht_5) (zj (qh ht_4) zq)))))<|zw 17 (by decide +kernel) E<|by exact qz E E H15 fun rv Sx_2 H38=>by obtain⟨t_9,t_10,rfl,ht_9,H39⟩:=H38;exact by obtain⟨k,H40⟩:=H39;exact zr<|zH (zj (zR 0 E ht_5) (zj (qh k) zq))<|aTP 18 E (by decide +kernel) E (zp E)<|by exact aTP 19 E (by decide +kernel) E (zk E E)<|by exact aTP 20 E (by decide +kernel) E (zk E E)<|by exact zw 22 (by decide +kernel) E<|by exact an H40 fun c_3 H41=>zn 1 E E E E E ht_9 E c_3<|zr<|zH zq<|aTP 23 E (by decide +kernel) E (zT E)<|by exact zW (by decide +kernel)<|by exact zB<|qb<|qa (by kernel_rfl)<|aTP 0 E (by decide +kernel) E (zp E)<|by exact aTP 1 E (by decide +kernel) E (qx E)<|by exact aTP 2 E (by decide +kernel) E (zA E E)<|by exact gx H41 fun t_11 ht_11 H42=>aT 3 E (by decide +kernel) E (zG E) (qh ht_11)<|by exact by obtain⟨b_5,o_3,rfl,H43⟩:=H42;exact aTP 4 E (by decide +kernel) E (qx E)<|by exact aTP 5 E (by decide +kernel) E (zA E E)<|by exact gx H43 fun t_12 ht_12 H44=>aT 6 E (by decide +kernel) E (zG E) (qh ht_12)<|by exact aTP 7 E (by decide +kernel) E (zA E E)<|by exact gx H44 fun t_13 ht_13 H45=>aT 8 E (by decide +kernel) E (zG E) (zR 1 E ht_13)<|by exact aTP 9 E (by decide +kernel) E (zA E E)<|by exact gx H45 fun t_14 ht_14 H46=>aT 10 E (by decide +kernel) E (zG E) (zR 0 E ht_14)<|by exact zw 11 (by decide +kernel) E<|by exact kq E E H46 fun t_15 Sx_3 H47=>by obtain⟨k_1,H48⟩:=H47;exact zr<|zH (zj (qh k_1) zq)<|zW (by decide +kernel)<|by exact zB<|qa (by kernel_rfl)<|a_takeP 0 E (by decide +kernel) zb E (zp E)<|by exact a_takeP 1 E (by decide +kernel) zb E (qx E)<|by exact a_takeP 2 E (by decide +kernel) zb E (zA E E)<|by exact gx H48 fun t_16 ht_16 H49=>zY 3 E (by decide +kernel) zb E (zG E) (qh ht_16)<|by exact a_takeP 4 E (by decide +kernel) zb E (zp E)<|by exact a_takeP 5 E (by decide +kernel) zb E (qx E)<|by exact a_takeP 6 E (by decide +kernel) zb E (zA E E)<|by exact gx H49 fun t_17 ht_17 H50=>zY 7 E (by decide +kernel) zb E (zG E) (qh ht_17)<|by exact by obtain⟨b_6,o_4,rfl,H51⟩:=H50;exact a_takeP 8 E (by decide +kernel) zb E (qx E)<|by exact a_takeP 9 E (by decide +kernel) zb E (zA E E)<|by exact gx H51 fun t_18 ht_18 H52=>by refine zY 10 E (by decide +kernel) zb E (qk E (qL ht_18)) (jw ht_18) ?_;exact a_takeP 11 E (by decide +kernel) zb E (zp E)<|by exact zw 12 (by decide +kernel) E<|by exact qz E E H52 fun rv Sx_4 H53=>by obtain⟨t_19,rfl,ht_19,H54⟩:=H53;exact by obtain⟨k_2,H55⟩:=H54;exact by obtain⟨k_3,H56⟩:=H55;exact zr<|zH (zj (qh k_2) (zj (qh k_3) zq))<|by obtain⟨b_7,o_5,rfl,H57⟩:=H56;exact a_takeP 13 E (by decide +kernel) zb E (qx E)<|by exact a_takeP 14 E (by decide +kernel) zb E (zA E E)<|by exact zw 15 (by decide +kernel) E<|by exact an H57 fun c_4 H58=>an H58 fun c_5 H59=>vD E E E E ht_19 c_5 c_4<|zr<|zH zq<|zW (by decide +kernel)<|by exact zgz results100 (zi) ⟨E,H59⟩)) (fun Jx hJx H60=>csr<|s_p E (zA E E)<|gx H60 fun t_20 ht_20 H61=>s_v E (zG E) (zR 0 E ht_20)<|iteK H61 (fun c_6 H62=>s_p E (yT (wT E E) c_6)<|nx<|ctr E E<|mv E E<|s_p E (zA E E)<|gx H62 fun t_21 ht_21 H63=>s_v E (zG E) (zR 0 E ht_21)<|s_p E (zA E E)<|gx H63 fun t_22 ht_22 H64=>s_v E (zG E) (zR 0 E ht_22)<|zlu E E H64 fun Sx_6 H65=>zr<|hJx () _ _ _ _ [0] H65 E ⟨E,E,E,True.intro⟩ E) fun c_6 H62=>s_p E (yF (wT E E) c_6)<|nx<|cfs E E<|hJx () _ _ _ _ [0] H62 E ⟨E,E,E,True.intro⟩ E)
end
section
open Go Go.Pt Go.Cr Go.Hp
section
variable {S S':Mem} {ρ ρ':Rho} {R:Nat→Prop} {h:Nat} {A:Ad} {C:Cst} {W:Wd} {φ:Nat→Nat→Nat}
theorem relVs (hr:Rel C W φ) {f:Nat→Bv} (hon:∀ i,(f i).on=(W.vm i).on) (hk:WOk { W with vm:=f }):Rel { C with vm:=f } { W with vm:=f } φ:=
 { hr with wk:=hk,vm:=rfl,time:=fun n hn=>hr.time n (by rw[←hon];exact hn),off:=fun n hn=>hr.off n (by rw[←hon];exact hn),tab:=fun n hn=>hr.tab n (by rw[←hon];exact hn),root:=fun n j hn=>hr.root n j (by rw[←hon];exact hn),leaf:=fun n p hn=>hr.leaf n p (by rw[←hon];exact hn),cache:=fun r h=>
   let ⟨n,h1,h2,h3⟩:=hr.cache r h
   ⟨n,h1,(hon n).trans h2,h3⟩ }
theorem upd2 {α:Type} {f:Nat→α} {a b:Nat} {v w:α} {i:Nat}:upd (upd f a v) b w i=if i=b then w else if i=a then v else f i:=rfl
theorem zoU (hw:WOk W) {a b:Nat} (ha:(W.vm a).on=true) (hb:(W.vm b).on=true) (hne:a≠b) (on:Bool):WOk ((W.setV a ((W.vm a).ring b on)).setV b ((W.vm b).ring a on)):=by
 have e:∀ i,∃ g,((W.setV a ((W.vm a).ring b on)).setV b ((W.vm b).ring a on)).vm i = { W.vm i with bells:=g }∧∀ k,g k=if i=a∧k=b∨i=b∧k=a then on else (W.vm i).bells k:=fun i=>by
  show ∃ g,upd (upd W.vm a ((W.vm a).ring b on)) b ((W.vm b).ring a on) i=_∧_
  rw[upd2]
  by_cases e1:i=b
  ·subst e1
   rw[if_pos rfl]
   refine⟨_,rfl,fun k=>?_⟩
   show upd (W.vm i).bells a on k=_
   unfold upd
   by_cases e2:k=a
   ·rw[if_pos e2,if_pos (.inr ⟨rfl,e2⟩)]
   ·rw[if_neg e2,if_neg (by omega)]
  ·rw[if_neg e1]
   by_cases e2:i=a
   ·subst e2
    rw[if_pos rfl]
    refine⟨_,rfl,fun k=>?_⟩
    show upd (W.vm i).bells b on k=_
    unfold upd
    by_cases e3:k=b
    ·rw[if_pos e3,if_pos (.inl ⟨rfl,e3⟩)]
    ·rw[if_neg e3,if_neg (by omega)]
   ·rw[if_neg e2]
    exact⟨_,rfl,fun k=>by rw[if_neg (by omega)]⟩
 generalize hW2:(W.setV a ((W.vm a).ring b on)).setV b ((W.vm b).ring a on)=W2 at e
 have h1:W2.own=W.own:=by rw[←hW2];rfl
 have h2:W2.ls=W.ls:=by rw[←hW2];rfl
 have h3:W2.alarm=W.alarm:=by rw[←hW2];rfl
 have on2:∀ i,(W2.vm i).on=(W.vm i).on:=fun i=>by obtain⟨g,h,_⟩:=e i;rw[h]
 have se2:∀ i,(W2.vm i).seats=(W.vm i).seats:=fun i=>by obtain⟨g,h,_⟩:=e i;rw[h]
 have bl2:∀ i k,(W2.vm i).bells k=if i=a∧k=b∨i=b∧k=a then on else (W.vm i).bells k:=fun i k=>by obtain⟨g,h,h'⟩:=e i;rw[h];exact h' k
 have hp:∀ i,W2.pages i=W.pages i:=fun i=>by unfold Wd.pages;rw[h1]
 refine⟨fun n hn=>?_,fun n hn=>by rw[on2];exact hw.six n hn,fun n hn=>by rw[on2] at hn;rw[se2];exact hw.seats n hn,fun n=>by rw[se2];exact hw.ok n,fun n=>?_,fun n j hn=>?_,fun n=>?_,fun n k hk=>?_,fun n p l=>by rw[h1,on2];exact hw.pg n p l,fun n=>?_,fun i=>by rw[h2,h1,on2,on2];exact hw.lsr i,fun i=>by rw[h2];exact hw.lso i,fun i=>by rw[h2,h1];exact hw.lsa i,fun i j=>by rw[h2];exact hw.lsu i j,fun n k w=>by rw[h3,se2];exact hw.alarm n k w⟩
 ·rw[on2] at hn
  have h0:=hw.off n hn
  have na:n≠a:=fun e=>by rw[e,ha] at hn;cases hn
  have nb:n≠b:=fun e=>by rw[e,hb] at hn;cases hn
  refine⟨?_,by rw[h1];exact h0.2.1,by rw[h3];exact h0.2.2⟩
  obtain⟨g,h4,h5⟩:=e n
  have:g=(W.vm n).bells:=by funext k;rw[h5,if_neg (by omega)]
  rw[h4,this];exact h0.1
 ·obtain⟨g,h4,_⟩:=e n;rw[h4];exact hw.keys n
 ·rw[on2] at hn;obtain⟨g,h4,_⟩:=e n;rw[h4];exact hw.disk n j hn
 ·obtain⟨g,h4,_⟩:=e n;rw[h4];exact hw.quota n
 ·rw[on2,on2,bl2]
  rw[bl2] at hk
  by_cases h6:n=a∧k=b∨n=b∧k=a
  ·rw[if_pos h6] at hk
   rw[if_pos (by omega)]
   rcases h6 with ⟨e1,e2⟩ | ⟨e1,e2⟩ <;> subst e1 <;> subst e2
   ·exact⟨ha,hb,hk,hne.symm⟩
   ·exact⟨hb,ha,hk,hne⟩
  ·rw[if_neg h6] at hk
   rw[if_neg (by omega)]
   exact hw.bells n k hk
 ·rw[hp];obtain⟨g,h4,_⟩:=e n;rw[h4];exact hw.most n
theorem cbell (hc:CrabA S ρ h A C) {n m x:Nat} (hn:n<6) (hx:x=2+n*12+11) (on:Bool) {w:Int} (hw:w=(bI (upd (C.vm n).bells m on):Int)) {K:Mem→Prop}
  (hK:∀ S' A',Mv S ρ S' ρ (· = 7)→A'.t=A.t→(∀ i,(A'.x i).ss=(A.x i).ss)→CrabA S' ρ h A' { C with vm:=upd C.vm n ((C.vm n).ring m on) }→K S'):pt S A.t x 1 [.int .u32 w] K:=by
 have hvi:=hc.vs n hn
 refine zdc hc hn (j:=11) (vs:=[.int .u32 w]) (x':=A.x n) (v':=(C.vm n).ring m on) (tf':=C.tf n) (late':=C.late n) (fr':=C.fr n) hx rfl (by decide:11+1≤12) (by rw[hw];rfl) ⟨hvi.se,hvi.r,hvi.fr,hvi.ke,hvi.di⟩ fun S1 m1 hc1=>?_
 rw[zej] at hc1
 exact hK S1 { A with x:=upd A.x n (A.x n) } m1 rfl (fun i=>by show (upd A.x n (A.x n) i).ss=_;rw[xV]) hc1
theorem zeQ {v:Bv} {n:Nat} {a b:Bool}:(v.ring n a).ring n b=v.ring n b:=by unfold Bv.ring;simp only[gq]
theorem upd4 {f:Nat→Bv} {a b:Nat} (hne:a≠b) {x y z w:Bv}:upd (upd (upd (upd f a x) b y) a z) b w=upd (upd f a z) b w:=by
 funext i
 by_cases e1:i=b
 ·subst e1;rw[zl,zl]
 ·rw[zh e1,zh e1]
  by_cases e2:i=a
  ·subst e2;rw[zl,zl]
  ·rw[zh e2,zh e2,zh e1,zh e2]
theorem zkM (hc:CrabA S ρ h A C) (hr:Rel C W φ) {a b:Int} {on:Bool} {Q:Int→Mem→Prop} (hQ:∀ S',After h A C S ρ (W.join a b on).2 S'→Q (W.join a b on).1 S'):vC S (some (h,0)) a b on Q:=by
 unfold Wd.join at hQ
 apply zdW
 unfold ki
 refine zZ (fun J=>W.there a→W.there b→a≠b→J S) (fun ha hb hne=>?_) fun J hJ=>?_
 ·rw[if_neg (fun h=>h.elim (fun h=>h ha) fun h=>h hb),if_neg hne] at hQ
  obtain⟨a,rfl⟩:∃ m:Nat,a=m:=⟨a.toNat,by have:=ha.1;omega⟩
  obtain⟨b,rfl⟩:∃ m:Nat,b=m:=⟨b.toNat,by have:=hb.1;omega⟩
  have hao:(W.vm a).on=true:=by have:=ha.2.2;rwa [Int.toNat_natCast] at this
  have hbo:(W.vm b).on=true:=by have:=hb.2.2;rwa [Int.toNat_natCast] at this
  have ha6:a<6:=by have:=ha.2.1;omega
  have hb6:b<6:=by have:=hb.2.1;omega
  have hab:a≠b:=fun e=>hne (by rw[e])
  simp only[Int.toNat_natCast] at hQ ⊢
  have fin:∀ {S1:Mem} {A1:Ad} {f:Nat→Bv},Mv S ρ S1 ρ (· = 7)→CrabA S1 ρ h A1 { C with vm:=f }→A1.t=A.t→(∀ i,(A1.x i).ss=(A.x i).ss)→f=upd (upd C.vm a ((C.vm a).ring b on)) b ((C.vm b).ring a on)→Q 0 S1:=fun {S1 A1 f} m1 hc1 h1 h2 e=>by
   refine hQ S1 ⟨ρ,A1,_,φ,m1.mono fun r hr=>by unfold Rc;omega,hc1,?_,kp1,h1,h2⟩
   subst e
   rw[hr.vm]
   refine relVs hr (f:=upd (upd W.vm a ((W.vm a).ring b on)) b ((W.vm b).ring a on)) (fun i=>?_) (zoU hr.wk hao hbo hab on)
   rw[upd2]
   by_cases e1:i=b
   ·subst e1;rw[if_pos rfl];rfl
   ·rw[if_neg e1]
    by_cases e2:i=a
    ·subst e2;rw[if_pos rfl];rfl
    ·rw[if_neg e2]
  have c11:∀ {S1:Mem} {A1:Ad} {C1:Cst} {n x:Nat},CrabA S1 ρ h A1 C1→n<6→x=2+n*12+11→S1.cell A1.t x=some (.int .u32 (bI (C1.vm n).bells)):=fun hc1 hn hx=>hc1.vcell (j:=11) hn (by decide) hx
  rw[zL,zS hc.c3,zL]
  refine⟨by omega,by omega,?_⟩
  rw[zx (c11 hc ha6 (by omega))]
  refine⟨by omega,by omega,by omega,?_⟩
  refine cbell hc ha6 (m:=b) (by omega) false (zcW _ hb6) fun S1 A1 m1 t1 x1 hc1=>?_
  rw[zS hc1.c3,zL]
  refine⟨by omega,by omega,?_⟩
  rw[zx (c11 hc1 hb6 (by omega))]
  refine⟨by omega,by omega,by omega,?_⟩
  refine cbell hc1 hb6 (m:=a) (by omega) false (zcW _ ha6) fun S2 A2 m2 t2 x2 hc2=>?_
  have m12:=m1.trans m2
  have eb:upd C.vm a ((C.vm a).ring b false) b=C.vm b:=zh (Ne.symm hab)
  cases on with
  | false=>
   rw[if_neg (by decide)]
   refine fin m12 hc2 (t2.trans t1) (fun i=>(x2 i).trans (x1 i)) ?_
   dsimp only
   rw[eb]
  | true=>
   rw[if_pos rfl,zS hc2.c3,zL]
   refine⟨by omega,by omega,?_⟩
   rw[zx (c11 hc2 ha6 (by omega))]
   refine⟨by omega,by omega,by omega,?_⟩
   have ea2:upd (upd C.vm a ((C.vm a).ring b false)) b ((upd C.vm a ((C.vm a).ring b false) b).ring a false) a=(C.vm a).ring b false:=by rw[zh hab,zl]
   refine cbell hc2 ha6 (m:=b) (by omega) true ?_ fun S3 A3 m3 t3 x3 hc3=>?_
   ·dsimp only
    rw[ea2]
    have:=zjK (C.vm a).bells hb6
    unfold Bv.ring
    dsimp only
    rw[gq];exact this
   rw[zS hc3.c3,zL]
   refine⟨by omega,by omega,?_⟩
   rw[zx (c11 hc3 hb6 (by omega))]
   refine⟨by omega,by omega,by omega,?_⟩
   dsimp only at hc3 ⊢
   rw[ea2,eb,zeQ] at hc3
   have eb3:upd (upd (upd C.vm a ((C.vm a).ring b false)) b ((C.vm b).ring a false)) a ((C.vm a).ring b true) b=(C.vm b).ring a false:=by rw[zh (Ne.symm hab),zl]
   rw[ea2,eb,zeQ,eb3]
   refine cbell hc3 hb6 (m:=a) (by omega) true ?_ fun S4 A4 m4 t4 x4 hc4=>?_
   ·dsimp only
    rw[eb3]
    have:=zjK (C.vm b).bells ha6
    unfold Bv.ring
    dsimp only
    rw[gq];exact this
   refine fin ((m12.trans m3).trans m4) hc4 (t4.trans (t3.trans (t2.trans t1))) (fun i=>(x4 i).trans ((x3 i).trans ((x2 i).trans (x1 i)))) ?_
   dsimp only
   rw[eb3,zeQ,upd4 hab]
 ·rw[if_neg (by simp),zL,zS hc.c3]
  refine qJ hc ?_
  by_cases ha:W.there a
  ·rw[decide_eq_true ((qD hr).2 ha),if_pos rfl,zS hc.c3]
   refine qJ hc ?_
   by_cases hb:W.there b
   ·rw[decide_eq_true ((qD hr).2 hb),if_pos rfl]
    by_cases hne:a=b
    ·rw[if_pos hne]
     rw[if_neg (fun h=>h.elim (fun h=>h ha) fun h=>h hb),if_pos hne] at hQ
     exact hQ S (After.here hc hr)
    ·rw[if_neg hne];exact hJ ha hb hne
   ·rw[decide_eq_false fun h=>hb ((qD hr).1 h),if_neg (by decide)]
    rw[if_pos (.inr hb)] at hQ
    exact hQ S (After.here hc hr)
  ·rw[decide_eq_false fun h=>ha ((qD hr).1 h),if_neg (by decide)]
   rw[if_pos (.inl ha)] at hQ
   exact hQ S (After.here hc hr)
end
end
end Go.Proofs.YthaiblbnpcgjpaaGreatDoor
