/- Texts of this work,joined by program (pack.py): Wk,PsM,PsL,Lz,Hy,Hz,Ia,Ib. -/
import Derived.Test.YtabdpmnhjlmnlaaGreatDoorQLL
import Derived.Test.YtabdpmnhjlmnlaaGreatDoorQLC
import Derived.Test.YtabdpmnhjlmnlaaGreatDoorQLG
import Derived.Test.YtabdpmnhjlmnlaaGreatDoorQLE
import Derived.Test.YtabdpmnhjlmnlaaGreatDoorQLI
import Derived.Test.YtabdpmnhjlmnlaaGreatDoorQLJ
set_option linter.unusedVariables false
section
namespace Go.Cr
open Go Go.Pt
section
variable {W:Wd} {n:Nat}
theorem WOk.tell (h:WOk W) {m:Nat} {e:Evt}:WOk (W.tell m e):=⟨h.off,h.six,h.seats,h.ok,h.keys,h.disk,h.quota,h.bells,h.pg,h.most,h.lsr,h.lso,h.lsa,h.lsu,h.alarm⟩
theorem WOk.setAlarm (h:WOk W) (hon:(W.vm n).on=true) {k:Nat} (hk:k<(W.vm n).seats.length) {w:Int} (hw:W64 w):WOk (W.setAlarm n k w):=by
 refine⟨fun m hm=>⟨(h.off m hm).1,(h.off m hm).2.1,fun j=>?_⟩,h.six,h.seats,h.ok,h.keys,h.disk,h.quota,h.bells,h.pg,h.most,h.lsr,h.lso,h.lsa,h.lsu,fun m j a ha=>?_⟩
 ·have hm':(W.vm m).on=false:=hm
  show upd W.alarm n (upd (W.alarm n) k (some w)) m j=none
  rw[zv fun e=>by rw[e,hon] at hm';cases hm']
  exact (h.off m hm).2.2 j
 ·have ha':upd W.alarm n (upd (W.alarm n) k (some w)) m j=some a:=ha
  by_cases e:m=n
  ·subst e
   rw[zt] at ha'
   by_cases e2:j=k
   ·subst e2
    rw[zt] at ha'
    cases ha'
    exact⟨hk,hw⟩
   ·rw[zv e2] at ha';exact h.alarm m j a ha'
  ·rw[zv e] at ha';exact h.alarm m j a ha'
theorem WOk.setOF (h:WOk W) (hs:Sole W n) {p:Nat} (hp:p<32) {o:Option (List Int)} {f:Int} (ho:∀ l,o=some l→l.length=256∧Byt l) (hm:((W.setOF n p o f).pages n:Int)≤(W.vm n).quota):WOk (W.setOF n p o f):=by
 have hw:∀ m q,(W.setOF n p o f).own m q=if m=n∧q=p then o else W.own m q:=fun m q=>yJ m q
 refine⟨fun m hmo=>⟨(h.off m hmo).1,fun q=>?_,(h.off m hmo).2.2⟩,h.six,h.seats,h.ok,h.keys,h.disk,h.quota,h.bells,fun m q l hl=>?_,fun m=>?_,fun i hi=>?_,h.lso,fun i hi=>?_,fun i j hi=>?_,h.alarm⟩
 ·have hm':(W.vm m).on=false:=hmo
  rw[hw,if_neg fun e=>by rw[e.1,hs.on] at hm';cases hm']
  exact (h.off m hmo).2.1 q
 ·rw[hw] at hl
  split at hl
  ·rename_i e
   obtain⟨rfl,rfl⟩:=e
   exact⟨hs.on,hp,ho l hl⟩
  ·exact h.pg m q l hl
 ·by_cases e:m=n
  ·subst e;exact hm
  ·have:(W.setOF n p o f).pages m=W.pages m:=by
    unfold Wd.pages
    congr 1
    funext q
    rw[hw,if_neg fun h=>e h.1]
   rw[this];exact h.most m
 ·have:(W.ls i).on=true:=hi
  rw[hs.ls i] at this;cases this
 ·have:(W.ls i).on=true:=hi
  rw[hs.ls i] at this;cases this
 ·have:(W.ls i).on=true:=hi
  rw[hs.ls i] at this;cases this
theorem fk {p:Nat} (hp:p<32) {o:Option (List Int)} {f:Int}:(W.setOF n p o f).pages n+(W.own n p).isSome.toNat=W.pages n+o.isSome.toNat:=by
 have e:(fun q=>((W.setOF n p o f).own n q).isSome)=upd (fun q=>(W.own n q).isSome) p o.isSome:=by
  funext q
  show ((W.setO n p o).own n q).isSome=_
  rw[yJ]
  by_cases e:q=p
  ·subst e;rw[if_pos ⟨rfl,rfl⟩,zt]
  ·rw[if_neg fun h=>e h.2,zv e]
 unfold Wd.pages
 rw[e]
 exact kM hp _
structure Lft (n:Nat) (W W':Wd):Prop where
 wk:WOk W'
 so:Sole W' n
 f:W.free-1≤W'.free∧W'.free≤W.free+1
theorem Lft.refl (h:WOk W) (hs:Sole W n):Lft n W W:=⟨h,hs,by omega⟩
theorem Lft.setV (h:WOk W) (hs:Sole W n) {v:Bv} (hw:WOk (W.setV n v)) (hon:v.on=true):Lft n W (W.setV n v):=by
 refine⟨hw,⟨?_,fun m hm=>?_,hs.ls⟩,by show W.free-1≤W.free∧W.free≤W.free+1;omega⟩
 ·show (upd W.vm n v n).on=true
  rw[zt];exact hon
 ·show (upd W.vm n v m).on=false
  rw[zv hm];exact hs.off m hm
theorem WOk.putSeat (h:WOk W) (hon:(W.vm n).on=true) {k:Nat} {s:Seat} (hs:s.Ok):WOk (W.putSeat n k s):=by
 refine h.setV hon hon ?_ (fun t ht=>?_) (h.keys n) (fun j=>h.disk n j hon) rfl rfl
 ·show ((W.vm n).seats.set k s).length=_
  rw[List.length_set]
 ·have ht':t∈(W.vm n).seats.set k s:=ht
  rcases List.mem_or_eq_of_mem_set ht' with e | e
  ·exact h.ok n t e
  ·rw[e];exact hs
theorem Sole.putSeat (hs:Sole W n) {k:Nat} {s:Seat}:Sole (W.putSeat n k s) n:=by
 refine⟨?_,fun m hm=>?_,hs.ls⟩
 ·show (upd W.vm n _ n).on=true
  rw[zt];exact hs.on
 ·show (upd W.vm n _ m).on=false
  rw[zv hm];exact hs.off m hm
theorem zgZ (h:WOk W) {k:Nat} (hk:k<(W.vm n).seats.length):((W.vm n).seat k).Ok:=by
 have e:(W.vm n).seat k=(W.vm n).seats[k]:=by
  unfold Bv.seat
  rw[List.getD_eq_getElem?_getD,List.getElem?_eq_getElem hk];rfl
 rw[e];exact h.ok n _ (List.getElem_mem hk)
theorem zem (h:WOk W) (hs:Sole W n) {k:Nat} (hk:k<(W.vm n).seats.length) {c w1 w2 w3:Int} (h1:W64 w1):Lft n W (W.call n k c w1 w2 w3).2.2:=by
 have hr:=Lft.refl h hs
 unfold Wd.call
 refine qb (P:=fun r:Int×Int×Wd=>Lft n W r.2.2) (fun _=>⟨h.tell,⟨hs.on,hs.off,hs.ls⟩,by show W.free-1≤W.free∧W.free≤W.free+1;omega⟩) fun _=>?_
 refine qb (P:=fun r:Int×Int×Wd=>Lft n W r.2.2) (fun _=>?_) fun _=>?_
 ·unfold Wd.nextKey
  have h64:=h.keys n
  cases hk:(W.vm n).keys with
  | nil=>exact hr
  | cons x l=>
   rw[hk] at h64
   simp only[List.length_cons] at h64
   exact Lft.setV h hs (h.setV hs.on hs.on rfl (h.ok n) ⟨by show l.length≤64;omega,fun y hy=>h64.2 y (List.mem_cons_of_mem _ hy)⟩ (fun j=>h.disk n j hs.on) rfl rfl) hs.on
 refine qb (P:=fun r:Int×Int×Wd=>Lft n W r.2.2) (fun _=>?_) fun _=>?_
 ·unfold Wd.ring
  rw[if_pos (hs.noB h)];exact hr
 refine qb (P:=fun r:Int×Int×Wd=>Lft n W r.2.2) (fun _=>⟨h.setAlarm hs.on hk h1,⟨hs.on,hs.off,hs.ls⟩,by show W.free-1≤W.free∧W.free≤W.free+1;omega⟩) fun _=>?_
 refine qb (P:=fun r:Int×Int×Wd=>Lft n W r.2.2) (fun _=>?_) fun _=>?_
 ·unfold Wd.offer
  refine qb (P:=fun r:Int×Int×Wd=>Lft n W r.2.2) (fun _=>hr) fun _=>?_
  refine qb (P:=fun r:Int×Int×Wd=>Lft n W r.2.2) (fun _=>hr) fun ht=>?_
  rw[if_pos (hs.there (Decidable.not_not.1 ht)).symm];exact hr
 refine qb (P:=fun r:Int×Int×Wd=>Lft n W r.2.2) (fun _=>?_) fun _=>?_
 ·unfold Wd.lease
  rw[if_pos (.inr (.inr (hs.ls _)))];exact hr
 refine qb (P:=fun r:Int×Int×Wd=>Lft n W r.2.2) (fun _=>?_) fun _=>?_
 ·unfold Wd.give
  refine qb (P:=fun r:Int×Wd=>Lft n W r.2) (fun _=>hr) fun e=>?_
  refine qb (P:=fun r:Int×Wd=>Lft n W r.2) (fun _=>hr) fun _=>?_
  have hp:(small w1).toNat<32:=by
   unfold Wd.mine at e
   split at e
   ·exact absurd (by decide) e
   ·rename_i hh;omega
  refine⟨h.setOF (o:=none) hs hp (fun l hl=>by cases hl) ?_,hs.setOF (o:=none),by show W.free-1≤W.free+1∧W.free+1≤W.free+1;omega⟩
  have:=fk (W:=W) (n:=n) (f:=W.free+1) (o:=none) hp
  have h2:=h.most n
  simp only[Option.isSome_none,Bool.toNat_false] at this
  omega
 refine qb (P:=fun r:Int×Int×Wd=>Lft n W r.2.2) (fun _=>?_) fun _=>?_
 ·unfold Wd.get
  refine qb (P:=fun r:Int×Wd=>Lft n W r.2) (fun _=>hr) fun hp=>?_
  refine qb (P:=fun r:Int×Wd=>Lft n W r.2) (fun _=>hr) fun _=>?_
  refine qb (P:=fun r:Int×Wd=>Lft n W r.2) (fun _=>hr) fun hq=>?_
  refine qb (P:=fun r:Int×Wd=>Lft n W r.2) (fun _=>hr) fun _=>?_
  have hp:(small w1).toNat<32:=by omega
  refine⟨h.setOF (o:=some noughts) hs hp (fun l hl=>by cases hl;exact⟨qJ,fun x hx=>ja hx⟩) ?_,hs.setOF (o:=some noughts),by show W.free-1≤W.free-1∧W.free-1≤W.free+1;omega⟩
  have:=fk (W:=W) (n:=n) (f:=W.free-1) (o:=some noughts) hp
  simp only[Option.isSome_some,Bool.toNat_true] at this
  omega
 refine qb (P:=fun r:Int×Int×Wd=>Lft n W r.2.2) (fun _=>?_) fun _=>?_
 ·unfold Wd.load
  refine qb (P:=fun r:Int×Wd=>Lft n W r.2) (fun _=>hr) fun _=>?_
  refine qb (P:=fun r:Int×Wd=>Lft n W r.2) (fun _=>hr) fun _=>?_
  rw[hs.where_]
  cases ho:W.own n (small w2).toNat with
  | none=>exact hr
  | some l=>exact⟨h.setO ho (h.disk n _ hs.on),⟨hs.on,hs.off,hs.ls⟩,by show W.free-1≤W.free∧W.free≤W.free+1;omega⟩
 refine qb (P:=fun r:Int×Int×Wd=>Lft n W r.2.2) (fun _=>?_) fun _=>?_
 ·unfold Wd.save
  refine qb (P:=fun r:Int×Wd=>Lft n W r.2) (fun _=>hr) fun _=>?_
  refine qb (P:=fun r:Int×Wd=>Lft n W r.2) (fun _=>hr) fun _=>?_
  rw[hs.where_]
  cases ho:W.own n (small w2).toNat with
  | none=>exact hr
  | some l=>
   have hl:=(h.pg n _ l ho).2.2
   have e:((if (some l).isSome=true then some (n,(small w2).toNat,true) else none):Option (Nat×Nat×Bool))=some (n,(small w2).toNat,true):=rfl
   rw[e]
   dsimp only
   rw[ho]
   refine Lft.setV h hs (h.setV hs.on hs.on rfl (h.ok n) (h.keys n) (fun j=>?_) rfl rfl) hs.on
   show (upd (W.vm n).disk _ _ j).length=256∧Byt (upd (W.vm n).disk _ _ j)
   by_cases e:j=(small w1).toNat
   ·subst e;rw[zt];exact hl
   ·rw[zv e];exact h.disk n j hs.on
 refine qb (P:=fun r:Int×Int×Wd=>Lft n W r.2.2) (fun _=>hr) fun _=>?_
 refine qb (P:=fun r:Int×Int×Wd=>Lft n W r.2.2) (fun _=>?_) fun _=>hr
 have hd:(((W.vm n).seat k).die).Ok:={ zgZ h hk with st:=(by show (0:Int)≤2∧(2:Int)≤2;decide) }
 exact Lft.setV h hs (h.putSeat (k:=k) (s:=((W.vm n).seat k).die) hs.on hd) hs.on
theorem zjY (hs:Sole W n) (h:WOk W) {k:Nat} {c w1 w2 w3:Int}:(W.call n k c w1 w2 w3).2.1≠0→(W.call n k c w1 w2 w3).1=0:=by
 unfold Wd.call
 refine qb (P:=fun r:Int×Int×Wd=>r.2.1≠0→r.1=0) (fun _ _=>rfl) fun _=>?_
 refine qb (P:=fun r:Int×Int×Wd=>r.2.1≠0→r.1=0) (fun _=>?_) fun _=>?_
 ·unfold Wd.nextKey
  cases (W.vm n).keys with
  | nil=>exact fun _=>rfl
  | cons x l=>exact fun e=>absurd rfl e
 refine qb (P:=fun r:Int×Int×Wd=>r.2.1≠0→r.1=0) (fun _ _=>rfl) fun _=>?_
 refine qb (P:=fun r:Int×Int×Wd=>r.2.1≠0→r.1=0) (fun _ _=>rfl) fun _=>?_
 refine qb (P:=fun r:Int×Int×Wd=>r.2.1≠0→r.1=0) (fun _=>?_) fun _=>?_
 ·unfold Wd.offer
  refine qb (P:=fun r:Int×Int×Wd=>r.2.1≠0→r.1=0) (fun _ _=>rfl) fun _=>?_
  refine qb (P:=fun r:Int×Int×Wd=>r.2.1≠0→r.1=0) (fun _ _=>rfl) fun ht=>?_
  rw[if_pos (hs.there (Decidable.not_not.1 ht)).symm];exact fun _=>rfl
 refine qb (P:=fun r:Int×Int×Wd=>r.2.1≠0→r.1=0) (fun _ _=>rfl) fun _=>?_
 refine qb (P:=fun r:Int×Int×Wd=>r.2.1≠0→r.1=0) (fun _ _=>rfl) fun _=>?_
 refine qb (P:=fun r:Int×Int×Wd=>r.2.1≠0→r.1=0) (fun _ _=>rfl) fun _=>?_
 refine qb (P:=fun r:Int×Int×Wd=>r.2.1≠0→r.1=0) (fun _ _=>rfl) fun _=>?_
 refine qb (P:=fun r:Int×Int×Wd=>r.2.1≠0→r.1=0) (fun _ _=>rfl) fun _=>?_
 refine qb (P:=fun r:Int×Int×Wd=>r.2.1≠0→r.1=0) (fun _ e=>absurd rfl e) fun _=>?_
 refine qb (P:=fun r:Int×Int×Wd=>r.2.1≠0→r.1=0) (fun _ _=>rfl) fun _ _=>rfl
theorem ziJ (h:WOk W) (hs:Sole W n) {m b:Int} (hb:0≤b∧b≤255):Lft n W (W.key m b).2:=by
 unfold Wd.key
 refine qb (P:=fun r:Int×Wd=>Lft n W r.2) (fun _=>Lft.refl h hs) fun ht=>?_
 have hm:=hs.there (Decidable.not_not.1 ht)
 subst hm
 rw[Int.toNat_natCast]
 refine qb (P:=fun r:Int×Wd=>Lft n W r.2) (fun _=>Lft.refl h hs) fun h64=>?_
 have hk:=h.keys n
 have hw:WOk (W.setV n ((W.vm n).setKeys ((W.vm n).keys++[b]))):=h.setV hs.on hs.on rfl (h.ok n) ⟨by
  show ((W.vm n).keys++[b]).length≤64
  rw[List.length_append];simp;omega,fun x hx=>by
  have hx':x∈(W.vm n).keys++[b]:=hx
  rcases List.mem_append.1 hx' with hx | hx
  ·exact hk.2 x hx
  ·simp at hx;omega⟩ (fun j=>h.disk n j hs.on) rfl rfl
 have hl:=Lft.setV h hs hw hs.on
 have h1:=h.seats n hs.on
 have hln:0<((W.setV n ((W.vm n).setKeys ((W.vm n).keys++[b]))).vm n).seats.length:=by
  show 0<(upd W.vm n _ n).seats.length
  rw[zt]
  show 0<(W.vm n).seats.length
  omega
 generalize W.setV n ((W.vm n).setKeys ((W.vm n).keys++[b]))=X at hw hl hln
 show Lft n W (X.raise n 0 6).2
 unfold Wd.raise
 refine qb (P:=fun r:Int×Wd=>Lft n W r.2) (fun _=>hl) fun h2=>?_
 have hok:=zgZ hw hln
 have hok2:({ (X.vm n).seat 0 with pend:=ior .u32 ((X.vm n).seat 0).pend (2 ^ 6) }:Seat).Ok:={ hok with pend:=Go.Proofs.YtabdpmnhjlmnlaaGreatDoor.ror32 hok.pend (by decide) }
 have er:(((X.vm n).seat 0).raise 6).Ok:=by
  unfold Seat.raise
  rw[if_neg h2];exact Seat.wake_ok hok2
 have:=Lft.setV hw hl.so (hw.putSeat (k:=0) hl.so.on er) hl.so.on
 exact⟨this.wk,this.so,hl.f⟩
end
end Go.Cr
end
section
namespace Go.Proofs.YtabdpmnhjlmnlaaGreatDoor
open Go Go.Pt
attribute [local irreducible] Code.wp Back bodyPost wpList FR WL WC WQ WA AW Tr Yc HC AllC
set_option maxRecDepth 20000
set_option maxHeartbeats 4000000
set_option linter.unusedVariables false
end Go.Proofs.YtabdpmnhjlmnlaaGreatDoor
end
section
namespace Go.Proofs.YtabdpmnhjlmnlaaGreatDoor
open Go Go.Pt
attribute [local irreducible] Code.wp Back bodyPost wpList FR WL WC WQ WA AW Tr Yc HC AllC
set_option maxRecDepth 20000
set_option maxHeartbeats 4000000
set_option linter.unusedVariables false
def wc (S:Mem) (b:List Value) (n:Int) (vm:Int) (atx:Int) (Q:List Value→Int→Mem→Prop):Prop:=
 b.length=96 ∧
 yM S b n fun t t_1 Sx=>
 t.all (·.oneCell')=true ∧
 jn (fun (v:List Value) (Sx_1:Mem)=>
 v.length=96 ∧
 0≤n∧n<16 ∧
 (spl b (0+n.toNat*6+5) ([.int .i64 atx])).all (·.oneCell')=true ∧
 Q (spl b (0+n.toNat*6+5) ([.int .i64 atx])) 0 Sx_1) fun Jx=>
 if t_1≠0 then
 b.all (·.oneCell')=true ∧
 Q b t_1 Sx
 else
 gI (nthL t 3) .i64 fun t_2=>
 if t_2≠vm then
 b.all (·.oneCell')=true ∧
 Q b 7 Sx
 else
 gI (nthL t 5) .i64 fun t_3=>
 if 0≤t_3 then
 b.all (·.oneCell')=true ∧
 Q b 8 Sx
 else
 vL Sx vm atx fun t_4 Sx_2=>
 if t_4=true then
 Jx z72 Sx_2
 else
 b.all (·.oneCell')=true ∧
 Q b 1 Sx_2
theorem fa {S:Mem} {b:List Value} {n:Int} {vm:Int} {atx:Int} {Q:List Value→Int→Mem→Prop} (H:wc S b n vm atx Q):wV S b n vm atx Q:=by
 unfold wc at H
 exact Tr.intro Tryz.func222 E Tryz.ntmps222 E fun w0=>an H fun hb H1=>csr<|qI E E E fun b_1=>by refine zP E fun b_2=>?_;exact gv E E<|nxr<|by refine s_v E (zO E hb) (zD (k:=96) 0 E (zg hb)) ?_;exact mv E E<|qr E E H1 fun rv Sx H2=>by obtain⟨t,t_1,rfl,ht,H3⟩:=H2;exact mv E E<|s_p E (zj E E)<|s_p E (zj E E)<|by refine zP E fun b_3=>?_;exact an H3 fun c H4=>zq 2 E E E E E ht E c<|gv E E<|nx<|zm H4 (fun (J:List Value→Mem→Prop) (z:List Value) S=>J z S) (fun z=>⟨45,[(1,.int .i64 n),(3,.int .i64 atx),(4,.pointer (some ⟨b_1,0,none⟩)),(8,.pointer (some ⟨b_2,0,none⟩))]⟩) (fun z=>[⟨b_1,72,b⟩,⟨b_2,72,z⟩]) (fun v Sx_1 H5=>an H5 fun hv H6=>csr<|mv E E<|mv E E<|an2 H6 fun c_1 c_2 H7=>s_p E (zz E E c_1 c_2 E)<|s_p E (zp E E)<|qv (sz:=1) (vs:=[.int .i64 atx]) 0 E E E E E E (qt hb (by omega)) E<|nxr<|by refine s_v E (zO E (zC hb (by have:=True.intro;(try simp only[List.length_cons,List.length_nil]);omega))) (zD (k:=96) 0 E (zg (zC hb (by have:=True.intro;(try simp only[List.length_cons,List.length_nil]);omega)))) ?_;exact an H7 fun c_3 H8=>zq 1 E E E E E (zC hb (by have:=True.intro;(try simp only[List.length_cons,List.length_nil]);omega)) hv c_3<|gv E E<|nx<|zi<|zh Tryz.results222 (zy E (zD (k:=96) 1 E (zg (zC hb (by have:=True.intro;(try simp only[List.length_cons,List.length_nil]);omega)))) (zC hb (by have:=True.intro;(try simp only[List.length_cons,List.length_nil]);omega)) (zc E ze)) ⟨_,_,E,zC hb (by have:=True.intro;(try simp only[List.length_cons,List.length_nil]);omega),H8⟩) (fun Jx hJx H9=>zE<|csr<|mv E E<|iteK H9 (fun c_4 H10=>s_p E (yT (qm E E) c_4)<|gv E E<|nx<|c_t E E<|csr<|by refine s_v E (zO E hb) (zD (k:=96) 0 E (zg hb)) ?_;exact mv E E<|an H10 fun c_5 H11=>zq 1 E E E E E hb qD c_5<|gv E E<|nx<|zi<|zl<|zb<|zh Tryz.results222 (zy E (zD (k:=96) 1 E (zg hb)) hb (zc E ze)) ⟨_,_,E,hb,H11⟩) fun c_4 H10=>s_p E (yF (qm E E) c_4)<|gv E E<|nx<|c_f E E<|csr<|s_p E (zp E E)<|gx H10 fun t_2 ht_2 H12=>s_v E (zA E) (zQ 2 E ht_2)<|mv E E<|iteK H12 (fun c_6 H13=>s_p E (yT (qm E E) c_6)<|gv E E<|nx<|c_t E E<|csr<|by refine s_v E (zO E hb) (zD (k:=96) 0 E (zg hb)) ?_;exact an H13 fun c_7 H14=>zq 1 E E E E E hb qD c_7<|gv E E<|nx<|zi<|zl<|zb<|zh Tryz.results222 (zy E (zD (k:=96) 1 E (zg hb)) hb (zc E ze)) ⟨_,_,E,hb,H14⟩) fun c_6 H13=>s_p E (yF (qm E E) c_6)<|gv E E<|nx<|c_f E E<|csr<|s_p E (zp E E)<|gx H13 fun t_3 ht_3 H15=>s_v E (zA E) (zQ 2 E ht_3)<|iteK H15 (fun c_8 H16=>s_p E (yT (qq E E) c_8)<|gv E E<|nx<|c_t E E<|csr<|by refine s_v E (zO E hb) (zD (k:=96) 0 E (zg hb)) ?_;exact an H16 fun c_9 H17=>zq 1 E E E E E hb qD c_9<|gv E E<|nx<|zi<|zl<|zb<|zh Tryz.results222 (zy E (zD (k:=96) 1 E (zg hb)) hb (zc E ze)) ⟨_,_,E,hb,H17⟩) fun c_8 H16=>s_p E (yF (qq E E) c_8)<|gv E E<|nx<|c_f E E<|csr<|mv E E<|mv E E<|qM E E H16 fun t_4 Sx_2 H18=>by have H19:=wO H18;rcases H19 with ⟨rfl,H20⟩ | ⟨rfl,H20⟩;exact (s_p E (yB (qe E) E)<|gv E E<|nx<|cfs E E<|zS<|hJx z72 _ _ _ _ [0,0] H20 E ⟨E,E,E,E,True.intro⟩ E);exact (s_p E (yB (qe E) E)<|gv E E<|nx<|c_t E E<|csr<|by refine s_v E (zO E hb) (zD (k:=96) 0 E (zg hb)) ?_;exact an H20 fun c_10 H21=>zq 1 E E E E E hb qD c_10<|gv E E<|nx<|zi<|zl<|zb<|zh Tryz.results222 (zy E (zD (k:=96) 1 E (zg hb)) hb (zc E ze)) ⟨_,_,E,hb,H21⟩))
def vq (S:Mem) (b:List Value) (n:Int) (Q:List Value→Int→Mem→Prop):Prop:=
 b.length=96 ∧
 jn (fun (v:List Value) (Sx:Mem)=>
 v.length=6 ∧
 0≤n∧n<16 ∧
 gA (lpart b (0+n.toNat*6) 6) fun a=>
 a.all (·.oneCell')=true ∧
 Q a 0 Sx) fun Jx=>
 if n<0 then
 Q ([.bool false,.int .i64 0,.int .i64 0,.int .i64 0,.bool false,.int .i64 0]) 2 S
 else
 if 16≤n then
 Q ([.bool false,.int .i64 0,.int .i64 0,.int .i64 0,.bool false,.int .i64 0]) 2 S
 else
 0≤n∧n<16 ∧
 gB (nthL b (0+n.toNat*6)) fun t=>
 if t=true then
 Jx ([.bool false,.int .i64 0,.int .i64 0,.int .i64 0,.bool false,.int .i64 0]) S
 else
 Q ([.bool false,.int .i64 0,.int .i64 0,.int .i64 0,.bool false,.int .i64 0]) 2 S
theorem zbf {S:Mem} {b:List Value} {n:Int} {Q:List Value→Int→Mem→Prop} (H:vq S b n Q):yM S b n Q:=by
 unfold vq at H
 exact Tr.intro Tryz.func145 E Tryz.ntmps145 E fun w0=>an H fun hb H1=>csr<|qI E E E fun b_1=>by refine zP E fun b_2=>?_;exact gv E E<|nx<|zm H1 (fun (J:List Value→Mem→Prop) (z:List Value) S=>J z S) (fun z=>⟨23,[(1,.int .i64 n),(2,.pointer (some ⟨b_1,0,none⟩)),(4,.pointer (some ⟨b_2,0,none⟩))]⟩) (fun z=>[⟨b_1,72,b⟩,⟨b_2,70,z⟩]) (fun v Sx H2=>an H2 fun hv H3=>csr<|mv E E<|an2 H3 fun c c_1 H4=>s_p E (zz E E c c_1 E)<|gx H4 fun a ha H5=>by refine s_v E (zO E ((qV ha).2.2)) (zD 0 E ha) ?_;exact an H5 fun c_2 H6=>zq 1 E E E E E ((qV ha).2.2) hv c_2<|gv E E<|nx<|zi<|zh Tryz.results145 (zy E (zD (k:=6) 1 E (zg ((qV ha).2.2))) ((qV ha).2.2) (zc E ze)) ⟨_,_,E,(qV ha).2.2,H6⟩) (fun Jx hJx H7=>csr<|mv E E<|iteK H7 (fun c_3 H8=>s_p E (yT (zH E E) c_3)<|mv E E<|sk2 E E<|pk E E E<|mv E E<|sk4 E E E E<|zK E<|pk E E E<|nx<|c_t E E<|csr<|s_p E (zR E E)<|by exact qv (sz:=6) (vs:=[.bool false,.int .i64 0,.int .i64 0,.int .i64 0,.bool false,.int .i64 0]) 1 E E E E E E (Nat.le_of_ble_eq_true E) E<|gv E E<|nx<|zi<|zb<|zh Tryz.results145 (zy E (zD (k:=6) 1 E E) E (zc E ze)) ⟨_,_,E,E,H8⟩) fun c_3 H8=>s_p E (yF (zH E E) c_3)<|mv E E<|mv E E<|iteK H8 (fun c_4 H9=>s_p E (yT (qq E E) c_4)<|pk E E E<|mv E E<|sk4 E E E E<|zK E<|pk E E E<|nx<|c_t E E<|csr<|s_p E (zR E E)<|by exact qv (sz:=6) (vs:=[.bool false,.int .i64 0,.int .i64 0,.int .i64 0,.bool false,.int .i64 0]) 1 E E E E E E (Nat.le_of_ble_eq_true E) E<|gv E E<|nx<|zi<|zb<|zh Tryz.results145 (zy E (zD (k:=6) 1 E E) E (zc E ze)) ⟨_,_,E,E,H9⟩) fun c_4 H9=>s_p E (yF (qq E E) c_4)<|pk E E E<|mv E E<|mv E E<|an2 H9 fun c_5 c_6 H10=>s_p E (zz E E c_5 c_6 E)<|s_p E (zp E E)<|gx H10 fun t ht H11=>by have H12:=wO H11;rcases H12 with ⟨rfl,H13⟩ | ⟨rfl,H13⟩;exact (s_v E (zA E) (zQ 0 E ht)<|s_p E (yB (qe E) E)<|pk E E E<|nx<|cfs E E<|hJx ([.bool false,.int .i64 0,.int .i64 0,.int .i64 0,.bool false,.int .i64 0]) _ _ _ _ [0,0] H13 E ⟨E,E,E,True.intro⟩ E);exact (s_v E (zA E) (zQ 0 E ht)<|s_p E (yB (qe E) E)<|pk E E E<|nx<|c_t E E<|csr<|s_p E (zR E E)<|by exact qv (sz:=6) (vs:=[.bool false,.int .i64 0,.int .i64 0,.int .i64 0,.bool false,.int .i64 0]) 1 E E E E E E (Nat.le_of_ble_eq_true E) E<|gv E E<|nx<|zi<|zb<|zh Tryz.results145 (zy E (zD (k:=6) 1 E E) E (zc E ze)) ⟨_,_,E,E,H13⟩))
def wB (S:Mem) (b:List Value) (n:Int) (vm:Int) (Q:List Value→Int→Mem→Prop):Prop:=
 b.length=96 ∧
 yM S b n fun t t_1 Sx=>
 t.all (·.oneCell')=true ∧
 jn (fun (v:List Value) (Sx_1:Mem)=>
 v.length=96 ∧
 0≤n∧n<16 ∧
 (spl b (0+n.toNat*6+5) ([.int .i64 (-1)])).all (·.oneCell')=true ∧
 Q (spl b (0+n.toNat*6+5) ([.int .i64 (-1)])) 0 Sx_1) fun Jx=>
 if t_1≠0 then
 b.all (·.oneCell')=true ∧
 Q b t_1 Sx
 else
 gI (nthL t 3) .i64 fun t_2=>
 if t_2≠vm then
 b.all (·.oneCell')=true ∧
 Q b 7 Sx
 else
 gI (nthL t 5) .i64 fun t_3=>
 if t_3<0 then
 b.all (·.oneCell')=true ∧
 Q b 10 Sx
 else
 Jx z72 Sx
theorem fV {S:Mem} {b:List Value} {n:Int} {vm:Int} {Q:List Value→Int→Mem→Prop} (H:wB S b n vm Q):vl S b n vm Q:=by
 unfold wB at H
 exact Tr.intro Tryz.func223 E Tryz.ntmps223 E fun w0=>an H fun hb H1=>csr<|qI E E E fun b_1=>by refine zP E fun b_2=>?_;exact gv E E<|nxr<|by refine s_v E (zO E hb) (zD (k:=96) 0 E (zg hb)) ?_;exact mv E E<|qr E E H1 fun rv Sx H2=>by obtain⟨t,t_1,rfl,ht,H3⟩:=H2;exact mv E E<|s_p E (zj E E)<|s_p E (zj E E)<|by refine zP E fun b_3=>?_;exact an H3 fun c H4=>zq 2 E E E E E ht E c<|gv E E<|nx<|zm H4 (fun (J:List Value→Mem→Prop) (z:List Value) S=>J z S) (fun z=>⟨36,[(1,.int .i64 n),(3,.pointer (some ⟨b_1,0,none⟩)),(6,.pointer (some ⟨b_2,0,none⟩))]⟩) (fun z=>[⟨b_1,72,b⟩,⟨b_2,72,z⟩]) (fun v Sx_1 H5=>an H5 fun hv H6=>csr<|mv E E<|an2 H6 fun c_1 c_2 H7=>s_p E (zz E E c_1 c_2 E)<|s_p E (zp E E)<|qv (sz:=1) (vs:=[.int .i64 (-1)]) 0 E E E E E E (qt hb (by omega)) E<|nxr<|by refine s_v E (zO E (zC hb (by have:=True.intro;(try simp only[List.length_cons,List.length_nil]);omega))) (zD (k:=96) 0 E (zg (zC hb (by have:=True.intro;(try simp only[List.length_cons,List.length_nil]);omega)))) ?_;exact an H7 fun c_3 H8=>zq 1 E E E E E (zC hb (by have:=True.intro;(try simp only[List.length_cons,List.length_nil]);omega)) hv c_3<|gv E E<|nx<|zi<|zh Tryz.results223 (zy E (zD (k:=96) 1 E (zg (zC hb (by have:=True.intro;(try simp only[List.length_cons,List.length_nil]);omega)))) (zC hb (by have:=True.intro;(try simp only[List.length_cons,List.length_nil]);omega)) (zc E ze)) ⟨_,_,E,zC hb (by have:=True.intro;(try simp only[List.length_cons,List.length_nil]);omega),H8⟩) (fun Jx hJx H9=>zE<|csr<|mv E E<|iteK H9 (fun c_4 H10=>s_p E (yT (qm E E) c_4)<|gv E E<|nx<|c_t E E<|csr<|by refine s_v E (zO E hb) (zD (k:=96) 0 E (zg hb)) ?_;exact mv E E<|an H10 fun c_5 H11=>zq 1 E E E E E hb qD c_5<|gv E E<|nx<|zi<|zl<|zb<|zh Tryz.results223 (zy E (zD (k:=96) 1 E (zg hb)) hb (zc E ze)) ⟨_,_,E,hb,H11⟩) fun c_4 H10=>s_p E (yF (qm E E) c_4)<|gv E E<|nx<|c_f E E<|csr<|s_p E (zp E E)<|gx H10 fun t_2 ht_2 H12=>s_v E (zA E) (zQ 2 E ht_2)<|mv E E<|iteK H12 (fun c_6 H13=>s_p E (yT (qm E E) c_6)<|gv E E<|nx<|c_t E E<|csr<|by refine s_v E (zO E hb) (zD (k:=96) 0 E (zg hb)) ?_;exact an H13 fun c_7 H14=>zq 1 E E E E E hb qD c_7<|gv E E<|nx<|zi<|zl<|zb<|zh Tryz.results223 (zy E (zD (k:=96) 1 E (zg hb)) hb (zc E ze)) ⟨_,_,E,hb,H14⟩) fun c_6 H13=>s_p E (yF (qm E E) c_6)<|gv E E<|nx<|c_f E E<|csr<|s_p E (zp E E)<|gx H13 fun t_3 ht_3 H15=>s_v E (zA E) (zQ 2 E ht_3)<|iteK H15 (fun c_8 H16=>s_p E (yT (zH E E) c_8)<|gv E E<|nx<|c_t E E<|csr<|by refine s_v E (zO E hb) (zD (k:=96) 0 E (zg hb)) ?_;exact an H16 fun c_9 H17=>zq 1 E E E E E hb qD c_9<|gv E E<|nx<|zi<|zl<|zb<|zh Tryz.results223 (zy E (zD (k:=96) 1 E (zg hb)) hb (zc E ze)) ⟨_,_,E,hb,H17⟩) fun c_8 H16=>s_p E (yF (zH E E) c_8)<|gv E E<|nx<|cfs E E<|zS<|hJx z72 _ _ _ _ [0,0] H16 E ⟨E,E,E,True.intro⟩ E)
def wZ (S:Mem) (b:List Value) (vm:Int) (page:Int) (Q:Bool→Mem→Prop):Prop:=
 b.length=96 ∧
 jn (fun (Sx:Mem)=>
 Q false Sx) fun Jx=>
 lp (fun Xx (t:Int) (Sx_1:Mem)=>
 if t<16 then
 0≤t∧t<16 ∧
 gA (lpart b (t.toNat*6) 6) fun t_1=>
 t_1.all (·.oneCell')=true ∧
 gB (nthL t_1 0) fun t_2=>
 if t_2=true then
 gI (nthL t_1 1) .i64 fun t_3=>
 if t_3=vm then
 gI (nthL t_1 2) .i64 fun t_4=>
 if t_4=page then
 Q true Sx_1
 else
 Xx (IntKind.i64.wrap (t+1)) Sx_1
 else
 Xx (IntKind.i64.wrap (t+1)) Sx_1
 else
 Xx (IntKind.i64.wrap (t+1)) Sx_1
 else
 Jx Sx_1) 0 S
theorem zaD {S:Mem} {b:List Value} {vm:Int} {page:Int} {Q:Bool→Mem→Prop} (H:wZ S b vm page Q):vM S b vm page Q:=by
 unfold wZ at H
 exact Tr.intro Tryz.func225 E Tryz.ntmps225 E fun w0=>an H fun hb H1=>csr<|qI E E E fun b_1=>gv E E<|nx<|zm H1 (fun (J:Mem→Prop) (z:Unit) S=>J S) (fun z=>⟨28,[]⟩) (fun z=>[]) (fun _ Sx H2=>csr<|gv E E<|nx<|zi<|zh Tryz.results225 (zc E ze) ⟨_,E,H2⟩) (fun Jx hJx H3=>csr<|by refine s_v E (zO E hb) (zD (k:=96) 0 E (zg hb)) ?_;exact mv E E<|nx<|zE<|qS (fun z=>⟨28,[(1,.int .i64 vm),(2,.int .i64 page),(9,valL b),(10,.int .i64 z)]⟩) (fun z=>[]) 0 (idx:=[]) H3 E ⟨E,E,E,E,True.intro⟩ E<|fun Xx hXx t Sx_1 H4=>csr<|iteK H4 (fun c H5=>s_p E (yT (zH E E) c)<|nx<|zG<|c_t E E<|qw<|zr<|zG<|zE<|csr<|an2 H5 fun c_1 c_2 H6=>gx H6 fun t_1 ht_1 H7=>s_p E (zgG E E c_1 c_2 ht_1)<|by refine zP E fun b_2=>?_;exact an H7 fun c_3 H8=>zq 0 E E E E E ((qV ht_1).2.2) E c_3<|nxr<|s_p E (zp E E)<|gx H8 fun t_2 ht_2 H9=>by have H10:=wO H9;rcases H10 with ⟨rfl,H11⟩ | ⟨rfl,H11⟩;exact (s_v E (zA E) (zQ 0 E ht_2)<|mv E E<|s_p E (zp E E)<|gx H11 fun t_3 ht_3 H12=>s_v E (zA E) (zQ 0 E ht_3)<|mv E E<|iteK H12 (fun c_4 H13=>ceT E E E (c_4)<|pk E E E<|mv E E<|s_p E (zp E E)<|gx H13 fun t_4 ht_4 H14=>s_v E (zA E) (zQ 0 E ht_4)<|mv E E<|iteK H14 (fun c_5 H15=>ceT E E E (c_5)<|pk E E E<|nx<|c_t E E<|csr<|gv E E<|nx<|zi<|zl<|zb<|zb<|zl<|zb<|zh Tryz.results225 (zc E ze) ⟨_,E,H15⟩) fun c_5 H15=>ceF E E E (c_5)<|pk E E E<|nx<|cfs E E<|zS<|zr<|zx<|s_p E (qd E E)<|mv E E<|zn<|hXx (IntKind.i64.wrap (t+1)) _ _ _ _ [] H15 E ⟨E,E,E,E,True.intro⟩ E) fun c_4 H13=>ceF E E E (c_4)<|pk E E E<|mv E E<|sk4 E E E E<|pk E E E<|nx<|cfs E E<|zS<|zr<|zx<|s_p E (qd E E)<|mv E E<|zn<|hXx (IntKind.i64.wrap (t+1)) _ _ _ _ [] H13 E ⟨E,E,E,E,True.intro⟩ E);exact (s_v E (zA E) (zQ 0 E ht_2)<|mv E E<|sk4 E E E E<|pk E E E<|mv E E<|sk4 E E E E<|pk E E E<|nx<|cfs E E<|zS<|zr<|zx<|s_p E (qd E E)<|mv E E<|zn<|hXx (IntKind.i64.wrap (t+1)) _ _ _ _ [] H11 E ⟨E,E,E,E,True.intro⟩ E)) fun c H5=>s_p E (yF (zH E E) c)<|nx<|zG<|c_f E E<|qB<|zo<|zo<|zV<|hJx () _ _ _ _ [] H5 E True.intro E)
def wA (S:Mem) (b:List Value) (fromx:Int) (page:Int) (to:Int) (write:Bool) (Q:List Value→Int→Int→Mem→Prop):Prop:=
 b.length=96 ∧
 jn (fun (v:List Value) (Sx:Mem)=>
 v.length=96 ∧
 jn (fun (b_3:List Value) (v_1:List Value) (Sx_1:Mem)=>
 b_3.length=96 ∧
 v_1.length=96 ∧
 b_3.all (·.oneCell')=true ∧
 Q b_3 0 3 Sx_1) fun Jx=>
 lp (fun Xx (z:Int×List Value×List Value) (Sx_2:Mem)=>
 match z with
 | (t,b_4,v_2)=>
 b_4.length=96 ∧
 v_2.length=96 ∧
 if t<16 then
 0≤t∧t<16 ∧
 gA (lpart b (t.toNat*6) 6) fun t_1=>
 t_1.all (·.oneCell')=true ∧
 gB (nthL t_1 0) fun t_2=>
 if t_2=true then
 Xx (IntKind.i64.wrap (t+1),b_4,v_2) Sx_2
 else
 0≤t∧t<16 ∧
 (spl b_4 (0+t.toNat*6) ([.bool true,.int .i64 fromx,.int .i64 page,.int .i64 to,.bool write,.int .i64 (-1)])).all (·.oneCell')=true ∧
 Q (spl b_4 (0+t.toNat*6) ([.bool true,.int .i64 fromx,.int .i64 page,.int .i64 to,.bool write,.int .i64 (-1)])) t 0 Sx_2
 else
 Jx b_4 v_2 Sx_2) (0,b,v) Sx) fun Jx_1=>
 vL S fromx page fun t_3 Sx_3=>
 if t_3=true then
 vL Sx_3 to 0 fun t_4 Sx_4=>
 if t_4=true then
 if fromx=to then
 b.all (·.oneCell')=true ∧
 Q b 0 1 Sx_4
 else
 Jx_1 z72 Sx_4
 else
 b.all (·.oneCell')=true ∧
 Q b 0 1 Sx_4
 else
 b.all (·.oneCell')=true ∧
 Q b 0 1 Sx_3
theorem fU {S:Mem} {b:List Value} {fromx:Int} {page:Int} {to:Int} {write:Bool} {Q:List Value→Int→Int→Mem→Prop} (H:wA S b fromx page to write Q):vk S b fromx page to write Q:=by
 unfold wA at H
 exact Tr.intro Tryz.func221 E Tryz.ntmps221 E fun w0=>an H fun hb H1=>csr<|qI E E E fun b_1=>by refine zP E fun b_2=>?_;exact gv E E<|gv E E<|nx<|zm H1 (fun (J:List Value→Mem→Prop) (z:List Value) S=>J z S) (fun z=>⟨49,[(1,.int .i64 fromx),(2,.int .i64 page),(3,.int .i64 to),(4,.bool write),(5,.pointer (some ⟨b_1,0,none⟩)),(10,.pointer (some ⟨b_2,0,none⟩))]⟩) (fun z=>[⟨b_1,72,b⟩,⟨b_2,72,z⟩]) (fun v Sx H2=>an H2 fun hv H3=>zm H3 (fun (J:List Value→List Value→Mem→Prop) (z:List Value×List Value) S=>J z.1 z.2 S) (fun z=>⟨49,[(5,.pointer (some ⟨b_1,0,none⟩)),(10,.pointer (some ⟨b_2,0,none⟩))]⟩) (fun z=>[⟨b_1,72,z.1⟩,⟨b_2,72,z.2⟩]) (by rintro⟨b_3,v_1⟩ Sx_1 H4;exact an H4 fun hb_3 H5=>an H5 fun hv_1 H6=>csr<|by refine s_v E (zO E hb_3) (zD (k:=96) 0 E (zg hb_3)) ?_;exact an H6 fun c H7=>zq 1 E E E E E hb_3 hv_1 c<|gv E E<|gv E E<|nx<|zi<|zh Tryz.results221 (zy E (zD (k:=96) 1 E (zg hb_3)) hb_3 (zc E (zc E ze))) ⟨_,_,_,E,hb_3,H7⟩) (fun Jx hJx H8=>csr<|by refine s_v E (zO E hb) (zD (k:=96) 0 E (zg hb)) ?_;exact mv E E<|nx<|zE<|qS (fun z=>⟨49,[(1,.int .i64 fromx),(2,.int .i64 page),(3,.int .i64 to),(4,.bool write),(5,.pointer (some ⟨b_1,0,none⟩)),(10,.pointer (some ⟨b_2,0,none⟩)),(30,valL b),(31,.int .i64 z.1)]⟩) (fun z=>[⟨b_1,72,z.2.1⟩,⟨b_2,72,z.2.2⟩]) (0,b,v) (idx:=[0,0]) H8 E ⟨E,E,E,E,E,E,E,E,True.intro⟩ E<|by rintro Xx hXx ⟨t,b_4,v_2⟩ Sx_2 H9;exact an H9 fun hb_4 H10=>an H10 fun hv_2 H11=>csr<|iteK H11 (fun c_1 H12=>s_p E (yT (zH E E) c_1)<|nx<|zG<|c_t E E<|qw<|zr<|zG<|zE<|csr<|mv E E<|an2 H12 fun c_2 c_3 H13=>gx H13 fun t_1 ht_1 H14=>s_p E (zgG E E c_2 c_3 ht_1)<|by refine zP E fun b_5=>?_;exact gv E E<|an H14 fun c_4 H15=>zq 2 E E E E E ((qV ht_1).2.2) E c_4<|nxr<|s_p E (zp E E)<|gx H15 fun t_2 ht_2 H16=>by have H17:=wO H16;rcases H17 with ⟨rfl,H18⟩ | ⟨rfl,H18⟩;exact (s_v E (zA E) (zQ 2 E ht_2)<|s_p E (yB (qe E) E)<|nx<|cfs E E<|zS<|zr<|zx<|s_p E (qd E E)<|mv E E<|zn<|hXx (IntKind.i64.wrap (t+1),b_4,v_2) _ _ _ _ [0,0] H18 E ⟨E,E,E,E,E,E,E,E,True.intro⟩ E);exact (s_v E (zA E) (zQ 2 E ht_2)<|s_p E (yB (qe E) E)<|nx<|c_t E E<|csr<|mv E E<|mv E E<|mv E E<|mv E E<|mv E E<|s_p E (zR E E)<|by exact an2 H18 fun c_5 c_6 H19=>s_p E (zz E E c_5 c_6 E)<|qv (sz:=6) (vs:=[.bool true,.int .i64 fromx,.int .i64 page,.int .i64 to,.bool write,.int .i64 (-1)]) 0 E E E E E E (qt hb_4 (by omega)) E<|nxr<|by refine s_v E (zO E (zC hb_4 (by have:=True.intro;(try simp only[List.length_cons,List.length_nil]);omega))) (zD (k:=96) 0 E (zg (zC hb_4 (by have:=True.intro;(try simp only[List.length_cons,List.length_nil]);omega)))) ?_;exact mv E E<|an H19 fun c_7 H20=>zq 1 E E E E E (zC hb_4 (by have:=True.intro;(try simp only[List.length_cons,List.length_nil]);omega)) hv_2 c_7<|gv E E<|gv E E<|nx<|zi<|zl<|zb<|zb<|zl<|zb<|zh Tryz.results221 (zy E (zD (k:=96) 1 E (zg (zC hb_4 (by have:=True.intro;(try simp only[List.length_cons,List.length_nil]);omega)))) (zC hb_4 (by have:=True.intro;(try simp only[List.length_cons,List.length_nil]);omega)) (zc E (zc E ze))) ⟨_,_,_,E,zC hb_4 (by have:=True.intro;(try simp only[List.length_cons,List.length_nil]);omega),H20⟩)) fun c_1 H12=>s_p E (yF (zH E E) c_1)<|nx<|zG<|c_f E E<|qB<|zo<|zo<|zV<|hJx (b_4,v_2) _ _ _ _ [0,0] H12 E ⟨E,E,True.intro⟩ E)) (fun Jx_1 hJx_1 H21=>csr<|mv E E<|mv E E<|qM E E H21 fun t_3 Sx_3 H22=>by have H23:=wO H22;rcases H23 with ⟨rfl,H24⟩ | ⟨rfl,H24⟩;exact (s_p E (yB (qe E) E)<|mv E E<|mv E E<|qM E E H24 fun t_4 Sx_4 H25=>by have H26:=wO H25;rcases H26 with ⟨rfl,H27⟩ | ⟨rfl,H27⟩;exact (s_p E (yB (qe E) E)<|pk E E E<|mv E E<|mv E E<|mv E E<|iteK H27 (fun c_8 H28=>ceT E E E (c_8)<|pk E E E<|nx<|c_t E E<|csr<|by refine s_v E (zO E hb) (zD (k:=96) 0 E (zg hb)) ?_;exact an H28 fun c_9 H29=>zq 1 E E E E E hb qD c_9<|gv E E<|gv E E<|nx<|zi<|zb<|zh Tryz.results221 (zy E (zD (k:=96) 1 E (zg hb)) hb (zc E (zc E ze))) ⟨_,_,_,E,hb,H29⟩) fun c_8 H28=>ceF E E E (c_8)<|pk E E E<|nx<|cfs E E<|hJx_1 z72 _ _ _ _ [0,0] H28 E ⟨E,E,E,E,E,E,True.intro⟩ E);exact (s_p E (yB (qe E) E)<|pk E E E<|mv E E<|sk2 E E<|zK E<|pk E E E<|nx<|c_t E E<|csr<|by refine s_v E (zO E hb) (zD (k:=96) 0 E (zg hb)) ?_;exact an H27 fun c_10 H30=>zq 1 E E E E E hb qD c_10<|gv E E<|gv E E<|nx<|zi<|zb<|zh Tryz.results221 (zy E (zD (k:=96) 1 E (zg hb)) hb (zc E (zc E ze))) ⟨_,_,_,E,hb,H30⟩));exact (s_p E (yB (qe E) E)<|mv E E<|sk2 E E<|zK E<|pk E E E<|mv E E<|sk2 E E<|zK E<|pk E E E<|nx<|c_t E E<|csr<|by refine s_v E (zO E hb) (zD (k:=96) 0 E (zg hb)) ?_;exact an H24 fun c_11 H31=>zq 1 E E E E E hb qD c_11<|gv E E<|gv E E<|nx<|zi<|zb<|zh Tryz.results221 (zy E (zD (k:=96) 1 E (zg hb)) hb (zc E (zc E ze))) ⟨_,_,_,E,hb,H31⟩))
def xq (S:Mem) (b:List Value) (n:Int) (vm:Int) (Q:List Value→Int→Mem→Prop):Prop:=
 b.length=96 ∧
 yM S b n fun t t_1 Sx=>
 t.all (·.oneCell')=true ∧
 jn (fun (v:List Value) (Sx_1:Mem)=>
 v.length=96 ∧
 0≤n∧n<16 ∧
 (spl b (0+n.toNat*6) ([.bool false,.int .i64 0,.int .i64 0,.int .i64 0,.bool false,.int .i64 0])).all (·.oneCell')=true ∧
 Q (spl b (0+n.toNat*6) ([.bool false,.int .i64 0,.int .i64 0,.int .i64 0,.bool false,.int .i64 0])) 0 Sx_1) fun Jx=>
 if t_1≠0 then
 b.all (·.oneCell')=true ∧
 Q b t_1 Sx
 else
 gI (nthL t 1) .i64 fun t_2=>
 if t_2≠vm then
 b.all (·.oneCell')=true ∧
 Q b 7 Sx
 else
 gI (nthL t 5) .i64 fun t_3=>
 if 0≤t_3 then
 b.all (·.oneCell')=true ∧
 Q b 8 Sx
 else
 Jx z72 Sx
theorem jR {S:Mem} {b:List Value} {n:Int} {vm:Int} {Q:List Value→Int→Mem→Prop} (H:xq S b n vm Q):xY S b n vm Q:=by
 unfold xq at H
 exact Tr.intro Tryz.func224 E Tryz.ntmps224 E fun w0=>an H fun hb H1=>csr<|qI E E E fun b_1=>by refine zP E fun b_2=>?_;exact gv E E<|nxr<|by refine s_v E (zO E hb) (zD (k:=96) 0 E (zg hb)) ?_;exact mv E E<|qr E E H1 fun rv Sx H2=>by obtain⟨t,t_1,rfl,ht,H3⟩:=H2;exact mv E E<|s_p E (zj E E)<|s_p E (zj E E)<|by refine zP E fun b_3=>?_;exact an H3 fun c H4=>zq 2 E E E E E ht E c<|gv E E<|nx<|zm H4 (fun (J:List Value→Mem→Prop) (z:List Value) S=>J z S) (fun z=>⟨36,[(1,.int .i64 n),(3,.pointer (some ⟨b_1,0,none⟩)),(6,.pointer (some ⟨b_2,0,none⟩))]⟩) (fun z=>[⟨b_1,72,b⟩,⟨b_2,72,z⟩]) (fun v Sx_1 H5=>an H5 fun hv H6=>csr<|mv E E<|s_p E (zR E E)<|by exact an2 H6 fun c_1 c_2 H7=>s_p E (zz E E c_1 c_2 E)<|qv (sz:=6) (vs:=[.bool false,.int .i64 0,.int .i64 0,.int .i64 0,.bool false,.int .i64 0]) 0 E E E E E E (qt hb (by omega)) E<|nxr<|by refine s_v E (zO E (zC hb (by have:=True.intro;(try simp only[List.length_cons,List.length_nil]);omega))) (zD (k:=96) 0 E (zg (zC hb (by have:=True.intro;(try simp only[List.length_cons,List.length_nil]);omega)))) ?_;exact an H7 fun c_3 H8=>zq 1 E E E E E (zC hb (by have:=True.intro;(try simp only[List.length_cons,List.length_nil]);omega)) hv c_3<|gv E E<|nx<|zi<|zh Tryz.results224 (zy E (zD (k:=96) 1 E (zg (zC hb (by have:=True.intro;(try simp only[List.length_cons,List.length_nil]);omega)))) (zC hb (by have:=True.intro;(try simp only[List.length_cons,List.length_nil]);omega)) (zc E ze)) ⟨_,_,E,zC hb (by have:=True.intro;(try simp only[List.length_cons,List.length_nil]);omega),H8⟩) (fun Jx hJx H9=>zE<|csr<|mv E E<|iteK H9 (fun c_4 H10=>s_p E (yT (qm E E) c_4)<|gv E E<|nx<|c_t E E<|csr<|by refine s_v E (zO E hb) (zD (k:=96) 0 E (zg hb)) ?_;exact mv E E<|an H10 fun c_5 H11=>zq 1 E E E E E hb qD c_5<|gv E E<|nx<|zi<|zl<|zb<|zh Tryz.results224 (zy E (zD (k:=96) 1 E (zg hb)) hb (zc E ze)) ⟨_,_,E,hb,H11⟩) fun c_4 H10=>s_p E (yF (qm E E) c_4)<|gv E E<|nx<|c_f E E<|csr<|s_p E (zp E E)<|gx H10 fun t_2 ht_2 H12=>s_v E (zA E) (zQ 2 E ht_2)<|mv E E<|iteK H12 (fun c_6 H13=>s_p E (yT (qm E E) c_6)<|gv E E<|nx<|c_t E E<|csr<|by refine s_v E (zO E hb) (zD (k:=96) 0 E (zg hb)) ?_;exact an H13 fun c_7 H14=>zq 1 E E E E E hb qD c_7<|gv E E<|nx<|zi<|zl<|zb<|zh Tryz.results224 (zy E (zD (k:=96) 1 E (zg hb)) hb (zc E ze)) ⟨_,_,E,hb,H14⟩) fun c_6 H13=>s_p E (yF (qm E E) c_6)<|gv E E<|nx<|c_f E E<|csr<|s_p E (zp E E)<|gx H13 fun t_3 ht_3 H15=>s_v E (zA E) (zQ 2 E ht_3)<|iteK H15 (fun c_8 H16=>s_p E (yT (qq E E) c_8)<|gv E E<|nx<|c_t E E<|csr<|by refine s_v E (zO E hb) (zD (k:=96) 0 E (zg hb)) ?_;exact an H16 fun c_9 H17=>zq 1 E E E E E hb qD c_9<|gv E E<|nx<|zi<|zl<|zb<|zh Tryz.results224 (zy E (zD (k:=96) 1 E (zg hb)) hb (zc E ze)) ⟨_,_,E,hb,H17⟩) fun c_8 H16=>s_p E (yF (qq E E) c_8)<|gv E E<|nx<|cfs E E<|zS<|hJx z72 _ _ _ _ [0,0] H16 E ⟨E,E,E,True.intro⟩ E)
def jj (S:Mem) (vm:Int) (page:Int) (Q:Bool→Mem→Prop):Prop:=
 if 0≤vm then
 if vm<6 then
 if 0≤page then
 Q (decide (page<32)) S
 else
 Q false S
 else
 Q false S
 else
 Q false S
theorem zcX {S:Mem} {vm:Int} {page:Int} {Q:Bool→Mem→Prop} (H:jj S vm page Q):vL S vm page Q:=by
 unfold jj at H
 exact Tr.intro Tryz.func241 E Tryz.ntmps241 E fun w0=>csr<|gv E E<|nxr<|mv E E<|iteK H (fun c H1=>s_p E (yT (qq E E) c)<|mv E E<|mv E E<|iteK H1 (fun c_1 H2=>s_p E (yT (zH E E) c_1)<|pk E E E<|mv E E<|mv E E<|iteK H2 (fun c_2 H3=>s_p E (yT (qq E E) c_2)<|pk E E E<|mv E E<|mv E E<|s_p E (zH E E)<|pk E E E<|gv E E<|nx<|zi<|zh Tryz.results241 (zc E ze) ⟨_,E,H3⟩) fun c_2 H3=>s_p E (yF (qq E E) c_2)<|pk E E E<|mv E E<|sk2 E E<|pk E E E<|gv E E<|nx<|zi<|zh Tryz.results241 (zc E ze) ⟨_,E,H3⟩) fun c_1 H2=>s_p E (yF (zH E E) c_1)<|pk E E E<|mv E E<|sk2 E E<|pk E E E<|mv E E<|sk2 E E<|pk E E E<|gv E E<|nx<|zi<|zh Tryz.results241 (zc E ze) ⟨_,E,H2⟩) fun c H1=>s_p E (yF (qq E E) c)<|mv E E<|sk2 E E<|pk E E E<|mv E E<|sk2 E E<|pk E E E<|mv E E<|sk2 E E<|pk E E E<|gv E E<|nx<|zi<|zh Tryz.results241 (zc E ze) ⟨_,E,H1⟩
end Go.Proofs.YtabdpmnhjlmnlaaGreatDoor
end
section
namespace Go.Cr
open Go Go.Pt
def lsC (ls:Nat→Ls):List Value:=cF 16 fun i=>lsL (ls i)
theorem ge {ls:Nat→Ls}:(lsC ls).length=96:=xp (w:=6) fun _ _=>rfl
theorem zjI {ls:Nat→Ls} {i j x:Nat} (hi:i<16) (hj:j<6) (hx:x=i*6+j):nthL (lsC ls) x=nthL (lsL (ls i)) j:=by
 subst hx;exact zca (w:=6) (fun _ _=>rfl) hi hj
theorem zdl {ls:Nat→Ls} {i x:Nat} (hi:i<16) (hx:x=i*6):lpart (lsC ls) x 6=some (lsL (ls i)):=by
 subst hx
 have:=zbZ (w:=6) (k:=0) (m:=6) (n:=16) (f:=fun i=>lsL (ls i)) (fun _ _=>rfl) hi (by decide)
 rw[Nat.add_zero] at this
 exact this
theorem zdk {ls:Nat→Ls} {i j x:Nat} {vs:List Value} {l:Ls} (hi:i<16) (hx:x=i*6+j) (hj:j+vs.length≤6) (he:spl (lsL (ls i)) j vs=lsL l):spl (lsC ls) x vs=lsC (upd ls i l):=by
 subst hx
 unfold lsC
 rw[zen (w:=6) (fun _ _=>rfl) hi hj,he]
 refine yk fun g _=>?_
 by_cases e:g=i
 ·subst e;simp only[zt]
 ·simp only[zv e]
theorem zjk {n:Nat} {f:Nat→List Value} (h:∀ i,i<n→(f i).all (·.oneCell')=true):(cF n f).all (·.oneCell')=true:=by
 rw[List.all_eq_true]
 intro x hx
 obtain⟨i,hi,h2⟩:=zjl hx
 exact List.all_eq_true.1 (h i hi) x h2
theorem ym {ls:Nat→Ls}:(lsC ls).all (·.oneCell')=true:=zjk fun _ _=>rfl
end Go.Cr
namespace Go.Proofs.YtabdpmnhjlmnlaaGreatDoor
open Go Go.Pt Go.Cr
section
variable {S:Mem} {ls:Nat→Ls}
theorem zas {n:Int} {Q:List Value→Int→Mem→Prop} (hY:0≤n→n≤15→(ls n.toNat).on=true→Q (lsL (ls n.toNat)) 0 S) (hN:(n<0∨15<n∨(ls n.toNat).on=false)→Q (lsL ls0) 2 S):yM S (lsC ls) n Q:=by
 apply zbf
 unfold vq
 refine⟨ge,?_⟩
 simp only[jn]
 by_cases h0:n<0
 ·rw[if_pos h0];exact hN (.inl h0)
 rw[if_neg h0]
 by_cases h1:16≤n
 ·rw[if_pos h1];exact hN (.inr (.inl (by omega)))
 rw[if_neg h1]
 refine⟨by omega,by omega,?_⟩
 rw[zav (zjI (i:=n.toNat) (j:=0) (by omega) (by decide) (by omega))]
 cases hon:(ls n.toNat).on with
 | false=>rw[if_neg (by decide)];exact hN (.inr (.inr hon))
 | true=>
  rw[if_pos rfl]
  refine⟨rfl,by omega,by omega,?_⟩
  rw[zbk (zdl (i:=n.toNat) (by omega) (by omega))]
  exact⟨rfl,hY (by omega) (by omega) hon⟩
theorem fp {n:Int} {p:Int} {Q:Bool→Mem→Prop} (hQ:Q (decide (0≤n∧n<6∧0≤p∧p<32)) S):vL S n p Q:=by
 apply zcX
 unfold jj
 by_cases h0:0≤n
 ·rw[if_pos h0]
  by_cases h1:n<6
  ·rw[if_pos h1]
   by_cases h2:0≤p
   ·rw[if_pos h2]
    have e:decide (0≤n∧n<6∧0≤p∧p<32)=decide (p<32):=decide_eq_decide.2 ⟨fun h=>h.2.2.2,fun h=>⟨h0,h1,h2,h⟩⟩
    rw[e] at hQ;exact hQ
   ·rw[if_neg h2];rw[decide_eq_false (fun h=>h2 h.2.2.1)] at hQ;exact hQ
  ·rw[if_neg h1];rw[decide_eq_false (fun h=>h1 h.2.1)] at hQ;exact hQ
 ·rw[if_neg h0];rw[decide_eq_false (fun h=>h0 h.1)] at hQ;exact hQ
def z96:List Value:=[.bool false,.int .i64 0,.int .i64 0,.int .i64 0,.bool false,.int .i64 0]
theorem zdZ {n vm at_:Int} (hvm:0≤vm∧vm<6) {Q:List Value→Int→Mem→Prop}
  (h2:(n<0∨15<n∨(ls n.toNat).on=false)→Q (lsC ls) 2 S)
  (h7:0≤n→n≤15→(ls n.toNat).on=true→((ls n.toNat).to:Int)≠vm→Q (lsC ls) 7 S)
  (h8:0≤n→n≤15→(ls n.toNat).on=true→((ls n.toNat).to:Int)=vm→0≤(ls n.toNat).at_→Q (lsC ls) 8 S)
  (h1:0≤n→n≤15→(ls n.toNat).on=true→((ls n.toNat).to:Int)=vm→(ls n.toNat).at_<0→(at_<0∨31<at_)→Q (lsC ls) 1 S)
  (h0:0≤n→n≤15→(ls n.toNat).on=true→((ls n.toNat).to:Int)=vm→(ls n.toNat).at_<0→0≤at_→at_≤31→Q (lsC (upd ls n.toNat ((ls n.toNat).setA at_))) 0 S):wV S (lsC ls) n vm at_ Q:=by
 apply fa
 unfold wc
 refine⟨ge,?_⟩
 simp only[jn]
 refine zas (fun a b hon=>?_) fun hbad=>?_
 ·refine⟨rfl,?_⟩
  rw[if_neg (by decide),zW (show nthL (lsL (ls n.toNat)) 3=some (.int .i64 (ls n.toNat).to) from rfl)]
  by_cases ht:((ls n.toNat).to:Int)=vm
  ·rw[if_neg (fun h=>h ht),zW (show nthL (lsL (ls n.toNat)) 5=some (.int .i64 (ls n.toNat).at_) from rfl)]
   by_cases hat:0≤(ls n.toNat).at_
   ·rw[if_pos hat];exact⟨ym,h8 a b hon ht hat⟩
   ·rw[if_neg hat]
    refine fp ?_
    by_cases hp:0≤at_∧at_≤31
    ·rw[decide_eq_true ⟨hvm.1,hvm.2,hp.1,by omega⟩,if_pos rfl]
     refine⟨rfl,a,by omega,?_⟩
     rw[zdk (i:=n.toNat) (j:=5) (l:=((ls n.toNat).setA at_)) (by omega) (by omega) (by simp) rfl]
     exact⟨ym,h0 a b hon ht (by omega) hp.1 hp.2⟩
    ·rw[decide_eq_false (fun h=>hp ⟨h.2.2.1,by omega⟩),if_neg (by decide)]
     exact⟨ym,h1 a b hon ht (by omega) (by omega)⟩
  ·rw[if_pos ht];exact⟨ym,h7 a b hon ht⟩
 ·refine⟨rfl,?_⟩
  rw[if_pos (by decide)]
  exact⟨ym,h2 hbad⟩
theorem zeS {n vm:Int} {Q:List Value→Int→Mem→Prop}
  (h2:(n<0∨15<n∨(ls n.toNat).on=false)→Q (lsC ls) 2 S)
  (h7:0≤n→n≤15→(ls n.toNat).on=true→((ls n.toNat).to:Int)≠vm→Q (lsC ls) 7 S)
  (h10:0≤n→n≤15→(ls n.toNat).on=true→((ls n.toNat).to:Int)=vm→(ls n.toNat).at_<0→Q (lsC ls) 10 S)
  (h0:0≤n→n≤15→(ls n.toNat).on=true→((ls n.toNat).to:Int)=vm→0≤(ls n.toNat).at_→Q (lsC (upd ls n.toNat ((ls n.toNat).setA (-1)))) 0 S):vl S (lsC ls) n vm Q:=by
 apply fV
 unfold wB
 refine⟨ge,?_⟩
 simp only[jn]
 refine zas (fun a b hon=>?_) fun hbad=>?_
 ·refine⟨rfl,?_⟩
  rw[if_neg (by decide),zW (show nthL (lsL (ls n.toNat)) 3=some (.int .i64 (ls n.toNat).to) from rfl)]
  by_cases ht:((ls n.toNat).to:Int)=vm
  ·rw[if_neg (fun h=>h ht),zW (show nthL (lsL (ls n.toNat)) 5=some (.int .i64 (ls n.toNat).at_) from rfl)]
   by_cases hat:(ls n.toNat).at_<0
   ·rw[if_pos hat];exact⟨ym,h10 a b hon ht hat⟩
   ·rw[if_neg hat]
    refine⟨rfl,a,by omega,?_⟩
    rw[zdk (i:=n.toNat) (j:=5) (l:=((ls n.toNat).setA (-1))) (by omega) (by omega) (by simp) rfl]
    exact⟨ym,h0 a b hon ht (by omega)⟩
  ·rw[if_pos ht];exact⟨ym,h7 a b hon ht⟩
 ·refine⟨rfl,?_⟩
  rw[if_pos (by decide)]
  exact⟨ym,h2 hbad⟩
theorem zcm {n vm:Int} {Q:List Value→Int→Mem→Prop}
  (h2:(n<0∨15<n∨(ls n.toNat).on=false)→Q (lsC ls) 2 S)
  (h7:0≤n→n≤15→(ls n.toNat).on=true→((ls n.toNat).fr:Int)≠vm→Q (lsC ls) 7 S)
  (h8:0≤n→n≤15→(ls n.toNat).on=true→((ls n.toNat).fr:Int)=vm→0≤(ls n.toNat).at_→Q (lsC ls) 8 S)
  (h0:0≤n→n≤15→(ls n.toNat).on=true→((ls n.toNat).fr:Int)=vm→(ls n.toNat).at_<0→Q (lsC (upd ls n.toNat ls0)) 0 S):xY S (lsC ls) n vm Q:=by
 apply jR
 unfold xq
 refine⟨ge,?_⟩
 simp only[jn]
 refine zas (fun a b hon=>?_) fun hbad=>?_
 ·refine⟨rfl,?_⟩
  rw[if_neg (by decide),zW (show nthL (lsL (ls n.toNat)) 1=some (.int .i64 (ls n.toNat).fr) from rfl)]
  by_cases ht:((ls n.toNat).fr:Int)=vm
  ·rw[if_neg (fun h=>h ht),zW (show nthL (lsL (ls n.toNat)) 5=some (.int .i64 (ls n.toNat).at_) from rfl)]
   by_cases hat:0≤(ls n.toNat).at_
   ·rw[if_pos hat];exact⟨ym,h8 a b hon ht hat⟩
   ·rw[if_neg hat]
    refine⟨rfl,a,by omega,?_⟩
    rw[zdk (i:=n.toNat) (j:=0) (l:=ls0) (by omega) (by omega) (by simp) rfl]
    exact⟨ym,h0 a b hon ht (by omega)⟩
  ·rw[if_pos ht];exact⟨ym,h7 a b hon ht⟩
 ·refine⟨rfl,?_⟩
  rw[if_pos (by decide)]
  exact⟨ym,h2 hbad⟩
theorem zgl {vm:Nat} {page:Int} {Q:Bool→Mem→Prop} (hQ:Q (lentL ls vm page) S):vM S (lsC ls) vm page Q:=by
 apply zaD
 unfold wZ
 refine⟨ge,?_⟩
 simp only[jn]
 refine qx (fun (z:Int) S'=>∃ i:Nat,z=(i:Int)∧i≤16∧S'=S∧∀ j,j<i→¬((ls j).on=true∧(ls j).fr=vm∧((ls j).pg:Int)=page)) (fun z=>16-z.toNat) ?_ ⟨0,rfl,by omega,rfl,fun _ h=>by omega⟩
 rintro X z S' ⟨i,rfl,hi,rfl,hno⟩ ih
 by_cases hlt:(i:Int)<16
 ·rw[if_pos hlt]
  refine⟨by omega,by omega,?_⟩
  rw[Int.toNat_natCast,zbk (zdl (i:=i) (by omega) rfl)]
  refine⟨rfl,?_⟩
  have go:¬((ls i).on=true∧(ls i).fr=vm∧((ls i).pg:Int)=page)→X (IntKind.i64.wrap ((i:Int)+1)) S':=fun hn=>by
   rw[w64 (by omega) (by omega)]
   refine ih _ S' ⟨i+1,rfl,by omega,rfl,fun j hj=>?_⟩ (by omega)
   by_cases e:j=i
   ·subst e;exact hn
   ·exact hno j (by omega)
  rw[zav (show nthL (lsL (ls i)) 0=some (.bool (ls i).on) from rfl)]
  by_cases hon:(ls i).on=true
  ·rw[if_pos hon,zW (show nthL (lsL (ls i)) 1=some (.int .i64 (ls i).fr) from rfl)]
   by_cases ht:((ls i).fr:Int)=vm
   ·rw[if_pos ht,zW (show nthL (lsL (ls i)) 2=some (.int .i64 (ls i).pg) from rfl)]
    by_cases hat:((ls i).pg:Int)=page
    ·rw[if_pos hat]
     have e:lentL ls vm page=true:=by
      unfold lentL
      rw[List.any_eq_true]
      refine⟨i,List.mem_range.2 (by omega),?_⟩
      have:(ls i).fr=vm:=by omega
      simp[hon,this,hat]
     rw[e] at hQ;exact hQ
    ·rw[if_neg hat];exact go fun h=>hat h.2.2
   ·rw[if_neg ht];exact go fun h=>ht (by omega)
  ·rw[if_neg hon];exact go fun h=>hon h.1
 ·rw[if_neg hlt]
  have e:lentL ls vm page=false:=by
   unfold lentL
   rw[List.any_eq_false]
   intro j hj
   have:=hno j (by have:=List.mem_range.1 hj;omega)
   simp only[Bool.and_eq_true,decide_eq_true_eq]
   exact this
  rw[e] at hQ;exact hQ
theorem zeR {vm to p:Nat} {w:Bool} (hvm:vm<6) (hto:to<6) (hp:p<32) {Q:List Value→Int→Int→Mem→Prop}
  (h1:vm=to→Q (lsC ls) 0 1 S)
  (h3:vm≠to→firstOff (fun i=>(ls i).on) 16=none→Q (lsC ls) 0 3 S)
  (h0:∀ i,vm≠to→firstOff (fun i=>(ls i).on) 16=some i→Q (lsC (upd ls i ⟨true,vm,p,to,w,-1⟩)) i 0 S):vk S (lsC ls) vm p to w Q:=by
 apply fU
 unfold wA
 refine⟨ge,?_⟩
 simp only[jn]
 refine fp ?_
 rw[decide_eq_true ⟨by omega,by omega,by omega,by omega⟩,if_pos rfl]
 refine fp ?_
 rw[decide_eq_true ⟨by omega,by omega,by omega,by omega⟩,if_pos rfl]
 by_cases he:vm=to
 ·rw[if_pos (by omega)]
  exact⟨ym,h1 he⟩
 rw[if_neg (by omega)]
 refine⟨rfl,?_⟩
 refine qx (fun (z:Int×List Value×List Value) S'=>∃ (i:Nat) (v:List Value),z=((i:Int),lsC ls,v)∧v.length=96∧i≤16∧S'=S∧∀ j,j<i→(ls j).on=true) (fun z=>16-z.1.toNat) ?_ ⟨0,_,rfl,rfl,by omega,rfl,fun _ h=>by omega⟩
 rintro X z S' ⟨i,v,rfl,hv,hi,rfl,hno⟩ ih
 dsimp only at ih ⊢
 refine⟨ge,hv,?_⟩
 by_cases hlt:(i:Int)<16
 ·rw[if_pos hlt]
  refine⟨by omega,by omega,?_⟩
  rw[Int.toNat_natCast,zbk (zdl (i:=i) (by omega) rfl)]
  refine⟨rfl,?_⟩
  rw[zav (show nthL (lsL (ls i)) 0=some (.bool (ls i).on) from rfl)]
  cases hon:(ls i).on with
  | true=>
   rw[if_pos rfl,w64 (by omega) (by omega)]
   refine ih _ S' ⟨i+1,v,rfl,hv,by omega,rfl,fun j hj=>?_⟩ (by dsimp only;omega)
   by_cases e:j=i
   ·subst e;exact hon
   ·exact hno j (by omega)
  | false=>
   rw[if_neg (by decide)]
   refine⟨by omega,by omega,?_⟩
   rw[zdk (i:=i) (j:=0) (l:=⟨true,vm,p,to,w,-1⟩) (by omega) (by omega) (by simp) rfl]
   exact⟨ym,h0 i he (fD (by omega) hon hno)⟩
 ·rw[if_neg hlt]
  refine⟨ge,hv,ym,h3 he ?_⟩
  cases hf:firstOff (fun i=>(ls i).on) 16 with
  | none=>rfl
  | some g=>
   obtain⟨a,b,_⟩:=qN hf
   rw[hno g (by omega)] at b;cases b
end
end Go.Proofs.YtabdpmnhjlmnlaaGreatDoor
end
section
namespace Go.Proofs.YtabdpmnhjlmnlaaGreatDoor
open Go Go.Pt Go.Cr Go.Hp
structure Kp (C C':Cst):Prop where
 N:C'.N=C.N
 form:C'.form=C.form
 region:C'.region=C.region
 turns:C'.turns=C.turns
 now:C'.now=C.now
 late:C'.late=C.late
 tf:C'.tf=C.tf
 fr:C'.fr=C.fr
theorem Kp.refl {C:Cst}:Kp C C:=⟨rfl,rfl,rfl,rfl,rfl,rfl,rfl,rfl⟩
theorem Kp.trans {C C' C'':Cst} (h:Kp C C') (k:Kp C' C''):Kp C C'':=⟨k.N.trans h.N,k.form.trans h.form,k.region.trans h.region,k.turns.trans h.turns,k.now.trans h.now,k.late.trans h.late,k.tf.trans h.tf,k.fr.trans h.fr⟩
def After (h:Nat) (A:Ad) (C:Cst) (S:Mem) (ρ:Rho) (W':Wd) (S':Mem):Prop:=
 ∃ ρ' A' C' φ',Mv S ρ S' ρ' Rc∧CrabA S' ρ' h A' C'∧Rel C' W' φ'∧Kp C C'∧A'.t=A.t∧∀ i,(A'.x i).ss=(A.x i).ss
section
variable {S S':Mem} {ρ ρ':Rho} {h:Nat} {A:Ad} {C:Cst} {W:Wd} {φ:Nat→Nat→Nat}
theorem After.here (hc:CrabA S ρ h A C) (hr:Rel C W φ):After h A C S ρ W S:=⟨ρ,A,C,φ,Mv.refl hc.rg,hc,hr,Kp.refl,rfl,fun _=>rfl⟩
theorem After.keeps (hc:CrabA S ρ h A C) (hr:Rel C W φ) (hk:Keeps S S' []):After h A C S ρ W S':=⟨ρ,A,C,φ,hc.mv0 hk,hc.keeps hk,hr,Kp.refl,rfl,fun _=>rfl⟩
theorem or32 {a:Int} (ha:0≤a∧a≤255) {i:Nat} (hi:i<8):0≤ior .u32 a (2 ^ i)∧ior .u32 a (2 ^ i)≤255:=by
 obtain⟨m,rfl⟩:∃ m:Nat,a=m:=⟨a.toNat,by omega⟩
 have key:∀ m:Fin 256,∀ i:Fin 8,0≤ior .u32 ((m.1:Nat):Int) (2 ^ i.1)∧ior .u32 ((m.1:Nat):Int) (2 ^ i.1)≤255:=by decide +kernel
 exact key ⟨m,by omega⟩ ⟨i,hi⟩
theorem shl32 {i:Nat} (hi:i<8):ishl .u32 1 (i:Int)=2 ^ i:=by
 have key:∀ i:Fin 8,ishl .u32 1 ((i.1:Nat):Int)=2 ^ i.1:=by decide +kernel
 exact key ⟨i,hi⟩
theorem Seat.raise_ok' {s:Seat} (h:s.Ok) {i:Nat} (hi:i<8):(s.raise i).Ok:=by
 unfold Seat.raise
 split
 ·exact h
 ·exact Seat.wake_ok { h with pend:=or32 h.pend hi }
theorem zix {b o:Nat} {s:Seat} (hA:At S b o s.L) (hs:s.Ok) {i:Nat} (hi:i<8) {Q:Int→Mem→Prop} (hQ:Q (if s.st=2 then 10 else 0) (S.put b o (s.raise i).L)):gG S (some (b,o)) i Q:=by
 have hl:=hs.len
 have hp:=Pl.of hA hl
 apply zdC
 unfold gu
 simp only[jn]
 rw[if_neg (by simp)]
 apply zdB
 unfold gr
 rw[if_pos (by omega),decide_eq_true (by omega)]
 show if true=true then _ else _
 rw[if_pos rfl,qY,zW ((hA.cell (i:=23) (by rw[Seat.L_len hl];decide)).trans (Seat.g23 hl))]
 unfold Seat.raise at hQ
 by_cases h2:s.st=2
 ·rw[if_pos h2,if_pos h2,hA.self] at hQ
  rw[if_pos h2];exact hQ
 ·rw[if_neg h2,if_neg h2] at hQ
  rw[if_neg h2,qY,zW ((hA.cell (i:=24) (by rw[Seat.L_len hl];decide)).trans (Seat.g24 hl))]
  refine⟨by omega,?_⟩
  rw[shl32 hi]
  have e:=Seat.s24 hl (ior .u32 s.pend (2 ^ i))
  refine hA.pt1 (s':={ s with pend:=ior .u32 s.pend (2 ^ i) }) hl (by decide) e ?_
  exact zdx (s:={ s with pend:=ior .u32 s.pend (2 ^ i) }) hp hl hQ
theorem Rel.putSeat (hr:Rel C W φ) {n k:Nat} (hon:(W.vm n).on=true) (hk:k<(W.vm n).seats.length) {s:Seat} (ho:s.Ok):Rel { C with vm:=upd C.vm n ((C.vm n).setSeat k s) } (W.putSeat n k s) φ:=by
 rw[hr.vm]
 have h1:=hr.setV (v:=(W.vm n).setSeat k s) hon hon (hr.wk.setV hon hon (by show ((W.vm n).seats.set k s).length=_;rw[List.length_set]) (fun s' hs'=>by
  rcases List.mem_or_eq_of_mem_set hs' with e | e
  ·exact hr.wk.ok n s' e
  ·rw[e];exact ho) (hr.wk.keys n) (fun j=>hr.wk.disk n j hon) rfl rfl)
 rw[hr.vm] at h1
 exact h1
end
end Go.Proofs.YtabdpmnhjlmnlaaGreatDoor
end
section
namespace Go.Proofs.YtabdpmnhjlmnlaaGreatDoor
open Go Go.Pt Go.Cr Go.Hp
section
variable {S S':Mem} {ρ ρ':Rho} {h:Nat} {A:Ad} {C:Cst} {W:Wd} {φ:Nat→Nat→Nat}
end
end Go.Proofs.YtabdpmnhjlmnlaaGreatDoor
end
section
namespace Go.Proofs.YtabdpmnhjlmnlaaGreatDoor
open Go Go.Pt Go.Cr Go.Hp
section
variable {S S':Mem} {ρ ρ':Rho} {h:Nat} {A:Ad} {C:Cst} {W:Wd} {φ:Nat→Nat→Nat}
end
end Go.Proofs.YtabdpmnhjlmnlaaGreatDoor
end
section
namespace Go.Proofs.YtabdpmnhjlmnlaaGreatDoor
open Go Go.Pt Go.Cr Go.Hp
theorem zli {S:Mem} {e size bytes m:Nat} {z vs:List Value} {K:Sl→Mem→Prop} (hv:vs.length=m*size) (hz:z.length=size) (lim:(2*(0+m)+1024)*bytes≤281474976710656)
  (hK:∀ (s':Sl) (S':Mem),s'.n=m→Row S' size s' vs→Keeps S S' []→(∀ x o,s'.p=some (x,o)→S x=none)→K s' S'):ap S e size bytes z ⟨none,0,0⟩ m vs K:=by
 by_cases h0:m=0
 ·subst h0
  have:vs=[]:=List.length_eq_zero_iff.1 (by simpa using hv)
  subst this
  exact⟨lim,fun _=>.inl ⟨rfl,rfl,hK _ _ rfl Row.nil Keeps.refl fun x o h=>by cases h⟩,fun h=>by simp at h⟩
 ·refine jv Row.nil hv (by omega) hz lim fun s' S' b k hn hp hor hS hrow=>?_
  have hb:S b=none:=by
   rcases hor with e | e
   ·cases e
   ·exact e
  refine hK s' S' (by simpa using hn) (by simpa using hrow) (by rw[hS];exact Keeps.refl.fresh hb) fun x o h=>?_
  rw[hp] at h;cases h;exact hb
section
variable {S S':Mem} {ρ ρ':Rho} {h:Nat} {A:Ad} {C:Cst}
structure Wide (S:Mem) (ρ ρ':Rho):Prop where
 ext:∀ b r,ρ b=some r→ρ' b=some r
 rg:∀ b r,ρ' b=some r→S b≠none
 g0:ρ 0=none→ρ' 0=none
variable (w:Wide S ρ ρ')
include w
theorem wRw {r n:Nat} {s:Sl} {l:List Value} (h:Rw S ρ r n s l):Rw S ρ' r n s l:=⟨h.row,fun b o e=>w.ext b r (h.rol b o e)⟩
omit w
theorem ziE {b:Nat} {os os':List Nat} {rb rr:Nat} (hg:∀ b r,ρ b=some r→S b≠none) (hk:Keeps S S' (b :: os)) (hb:ρ b=some rb) (ho:∀ x∈os,ρ x=some rr) (hone:∀ x∈os',∀ y∈os',x=y) (hf:∀ x∈os',x∈os∨S x=none) (hal:Grows S S') (hs':∀ x∈os',S' x≠none) :
  ∃ ρ',Mv S ρ S' ρ' (fun r=>r=rb∨r=rr)∧∀ x∈os',ρ' x=some rr:=by
 have m0:Mv S ρ S' ρ (fun r=>r=rb∨r=rr):=Mv.keepsW hg hk fun w hw=>by
  rcases List.mem_cons.1 hw with e | e
  ·subst e;exact⟨hal w (hg w rb hb),rb,hb,.inl rfl⟩
  ·exact⟨hal w (hg w rr (ho w e)),rr,ho w e,.inr rfl⟩
 by_cases hex:∃ c,c∈os'∧S c=none
 ·obtain⟨c,hc,hcn⟩:=hex
  refine⟨ρ.upd c rr,⟨fun x r e=>?_,fun x r e hx=>?_,m0.kp,m0.al,fun x r e=>?_⟩,fun x hx=>by rw[hone x hx c hc];exact yt⟩
  ·rw[ky (fun e2=>hg x r e (by rw[e2];exact hcn))];exact e
  ·rw[ky (fun e2=>hx (by rw[e2];exact hcn))] at e;exact e
  ·by_cases e2:x=c
   ·rw[e2];exact hs' c hc
   ·rw[ky e2] at e;exact m0.rg x r e
 ·refine⟨ρ,m0,fun x hx=>?_⟩
  rcases hf x hx with e | e
  ·exact ho x e
  ·exact absurd ⟨x,hx,e⟩ hex
theorem zjE {s:Sl}:∀ x∈Hk.own s,∀ y∈Hk.own s,x=y:=by
 intro x hx y hy
 unfold Hk.own at hx hy
 cases hp:s.p with
 | none=>rw[hp] at hx;simp at hx
 | some q=>rw[hp] at hx hy;simp at hx hy;rw[hx,hy]
end
end Go.Proofs.YtabdpmnhjlmnlaaGreatDoor
end
