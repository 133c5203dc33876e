/- Texts of this work,joined by program (pack.py). -/
import Derived.Test.YtabdpmnhjlmnlaaGreatDoorQBH
import Derived.Test.YtabdpmnhjlmnlaaGreatDoorQBC
import Derived.Test.YtabdpmnhjlmnlaaGreatDoorQBD
import Derived.Lib.Mul64
set_option linter.unusedVariables false
section
namespace Go.Cr
open Go Go.Pt Go.Lib
def C64:Nat:=11400714819323198485
def mixN (x:Nat):Int:=ixor .u64 ((x*C64/18446744073709551616*131072%18446744073709551616+x*C64/18446744073709551616/140737488355328:Nat):Int) ((x*C64%18446744073709551616:Nat):Int)
def mixM (sum w:Int):Int:=mixN (ixor .u64 sum w).toNat
theorem zjB {a b:Nat} (ha:a<18446744073709551616) (hb:b<18446744073709551616):ixor .u64 a b=((a ^^^ b:Nat):Int):=by
 unfold ixor
 show IntKind.u64.wrap ((BitVec.ofInt 64 (a:Int) ^^^ BitVec.ofInt 64 (b:Int)).toNat:Int)=_
 rw[wS,wS,BitVec.toNat_xor,BitVec.toNat_ofNat,BitVec.toNat_ofNat,Nat.mod_eq_of_lt ha,Nat.mod_eq_of_lt hb]
 have:a ^^^ b<2 ^ 64:=Nat.xor_lt_two_pow (by omega) (by omega)
 exact wu64 (by omega) (by omega)
theorem zjA {a b:Int} (ha:W64 a) (hb:W64 b):∃ m:Nat,ixor .u64 a b=m∧m<18446744073709551616:=by
 obtain⟨x,rfl⟩:∃ m:Nat,a=m:=⟨a.toNat,by omega⟩
 obtain⟨y,rfl⟩:∃ m:Nat,b=m:=⟨b.toNat,by omega⟩
 refine⟨x ^^^ y,zjB (by omega) (by omega),?_⟩
 have:x ^^^ y<2 ^ 64:=Nat.xor_lt_two_pow (by omega) (by omega)
 omega
end Go.Cr
namespace Go.Proofs.YtabdpmnhjlmnlaaGreatDoor
open Go Go.Pt Go.Cr Go.Lib
section
variable {S:Mem}
theorem zng {x y:Nat} (hx:x<18446744073709551616) (hy:y<18446744073709551616) {Q:Int→Int→Mem→Prop} (hQ:Q ((x*y/18446744073709551616:Nat):Int) ((x*y%18446744073709551616:Nat):Int) S):zdu S x y Q:=by
 apply zhu
 unfold zaO
 obtain⟨bd,bt,bw,hhi⟩:=mul64_hi x y hx hy
 have ba:=half_mul_le (a:=x/4294967296) (b:=y/4294967296) (by omega) (by omega)
 have sx:ishr .u64 (x:Int) 32=((x/4294967296:Nat):Int):=vV (a:=x) (s:=32) (by decide)
 have sy:ishr .u64 (y:Int) 32=((y/4294967296:Nat):Int):=vV (a:=y) (s:=32) (by decide)
 have mk:∀ a:Nat,a<18446744073709551616→iand .u64 (a:Int) 4294967295=((a%4294967296:Nat):Int):=fun a h=>by
  have:=yE (a:=a) (b:=4294967295) h (by decide)
  have e:a &&& 4294967295=a%4294967296:=Nat.and_two_pow_sub_one_eq_mod a 32
  rw[e] at this;exact this
 have sr:∀ a:Nat,ishr .u64 (a:Int) 32=((a/4294967296:Nat):Int):=fun a=>vV (a:=a) (s:=32) (by decide)
 have wn:∀ a:Nat,a<18446744073709551616→IntKind.u64.wrap (a:Int)=(a:Int):=fun a h=>wu64 (by omega) (by omega)
 have wm:IntKind.u64.wrap ((x:Int)*y)=((x*y%18446744073709551616:Nat):Int):=by
  rw[←Int.natCast_mul,IntKind.wrap_u64];omega
 rw[sx,sy,mk x hx,mk y hy,wm]
 simp only[←Int.natCast_mul]
 generalize hp:x/4294967296*(y/4294967296)=p at *
 generalize hq:x/4294967296*(y%4294967296)=q at *
 generalize hr:x%4294967296*(y/4294967296)=r at *
 generalize ht:x%4294967296*(y%4294967296)=t at *
 rw[wn t (by omega),sr t,wn q (by omega),←Int.natCast_add,wn (q+t/4294967296) (by omega),sr,mk _ (by omega),wn r (by omega),←Int.natCast_add,wn ((q+t/4294967296)%4294967296+r) (by omega),sr,wn p (by omega),←Int.natCast_add,wn (p+(q+t/4294967296)/4294967296) (by omega),←Int.natCast_add,wn _ (by omega),hhi]
 exact hQ
theorem zmR {x:Nat} (hx:x<18446744073709551616) {Q:Int→Mem→Prop} (hQ:Q ((x*131072%18446744073709551616+x/140737488355328:Nat):Int) S):vG S x 17 Q:=by
 apply zbC
 unfold wL
 have e1:iand .u64 (IntKind.u64.wrap 17) 63=17:=by decide
 have e2:IntKind.u64.wrap (64-17)=47:=by decide
 rw[e1,e2]
 refine⟨by decide,by decide,?_⟩
 have e3:ishl .u64 (x:Int) 17=((x%140737488355328*2 ^ 17:Nat):Int):=by
  unfold ishl
  show IntKind.u64.wrap ((x:Int)*131072)=_
  rw[IntKind.wrap_u64];omega
 have e4:ishr .u64 (x:Int) 47=((x/140737488355328:Nat):Int):=vV (a:=x) (s:=47) (by decide)
 rw[e3,e4,zay (by omega) (by omega),zbp (by omega)]
 have:x%140737488355328*2 ^ 17=x*131072%18446744073709551616:=by omega
 rw[this];exact hQ
theorem znh {sum w:Int} (hs:W64 sum) (hw:W64 w) {Q:Int→Mem→Prop} (hQ:Q (mixM sum w) S):zek S sum w Q:=by
 apply zjO
 unfold zdv
 obtain⟨m,e,hm⟩:=zjA hs hw
 unfold mixM at hQ
 rw[e,Int.toNat_natCast] at hQ
 unfold mixN at hQ
 rw[e]
 refine zng (y:=C64) hm (by decide) ?_
 refine zmR (Nat.div_lt_of_lt_mul (Nat.mul_lt_mul_of_lt_of_le hm (by decide) (by decide))) ?_
 exact hQ
theorem zqz {sum w:Int} (hs:W64 sum) (hw:W64 w):W64 (mixM sum w):=by
 obtain⟨m,e,hm⟩:=zjA hs hw
 unfold mixM
 rw[e,Int.toNat_natCast]
 unfold mixN
 have hh:m*C64/18446744073709551616<18446744073709551616:=Nat.div_lt_of_lt_mul (Nat.mul_lt_mul_of_lt_of_le hm (by decide) (by decide))
 generalize m*C64/18446744073709551616=h at *
 have hl:m*C64%18446744073709551616<18446744073709551616:=Nat.mod_lt _ (by decide)
 generalize m*C64%18446744073709551616=lo at *
 obtain⟨z,ez,hz⟩:=zjA (a:=((h*131072%18446744073709551616+h/140737488355328:Nat):Int)) (b:=(lo:Int)) ⟨by omega,by omega⟩ ⟨by omega,by omega⟩
 rw[ez];exact⟨by omega,by omega⟩
set_option maxRecDepth 20000 in
theorem ziF {sum w:Int} (hs:W64 sum) (hw:W64 w) {Q:Int→Mem→Prop} (hQ:Q (mixM sum w) S):yJ S sum w Q:=by
 apply zaq
 unfold xV
 obtain⟨m,e,hm⟩:=zjA hs hw
 unfold mixM at hQ
 rw[e,Int.toNat_natCast] at hQ
 unfold mixN at hQ
 rw[e]
 obtain⟨bd,bt,bw,hhi⟩:=mul64_hi m C64 hm (by decide)
 have hsp:m*C64=(m/4294967296)*(C64/4294967296)*(4294967296*4294967296)+((m/4294967296)*(C64%4294967296)+(m%4294967296)*(C64/4294967296))*4294967296+(m%4294967296)*(C64%4294967296):=by
  have h:=Go.Lib.split_mul (m/4294967296) (m%4294967296) (C64/4294967296) (C64%4294967296) 4294967296
  rw[Nat.div_add_mod' m 4294967296,Nat.div_add_mod' C64 4294967296] at h
  exact h
 have ba:=half_mul_le (a:=m/4294967296) (b:=C64/4294967296) (by omega) (by decide)
 have dv:∀ a:Nat,a<18446744073709551616→IntKind.u64.wrap (Int.tdiv (a:Int) 4294967296)=((a/4294967296:Nat):Int):=fun a h=>by rw[td (by omega),wu64 (by omega) (by omega)];omega
 have md:∀ a:Nat,Int.tmod (a:Int) 4294967296=((a%4294967296:Nat):Int):=fun a=>by rw[tm (by omega)];omega
 have wn:∀ a:Nat,a<18446744073709551616→IntKind.u64.wrap (a:Int)=(a:Int):=fun a h=>wu64 (by omega) (by omega)
 have cd:IntKind.u64.wrap (Int.tdiv 11400714819323198485 4294967296)=((C64/4294967296:Nat):Int):=by decide
 have cm:Int.tmod 11400714819323198485 4294967296=((C64%4294967296:Nat):Int):=by decide
 simp only[cd,cm,dv m hm,md m,←Int.natCast_mul]
 generalize hp:m/4294967296*(C64/4294967296)=p at *
 generalize hq:m/4294967296*(C64%4294967296)=q at *
 generalize hr:m%4294967296*(C64/4294967296)=r at *
 generalize ht:m%4294967296*(C64%4294967296)=t at *
 simp only[wn t (by omega),wn q (by omega),wn r (by omega),wn p (by omega),dv t (by omega),md t,←Int.natCast_add]
 simp only[wn (q+t/4294967296) (by omega),dv (q+t/4294967296) (by omega),md (q+t/4294967296),←Int.natCast_add]
 simp only[wn (r+(q+t/4294967296)%4294967296) (by omega),dv (r+(q+t/4294967296)%4294967296) (by omega),md (r+(q+t/4294967296)%4294967296),←Int.natCast_add]
 have hhi2:p+(q+t/4294967296)/4294967296+(r+(q+t/4294967296)%4294967296)/4294967296=m*C64/18446744073709551616:=by rw[←hhi,Nat.add_comm r]
 have hh:m*C64/18446744073709551616<18446744073709551616:=Nat.div_lt_of_lt_mul (Nat.mul_lt_mul_of_lt_of_le hm (by decide) (by decide))
 have hlo:(r+(q+t/4294967296)%4294967296)%4294967296*4294967296+t%4294967296=m*C64%18446744073709551616:=by omega
 have l1:IntKind.u64.wrap ((((r+(q+t/4294967296)%4294967296)%4294967296:Nat):Int)*4294967296)=(((r+(q+t/4294967296)%4294967296)%4294967296*4294967296:Nat):Int):=by rw[wu64 (by omega) (by omega)];omega
 rw[wn (p+(q+t/4294967296)/4294967296) (by omega)]
 rw[←Int.natCast_add,wn (p+(q+t/4294967296)/4294967296+(r+(q+t/4294967296)%4294967296)/4294967296) (by omega),hhi2,l1,←Int.natCast_add,hlo]
 generalize m*C64/18446744073709551616=h at *
 have hl:m*C64%18446744073709551616<18446744073709551616:=Nat.mod_lt _ (by decide)
 generalize m*C64%18446744073709551616=lo at *
 have h1:IntKind.u64.wrap ((h:Int)*131072)=((h*131072%18446744073709551616:Nat):Int):=by rw[IntKind.wrap_u64];omega
 have h2:IntKind.u64.wrap (Int.tdiv (h:Int) 140737488355328)=((h/140737488355328:Nat):Int):=by rw[td (by omega),wu64 (by omega) (by omega)];omega
 rw[h1,h2,←Int.natCast_add,wn _ (by omega),wn lo hl]
 exact hQ
end
end Go.Proofs.YtabdpmnhjlmnlaaGreatDoor
end
section
namespace Go.Cr
open Go Go.Pt
def Seat.words (s:Seat):List Int:=s.R++[s.pc,s.base,s.vec,s.epc,s.cause,s.addr,(if s.opn=true then 1 else 0),s.st,s.pend,s.mask]
def Seat.sum (s:Seat):Int:=s.words.foldl mixM 0
theorem Seat.words_w {s:Seat} (h:s.Ok):∀ x∈s.words,W64 x:=by
 intro x hx
 have h1:=h.st
 have h2:=h.pend
 have h3:=h.mask
 unfold Seat.words at hx
 rcases List.mem_append.1 hx with hx | hx
 ·exact h.r x hx
 ·simp only[List.mem_cons,List.not_mem_nil,or_false] at hx
  rcases hx with rfl | rfl | rfl | rfl | rfl | rfl | rfl | rfl | rfl | rfl
  ·exact h.pc
  ·exact h.base
  ·exact h.vec
  ·exact h.epc
  ·exact h.cause
  ·exact h.addr
  ·split <;> exact⟨by decide,by decide⟩
  ·exact⟨by omega,by omega⟩
  ·exact⟨by omega,by omega⟩
  ·exact⟨by omega,by omega⟩
theorem Seat.words_len {s:Seat} (h:s.R.length=16):s.words.length=26:=by simp[Seat.words,h]
end Go.Cr
namespace Go.Proofs.YtabdpmnhjlmnlaaGreatDoor
open Go Go.Pt Go.Cr
section
variable {S:Mem} {s:Seat}
theorem zlu {t:Sl} {xs:List Int} (hw:∀ x∈xs,W64 x) (hrow:Row S 1 t (xs.map (Value.int .u64))) (hn:xs.length≤1000) {Q:Int→Mem→Prop} (hQ:Q (xs.foldl mixM 0) S) :
  (lp (fun Xx (z:Int×Int) (Sx_2:Mem)=>match z with
   | (n_1,i)=>jn (fun (Sx_3:Mem)=>sl t fun b_1 o n_2 _=>0≤i∧i<((n_2:Nat):Int)∧gI (Sx_3.cell b_1 (o+i.toNat*1)) .u64 fun t_1=>yJ Sx_3 n_1 t_1 fun t_2 Sx_4=>Xx (t_2,IntKind.i64.wrap (i+1)) Sx_4) fun Jx_1=>
    if i<(t.n:Int) then Jx_1 Sx_2 else Q n_1 Sx_2) (0,0) S):=by
 have hlen:t.n=xs.length:=by have:=hrow.len;simp only[List.length_map,Nat.mul_one] at this;exact this.symm
 refine zM (fun (z:Int×Int) S'=>∃ i:Nat,z=((xs.take i).foldl mixM 0,(i:Int))∧i≤xs.length∧S'=S∧W64 ((xs.take i).foldl mixM 0)) (fun z=>xs.length-z.2.toNat) ?_ ⟨0,rfl,by omega,rfl,by rw[List.take_zero];exact⟨by decide,by decide⟩⟩
 rintro X z S' ⟨i,rfl,hi,rfl,hacc⟩ ih
 dsimp only at ih ⊢
 simp only[jn]
 by_cases hlt:(i:Int)<(t.n:Int)
 ·rw[if_pos hlt]
  have hil:i<xs.length:=by omega
  rcases hrow.lie with ⟨_,h2⟩ | ⟨b,k,h1,h2,_,h4,h5⟩
  ·have:=hrow.cap;omega
  obtain⟨tp,tn,tc⟩:=t
  simp only at h1 hlen hlt h4 h5
  subst h1
  rw[jH]
  have hc:S'.cell b i=some (.int .u64 xs[i]):=by
   rw[qo h2,zK]
   have:(k.cs.take (tn*1))[i]? = some (.int .u64 xs[i]):=by rw[h5];simp[List.getElem?_eq_getElem hil]
   rw[List.getElem?_take,if_pos (by omega)] at this
   exact this
  refine⟨by omega,hlt,?_⟩
  rw[show 0+(i:Int).toNat*1=i by omega,zB hc]
  have hx:=hw _ (List.getElem_mem hil)
  refine ziF hacc hx ?_
  rw[w64 (by omega) (by omega)]
  have e:(xs.take (i+1)).foldl mixM 0=mixM ((xs.take i).foldl mixM 0) xs[i]:=by
   rw[List.take_succ_eq_append_getElem hil,List.foldl_append];rfl
  refine ih _ S' ⟨i+1,by rw[e];simp,by omega,rfl,by rw[e];exact zqz hacc hx⟩ (by dsimp only;omega)
 ·rw[if_neg hlt]
  have e:i=xs.length:=by omega
  subst e
  rw[List.take_length];exact hQ
theorem zjM (ho:s.Ok) {Q:Sl→Mem→Prop} (hQ:∀ t S',Keeps S S' []→Row S' 1 t (s.words.map (Value.int .u64))→Q t S'):xH S s.L Q:=by
 have hs:=ho.len
 have h1:=ho.st
 have h2:=ho.pend
 have h3:=ho.mask
 apply gW
 unfold yR
 refine⟨Seat.L_len hs,?_⟩
 have fre:∀ {S' S2:Mem} {t:Sl} {c:Nat} {kb:Blk},Keeps S S' []→(∀ x o,t.p=some (x,o)→S x=none)→(t.p=some (c,0)∨S' c=none)→S2=S'.set c kb→S c=none∧Keeps S S2 []:=fun {S' S2 t c kb} hk hf e3 e4=>by
  have hc:S c=none:=by
   rcases e3 with e3 | e3
   ·exact hf c 0 e3
   ·cases hS:S c with
    | none=>rfl
    | some kk=>have:=hk.get hS (by simp);rw[e3] at this;cases this
  exact⟨hc,by rw[e4];exact hk.fresh hc⟩
 refine zI (fun J=>∀ t S',Keeps S S' []→(∀ x o,t.p=some (x,o)→S x=none)→t.n=16→Row S' 1 t (s.R.map (Value.int .u64))→J t S') ?_ fun J hJ=>?_
 ·intro t S' hk hf hn hrow
  have fin:∀ ox:Int,ox=(if s.opn=true then 1 else 0)→ap S' 39 1 8 [.int .u64 0] t 10 ([.int .u64 s.pc,.int .u64 s.base,.int .u64 s.vec,.int .u64 s.epc,.int .u64 s.cause,.int .u64 s.addr,.int .u64 ox,.int .u64 (IntKind.u64.wrap s.st),.int .u64 (IntKind.u64.wrap s.pend),.int .u64 (IntKind.u64.wrap s.mask)]) fun t_9 Sx_2=>Q t_9 Sx_2:=fun ox hox=>by
   rw[wu64 (x:=s.st) (by omega) (by omega),wu64 (x:=s.pend) (by omega) (by omega),wu64 (x:=s.mask) (by omega) (by omega)]
   refine jR hrow rfl (by decide) rfl (by omega) fun t' S2 c kb e1 e2 e3 e4 e5=>hQ t' S2 (fre hk hf e3 e4).2 ?_
   have:s.words.map (Value.int .u64)=s.R.map (Value.int .u64)++[.int .u64 s.pc,.int .u64 s.base,.int .u64 s.vec,.int .u64 s.epc,.int .u64 s.cause,.int .u64 s.addr,.int .u64 ox,.int .u64 s.st,.int .u64 s.pend,.int .u64 s.mask]:=by
    unfold Seat.words;rw[List.map_append,hox];rfl
   rw[this];exact e5
  simp only[jn]
  rw[zB (Seat.g16 hs),zB (Seat.g17 hs),zB (Seat.g18 hs),zB (Seat.g19 hs),zB (Seat.g20 hs),zB (Seat.g21 hs),zB (Seat.g23 hs),zB (Seat.g24 hs),zB (Seat.g25 hs),fM (Seat.g22 hs)]
  by_cases hop:s.opn=true
  ·rw[if_pos hop];exact fin 1 (by rw[if_pos hop])
  ·rw[if_neg hop]
   rw[zB (Seat.g16 hs),zB (Seat.g17 hs),zB (Seat.g18 hs),zB (Seat.g19 hs),zB (Seat.g20 hs),zB (Seat.g21 hs),zB (Seat.g23 hs),zB (Seat.g24 hs),zB (Seat.g25 hs)]
   exact fin 0 (by rw[if_neg hop])
 refine zM (fun (z:Sl×Int) S'=>∃ i:Nat,z.2=i∧i≤16∧z.1.n=i∧Keeps S S' []∧(∀ x o,z.1.p=some (x,o)→S x=none)∧Row S' 1 z.1 ((s.R.take i).map (Value.int .u64))) (fun z=>16-z.2.toNat) ?_ ⟨0,rfl,by omega,rfl,Keeps.refl,(fun x o h=>by cases h),by simpa using Row.nil⟩
 rintro X ⟨l,z⟩ S' ⟨i,hz,hi,hn,hk,hf,hrow⟩ ih
 dsimp only at hz hn hf hrow ih ⊢
 subst hz
 simp only[jn]
 by_cases hlt:(i:Int)<16
 ·rw[if_pos hlt]
  refine⟨by omega,hlt,?_⟩
  have hg:nthL s.L i=some (.int .u64 (s.R.getD i 0)):=Seat.L_r hs (by omega)
  rw[show 0+(i:Int).toNat*1=i by omega,zB hg]
  refine jR hrow rfl (by decide) rfl (by omega) fun t' S2 c kb e1 e2 e3 e4 e5=>?_
  have hc:=fre hk hf e3 e4
  rw[w64 (by omega) (by omega)]
  refine ih _ S2 ⟨i+1,by simp,by omega,by show t'.n=i+1;omega,hc.2,(fun x o h=>by rw[e2] at h;cases h;exact hc.1),?_⟩ (by dsimp only;omega)
  have e:(s.R.take (i+1)).map (Value.int .u64)=(s.R.take i).map (Value.int .u64)++[.int .u64 (s.R.getD i 0)]:=by
   rw[List.take_succ_eq_append_getElem (by omega),List.map_append,List.getD_eq_getElem?_getD,List.getElem?_eq_getElem (by omega)];rfl
  rw[e];exact e5
 ·rw[if_neg hlt]
  have:i=16:=by omega
  subst this
  rw[List.take_of_length_le (by omega)] at hrow
  exact hJ l S' hk hf hn hrow
theorem ziE (ho:s.Ok) {Q:Int→Mem→Prop} (hQ:∀ S',Keeps S S' []→Q s.sum S'):wE S s.L Q:=by
 have hs:=ho.len
 apply zao
 unfold xT
 refine⟨Seat.L_len hs,?_⟩
 apply zap
 unfold xU
 refine⟨Seat.L_len hs,?_⟩
 refine zjM ho fun t S' hk hrow=>?_
 exact zlu (Q:=fun n Sx=>Q n Sx) (Seat.words_w ho) hrow (by rw[Seat.words_len hs];decide) (hQ S' hk)
end
end Go.Proofs.YtabdpmnhjlmnlaaGreatDoor
end
namespace Go.Proofs.YtabdpmnhjlmnlaaGreatDoor
section
open Go Go.Pt Go.Cr
section
variable {S:Mem} {s:Seat}
theorem zlH (ho:s.Ok) {Q:Sl→Mem→Prop} (hQ:∀ t S',Keeps S S' []→Row S' 1 t (s.words.map (Value.int .u64))→Q t S'):zeU S s.L Q:=by
 have hs:=ho.len
 have h1:=ho.st
 have h2:=ho.pend
 have h3:=ho.mask
 apply zim
 unfold zbR
 refine⟨Seat.L_len hs,?_⟩
 intro b hb
 have hsb:(S.set b (bw 43 s.L)) b=some (bw 43 s.L):=zy
 have hk0:Keeps S (S.set b (bw 43 s.L)) []:=Keeps.refl.fresh hb
 have hpart:(S.set b (bw 43 s.L)).part b 0 (16*1)=some (s.R.map (Value.int .u64)):=by
  rw[yh hsb,qA (by show 0+16*1≤s.L.length;rw[Seat.L_len hs];decide)]
  show some ((s.L.drop 0).take 16)=_
  rw[List.drop_zero]
  unfold Seat.L
  rw[List.take_left' (by simpa using hs)]
 refine⟨s.R.map (Value.int .u64),.inr ⟨b,0,rfl,hpart⟩,by rw[List.all_map];exact List.all_eq_true.2 fun _ _=>rfl,?_⟩
 refine jR Row.nil (by simpa using hs) (by decide) rfl (by decide) fun t S1 c kb e1 e2 e3 e4 e5=>?_
 have hc:(S.set b (bw 43 s.L)) c=none:=by
  rcases e3 with e3 | e3
  ·cases e3
  ·exact e3
 have hcb:c≠b:=fun h=>by rw[h,hsb] at hc;cases hc
 have hk1:Keeps S S1 []:=by rw[e4];exact hk0.trans (Keeps.refl.fresh hc)
 have hS1b:S1 b=some (bw 43 s.L):=by rw[e4,qe hcb.symm];exact hsb
 have hcell:∀ i,S1.cell b i=nthL s.L i:=fun i=>by rw[qo hS1b]
 rw[zB ((hcell 16).trans (Seat.g16 hs)),zB ((hcell 17).trans (Seat.g17 hs)),zB ((hcell 18).trans (Seat.g18 hs)),zB ((hcell 19).trans (Seat.g19 hs)),zB ((hcell 20).trans (Seat.g20 hs)),zB ((hcell 21).trans (Seat.g21 hs)),fM ((hcell 22).trans (Seat.g22 hs)),zB ((hcell 23).trans (Seat.g23 hs)),zB ((hcell 24).trans (Seat.g24 hs)),zB ((hcell 25).trans (Seat.g25 hs))]
 refine zhU ?_
 refine⟨(hcell 25).trans (Seat.g25 hs),(hcell 24).trans (Seat.g24 hs),(hcell 23).trans (Seat.g23 hs),(hcell 21).trans (Seat.g21 hs),(hcell 20).trans (Seat.g20 hs),(hcell 19).trans (Seat.g19 hs),(hcell 18).trans (Seat.g18 hs),(hcell 17).trans (Seat.g17 hs),(hcell 16).trans (Seat.g16 hs),?_⟩
 rw[wu64 (x:=s.st) (by omega) (by omega),wu64 (x:=s.pend) (by omega) (by omega),wu64 (x:=s.mask) (by omega) (by omega)]
 have htn:t.n=16:=by rw[e1]
 refine jR e5 rfl (by decide) rfl (by omega) fun t2 S2 c2 kb2 f1 f2 f3 f4 f5=>?_
 have hc2:c2≠b∧Keeps S S2 []:=by
  rcases f3 with f3 | f3
  ·rw[e2] at f3;cases f3
   have hSc:S c=none:=by rw[qe hcb] at hc;exact hc
   exact⟨hcb,by rw[f4];exact hk1.fresh hSc⟩
  ·refine⟨fun h=>(by rw[h,hS1b] at f3;cases f3),?_⟩
   have hSc:S c2=none:=by
    cases hS:S c2 with
    | none=>rfl
    | some kk=>have:=hk1.get hS (by simp);rw[f3] at this;cases this
   rw[f4];exact hk1.fresh hSc
 have hS2b:S2 b=some (bw 43 s.L):=by rw[f4,qe hc2.1.symm];exact hS1b
 have hcell2:∀ i,S2.cell b i=nthL s.L i:=fun i=>by rw[qo hS2b]
 refine⟨(hcell2 25).trans (Seat.g25 hs),(hcell2 24).trans (Seat.g24 hs),(hcell2 23).trans (Seat.g23 hs),hQ t2 S2 hc2.2 ?_⟩
 have:s.words.map (Value.int .u64)=[]++s.R.map (Value.int .u64)++[.int .u64 s.pc,.int .u64 s.base,.int .u64 s.vec,.int .u64 s.epc,.int .u64 s.cause,.int .u64 s.addr,.int .u64 (if s.opn=true then 1 else 0),.int .u64 s.st,.int .u64 s.pend,.int .u64 s.mask]:=by
  unfold Seat.words;rw[List.map_append];rfl
 rw[this];exact f5
theorem zme {t:Sl} {xs:List Int} (hw:∀ x∈xs,W64 x) (hrow:Row S 1 t (xs.map (Value.int .u64))) (hn:xs.length≤1000) {Q:Int→Mem→Prop} (hQ:Q (xs.foldl mixM 0) S) :
  (lp (fun Xx (z:Int×Int) (Sx_2:Mem)=>match z with
   | (n_1,i)=>if i<(t.n:Int) then sl t fun b_1 o n_2 _=>0≤i∧i<((n_2:Nat):Int)∧gI (Sx_2.cell b_1 (o+i.toNat*1)) .u64 fun t_1=>zek Sx_2 n_1 t_1 fun t_2 Sx_4=>Xx (t_2,IntKind.i64.wrap (i+1)) Sx_4 else Q n_1 Sx_2) (0,0) S):=by
 have hlen:t.n=xs.length:=by have:=hrow.len;simp only[List.length_map,Nat.mul_one] at this;exact this.symm
 refine zM (fun (z:Int×Int) S'=>∃ i:Nat,z=((xs.take i).foldl mixM 0,(i:Int))∧i≤xs.length∧S'=S∧W64 ((xs.take i).foldl mixM 0)) (fun z=>xs.length-z.2.toNat) ?_ ⟨0,rfl,by omega,rfl,by rw[List.take_zero];exact⟨by decide,by decide⟩⟩
 rintro X z S' ⟨i,rfl,hi,rfl,hacc⟩ ih
 dsimp only at ih ⊢
 by_cases hlt:(i:Int)<(t.n:Int)
 ·rw[if_pos hlt]
  have hil:i<xs.length:=by omega
  rcases hrow.lie with ⟨_,h2⟩ | ⟨b,k,h1,h2,_,h4,h5⟩
  ·have:=hrow.cap;omega
  obtain⟨tp,tn,tc⟩:=t
  simp only at h1 hlen hlt h4 h5
  subst h1
  rw[jH]
  have hc:S'.cell b i=some (.int .u64 xs[i]):=by
   rw[qo h2,zK]
   have:(k.cs.take (tn*1))[i]? = some (.int .u64 xs[i]):=by rw[h5];simp[List.getElem?_eq_getElem hil]
   rw[List.getElem?_take,if_pos (by omega)] at this
   exact this
  refine⟨by omega,hlt,?_⟩
  rw[show 0+(i:Int).toNat*1=i by omega,zB hc]
  have hx:=hw _ (List.getElem_mem hil)
  refine znh hacc hx ?_
  rw[w64 (by omega) (by omega)]
  have e:(xs.take (i+1)).foldl mixM 0=mixM ((xs.take i).foldl mixM 0) xs[i]:=by
   rw[List.take_succ_eq_append_getElem hil,List.foldl_append];rfl
  refine ih _ S' ⟨i+1,by rw[e];simp,by omega,rfl,by rw[e];exact zqz hacc hx⟩ (by dsimp only;omega)
 ·rw[if_neg hlt]
  have e:i=xs.length:=by omega
  subst e
  rw[List.take_length];exact hQ
theorem zlh (ho:s.Ok) {Q:Int→Mem→Prop} (hQ:∀ S',Keeps S S' []→Q s.sum S'):zgG S s.L Q:=by
 have hs:=ho.len
 apply zjP
 unfold zdw
 refine⟨Seat.L_len hs,?_⟩
 refine zlH ho fun t S' hk hrow=>?_
 exact zme (Q:=fun n Sx=>Q n Sx) (Seat.words_w ho) hrow (by rw[Seat.words_len hs];decide) (hQ S' hk)
end
end
end Go.Proofs.YtabdpmnhjlmnlaaGreatDoor
namespace Go.Cr
section
open Go Go.Pt
def upd {α:Type} (f:Nat→α) (i:Nat) (v:α):Nat→α:=fun x=>if x=i then v else f x
theorem zi {α:Type} {f:Nat→α} {i:Nat} {v:α}:upd f i v i=v:=by simp[upd]
theorem zk {α:Type} {f:Nat→α} {i j:Nat} {v:α} (h:j≠i):upd f i v j=f j:=by simp[upd,h]
theorem gG {α:Type} {f:Nat→α} {i:Nat} {v w:α}:upd (upd f i v) i w=upd f i w:=by
 funext x;simp only[upd];split <;> rfl
theorem xY {α:Type} {f:Nat→α} {i:Nat}:upd f i (f i)=f:=by
 funext x;simp only[upd];split
 ·rename_i h;rw[h]
 ·rfl
structure Ls where
 on:Bool
 fr:Nat
 pg:Nat
 to:Nat
 wr:Bool
 at_:Int
def Ls.setA (l:Ls) (a:Int):Ls:=⟨l.on,l.fr,l.pg,l.to,l.wr,a⟩
def ls0:Ls:=⟨false,0,0,0,false,0⟩
structure Evt where
 kind:Int
 seat:Int
 a:Int
 b:Int
structure Bv where
 on:Bool
 seats:List Seat
 quota:Int
 keys:List Int
 disk:Nat→List Int
 bells:Nat→Bool
def bv0:Bv:=⟨false,[],0,[],fun _=>[],fun _=>false⟩
structure Wd where
 free:Int
 vm:Nat→Bv
 time:Nat→Int
 own:Nat→Nat→Option (List Int)
 alarm:Nat→Nat→Option Int
 ls:Nat→Ls
 ev:Nat→List Evt
def W0 (free:Int):Wd:=⟨free,fun _=>bv0,fun _=>0,fun _ _=>none,fun _ _=>none,fun _=>ls0,fun _=>[]⟩
def Wd.there (W:Wd) (n:Int):Prop:=0≤n∧n<6∧(W.vm n.toNat).on=true
instance (W:Wd) (n:Int):Decidable (W.there n):=inferInstanceAs (Decidable (_∧_∧_))
def fit256 (l:List Int):List Int:=l.take 256++List.replicate (256-l.length) 0
theorem zgm (l:List Int):(fit256 l).length=256:=by simp[fit256];omega
def pageB (img:List Int) (i:Nat):List Int:=fit256 (img.drop (256*i))
def noughts:List Int:=List.replicate 256 0
theorem qz:noughts.length=256:=List.length_replicate
theorem zff {x:Int} (h:x∈noughts):x=0:=List.eq_of_mem_replicate h
theorem xF {x:Int} (h:x∈noughts):0≤x∧x≤255:=by rw[zff h];decide
theorem zkq:List.replicate 256 (0:Int)=noughts:=rfl
def firstOff (f:Nat→Bool) (n:Nat):Option Nat:=(List.range n).find? fun i=>! f i
def count (f:Nat→Bool) (n:Nat):Nat:=((List.range n).filter f).length
def Wd.pages (W:Wd) (n:Nat):Nat:=count (fun p=>(W.own n p).isSome) 32
def mkV (seats quota:Int):Bv:={ on:=true,seats:=List.replicate seats.toNat seat0,quota:=quota,keys:=[],disk:=fun _=>noughts,bells:=fun _=>false }
def Wd.create (W:Wd) (seats quota pages:Int) (img:List Int):Int×Int×Wd:=
 if seats<1∨3<seats∨quota<1∨32<quota∨pages<1∨quota<pages then (0,1,W)
 else if 256*pages<img.length then (0,6,W)
 else match firstOff (fun n=>(W.vm n).on) 6 with
  | none=>(0,2,W)
  | some n=>if W.free<5+pages then (0,3,W)
   else (n,0,{ W with free:=W.free-(5+pages),vm:=upd W.vm n (mkV seats quota),time:=upd W.time n 0,ev:=upd W.ev n [],own:=upd W.own n fun p=>if (p:Int)<pages then some (pageB img p) else none })
def Wd.destroy (W:Wd) (n:Int):Int×Wd:=
 if ¬W.there n then (2,W)
 else (0,{ W with free:=W.free+(5+W.pages n.toNat),vm:=fun i=>if i=n.toNat then bv0 else { W.vm i with bells:=upd (W.vm i).bells n.toNat false },own:=upd W.own n.toNat fun _=>none,alarm:=upd W.alarm n.toNat fun _=>none,ls:=fun i=>if (W.ls i).on=true∧((W.ls i).fr=n.toNat∨(W.ls i).to=n.toNat) then ls0 else W.ls i })
def Bv.ring (v:Bv) (n:Nat) (on:Bool):Bv:={ v with bells:=upd v.bells n on }
def Wd.setV (W:Wd) (n:Nat) (v:Bv):Wd:={ W with vm:=upd W.vm n v }
def Wd.join (W:Wd) (a b:Int) (on:Bool):Int×Wd:=
 if ¬W.there a∨¬W.there b then (2,W)
 else if a=b then (1,W)
 else (0,(W.setV a.toNat ((W.vm a.toNat).ring b.toNat on)).setV b.toNat ((W.vm b.toNat).ring a.toNat on))
def Bv.setSeat (v:Bv) (k:Nat) (s:Seat):Bv:={ v with seats:=v.seats.set k s }
def Seat.raise (s:Seat) (i:Nat):Seat:=if s.st=2 then s else Seat.wake { s with pend:=ior .u32 s.pend (2 ^ i) }
def Bv.seat (v:Bv) (k:Nat):Seat:=v.seats.getD k seat0
def Wd.raise (W:Wd) (n k i:Nat):Int×Wd:=
 if ((W.vm n).seat k).st=2 then (10,W) else (0,W.setV n ((W.vm n).setSeat k (((W.vm n).seat k).raise i)))
def Bv.setKeys (v:Bv) (l:List Int):Bv:={ v with keys:=l }
def Wd.key (W:Wd) (n b:Int):Int×Wd:=
 if ¬W.there n then (2,W)
 else if 64≤(W.vm n.toNat).keys.length then (3,W)
 else (0,((W.setV n.toNat ((W.vm n.toNat).setKeys ((W.vm n.toNat).keys++[b]))).raise n.toNat 0 6).2)
def dueA (al:Nat→Option Int) (time:Int) (k:Nat):Bool:=match al k with
 | some a=>decide (a≤time)
 | none=>false
def Wd.tick (W:Wd):Wd:=
 { W with time:=fun n=>W.time n+1,vm:=fun n=>{ W.vm n with seats:=(W.vm n).seats.mapIdx fun k s=>if dueA (W.alarm n) (W.time n+1) k=true then s.raise 7 else s },alarm:=fun n k=>if dueA (W.alarm n) (W.time n+1) k=true then none else W.alarm n k }
def Wd.tell (W:Wd) (n:Nat) (e:Evt):Wd:={ W with ev:=upd W.ev n (W.ev n++[e]) }
def leaseAt (ls:Nat→Ls) (n:Nat) (page:Int):Option Nat:=(List.range 16).find? fun i=>(ls i).on && (decide ((ls i).to=n) && decide ((ls i).at_=page))
def Wd.where_ (W:Wd) (n p:Nat):Option (Nat×Nat×Bool):=
 if (W.own n p).isSome then some (n,p,true)
 else (leaseAt W.ls n p).map fun i=>((W.ls i).fr,(W.ls i).pg,(W.ls i).wr)
def Wd.gm (W:Wd) (n:Nat):GM:=
 ⟨fun p=>if 32≤p then none else (W.where_ n p).map fun q=>(32*q.1+q.2.1,q.2.2),fun f=>(W.own (f/32) (f%32)).getD []⟩
def Wd.setDat (W:Wd) (d:Nat→List Int):Wd:={ W with own:=fun n p=>(W.own n p).map fun _=>d (32*n+p) }
def Wd.setO (W:Wd) (n p:Nat) (o:Option (List Int)):Wd:={ W with own:=upd W.own n (upd (W.own n) p o) }
def small (w:Int):Int:=if 65535<w then -1 else w
def Wd.mine (W:Wd) (n:Nat) (p:Int):Int:=
 if p<0∨31<p∨W.where_ n p.toNat=none then 11 else if (W.own n p.toNat).isSome=true then 0 else 7
def Wd.setL (W:Wd) (i:Nat) (l:Ls):Wd:={ W with ls:=upd W.ls i l }
def Wd.lease (W:Wd) (n:Nat) (c:Int) (i page:Int):Int×Wd:=
 if i<0∨15<i∨(W.ls i.toNat).on=false then (2,W)
 else if c<7∧(W.ls i.toNat).to≠n∨c=7∧(W.ls i.toNat).fr≠n then (7,W)
 else if c=6 then (if (W.ls i.toNat).at_<0 then (10,W) else (0,W.setL i.toNat ((W.ls i.toNat).setA (-1))))
 else if 0≤(W.ls i.toNat).at_ then (8,W)
 else if c=7 then (0,W.setL i.toNat ls0)
 else if page<0∨31<page then (1,W)
 else if W.where_ n page.toNat≠none then (8,W)
 else (0,W.setL i.toNat ((W.ls i.toNat).setA page))
def lentL (ls:Nat→Ls) (n:Nat) (p:Int):Bool:=(List.range 16).any fun i=>(ls i).on && (decide ((ls i).fr=n) && decide (((ls i).pg:Int)=p))
def Wd.ring (W:Wd) (n:Nat) (a b:Int):Int×Wd:=
 if ¬W.there a∨(W.vm n).bells a.toNat=false then (2,W)
 else if b<0∨7<b then (1,W)
 else W.raise a.toNat 0 b.toNat
def Wd.offer (W:Wd) (n:Nat) (p to:Int) (w:Bool):Int×Int×Wd:=
 if W.mine n p≠0 then (0,W.mine n p,W)
 else if ¬W.there to then (0,2,W)
 else if (n:Int)=to then (0,1,W)
 else match firstOff (fun i=>(W.ls i).on) 16 with
  | none=>(0,3,W)
  | some i=>(i,0,W.setL i ⟨true,n,p.toNat,to.toNat,w,-1⟩)
def Wd.give (W:Wd) (n:Nat) (p:Int):Int×Wd:=
 if W.mine n p≠0 then (W.mine n p,W)
 else if lentL W.ls n p=true then (8,W)
 else (0,{ W.setO n p.toNat none with free:=W.free+1 })
def Wd.get (W:Wd) (n:Nat) (p:Int):Int×Wd:=
 if p<0∨31<p then (1,W)
 else if W.where_ n p.toNat≠none then (8,W)
 else if (W.vm n).quota≤W.pages n then (9,W)
 else if W.free=0 then (3,W)
 else (0,{ W.setO n p.toNat (some noughts) with free:=W.free-1 })
def Wd.load (W:Wd) (n:Nat) (sec p:Int):Int×Wd:=
 if sec<0∨3<sec then (1,W)
 else if p<0∨31<p then (11,W)
 else match W.where_ n p.toNat with
  | some (m,q,true)=>(0,W.setO m q (some ((W.vm n).disk sec.toNat)))
  | _=>(11,W)
def Bv.setDisk (v:Bv) (k:Nat) (l:List Int):Bv:={ v with disk:=upd v.disk k l }
def Wd.save (W:Wd) (n:Nat) (sec p:Int):Int×Wd:=
 if sec<0∨3<sec then (1,W)
 else if p<0∨31<p then (11,W)
 else match W.where_ n p.toNat with
  | some (m,q,_)=>(0,W.setV n ((W.vm n).setDisk sec.toNat ((W.own m q).getD [])))
  | none=>(11,W)
def Wd.nextKey (W:Wd) (n:Nat):Int×Int×Wd:=match (W.vm n).keys with
 | []=>(0,2,W)
 | x :: l=>(x,0,W.setV n ((W.vm n).setKeys l))
def Wd.setAlarm (W:Wd) (n k:Nat) (w:Int):Wd:={ W with alarm:=upd W.alarm n (upd (W.alarm n) k (some w)) }
def Seat.die (s:Seat):Seat:={ s with st:=2 }
def Wd.call (W:Wd) (n k:Nat) (c w1 w2 w3:Int):Int×Int×Wd:=
 if c=0 then (0,0,W.tell n ⟨3,k,w1%256,0⟩)
 else if c=1 then W.nextKey n
 else if c=2 then ((0:Int),W.ring n (small w1) (small w2))
 else if c=3 then (0,0,W.setAlarm n k w1)
 else if c=4 then W.offer n (small w1) (small w2) (decide (w3≠0))
 else if 5≤c∧c≤7 then ((0:Int),W.lease n c (small w1) (small w2))
 else if c=8 then ((0:Int),W.give n (small w1))
 else if c=9 then ((0:Int),W.get n (small w1))
 else if c=10 then ((0:Int),W.load n (small w1) (small w2))
 else if c=11 then ((0:Int),W.save n (small w1) (small w2))
 else if c=12 then (n,0,W)
 else if c=13 then (0,0,W.setV n ((W.vm n).setSeat k ((W.vm n).seat k).die))
 else (0,1,W)
def told (x n:Int) (k:Int) (pc:Int) (s:Seat):Evt:=if x=1 then ⟨4,k,n,pc⟩ else if x=4 then ⟨5,k,n,pc⟩ else ⟨1,k,pc,s.sum⟩
def Seat.answer (s:Seat) (e v:Int):Seat:=(s.setr 0 e).setr 1 v
def Wd.putSeat (W:Wd) (n k:Nat) (s:Seat):Wd:=W.setV n ((W.vm n).setSeat k s)
def Wd.hyper (W:Wd) (n k:Nat) (c:Int) (s:Seat):Wd:=
 let r:=W.call n k c (s.r 1) (s.r 2) (s.r 3)
 (r.2.2.putSeat n k (((r.2.2.vm n).seat k).answer r.2.1 r.1)).tell n ⟨2,k,ior .u64 (x64 (c*256)) r.2.1,r.1⟩
def Wd.run (W:Wd) (n k:Int):Int×Wd:=
 if ¬W.there n∨k<0∨(W.vm n.toNat).seats.length≤k then (2,W)
 else
  let s:=(W.vm n.toNat).seat k.toNat
  let o:=stepM s (W.gm n.toNat) (W.time n.toNat) k
  if o.k=5 then (10,W)
  else
   let W2:=((W.setDat o.g.dat).putSeat n.toNat k.toNat o.s).tell n.toNat (told o.k o.n k s.pc o.s)
   (0,if o.k=2 then W2.hyper n.toNat k.toNat o.n o.s else W2)
end
section
open Go Go.Pt
def pk (form:Int) (f:Nat) (wr:Bool):Int:=
 if form=1 then 1+256*f+(if wr=true then 2 else 0)
 else 9223372036854775808+(65535-f)+(if wr=true then 4611686018427387904 else 0)
theorem zpj {form:Int} {f:Nat} (hf:f≤65535) {wr:Bool}:W64 (pk form f wr)∧pk form f wr≠0:=by
 unfold pk
 split <;> split <;> exact⟨⟨by omega,by omega⟩,by omega⟩
end
section
open Go Go.Pt
def spB (d:List Int) (off:Nat) (l:List Int):List Int:=d.take off++l++d.drop (off+l.length)
theorem ziw {d:List Int} {off:Nat} {l:List Int} (h:off+l.length≤d.length):(spB d off l).length=d.length:=by
 unfold spB;simp only[List.length_append,List.length_take,List.length_drop];omega
theorem zix {d:List Int} {off:Nat} {l:List Int} (h:Byt d) (hl:Byt l):Byt (spB d off l):=fun x hx=>by
 unfold spB at hx
 rcases List.mem_append.1 hx with hx | hx
 ·rcases List.mem_append.1 hx with hx | hx
  ·exact h x (List.mem_of_mem_take hx)
  ·exact hl x hx
 ·exact h x (List.mem_of_mem_drop hx)
def rdB (d:List Int) (off n:Nat):List Int:=(d.drop off).take n
theorem zmU {d:List Int} {off:Nat} {l:List Int} (h:off+l.length≤d.length):rdB (spB d off l) off l.length=l:=by
 unfold rdB spB
 rw[List.append_assoc,List.drop_left' (by rw[List.length_take];omega),List.take_left' rfl]
theorem zos {d:List Int} {off j:Nat} {l:List Int} (h:off+l.length≤d.length):(spB d off l)[j]? = if off≤j∧j<off+l.length then l[j-off]? else d[j]?:=by
 unfold spB
 rw[List.append_assoc,List.getElem?_append,List.length_take,Nat.min_eq_left (by omega)]
 split
 ·rw[if_neg (by omega),List.getElem?_take,if_pos (by omega)]
 ·rw[List.getElem?_append]
  split
  ·rw[if_pos (by omega)]
  ·rw[if_neg (by omega),List.getElem?_drop];congr 1;omega
theorem zlC {d:List Int} {off n j:Nat}:(rdB d off n)[j]? = if j<n then d[off+j]? else none:=by
 unfold rdB
 rw[List.getElem?_take,List.getElem?_drop]
theorem zlB {d:List Int} {off o n:Nat} {l:List Int} (h:off+l.length≤d.length) (h2:o+n≤off∨off+l.length≤o):rdB (spB d off l) o n=rdB d o n:=by
 apply List.ext_getElem?
 intro j
 rw[zlC,zlC]
 by_cases hj:j<n
 ·rw[if_pos hj,if_pos hj,zos h,if_neg (by omega)]
 ·rw[if_neg hj,if_neg hj]
def ld (d:Nat→List Int) (f i:Nat):Int:=num (rdB (d f) (8*i) 8)
def wr (d:Nat→List Int) (f off:Nat) (l:List Int):Nat→List Int:=upd d f (spB (d f) off l)
def unp (form w:Int):Option (Nat×Bool):=
 if w=0 then none
 else
  let f:=if form=1 then (w/256%65536).toNat else (65535-w%65536).toNat
  let b:=if form=1 then decide (w/2%2=1) else decide (w/4611686018427387904%2=1)
  if pk form f b=w then some (f,b) else none
theorem zcc {form:Int}:unp form 0=none:=by simp[unp]
theorem zkZ {form:Int} {f:Nat} {b:Bool} (h:f≤65535):unp form (pk form f b)=some (f,b):=by
 have h0:=(zpj (form:=form) h (wr:=b)).2
 unfold unp
 rw[if_neg h0]
 by_cases h1:form=1
 ·rw[if_pos h1,if_pos h1]
  have e1:(pk form f b/256%65536).toNat=f:=by unfold pk;rw[if_pos h1];split <;> omega
  have e2:decide (pk form f b/2%2=1)=b:=by
   unfold pk;rw[if_pos h1];cases b
   ·simp;omega
   ·simp;omega
  simp only[e1,e2];rw[if_pos trivial]
 ·rw[if_neg h1,if_neg h1]
  have e1:(65535-pk form f b%65536).toNat=f:=by unfold pk;rw[if_neg h1];split <;> omega
  have e2:decide (pk form f b/4611686018427387904%2=1)=b:=by
   unfold pk;rw[if_neg h1];cases b
   ·simp;omega
   ·simp;omega
  simp only[e1,e2];rw[if_pos trivial]
theorem zqe {form w:Int} {q:Nat×Bool} (h:unp form w=some q):q.1≤65535∧pk form q.1 q.2=w:=by
 unfold unp at h
 by_cases h0:w=0
 ·rw[if_pos h0] at h;cases h
 ·rw[if_neg h0] at h
  dsimp only at h
  obtain⟨h1,h2⟩:=Option.ite_none_right_eq_some.1 h
  simp only[Option.some.injEq] at h2
  subst h2
  exact⟨by dsimp only;split <;> omega,h1⟩
structure Ow where
 kind:Int
 vm:Int
 page:Int
 sh:Int
def ow0:Ow:=⟨0,0,0,0⟩
structure Cw where
 vm:Int
 page:Int
 f:Nat
 w:Bool
structure Kn where
 form:Int
 now:Int
 vm:Nat→Bv
 late:Nat→Int
 tf:Nat→Int
 fr:Nat→List Nat
 ls:Nat→Ls
 turns:Nat→Int
structure Cst extends Kn where
 N:Nat
 dat:Nat→List Int
 used:Nat→Bool
 left:Int
 cache:List Cw
 own:Nat→Ow
 alm:Nat→Nat→Option Int
 region:List Nat
 ev:Nat→List Evt
def leafC (d:Nat→List Int) (N:Nat) (form:Int) (fr:List Nat) (page:Int):Option (Nat×Nat):=
 if page<0∨31<page then none
 else match fr with
  | []=>none
  | r :: _=>if r<N then (unp form (ld d r (page/8).toNat)).map fun x=>(x.1,(page%8).toNat) else none
def walkC (d:Nat→List Int) (N:Nat) (form:Int) (fr:List Nat) (page:Int):Option (Nat×Bool):=match leafC d N form fr page with
 | none=>none
 | some (f,i)=>if f<N then unp form (ld d f i) else none
def setC (d:Nat→List Int) (N:Nat) (form:Int) (fr:List Nat) (page w:Int):Nat→List Int:=match leafC d N form fr page with
 | none=>d
 | some (f,i)=>if f<N then wr d f (8*i) (bytes8 w) else d
def Cst.walk (C:Cst) (n:Nat) (page:Int):Option (Nat×Bool):=walkC C.dat C.N (C.tf n) (C.fr n) page
def dropC (l:List Cw) (vm page:Int):List Cw:=l.filter fun r=>! (decide (r.vm=vm) && decide (r.page=page))
def putC (l:List Cw) (r:Cw):List Cw:=(if (dropC l r.vm r.page).length=8 then (dropC l r.vm r.page).tail else dropC l r.vm r.page)++[r]
def lookC (l:List Cw) (vm page:Int):Option (Nat×Bool):=(l.find? fun r=>decide (r.vm=vm) && decide (r.page=page)).map fun r=>(r.f,r.w)
def Cst.find (C:Cst) (n:Nat) (page:Int):Option (Nat×Bool)×List Cw:=match lookC C.cache n page with
 | some x=>(some x,C.cache)
 | none=>match C.walk n page with
  | some x=>(some x,putC C.cache ⟨n,page,x.1,x.2⟩)
  | none=>(none,C.cache)
def takeN (N:Nat):Nat→(Nat→Bool)→Option (List Nat×(Nat→Bool))
 | 0,u=>some ([],u)
 | k+1,u=>match firstOff u N with
  | none=>none
  | some f=>match takeN N k (upd u f true) with
   | none=>none
   | some (l,u')=>some (f :: l,u')
def donC (own:Nat→Ow) (f:Nat) (n page:Int):Nat→Ow:=if (own f).kind=0 then upd own f ⟨3,n,page,0⟩ else own
def keepC (own:Nat→Ow) (f:Nat) (n:Int):Nat→Ow:=if (own f).kind=0 then upd own f (if 0≤n then ⟨2,n,0,0⟩ else ⟨1,0,0,0⟩) else own
end
end Go.Cr
namespace Go.Proofs.YtabdpmnhjlmnlaaGreatDoor
section
open Go Go.Pt Go.Proofs.Tryz
attribute [local irreducible] lt WD WN Code.wp Back bodyPost wpList FR WL WC WQ WA AW Tr Yc HC AllC
set_option maxRecDepth 20000
set_option maxHeartbeats 4000000
def zbO (S:Mem) (frames:Int) (Q:Pt→Mem→Prop):Prop:=
 0≤IntKind.i64.wrap (256*(if 512<(if frames<0 then 0 else frames) then 512 else (if frames<0 then 0 else frames)))∧IntKind.i64.wrap (256*(if 512<(if frames<0 then 0 else frames) then 512 else (if frames<0 then 0 else frames)))≤IntKind.i64.wrap (256*(if 512<(if frames<0 then 0 else frames) then 512 else (if frames<0 then 0 else frames)))∧(1:Int)*(IntKind.i64.wrap (256*(if 512<(if frames<0 then 0 else frames) then 512 else (if frames<0 then 0 else frames))))≤281474976710656∧IntKind.i64.wrap (256*(if 512<(if frames<0 then 0 else frames) then 512 else (if frames<0 then 0 else frames)))≤9223372036854775807 ∧
 al S 5 (zrep (Int.toNat (IntKind.i64.wrap (256*(if 512<(if frames<0 then 0 else frames) then 512 else (if frames<0 then 0 else frames))))) [.int .u8 0]) fun b Sx=>
 al Sx 180 ([.slice (some ⟨b,0,none⟩) (Int.toNat (IntKind.i64.wrap (256*(if 512<(if frames<0 then 0 else frames) then 512 else (if frames<0 then 0 else frames))))) (Int.toNat (IntKind.i64.wrap (256*(if 512<(if frames<0 then 0 else frames) then 512 else (if frames<0 then 0 else frames)))))]) fun b_1 Sx_1=>
 Q (some (b_1,0)) Sx_1
theorem zij {S:Mem} {frames:Int} {Q:Pt→Mem→Prop} (H:zbO S frames Q):zat S frames Q:=by
 unfold zbO at H
 exact Tr.intro func50 E ntmps50 E fun w0=>go results50 H
def wt (S:Mem) (s:Pt) (Q:Int→Mem→Prop):Prop:=
 if s=none then
 Q 0 S
 else
 nn s fun b o=>
 gL (S.cell b o) fun t=>
 Q (IntKind.i64.wrap (Int.tdiv (t.n:Int) 256)) S
theorem zbd {S:Mem} {s:Pt} {Q:Int→Mem→Prop} (H:wt S s Q):qX S s Q:=by
 unfold wt at H
 exact Tr.intro func35 E ntmps35 E fun w0=>go results35 H
def kr (S:Mem) (s:Pt) (frame:Int) (off:Int) (n:Int) (Q:Int→Int→Mem→Prop):Prop:=
 jn (fun (Sx:Mem)=>
 Q (IntKind.i64.wrap ((IntKind.i64.wrap (256*frame))+off)) 0 Sx) fun Jx=>
 if frame<0 then
 Q 0 1 S
 else
 qX S s fun t Sx_1=>
 if t≤frame then
 Q 0 1 Sx_1
 else
 if off<0 then
 Q 0 1 Sx_1
 else
 if n<0 then
 Q 0 1 Sx_1
 else
 if 256<off then
 Q 0 1 Sx_1
 else
 if IntKind.i64.wrap (256-off)<n then
 Q 0 1 Sx_1
 else
 Jx Sx_1
theorem zdQ {S:Mem} {s:Pt} {frame:Int} {off:Int} {n:Int} {Q:Int→Int→Mem→Prop} (H:kr S s frame off n Q):vR S s frame off n Q:=by
 unfold kr at H
 have:=dj1 4 [1,2]
 exact Tr.intro func143 E ntmps143 E fun w0=>go results143 H
def va (S:Mem) (s:Pt) (frame:Int) (off:Int) (n:Int) (Q:Sl→Int→Mem→Prop):Prop:=
 vR S s frame off n fun t t_1 Sx=>
 jn (fun (Sx_1:Mem)=>
 nn s fun b o=>
 gL (Sx_1.cell b o) fun t_2=>
 (0:Int)≤t∧(t:Int)≤IntKind.i64.wrap (t+n)∧IntKind.i64.wrap (t+n)≤(t_2.c:Int) ∧
 lt (slc 1 t_2 t (IntKind.i64.wrap (t+n))) fun t_3=>
 sp Sx_1 t_3 1 fun vs=>
 ap Sx_1 5 1 1 [.int .u8 0] (⟨none,0,0⟩) t_3.n vs fun t_4 Sx_2=>
 Q t_4 0 Sx_2) fun Jx=>
 if t_1≠0 then
 Q (⟨none,0,0⟩) t_1 Sx
 else
 Jx Sx
theorem zcf {S:Mem} {s:Pt} {frame:Int} {off:Int} {n:Int} {Q:Sl→Int→Mem→Prop} (H:va S s frame off n Q):qV S s frame off n Q:=by
 unfold va at H
 exact Tr.intro func163 E ntmps163 E fun w0=>csr<|gv E E<|gv E E<|nxr<|mv E E<|mv E E<|mv E E<|mv E E<|zhi E E H fun t t_1 Sx H1=>mv E E<|s_p E (zj E E)<|s_p E (zj E E)<|gv E E<|gv E E<|nx<|zp H1 (fun (J:Mem→Prop) (z:Unit) S=>J S) (fun z=>⟨33,[(0,eP s),(3,.int .i64 n),(10,.int .i64 t)]⟩) (fun z=>[]) (fun _ Sx_1 H2=>csr<|mv E E<|by obtain⟨b,o,rfl,H3⟩:=H2;exact s_p E (qt E)<|s_p E (zv E E)<|gx H3 fun t_2 ht_2 H4=>s_v E (zF E) (qh ht_2)<|mv E E<|mv E E<|mv E E<|s_p E (qy E E)<|an3 H4 fun c c_1 c_2 H5=>by obtain⟨t_3,et_3,H6⟩:=zkT H5;exact s_p E (eqv (zdP (a:=t) (b:=IntKind.i64.wrap (t+n)) E E E c c_1 c_2) (congrArg eL et_3))<|by obtain⟨vs,h,c_3,H7⟩:=H6;exact zau (sx:=⟨none,0,0⟩) (vs:=vs) E E E ((fj h).1) ((fj (P:=prog) (w0:=w0) (S0:=S) (V:=[]) h).2) c_3 (by decide) H7 fun t_4 Sx_2 H8=>gv E E<|gv E E<|nx<|zo<|zn results163 (zd E (zd E zg)) ⟨_,_,E,H8⟩) (fun Jx hJx H9=>csr<|mv E E<|iteK H9 (fun c_4 H10=>s_p E (yT (qw E E) c_4)<|nx<|c_t E E<|csr<|mv E E<|gv E E<|gv E E<|nx<|zo<|zb<|zn results163 (zd E (zd E zg)) ⟨_,_,E,H10⟩) fun c_4 H10=>s_p E (yF (qw E E) c_4)<|nx<|cfs E E<|hJx () _ _ _ _ [] H10 E ⟨E,E,E,True.intro⟩ E)
def wG (S:Mem) (s:Pt) (frame:Int) (off:Int) (p:Sl) (Q:Int→Mem→Prop):Prop:=
 vR S s frame off (p.n:Int) fun t t_1 Sx=>
 jn (fun (Sx_1:Mem)=>
 nn s fun b o=>
 gL (Sx_1.cell b o) fun t_2=>
 (0:Int)≤t∧(t:Int)≤(t_2.n:Int)∧(t_2.n:Int)≤(t_2.c:Int) ∧
 lt (slc 1 t_2 t (t_2.n:Int)) fun t_3=>
 cpy Sx_1 1 t_3 p fun t_4 Sx_2=>
 Q 0 Sx_2) fun Jx=>
 if t_1≠0 then
 Q t_1 Sx
 else
 Jx Sx
theorem zbv {S:Mem} {s:Pt} {frame:Int} {off:Int} {p:Sl} {Q:Int→Mem→Prop} (H:wG S s frame off p Q):qg S s frame off p Q:=by
 unfold wG at H
 exact Tr.intro func76 E ntmps76 E fun w0=>csr<|gv E E<|nxr<|mv E E<|mv E E<|mv E E<|mv E E<|s_p E (vX E)<|zhi E E H fun t t_1 Sx H1=>mv E E<|s_p E (zj E E)<|s_p E (zj E E)<|gv E E<|gv E E<|nx<|zp H1 (fun (J:Mem→Prop) (z:Unit) S=>J S) (fun z=>⟨31,[(0,eP s),(3,eL p),(9,.int .i64 t)]⟩) (fun z=>[]) (fun _ Sx_1 H2=>csr<|mv E E<|by obtain⟨b,o,rfl,H3⟩:=H2;exact s_p E (qt E)<|s_p E (zv E E)<|gx H3 fun t_2 ht_2 H4=>s_v E (zF E) (qh ht_2)<|mv E E<|an3 H4 fun c c_1 c_2 H5=>by obtain⟨t_3,et_3,H6⟩:=zkT H5;exact s_p E (eqv (zdP (a:=t) (b:=(t_2.n:Int)) E E E c c_1 c_2) (congrArg eL et_3))<|mv E E<|zqo (sd:=t_3) (ss:=p) E E E H6 fun t_4 Sx_2 H7=>nxr<|gv E E<|nx<|zo<|zn results76 (zd E zg) ⟨_,E,H7⟩) (fun Jx hJx H8=>csr<|mv E E<|iteK H8 (fun c_3 H9=>s_p E (yT (qw E E) c_3)<|nx<|c_t E E<|csr<|mv E E<|gv E E<|nx<|zo<|zb<|zn results76 (zd E zg) ⟨_,E,H9⟩) fun c_3 H9=>s_p E (yF (qw E E) c_3)<|nx<|cfs E E<|hJx () _ _ _ _ [] H9 E ⟨E,E,E,True.intro⟩ E)
def xz (S:Mem) (s:Pt) (frame:Int) (i:Int) (Q:Int→Int→Mem→Prop):Prop:=
 jn (fun (Sx:Mem)=>
 qV Sx s frame (IntKind.i64.wrap (8*i)) 8 fun t t_1 Sx_1=>
 zew Sx_1 t fun t_2 Sx_2=>
 Q t_2 t_1 Sx_2) fun Jx=>
 if i<0 then
 Q 0 1 S
 else
 if 32≤i then
 Q 0 1 S
 else
 Jx S
theorem jK {S:Mem} {s:Pt} {frame:Int} {i:Int} {Q:Int→Int→Mem→Prop} (H:xz S s frame i Q):yW S s frame i Q:=by
 unfold xz at H
 have:=dj1 4 [0,1,2]
 exact Tr.intro func108 E ntmps108 E fun w0=>go results108 H
def xy (S:Mem) (s:Pt) (frame:Int) (i:Int) (w:Int) (Q:Int→Mem→Prop):Prop:=
 jn (fun (Sx:Mem)=>
 zaR Sx w fun t Sx_1=>
 qg Sx_1 s frame (IntKind.i64.wrap (8*i)) t fun t_1 Sx_2=>
 Q t_1 Sx_2) fun Jx=>
 if i<0 then
 Q 1 S
 else
 if 32≤i then
 Q 1 S
 else
 Jx S
theorem jJ {S:Mem} {s:Pt} {frame:Int} {i:Int} {w:Int} {Q:Int→Mem→Prop} (H:xy S s frame i w Q):qU S s frame i w Q:=by
 unfold xy at H
 have:=dj1 4 [0,1,2,3]
 exact Tr.intro func110 E ntmps110 E fun w0=>go results110 H
def wH (S:Mem) (s:Pt) (frame:Int) (Q:Int→Mem→Prop):Prop:=
 al S 5 (zrep 256 [.int .u8 0]) fun b Sx=>
 qg Sx s frame 0 (⟨some (b,0),256,256⟩) fun t Sx_1=>
 Q t Sx_1
theorem zbw {S:Mem} {s:Pt} {frame:Int} {Q:Int→Mem→Prop} (H:wH S s frame Q):yq S s frame Q:=by
 unfold wH at H
 exact Tr.intro func140 E ntmps140 E fun w0=>go results140 H
end
end Go.Proofs.YtabdpmnhjlmnlaaGreatDoor
section
namespace Go.Cr
open Go Go.Pt
structure StoreAt (S:Mem) (m B N:Nat) (M:List Int):Prop where
 hd:S m=some (bw 180 [eL ⟨some (B,0),256*N,256*N⟩])
 dt:S B=some (bw 5 (bL M))
 ne:m≠B
 len:M.length=256*N
 byt:Byt M
 lim:N≤512
theorem StoreAt.keep {S S':Mem} {m B N:Nat} {M:List Int} (h:StoreAt S m B N M) (hk:Keeps S S' []):StoreAt S' m B N M:=
 ⟨hk.get h.hd (by simp),hk.get h.dt (by simp),h.ne,h.len,h.byt,h.lim⟩
end Go.Cr
namespace Go.Proofs.YtabdpmnhjlmnlaaGreatDoor
open Go Go.Pt Go.Cr
section
variable {S:Mem} {m B N:Nat} {M:List Int}
theorem zfo (h:StoreAt S m B N M) {Q:Int→Mem→Prop} (hQ:Q N S):qX S (some (m,0)) Q:=by
 have hl:=h.lim
 apply zbd
 unfold wt
 rw[if_neg (by simp),zV,wc (n:=⟨some (B,0),256*N,256*N⟩) (by rw[qo h.hd];rfl)]
 have e:IntKind.i64.wrap (Int.tdiv ((256*N:Nat):Int) 256)=(N:Int):=by rw[td (by omega),w64 (by omega) (by omega)];omega
 show Q (IntKind.i64.wrap (Int.tdiv ((256*N:Nat):Int) 256)) S
 rw[e];exact hQ
theorem zmA (h:StoreAt S m B N M) {frame off n:Int} (hb : -4294967296≤off∧off≤4294967296) {Q:Int→Int→Mem→Prop} (hY:0≤frame→frame<N→0≤off→0≤n→off+n≤256→Q (256*frame+off) 0 S) (hN:¬(0≤frame∧frame<N∧0≤off∧0≤n∧off+n≤256)→Q 0 1 S):vR S (some (m,0)) frame off n Q:=by
 have hl:=h.lim
 apply zdQ
 unfold kr
 simp only[jn]
 by_cases h1:frame<0
 ·rw[if_pos h1];exact hN fun h=>by omega
 rw[if_neg h1]
 refine zfo h ?_
 by_cases h2:(N:Int)≤frame
 ·rw[if_pos h2];exact hN fun h=>by omega
 rw[if_neg h2]
 by_cases h3:off<0
 ·rw[if_pos h3];exact hN fun h=>by omega
 rw[if_neg h3]
 by_cases h4:n<0
 ·rw[if_pos h4];exact hN fun h=>by omega
 rw[if_neg h4]
 by_cases h5:256<off
 ·rw[if_pos h5];exact hN fun h=>by omega
 rw[if_neg h5,w64 (x:=256-off) (by omega) (by omega)]
 by_cases h6:256-off<n
 ·rw[if_pos h6];exact hN fun h=>by omega
 rw[if_neg h6,w64 (x:=256*frame) (by omega) (by omega),w64 (x:=256*frame+off) (by omega) (by omega)]
 exact hY (by omega) (by omega) (by omega) (by omega) (by omega)
end
open Go Go.Pt Go.Cr
section
variable {S:Mem} {m B N:Nat} {M:List Int}
def rdF (M:List Int) (f off n:Nat):List Int:=(M.drop (256*f+off)).take n
theorem zmz (xs:List Int):(bL xs).all (·.oneCell')=true:=by
 unfold bL;rw[List.all_map];exact List.all_eq_true.2 fun _ _=>rfl
theorem zfb (h:StoreAt S m B N M) {frame off n:Int} (hb : -4294967296≤off∧off≤4294967296) {Q:Sl→Int→Mem→Prop}
  (hY:0≤frame→frame<N→0≤off→0<n→off+n≤256→∀ t S',Keeps S S' []→Row S' 1 t (bL (rdF M frame.toNat off.toNat n.toNat))→(∀ b o,t.p=some (b,o)→S b=none)→Q t 0 S')
  (hN:¬(0≤frame∧frame<N∧0≤off∧0≤n∧off+n≤256)→Q ⟨none,0,0⟩ 1 S) (hn:n≠0):qV S (some (m,0)) frame off n Q:=by
 have hl:=h.lim
 have hlen:=h.len
 apply zcf
 unfold va
 simp only[jn]
 refine zmA h hb (fun f0 f1 o0 n0 on=>?_) fun hbad=>?_
 ·rw[if_neg (fun h=>h rfl),zV,wc (n:=⟨some (B,0),256*N,256*N⟩) (by rw[qo h.hd];rfl),w64 (x:=256*frame+off+n) (by omega) (by omega)]
  refine⟨by omega,by omega,by show 256*frame+off+n≤((256*N:Nat):Int);omega,?_⟩
  have e:slc 1 ⟨some (B,0),256*N,256*N⟩ (256*frame+off) (256*frame+off+n)=⟨some (B,256*frame.toNat+off.toNat),n.toNat,256*N-(256*frame.toNat+off.toNat)⟩:=by
   unfold slc
   have e1:(256*frame+off).toNat=256*frame.toNat+off.toNat:=by omega
   have e2:(256*frame+off+n-(256*frame+off)).toNat=n.toNat:=by omega
   simp only[e1,e2,Nat.mul_one,Nat.zero_add,Option.map_some]
   rw[if_neg (by omega)]
  show sp S (slc 1 _ _ _) 1 _
  rw[e]
  have hpart:S.part B (256*frame.toNat+off.toNat) (n.toNat*1)=some (bL (rdF M frame.toNat off.toNat n.toNat)):=by
   rw[yh h.dt,qA (by simp[bL];omega),Nat.mul_one]
   simp[bL,rdF]
  refine⟨_,.inr ⟨B,_,rfl,hpart⟩,zmz _,?_⟩
  have hrl:(rdF M frame.toNat off.toNat n.toNat).length=n.toNat:=by simp[rdF];omega
  refine jR Row.nil (by rw[Nat.mul_one];simp[bL,hrl]) (by show 0<n.toNat;omega) rfl (by show (2*(0+n.toNat)+1024)*1≤_;omega) fun t S2 c kb e1 e2 e3 e4 e5=>?_
  have hc:S c=none:=by
   rcases e3 with e3 | e3
   ·cases e3
   ·exact e3
  exact hY f0 f1 o0 (by omega) on t S2 (by rw[e4];exact Keeps.refl.fresh hc) e5 fun b o hb=>by rw[e2] at hb;cases hb;exact hc
 ·rw[if_pos (by decide)];exact hN hbad
end
open Go Go.Pt Go.Cr
section
variable {S:Mem} {m B N:Nat} {M:List Int}
def wrF (M:List Int) (f off:Nat) (l:List Int):List Int:=M.take (256*f+off)++l++M.drop (256*f+off+l.length)
theorem zol {M:List Int} {f off:Nat} {l:List Int} (h:256*f+off+l.length≤M.length):(wrF M f off l).length=M.length:=by
 unfold wrF;simp only[List.length_append,List.length_take,List.length_drop];omega
theorem zom {M:List Int} {f off:Nat} {l:List Int} (h:Byt M) (hl:Byt l):Byt (wrF M f off l):=fun x hx=>by
 unfold wrF at hx
 rcases List.mem_append.1 hx with hx | hx
 ·rcases List.mem_append.1 hx with hx | hx
  ·exact h x (List.mem_of_mem_take hx)
  ·exact hl x hx
 ·exact h x (List.mem_of_mem_drop hx)
theorem zaQ (h:StoreAt S m B N M) {frame off:Int} (hb : -4294967296≤off∧off≤4294967296) {p:Sl} {l:List Int} (hp:l=[]∨∃ b o,p.p=some (b,o)∧S.part b o (l.length*1)=some (bL l)) (hpl:l.length=p.n) (hl0:l≠[]) (hby:Byt l) {Q:Int→Mem→Prop}
  (hY:0≤frame→frame<N→0≤off→off+p.n≤256→StoreAt (S.set B (bw 5 (bL (wrF M frame.toNat off.toNat l)))) m B N (wrF M frame.toNat off.toNat l)→Q 0 (S.set B (bw 5 (bL (wrF M frame.toNat off.toNat l)))))
  (hN:¬(0≤frame∧frame<N∧0≤off∧0≤(p.n:Int)∧off+p.n≤256)→Q 1 S):qg S (some (m,0)) frame off p Q:=by
 have hl:=h.lim
 have hlen:=h.len
 have hpos:0<l.length:=List.length_pos_iff.2 hl0
 apply zbv
 unfold wG
 simp only[jn]
 refine zmA h hb (fun f0 f1 o0 n0 on=>?_) fun hbad=>?_
 ·rw[if_neg (fun h=>h rfl),zV,wc (n:=⟨some (B,0),256*N,256*N⟩) (by rw[qo h.hd];rfl)]
  refine⟨by omega,by show 256*frame+off≤((256*N:Nat):Int);omega,Int.le_refl _,?_⟩
  have e:slc 1 ⟨some (B,0),256*N,256*N⟩ (256*frame+off) ((256*N:Nat):Int)=⟨some (B,256*frame.toNat+off.toNat),256*N-(256*frame.toNat+off.toNat),256*N-(256*frame.toNat+off.toNat)⟩:=by
   unfold slc
   have e1:(256*frame+off).toNat=256*frame.toNat+off.toNat:=by omega
   have e2:(((256*N:Nat):Int)-(256*frame+off)).toNat=256*N-(256*frame.toNat+off.toNat):=by omega
   simp only[e1,e2,Nat.mul_one,Nat.zero_add,Option.map_some]
   rw[if_neg (by omega)]
  show lt (slc 1 ⟨some (B,0),256*N,256*N⟩ (256*frame+off) ((256*N:Nat):Int)) _
  rw[e]
  unfold lt
  rcases hp with hp | ⟨b,o,hpp,hpart⟩
  ·exact absurd hp hl0
  have emin:min p.n (256*N-(256*frame.toNat+off.toNat))=l.length:=by omega
  refine⟨bL l,.inr ⟨b,o,hpp,by show S.part b o (min p.n (256*N-(256*frame.toNat+off.toNat))*1)=_;rw[emin];exact hpart⟩,zmz _,.inr ⟨B,_,rfl,?_,?_⟩⟩
  ·exact⟨_,h.dt,rfl,by show _+min p.n (256*N-(256*frame.toNat+off.toNat))*1≤(bL M).length;rw[emin];simp[bL];omega⟩
  ·have eput:S.put B (256*frame.toNat+off.toNat) (bL l)=S.set B (bw 5 (bL (wrF M frame.toNat off.toNat l))):=by
    rw[kR h.dt]
    show S.set B ⟨5,spl (bL M) (256*frame.toNat+off.toNat) (bL l),(0,0)⟩=_
    rw[xD _ _ _ (by simp[bL];omega)]
    simp[bL,wrF]
   rw[eput]
   exact hY f0 f1 o0 on ⟨by rw[qe h.ne];exact h.hd,zy,h.ne,by rw[zol (by omega)];exact h.len,zom h.byt hby,h.lim⟩
 ·rw[if_pos (by decide)];exact hN hbad
end
open Go Go.Pt Go.Cr
section
variable {S:Mem} {m B N:Nat} {M:List Int}
theorem znR {t:Sl} {xs:List Int} (h:Row S 1 t (bL xs)) (hb:Byt xs):By S t xs:=by
 have hl:=h.len
 simp only[bL,List.length_map,Nat.mul_one] at hl
 refine⟨hl,h.cap,hb,?_⟩
 by_cases h0:t.n=0
 ·exact .inl h0
 right
 rcases h.lie with ⟨_,e2⟩ | ⟨b,k,e1,e2,_,_,e5⟩
 ·have:=h.cap;omega
 ·refine⟨b,0,e1,fun i hi=>?_⟩
  rw[Nat.zero_add,qo e2,zK]
  have:(k.cs.take (t.n*1))[i]? = some (.int .u8 xs[i]):=by rw[e5];simp[bL,List.getElem?_eq_getElem hi]
  rw[List.getElem?_take,if_pos (by omega)] at this
  exact this
theorem zjZ (h:StoreAt S m B N M) {f i:Nat} (hf:f<N) (hi:i<32) {Q:Int→Int→Mem→Prop} (hQ:∀ S',Keeps S S' []→Q (num (rdF M f (8*i) 8)) 0 S'):yW S (some (m,0)) f i Q:=by
 have hlen:=h.len
 apply jK
 unfold xz
 simp only[jn]
 rw[if_neg (by omega),if_neg (by omega),w64 (by omega) (by omega)]
 refine zfb h (by omega) (fun _ _ _ _ _ t S' hk hrow _=>?_) (fun hbad=>absurd ⟨by omega,by omega,by omega,by omega,by omega⟩ hbad) (by decide)
 have e:(8*(i:Int)).toNat=8*i:=by omega
 have e8:(8:Int).toNat=8:=rfl
 rw[Int.toNat_natCast,e,e8] at hrow
 have hb:Byt (rdF M f (8*i) 8):=fun x hx=>h.byt x (List.mem_of_mem_drop (List.mem_of_mem_take hx))
 exact zdf (znR hrow hb) (by simp[rdF];omega) (hQ S' hk)
end
open Go Go.Pt Go.Cr
section
variable {S:Mem} {m B N:Nat} {M:List Int}
theorem zjY (h:StoreAt S m B N M) {f i:Nat} (hf:f<N) (hi:i<32) {w:Int} (hw:W64 w) {Q:Int→Mem→Prop} (hQ:∀ S',Keeps S S' [B]→StoreAt S' m B N (wrF M f (8*i) (bytes8 w))→Q 0 S'):qU S (some (m,0)) f i w Q:=by
 apply jJ
 unfold xy
 simp only[jn]
 rw[if_neg (by omega),if_neg (by omega),w64 (by omega) (by omega)]
 refine zdt hw fun c hc=>?_
 have hk:Keeps S (S.set c (bw 5 (bL (bytes8 w)))) []:=Keeps.refl.fresh hc
 have h8:=xe w
 have e:(8*(i:Int)).toNat=8*i:=by omega
 refine zaQ (h.keep hk) (by omega) (l:=bytes8 w) (.inr ⟨c,0,rfl,?_⟩) h8 (fun h0=>by rw[h0] at h8;simp at h8) (vF w) (fun _ _ _ _ hs=>?_) (fun hbad=>absurd ⟨by omega,by omega,by omega,by show (0:Int)≤((8:Nat):Int);decide,by show 8*(i:Int)+((8:Nat):Int)≤256;omega⟩ hbad)
 ·rw[yh zy,qA (by show 0+(bytes8 w).length*1≤(bL (bytes8 w)).length;simp[bL])]
  simp only[bL,List.drop_zero,Nat.mul_one]
  rw[List.take_of_length_le (by simp)]
 ·rw[Int.toNat_natCast,e] at hs ⊢
  exact hQ _ ((hk.wider (by simp)).set (by simp)) hs
end
open Go Go.Pt Go.Cr
section
variable {S:Mem} {m B N:Nat} {M:List Int}
theorem zgu:∀ n:Nat,zrep n [Value.int .u8 0]=bL (List.replicate n 0)
 | 0=>rfl
 | n+1=>by
  have:=zgu n
  simp only[bL,List.map_replicate] at this ⊢
  simp[zrep,List.replicate_succ] at this ⊢
  exact this
theorem ziz (h:StoreAt S m B N M) {f:Nat} (hf:f<N) {Q:Int→Mem→Prop} (hQ:∀ S',Keeps S S' [B]→StoreAt S' m B N (wrF M f 0 (List.replicate 256 0))→Q 0 S'):yq S (some (m,0)) f Q:=by
 apply zbw
 unfold wH
 intro c hc
 rw[zgu]
 have hk:Keeps S (S.set c (bw 5 (bL (List.replicate 256 0)))) []:=Keeps.refl.fresh hc
 have h8:(List.replicate 256 (0:Int)).length=256:=List.length_replicate
 refine zaQ (h.keep hk) (by decide) (l:=List.replicate 256 0) (.inr ⟨c,0,rfl,?_⟩) h8 (fun h0=>by rw[h0] at h8;cases h8) (fun x hx=>by rw[List.eq_of_mem_replicate hx];decide) (fun _ _ _ _ hs=>?_) (fun hbad=>absurd ⟨by omega,by omega,by omega,by show (0:Int)≤((256:Nat):Int);decide,by show (0:Int)+((256:Nat):Int)≤256;decide⟩ hbad)
 ·rw[yh zy,qA (by show 0+(List.replicate 256 (0:Int)).length*1≤(bL (List.replicate 256 0)).length;unfold bL;rw[List.length_map];omega)]
  simp only[bL,List.drop_zero,Nat.mul_one]
  rw[List.take_of_length_le (by rw[List.length_map];exact Nat.le_refl _)]
 ·rw[Int.toNat_natCast] at hs ⊢
  exact hQ _ ((hk.wider (by simp)).set (by simp)) hs
end
end Go.Proofs.YtabdpmnhjlmnlaaGreatDoor
end
namespace Go.Cr
section
open Go Go.Pt
open Go.Proofs.YtabdpmnhjlmnlaaGreatDoor (rdF wrF)
def cF {α:Type}:Nat→(Nat→List α)→List α
 | 0,_=>[]
 | n+1,f=>cF n f++f n
section
variable {α:Type} {n w i:Nat} {f g:Nat→List α}
theorem yn:∀ {n:Nat},(∀ i,i<n→f i=g i)→cF n f=cF n g
 | 0,_=>rfl
 | n+1,h=>by simp only[cF];rw[yn fun i hi=>h i (by omega),h n (by omega)]
theorem wd:∀ {n:Nat},(∀ i,i<n→(f i).length=w)→(cF n f).length=n*w
 | 0,_=>by simp[cF]
 | n+1,h=>by simp only[cF,List.length_append];rw[wd fun i hi=>h i (by omega),h n (by omega),Nat.add_mul];omega
theorem zjI:∀ {n i:Nat},(∀ i,i<n→(f i).length=w)→i<n→∃ A B,A.length=i*w∧∀ v,cF n (upd f i v)=A++(v++B)
 | 0,_,_,h=>by omega
 | n+1,i,h,hi=>by
  by_cases e:i=n
  ·subst e
   refine⟨cF i f,[],wd fun j hj=>h j (by omega),fun v=>?_⟩
   simp only[cF,zi,List.append_nil]
   rw[yn fun j hj=>zk (f:=f) (v:=v) (show j≠i by omega)]
  ·obtain⟨A,B,h1,h2⟩:=zjI (n:=n) (i:=i) (fun j hj=>h j (by omega)) (by omega)
   refine⟨A,B++f n,h1,fun v=>?_⟩
   simp only[cF]
   rw[h2,zk (Ne.symm e)];simp
theorem zmw (h:∀ i,i<n→(f i).length=w) (hi:i<n):∃ A B,A.length=i*w∧cF n f=A++(f i++B)∧∀ v,cF n (upd f i v)=A++(v++B):=by
 obtain⟨A,B,h1,h2⟩:=zjI h hi
 exact⟨A,B,h1,by rw[←h2,xY],h2⟩
theorem znQ {x:α}:∀ {n:Nat},x∈cF n f→∃ i,i<n∧x∈f i
 | 0,h=>by simp[cF] at h
 | n+1,h=>by
  simp only[cF,List.mem_append] at h
  rcases h with h | h
  ·obtain⟨i,h1,h2⟩:=znQ h;exact⟨i,by omega,h2⟩
  ·exact⟨n,by omega,h⟩
end
variable {n w i k:Nat} {f g:Nat→List Value}
theorem zdL (h:∀ i,i<n→(f i).length=w) (hi:i<n) (hk:k<w):nthL (cF n f) (i*w+k)=nthL (f i) k:=by
 obtain⟨A,B,h2,h1,_⟩:=zmw h hi
 have hl:=h i hi
 rw[zK,zK,h1,List.getElem?_append_right (by omega),List.getElem?_append_left (by omega)]
 congr 1;omega
theorem zhf {m:Nat} (h:∀ i,i<n→(f i).length=w) (hi:i<n) (hk:k+m≤w):lpart (cF n f) (i*w+k) m=lpart (f i) k m:=by
 obtain⟨A,B,h2,h1,_⟩:=zmw h hi
 have hl:=h i hi
 have ht:(cF n f).length=n*w:=wd h
 have hb:i*w+w≤n*w:=by
  have:=Nat.mul_le_mul_right w (show i+1≤n by omega)
  rw[Nat.add_mul,Nat.one_mul] at this;exact this
 rw[qA (by omega),qA (by omega)]
 congr 1
 apply List.ext_getElem?
 intro j
 rw[List.getElem?_take,List.getElem?_take,List.getElem?_drop,List.getElem?_drop,h1]
 by_cases hj:j<m
 ·rw[if_pos hj,if_pos hj,List.getElem?_append_right (by omega),List.getElem?_append_left (by omega)]
  congr 1;omega
 ·rw[if_neg hj,if_neg hj]
theorem zfA {vs:List Value} (h:∀ i,i<n→(f i).length=w) (hi:i<n) (hk:k+vs.length≤w):spl (cF n f) (i*w+k) vs=cF n (upd f i (spl (f i) k vs)):=by
 have hl:=h i hi
 obtain⟨A,B,h1,h2,h3⟩:=zmw h hi
 rw[h3,h2,←h1,zL rfl]
 congr 1
 rw[xD _ _ _ (by rw[List.length_append];omega),xD _ _ _ (by omega),List.take_append_of_le_length (by omega),List.drop_append_of_le_length (by omega)]
 simp
theorem qd {A B:List Value} {n j:Nat} (h:A.length=n):nthL (A++B) (n+j)=nthL B j:=zju h
theorem vZ {A B:List Value} {j:Nat} (h:j<A.length):nthL (A++B) j=nthL A j:=by
 rw[zK,zK,List.getElem?_append_left h]
theorem xZ {A B:List Value} {n j m:Nat} (h:A.length=n):lpart (A++B) (n+j) m=lpart B j m:=by
 by_cases hb:j+m≤B.length
 ·rw[qA (by simp;omega),qA hb]
  congr 1
  rw[←List.drop_drop,List.drop_left' h]
 ·unfold lpart
  have e1:Nat.ble (n+j+m) (A++B).length=false:=by
   cases hh:Nat.ble (n+j+m) (A++B).length
   ·rfl
   ·have:=Nat.le_of_ble_eq_true hh;simp at this;omega
  have e2:Nat.ble (j+m) B.length=false:=by
   cases hh:Nat.ble (j+m) B.length
   ·rfl
   ·have:=Nat.le_of_ble_eq_true hh;omega
  rw[e1,e2]
theorem kX {A B:List Value} {j m:Nat} (h:j+m≤A.length):lpart (A++B) j m=lpart A j m:=by
 rw[qA (by simp;omega),qA h]
 congr 1
 apply List.ext_getElem?
 intro x
 rw[List.getElem?_take,List.getElem?_take,List.getElem?_drop,List.getElem?_drop]
 by_cases hx:x<m
 ·rw[if_pos hx,if_pos hx,List.getElem?_append_left (by omega)]
 ·rw[if_neg hx,if_neg hx]
theorem vS {A B v:List Value} {j:Nat} (h:j+v.length≤A.length):spl (A++B) j v=spl A j v++B:=by
 rw[xD _ _ _ (by rw[List.length_append];omega),xD _ _ _ (by omega),List.take_append_of_le_length (by omega),List.drop_append_of_le_length (by omega),List.append_assoc,List.append_assoc,List.append_assoc]
theorem znL {d:Nat→List Int} {N f off n:Nat} (h:∀ f,f<N→(d f).length=256) (hf:f<N) (hn:off+n≤256):rdF (cF N d) f off n=rdB (d f) off n:=by
 obtain⟨A,B,h1,h2,_⟩:=zmw h hf
 have hl:=h f hf
 unfold rdF rdB
 rw[h2,show 256*f+off=A.length+off by omega,←List.drop_drop,List.drop_left' rfl]
 rw[List.drop_append_of_le_length (by omega),List.take_append_of_le_length (by rw[List.length_drop];omega)]
theorem zkW {d:Nat→List Int} {N f off:Nat} {l:List Int} (h:∀ f,f<N→(d f).length=256) (hf:f<N) (hn:off+l.length≤256):wrF (cF N d) f off l=cF N (wr d f off l):=by
 obtain⟨A,B,h1,h2,h3⟩:=zmw h hf
 have hl:=h f hf
 unfold wrF wr
 rw[h3,h2,show 256*f+off=A.length+off by omega,List.take_length_add_append,Nat.add_assoc,←List.drop_drop,List.drop_left' rfl]
 rw[List.take_append_of_le_length (by omega),List.drop_append_of_le_length (by omega)]
 unfold spB
 simp
end
section
open Go Go.Pt
structure Pc (S:Mem) (ρ:Rho) (r b:Nat) (l:List Value):Prop where
 at_:At S b 0 l
 rol:ρ b=some r
section
variable {S S' S0:Mem} {ρ ρ' ρ0:Rho} {R:Nat→Prop} {r b:Nat} {l:List Value}
theorem Pc.keep (h:Pc S ρ r b l) (m:Mv S ρ S' ρ' R) (hr:¬R r):Pc S' ρ' r b l:=
 ⟨h.at_.keep (m.kp b h.at_.some fun r' e=>by rw[h.rol] at e;cases e;exact hr),m.ext b r h.rol⟩
theorem Pc.cell (h:Pc S ρ r b l) {x:Nat} (i:Nat) (hi:i<l.length) (hx:x=i):S.cell b x=nthL l i:=by
 subst hx
 have:=h.at_.cell hi
 rwa [Nat.zero_add] at this
theorem Pc.part (h:Pc S ρ r b l) {x n:Nat} (i:Nat) (hi:i+n≤l.length) (hx:x=i):S.part b x n=lpart l i n:=by
 subst hx
 have:=h.at_.part hi
 rwa [Nat.zero_add] at this
theorem Pc.ne {r' b':Nat} {l':List Value} (h:Pc S ρ r b l) (h':Pc S ρ r' b' l') (hr:r≠r'):b≠b':=fun e=>by
 have:=h.rol;rw[e,h'.rol] at this;cases this;exact hr rfl
theorem Pc.pt (h:Pc S ρ r b l) (hg:∀ b r,ρ b=some r→S b≠none) {x n:Nat} {vs:List Value} (i:Nat) (hn:n=vs.length) (hi:i+vs.length≤l.length) (hx:x=i) {K:Mem→Prop}
  (hK:∀ S',Mv S ρ S' ρ (· = r)→Pc S' ρ r b (spl l i vs)→K S'):Go.Pt.pt S b x n vs K:=by
 subst hx
 have e:x=0+x:=(Nat.zero_add x).symm
 rw[e]
 refine h.at_.pt (i:=x) hn hi ?_
 have hl:(spl l x vs).length=l.length:=zS hi
 exact hK _ (h.at_.mv (R:=(· = r)) (Mv.refl hg) h.rol rfl _) ⟨h.at_.put hl,h.rol⟩
end
def evL (e:Evt):List Value:=[.int .u8 e.kind,.int .i64 e.seat,.int .u64 e.a,.int .u64 e.b]
def lsL (l:Ls):List Value:=[.bool l.on,.int .i64 l.fr,.int .i64 l.pg,.int .i64 l.to,.bool l.wr,.int .i64 l.at_]
def owL (o:Ow):List Value:=[.int .u8 o.kind,.int .i64 o.vm,.int .i64 o.page,.int .i64 o.sh]
def cwL (r:Cw):List Value:=[.int .i64 r.vm,.int .i64 r.page,.bool true,.int .i64 r.f,.bool r.w]
def nL (l:List Nat):List Value:=l.map fun (n:Nat)=>Value.int .i64 n
def bI (f:Nat→Bool):Nat:=(f 0).toNat+2*(f 1).toNat+4*(f 2).toNat+8*(f 3).toNat+16*(f 4).toNat+32*(f 5).toNat
structure Vx where
 ss:Sl
 fs:Sl
 ks:Sl
 d:Nat→Sl
def vx0:Vx:=⟨⟨none,0,0⟩,⟨none,0,0⟩,⟨none,0,0⟩,fun _=>⟨none,0,0⟩⟩
def vmC (x:Vx) (v:Bv) (tf late:Int):List Value:=
 [.bool v.on,eL x.ss,.int .i64 tf,eL x.fs,.int .i64 v.quota,.int .u64 late,eL x.ks,eL (x.d 0),eL (x.d 1),eL (x.d 2),eL (x.d 3),.int .u32 (bI v.bells)]
theorem zih {x:Vx} {v:Bv} {tf late:Int}:(vmC x v tf late).length=12:=rfl
def knL (k:Kn) (x:Nat→Vx) (ob kb:Nat):List Value:=
 [.int .i64 k.form,.int .u64 k.now]++(cF 6 (fun i=>vmC (x i) (k.vm i) (k.tf i) (k.late i))++([eP (some (ob,0))]++(cF 16 (fun i=>lsL (k.ls i))++([eP (some (kb,0))]++cF 18 fun i=>[.int .i64 (k.turns i)]))))
section
variable {k:Kn} {x:Nat→Vx} {ob kb:Nat}
theorem zah:(cF 6 fun i=>vmC (x i) (k.vm i) (k.tf i) (k.late i)).length=72:=wd (w:=12) fun _ _=>rfl
theorem zdh:(cF 16 fun i=>lsL (k.ls i)).length=96:=wd (w:=6) fun _ _=>rfl
theorem zop:(cF 18 fun i=>[Value.int .i64 (k.turns i)]).length=18:=wd (w:=1) fun _ _=>rfl
theorem jg:(knL k x ob kb).length=190:=by
 unfold knL
 simp only[List.length_append,zah,zdh,zop,List.length_cons,List.length_nil]
theorem zqD {i j:Nat} (hi:i<6) (hj:j<12):nthL (knL k x ob kb) (2+(i*12+j))=nthL (vmC (x i) (k.vm i) (k.tf i) (k.late i)) j:=by
 unfold knL
 rw[qd (n:=2) rfl,vZ (by rw[zah];omega)]
 exact zdL (w:=12) (fun _ _=>rfl) hi hj
theorem zoL {i j m:Nat} (hi:i<6) (hj:j+m≤12):lpart (knL k x ob kb) (2+(i*12+j)) m=lpart (vmC (x i) (k.vm i) (k.tf i) (k.late i)) j m:=by
 unfold knL
 rw[xZ (n:=2) rfl,kX (by rw[zah];omega)]
 exact zhf (w:=12) (fun _ _=>rfl) hi hj
theorem znM:nthL (knL k x ob kb) 74=some (eP (some (ob,0))):=by
 unfold knL
 rw[show 74=2+(72+0) by rfl,qd (n:=2) rfl,qd (n:=72) zah];rfl
theorem zoM:lpart (knL k x ob kb) 75 96=some (cF 16 fun i=>lsL (k.ls i)):=by
 unfold knL
 rw[show 75=2+(72+(1+0)) by omega,xZ (n:=2) rfl,xZ (n:=72) zah,xZ (n:=1) rfl,kX (by rw[zdh];omega)]
 have:=ze (zdh (k:=k));exact this
theorem zqE:nthL (knL k x ob kb) 171=some (eP (some (kb,0))):=by
 unfold knL
 rw[show 171=2+(72+(1+(96+0))) by omega,qd (n:=2) rfl,qd (n:=72) zah,qd (n:=1) rfl,qd (n:=96) zdh];rfl
theorem zmb {i j:Nat} {vs:List Value} (hi:i<6) (hj:j+vs.length≤12) {x':Vx} {v':Bv} {tf' late':Int} {fr':List Nat} (he:spl (vmC (x i) (k.vm i) (k.tf i) (k.late i)) j vs=vmC x' v' tf' late') :
  spl (knL k x ob kb) (2+(i*12+j)) vs=knL { k with vm:=upd k.vm i v',tf:=upd k.tf i tf',late:=upd k.late i late',fr:=upd k.fr i fr' } (upd x i x') ob kb:=by
 unfold knL
 rw[zL (n:=2) rfl,vS (by rw[zah];omega),zfA (w:=12) (fun _ _=>rfl) hi hj,he]
 have e:cF 6 (upd (fun i=>vmC (x i) (k.vm i) (k.tf i) (k.late i)) i (vmC x' v' tf' late'))=cF 6 fun n=>vmC (upd x i x' n) (upd k.vm i v' n) (upd k.tf i tf' n) (upd k.late i late' n):=yn fun n _=>by
  by_cases e:n=i
  ·subst e;simp only[zi]
  ·simp only[zk e]
 rw[e]
theorem zma {ls':Nat→Ls}:spl (knL k x ob kb) 75 (cF 16 fun i=>lsL (ls' i))=knL { k with ls:=ls' } x ob kb:=by
 unfold knL
 have e:(cF 16 fun i=>lsL (ls' i)).length=96:=wd (w:=6) fun _ _=>rfl
 rw[show 75=2+(72+(1+0)) by omega,zL (n:=2) rfl,zL (n:=72) zah,zL (n:=1) rfl,vS (by rw[zdh];omega),zeR (by rw[zdh,e])]
end
end
end Go.Cr
section
namespace Go.Pt
open Go Go.RowKit Go.Cr
section
variable {S S':Mem} {ρ ρ':Rho} {r w:Nat} {s:Sl} {l:List Value}
theorem Rw.some (h:Rw S ρ r w s l) (h0:0<l.length):∃ c,s.p=Option.some (c,0):=by
 rcases h.row.lie with ⟨_,h2⟩ | ⟨b,k,h1,_⟩
 ·have h4:=h.row.len
  have h3:=h.row.cap
  have hn:s.n=0:=by omega
  rw[hn,Nat.zero_mul] at h4
  omega
 ·exact⟨b,h1⟩
theorem Rw.cell (h:Rw S ρ r w s l) {c:Nat} (hc:s.p=Option.some (c,0)) {x:Nat} (i:Nat) (hi:i<l.length) (hx:x=i):S.cell c x=nthL l i:=by
 subst hx
 have hl:=h.row.len
 rcases h.row.lie with ⟨h1,_⟩ | ⟨b,k,h1,h2,h3,h4,h5⟩
 ·rw[h1] at hc;cases hc
 ·rw[h1] at hc;cases hc
  rw[qo h2,zK,zK,←h5,List.getElem?_take,if_pos (by omega)]
theorem Rw.part (h:Rw S ρ r w s l) {c:Nat} (hc:s.p=Option.some (c,0)) {x n:Nat} (i:Nat) (hi:i+n≤l.length) (hx:x=i):S.part c x n=lpart l i n:=by
 subst hx
 have hl:=h.row.len
 have hcap:=h.row.cap
 rcases h.row.lie with ⟨h1,_⟩ | ⟨b,k,h1,h2,h3,h4,h5⟩
 ·rw[h1] at hc;cases hc
 ·rw[h1] at hc;cases hc
  have hm:s.n*w≤s.c*w:=Nat.mul_le_mul_right _ hcap
  rw[yh h2,qA (by omega),qA hi]
  congr 1
  apply List.ext_getElem?
  intro j
  rw[List.getElem?_take,List.getElem?_take,List.getElem?_drop,List.getElem?_drop]
  by_cases hj:j<n
  ·rw[if_pos hj,if_pos hj,←h5,List.getElem?_take,if_pos (by omega)]
  ·rw[if_neg hj,if_neg hj]
theorem Rw.pt (h:Rw S ρ r w s l) (hg:∀ b r,ρ b=Option.some r→S b≠none) {c:Nat} (hc:s.p=Option.some (c,0)) {x n:Nat} {vs:List Value} (i:Nat) (hn:n=vs.length) (hi:i+vs.length≤l.length) (hx:x=i) {K:Mem→Prop}
  (hK:∀ S',Mv S ρ S' ρ (· = r)→Rw S' ρ r w s (spl l i vs)→K S'):Go.Pt.pt S c x n vs K:=by
 subst hx
 have hl:=h.row.len
 have hcap:=h.row.cap
 have hr:=h.rol c 0 hc
 rcases h.row.lie with ⟨h1,_⟩ | ⟨b,k,h1,h2,h3,h4,h5⟩
 ·rw[h1] at hc;cases hc
 ·rw[h1] at hc;cases hc
  have hm:s.n*w≤s.c*w:=Nat.mul_le_mul_right _ hcap
  refine⟨⟨k,h2,h3,by omega⟩,?_⟩
  rw[kR h2]
  refine hK _ (Mv.put (R:=(· = r)) (Mv.refl hg) hr rfl _) ⟨⟨by rw[zS hi];exact hl,hcap,.inr ⟨c,_,h1,zy,h3,?_,?_⟩⟩,h.rol⟩
  ·simp only;rw[zS (by omega)];exact h4
  ·simp only
   rw[←h5]
   have hkl:k.cs=k.cs.take (s.n*w)++k.cs.drop (s.n*w):=(List.take_append_drop _ _).symm
   have h6:(k.cs.take (s.n*w)).length=s.n*w:=by rw[List.length_take];omega
   have e:spl k.cs x vs=spl (k.cs.take (s.n*w)) x vs++k.cs.drop (s.n*w):=by
    conv=>lhs;rw[hkl]
    exact vS (by omega)
   rw[e,List.take_left' (by rw[zS (by omega)];exact h6)]
theorem Rw.n (h:Rw S ρ r w s l) (hw:0<w) {m:Nat} (hm:l.length=m*w):s.n=m:=by
 have:=h.row.len
 rw[hm] at this
 exact (Nat.eq_of_mul_eq_mul_right hw this).symm
theorem Rw.sl (h:Rw S ρ r w s l) (h0:0<l.length):∃ c,s=⟨Option.some (c,0),s.n,s.c⟩∧s.p=Option.some (c,0):=by
 obtain⟨c,hc⟩:=h.some h0
 refine⟨c,?_,hc⟩
 obtain⟨p,n,c'⟩:=s
 simp only at hc;rw[hc]
theorem Rw.keeps (h:Rw S ρ r w s l) (hk:Keeps S S' []):Rw S' ρ r w s l:=
 ⟨h.row.keep fun b hb=>by
  rcases h.row.lie with ⟨h1,_⟩ | ⟨b',k,h1,h2,_⟩
  ·rw[h1] at hb;cases hb
  ·rw[h1] at hb;cases hb;exact hk b (by rw[h2];simp) (by simp),h.rol⟩
end
end Go.Pt
namespace Go.Cr
open Go Go.Pt
theorem Pc.keeps {S S':Mem} {ρ:Rho} {r b:Nat} {l:List Value} (h:Pc S ρ r b l) (hk:Keeps S S' []):Pc S' ρ r b l:=
 ⟨h.at_.keep (hk b h.at_.some (by simp)),h.rol⟩
structure OwnP (S:Mem) (ρ:Rho) (ob N:Nat) (own:Nat→Ow):Prop where
 ex:∃ rs,Pc S ρ 8 ob [eL rs]∧Rw S ρ 9 4 rs (cF N fun f=>owL (own f))
theorem jd {own:Nat→Ow} {N:Nat}:(cF N fun f=>owL (own f)).length=N*4:=wd (w:=4) fun _ _=>rfl
section
variable {S S':Mem} {ρ ρ':Rho} {R:Nat→Prop} {ob N:Nat} {own:Nat→Ow}
theorem OwnP.keep (h:OwnP S ρ ob N own) (m:Mv S ρ S' ρ' R) (h8:¬R 8) (h9:¬R 9):OwnP S' ρ' ob N own:=by
 obtain⟨rs,h1,h2⟩:=h.ex
 exact⟨rs,h1.keep m h8,h2.keep m h9⟩
theorem OwnP.keeps (h:OwnP S ρ ob N own) (hk:Keeps S S' []):OwnP S' ρ ob N own:=by
 obtain⟨rs,h1,h2⟩:=h.ex
 exact⟨rs,h1.keeps hk,h2.keeps hk⟩
end
end Go.Cr
end
namespace Go.Cr
section
open Go Go.Pt
theorem qW (g:Nat→Bool) (n:Nat):count g (n+1)=count g n+(g n).toNat:=by
 unfold count
 rw[List.range_succ,List.filter_append,List.length_append]
 congr 1
 cases h:g n <;> simp[h]
theorem fq {g g':Nat→Bool}:∀ {n:Nat},(∀ i,i<n→g i=g' i)→count g n=count g' n
 | 0,_=>rfl
 | n+1,h=>by rw[qW,qW,fq fun i hi=>h i (by omega),h n (by omega)]
theorem fp (g:Nat→Bool):∀ n,count g n≤n
 | 0=>by simp[count]
 | n+1=>by
  have:=fp g n
  rw[qW]
  cases g n <;> simp <;> omega
theorem zgr {g g':Nat→Bool}:∀ {n:Nat},(∀ i,i<n→g i=true→g' i=true)→count g n≤count g' n
 | 0,_=>by simp[count]
 | n+1,h=>by
  rw[qW,qW]
  have:=zgr (n:=n) fun i hi=>h i (by omega)
  have h2:=h n (by omega)
  cases hg:g n
  ·simp;omega
  ·rw[h2 hg];simp;omega
theorem vE {g:Nat→Bool}:∀ {n:Nat},(∀ i,i<n→g i=false)→count g n=0
 | 0,_=>rfl
 | n+1,h=>by rw[qW,vE fun i hi=>h i (by omega),h n (by omega)];rfl
theorem zms {g:Nat→Bool} {n i:Nat} (hi:i<n) (h:g i=true):0<count g n:=by
 induction n with
 | zero=>omega
 | succ n ih=>
  rw[qW]
  by_cases e:i=n
  ·subst e;rw[h];simp
  ·have:=ih (by omega);omega
theorem zgq {g:Nat→Bool} {n:Nat} (h:count g n=0):∀ i,i<n→g i=false:=fun i hi=>by
 cases hg:g i
 ·rfl
 ·have:=zms hi hg;omega
theorem jq {g:Nat→Bool} {n f:Nat} (hf:f<n) (b:Bool):count (upd g f b) n+(g f).toNat=count g n+b.toNat:=by
 induction n with
 | zero=>omega
 | succ n ih=>
  rw[qW,qW]
  by_cases e:f=n
  ·subst e
   rw[zi,fq (g:=upd g f b) (g':=g) fun i hi=>zk (by omega)]
   omega
  ·have:=ih (by omega)
   rw[zk (f:=g) (i:=f) (j:=n) (Ne.symm e)]
   omega
theorem zZ {u:Nat→Bool} {N f:Nat} (h:firstOff u N=some f):f<N∧u f=false∧∀ g,g<f→u g=true:=by
 unfold firstOff at h
 induction N with
 | zero=>simp at h
 | succ N ih=>
  rw[List.range_succ,List.find?_append] at h
  cases h1:(List.range N).find? (fun i=>! u i) with
  | some x=>
   rw[h1] at h
   simp only[Option.some_or,Option.some.injEq] at h
   subst h
   have:=ih h1
   exact⟨by omega,this.2⟩
  | none=>
   rw[h1] at h
   rw[Option.none_or] at h
   cases hu:u N with
   | true=>simp[hu] at h
   | false=>
    simp[hu] at h
    subst h
    refine⟨by omega,hu,fun g hg=>?_⟩
    have:=List.find?_eq_none.1 h1 g (List.mem_range.2 hg)
    simpa using this
theorem fh {u:Nat→Bool} {N:Nat} (h:firstOff u N=none):∀ f,f<N→u f=true:=fun f hf=>by
 have:=List.find?_eq_none.1 h f (List.mem_range.2 hf)
 simpa using this
theorem jl {u:Nat→Bool} {N f:Nat} (hf:f<N) (h0:u f=false) (h1:∀ g,g<f→u g=true):firstOff u N=some f:=by
 cases h:firstOff u N with
 | none=>have:=fh h f hf;rw[h0] at this;cases this
 | some g=>
  obtain⟨_,h3,h4⟩:=zZ h
  rcases Nat.lt_trichotomy f g with e | e | e
  ·have:=h4 f e;rw[h0] at this;cases this
  ·rw[e]
  ·have:=h1 g e;rw[h3] at this;cases this
theorem zfO {u u':Nat→Bool} {N:Nat} (h:∀ i,i<N→u i=u' i):firstOff u N=firstOff u' N:=by
 cases h1:firstOff u N with
 | some f=>
  obtain⟨a,b,c⟩:=zZ h1
  exact (jl a (by rw[←h f a];exact b) fun g hg=>by rw[←h g (by omega)];exact c g hg).symm
 | none=>
  cases h2:firstOff u' N with
  | none=>rfl
  | some f=>
   obtain⟨a,b,c⟩:=zZ h2
   have:=fh h1 f a
   rw[h f a,b] at this;cases this
theorem yt {u:Nat→Bool} {N:Nat}:firstOff u N=none↔count (fun f=>! u f) N=0:=by
 constructor
 ·intro h
  exact vE fun i hi=>by rw[fh h i hi];rfl
 ·intro h
  cases h1:firstOff u N with
  | none=>rfl
  | some f=>
   obtain⟨a,b,_⟩:=zZ h1
   have:=zgq h f a
   rw[b] at this;cases this
theorem wO {N:Nat}:∀ {k:Nat} {u:Nat→Bool} {l:List Nat} {u':Nat→Bool},takeN N k u=some (l,u') →
  l.length=k∧l.Nodup∧(∀ f∈l,f<N∧u f=false)∧(∀ f,u' f=(u f || decide (f∈l)))∧count (fun f=>! u' f) N+k=count (fun f=>! u f) N
 | 0,u,l,u',h=>by
  simp only[takeN,Option.some.injEq,Prod.mk.injEq] at h
  obtain⟨rfl,rfl⟩:=h
  simp
 | k+1,u,l,u',h=>by
  simp only[takeN] at h
  cases h1:firstOff u N with
  | none=>rw[h1] at h;cases h
  | some f=>
   rw[h1] at h
   dsimp only at h
   cases h2:takeN N k (upd u f true) with
   | none=>rw[h2] at h;cases h
   | some q=>
    obtain⟨l2,u2⟩:=q
    rw[h2] at h
    simp only[Option.some.injEq,Prod.mk.injEq] at h
    obtain⟨rfl,rfl⟩:=h
    obtain⟨a,b,_⟩:=zZ h1
    obtain⟨c1,c2,c3,c4,c5⟩:=wO h2
    have hnf:f∉l2:=fun hm=>by
     have:=(c3 f hm).2
     rw[zi] at this;cases this
    refine⟨by rw[List.length_cons,c1],List.nodup_cons.2 ⟨hnf,c2⟩,fun g hg=>?_,fun g=>?_,?_⟩
    ·rcases List.mem_cons.1 hg with e | e
     ·rw[e];exact⟨a,b⟩
     ·have h3:=c3 g e
      rw[zk (fun e2=>hnf (by rw[←e2];exact e))] at h3
      exact h3
    ·rw[c4 g]
     by_cases e:g=f
     ·subst e;rw[zi];simp
     ·rw[zk e];simp[e]
    ·have e1:(fun g=>! upd u f true g)=upd (fun g=>! u g) f false:=by
      funext g;unfold upd;split <;> rfl
     have:=jq (g:=fun g=>! u g) a false
     rw[←e1] at this
     simp only[b,Bool.not_false,Bool.toNat_true,Bool.toNat_false] at this
     omega
theorem gi {N:Nat}:∀ {k:Nat} {u:Nat→Bool},takeN N k u=none↔count (fun f=>! u f) N<k
 | 0,u=>by simp[takeN]
 | k+1,u=>by
  simp only[takeN]
  cases h1:firstOff u N with
  | none=>
   have:=yt.1 h1
   exact⟨fun _=>by omega,fun _=>rfl⟩
  | some f=>
   obtain⟨a,b,_⟩:=zZ h1
   have e1:(fun g=>! upd u f true g)=upd (fun g=>! u g) f false:=by
    funext g;unfold upd;split <;> rfl
   have:=jq (g:=fun g=>! u g) a false
   rw[←e1] at this
   simp only[b,Bool.not_false,Bool.toNat_true,Bool.toNat_false] at this
   have ih:=gi (N:=N) (k:=k) (u:=upd u f true)
   dsimp only
   cases h2:takeN N k (upd u f true) with
   | none=>
    have h3:=ih.1 h2
    exact⟨fun _=>by omega,fun _=>rfl⟩
   | some q=>
    obtain⟨l2,u2⟩:=q
    have h3:¬count (fun g=>! upd u f true g) N<k:=fun h=>by
     have:=ih.2 h
     rw[h2] at this;cases this
    exact⟨fun h=>(by cases h),fun h=>(by omega)⟩
end
end Go.Cr
namespace Go.Proofs.YtabdpmnhjlmnlaaGreatDoor
section
open Go Go.Pt Go.Proofs.Tryz
attribute [local irreducible] lt WD WN Code.wp Back bodyPost wpList FR WL WC WQ WA AW Tr Yc HC AllC
set_option maxRecDepth 20000
set_option maxHeartbeats 4000000
def vp (S:Mem) (c:Pt) (vm:Int) (page:Int) (Q:Mem→Prop):Prop:=
 al S 3 ([.int .i64 vm]) fun b Sx=>
 al Sx 3 ([.int .i64 page]) fun b_1 Sx_1=>
 if c≠none then
 ko Sx_1 c (.func (.func 229) #[] #[.pointer (some ⟨b,0,none⟩),.pointer (some ⟨b_1,0,none⟩)]) fun Sx_2=>
 Q Sx_2
 else
 Q Sx_1
theorem zcr {S:Mem} {c:Pt} {vm:Int} {page:Int} {Q:Mem→Prop} (H:vp S c vm page Q):xb S c vm page Q:=by
 unfold vp at H
 exact Tr.intro func203 E ntmps203 E fun w0=>go results203 H
def xW (S:Mem) (r:List Value) (t:Pt) (t_1:Pt) (Q:Bool→Mem→Prop):Prop:=
 r.length=5 ∧
 gA (lpart r 0 2) fun a=>
 nn t fun b_1 o=>
 gI (S.cell b_1 o) .i64 fun t_2=>
 nn t_1 fun b_2 o_1=>
 gI (S.cell b_2 o_1) .i64 fun t_3=>
 fits [.i .i64,.i .i64] a=true ∧
 Q (!(eqL a ([.int .i64 t_2,.int .i64 t_3]))) S
theorem zar {S:Mem} {r:List Value} {t:Pt} {t_1:Pt} {Q:Bool→Mem→Prop} (H:xW S r t t_1 Q):zbN S r t t_1 Q:=by
 unfold xW at H
 exact Tr.intro func229 E ntmps229 E fun w0=>an H fun hr H1=>csr<|gu E E E fun b=>gv E E<|nxr<|s_p E (zv E E)<|gx H1 fun a ha H2=>by refine s_v E (qa E ((qL ha).2.2)) (zx 0 E ha) ?_;exact by obtain⟨b_1,o,rfl,H3⟩:=H2;exact gx H3 fun t_2 ht_2 H4=>s_v E (zF E) (qh ht_2)<|by obtain⟨b_2,o_1,rfl,H5⟩:=H4;exact gx H5 fun t_3 ht_3 H6=>s_v E (zF E) (qh ht_3)<|s_p E (qj E E)<|by exact an H6 fun c H7=>s_p E (zoc E E c E)<|gv E E<|nx<|zo<|zn results229 (zd E zg) ⟨_,E,H7⟩
def vl (S:Mem) (c:Pt) (vm:Int) (page:Int) (Q:List Value→Bool→Mem→Prop):Prop:=
 jn (fun (v:List Value) (Sx:Mem)=>
 v.length=3 ∧
 Q ([.bool false,.int .i64 0,.bool false]) false Sx) fun Jx=>
 if c≠none then
 nn c fun b_1 o=>
 gL (S.cell b_1 o) fun t=>
 lp (fun Xx (z:Int×List Value) (Sx_1:Mem)=>
 match z with
 | (t_1,v_1)=>
 v_1.length=3 ∧
 if t_1<(t.n:Int) then
 sl t fun b_2 o_1 n n_1=>
 0≤t_1∧t_1<((n:Nat):Int) ∧
 gA (Sx_1.part b_2 (o_1+t_1.toNat*5) 5) fun t_2=>
 t_2.all (·.oneCell')=true ∧
 gA (lpart t_2 0 2) fun a=>
 fits [.i .i64,.i .i64] a=true ∧
 if (eqL a ([.int .i64 vm,.int .i64 page]))=true then
 gA (lpart t_2 2 3) fun a_1=>
 a_1.all (·.oneCell')=true ∧
 Q a_1 true Sx_1
 else
 Xx (IntKind.i64.wrap (t_1+1),v_1) Sx_1
 else
 Jx v_1 Sx_1) (0,[.bool false,.int .i64 0,.bool false]) S
 else
 Jx ([.bool false,.int .i64 0,.bool false]) S
theorem zcq {S:Mem} {c:Pt} {vm:Int} {page:Int} {Q:List Value→Bool→Mem→Prop} (H:vl S c vm page Q):kq S c vm page Q:=by
 unfold vl at H
 exact Tr.intro func248 E ntmps248 E fun w0=>csr<|by refine qk E fun b=>?_;exact gv E E<|nx<|zp H (fun (J:List Value→Mem→Prop) (z:List Value) S=>J z S) (fun z=>⟨31,[(6,.pointer (some ⟨b,0,none⟩))]⟩) (fun z=>[⟨b,111,z⟩]) (fun v Sx H1=>an H1 fun hv H2=>csr<|s_p E (qj E E)<|by exact zl 0 E E E E E E hv E<|gv E E<|nx<|zo<|zn results248 (zr E (zx (k:=3) 0 E E) E (zd E zg)) ⟨_,_,E,E,H2⟩) (fun Jx hJx H3=>csr<|mv E E<|iteK H3 (fun c_1 H4=>s_p E (yT (zjK (p:=c) E E) c_1)<|nx<|c_t E E<|csr<|mv E E<|by obtain⟨b_1,o,rfl,H5⟩:=H4;exact s_p E (qt E)<|s_p E (zv E E)<|gx H5 fun t ht H6=>s_v E (zF E) (qh ht)<|s_p E (vX E)<|mv E E<|nx<|zE<|xM (fun z=>⟨31,[(1,.int .i64 vm),(2,.int .i64 page),(6,.pointer (some ⟨b,0,none⟩)),(15,eL t),(16,.int .i64 (t.n:Int)),(17,.int .i64 z.1)]⟩) (fun z=>[⟨b,111,z.2⟩]) (0,[.bool false,.int .i64 0,.bool false]) (idx:=[0]) H6 E ⟨E,E,E,E,E,E,True.intro⟩ E<|by rintro Xx hXx ⟨t_1,v_1⟩ Sx_1 H7;exact an H7 fun hv_1 H8=>csr<|iteK H8 (fun c_2 H9=>s_p E (yT (zQ E E) c_2)<|nx<|zO<|c_t E E<|yu<|zC<|zO<|zE<|csr<|by obtain⟨b_2,o_1,n,n_1,rfl,H10⟩:=H9;exact an2 H10 fun c_3 c_4 H11=>s_p E (vx E E c_3 c_4 E)<|gx H11 fun t_2 ht_2 H12=>by refine s_v E (qa E (qZ ht_2)) (zfN ht_2) ?_;exact by refine qk E fun b_3=>?_;exact an H12 fun c_5 H13=>zl 1 E E E E E (qZ ht_2) E c_5<|nxr<|s_p E (zv E E)<|gx H13 fun a ha H14=>by refine s_v E (qa E ((qL ha).2.2)) (zx 1 E ha) ?_;exact mv E E<|mv E E<|s_p E (qj E E)<|by exact an H14 fun c_6 H15=>iteK H15 (fun c_8 H16=>s_p E (yB (zif E E c_6 E) c_8)<|nx<|c_t E E<|csr<|s_p E (zv E E)<|gx H16 fun a_1 ha_1 H17=>by refine s_v E (qa E ((qL ha_1).2.2)) (zx 1 E ha_1) ?_;exact an H17 fun c_9 H18=>zl 0 E E E E E ((qL ha_1).2.2) hv_1 c_9<|gv E E<|nx<|zo<|zh<|zb<|zb<|zh<|zb<|zn results248 (zr E (zx (k:=3) 0 E (ze ((qL ha_1).2.2))) ((qL ha_1).2.2) (zd E zg)) ⟨_,_,E,(qL ha_1).2.2,H18⟩) fun c_8 H16=>s_p E (yB (zif E E c_6 E) (zac c_8))<|nx<|cfs E E<|zX<|zC<|zw<|s_p E (qy E E)<|mv E E<|zu<|hXx (IntKind.i64.wrap (t_1+1),v_1) _ _ _ _ [0] H16 E ⟨E,E,E,E,E,E,True.intro⟩ E) fun c_2 H9=>s_p E (yF (zQ E E) c_2)<|nx<|zO<|c_f E E<|yg<|zm<|zm<|zU<|hJx v_1 _ _ _ _ [0] H9 E ⟨E,True.intro⟩ E) fun c_1 H4=>s_p E (yF (zjK (p:=c) E E) c_1)<|nx<|cfs E E<|hJx ([.bool false,.int .i64 0,.bool false]) _ _ _ _ [0] H4 E ⟨E,True.intro⟩ E)
def vP (S:Mem) (c:Pt) (vm:Int) (page:Int) (x:List Value) (Q:Mem→Prop):Prop:=
 x.length=3 ∧
 jn (fun (Sx:Mem)=>
 xb Sx c vm page fun Sx_1=>
 jn (fun (Sx_2:Mem)=>
 nn c fun b_1 o=>
 gL (Sx_2.cell b_1 o) fun t=>
 (spl (spl ([.int .i64 0,.int .i64 0,.bool false,.int .i64 0,.bool false]) 0 [.int .i64 vm,.int .i64 page]) 2 x).all (·.oneCell')=true ∧
 ap Sx_2 264 5 40 [.int .i64 0,.int .i64 0,.bool false,.int .i64 0,.bool false] t 1 (spl (spl ([.int .i64 0,.int .i64 0,.bool false,.int .i64 0,.bool false]) 0 [.int .i64 vm,.int .i64 page]) 2 x) fun t_1 Sx_3=>
 pt Sx_3 b_1 o 1 ([eL t_1]) fun Sx_4=>
 Q Sx_4) fun Jx=>
 nn c fun b_3 o_1=>
 gL (Sx_1.cell b_3 o_1) fun t_2=>
 if (t_2.n:Int)=8 then
 gL (Sx_1.cell b_3 o_1) fun t_3=>
 (0:Int)≤1∧(1:Int)≤(t_3.n:Int)∧(t_3.n:Int)≤(t_3.c:Int) ∧
 lt (slc 5 t_3 1 (t_3.n:Int)) fun t_4=>
 sp Sx_1 t_4 5 fun vs=>
 ap Sx_1 264 5 40 [.int .i64 0,.int .i64 0,.bool false,.int .i64 0,.bool false] (⟨none,0,0⟩) t_4.n vs fun t_5 Sx_5=>
 pt Sx_5 b_3 o_1 1 ([eL t_5]) fun Sx_6=>
 Jx Sx_6
 else
 Jx Sx_1) fun Jx_1=>
 if c=none then
 Q S
 else
 Jx_1 S
theorem zcY {S:Mem} {c:Pt} {vm:Int} {page:Int} {x:List Value} {Q:Mem→Prop} (H:vP S c vm page x Q):js S c vm page x Q:=by
 unfold vP at H
 exact Tr.intro func249 E ntmps249 E fun w0=>an H fun hx H1=>csr<|gu E E E fun b=>nx<|zp H1 (fun (J:Mem→Prop) (z:Unit) S=>J S) (fun z=>⟨43,[(0,eP c),(1,.int .i64 vm),(2,.int .i64 page),(7,.pointer (some ⟨b,0,none⟩))]⟩) (fun z=>[⟨b,111,x⟩]) (fun _ Sx H2=>csr<|mv E E<|mv E E<|mv E E<|zls E E H2 fun Sx_1 H3=>nx<|zp H3 (fun (J:Mem→Prop) (z:Unit) S=>J S) (fun z=>⟨43,[(0,eP c),(1,.int .i64 vm),(2,.int .i64 page),(7,.pointer (some ⟨b,0,none⟩))]⟩) (fun z=>[⟨b,111,x⟩]) (fun _ Sx_2 H4=>qc (by kernel_rfl)<|a_takeP 0 E (by decide +kernel) zc E (zt E)<|by exact a_takeP 1 E (by decide +kernel) zc E (zt E)<|by exact by obtain⟨b_1,o,rfl,H5⟩:=H4;exact a_takeP 2 E (by decide +kernel) zc E (qt E)<|by exact a_takeP 3 E (by decide +kernel) zc E (zv E E)<|by exact gx H5 fun t ht H6=>qp 4 E (by decide +kernel) zc E (zF E) (qh ht)<|by exact a_takeP 5 E (by decide +kernel) zc E (zt E)<|by exact a_takeP 6 E (by decide +kernel) zc E (zt E)<|by exact a_takeP 7 E (by decide +kernel) zc E (qj E E)<|by exact by refine qp 8 E (by decide +kernel) zc E (qa E hx) (zx (k:=3) 0 E (ze hx)) ?_;exact a_takeP 9 E (by decide +kernel) zc E (qj E (yY (off:=0) (size:=2) E E (zY (n:=5) E (by decide)) (yY (off:=2) (size:=3) E hx (zY (n:=5) (gr (m:=2) E E (by decide)) (by decide)) zcG)))<|by exact zH 10 (by decide +kernel) E<|by exact zkR E E (by decide) (zes (size:=5) E (gr (m:=3) (gr (m:=2) E E (by decide)) hx (by decide))) fun b_2=>zu<|qf (zA (zx (k:=3) 0 E (ze hx)) (zA (qh ht) zD))<|zH 11 (by decide +kernel) E<|by exact an H6 fun c_1 H7=>zau (sx:=t) (vs:=spl (spl ([.int .i64 0,.int .i64 0,.bool false,.int .i64 0,.bool false]) 0 [.int .i64 vm,.int .i64 page]) 2 x) E E E (zjE 1 E (ze (gr (m:=3) (gr (m:=2) E E (by decide)) hx (by decide)))) (gr (m:=3) (gr (m:=2) E E (by decide)) hx (by decide)) c_1 (by decide) H7 fun t_1 Sx_3 H8=>zu<|qf (zA (zx (k:=3) 0 E (ze hx)) zD)<|a_takeP 12 E (by decide +kernel) zc E (qt E)<|by exact a_takeP 13 E (by decide +kernel) zc E (zv E E)<|by exact zH 14 (by decide +kernel) E<|by exact an H8 fun c_2 H9=>qY E E E E E c_2 E<|zu<|qf zD<|qi (by decide +kernel)<|by exact ziG results249 (zg) ⟨E,H9⟩) (fun Jx hJx H10=>csr<|mv E E<|by obtain⟨b_3,o_1,rfl,H11⟩:=H10;exact s_p E (qt E)<|s_p E (zv E E)<|gx H11 fun t_2 ht_2 H12=>s_v E (zF E) (qh ht_2)<|s_p E (vX E)<|iteK H12 (fun c_3 H13=>ceT E E E (c_3)<|nx<|ctr E E<|mv E E<|mv E E<|s_p E (qt E)<|s_p E (zv E E)<|gx H13 fun t_3 ht_3 H14=>s_v E (zF E) (qh ht_3)<|an3 H14 fun c_4 c_5 c_6 H15=>by obtain⟨t_4,et_4,H16⟩:=zkT H15;exact s_p E (eqv (zdP (a:=1) (b:=(t_3.n:Int)) E E E c_4 c_5 c_6) (congrArg eL et_4))<|by obtain⟨vs,h,c_7,H17⟩:=H16;exact zau (sx:=⟨none,0,0⟩) (vs:=vs) E E E ((fj h).1) ((fj (P:=prog) (w0:=w0) (S0:=S) (V:=[]) h).2) c_7 (by decide) H17 fun t_5 Sx_5 H18=>s_p E (qt E)<|s_p E (zv E E)<|an H18 fun c_8 H19=>qY E E E E E c_8 E<|zu<|hJx () _ _ _ _ [0] H19 E ⟨E,E,E,E,True.intro⟩ E) fun c_3 H13=>ceF E E E (c_3)<|nx<|cfs E E<|hJx () _ _ _ _ [0] H13 E ⟨E,E,E,E,True.intro⟩ E)) (fun Jx_1 hJx_1 H20=>csr<|mv E E<|iteK H20 (fun c_9 H21=>s_p E (yT (wb (p:=c) E E) c_9)<|nx<|c_t E E<|zo<|zb<|zn results249 (zg) ⟨E,H21⟩) fun c_9 H21=>s_p E (yF (wb (p:=c) E E) c_9)<|nx<|cfs E E<|hJx_1 () _ _ _ _ [0] H21 E ⟨E,E,E,E,True.intro⟩ E)
def vk (S:Mem) (c:Pt) (wants:Value) (Q:Mem→Prop):Prop:=
 jn (fun (l:Sl) (Sx:Mem)=>
 nn c fun b o=>
 pt Sx b o 1 ([eL l]) fun Sx_1=>
 Q Sx_1) fun Jx=>
 nn c fun b_1 o_1=>
 gL (S.cell b_1 o_1) fun t=>
 lp (fun Xx (z:Sl×Int) (Sx_2:Mem)=>
 match z with
 | (l_1,t_1)=>
 if t_1<(t.n:Int) then
 sl t fun b_2 o_2 n n_1=>
 0≤t_1∧t_1<((n:Nat):Int) ∧
 gA (Sx_2.part b_2 (o_2+t_1.toNat*5) 5) fun t_2=>
 t_2.all (·.oneCell')=true ∧
 cv prog Sx_2 wants [valL t_2] fun rv Sx_3=>∃ t_3:Bool,rv=.bool t_3∧
 if t_3=true then
 t_2.all (·.oneCell')=true ∧
 ap Sx_3 264 5 40 [.int .i64 0,.int .i64 0,.bool false,.int .i64 0,.bool false] l_1 1 t_2 fun t_4 Sx_4=>
 Xx (t_4,IntKind.i64.wrap (t_1+1)) Sx_4
 else
 Xx (l_1,IntKind.i64.wrap (t_1+1)) Sx_3
 else
 Jx l_1 Sx_2) (⟨none,0,0⟩,0) S
theorem zcp {S:Mem} {c:Pt} {wants:Value} {Q:Mem→Prop} (H:vk S c wants Q):ko S c wants Q:=by
 unfold vk at H
 have:=dj0 (α:=Sl×Unit) 8 [0] (fun z=>[(4,eL z.1)])
 have:=dj0 (α:=Sl×Int) 3 [0,1,10,11] (fun z=>[(4,eL z.1),(12,.int .i64 z.2)])
 exact Tr.intro func151 E ntmps151 E fun w0=>go results151 H
end
end Go.Proofs.YtabdpmnhjlmnlaaGreatDoor
