/- Texts of this work,joined by program (pack.py). -/
import Derived.Test.YtabdpmnhjlmnlaaGreatDoorQBG
import Derived.Lib.TrailingZeros
set_option linter.unusedVariables false
namespace Go.Pt
section
open Go Go.RowKit
structure At (S:Mem) (b o:Nat) (l:List Value):Prop where
 ex:∃ k,S b=some k∧k.fr=(0,0)∧lpart k.cs o l.length=some l
theorem zqh {cs l vs:List Value} {o i:Nat} (h:lpart cs o l.length=some l) (hi:i+vs.length≤l.length):spl cs (o+i) vs=spl cs o (spl l i vs):=by
 obtain⟨h1,_,_⟩:=qL h
 have hl:=zS hi
 apply List.ext_getElem?
 intro j
 rw[jU (by omega),jU (by omega),hl]
 by_cases hj:o≤j∧j<o+l.length
 ·rw[if_pos hj,jU hi]
  by_cases h2:i≤j-o∧j-o<i+vs.length
  ·rw[if_pos h2,if_pos (by omega)];congr 1;omega
  ·rw[if_neg h2,if_neg (by omega),ka h (j-o) (by omega)];congr 1;omega
 ·rw[if_neg hj,if_neg (by omega)]
theorem zmK {cs l l':List Value} {o:Nat} (h:o+l.length≤cs.length) (hl:l'.length=l.length):spl (spl cs o l) o l'=spl cs o l':=by
 apply List.ext_getElem?
 intro j
 rw[jU (by rw[zS h];omega),jU h,jU (by omega)]
 by_cases hj:o≤j∧j<o+l'.length
 ·rw[if_pos hj,if_pos hj]
 ·rw[if_neg hj,if_neg hj,if_neg (by omega)]
theorem zmJ {cs l:List Value} {o:Nat} (h:lpart cs o l.length=some l):spl cs o l=cs:=by
 obtain⟨h1,_,_⟩:=qL h
 apply List.ext_getElem?
 intro j
 rw[jU h1]
 by_cases hj:o≤j∧j<o+l.length
 ·rw[if_pos hj,ka h (j-o) (by omega)];congr 1;omega
 ·rw[if_neg hj]
theorem zlT {cs l:List Value} {o:Nat} (h:o+l.length≤cs.length):lpart (spl cs o l) o l.length=some l:=by
 rw[qA (by rw[zS h];exact h)]
 congr 1
 apply List.ext_getElem?
 intro j
 rw[List.getElem?_take,List.getElem?_drop,jU h]
 by_cases hj:j<l.length
 ·rw[if_pos hj,if_pos (by omega)];congr 1;omega
 ·rw[if_neg hj,List.getElem?_eq_none (by omega)]
variable {S:Mem} {b o:Nat} {l:List Value}
theorem At.self (h:At S b o l):S.put b o l=S:=by
 obtain⟨k,h1,_,h3⟩:=h.ex
 rw[kR h1,zmJ h3];exact zcu h1
theorem At.put (h:At S b o l) {l':List Value} (hl:l'.length=l.length):At (S.put b o l') b o l':=by
 obtain⟨k,h1,h2,h3⟩:=h.ex
 have h4:=(qL h3).1
 exact⟨⟨k.ty,spl k.cs o l',k.fr⟩,by rw[kR h1,zy],h2,zlT (by omega)⟩
theorem At.put2 (h:At S b o l) {l1 l2:List Value} (h1:l1.length=l.length) (h2:l2.length=l.length):(S.put b o l1).put b o l2=S.put b o l2:=by
 obtain⟨k,e1,_,e3⟩:=h.ex
 have h4:=(qL e3).1
 rw[kR e1,kR e1,kR (zy),set_set]
 simp only
 rw[zmK (by omega) (by omega)]
theorem At.cell (h:At S b o l) {i:Nat} (hi:i<l.length):S.cell b (o+i)=nthL l i:=by
 obtain⟨k,h1,_,h3⟩:=h.ex
 rw[qo h1,zK,zK,ka h3 i hi]
theorem At.part (h:At S b o l) {i n:Nat} (hi:i+n≤l.length):S.part b (o+i) n=lpart l i n:=by
 obtain⟨k,h1,_,h3⟩:=h.ex
 have h4:=qL h3
 rw[yh h1,qA (by omega),qA hi]
 congr 1
 apply List.ext_getElem?
 intro j
 rw[List.getElem?_take,List.getElem?_take,List.getElem?_drop,List.getElem?_drop]
 by_cases hj:j<n
 ·rw[if_pos hj,if_pos hj,ka h3 (i+j) (by omega)];congr 1;omega
 ·rw[if_neg hj,if_neg hj]
theorem At.all (h:At S b o l):S.part b o l.length=some l:=by
 obtain⟨k,h1,_,h3⟩:=h.ex
 rw[yh h1];exact h3
theorem At.pt (h:At S b o l) {i n:Nat} {vs:List Value} (hn:n=vs.length) (hi:i+vs.length≤l.length) {K:Mem→Prop} (hK:K (S.put b o (spl l i vs))):Go.Pt.pt S b (o+i) n vs K:=by
 obtain⟨k,h1,h2,h3⟩:=h.ex
 have h4:=qL h3
 refine⟨⟨k,h1,h2,by omega⟩,?_⟩
 have:S.put b (o+i) vs=S.put b o (spl l i vs):=by rw[kR h1,kR h1,zqh h3 hi]
 rw[this];exact hK
theorem At.keep {S':Mem} (h:At S b o l) (hk:S' b=S b):At S' b o l:=by
 obtain⟨k,h1,h2⟩:=h.ex
 exact⟨k,by rw[hk];exact h1,h2⟩
theorem At.some (h:At S b o l):S b≠none:=by
 obtain⟨k,h1,_⟩:=h.ex;rw[h1];simp
theorem At.mv {ρ:Rho} {R:Nat→Prop} {S0:Mem} {ρ0:Rho} (m:Mv S0 ρ0 S ρ R) (h:At S b o l) {r:Nat} (hb:ρ b=Option.some r) (hr:R r) (l':List Value):Mv S0 ρ0 (S.put b o l') ρ R:=by
 obtain⟨k,h1,_⟩:=h.ex
 rw[kR h1];exact m.put hb hr _
theorem Rw.at_ {ρ:Rho} {r w:Nat} {s:Sl} {A:List (List Value)} (h:Rw S ρ r w s A.flatten) (hw:∀ v∈A,v.length=w) {i:Nat} (hi:i<A.length) (hw0:0<w):∃ c,s=⟨Option.some (c,0),A.length,s.c⟩∧At S c (i*w) A[i]:=by
 have hfl:A.flatten.length=A.length*w:=by
  clear h hi
  induction A with
  | nil=>simp
  | cons x A ih=>
   have:=ih fun v hv=>hw v (by simp[hv])
   rw[List.flatten_cons,List.length_append,this,hw x (by simp),List.length_cons,Nat.add_mul];omega
 have hn:s.n=A.length:=by
  have:=h.row.len
  rw[hfl] at this
  exact (Nat.eq_of_mul_eq_mul_right hw0 this).symm
 have hcap:=h.row.cap
 rcases h.row.lie with ⟨_,h2⟩ | ⟨c,k,h1,h2,h3,h4,h5⟩
 ·omega
 refine⟨c,?_,⟨k,h2,h3,?_⟩⟩
 ·obtain⟨p,n,cc⟩:=s;simp only at h1 hn;subst h1;subst hn;rfl
 have hAi:A[i].length=w:=hw _ (List.getElem_mem hi)
 have hi1:(i+1)*w≤A.length*w:=Nat.mul_le_mul_right _ hi
 rw[Nat.add_mul,Nat.one_mul] at hi1
 have hcw:A.length*w≤s.c*w:=Nat.mul_le_mul_right _ (by omega)
 rw[qA (by omega)]
 congr 1
 have key:∀ (A:List (List Value)) (i:Nat) (hi:i<A.length),(∀ v∈A,v.length=w)→(A.flatten.drop (i*w)).take w=A[i]:=by
  intro A
  induction A with
  | nil=>intro i hi;simp at hi
  | cons x A ih=>
   intro i hi hw
   have hx:x.length=w:=hw x (by simp)
   cases i with
   | zero=>rw[Nat.zero_mul,List.drop_zero,List.flatten_cons,List.take_left' hx];rfl
   | succ i=>
    rw[List.flatten_cons,show (i+1)*w=x.length+i*w by rw[Nat.add_mul,hx];omega,←List.drop_drop,List.drop_left' rfl]
    exact ih i (by simpa using hi) fun v hv=>hw v (by simp[hv])
 have h6:=key A i hi hw
 rw[hAi,←h6,←h5]
 apply List.ext_getElem?
 intro j
 simp only[List.getElem?_take,List.getElem?_drop]
 by_cases hj:j<w
 ·rw[if_pos hj,if_pos hj,if_pos (by rw[hn];omega)]
 ·rw[if_neg hj,if_neg hj]
end
end Go.Pt
namespace Go.Cr
section
open Go Go.Pt
structure Seat where
 R:List Int
 pc:Int
 base:Int
 vec:Int
 epc:Int
 cause:Int
 addr:Int
 opn:Bool
 st:Int
 pend:Int
 mask:Int
def Seat.tail (s:Seat):List Value:=[.int .u64 s.pc,.int .u64 s.base,.int .u64 s.vec,.int .u64 s.epc,.int .u64 s.cause,.int .u64 s.addr,.bool s.opn,.int .u8 s.st,.int .u32 s.pend,.int .u32 s.mask]
def Seat.L (s:Seat):List Value:=s.R.map (Value.int .u64)++s.tail
abbrev W64 (x:Int):Prop:=0≤x∧x≤18446744073709551615
structure Seat.Ok (s:Seat):Prop where
 len:s.R.length=16
 r:∀ x∈s.R,W64 x
 pc:W64 s.pc
 base:W64 s.base
 vec:W64 s.vec
 epc:W64 s.epc
 cause:W64 s.cause
 addr:W64 s.addr
 st:0≤s.st∧s.st≤2
 pend:0≤s.pend∧s.pend≤255
 mask:0≤s.mask∧s.mask≤255
def seat0:Seat:=⟨List.replicate 16 0,0,0,0,0,0,0,false,0,0,0⟩
theorem zjn:seat0.Ok:=⟨rfl,fun x hx=>by rw[List.eq_of_mem_replicate hx];decide,by decide,by decide,by decide,by decide,by decide,by decide,by decide,by decide,by decide⟩
theorem zju {A B:List Value} {n j:Nat} (h:A.length=n):nthL (A++B) (n+j)=nthL B j:=by
 rw[zK,zK,List.getElem?_append_right (by omega)]
 congr 1;omega
theorem zL:∀ {A B v:List Value} {n j:Nat},A.length=n→spl (A++B) (n+j) v=A++spl B j v
 | [],B,v,n,j,h=>by
  have:n=0:=by simpa using h.symm
  subst this;simp
 | a :: A,B,v,n,j,h=>by
  obtain⟨m,rfl⟩:∃ m,n=m+1:=⟨A.length,by simpa using h.symm⟩
  rw[show m+1+j=(m+j)+1 by omega]
  simp only[List.cons_append,spl]
  rw[zL (by simpa using h)]
theorem zhx:∀ {A B:List Value} {j:Nat} {v:Value},j<A.length→spl (A++B) j [v]=A.set j v++B
 | [],B,j,v,h=>by simp at h
 | a :: A,B,0,v,h=>by cases B <;> simp[spl] <;> cases A <;> simp[spl]
 | a :: A,B,j+1,v,h=>by
  simp only[List.cons_append,spl,List.set_cons_succ]
  rw[zhx (by simpa using h)]
variable {s:Seat}
theorem Seat.L_len (h:s.R.length=16):s.L.length=26:=by simp[Seat.L,Seat.tail,h]
theorem Seat.L_r (h:s.R.length=16) {i:Nat} (hi:i<16):nthL s.L i=some (.int .u64 (s.R.getD i 0)):=by
 unfold Seat.L
 rw[zK,List.getElem?_append_left (by simpa [h] using hi),List.getElem?_map,List.getD_eq_getElem?_getD,List.getElem?_eq_getElem (by omega)];rfl
theorem Seat.L_t (h:s.R.length=16) (j:Nat):nthL s.L (16+j)=nthL s.tail j:=zju (by simpa using h)
theorem Seat.set_t (h:s.R.length=16) (j:Nat) (v:List Value):spl s.L (16+j) v=s.R.map (Value.int .u64)++spl s.tail j v:=zL (by simpa using h)
theorem Seat.set_r (h:s.R.length=16) {i:Nat} (hi:i<16) (x:Int):spl s.L i [.int .u64 x]=({ s with R:=s.R.set i x }:Seat).L:=by
 unfold Seat.L
 rw[zhx (by simpa [h] using hi)]
 show _=(s.R.set i x).map _++_
 rw[List.map_set];rfl
section
variable (h:s.R.length=16)
include h
theorem Seat.g16:nthL s.L 16=some (.int .u64 s.pc):=Seat.L_t h 0
theorem Seat.g17:nthL s.L 17=some (.int .u64 s.base):=Seat.L_t h 1
theorem Seat.g18:nthL s.L 18=some (.int .u64 s.vec):=Seat.L_t h 2
theorem Seat.g19:nthL s.L 19=some (.int .u64 s.epc):=Seat.L_t h 3
theorem Seat.g20:nthL s.L 20=some (.int .u64 s.cause):=Seat.L_t h 4
theorem Seat.g21:nthL s.L 21=some (.int .u64 s.addr):=Seat.L_t h 5
theorem Seat.g22:nthL s.L 22=some (.bool s.opn):=Seat.L_t h 6
theorem Seat.g23:nthL s.L 23=some (.int .u8 s.st):=Seat.L_t h 7
theorem Seat.g24:nthL s.L 24=some (.int .u32 s.pend):=Seat.L_t h 8
theorem Seat.g25:nthL s.L 25=some (.int .u32 s.mask):=Seat.L_t h 9
theorem Seat.s16 (x:Int):spl s.L 16 [.int .u64 x]=({ s with pc:=x }:Seat).L:=Seat.set_t h 0 _
theorem Seat.s17 (x:Int):spl s.L 17 [.int .u64 x]=({ s with base:=x }:Seat).L:=Seat.set_t h 1 _
theorem Seat.s18 (x:Int):spl s.L 18 [.int .u64 x]=({ s with vec:=x }:Seat).L:=Seat.set_t h 2 _
theorem Seat.s19 (x:Int):spl s.L 19 [.int .u64 x]=({ s with epc:=x }:Seat).L:=Seat.set_t h 3 _
theorem Seat.s20 (x:Int):spl s.L 20 [.int .u64 x]=({ s with cause:=x }:Seat).L:=Seat.set_t h 4 _
theorem Seat.s21 (x:Int):spl s.L 21 [.int .u64 x]=({ s with addr:=x }:Seat).L:=Seat.set_t h 5 _
theorem Seat.s22 (x:Bool):spl s.L 22 [.bool x]=({ s with opn:=x }:Seat).L:=Seat.set_t h 6 _
theorem Seat.s23 (x:Int):spl s.L 23 [.int .u8 x]=({ s with st:=x }:Seat).L:=Seat.set_t h 7 _
theorem Seat.s24 (x:Int):spl s.L 24 [.int .u32 x]=({ s with pend:=x }:Seat).L:=Seat.set_t h 8 _
theorem Seat.s25 (x:Int):spl s.L 25 [.int .u32 x]=({ s with mask:=x }:Seat).L:=Seat.set_t h 9 _
end
end
end Go.Cr
section
namespace Go.Cr
open Go Go.Pt Go.Lib
theorem zI {β:Type} {J:β} {B:β→Prop} (R:β→Prop) (hJ:R J) (hB:∀ j,R j→B j):jn J B:=hB J hJ
structure Pl (S:Mem) (b o:Nat):Prop where
 ex:∃ l,At S b o l∧l.length=26
theorem Pl.of {S:Mem} {b o:Nat} {s:Seat} (h:At S b o s.L) (hl:s.R.length=16):Pl S b o:=⟨_,h,Seat.L_len hl⟩
section
variable {S:Mem} {b o:Nat} {s:Seat}
theorem Pl.at_ (h:Pl S b o) (hl:s.R.length=16):At (S.put b o s.L) b o s.L:=by
 obtain⟨l,h1,h2⟩:=h.ex
 exact h1.put (by rw[Seat.L_len hl,h2])
theorem Pl.cell (h:Pl S b o) (hl:s.R.length=16) {i:Nat} (hi:i<26):(S.put b o s.L).cell b (o+i)=nthL s.L i:=(h.at_ hl).cell (by rw[Seat.L_len hl];exact hi)
theorem Pl.all (h:Pl S b o) (hl:s.R.length=16):(S.put b o s.L).part b o 26=some s.L:=by
 have:=(h.at_ hl).all
 rwa [Seat.L_len hl] at this
theorem Pl.pt (h:Pl S b o) (hl:s.R.length=16) {i:Nat} {v:Value} {s':Seat} (hi:i<26) (he:spl s.L i [v]=s'.L) {K:Mem→Prop} (hK:K (S.put b o s'.L)):Go.Pt.pt (S.put b o s.L) b (o+i) 1 [v] K:=by
 obtain⟨l,h1,h2⟩:=h.ex
 have hll:=Seat.L_len hl
 refine (h.at_ hl).pt (i:=i) (vs:=[v]) rfl (by rw[hll];show i+1≤26;omega) ?_
 have hl':s'.L.length=26:=by rw[←he,zS (by rw[hll];show i+1≤26;omega),hll]
 rw[he,h1.put2 (by omega) (by omega)]
 exact hK
end
def Seat.trap (s:Seat) (cause addr:Int):Seat:=if s.vec=0 then { s with st:=2 } else { s with epc:=s.pc,cause:=cause,addr:=addr,pc:=s.vec,opn:=false }
theorem Seat.trap_ok {s:Seat} (h:s.Ok) {c a:Int} (hc:W64 c) (ha:W64 a):(s.trap c a).Ok:=by
 unfold Seat.trap
 split
 ·exact { h with st:=⟨by show (0:Int)≤2;decide,by show (2:Int)≤2;decide⟩ }
 ·exact { h with epc:=h.pc,cause:=hc,addr:=ha,pc:=h.vec }
def Seat.back (s:Seat):Seat:={ s with pc:=s.epc,opn:=true }
theorem Seat.back_ok {s:Seat} (h:s.Ok):s.back.Ok:={ h with pc:=h.epc }
def Seat.may (s:Seat):Int:=iand .u32 s.pend s.mask
theorem iand32 {a b:Int} (ha:0≤a∧a≤255) (hb:0≤b∧b≤255):∃ m:Nat,iand .u32 a b=m∧m=a.toNat &&& b.toNat∧m≤255:=by
 obtain⟨x,rfl⟩:∃ m:Nat,a=m:=⟨a.toNat,by omega⟩
 obtain⟨y,rfl⟩:∃ m:Nat,b=m:=⟨b.toNat,by omega⟩
 refine⟨x &&& y,?_,by simp,?_⟩
 ·unfold iand
  show IntKind.u32.wrap ((BitVec.ofInt 32 (x:Int) &&& BitVec.ofInt 32 (y:Int)).toNat:Int)=_
  have e1:(BitVec.ofInt 32 (x:Int))=BitVec.ofNat 32 x:=BitVec.ofInt_natCast 32 x
  have e2:(BitVec.ofInt 32 (y:Int))=BitVec.ofNat 32 y:=BitVec.ofInt_natCast 32 y
  rw[e1,e2,BitVec.toNat_and,BitVec.toNat_ofNat,BitVec.toNat_ofNat,Nat.mod_eq_of_lt (by omega),Nat.mod_eq_of_lt (by omega)]
  have:x &&& y≤x:=Nat.and_le_left
  exact wu32 (by omega) (by omega)
 ·have:x &&& y≤x:=Nat.and_le_left
  omega
theorem Seat.may_nat {s:Seat} (h:s.Ok):∃ m:Nat,s.may=m∧m=s.pend.toNat &&& s.mask.toNat∧m≤255:=iand32 h.pend h.mask
def Seat.wake (s:Seat):Seat:=if s.st=1∧s.may≠0 then { s with st:=0 } else s
theorem Seat.wake_ok {s:Seat} (h:s.Ok):s.wake.Ok:=by
 unfold Seat.wake
 split
 ·exact { h with st:=⟨by show (0:Int)≤0;decide,by show (0:Int)≤2;decide⟩ }
 ·exact h
def low (m:Nat):Nat:=((List.range 8).find? fun i=>m/2 ^ i%2 == 1).getD 8
def nextL (s:Seat):Option Nat:=if s.opn=true∧s.may≠0 then some (low s.may.toNat) else none
theorem znJ:∀ m:Fin 256,m.1≠0→0≤ishr .u64 (IntKind.u64.wrap ((iand .u64 (m.1:Int) (IntKind.u64.wrap (0-(m.1:Int))))*285870213051353865)) 58 ∧
  ishr .u64 (IntKind.u64.wrap ((iand .u64 (m.1:Int) (IntKind.u64.wrap (0-(m.1:Int))))*285870213051353865)) 58<64 ∧
  deBruijn64tab[(ishr .u64 (IntKind.u64.wrap ((iand .u64 (m.1:Int) (IntKind.u64.wrap (0-(m.1:Int))))*285870213051353865)) 58).toNat]? = some (low m.1)∧low m.1<8∧m.1/2 ^ low m.1%2=1:=by decide +kernel
end Go.Cr
namespace Go.Proofs.YtabdpmnhjlmnlaaGreatDoor
open Go Go.Pt Go.Cr Go.Lib
structure Gl (S:Mem):Prop where
 tab:∃ t fr,S 0=some ⟨t,deBruijn64tab.map fun (n:Nat)=>Value.int .u8 n,fr⟩
theorem Gl.keep {S S':Mem} (h:Gl S) (hk:S' 0=S 0):Gl S':=by
 obtain⟨t,fr,h1⟩:=h.tab
 exact⟨t,fr,by rw[hk];exact h1⟩
section
variable {S:Mem} {b o:Nat} {s:Seat}
theorem zkC (hg:Gl S) {m:Nat} (h0:m≠0) (hm:m≤255) {Q:Int→Mem→Prop} (hQ:Q (low m:Int) S):zcO S (m:Int) Q:=by
 obtain⟨h1,h2,h3,h4,_⟩:=znJ ⟨m,by omega⟩ h0
 simp only at h1 h2 h3 h4
 obtain⟨t,fr,ht⟩:=hg.tab
 apply zhl
 unfold zaF
 apply zab
 unfold xw
 rw[if_neg (by omega)]
 refine⟨h1,h2,?_⟩
 rw[zB (n:=(low m:Int)) ?_]
 ·rw[w64 (by omega) (by omega)];exact hQ
 ·rw[qo ht,zK]
  simp only[Nat.zero_add,Nat.mul_one,List.getElem?_map,h3,Option.map_some]
theorem zla (hp:Pl S b o) (hl:s.R.length=16) {cause addr:Int} {Q:Mem→Prop} (hQ:Q (S.put b o (s.trap cause addr).L)):zeT (S.put b o s.L) (some (b,o)) cause addr Q:=by
 apply zil
 unfold zbQ
 simp only[jn,reduceCtorEq,if_false]
 rw[zV,zV,zB ((hp.cell hl (by decide)).trans (Seat.g18 hl))]
 unfold Seat.trap at hQ
 by_cases hv:s.vec=0
 ·rw[if_pos hv] at hQ ⊢
  exact hp.pt hl (by decide) (Seat.s23 hl _) hQ
 ·rw[if_neg hv] at hQ ⊢
  rw[zB ((hp.cell hl (by decide)).trans (Seat.g16 hl)),zB ((hp.cell hl (by decide)).trans (Seat.g18 hl))]
  refine hp.pt hl (by decide) (Seat.s19 hl _) ?_
  refine hp.pt (s:={ s with epc:=s.pc }) hl (by decide) (Seat.s20 (s:={ s with epc:=s.pc }) hl _) ?_
  refine hp.pt (s:={ s with epc:=s.pc,cause:=cause }) hl (by decide) (Seat.s21 (s:={ s with epc:=s.pc,cause:=cause }) hl _) ?_
  refine hp.pt (s:={ s with epc:=s.pc,cause:=cause,addr:=addr }) hl (by decide) (Seat.s16 (s:={ s with epc:=s.pc,cause:=cause,addr:=addr }) hl _) ?_
  exact hp.pt (s:={ s with epc:=s.pc,cause:=cause,addr:=addr,pc:=s.vec }) hl (by decide) (Seat.s22 (s:={ s with epc:=s.pc,cause:=cause,addr:=addr,pc:=s.vec }) hl _) hQ
theorem zmy (hp:Pl S b o) (hl:s.R.length=16) {Q:Mem→Prop} (hQ:Q (S.put b o s.back.L)):zeV (S.put b o s.L) (some (b,o)) Q:=by
 apply zin
 unfold zbS
 rw[if_pos (by simp),zV,zB ((hp.cell hl (by decide)).trans (Seat.g19 hl))]
 refine hp.pt hl (by decide) (Seat.s16 hl _) ?_
 exact hp.pt (s:={ s with pc:=s.epc }) hl (by decide) (Seat.s22 (s:={ s with pc:=s.epc }) hl _) hQ
theorem zhj (hp:Pl S b o) (hl:s.R.length=16) {Q:Mem→Prop} (hQ:Q (S.put b o s.wake.L)):zcD (S.put b o s.L) (some (b,o)) Q:=by
 apply zip
 unfold zbU
 rw[if_pos (by simp),zV,zB ((hp.cell hl (by decide)).trans (Seat.g23 hl))]
 unfold Seat.wake Seat.may at hQ
 by_cases h1:s.st=1
 ·rw[if_pos h1,zB ((hp.cell hl (by decide)).trans (Seat.g24 hl)),zB ((hp.cell hl (by decide)).trans (Seat.g25 hl))]
  by_cases h2:iand .u32 s.pend s.mask≠0
  ·rw[if_pos ⟨h1,h2⟩] at hQ
   rw[if_pos h2]
   exact hp.pt hl (by decide) (Seat.s23 hl _) hQ
  ·rw[if_neg (fun h=>h2 h.2)] at hQ
   rw[if_neg h2];exact hQ
 ·rw[if_neg (fun h=>h1 h.1)] at hQ
  rw[if_neg h1];exact hQ
theorem zlK (hg:Gl (S.put b o s.L)) (hp:Pl S b o) (hs:s.Ok) {Q:Int→Bool→Mem→Prop} (hQ:match nextL s with | some n=>Q n true (S.put b o s.L) | none=>Q 0 false (S.put b o s.L)):zfk (S.put b o s.L) (some (b,o)) Q:=by
 have hl:=hs.len
 apply zir
 unfold zbW
 unfold nextL at hQ
 simp only[jn,reduceCtorEq,if_false]
 rw[zV,zV,fM ((hp.cell hl (by decide)).trans (Seat.g22 hl))]
 by_cases h1:s.opn=true
 ·rw[if_pos h1,zB ((hp.cell hl (by decide)).trans (Seat.g24 hl)),zB ((hp.cell hl (by decide)).trans (Seat.g25 hl))]
  obtain⟨m,e,_,hm⟩:=Seat.may_nat hs
  unfold Seat.may at e hQ
  by_cases h2:iand .u32 s.pend s.mask=0
  ·rw[if_neg (fun h=>h.2 h2)] at hQ
   rw[if_pos h2];exact hQ
  ·rw[if_pos ⟨h1,h2⟩] at hQ
   rw[if_neg h2]
   simp only[e,Int.toNat_natCast] at hQ h2 ⊢
   rw[zB ((hp.cell hl (by decide)).trans (Seat.g24 hl)),zB ((hp.cell hl (by decide)).trans (Seat.g25 hl)),e,wu64 (by omega) (by omega)]
   refine zkC hg (by omega) hm ?_
   exact⟨(hp.cell hl (by decide)).trans (Seat.g25 hl),(hp.cell hl (by decide)).trans (Seat.g24 hl),hQ⟩
 ·rw[if_neg (fun h=>h1 h.1)] at hQ
  rw[if_neg h1];exact hQ
end
end Go.Proofs.YtabdpmnhjlmnlaaGreatDoor
end
section
namespace Go.Cr
open Go Go.Pt
def cls (c:Int):Nat:=if c=0∨c=21∨c=22 then 0 else if c=1∨c=2∨c=18∨c=19 then 1 else if c=20 then 2 else if 11≤c∧c≤17 then 3 else 4
theorem zjG (c:Int):cls c≤4:=by unfold cls;repeat' split <;> try omega
def fA:Nat→Bool | 1 | 3 | 4=>true | _=>false
def fB:Nat→Bool | 3 | 4=>true | _=>false
def fC:Nat→Bool | 4=>true | _=>false
def fN:Nat→Bool | 1 | 2 | 3=>true | _=>false
def kdL (m:Nat):List Value:=[.bool (fA m),.bool (fB m),.bool (fC m),.bool (fN m)]
def rf:Nat→Int | 0=>0 | 1=>9 | 2=>8 | 3=>11 | _=>7
def regR (f:Bool) (r:Int):Prop:=r=0∨(f=true∧r<16)
structure Rt (k a b c n:Int):Prop where
 kk:k<23
 aa:regR (fA (cls k)) a
 bb:regR (fB (cls k)) b
 cc:regR (fC (cls k)) c
 nn:fN (cls k)=true∨n=0
 rw:k=18∨k=19→0≤n∧n<9
instance (f:Bool) (r:Int):Decidable (regR f r):=by unfold regR;infer_instance
instance (k a b c n:Int):Decidable (Rt k a b c n):=
 decidable_of_iff (k<23∧regR (fA (cls k)) a∧regR (fB (cls k)) b∧regR (fC (cls k)) c∧(fN (cls k)=true∨n=0)∧(k=18∨k=19→0≤n∧n<9))
  ⟨fun⟨h1,h2,h3,h4,h5,h6⟩=>⟨h1,h2,h3,h4,h5,h6⟩,fun h=>⟨h.kk,h.aa,h.bb,h.cc,h.nn,h.rw⟩⟩
structure Bd (k a b c n:Int):Prop where
 kk:0≤k∧k≤255
 aa:0≤a∧a≤255
 bb:0≤b∧b≤255
 cc:0≤c∧c≤255
 nn : -32768≤n∧n≤32767
def opL (k a b c n:Int):List Value:=[.int .u8 k,.int .u8 a,.int .u8 b,.int .u8 c,.int .i16 n]
theorem wS (w n:Nat):BitVec.ofInt w (n:Int)=BitVec.ofNat w n:=by
 apply BitVec.eq_of_toNat_eq;simp
theorem yE {a b:Nat} (ha:a<18446744073709551616) (hb:b<18446744073709551616):iand .u64 a b=((a &&& b:Nat):Int):=by
 unfold iand
 show IntKind.u64.wrap ((BitVec.ofInt 64 (a:Int) &&& BitVec.ofInt 64 (b:Int)).toNat:Int)=_
 rw[wS,wS,BitVec.toNat_and,BitVec.toNat_ofNat,BitVec.toNat_ofNat,Nat.mod_eq_of_lt ha,Nat.mod_eq_of_lt hb]
 have:a &&& b≤a:=Nat.and_le_left
 exact wu64 (by omega) (by omega)
theorem zay {a b:Nat} (ha:a<18446744073709551616) (hb:b<18446744073709551616):ior .u64 a b=((a ||| b:Nat):Int):=by
 unfold ior
 show IntKind.u64.wrap ((BitVec.ofInt 64 (a:Int) ||| BitVec.ofInt 64 (b:Int)).toNat:Int)=_
 rw[wS,wS,BitVec.toNat_or,BitVec.toNat_ofNat,BitVec.toNat_ofNat,Nat.mod_eq_of_lt ha,Nat.mod_eq_of_lt hb]
 have:a ||| b<2 ^ 64:=Nat.or_lt_two_pow (by omega) (by omega)
 exact wu64 (by omega) (by omega)
theorem zph {x y:BitVec 64} (h:x &&& y=0#64):x &&& ~~~y=x:=by
 apply BitVec.eq_of_getLsbD_eq
 intro i hi
 have h2:=congrArg (fun z=>z.getLsbD i) h
 simp only[BitVec.getLsbD_and,BitVec.getLsbD_not,BitVec.getLsbD_zero] at h2 ⊢
 cases hx:x.getLsbD i <;> cases hy:y.getLsbD i <;> simp_all
theorem zoI {X j b:Nat} (hb:b<2 ^ j):(X*2 ^ j) &&& b=0:=by
 apply Nat.eq_of_testBit_eq
 intro i
 rw[Nat.testBit_and,Nat.zero_testBit,←Nat.shiftLeft_eq,Nat.testBit_shiftLeft]
 by_cases hi:j≤i
 ·have:b.testBit i=false:=Nat.testBit_lt_two_pow (Nat.lt_of_lt_of_le hb (Nat.pow_le_pow_right (by decide) hi))
  rw[this];simp
 ·simp[hi]
theorem zmh {a b:Nat} (ha:a<18446744073709551616) (hb:b<18446744073709551616) (h:a &&& b=0):iandn .u64 a b=(a:Int):=by
 unfold iandn
 show IntKind.u64.wrap ((BitVec.ofInt 64 (a:Int) &&& ~~~ BitVec.ofInt 64 (b:Int)).toNat:Int)=_
 rw[wS,wS,zph ?_]
 ·rw[BitVec.toNat_ofNat,Nat.mod_eq_of_lt ha]
  exact wu64 (by omega) (by omega)
 ·apply BitVec.eq_of_toNat_eq
  rw[BitVec.toNat_and,BitVec.toNat_ofNat,BitVec.toNat_ofNat,Nat.mod_eq_of_lt ha,Nat.mod_eq_of_lt hb,h]
  rfl
theorem zbp {X j b:Nat} (hb:b<2 ^ j):(X*2 ^ j) ||| b=X*2 ^ j+b:=by
 rw[←Nat.shiftLeft_eq,Nat.shiftLeft_add_eq_or_of_lt hb]
def wrd (k a b c n:Int):Int:=k*67108864+a*4194304+b*262144+(if fC (cls k)=true then c else n%65536)
theorem jL {a s:Nat} (hs:s≤63) (h:a*2 ^ s<18446744073709551616):ishl .u64 (a:Int) (s:Int)=((a*2 ^ s:Nat):Int):=by
 unfold ishl
 have e:min ((s:Int)).toNat IntKind.u64.bits=s:=by
  show min ((s:Int)).toNat 64=s
  simp;omega
 rw[e]
 have e2:((a:Int)*2 ^ s)=((a*2 ^ s:Nat):Int):=by push_cast;rfl
 rw[e2]
 exact wu64 (by omega) (by omega)
theorem vV {a s:Nat} (hs:s≤63):ishr .u64 (a:Int) (s:Int)=((a/2 ^ s:Nat):Int):=by
 unfold ishr
 have e:min ((s:Int)).toNat IntKind.u64.bits=s:=by
  show min ((s:Int)).toNat 64=s
  simp;omega
 rw[e]
 have e2:((2:Int) ^ s)=((2 ^ s:Nat):Int):=by push_cast;rfl
 rw[e2,Int.fdiv_eq_ediv_of_nonneg _ (Int.natCast_nonneg _)]
 exact (Int.natCast_ediv _ _).symm
theorem zgP {n:Nat} (h0:0<n) (hn:n≤63):IntKind.u64.wrap (ishl .u64 1 (n:Int)-1)=((2 ^ n-1:Nat):Int):=by
 have hp:2 ^ n<18446744073709551616:=Nat.lt_of_le_of_lt (Nat.pow_le_pow_right (by decide) hn) (by decide)
 have hp0:0<2 ^ n:=Nat.two_pow_pos n
 have:=jL (a:=1) hn (by rw[Nat.one_mul];exact hp)
 rw[Nat.one_mul] at this
 rw[show ((1:Nat):Int)=1 from rfl] at this
 rw[this,show ((2 ^ n:Nat):Int)-1=((2 ^ n-1:Nat):Int) by omega]
 exact wu64 (by omega) (by omega)
theorem zpZ {k a b c n:Int} (hb:Bd k a b c n) (hr:Rt k a b c n):0≤wrd k a b c n∧wrd k a b c n<1543503872:=by
 have h1:=hb.kk
 have h2:=hb.aa
 have h3:=hb.bb
 have h4:=hb.cc
 have hk:=hr.kk
 have ha:=hr.aa
 have hbb:=hr.bb
 have hcc:=hr.cc
 unfold regR at ha hbb hcc
 unfold wrd
 split <;> omega
def dK (w:Int):Int:=w/67108864%64
def dA (w:Int):Int:=w/4194304%16
def dB (w:Int):Int:=w/262144%16
def dC (w:Int):Int:=if fC (cls (dK w))=true then w%16 else 0
def dN (w:Int):Int:=if fC (cls (dK w))=true then 0 else IntKind.i16.wrap (w%65536)
theorem znN (x:Int) : -32768≤IntKind.i16.wrap x∧IntKind.i16.wrap x≤32767:=by
 simp[IntKind.wrap,IntKind.bits,IntKind.signed];omega
theorem zrw (w:Int):Bd (dK w) (dA w) (dB w) (dC w) (dN w):=by
 refine⟨by unfold dK;omega,by unfold dA;omega,by unfold dB;omega,?_,?_⟩
 ·unfold dC;split <;> omega
 ·unfold dN;split
  ·decide
  ·exact znN _
def isW (w:Int):Prop:=Rt (dK w) (dA w) (dB w) (dC w) (dN w)∧wrd (dK w) (dA w) (dB w) (dC w) (dN w)=w
theorem zpY {k a b c n:Int} (hb:Bd k a b c n) (hr:Rt k a b c n):isW (wrd k a b c n)∧dK (wrd k a b c n)=k∧dA (wrd k a b c n)=a∧dB (wrd k a b c n)=b∧dC (wrd k a b c n)=c∧dN (wrd k a b c n)=n:=by
 have h1:=hb.kk
 have h2:=hb.aa
 have h3:=hb.bb
 have h4:=hb.cc
 have h5:=hb.nn
 have hk:=hr.kk
 have ha:=hr.aa
 have hbb:=hr.bb
 have hcc:=hr.cc
 unfold regR at ha hbb hcc
 have q:0≤(if fC (cls k)=true then c else n%65536)∧(if fC (cls k)=true then c else n%65536)<65536:=by split <;> omega
 have eK:dK (wrd k a b c n)=k:=by unfold dK wrd;omega
 have eA:dA (wrd k a b c n)=a:=by unfold dA wrd;omega
 have eB:dB (wrd k a b c n)=b:=by unfold dB wrd;omega
 have eC:dC (wrd k a b c n)=c:=by
  unfold dC;rw[eK]
  by_cases hf:fC (cls k)=true
  ·rw[if_pos hf];unfold wrd;rw[if_pos hf];omega
  ·rw[if_neg hf];simp only[hf] at hcc;simp at hcc;omega
 have eN:dN (wrd k a b c n)=n:=by
  unfold dN;rw[eK]
  by_cases hf:fC (cls k)=true
  ·rw[if_pos hf]
   have hfn:fN (cls k)=false:=by
    have hm4:=zjG k
    generalize cls k=m at *
    rcases m with _ | _ | _ | _ | _ | m <;> simp[fC,fN] at *
   rcases hr.nn with h | h
   ·rw[hfn] at h;cases h
   ·exact h.symm
  ·rw[if_neg hf]
   have e:wrd k a b c n%65536=n%65536:=by unfold wrd;rw[if_neg hf];omega
   rw[e]
   simp[IntKind.wrap,IntKind.bits,IntKind.signed]
   omega
 refine⟨⟨?_,?_⟩,eK,eA,eB,eC,eN⟩
 ·rw[eK,eA,eB,eC,eN];exact hr
 ·rw[eK,eA,eB,eC,eN]
instance (w:Int):Decidable (isW w):=by unfold isW;infer_instance
end Go.Cr
namespace Go.Proofs.YtabdpmnhjlmnlaaGreatDoor
open Go Go.Pt Go.Cr
section
variable {S:Mem}
theorem zbJ {c:Int} {Q:List Value→Mem→Prop} (hQ:Q (kdL (cls c)) S):jr S c Q:=by
 apply zgA
 unfold fI
 simp only[jn,if_true,Bool.false_eq_true,if_false]
 have key:∀ m,cls c=m→Q (kdL m) S:=fun m h=>by rw[←h];exact hQ
 by_cases h0:c=0
 ·rw[if_pos h0];exact key 0 (by unfold cls;rw[if_pos (by omega)])
 rw[if_neg h0]
 by_cases h21:c=21
 ·rw[if_pos h21];exact key 0 (by unfold cls;rw[if_pos (by omega)])
 rw[if_neg h21]
 by_cases h22:c=22
 ·rw[if_pos h22];exact key 0 (by unfold cls;rw[if_pos (by omega)])
 rw[if_neg h22]
 by_cases h1:c=1
 ·rw[if_pos h1];exact key 1 (by unfold cls;rw[if_neg (by omega),if_pos (by omega)])
 rw[if_neg h1]
 by_cases h2:c=2
 ·rw[if_pos h2];exact key 1 (by unfold cls;rw[if_neg (by omega),if_pos (by omega)])
 rw[if_neg h2]
 by_cases h18:c=18
 ·rw[if_pos h18];exact key 1 (by unfold cls;rw[if_neg (by omega),if_pos (by omega)])
 rw[if_neg h18]
 by_cases h19:c=19
 ·rw[if_pos h19];exact key 1 (by unfold cls;rw[if_neg (by omega),if_pos (by omega)])
 rw[if_neg h19]
 by_cases h20:c=20
 ·rw[if_pos h20];exact key 2 (by unfold cls;rw[if_neg (by omega),if_neg (by omega),if_pos (by omega)])
 rw[if_neg h20]
 by_cases h11:c=11
 ·rw[if_pos h11];exact key 3 (by unfold cls;rw[if_neg (by omega),if_neg (by omega),if_neg (by omega),if_pos (by omega)])
 rw[if_neg h11]
 by_cases h12:c=12
 ·rw[if_pos h12];exact key 3 (by unfold cls;rw[if_neg (by omega),if_neg (by omega),if_neg (by omega),if_pos (by omega)])
 rw[if_neg h12]
 by_cases h13:c=13
 ·rw[if_pos h13];exact key 3 (by unfold cls;rw[if_neg (by omega),if_neg (by omega),if_neg (by omega),if_pos (by omega)])
 rw[if_neg h13]
 by_cases h14:c=14
 ·rw[if_pos h14];exact key 3 (by unfold cls;rw[if_neg (by omega),if_neg (by omega),if_neg (by omega),if_pos (by omega)])
 rw[if_neg h14]
 by_cases h15:c=15
 ·rw[if_pos h15];exact key 3 (by unfold cls;rw[if_neg (by omega),if_neg (by omega),if_neg (by omega),if_pos (by omega)])
 rw[if_neg h15]
 by_cases h16:c=16
 ·rw[if_pos h16];exact key 3 (by unfold cls;rw[if_neg (by omega),if_neg (by omega),if_neg (by omega),if_pos (by omega)])
 rw[if_neg h16]
 by_cases h17:c=17
 ·rw[if_pos h17];exact key 3 (by unfold cls;rw[if_neg (by omega),if_neg (by omega),if_neg (by omega),if_pos (by omega)])
 rw[if_neg h17]
 exact⟨rfl,key 4 (by unfold cls;rw[if_neg (by omega),if_neg (by omega),if_neg (by omega),if_neg (by omega)])⟩
theorem jV {c:Int} (h0:0≤c) (h1:c<23) {Q:Int→Mem→Prop} (hQ:∀ S',Keeps S S' []→Q (rf (cls c)) S'):qF S c Q:=by
 apply gp
 unfold yx
 intro b hb
 refine⟨h0,h1,?_⟩
 have hq:=hQ (S.set b (bw 3 ([.int .i64 0,.int .i64 9,.int .i64 9,.int .i64 7,.int .i64 7,.int .i64 7,.int .i64 7,.int .i64 7,.int .i64 7,.int .i64 7,.int .i64 7,.int .i64 11,.int .i64 11,.int .i64 11,.int .i64 11,.int .i64 11,.int .i64 11,.int .i64 11,.int .i64 9,.int .i64 9,.int .i64 8,.int .i64 0,.int .i64 0]))) (Keeps.refl.new hb)
 rw[zB (n:=rf (cls c)) ?_]
 ·exact hq
 ·rw[qo zy]
  have:∀ i:Fin 23,nthL ([.int .i64 0,.int .i64 9,.int .i64 9,.int .i64 7,.int .i64 7,.int .i64 7,.int .i64 7,.int .i64 7,.int .i64 7,.int .i64 7,.int .i64 7,.int .i64 11,.int .i64 11,.int .i64 11,.int .i64 11,.int .i64 11,.int .i64 11,.int .i64 11,.int .i64 9,.int .i64 9,.int .i64 8,.int .i64 0,.int .i64 0]:List Value) (0+i.1*1)=some (.int .i64 (rf (cls (i.1:Int)))):=by
   rintro⟨i,hi⟩
   match i,hi with
   | 0,_=>rfl
   | 1,_=>rfl
   | 2,_=>rfl
   | 3,_=>rfl
   | 4,_=>rfl
   | 5,_=>rfl
   | 6,_=>rfl
   | 7,_=>rfl
   | 8,_=>rfl
   | 9,_=>rfl
   | 10,_=>rfl
   | 11,_=>rfl
   | 12,_=>rfl
   | 13,_=>rfl
   | 14,_=>rfl
   | 15,_=>rfl
   | 16,_=>rfl
   | 17,_=>rfl
   | 18,_=>rfl
   | 19,_=>rfl
   | 20,_=>rfl
   | 21,_=>rfl
   | 22,_=>rfl
   | n+23,h=>exact absurd h (by omega)
  have h2:=this ⟨c.toNat,by omega⟩
  rw[show ((⟨c.toNat,by omega⟩:Fin 23).1:Int)=c by simp;omega] at h2
  exact h2
theorem znc {f:Bool} {r:Int} {Q:Bool→Mem→Prop} (hQ:Q (decide (regR f r)) S):fu S f r Q:=by
 apply zeN
 unfold jG
 unfold regR at hQ
 by_cases h:r=0
 ·rw[if_pos h];simp only[h,true_or,decide_true] at hQ;exact hQ
 ·rw[if_neg h]
  cases f with
  | true=>rw[if_pos rfl];simpa [h] using hQ
  | false=>rw[if_neg (by decide)];simpa [h] using hQ
theorem zmp {f:Bool} {r:Int} {K:Bool→Mem→Prop} (hK:K (decide (regR f r)) S):cv Tryz.prog S (.func (.func 240) #[] #[]) [.bool f,.int .u8 r] fun rv S'=>∃ t:Bool,rv=.bool t∧K t S':=by
 refine⟨240,[],[],rfl,inferInstance,?_⟩
 have h:=znc (f:=f) (r:=r) (Q:=K) hK
 unfold fu at h
 exact Tr.mono h fun v S' ⟨r0,h1,h2⟩=>⟨r0,h1,h2⟩
theorem zkk {k a b c n:Int} {Q:Bool→Mem→Prop} (hQ:Q (decide (Rt k a b c n)) S):zdq S (opL k a b c n) Q:=by
 have g0:nthL (opL k a b c n) 0=some (.int .u8 k):=rfl
 have g1:nthL (opL k a b c n) 1=some (.int .u8 a):=rfl
 have g2:nthL (opL k a b c n) 2=some (.int .u8 b):=rfl
 have g3:nthL (opL k a b c n) 3=some (.int .u8 c):=rfl
 have g4:nthL (opL k a b c n) 4=some (.int .i16 n):=rfl
 have no:¬Rt k a b c n→Q false S:=fun h=>by rw[decide_eq_false h] at hQ;exact hQ
 apply zht
 unfold zaN
 refine⟨rfl,?_⟩
 rw[zB g0]
 refine zbJ ⟨rfl,?_⟩
 refine zI (fun j=>k<23→regR (fA (cls k)) a→regR (fB (cls k)) b→regR (fC (cls k)) c→(fN (cls k)=true∨n=0)→j S) ?_ fun j hj=>?_
 ·intro h1 h2 h3 h4 h5
  have fin:∀ (p:Prop) [Decidable p],(p↔(k=18∨k=19→0≤n∧n<9))→Q (decide p) S:=fun p _ hp=>by
   have:decide p=decide (Rt k a b c n):=decide_eq_decide.2 ⟨fun h=>⟨h1,h2,h3,h4,h5,hp.1 h⟩,fun h=>hp.2 h.rw⟩
   rw[this];exact hQ
  rw[zB g0]
  by_cases h18:k=18
  ·rw[if_pos h18,zB g4]
   by_cases h0:0≤n
   ·rw[if_pos h0,zB g4]
    exact fin _ ⟨fun h _=>⟨h0,h⟩,fun h=>(h (.inl h18)).2⟩
   ·rw[if_neg h0];exact no fun h=>h0 (h.rw (.inl h18)).1
  rw[if_neg h18,zB g0]
  by_cases h19:k=19
  ·rw[if_pos h19,zB g4]
   by_cases h0:0≤n
   ·rw[if_pos h0,zB g4]
    exact fin _ ⟨fun h _=>⟨h0,h⟩,fun h=>(h (.inr h19)).2⟩
   ·rw[if_neg h0];exact no fun h=>h0 (h.rw (.inr h19)).1
  rw[if_neg h19]
  have:=fin True ⟨fun _ h=>by omega,fun _=>trivial⟩
  simpa using this
 ·rw[zB g0]
  by_cases h1:23≤k
  ·rw[if_pos h1];exact no fun h=>by have:=h.kk;omega
  rw[if_neg h1,fM (show nthL (kdL (cls k)) 0=some (.bool (fA (cls k))) from rfl),zB g1]
  refine zmp ?_
  by_cases h2:regR (fA (cls k)) a
  rotate_left
  ·rw[decide_eq_false h2,if_neg (by decide)];exact no fun h=>h2 h.aa
  rw[decide_eq_true h2,if_pos rfl,fM (show nthL (kdL (cls k)) 1=some (.bool (fB (cls k))) from rfl),zB g2]
  refine zmp ?_
  by_cases h3:regR (fB (cls k)) b
  rotate_left
  ·rw[decide_eq_false h3,if_neg (by decide)];exact no fun h=>h3 h.bb
  rw[decide_eq_true h3,if_pos rfl,fM (show nthL (kdL (cls k)) 2=some (.bool (fC (cls k))) from rfl),zB g3]
  refine zmp ?_
  by_cases h4:regR (fC (cls k)) c
  rotate_left
  ·rw[decide_eq_false h4,if_neg (by decide)];exact no fun h=>h4 h.cc
  rw[decide_eq_true h4,if_pos rfl,fM (show nthL (kdL (cls k)) 3=some (.bool (fN (cls k))) from rfl)]
  by_cases h5:fN (cls k)=true
  ·rw[if_pos h5];exact hj (by omega) h2 h3 h4 (.inl h5)
  rw[if_neg h5,zB g4]
  by_cases h6:n=0
  ·rw[if_neg (by simpa using h6)];exact hj (by omega) h2 h3 h4 (.inr h6)
  ·rw[if_pos h6];exact no fun h=>by rcases h.nn with h | h <;> contradiction
theorem zaf {w v X j:Nat} {at_ n:Nat} (hw:w=X*2 ^ j) (hj:at_+n≤j) (hj2:j≤63) (hn:0<n) (hv:v<2 ^ n) (hw64:w<18446744073709551616) {Q:Int→Mem→Prop} (hQ:Q ((w+v*2 ^ at_:Nat):Int) S):yo S (w:Int) at_ n (v:Int) Q:=by
 apply gJ
 unfold vH
 have hpn:2 ^ n<18446744073709551616:=Nat.lt_of_le_of_lt (Nat.pow_le_pow_right (by decide) (show n≤63 by omega)) (by decide)
 have hpj:2 ^ j<18446744073709551616:=Nat.lt_of_le_of_lt (Nat.pow_le_pow_right (by decide) hj2) (by decide)
 have hp0:0<2 ^ n:=Nat.two_pow_pos n
 have hpa:0<2 ^ at_:=Nat.two_pow_pos at_
 have hmul:2 ^ n*2 ^ at_≤2 ^ j:=by rw[←Nat.pow_add];exact Nat.pow_le_pow_right (by decide) (by omega)
 have hm1:(2 ^ n-1)*2 ^ at_<2 ^ j:=Nat.lt_of_lt_of_le (Nat.mul_lt_mul_of_pos_right (by omega) hpa) hmul
 have hv1:v*2 ^ at_<2 ^ j:=Nat.lt_of_lt_of_le (Nat.mul_lt_mul_of_pos_right hv hpa) hmul
 refine zI (fun j=>j S) ?_ fun j0 hj0=>by rw[if_neg (by omega),if_neg (by omega),if_neg (by omega)];exact hj0
 refine zI (fun j0=>j0 ((2 ^ n-1:Nat):Int) S) ?_ fun j0 hj0=>?_
 ·refine⟨by omega,by omega,?_⟩
  rw[jL (by omega) (by omega),zmh hw64 (by omega) (by rw[hw];exact zoI hm1)]
  rw[yE (by omega) (by omega),Nat.and_two_pow_sub_one_eq_mod,Nat.mod_eq_of_lt hv,jL (by omega) (by omega),zay hw64 (by omega),hw,zbp hv1,←hw]
  exact hQ
 ·rw[if_pos (by omega)]
  refine⟨by omega,?_⟩
  rw[zgP hn (by omega)]
  exact hj0
theorem gE {w at_ n:Nat} (ha:at_≤63) (hn:0<n) (hn2:n≤63) (hw64:w<18446744073709551616) {Q:Int→Mem→Prop} (hQ:Q ((w/2 ^ at_%2 ^ n:Nat):Int) S):xc S (w:Int) at_ n Q:=by
 apply zdG
 unfold jO
 have hpn:2 ^ n<18446744073709551616:=Nat.lt_of_le_of_lt (Nat.pow_le_pow_right (by decide) hn2) (by decide)
 refine zI (fun j=>j S) ?_ fun j0 hj0=>by rw[if_neg (by omega),if_neg (by omega),if_neg (by omega)];exact hj0
 refine⟨by omega,?_⟩
 have hd:w/2 ^ at_≤w:=Nat.div_le_self _ _
 rw[if_pos (by omega)]
 refine⟨by omega,?_⟩
 rw[zgP hn hn2,vV ha,yE (by omega) (by omega),Nat.and_two_pow_sub_one_eq_mod]
 exact hQ
theorem ziR {k a b c n:Int} (hb:Bd k a b c n) {Q:Int→Bool→Mem→Prop} (hY:Rt k a b c n→Q (wrd k a b c n) true S) (hN:¬Rt k a b c n→Q 0 false S):zbK S (opL k a b c n) Q:=by
 apply zgB
 unfold fJ
 refine⟨rfl,?_⟩
 refine zI (fun j=>Rt k a b c n→j S) ?_ fun j hj=>?_
 rotate_left
 ·refine zkk ?_
  by_cases hr:Rt k a b c n
  ·rw[decide_eq_true hr,if_pos rfl];exact hj hr
  ·rw[decide_eq_false hr,if_neg (by decide)];exact hN hr
 intro hr
 have h1:=hb.kk
 have h2:=hb.aa
 have h3:=hb.bb
 have h4:=hb.cc
 have h5:=hb.nn
 have hq:=hY hr
 have hk:=hr.kk
 have ha:=hr.aa
 have hbb:=hr.bb
 have hcc:=hr.cc
 unfold regR at ha hbb hcc
 have g0:nthL (opL k a b c n) 0=some (.int .u8 k):=rfl
 have g1:nthL (opL k a b c n) 1=some (.int .u8 a):=rfl
 have g2:nthL (opL k a b c n) 2=some (.int .u8 b):=rfl
 have g3:nthL (opL k a b c n) 3=some (.int .u8 c):=rfl
 have g4:nthL (opL k a b c n) 4=some (.int .i16 n):=rfl
 generalize opL k a b c n=o at *
 obtain⟨kk,hkk⟩:∃ m:Nat,k=m:=⟨k.toNat,by omega⟩
 obtain⟨aa,haa⟩:∃ m:Nat,a=m:=⟨a.toNat,by omega⟩
 obtain⟨bb,hbb'⟩:∃ m:Nat,b=m:=⟨b.toNat,by omega⟩
 obtain⟨cc,hcc'⟩:∃ m:Nat,c=m:=⟨c.toNat,by omega⟩
 obtain⟨nn,hnn⟩:∃ m:Nat,n%65536=m:=⟨(n%65536).toNat,by omega⟩
 rw[zB g0,wu64 h1.1 (by omega),hkk]
 refine zaf (w:=0) (v:=kk) (X:=0) (j:=63) (at_:=26) (n:=6) (by simp) (by decide) (by decide) (by decide) (by omega) (by decide) ?_
 rw[zB g1,wu64 h2.1 (by omega),haa]
 refine zaf (v:=aa) (X:=kk) (j:=26) (at_:=22) (n:=4) (by simp) (by decide) (by decide) (by decide) (by omega) (by omega) ?_
 rw[zB g2,wu64 h3.1 (by omega),hbb']
 refine zaf (v:=bb) (X:=kk*16+aa) (j:=22) (at_:=18) (n:=4) (by omega) (by decide) (by decide) (by decide) (by omega) (by omega) ?_
 refine zI (fun j=>fC (cls k)=false→j S) ?_ fun j hj=>?_
 ·intro hf
  have hw16:IntKind.u16.wrap n=n%65536:=by simp[IntKind.wrap,IntKind.bits,IntKind.signed]
  rw[zB g4,hw16,wu64 (by omega) (by omega),hnn]
  refine zaf (v:=nn) (X:=kk*256+aa*16+bb) (j:=18) (at_:=0) (n:=16) (by omega) (by decide) (by decide) (by decide) (by omega) (by omega) ?_
  have e:IntKind.u32.wrap (((0+kk*2 ^ 26+aa*2 ^ 22+bb*2 ^ 18+nn*2 ^ 0:Nat)):Int)=wrd k a b c n:=by
   rw[wu32 (by omega) (by omega)]
   unfold wrd
   rw[hf,if_neg (by decide)]
   omega
  rw[e];exact hq
 ·rw[zB g0]
  refine zbJ ?_
  rw[fM (show nthL (kdL (cls k)) 2=some (.bool (fC (cls k))) from rfl)]
  by_cases hf:fC (cls k)=true
  ·rw[if_pos hf,zB g3,wu64 h4.1 (by omega),hcc']
   refine zaf (v:=cc) (X:=kk*256+aa*16+bb) (j:=18) (at_:=0) (n:=4) (by omega) (by decide) (by decide) (by decide) (by omega) (by omega) ?_
   have e:IntKind.u32.wrap (((0+kk*2 ^ 26+aa*2 ^ 22+bb*2 ^ 18+cc*2 ^ 0:Nat)):Int)=wrd k a b c n:=by
    rw[wu32 (by omega) (by omega)]
    unfold wrd
    rw[if_pos hf]
    omega
   rw[e];exact hq
  ·rw[if_neg hf];exact hj (by simpa using hf)
theorem zhG {k a b c n:Int} (hb:Bd k a b c n) (hr:Rt k a b c n) {Q:Int→Mem→Prop} (hQ:∀ S',Keeps S S' []→Q (wrd k a b c n) S'):wo S k a b c n Q:=by
 have h1:=hb.kk
 have h2:=hb.aa
 have h3:=hb.bb
 have h4:=hb.cc
 have hk:=hr.kk
 have ha:=hr.aa
 have hbb:=hr.bb
 have hcc:=hr.cc
 unfold regR at ha hbb hcc
 apply fZ
 unfold xu
 refine jV h1.1 hk fun S' hk'=>?_
 have hq:=hQ S' hk'
 have hm4:=zjG k
 have ec:(Int.tmod (IntKind.i64.wrap (Int.tdiv (rf (cls k)) 4)) 2=1)↔fC (cls k)=true:=by
  generalize cls k=m at *
  rcases m with _ | _ | _ | _ | _ | m <;> first | decide | omega
 have hw16:IntKind.u16.wrap n=n%65536:=by simp[IntKind.wrap,IntKind.bits,IntKind.signed]
 unfold wrd at hq
 rw[wu32 (x:=k) (by omega) (by omega),wu32 (x:=a) (by omega) (by omega),wu32 (x:=b) (by omega) (by omega),wu32 (x:=k*67108864) (by omega) (by omega),wu32 (x:=a*4194304) (by omega) (by omega),wu32 (x:=b*262144) (by omega) (by omega),wu32 (x:=k*67108864+a*4194304) (by omega) (by omega),wu32 (x:=k*67108864+a*4194304+b*262144) (by omega) (by omega)]
 by_cases hf:fC (cls k)=true
 ·rw[if_pos (ec.2 hf),wu32 (x:=c) (by omega) (by omega),wu32 (by omega) (by omega)]
  rw[if_pos hf] at hq;exact hq
 ·rw[if_neg (fun h=>hf (ec.1 h)),hw16,wu32 (x:=n%65536) (by omega) (by omega),wu32 (by omega) (by omega)]
  rw[if_neg hf] at hq;exact hq
theorem ziV {w:Int} (h0:0≤w) (h1:w≤4294967295) {Q:List Value→Bool→Mem→Prop} (hY:isW w→Q (opL (dK w) (dA w) (dB w) (dC w) (dN w)) true S) (hN:¬isW w→Q (opL 0 0 0 0 0) false S):zbL S w Q:=by
 apply zgC
 unfold fK
 obtain⟨m,rfl⟩:∃ m:Nat,w=m:=⟨w.toNat,by omega⟩
 rw[wu64 (x:=(m:Int)) (by omega) (by omega)]
 refine gE (w:=m) (at_:=26) (n:=6) (by decide) (by decide) (by decide) (by omega) ?_
 refine gE (w:=m) (at_:=22) (n:=4) (by decide) (by decide) (by decide) (by omega) ?_
 refine gE (w:=m) (at_:=18) (n:=4) (by decide) (by decide) (by decide) (by omega) ?_
 have eK:IntKind.u8.wrap ((m/2 ^ 26%2 ^ 6:Nat):Int)=dK m:=by rw[wu8 (by omega) (by omega)];unfold dK;omega
 have eA:IntKind.u8.wrap ((m/2 ^ 22%2 ^ 4:Nat):Int)=dA m:=by rw[wu8 (by omega) (by omega)];unfold dA;omega
 have eB:IntKind.u8.wrap ((m/2 ^ 18%2 ^ 4:Nat):Int)=dB m:=by rw[wu8 (by omega) (by omega)];unfold dB;omega
 rw[eK,eA,eB]
 refine zI (fun j=>j (opL (dK m) (dA m) (dB m) (dC m) (dN m)) S) ?_ fun j hj=>?_
 ·refine⟨rfl,?_⟩
  refine ziR (zrw m) (fun hr=>?_) fun hr=>?_
  ·rw[if_pos rfl]
   by_cases he:wrd (dK m) (dA m) (dB m) (dC m) (dN m)=m
   ·rw[if_neg (by simpa using he)]
    exact⟨rfl,hY ⟨hr,he⟩⟩
   ·rw[if_pos he];exact hN fun h=>he h.2
  ·rw[if_neg (by decide)];exact hN fun h=>hr h.1
 ·refine zbJ ?_
  rw[fM (show nthL (kdL (cls (dK m))) 2=some (.bool (fC (cls (dK m)))) from rfl)]
  by_cases hf:fC (cls (dK m))=true
  ·rw[if_pos hf]
   refine gE (w:=m) (at_:=0) (n:=4) (by decide) (by decide) (by decide) (by omega) ?_
   have eC:IntKind.u8.wrap ((m/2 ^ 0%2 ^ 4:Nat):Int)=dC m:=by rw[wu8 (by omega) (by omega)];unfold dC;rw[if_pos hf];omega
   have eN:dN m=0:=by unfold dN;rw[if_pos hf]
   rw[eC];rw[eN] at hj;exact hj
  ·rw[if_neg hf]
   refine gE (w:=m) (at_:=0) (n:=16) (by decide) (by decide) (by decide) (by omega) ?_
   have eC:dC m=0:=by unfold dC;rw[if_neg hf]
   have eN:IntKind.i16.wrap ((m/2 ^ 0%2 ^ 16:Nat):Int)=dN m:=by unfold dN;rw[if_neg hf];congr 1;omega
   rw[eN];rw[eC] at hj;exact hj
theorem zcz {k a b c n:Int} (hb:Bd k a b c n) {Q:Bool→Mem→Prop} (hQ:∀ S',Keeps S S' []→Q (decide (Rt k a b c n)) S'):xI S k a b c n Q:=by
 have h1:=hb.kk
 have h2:=hb.aa
 have h3:=hb.bb
 have h4:=hb.cc
 have h5:=hb.nn
 apply gX
 unfold yS
 refine zI (fun j=>k<23→j S) ?_ fun j hj=>?_
 rotate_left
 ·by_cases hk:23≤k
  ·rw[if_pos hk]
   have:=hQ S Keeps.refl
   rw[decide_eq_false (fun h:Rt k a b c n=>by have:=h.kk;omega)] at this
   exact this
  ·rw[if_neg hk];exact hj (by omega)
 intro hk
 refine jV h1.1 hk fun S' hk'=>?_
 have hq:=hQ S' hk'
 have no:¬Rt k a b c n→Q false S':=fun h=>by rw[decide_eq_false h] at hq;exact hq
 have r1:∀ {f:Bool} {r:Int},¬(r<16)→0≤r→¬regR f r:=fun h h0 hr=>by unfold regR at hr;omega
 refine zI (fun j=>regR (fA (cls k)) a→regR (fB (cls k)) b→regR (fC (cls k)) c→(fN (cls k)=true∨n=0)→j S') ?_ fun j hj=>?_
 ·intro ha hb' hc hn
  have fin:∀ (p:Prop) [Decidable p],(p↔(k=18∨k=19→0≤n∧n<9))→Q (decide p) S':=fun p _ hp=>by
   have:decide p=decide (Rt k a b c n):=decide_eq_decide.2 ⟨fun h=>⟨hk,ha,hb',hc,hn,hp.1 h⟩,fun h=>hp.2 h.rw⟩
   rw[this];exact hq
  by_cases h18:k=18
  ·rw[if_neg (by omega)]
   by_cases h0:0≤n
   ·rw[if_pos h0];exact fin _ ⟨fun h _=>⟨h0,h⟩,fun h=>(h (.inl h18)).2⟩
   ·rw[if_neg h0];exact no fun h=>h0 (h.rw (.inl h18)).1
  rw[if_pos h18]
  by_cases h19:k=19
  ·rw[if_neg (by omega)]
   by_cases h0:0≤n
   ·rw[if_pos h0];exact fin _ ⟨fun h _=>⟨h0,h⟩,fun h=>(h (.inr h19)).2⟩
   ·rw[if_neg h0];exact no fun h=>h0 (h.rw (.inr h19)).1
  rw[if_pos h19]
  have:=fin True ⟨fun _ h=>by omega,fun _=>trivial⟩
  simpa using this
 ·by_cases c1:15<a
  ·rw[if_pos c1];exact no fun h=>r1 (by omega) h2.1 h.aa
  rw[if_neg c1]
  by_cases c2:15<b
  ·rw[if_pos c2];exact no fun h=>r1 (by omega) h3.1 h.bb
  rw[if_neg c2]
  by_cases c3:15<c
  ·rw[if_pos c3];exact no fun h=>r1 (by omega) h4.1 h.cc
  rw[if_neg c3]
  have hm4:=zjG k
  have nof:∀ {r:Int},0<r→¬regR false r:=fun h hr=>by unfold regR at hr;simp at hr;omega
  have yes:∀ {r:Int},¬15<r→regR true r:=fun h=>.inr ⟨rfl,by omega⟩
  have zer:∀ {f:Bool} {r:Int},¬0<r→0≤r→regR f r:=fun h h0=>.inl (by omega)
  have noa:fA (cls k)=false→0<a→Q false S':=fun hf ha=>no fun h=>by have:=h.aa;rw[hf] at this;exact nof ha this
  have nob:fB (cls k)=false→0<b→Q false S':=fun hf ha=>no fun h=>by have:=h.bb;rw[hf] at this;exact nof ha this
  have noc:fC (cls k)=false→0<c→Q false S':=fun hf ha=>no fun h=>by have:=h.cc;rw[hf] at this;exact nof ha this
  have non:fN (cls k)=false→n≠0→Q false S':=fun hf ha=>no fun h=>by rcases h.nn with h | h;(· rw[hf] at h;cases h);exact ha h
  rcases hm:cls k with _ | _ | _ | _ | _ | m
  ·rw[hm] at hj noa nob noc non
   simp only[rf]
   rw[if_pos (by decide)]
   by_cases d1:0<a
   ·rw[if_pos d1];exact noa rfl d1
   rw[if_neg d1,if_pos (by decide)]
   by_cases d2:0<b
   ·rw[if_pos d2];exact nob rfl d2
   rw[if_neg d2,if_pos (by decide)]
   by_cases d3:0<c
   ·rw[if_pos d3];exact noc rfl d3
   rw[if_neg d3,if_pos (by decide)]
   by_cases d4:n=0
   ·rw[if_neg (by simpa using d4)];exact hj (zer d1 h2.1) (zer d2 h3.1) (zer d3 h4.1) (.inr d4)
   ·rw[if_pos d4];exact non rfl d4
  ·rw[hm] at hj noa nob noc non
   simp only[rf]
   rw[if_neg (by decide),if_pos (by decide)]
   by_cases d2:0<b
   ·rw[if_pos d2];exact nob rfl d2
   rw[if_neg d2,if_pos (by decide)]
   by_cases d3:0<c
   ·rw[if_pos d3];exact noc rfl d3
   rw[if_neg d3,if_neg (by decide)]
   exact hj (yes c1) (zer d2 h3.1) (zer d3 h4.1) (.inl rfl)
  ·rw[hm] at hj noa nob noc non
   simp only[rf]
   rw[if_pos (by decide)]
   by_cases d1:0<a
   ·rw[if_pos d1];exact noa rfl d1
   rw[if_neg d1,if_pos (by decide)]
   by_cases d2:0<b
   ·rw[if_pos d2];exact nob rfl d2
   rw[if_neg d2,if_pos (by decide)]
   by_cases d3:0<c
   ·rw[if_pos d3];exact noc rfl d3
   rw[if_neg d3,if_neg (by decide)]
   exact hj (zer d1 h2.1) (zer d2 h3.1) (zer d3 h4.1) (.inl rfl)
  ·rw[hm] at hj noa nob noc non
   simp only[rf]
   rw[if_neg (by decide),if_neg (by decide),if_pos (by decide)]
   by_cases d3:0<c
   ·rw[if_pos d3];exact noc rfl d3
   rw[if_neg d3,if_neg (by decide)]
   exact hj (yes c1) (yes c2) (zer d3 h4.1) (.inl rfl)
  ·rw[hm] at hj noa nob noc non
   simp only[rf]
   rw[if_neg (by decide),if_neg (by decide),if_neg (by decide),if_pos (by decide)]
   by_cases d4:n=0
   ·rw[if_neg (by simpa using d4)];exact hj (yes c1) (yes c2) (yes c3) (.inr d4)
   ·rw[if_pos d4];exact non rfl d4
  ·omega
end
end Go.Proofs.YtabdpmnhjlmnlaaGreatDoor
end
namespace Go.Cr
section
open Go Go.Pt
structure GM where
 map:Nat→Option (Nat×Bool)
 dat:Nat→List Int
def Byt (l:List Int):Prop:=∀ x∈l,0≤x∧x≤255
structure GM.Ok (g:GM):Prop where
 pg:∀ p,32≤p→g.map p=none
 len:∀ p f w,g.map p=some (f,w)→(g.dat f).length=256
 byt:∀ p f w,g.map p=some (f,w)→Byt (g.dat f)
def num:List Int→Int
 | []=>0
 | x :: l=>x+256*num l
theorem zcC:∀ {l:List Int},Byt l→0≤num l∧num l<256 ^ l.length
 | [],_=>by simp[num]
 | x :: l,h=>by
  have h1:=h x (by simp)
  have h2:=zcC (l:=l) fun y hy=>h y (by simp[hy])
  simp only[num,List.length_cons,Int.pow_succ]
  omega
theorem zge:∀ (l r:List Int),num (l++r)=num l+256 ^ l.length*num r
 | [],r=>by simp[num]
 | x :: l,r=>by
  simp only[List.cons_append,num,List.length_cons,Int.pow_succ,zge l r]
  rw[Int.mul_add,Int.mul_comm (256 ^ l.length) 256,Int.mul_assoc]
  omega
def bytes8 (w:Int):List Int:=(List.range 8).map fun i=>w/2 ^ (8*i)%256
theorem xe (w:Int):(bytes8 w).length=8:=by simp[bytes8]
theorem vF (w:Int):Byt (bytes8 w):=fun x hx=>by
 obtain⟨i,_,rfl⟩:=List.mem_map.1 hx
 omega
def ldB (g:GM) (page off n:Nat):Option (List Int):=(g.map page).map fun q=>((g.dat q.1).drop off).take n
theorem zdk {g:GM} (hg:g.Ok) {page off n:Nat} {l:List Int} (h:ldB g page off n=some l) (hn:off+n≤256):l.length=n∧Byt l:=by
 unfold ldB at h
 cases hm:g.map page with
 | none=>rw[hm] at h;cases h
 | some q=>
  rw[hm] at h
  simp only[Option.map_some,Option.some.injEq] at h
  subst h
  have hl:=hg.len page q.1 q.2 hm
  refine⟨by simp only[List.length_take,List.length_drop];omega,fun x hx=>hg.byt page q.1 q.2 hm x (List.mem_of_mem_drop (List.mem_of_mem_take hx))⟩
def place (s:Seat) (g:GM) (addr:Int) (wr:Bool):Option (Nat×Nat):=
 if 31<addr/256 then none
 else if s.base=0 then some ((addr/256).toNat,(addr%256).toNat)
 else if 31<s.base/256 then none
 else match ldB g (s.base/256).toNat (8*(addr/256)).toNat 8 with
  | none=>none
  | some p=>if num p%2=0∨(wr=true∧num p/2%2=0)∨31<num p/256 then none else some ((num p/256).toNat,(addr%256).toNat)
theorem zcB {s:Seat} {g:GM} (hg:g.Ok) {addr:Int} (ha:W64 addr) {wr:Bool} {q:Nat×Nat} (h:place s g addr wr=some q):q.1≤31∧q.2=(addr%256).toNat∧q.2≤255:=by
 unfold place at h
 split at h
 ·cases h
 ·split at h
  ·cases h;exact⟨by show (addr/256).toNat≤31;omega,rfl,by show (addr%256).toNat≤255;omega⟩
  ·split at h
   ·cases h
   ·split at h
    ·cases h
    ·rename_i p hp
     have hb:=zdk hg hp (by omega)
     have:=zcC hb.2
     split at h
     ·cases h
     ·cases h;exact⟨by show (num p/256).toNat≤31;omega,rfl,by show (addr%256).toNat≤255;omega⟩
def getW (s:Seat) (g:GM) (addr:Int) (n:Nat):Option Int:=match place s g addr false with
 | none=>none
 | some q=>if addr%n≠0 then none else (ldB g q.1 q.2 n).map num
def wrB (g:GM) (f off:Nat) (l:List Int):GM:={ g with dat:=fun x=>if x=f then (g.dat f).take off++l++(g.dat f).drop (off+l.length) else g.dat x }
def putW (s:Seat) (g:GM) (addr w:Int):Option GM:=match place s g addr true with
 | none=>none
 | some q=>if addr%8≠0 then none else match g.map q.1 with
  | some (f,true)=>some (wrB g f q.2 (bytes8 w))
  | _=>none
structure Out where
 s:Seat
 k:Int
 n:Int
 g:GM
def trapM (s:Seat) (g:GM) (c a:Int):Out:=⟨s.trap c a,if (s.trap c a).st=2 then 4 else 1,c,g⟩
def x64 (n:Int):Int:=IntKind.u64.wrap n
def getR (s:Seat) (time:Int) (me:Int) (n:Int):Int:=if n=0 then s.base else if n=1 then s.vec else if n=2 then s.epc else if n=3 then s.cause else if n=4 then s.addr else if n=5 then s.mask else if n=6 then (if s.opn=true then 1 else 0) else if n=7 then time else me
def setR (s:Seat) (n v:Int):Option Seat:=if n=0 then some { s with base:=v } else if n=1 then some { s with vec:=v } else if n=2 then some { s with epc:=v } else if n=3 then some { s with cause:=v } else if n=4 then some { s with addr:=v } else if n=5 then some { s with mask:=v%256 } else if n=6 then some { s with opn:=decide (v%2=1) } else none
def sumM (k b c:Int):Int:=if k=3 then x64 (b+c) else if k=4 then x64 (b-c) else if k=5 then x64 (b*c) else if k=6 then iand .u64 b c else if k=7 then ior .u64 b c else if k=8 then ixor .u64 b c else if k=9 then ishl .u64 b (c%64) else ishr .u64 b (c%64)
def Seat.r (s:Seat) (i:Int):Int:=s.R.getD i.toNat 0
def Seat.setr (s:Seat) (i v:Int):Seat:={ s with R:=s.R.set i.toNat v }
def doM (s:Seat) (g:GM) (time me k a b c n:Int):Out:=
 let N:=x64 n
 let nx:=x64 (s.pc+4)
 let ok (t:Seat) (pc:Int):Out:=⟨{ t with pc:=pc },0,0,g⟩
 if k=1 then ok (s.setr a N) nx
 else if k=2 then ok (s.setr a (x64 (s.r a%65536+x64 (N*65536)))) nx
 else if k=11 then ok (s.setr a (x64 (s.r b+N))) nx
 else if k=12 then match getW s g (x64 (s.r b+N)) 8 with
  | some v=>ok (s.setr a v) nx
  | none=>trapM s g 3 (x64 (s.r b+N))
 else if k=13 then match putW s g (x64 (s.r b+N)) (s.r a) with
  | some g'=>⟨{ s with pc:=nx },0,0,g'⟩
  | none=>trapM s g 4 (x64 (s.r b+N))
 else if k=14 then ok s (if s.r a=s.r b then x64 (s.pc+x64 (4*N)) else nx)
 else if k=15 then ok s (if s.r a≠s.r b then x64 (s.pc+x64 (4*N)) else nx)
 else if k=16 then ok s (if IntKind.i64.wrap (s.r a)<IntKind.i64.wrap (s.r b) then x64 (s.pc+x64 (4*N)) else nx)
 else if k=17 then ok (s.setr a nx) (x64 (s.r b+N))
 else if k=18 then ok (s.setr a (getR s time me n)) nx
 else if k=19 then match setR s n (s.r a) with
  | some t=>ok t nx
  | none=>trapM s g 1 s.pc
 else if k=20 then ⟨{ s with pc:=nx },2,N,g⟩
 else if k=21 then if s.may=0 then ⟨{ s with pc:=nx,st:=1 },3,0,g⟩ else ⟨{ s with pc:=nx },0,0,g⟩
 else if k=22 then ⟨s.back,0,0,g⟩
 else if 3≤k then ok (s.setr a (sumM k (s.r b) (s.r c))) nx
 else ok s nx
def stepM (s:Seat) (g:GM) (time me:Int):Out:=
 if s.st≠0 then ⟨s,5,0,g⟩
 else match nextL s with
  | some n=>trapM { s with pend:=s.pend-2 ^ n } g (16+n) 0
  | none=>match getW s g s.pc 4 with
   | none=>trapM s g 2 s.pc
   | some w=>if isW w then doM s g time me (dK w) (dA w) (dB w) (dC w) (dN w) else trapM s g 1 w
end
end Go.Cr
section
namespace Go.Cr
open Go Go.Pt
structure By (S:Mem) (p:Sl) (xs:List Int):Prop where
 len:xs.length=p.n
 cap:p.n≤p.c
 bd:Byt xs
 lie:p.n=0∨∃ b o,p.p=some (b,o)∧∀ i (h:i<xs.length),S.cell b (o+i)=some (.int .u8 xs[i])
theorem zlJ {a b j:Nat} (ha:a<2 ^ j):a ||| (b*2 ^ j)=a+b*2 ^ j:=by
 rw[Nat.or_comm,zbp ha,Nat.add_comm]
theorem zje (m i:Nat):m &&& 2 ^ i=2 ^ i*(m/2 ^ i%2):=by
 apply Nat.eq_of_testBit_eq
 intro j
 rw[Nat.testBit_and,Nat.testBit_two_pow]
 have ht:m.testBit i=decide (m/2 ^ i%2=1):=Nat.testBit_eq_decide_div_mod_eq
 rcases Nat.mod_two_eq_zero_or_one (m/2 ^ i) with h | h
 ·rw[h,Nat.mul_zero,Nat.zero_testBit]
  by_cases hj:i=j
  ·subst hj;rw[ht,h];rfl
  ·simp[hj]
 ·rw[h,Nat.mul_one,Nat.testBit_two_pow]
  by_cases hj:i=j
  ·subst hj;rw[ht,h];rfl
  ·simp[hj]
theorem pow256 (i:Nat):(256:Int) ^ i=((2 ^ (8*i):Nat):Int):=by
 have:(2:Nat) ^ (8*i)=256 ^ i:=by rw[Nat.pow_mul]
 rw[this,Int.natCast_pow];rfl
end Go.Cr
namespace Go.Proofs.YtabdpmnhjlmnlaaGreatDoor
open Go Go.Pt Go.Cr
section
variable {S:Mem}
theorem zdf {p:Sl} {xs:List Int} (hp:By S p xs) (h8:xs.length≤8) {Q:Int→Mem→Prop} (hQ:Q (num xs) S):zew S p Q:=by
 apply zlf
 unfold zfD
 refine zI (fun j=>j (num xs) S) hQ fun Jx hJ=>?_
 have hlen:=hp.len
 refine zM (fun (z:Int×Int) S'=>∃ i:Nat,z=(num (xs.take i),(i:Int))∧i≤xs.length∧S'=S) (fun z=>xs.length-z.2.toNat) ?_ ⟨0,rfl,by omega,rfl⟩
 rintro X z S' ⟨i,rfl,hi,rfl⟩ ih
 dsimp only at ih ⊢
 by_cases hlt:(i:Int)<(p.n:Int)
 ·rw[if_pos hlt]
  rcases hp.lie with h0 | ⟨b,o,hpp,hc⟩
  ·omega
  have hil:i<xs.length:=by omega
  have hx:=hp.bd _ (List.getElem_mem hil)
  obtain⟨pp,pn,pc⟩:=p
  simp only at hpp hlt hlen
  subst hpp
  rw[jH]
  refine⟨by omega,by omega,?_⟩
  rw[show o+(i:Int).toNat*1=o+i by omega,zB (hc i hil),if_pos (by omega),w64 (x:=8*(i:Int)) (by omega) (by omega)]
  refine⟨by omega,?_⟩
  obtain⟨x,hxx⟩:∃ m:Nat,xs[i]=m:=⟨xs[i].toNat,by omega⟩
  have hb:=zcC (l:=xs.take i) fun y hy=>hp.bd y (List.mem_of_mem_take hy)
  rw[List.length_take,Nat.min_eq_left (by omega),pow256] at hb
  obtain⟨m,hm⟩:∃ m:Nat,num (xs.take i)=m:=⟨(num (xs.take i)).toNat,by omega⟩
  have hp64:2 ^ (8*i)≤2 ^ 56:=Nat.pow_le_pow_right (by decide) (by omega)
  have hx2:x*2 ^ (8*i)≤255*2 ^ (8*i):=Nat.mul_le_mul_right _ (by omega)
  have e1:ishl .u64 (IntKind.u64.wrap xs[i]) (8*(i:Int))=((x*2 ^ (8*i):Nat):Int):=by
   rw[hxx,wu64 (by omega) (by omega)]
   have:=jL (a:=x) (s:=8*i) (by omega) (by omega)
   rw[←this];congr 1
  have e2:num (xs.take (i+1))=num (xs.take i)+256 ^ i*xs[i]:=by
   rw[List.take_succ_eq_append_getElem hil,zge,List.length_take,Nat.min_eq_left (by omega)]
   simp[num]
  rw[e1,hm,zay (by omega) (by omega),zlJ (by omega),w64 (by omega) (by omega)]
  refine ih _ S' ⟨i+1,?_,by omega,rfl⟩ (by dsimp only;omega)
  rw[e2,hm,hxx,pow256]
  congr 1
  push_cast
  rw[Int.mul_comm]
 ·rw[if_neg hlt]
  have e:i=xs.length:=by omega
  subst e
  rw[List.take_length];exact hJ
end
structure Bus (bus:Value) (I:Mem→Rho→GM→Prop) (R:Nat→Prop):Prop where
 ifc:isI bus
 rg:∀ {S ρ g},I S ρ g→∀ b r,ρ b=some r→S b≠none
 ok:∀ {S ρ g},I S ρ g→g.Ok
 gl:∀ {S ρ g},I S ρ g→Gl S
 kp:∀ {S ρ g S'},I S ρ g→Keeps S S' []→I S' ρ g
 load:∀ {S ρ g} {page off n:Nat} {Q:Value→Mem→Prop},I S ρ g→page≤31→0<n→off+n≤256 →
  (∀ S' ρ' sl (e : Int), Mv S ρ S' ρ' R → I S' ρ' g → (match ldB g page off n with | some l => e = 0 ∧ By S' sl l | none => e ≠ 0 ∧ By S' sl []) → Q (.tuple #[eL sl, .int .i64 e]) S') → ci Tryz.prog S bus "Load" [.int .i64 page, .int .i64 off, .int .i64 n] Q
 save:∀ {S ρ g} {page off:Nat} {sl:Sl} {l:List Int} {Q:Value→Mem→Prop},I S ρ g→page≤31→off+8≤256→By S sl l→(∀ b o,sl.p=some (b,o)→ρ b=none)→l.length=8 →
  (∀ S' ρ' g' (e : Int), Mv S ρ S' ρ' R → I S' ρ' g' → (match g.map page with | some (f, true) => e = 0 ∧ g' = wrB g f off l | _ => e ≠ 0 ∧ g' = g) → Q (.int .i64 e) S') → ci Tryz.prog S bus "Save" [.int .i64 page, .int .i64 off, eL sl] Q
structure Cx (I:Mem→Rho→GM→Prop) (R:Nat→Prop) (S:Mem) (ρ:Rho) (g:GM) (b o:Nat) (s:Seat):Prop where
 i:I S ρ g
 at_:At S b o s.L
 rol:∃ r,ρ b=some r∧¬R r
section
variable {bus:Value} {I:Mem→Rho→GM→Prop} {R:Nat→Prop} {S:Mem} {ρ:Rho} {g:GM} {b o:Nat} {s:Seat} {time me:Int}
theorem Cx.mv {S':Mem} {ρ':Rho} {g':GM} (h:Cx I R S ρ g b o s) (m:Mv S ρ S' ρ' R) (hi:I S' ρ' g'):Cx I R S' ρ' g' b o s:=by
 obtain⟨r,h1,h2⟩:=h.rol
 exact⟨hi,h.at_.keep (m.kp b h.at_.some fun r' e=>by rw[h1] at e;cases e;exact h2),r,m.ext b r h1,h2⟩
theorem Cx.cell (h:Cx I R S ρ g b o s) (hl:s.R.length=16) {i:Nat} (hi:i<26):S.cell b (o+i)=nthL s.L i:=h.at_.cell (by rw[Seat.L_len hl];exact hi)
def cL (b o:Nat) (bus:Value) (time me:Int):List Value:=[.pointer (some ⟨b,o,none⟩),bus,.int .u64 time,.int .i64 me]
theorem zgc (hB:Bus bus I R) (hx:Cx I R S ρ g b o s) (hs:s.Ok) {addr:Int} (ha:W64 addr) {wr:Bool} {Q:Int→Int→Bool→Mem→Prop}
  (hQ:∀ S1 ρ1,Mv S ρ S1 ρ1 R→Cx I R S1 ρ1 g b o s→match place s g addr wr with | some q=>Q q.1 q.2 true S1 | none=>Q 0 0 false S1):kV S (cL b o bus time me) addr wr Q:=by
 have hl:=hs.len
 have hbase:=hs.base
 have c0:nthL (cL b o bus time me) 0=some (.pointer (adr (some (b,o)))):=rfl
 have c1:nthL (cL b o bus time me) 1=some bus:=rfl
 apply zeM
 unfold jF
 refine⟨rfl,?_⟩
 simp only[jn]
 rw[td ha.1,wu64 (x:=addr/256) (by omega) (by omega),tm ha.1]
 have m0:Mv S ρ S ρ R:=Mv.refl (hB.rg hx.i)
 unfold place at hQ
 by_cases h1:31<addr/256
 ·rw[if_pos (by omega)]
  have:=hQ S ρ m0 hx
  rw[if_pos h1] at this;exact this
 rw[if_neg (by omega),qQ c0,zV,zB ((hx.cell hl (by decide)).trans (Seat.g17 hl))]
 by_cases h2:s.base=0
 ·rw[if_pos h2]
  have:=hQ S ρ m0 hx
  rw[if_neg h1,if_pos h2] at this
  rw[w64 (by omega) (by omega),w64 (by omega) (by omega)]
  have e1:(((addr/256).toNat:Nat):Int)=addr/256:=by omega
  have e2:(((addr%256).toNat:Nat):Int)=addr%256:=by omega
  simp only[e1,e2] at this
  exact this
 rw[if_neg h2,qQ c0,zV,zB ((hx.cell hl (by decide)).trans (Seat.g17 hl)),td hbase.1,wu64 (x:=s.base/256) (by omega) (by omega)]
 by_cases h3:31<s.base/256
 ·rw[if_pos (by omega)]
  have:=hQ S ρ m0 hx
  rw[if_neg h1,if_neg h2,if_pos h3] at this;exact this
 rw[if_neg (by omega),zrs c1,w64 (x:=s.base/256) (by omega) (by omega),wu64 (x:=8*(addr/256)) (by omega) (by omega),w64 (x:=8*(addr/256)) (by omega) (by omega)]
 have e1:s.base/256=(((s.base/256).toNat:Nat):Int):=by omega
 have e2:8*(addr/256)=(((8*(addr/256)).toNat:Nat):Int):=by omega
 have e3:(8:Int)=((8:Nat):Int):=rfl
 have hld : ∀ {Q : Value → Mem → Prop}, (∀ S' ρ' sl (e : Int), Mv S ρ S' ρ' R → I S' ρ' g → (match ldB g (s.base / 256).toNat (8 * (addr / 256)).toNat 8 with | some l => e = 0 ∧ By S' sl l | none => e ≠ 0 ∧ By S' sl []) → Q (.tuple #[eL sl, .int .i64 e]) S') → ci Tryz.prog S bus "Load" [.int .i64 (s.base / 256), .int .i64 (8 * (addr / 256)), .int .i64 8] Q := fun {Q} h => by
  have:=hB.load (page:=(s.base/256).toNat) (off:=(8*(addr/256)).toNat) (n:=8) hx.i (by omega) (by decide) (by omega) h
  rw[←e1,←e2] at this
  exact this
 refine hld fun S' ρ' sl e hm hi hl2=>⟨sl,e,rfl,?_⟩
 have hq:=hQ S' ρ' hm (hx.mv hm hi)
 rw[if_neg h1,if_neg h2,if_neg h3] at hq
 cases hd:ldB g (s.base/256).toNat (8*(addr/256)).toNat 8 with
 | none=>
  rw[hd] at hl2 hq
  refine zdf hl2.2 (by simp) ?_
  rw[if_pos hl2.1];exact hq
 | some p=>
  rw[hd] at hl2 hq
  obtain⟨rfl,hby⟩:=hl2
  obtain⟨hp8,hpb⟩:=zdk (hB.ok hx.i) hd (by omega)
  refine zdf hby (by omega) ?_
  rw[if_neg (fun h=>h rfl)]
  have hn:=zcC hpb
  rw[hp8] at hn
  obtain⟨m,hm⟩:∃ m:Nat,num p=m:=⟨(num p).toNat,by omega⟩
  have hm64:m<18446744073709551616:=by omega
  dsimp only at hq
  rw[hm] at hq ⊢
  have a1:iand .u64 (m:Int) 1=((m%2:Nat):Int):=by
   have:=yE (a:=m) (b:=1) hm64 (by decide)
   rw[Nat.and_one_is_mod] at this;exact this
  have a2:iand .u64 (m:Int) 2=((2*(m/2%2):Nat):Int):=by
   have:=yE (a:=m) (b:=2) hm64 (by decide)
   have e:=zje m 1
   rw[Nat.pow_one] at e
   rw[e] at this;exact this
  have a3:ishr .u64 (m:Int) 8=((m/256:Nat):Int):=vV (a:=m) (s:=8) (by decide)
  rw[a1,a2,a3]
  by_cases k1:m%2=0
  ·rw[if_pos (by omega)]
   rw[if_pos (by left;omega)] at hq;exact hq
  rw[if_neg (by omega)]
  have fin:(wr=true→m/2%2≠0)→(if 32≤((m/256:Nat):Int) then Q 0 0 false S' else Q (IntKind.i64.wrap ((m/256:Nat):Int)) (IntKind.i64.wrap (addr%256)) true S'):=fun hw=>by
   by_cases k3:31<m/256
   ·rw[if_pos (by omega)]
    rw[if_pos (by right;right;omega)] at hq;exact hq
   ·rw[if_neg (by omega)]
    rw[if_neg (by
     rintro (h | ⟨h,h'⟩ | h)
     ·omega
     ·exact hw h (by omega)
     ·omega)] at hq
    rw[w64 (by omega) (by omega),w64 (by omega) (by omega)]
    have e1:(((m/256:Int).toNat:Nat):Int)=((m/256:Nat):Int):=by omega
    have e2:(((addr%256).toNat:Nat):Int)=addr%256:=by omega
    simp only[e1,e2] at hq
    exact hq
  cases wr with
  | false=>rw[if_neg (by decide)];exact fin fun h=>by cases h
  | true=>
   rw[if_pos rfl]
   by_cases k2:m/2%2=0
   ·rw[if_pos (by omega)]
    rw[if_pos (by right;left;exact⟨rfl,by omega⟩)] at hq;exact hq
   ·rw[if_neg (by omega)];exact fin fun _=>k2
theorem zgi (hB:Bus bus I R) (hx:Cx I R S ρ g b o s) (hs:s.Ok) {addr:Int} (ha:W64 addr) {n:Nat} (hn:n=4∨n=8) {Q:Int→Bool→Mem→Prop}
  (hQ:∀ S1 ρ1,Mv S ρ S1 ρ1 R→Cx I R S1 ρ1 g b o s→match getW s g addr n with | some w=>Q w true S1 | none=>∀ x,Q x false S1):jN S (cL b o bus time me) addr n Q:=by
 have c1:nthL (cL b o bus time me) 1=some bus:=rfl
 apply zfK
 unfold gh
 refine⟨rfl,?_⟩
 refine zI (fun J=>∀ S1 ρ1,Mv S ρ S1 ρ1 R→Cx I R S1 ρ1 g b o s→match place s g addr false with | some q=>J q.1 q.2 true S1 | none=>∀ x y,J x y false S1) ?_ fun J hJ=>?_
 rotate_left
 ·refine zgc hB hx hs ha fun S1 ρ1 hm hx1=>?_
  have h:=hJ S1 ρ1 hm hx1
  cases hp:place s g addr false with
  | none=>rw[hp] at h;dsimp only at h ⊢;rw[if_neg (by decide)];exact h _ _
  | some q=>rw[hp] at h;dsimp only at h ⊢;rw[if_pos rfl];exact h
 intro S1 ρ1 hm hx1
 unfold getW at hQ
 simp only[jn]
 cases hp:place s g addr false with
 | none=>
  dsimp only
  intro x y
  rw[if_neg (by decide)]
  have:=hQ S1 ρ1 hm hx1
  rw[hp] at this;exact this _
 | some q=>
  dsimp only
  have hpb:=zcB (hB.ok hx.i) ha hp
  rw[if_pos trivial]
  have hw:IntKind.u64.wrap (n:Int)=n:=wu64 (by omega) (by omega)
  rw[hw,tm ha.1]
  refine⟨by omega,?_⟩
  by_cases h1:addr%(n:Int)≠0
  ·rw[if_pos h1]
   have:=hQ S1 ρ1 hm hx1
   rw[hp] at this;dsimp only at this
   rw[if_pos h1] at this;exact this _
  rw[if_neg h1,zrs c1]
  refine hB.load hx1.i hpb.1 (by rcases hn with rfl | rfl <;> decide) (by rcases hn with rfl | rfl <;> omega) fun S' ρ' sl e hm' hi hl2=>⟨sl,e,rfl,?_⟩
  have hq:=hQ S' ρ' (hm.trans hm') (hx1.mv hm' hi)
  rw[hp] at hq
  dsimp only at hq
  rw[if_neg h1] at hq
  cases hd:ldB g q.1 q.2 n with
  | none=>
   rw[hd] at hl2 hq
   refine zdf hl2.2 (by simp) ?_
   rw[decide_eq_false hl2.1]
   exact hq _
  | some l=>
   rw[hd] at hl2 hq
   obtain⟨rfl,hby⟩:=hl2
   obtain⟨hp8,_⟩:=zdk (hB.ok hx.i) hd (by rcases hn with rfl | rfl <;> omega)
   refine zdf hby (by omega) ?_
   rw[decide_eq_true rfl]
   exact hq
end
end Go.Proofs.YtabdpmnhjlmnlaaGreatDoor
end
section
namespace Go.Cr
open Go Go.Pt
theorem znI (x:Int):IntKind.u8.wrap x=x%256:=by simp[IntKind.wrap,IntKind.bits,IntKind.signed]
def bL (xs:List Int):List Value:=xs.map (.int .u8)
def bp (w:Int) (i:Nat):List Value:=(List.range 8).map fun j=>Value.int .u8 (if j<i then w/2 ^ (8*j)%256 else 0)
theorem zpf (w:Int) (i:Nat) (h:i<8):spl (bp w i) i [.int .u8 (w/2 ^ (8*i)%256)]=bp w (i+1):=by
 match i,h with
 | 0,_=>rfl
 | 1,_=>rfl
 | 2,_=>rfl
 | 3,_=>rfl
 | 4,_=>rfl
 | 5,_=>rfl
 | 6,_=>rfl
 | 7,_=>rfl
theorem zqV (w:Int):bp w 8=bL (bytes8 w):=by
 unfold bp bL bytes8
 rw[List.map_map]
 apply List.map_congr_left
 intro j hj
 have:=List.mem_range.1 hj
 simp only[Function.comp,if_pos this]
def exL (k n:Int):List Value:=[.int .u8 k,.int .u64 n]
theorem _root_.Go.Pt.At.pt1 {S:Mem} {b o:Nat} {s s':Seat} (h:At S b o s.L) (hl:s.R.length=16) {i:Nat} {v:Value} (hi:i<26) (he:spl s.L i [v]=s'.L) {K:Mem→Prop} (hK:K (S.put b o s'.L)):Go.Pt.pt S b (o+i) 1 [v] K:=
 h.pt (i:=i) (vs:=[v]) rfl (by rw[Seat.L_len hl];show i+1≤26;omega) (by rw[he];exact hK)
end Go.Cr
namespace Go.Proofs.YtabdpmnhjlmnlaaGreatDoor
open Go Go.Pt Go.Cr
theorem zdt {S:Mem} {w:Int} (hw:W64 w) {Q:Sl→Mem→Prop} (hQ:∀ c,S c=none→Q ⟨some (c,0),8,8⟩ (S.set c (bw 5 (bL (bytes8 w))))):zaR S w Q:=by
 apply zhm
 unfold zaG
 intro c hc
 refine zI (fun J=>J (S.set c (bw 5 (bL (bytes8 w))))) (hQ c hc) fun J hJ=>?_
 refine zM (fun (z:Int) S'=>∃ i:Nat,z=i∧i≤8∧S'=S.set c (bw 5 (bp w i))) (fun z=>8-z.toNat) ?_ ⟨0,rfl,by omega,rfl⟩
 rintro X z S' ⟨i,rfl,hi,rfl⟩ ih
 by_cases hlt:(i:Int)<8
 ·rw[if_pos hlt]
  have hi8:i<8:=by omega
  have e8:IntKind.i64.wrap (8*(i:Int))=((8*i:Nat):Int):=by rw[w64 (by omega) (by omega)];omega
  obtain⟨m,hm⟩:∃ m:Nat,w=m:=⟨w.toNat,by omega⟩
  rw[e8]
  refine⟨by omega,by omega,hlt,?_⟩
  rw[show 0+(i:Int).toNat*1=i by omega,w64 (by omega) (by omega)]
  refine zkS (t:=5) (cs:=bp w i) zy (by simp[bp];omega) ?_
  have ev:IntKind.u8.wrap (ishr .u64 w ((8*i:Nat):Int))=w/2 ^ (8*i)%256:=by
   rw[hm,vV (by omega),znI,Int.natCast_ediv];rfl
  rw[ev,set_set,zpf w i hi8]
  exact ih _ _ ⟨i+1,by omega,by omega,rfl⟩ (by omega)
 ·rw[if_neg hlt]
  have:i=8:=by omega
  subst this
  rw[zqV];exact hJ
theorem zrz {S:Mem} {c t:Nat} {xs:List Int} (hx:Byt xs) {n:Nat} (hn:xs.length=n):By (S.set c (bw t (bL xs))) ⟨some (c,0),n,n⟩ xs:=
 ⟨hn,Nat.le_refl _,hx,.inr ⟨c,0,rfl,fun i hi=>by
  rw[qo zy,zK]
  simp[bL,List.getElem?_eq_getElem hi]⟩⟩
section
variable {bus:Value} {I:Mem→Rho→GM→Prop} {R:Nat→Prop} {S:Mem} {ρ:Rho} {g:GM} {b o:Nat} {s:Seat} {time me:Int}
theorem zkc (hB:Bus bus I R) (hx:Cx I R S ρ g b o s) (hs:s.Ok) {addr w:Int} (ha:W64 addr) (hw:W64 w) {Q:Bool→Mem→Prop}
  (hQ:∀ S1 ρ1,Mv S ρ S1 ρ1 R→match putW s g addr w with | some g'=>Cx I R S1 ρ1 g' b o s→Q true S1 | none=>Cx I R S1 ρ1 g b o s→Q false S1):zaE S (cL b o bus time me) addr w Q:=by
 have c1:nthL (cL b o bus time me) 1=some bus:=rfl
 apply zfJ
 unfold gg
 refine⟨rfl,?_⟩
 refine zI (fun J=>∀ S1 ρ1,Mv S ρ S1 ρ1 R→Cx I R S1 ρ1 g b o s→match place s g addr true with | some q=>J q.1 q.2 true S1 | none=>∀ x y,J x y false S1) ?_ fun J hJ=>?_
 rotate_left
 ·refine zgc hB hx hs ha fun S1 ρ1 hm hx1=>?_
  have h:=hJ S1 ρ1 hm hx1
  cases hp:place s g addr true with
  | none=>rw[hp] at h;dsimp only at h ⊢;rw[if_neg (by decide)];exact h _ _
  | some q=>rw[hp] at h;dsimp only at h ⊢;rw[if_pos rfl];exact h
 intro S1 ρ1 hm hx1
 have hq1:=hQ S1 ρ1 hm
 unfold putW at hQ hq1
 cases hp:place s g addr true with
 | none=>
  dsimp only
  intro x y
  rw[if_neg (by decide)]
  rw[hp] at hq1;exact hq1 hx1
 | some q=>
  dsimp only
  have hpb:=zcB (hB.ok hx.i) ha hp
  rw[if_pos rfl,tm ha.1]
  rw[hp] at hq1
  dsimp only at hq1
  by_cases h1:addr%8=0
  ·rw[if_pos h1,zrs c1]
   refine⟨hB.ifc,?_⟩
   refine zdt hw fun c hc=>?_
   have hk:Keeps S1 (S1.set c (bw 5 (bL (bytes8 w)))) []:=Keeps.refl.fresh hc
   have m2:Mv S1 ρ1 (S1.set c (bw 5 (bL (bytes8 w)))) ρ1 R:=Mv.keeps (hB.rg hx1.i) hk
   have hx2:=hx1.mv m2 (hB.kp hx1.i hk)
   refine hB.save hx2.i hpb.1 (by omega) (zrz (vF w) (xe w)) (fun b o e=>by
    cases e
    cases hr:ρ1 c with
    | none=>rfl
    | some r=>exact absurd hc (hB.rg hx1.i c r hr)) (xe w) fun S' ρ' g' e hm' hi hl2=>⟨e,rfl,?_⟩
   have hq:=hQ S' ρ' ((hm.trans m2).trans hm')
   rw[hp] at hq
   dsimp only at hq
   rw[if_neg (fun h=>h h1)] at hq
   cases hg:g.map q.1 with
   | none=>
    rw[hg] at hl2 hq
    dsimp only at hl2 hq
    rw[decide_eq_false hl2.1]
    refine hq ?_
    have:=hx2.mv hm' hi
    rw[hl2.2] at this;exact this
   | some fw=>
    obtain⟨f,wr⟩:=fw
    rw[hg] at hl2 hq
    cases wr with
    | true=>
     dsimp only at hl2 hq
     rw[hl2.1,decide_eq_true rfl]
     refine hq ?_
     have:=hx2.mv hm' hi
     rw[hl2.2] at this;exact this
    | false=>
     dsimp only at hl2 hq
     rw[decide_eq_false hl2.1]
     refine hq ?_
     have:=hx2.mv hm' hi
     rw[hl2.2] at this;exact this
  ·rw[if_neg h1]
   rw[if_pos h1] at hq1
   exact hq1 hx1
theorem kZ (hA:At S b o s.L) (hl:s.R.length=16) {cause addr:Int} {Q:List Value→Mem→Prop} (hQ:Q (exL (if (s.trap cause addr).st=2 then 4 else 1) cause) (S.put b o (s.trap cause addr).L)):yy S (cL b o bus time me) cause addr Q:=by
 have c0:nthL (cL b o bus time me) 0=some (eP (some (b,o))):=rfl
 have hp:Pl S b o:=Pl.of hA hl
 have hl':(s.trap cause addr).R.length=16:=by unfold Seat.trap;split <;> exact hl
 apply zfI
 unfold gf
 refine⟨rfl,?_⟩
 rw[qQ c0]
 have h:=zla hp hl (cause:=cause) (addr:=addr) (Q:=fun Sx=>gP (nthL (cL b o bus time me) 0) fun t_1=>nn t_1 fun b_2 o=>gI (Sx.cell b_2 (o+23)) .u8 fun t_2=>if t_2=2 then Q ([.int .u8 4,.int .u64 cause]) Sx else Q ([.int .u8 1,.int .u64 cause]) Sx) ?_
 ·rw[hA.self] at h;exact h
 ·rw[qQ c0,zV,zB ((hp.cell hl' (by decide)).trans (Seat.g23 hl'))]
  by_cases h2:(s.trap cause addr).st=2
  ·rw[if_pos h2];rw[if_pos h2] at hQ;exact hQ
  ·rw[if_neg h2];rw[if_neg h2] at hQ;exact hQ
end
end Go.Proofs.YtabdpmnhjlmnlaaGreatDoor
end
section
namespace Go.Cr
open Go Go.Pt
theorem zig (x:Int):x64 x=x%18446744073709551616:=by unfold x64;exact IntKind.wrap_u64 x
theorem wQ (x:Int):W64 (x64 x):=by rw[zig];exact⟨by omega,by omega⟩
theorem Seat.r_w {s:Seat} (h:s.Ok) (i:Int):W64 (s.r i):=by
 unfold Seat.r
 rw[List.getD_eq_getElem?_getD]
 cases hx:s.R[i.toNat]? with
 | none=>exact⟨by simp,by simp⟩
 | some v=>exact h.r v (List.mem_of_getElem? hx)
theorem zqB {w v:Int} (hw:W64 w) (hv:W64 v):ior .u64 (iandn .u64 w (ishl .u64 (IntKind.u64.wrap (ishl .u64 1 48-1)) 16)) (ishl .u64 (iand .u64 v (IntKind.u64.wrap (ishl .u64 1 48-1))) 16)=x64 (w%65536+x64 (v*65536)):=by
 obtain⟨a,rfl⟩:∃ m:Nat,w=m:=⟨w.toNat,by omega⟩
 obtain⟨b,rfl⟩:∃ m:Nat,v=m:=⟨v.toNat,by omega⟩
 have hM:IntKind.u64.wrap (ishl .u64 1 48-1)=((2 ^ 48-1:Nat):Int):=zgP (n:=48) (by decide) (by decide)
 have e1:ishl .u64 ((2 ^ 48-1:Nat):Int) 16=(((2 ^ 48-1)*2 ^ 16:Nat):Int):=jL (a:=2 ^ 48-1) (s:=16) (by decide) (by decide)
 have e2:iand .u64 (b:Int) ((2 ^ 48-1:Nat):Int)=((b%2 ^ 48:Nat):Int):=by
  rw[yE (by omega) (by decide),Nat.and_two_pow_sub_one_eq_mod]
 have e3:ishl .u64 ((b%2 ^ 48:Nat):Int) 16=((b%2 ^ 48*2 ^ 16:Nat):Int):=jL (a:=b%2 ^ 48) (s:=16) (by decide) (by omega)
 have e4:iandn .u64 (a:Int) (((2 ^ 48-1)*2 ^ 16:Nat):Int)=((a%65536:Nat):Int):=by
  unfold iandn
  show IntKind.u64.wrap ((BitVec.ofInt 64 (a:Int) &&& ~~~ BitVec.ofInt 64 (((2 ^ 48-1)*2 ^ 16:Nat):Int)).toNat:Int)=_
  have q:(~~~ BitVec.ofInt 64 (((2 ^ 48-1)*2 ^ 16:Nat):Int))=BitVec.ofNat 64 65535:=by decide
  rw[q,wS,BitVec.toNat_and,BitVec.toNat_ofNat,BitVec.toNat_ofNat,Nat.mod_eq_of_lt (by omega),Nat.mod_eq_of_lt (by decide)]
  have:a &&& 65535=a%65536:=Nat.and_two_pow_sub_one_eq_mod a 16
  rw[this]
  exact wu64 (by omega) (by omega)
 rw[hM,e1,e2,e3,e4,zay (by omega) (by omega),zlJ (by omega),zig,zig]
 omega
theorem zoq {c:Int} (h:W64 c):iand .u64 c 63=c%64:=by
 obtain⟨m,rfl⟩:∃ m:Nat,c=m:=⟨c.toNat,by omega⟩
 have:=yE (a:=m) (b:=63) (by omega) (by decide)
 have e:m &&& 63=m%64:=Nat.and_two_pow_sub_one_eq_mod m 6
 rw[e] at this
 exact this
theorem zll {s t:Seat} {n v:Int} (h:setR s n v=some t):t.st=s.st∧t.R=s.R:=by
 unfold setR at h
 repeat' split at h
 all_goals first | (cases h;exact⟨rfl,rfl⟩) | cases h
theorem zem {s:Seat} (h:s.R.length=16) (i v:Int):(s.setr i v).R.length=16:=by simp[Seat.setr,h]
end Go.Cr
namespace Go.Proofs.YtabdpmnhjlmnlaaGreatDoor
open Go Go.Pt Go.Cr
section
variable {bus:Value} {I:Mem→Rho→GM→Prop} {R:Nat→Prop} {S:Mem} {ρ:Rho} {g:GM} {b o:Nat} {s:Seat} {time me:Int}
theorem zoH {w v:Int} (hw:W64 w) (hv:W64 v) {Q:Int→Mem→Prop} (hQ:Q (x64 (w%65536+x64 (v*65536))) S):yo S w 16 48 v Q:=by
 apply gJ
 unfold vH
 simp only[jn]
 rw[if_neg (by decide),if_neg (by decide),if_neg (by decide),if_pos (by decide)]
 refine⟨by decide,by decide,by decide,?_⟩
 rw[zqB hw hv];exact hQ
theorem taken14 {x y:Int} {Q:Bool→Mem→Prop} (hQ:Q (decide (x=y)) S):zaD S 14 x y Q:=by
 apply zbB
 unfold jE
 simp only[jn]
 rw[if_pos trivial];exact hQ
theorem taken15 {x y:Int} {Q:Bool→Mem→Prop} (hQ:Q (decide (x≠y)) S):zaD S 15 x y Q:=by
 apply zbB
 unfold jE
 simp only[jn]
 rw[if_neg (by decide),if_pos trivial];exact hQ
theorem taken16 {x y:Int} {Q:Bool→Mem→Prop} (hQ:Q (decide (IntKind.i64.wrap x<IntKind.i64.wrap y)) S):zaD S 16 x y Q:=by
 apply zbB
 unfold jE
 simp only[jn]
 rw[if_neg (by decide),if_neg (by decide)];exact hQ
theorem zmI {k x y:Int} (hy:W64 y) {Q:Int→Mem→Prop} (hQ:Q (sumM k x y) S):zhc S k x y Q:=by
 apply zlg
 unfold zfE
 simp only[jn,zoq hy]
 unfold sumM x64 at hQ
 by_cases h3:k=3
 ·rw[if_pos h3] at hQ ⊢;exact hQ
 rw[if_neg h3] at hQ ⊢
 by_cases h4:k=4
 ·rw[if_pos h4] at hQ ⊢;exact hQ
 rw[if_neg h4] at hQ ⊢
 by_cases h5:k=5
 ·rw[if_pos h5] at hQ ⊢;exact hQ
 rw[if_neg h5] at hQ ⊢
 by_cases h6:k=6
 ·rw[if_pos h6] at hQ ⊢;exact hQ
 rw[if_neg h6] at hQ ⊢
 by_cases h7:k=7
 ·rw[if_pos h7] at hQ ⊢;exact hQ
 rw[if_neg h7] at hQ ⊢
 by_cases h8:k=8
 ·rw[if_pos h8] at hQ ⊢;exact hQ
 rw[if_neg h8] at hQ ⊢
 by_cases h9:k=9
 ·rw[if_pos h9] at hQ ⊢;exact⟨by omega,hQ⟩
 rw[if_neg h9] at hQ ⊢
 exact⟨by omega,hQ⟩
theorem zhU {f:Bool} {Q:Int→Mem→Prop} (hQ:Q (if f=true then 1 else 0) S):zcw S f Q:=by
 apply zik
 unfold zbP
 cases f with
 | true=>simpa using hQ
 | false=>simpa using hQ
theorem znu (hs:s.Ok) {n:Int} (hn:0≤n∧n<9) (hme:0≤me∧me≤2) {Q:Int→Bool→Mem→Prop} (hQ:Q (getR s time me n) true S):zgI S s.L n time me Q:=by
 have hl:=hs.len
 have hm:=hs.mask
 apply zjS
 unfold zdz
 refine⟨Seat.L_len hl,?_⟩
 simp only[jn]
 rw[zB (Seat.g17 hl),zB (Seat.g18 hl),zB (Seat.g19 hl),zB (Seat.g20 hl),zB (Seat.g21 hl),zB (Seat.g25 hl),fM (Seat.g22 hl),wu64 (x:=s.mask) (by omega) (by omega),wu64 (x:=me) (by omega) (by omega)]
 unfold getR at hQ
 have:n=0∨n=1∨n=2∨n=3∨n=4∨n=5∨n=6∨n=7∨n=8:=by omega
 rcases this with rfl | rfl | rfl | rfl | rfl | rfl | rfl | rfl | rfl <;> simp only[Int.reduceEq,if_true,if_false] at hQ ⊢
 ·exact hQ
 ·exact hQ
 ·exact hQ
 ·exact hQ
 ·exact hQ
 ·exact hQ
 ·exact zhU hQ
 ·exact hQ
 ·exact hQ
theorem set_spec (hA:At S b o s.L) (hs:s.Ok) {n v:Int} (hn:0≤n∧n<9) (hv:W64 v) {Q:Bool→Mem→Prop} (hQ:match setR s n v with | some t=>Q true (S.put b o t.L) | none=>Q false S):zgH S (some (b,o)) n v Q:=by
 have hl:=hs.len
 obtain⟨m,hm⟩:∃ m:Nat,v=m:=⟨v.toNat,by omega⟩
 have a1:iand .u64 v 255=v%256:=by
  have:=yE (a:=m) (b:=255) (by omega) (by decide)
  have e:m &&& 255=m%256:=Nat.and_two_pow_sub_one_eq_mod m 8
  rw[e] at this
  rw[hm];exact this
 have a2:iand .u64 v 1=v%2:=by
  have:=yE (a:=m) (b:=1) (by omega) (by decide)
  rw[Nat.and_one_is_mod] at this
  rw[hm];exact this
 apply zjQ
 unfold zdx
 simp only[jn,reduceCtorEq,if_false]
 simp only[zV,a1,a2]
 rw[wu32 (x:=v%256) (by omega) (by omega)]
 unfold setR at hQ
 have:n=0∨n=1∨n=2∨n=3∨n=4∨n=5∨n=6∨n=7∨n=8:=by omega
 rcases this with rfl | rfl | rfl | rfl | rfl | rfl | rfl | rfl | rfl <;> simp only[Int.reduceEq,if_true,if_false,reduceIte] at hQ ⊢
 ·exact hA.pt1 hl (by decide) (Seat.s17 hl v) hQ
 ·exact hA.pt1 hl (by decide) (Seat.s18 hl v) hQ
 ·exact hA.pt1 hl (by decide) (Seat.s19 hl v) hQ
 ·exact hA.pt1 hl (by decide) (Seat.s20 hl v) hQ
 ·exact hA.pt1 hl (by decide) (Seat.s21 hl v) hQ
 ·exact hA.pt1 hl (by decide) (Seat.s25 hl _) hQ
 ·exact hA.pt1 hl (by decide) (Seat.s22 hl _) hQ
 ·exact hQ
 ·exact hQ
end
open Go Go.Pt Go.Cr
section
variable {bus:Value} {I:Mem→Rho→GM→Prop} {R:Nat→Prop} {S:Mem} {ρ:Rho} {g:GM} {b o:Nat} {s:Seat} {time me:Int}
set_option maxHeartbeats 1000000 in
theorem zoY (hB:Bus bus I R) (hx:Cx I R S ρ g b o s) (hs:s.Ok) {k x y z n:Int} (hbd:Bd k x y z n) (hrt:Rt k x y z n) (hst:s.st=0) (ht:W64 time) (hme:0≤me∧me≤2) {Q:List Value→Mem→Prop}
  (hQ:∀ S1 ρ1,Mv S ρ S1 ρ1 R→I S1 ρ1 (doM s g time me k x y z n).g→At S1 b o s.L→Q (exL (doM s g time me k x y z n).k (doM s g time me k x y z n).n) (S1.put b o (doM s g time me k x y z n).s.L)):zdp S (cL b o bus time me) (opL k x y z n) Q:=by
 have hl:=hs.len
 have hA:=hx.at_
 have hp:Pl S b o:=Pl.of hA hl
 have m0:Mv S ρ S ρ R:=Mv.refl (hB.rg hx.i)
 have c0:nthL (cL b o bus time me) 0=some (eP (some (b,o))):=rfl
 have c2:nthL (cL b o bus time me) 2=some (.int .u64 time):=rfl
 have c3:nthL (cL b o bus time me) 3=some (.int .i64 me):=rfl
 have g0:nthL (opL k x y z n) 0=some (.int .u8 k):=rfl
 have g1:nthL (opL k x y z n) 1=some (.int .u8 x):=rfl
 have g2:nthL (opL k x y z n) 2=some (.int .u8 y):=rfl
 have g3:nthL (opL k x y z n) 3=some (.int .u8 z):=rfl
 have g4:nthL (opL k x y z n) 4=some (.int .i16 n):=rfl
 have hk0:=hbd.kk
 have hx0:=hbd.aa
 have hy0:=hbd.bb
 have hz0:=hbd.cc
 have hn0:=hbd.nn
 have hk:=hrt.kk
 have hxr:=hrt.aa
 have hyr:=hrt.bb
 have hzr:=hrt.cc
 have hrw:=hrt.rw
 unfold regR at hxr hyr hzr
 have hx16:x<16:=by omega
 have hy16:y<16:=by omega
 have hz16:z<16:=by omega
 have cr:∀ {i:Int},0≤i→i<16→S.cell b (o+i.toNat)=some (.int .u64 (s.r i)):=fun {i} h0 h1=>(hx.cell hl (by omega)).trans (Seat.L_r hl (by omega))
 have e64:IntKind.i64.wrap n=n:=w64 (by omega) (by omega)
 apply zhs
 unfold zaM
 refine⟨rfl,rfl,?_⟩
 rw[qQ c0,zB g4]
 simp only[Nat.mul_one,e64]
 rw[zV,zB ((hx.cell hl (by decide)).trans (Seat.g16 hl)),zB g1]
 refine⟨hx0.1,hx16,?_⟩
 rw[zB (cr hx0.1 hx16),zB g2]
 refine⟨hy0.1,hy16,?_⟩
 rw[zB (cr hy0.1 hy16)]
 refine zI (fun J=>∀ S1 (t:Seat) pc v,Pl S1 b o→t.R.length=16→v.length=2→Q (exL 0 0) (S1.put b o ({ t with pc:=pc }:Seat).L)→J pc v (S1.put b o t.L)) ?_ fun J hJ=>?_
 ·intro S1 t pc v hp1 hl1 hv hq
  exact⟨hv,hp1.pt (s:=t) hl1 (by decide) (Seat.s16 hl1 pc) hq⟩
 have hJ0:∀ {S1:Mem} (pc:Int) (v:List Value),At S1 b o s.L→v.length=2→Q (exL 0 0) (S1.put b o ({ s with pc:=pc }:Seat).L)→J pc v S1:=fun {S1} pc v hA1 hv hq=>by
  have:=hJ S1 s pc v (Pl.of hA1 hl) hl hv hq
  rw[hA1.self] at this;exact this
 have hJr:∀ (u pc:Int) (v:List Value),v.length=2→Q (exL 0 0) (S.put b o ({ s.setr x u with pc:=pc }:Seat).L)→Go.Pt.pt S b (o+x.toNat) 1 [.int .u64 u] fun Sx=>J pc v Sx:=fun u pc v hv hq=>
  hA.pt1 hl (by omega) (Seat.set_r hl (by omega) u) (hJ S (s.setr x u) pc v hp (zem hl x u) hv hq)
 have hq0:=hQ S ρ m0
 rw[zB g0]
 have hwN:W64 (x64 n):=wQ n
 have hwy:W64 (s.r y):=Seat.r_w hs y
 have hwx:W64 (s.r x):=Seat.r_w hs x
 have hkk:k=0∨k=1∨k=2∨k=3∨k=4∨k=5∨k=6∨k=7∨k=8∨k=9∨k=10∨k=11∨k=12∨k=13∨k=14∨k=15∨k=16∨k=17∨k=18∨k=19∨k=20∨k=21∨k=22:=by omega
 have ar:(3≤k∧k≤10)→(gI (nthL (opL k x y z n) 1) .u8 fun t_37=>gI (nthL (opL k x y z n) 3) .u8 fun t_39=>0≤t_39∧t_39<16∧gI (S.cell b (o+t_39.toNat)) .u64 fun t_40=>zhc S k (s.r y) t_40 fun t_41 Sx_23=>0≤t_37∧t_37<16∧Go.Pt.pt Sx_23 b (o+t_37.toNat) 1 [.int .u64 t_41] fun Sx_24=>J (IntKind.u64.wrap (s.pc+4)) [.int .u8 0,.int .u64 0] Sx_24):=fun hk=>by
  rw[zB g1,zB g3]
  refine⟨hz0.1,hz16,?_⟩
  rw[zB (cr hz0.1 hz16)]
  refine zmI (Seat.r_w hs z) ⟨hx0.1,hx16,?_⟩
  refine hJr _ _ _ rfl ?_
  have:doM s g time me k x y z n=⟨{ s.setr x (sumM k (s.r y) (s.r z)) with pc:=x64 (s.pc+4) },0,0,g⟩:=by
   unfold doM
   simp only
   repeat rw[if_neg (by omega)]
   rw[if_pos (by omega)]
  rw[this] at hq0
  exact hq0 hx.i hA
 have hres:∀ c u:Int,(exL c u).all (·.oneCell')=true:=fun _ _=>rfl
 rcases hkk with rfl | rfl | rfl | rfl | rfl | rfl | rfl | rfl | rfl | rfl | rfl | rfl | rfl | rfl | rfl | rfl | rfl | rfl | rfl | rfl | rfl | rfl | rfl <;> simp only[Int.reduceEq,reduceIte,jn,zB g0,Int.reduceLE,Bool.false_eq_true]
 ·exact hJ0 _ _ hA rfl (hq0 hx.i hA)
 ·rw[zB g1]
  exact⟨hx0.1,hx16,hJr _ _ _ rfl (hq0 hx.i hA)⟩
 ·rw[zB g1]
  refine zoH hwx hwN ?_
  exact⟨hx0.1,hx16,hJr _ _ _ rfl (hq0 hx.i hA)⟩
 ·exact ar (by decide)
 ·exact ar (by decide)
 ·exact ar (by decide)
 ·exact ar (by decide)
 ·exact ar (by decide)
 ·exact ar (by decide)
 ·exact ar (by decide)
 ·exact ar (by decide)
 ·rw[zB g1]
  exact⟨hx0.1,hx16,hJr _ _ _ rfl (hq0 hx.i hA)⟩
 ·refine zgi hB hx hs (wQ _) (n:=8) (.inr rfl) fun S1 ρ1 hm hx1=>?_
  have hq:=hQ S1 ρ1 hm
  change I S1 ρ1 (match getW s g (x64 (s.r y+x64 n)) 8 with | some v=>(⟨{ s.setr x v with pc:=x64 (s.pc+4) },0,0,g⟩:Out) | none=>trapM s g 3 (x64 (s.r y+x64 n))).g→_→Q (exL (match getW s g (x64 (s.r y+x64 n)) 8 with | some v=>(⟨{ s.setr x v with pc:=x64 (s.pc+4) },0,0,g⟩:Out) | none=>trapM s g 3 (x64 (s.r y+x64 n))).k (match getW s g (x64 (s.r y+x64 n)) 8 with | some v=>(⟨{ s.setr x v with pc:=x64 (s.pc+4) },0,0,g⟩:Out) | none=>trapM s g 3 (x64 (s.r y+x64 n))).n) (S1.put b o (match getW s g (x64 (s.r y+x64 n)) 8 with | some v=>(⟨{ s.setr x v with pc:=x64 (s.pc+4) },0,0,g⟩:Out) | none=>trapM s g 3 (x64 (s.r y+x64 n))).s.L) at hq
  change match getW s g (x64 (s.r y+x64 n)) 8 with | some w=>_ | none=>_
  cases hg:getW s g (x64 (s.r y+x64 n)) 8 with
  | some v=>
   rw[hg] at hq
   dsimp only at hq ⊢
   rw[if_pos rfl,zB g1]
   exact⟨hx0.1,hx16,hx1.at_.pt1 hl (by omega) (Seat.set_r hl (by omega) v) (hJ S1 (s.setr x v) _ _ (Pl.of hx1.at_ hl) (zem hl x v) rfl (hq hx1.i hx1.at_))⟩
  | none=>
   rw[hg] at hq
   dsimp only at hq ⊢
   intro u
   rw[if_neg (by decide)]
   exact kZ hx1.at_ hl ⟨hres _ _,hq hx1.i hx1.at_⟩
 ·refine zkc hB hx hs (wQ _) hwx fun S1 ρ1 hm=>?_
  have hq:=hQ S1 ρ1 hm
  change I S1 ρ1 (match putW s g (x64 (s.r y+x64 n)) (s.r x) with | some g'=>(⟨{ s with pc:=x64 (s.pc+4) },0,0,g'⟩:Out) | none=>trapM s g 4 (x64 (s.r y+x64 n))).g→_→Q (exL (match putW s g (x64 (s.r y+x64 n)) (s.r x) with | some g'=>(⟨{ s with pc:=x64 (s.pc+4) },0,0,g'⟩:Out) | none=>trapM s g 4 (x64 (s.r y+x64 n))).k (match putW s g (x64 (s.r y+x64 n)) (s.r x) with | some g'=>(⟨{ s with pc:=x64 (s.pc+4) },0,0,g'⟩:Out) | none=>trapM s g 4 (x64 (s.r y+x64 n))).n) (S1.put b o (match putW s g (x64 (s.r y+x64 n)) (s.r x) with | some g'=>(⟨{ s with pc:=x64 (s.pc+4) },0,0,g'⟩:Out) | none=>trapM s g 4 (x64 (s.r y+x64 n))).s.L) at hq
  change match putW s g (x64 (s.r y+x64 n)) (s.r x) with | some g'=>_ | none=>_
  cases hg:putW s g (x64 (s.r y+x64 n)) (s.r x) with
  | some g'=>
   rw[hg] at hq
   dsimp only at hq ⊢
   intro hx1
   rw[if_pos rfl]
   exact hJ0 _ _ hx1.at_ rfl (hq hx1.i hx1.at_)
  | none=>
   rw[hg] at hq
   dsimp only at hq ⊢
   intro hx1
   rw[if_neg (by decide)]
   exact kZ hx1.at_ hl ⟨hres _ _,hq hx1.i hx1.at_⟩
 ·refine taken14 ?_
  have hq:=hq0 hx.i hA
  change Q (exL 0 0) (S.put b o ({ s with pc:=if s.r x=s.r y then x64 (s.pc+x64 (4*x64 n)) else x64 (s.pc+4) }:Seat).L) at hq
  by_cases he:s.r x=s.r y
  ·rw[if_pos he] at hq
   rw[decide_eq_true he,if_pos rfl,zB ((hx.cell hl (by decide)).trans (Seat.g16 hl))]
   exact hJ0 _ _ hA rfl hq
  ·rw[if_neg he] at hq
   rw[decide_eq_false he,if_neg (by decide)]
   exact hJ0 _ _ hA rfl hq
 ·refine taken15 ?_
  have hq:=hq0 hx.i hA
  change Q (exL 0 0) (S.put b o ({ s with pc:=if s.r x≠s.r y then x64 (s.pc+x64 (4*x64 n)) else x64 (s.pc+4) }:Seat).L) at hq
  by_cases he:s.r x≠s.r y
  ·rw[if_pos he] at hq
   rw[decide_eq_true he,if_pos rfl,zB ((hx.cell hl (by decide)).trans (Seat.g16 hl))]
   exact hJ0 _ _ hA rfl hq
  ·rw[if_neg he] at hq
   rw[decide_eq_false he,if_neg (by decide)]
   exact hJ0 _ _ hA rfl hq
 ·refine taken16 ?_
  have hq:=hq0 hx.i hA
  change Q (exL 0 0) (S.put b o ({ s with pc:=if IntKind.i64.wrap (s.r x)<IntKind.i64.wrap (s.r y) then x64 (s.pc+x64 (4*x64 n)) else x64 (s.pc+4) }:Seat).L) at hq
  by_cases he:IntKind.i64.wrap (s.r x)<IntKind.i64.wrap (s.r y)
  ·rw[if_pos he] at hq
   rw[decide_eq_true he,if_pos rfl,zB ((hx.cell hl (by decide)).trans (Seat.g16 hl))]
   exact hJ0 _ _ hA rfl hq
  ·rw[if_neg he] at hq
   rw[decide_eq_false he,if_neg (by decide)]
   exact hJ0 _ _ hA rfl hq
 ·rw[zB g1]
  exact⟨hx0.1,hx16,hJr _ _ _ rfl (hq0 hx.i hA)⟩
 ·have h9:=hrw (.inl rfl)
  have hall:=hA.all
  rw[Seat.L_len hl] at hall
  rw[zB g1,gD hall,zB g4,e64,zB c2,zB c3]
  refine znu hs h9 hme ?_
  exact⟨hx0.1,hx16,hJr _ _ _ rfl (hq0 hx.i hA)⟩
 ·have h9:=hrw (.inr rfl)
  rw[zB g4,e64]
  refine set_spec hA hs h9 hwx ?_
  have hq:=hq0
  change I S ρ (match setR s n (s.r x) with | some t=>(⟨{ t with pc:=x64 (s.pc+4) },0,0,g⟩:Out) | none=>trapM s g 1 s.pc).g→_→Q (exL (match setR s n (s.r x) with | some t=>(⟨{ t with pc:=x64 (s.pc+4) },0,0,g⟩:Out) | none=>trapM s g 1 s.pc).k (match setR s n (s.r x) with | some t=>(⟨{ t with pc:=x64 (s.pc+4) },0,0,g⟩:Out) | none=>trapM s g 1 s.pc).n) (S.put b o (match setR s n (s.r x) with | some t=>(⟨{ t with pc:=x64 (s.pc+4) },0,0,g⟩:Out) | none=>trapM s g 1 s.pc).s.L) at hq
  cases hset:setR s n (s.r x) with
  | some t=>
   rw[hset] at hq
   dsimp only at hq ⊢
   have ht:t.st=s.st∧t.R=s.R:=zll hset
   have hw:t.wake=t:=by unfold Seat.wake;rw[if_neg (fun h=>by have:=h.1;omega)]
   have hlt:t.R.length=16:=by rw[ht.2];exact hl
   rw[if_pos rfl]
   refine zhj hp hlt ?_
   rw[hw]
   exact hJ S t _ _ hp hlt rfl (hq hx.i hA)
  | none=>
   rw[hset] at hq
   dsimp only at hq ⊢
   rw[if_neg (by decide),zB ((hx.cell hl (by decide)).trans (Seat.g16 hl))]
   exact kZ hA hl ⟨hres _ _,hq hx.i hA⟩
 ·exact hA.pt1 hl (by decide) (Seat.s16 hl _) (hq0 hx.i hA)
 ·refine hA.pt1 hl (by decide) (Seat.s16 hl _) ?_
  rw[zB ((hp.cell (s:={ s with pc:=IntKind.u64.wrap (s.pc+4) }) hl (by decide)).trans (Seat.g24 (s:={ s with pc:=IntKind.u64.wrap (s.pc+4) }) hl)),zB ((hp.cell (s:={ s with pc:=IntKind.u64.wrap (s.pc+4) }) hl (by decide)).trans (Seat.g25 (s:={ s with pc:=IntKind.u64.wrap (s.pc+4) }) hl))]
  have hq:=hq0
  change I S ρ (if s.may=0 then (⟨{ s with pc:=x64 (s.pc+4),st:=1 },3,0,g⟩:Out) else ⟨{ s with pc:=x64 (s.pc+4) },0,0,g⟩).g→_→Q (exL (if s.may=0 then (⟨{ s with pc:=x64 (s.pc+4),st:=1 },3,0,g⟩:Out) else ⟨{ s with pc:=x64 (s.pc+4) },0,0,g⟩).k (if s.may=0 then (⟨{ s with pc:=x64 (s.pc+4),st:=1 },3,0,g⟩:Out) else ⟨{ s with pc:=x64 (s.pc+4) },0,0,g⟩).n) (S.put b o (if s.may=0 then (⟨{ s with pc:=x64 (s.pc+4),st:=1 },3,0,g⟩:Out) else ⟨{ s with pc:=x64 (s.pc+4) },0,0,g⟩).s.L) at hq
  by_cases hmay:s.may=0
  ·rw[if_pos hmay] at hq
   rw[if_pos (show iand .u32 s.pend s.mask=0 from hmay)]
   exact hp.pt (s:={ s with pc:=IntKind.u64.wrap (s.pc+4) }) hl (by decide) (Seat.s23 (s:={ s with pc:=IntKind.u64.wrap (s.pc+4) }) hl _) (hq hx.i hA)
  ·rw[if_neg hmay] at hq
   rw[if_neg (show ¬iand .u32 s.pend s.mask=0 from hmay)]
   exact hq hx.i hA
 ·have h:=zmy hp hl (Q:=fun Sx=>Q [.int .u8 0,.int .u64 0] Sx) (hq0 hx.i hA)
  rw[hA.self] at h
  exact h
end
end Go.Proofs.YtabdpmnhjlmnlaaGreatDoor
end
