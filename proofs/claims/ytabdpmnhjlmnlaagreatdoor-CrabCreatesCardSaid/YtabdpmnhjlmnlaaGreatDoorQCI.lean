/- Texts of this work,joined by program (pack.py): Cp,Cq,Cs,Mx,My,Mz,Wm,Tp,Cg,PsE,St,Cf. -/
import Derived.Test.YtabdpmnhjlmnlaaGreatDoorQCG
import Derived.Test.YtabdpmnhjlmnlaaGreatDoorQCH
import Derived.Test.YtabdpmnhjlmnlaaGreatDoorQCC
import Derived.Lib.Mul64
set_option linter.unusedVariables false
section
namespace Go.Cr
open Go Go.Pt
structure By (S:Mem) (p:Sl) (xs:List Int):Prop where
 len:xs.length=p.n
 cap:p.n≤p.c
 bd:Byt xs
 lie:p.n=0∨∃ b o,p.p=some (b,o)∧∀ i (h:i<xs.length),S.cell b (o+i)=some (.int .u8 xs[i])
theorem zku {a b j:Nat} (ha:a<2 ^ j):a ||| (b*2 ^ j)=a+b*2 ^ j:=by
 rw[Nat.or_comm,zal ha,Nat.add_comm]
theorem zhU (m i:Nat):m &&& 2 ^ i=2 ^ i*(m/2 ^ i%2):=by
 apply Nat.eq_of_testBit_eq
 intro j
 rw[Nat.testBit_and,Nat.testBit_two_pow]
 have ht:m.testBit i=decide (m/2 ^ i%2=1):=Nat.testBit_eq_decide_div_mod_eq
 rcases Nat.mod_two_eq_zero_or_one (m/2 ^ i) with h | h
 ·rw[h,Nat.mul_zero,Nat.zero_testBit]
  by_cases hj:i=j
  ·subst hj;rw[ht,h];rfl
  ·simp[hj]
 ·rw[h,Nat.mul_one,Nat.testBit_two_pow]
  by_cases hj:i=j
  ·subst hj;rw[ht,h];rfl
  ·simp[hj]
theorem pow256 (i:Nat):(256:Int) ^ i=((2 ^ (8*i):Nat):Int):=by
 have:(2:Nat) ^ (8*i)=256 ^ i:=by rw[Nat.pow_mul]
 rw[this,Int.natCast_pow];rfl
end Go.Cr
namespace Go.Proofs.YtabdpmnhjlmnlaaGreatDoor
open Go Go.Pt Go.Cr
section
variable {S:Mem}
theorem zce {p:Sl} {xs:List Int} (hp:By S p xs) (h8:xs.length≤8) {Q:Int→Mem→Prop} (hQ:Q (num xs) S):zdm S p Q:=by
 apply zjU
 unfold zep
 refine qc (fun j=>j (num xs) S) hQ fun Jx hJ=>?_
 have hlen:=hp.len
 refine zX (fun (z:Int×Int) S'=>∃ i:Nat,z=(num (xs.take i),(i:Int))∧i≤xs.length∧S'=S) (fun z=>xs.length-z.2.toNat) ?_ ⟨0,rfl,by omega,rfl⟩
 rintro X z S' ⟨i,rfl,hi,rfl⟩ ih
 dsimp only at ih ⊢
 by_cases hlt:(i:Int)<(p.n:Int)
 ·rw[if_pos hlt]
  rcases hp.lie with h0 | ⟨b,o,hpp,hc⟩
  ·omega
  have hil:i<xs.length:=by omega
  have hx:=hp.bd _ (List.getElem_mem hil)
  obtain⟨pp,pn,pc⟩:=p
  simp only at hpp hlt hlen
  subst hpp
  rw[zah]
  refine⟨by omega,by omega,?_⟩
  rw[show o+(i:Int).toNat*1=o+i by omega,zY (hc i hil),if_pos (by omega),w64 (x:=8*(i:Int)) (by omega) (by omega)]
  refine⟨by omega,?_⟩
  obtain⟨x,hxx⟩:∃ m:Nat,xs[i]=m:=⟨xs[i].toNat,by omega⟩
  have hb:=zeO (l:=xs.take i) fun y hy=>hp.bd y (List.mem_of_mem_take hy)
  rw[List.length_take,Nat.min_eq_left (by omega),pow256] at hb
  obtain⟨m,hm⟩:∃ m:Nat,num (xs.take i)=m:=⟨(num (xs.take i)).toNat,by omega⟩
  have hp64:2 ^ (8*i)≤2 ^ 56:=Nat.pow_le_pow_right (by decide) (by omega)
  have hx2:x*2 ^ (8*i)≤255*2 ^ (8*i):=Nat.mul_le_mul_right _ (by omega)
  have e1:ishl .u64 (IntKind.u64.wrap xs[i]) (8*(i:Int))=((x*2 ^ (8*i):Nat):Int):=by
   rw[hxx,wu64 (by omega) (by omega)]
   have:=jb (a:=x) (s:=8*i) (by omega) (by omega)
   rw[←this];congr 1
  have e2:num (xs.take (i+1))=num (xs.take i)+256 ^ i*xs[i]:=by
   rw[List.take_succ_eq_append_getElem hil,zeP,List.length_take,Nat.min_eq_left (by omega)]
   simp[num]
  rw[e1,hm,gX (by omega) (by omega),zku (by omega),w64 (by omega) (by omega)]
  refine ih _ S' ⟨i+1,?_,by omega,rfl⟩ (by dsimp only;omega)
  rw[e2,hm,hxx,pow256]
  congr 1
  push_cast
  rw[Int.mul_comm]
 ·rw[if_neg hlt]
  have e:i=xs.length:=by omega
  subst e
  rw[List.take_length];exact hJ
end
structure Bus (bus:Value) (I:Mem→Rho→GM→Prop) (R:Nat→Prop):Prop where
 ifc:isI bus
 rg:∀ {S ρ g},I S ρ g→∀ b r,ρ b=some r→S b≠none
 ok:∀ {S ρ g},I S ρ g→g.Ok
 gl:∀ {S ρ g},I S ρ g→Gl S
 kp:∀ {S ρ g S'},I S ρ g→Keeps S S' []→I S' ρ g
 load:∀ {S ρ g} {page off n:Nat} {Q:Value→Mem→Prop},I S ρ g→page≤31→0<n→off+n≤256 →
  (∀ S' ρ' sl (e : Int), Mv S ρ S' ρ' R → I S' ρ' g → (match ldB g page off n with | some l => e = 0 ∧ By S' sl l | none => e ≠ 0 ∧ By S' sl []) → Q (.tuple #[eL sl, .int .i64 e]) S') → ci Tryz.prog S bus "Load" [.int .i64 page, .int .i64 off, .int .i64 n] Q
 save:∀ {S ρ g} {page off:Nat} {sl:Sl} {l:List Int} {Q:Value→Mem→Prop},I S ρ g→page≤31→off+8≤256→By S sl l→(∀ b o,sl.p=some (b,o)→ρ b=none)→l.length=8 →
  (∀ S' ρ' g' (e : Int), Mv S ρ S' ρ' R → I S' ρ' g' → (match g.map page with | some (f, true) => e = 0 ∧ g' = wrB g f off l | _ => e ≠ 0 ∧ g' = g) → Q (.int .i64 e) S') → ci Tryz.prog S bus "Save" [.int .i64 page, .int .i64 off, eL sl] Q
structure Cx (I:Mem→Rho→GM→Prop) (R:Nat→Prop) (S:Mem) (ρ:Rho) (g:GM) (b o:Nat) (s:Seat):Prop where
 i:I S ρ g
 at_:At S b o s.L
 rol:∃ r,ρ b=some r∧¬R r
section
variable {bus:Value} {I:Mem→Rho→GM→Prop} {R:Nat→Prop} {S:Mem} {ρ:Rho} {g:GM} {b o:Nat} {s:Seat} {time me:Int}
theorem Cx.mv {S':Mem} {ρ':Rho} {g':GM} (h:Cx I R S ρ g b o s) (m:Mv S ρ S' ρ' R) (hi:I S' ρ' g'):Cx I R S' ρ' g' b o s:=by
 obtain⟨r,h1,h2⟩:=h.rol
 exact⟨hi,h.at_.keep (m.kp b h.at_.some fun r' e=>by rw[h1] at e;cases e;exact h2),r,m.ext b r h1,h2⟩
theorem Cx.cell (h:Cx I R S ρ g b o s) (hl:s.R.length=16) {i:Nat} (hi:i<26):S.cell b (o+i)=nthL s.L i:=h.at_.cell (by rw[Seat.L_len hl];exact hi)
def cL (b o:Nat) (bus:Value) (time me:Int):List Value:=[.pointer (some ⟨b,o,none⟩),bus,.int .u64 time,.int .i64 me]
theorem zeK (hB:Bus bus I R) (hx:Cx I R S ρ g b o s) (hs:s.Ok) {addr:Int} (ha:W64 addr) {wr:Bool} {Q:Int→Int→Bool→Mem→Prop}
  (hQ:∀ S1 ρ1,Mv S ρ S1 ρ1 R→Cx I R S1 ρ1 g b o s→match place s g addr wr with | some q=>Q q.1 q.2 true S1 | none=>Q 0 0 false S1):kd S (cL b o bus time me) addr wr Q:=by
 have hl:=hs.len
 have hbase:=hs.base
 have c0:nthL (cL b o bus time me) 0=some (.pointer (adr (some (b,o)))):=rfl
 have c1:nthL (cL b o bus time me) 1=some bus:=rfl
 apply zdC
 unfold kU
 refine⟨rfl,?_⟩
 simp only[jn]
 rw[td ha.1,wu64 (x:=addr/256) (by omega) (by omega),tm ha.1]
 have m0:Mv S ρ S ρ R:=Mv.refl (hB.rg hx.i)
 unfold place at hQ
 by_cases h1:31<addr/256
 ·rw[if_pos (by omega)]
  have:=hQ S ρ m0 hx
  rw[if_pos h1] at this;exact this
 rw[if_neg (by omega),qP c0,qk,zY ((hx.cell hl (by decide)).trans (Seat.g17 hl))]
 by_cases h2:s.base=0
 ·rw[if_pos h2]
  have:=hQ S ρ m0 hx
  rw[if_neg h1,if_pos h2] at this
  rw[w64 (by omega) (by omega),w64 (by omega) (by omega)]
  have e1:(((addr/256).toNat:Nat):Int)=addr/256:=by omega
  have e2:(((addr%256).toNat:Nat):Int)=addr%256:=by omega
  simp only[e1,e2] at this
  exact this
 rw[if_neg h2,qP c0,qk,zY ((hx.cell hl (by decide)).trans (Seat.g17 hl)),td hbase.1,wu64 (x:=s.base/256) (by omega) (by omega)]
 by_cases h3:31<s.base/256
 ·rw[if_pos (by omega)]
  have:=hQ S ρ m0 hx
  rw[if_neg h1,if_neg h2,if_pos h3] at this;exact this
 rw[if_neg (by omega),zoZ c1,w64 (x:=s.base/256) (by omega) (by omega),wu64 (x:=8*(addr/256)) (by omega) (by omega),w64 (x:=8*(addr/256)) (by omega) (by omega)]
 have e1:s.base/256=(((s.base/256).toNat:Nat):Int):=by omega
 have e2:8*(addr/256)=(((8*(addr/256)).toNat:Nat):Int):=by omega
 have e3:(8:Int)=((8:Nat):Int):=rfl
 have hld : ∀ {Q : Value → Mem → Prop}, (∀ S' ρ' sl (e : Int), Mv S ρ S' ρ' R → I S' ρ' g → (match ldB g (s.base / 256).toNat (8 * (addr / 256)).toNat 8 with | some l => e = 0 ∧ By S' sl l | none => e ≠ 0 ∧ By S' sl []) → Q (.tuple #[eL sl, .int .i64 e]) S') → ci Tryz.prog S bus "Load" [.int .i64 (s.base / 256), .int .i64 (8 * (addr / 256)), .int .i64 8] Q := fun {Q} h => by
  have:=hB.load (page:=(s.base/256).toNat) (off:=(8*(addr/256)).toNat) (n:=8) hx.i (by omega) (by decide) (by omega) h
  rw[←e1,←e2] at this
  exact this
 refine hld fun S' ρ' sl e hm hi hl2=>⟨sl,e,rfl,?_⟩
 have hq:=hQ S' ρ' hm (hx.mv hm hi)
 rw[if_neg h1,if_neg h2,if_neg h3] at hq
 cases hd:ldB g (s.base/256).toNat (8*(addr/256)).toNat 8 with
 | none=>
  rw[hd] at hl2 hq
  refine zce hl2.2 (by simp) ?_
  rw[if_pos hl2.1];exact hq
 | some p=>
  rw[hd] at hl2 hq
  obtain⟨rfl,hby⟩:=hl2
  obtain⟨hp8,hpb⟩:=zfJ (hB.ok hx.i) hd (by omega)
  refine zce hby (by omega) ?_
  rw[if_neg (fun h=>h rfl)]
  have hn:=zeO hpb
  rw[hp8] at hn
  obtain⟨m,hm⟩:∃ m:Nat,num p=m:=⟨(num p).toNat,by omega⟩
  have hm64:m<18446744073709551616:=by omega
  dsimp only at hq
  rw[hm] at hq ⊢
  have a1:iand .u64 (m:Int) 1=((m%2:Nat):Int):=by
   have:=yw (a:=m) (b:=1) hm64 (by decide)
   rw[Nat.and_one_is_mod] at this;exact this
  have a2:iand .u64 (m:Int) 2=((2*(m/2%2):Nat):Int):=by
   have:=yw (a:=m) (b:=2) hm64 (by decide)
   have e:=zhU m 1
   rw[Nat.pow_one] at e
   rw[e] at this;exact this
  have a3:ishr .u64 (m:Int) 8=((m/256:Nat):Int):=vZ (a:=m) (s:=8) (by decide)
  rw[a1,a2,a3]
  by_cases k1:m%2=0
  ·rw[if_pos (by omega)]
   rw[if_pos (by left;omega)] at hq;exact hq
  rw[if_neg (by omega)]
  have fin:(wr=true→m/2%2≠0)→(if 32≤((m/256:Nat):Int) then Q 0 0 false S' else Q (IntKind.i64.wrap ((m/256:Nat):Int)) (IntKind.i64.wrap (addr%256)) true S'):=fun hw=>by
   by_cases k3:31<m/256
   ·rw[if_pos (by omega)]
    rw[if_pos (by right;right;omega)] at hq;exact hq
   ·rw[if_neg (by omega)]
    rw[if_neg (by
     rintro (h | ⟨h,h'⟩ | h)
     ·omega
     ·exact hw h (by omega)
     ·omega)] at hq
    rw[w64 (by omega) (by omega),w64 (by omega) (by omega)]
    have e1:(((m/256:Int).toNat:Nat):Int)=((m/256:Nat):Int):=by omega
    have e2:(((addr%256).toNat:Nat):Int)=addr%256:=by omega
    simp only[e1,e2] at hq
    exact hq
  cases wr with
  | false=>rw[if_neg (by decide)];exact fin fun h=>by cases h
  | true=>
   rw[if_pos rfl]
   by_cases k2:m/2%2=0
   ·rw[if_pos (by omega)]
    rw[if_pos (by right;left;exact⟨rfl,by omega⟩)] at hq;exact hq
   ·rw[if_neg (by omega)];exact fin fun _=>k2
theorem zeU (hB:Bus bus I R) (hx:Cx I R S ρ g b o s) (hs:s.Ok) {addr:Int} (ha:W64 addr) {n:Nat} (hn:n=4∨n=8) {Q:Int→Bool→Mem→Prop}
  (hQ:∀ S1 ρ1,Mv S ρ S1 ρ1 R→Cx I R S1 ρ1 g b o s→match getW s g addr n with | some w=>Q w true S1 | none=>∀ x,Q x false S1):je S (cL b o bus time me) addr n Q:=by
 have c1:nthL (cL b o bus time me) 1=some bus:=rfl
 apply zew
 unfold jz
 refine⟨rfl,?_⟩
 refine qc (fun J=>∀ S1 ρ1,Mv S ρ S1 ρ1 R→Cx I R S1 ρ1 g b o s→match place s g addr false with | some q=>J q.1 q.2 true S1 | none=>∀ x y,J x y false S1) ?_ fun J hJ=>?_
 rotate_left
 ·refine zeK hB hx hs ha fun S1 ρ1 hm hx1=>?_
  have h:=hJ S1 ρ1 hm hx1
  cases hp:place s g addr false with
  | none=>rw[hp] at h;dsimp only at h ⊢;rw[if_neg (by decide)];exact h _ _
  | some q=>rw[hp] at h;dsimp only at h ⊢;rw[if_pos rfl];exact h
 intro S1 ρ1 hm hx1
 unfold getW at hQ
 simp only[jn]
 cases hp:place s g addr false with
 | none=>
  dsimp only
  intro x y
  rw[if_neg (by decide)]
  have:=hQ S1 ρ1 hm hx1
  rw[hp] at this;exact this _
 | some q=>
  dsimp only
  have hpb:=zfA (hB.ok hx.i) ha hp
  rw[if_pos trivial]
  have hw:IntKind.u64.wrap (n:Int)=n:=wu64 (by omega) (by omega)
  rw[hw,tm ha.1]
  refine⟨by omega,?_⟩
  by_cases h1:addr%(n:Int)≠0
  ·rw[if_pos h1]
   have:=hQ S1 ρ1 hm hx1
   rw[hp] at this;dsimp only at this
   rw[if_pos h1] at this;exact this _
  rw[if_neg h1,zoZ c1]
  refine hB.load hx1.i hpb.1 (by rcases hn with rfl | rfl <;> decide) (by rcases hn with rfl | rfl <;> omega) fun S' ρ' sl e hm' hi hl2=>⟨sl,e,rfl,?_⟩
  have hq:=hQ S' ρ' (hm.trans hm') (hx1.mv hm' hi)
  rw[hp] at hq
  dsimp only at hq
  rw[if_neg h1] at hq
  cases hd:ldB g q.1 q.2 n with
  | none=>
   rw[hd] at hl2 hq
   refine zce hl2.2 (by simp) ?_
   rw[decide_eq_false hl2.1]
   exact hq _
  | some l=>
   rw[hd] at hl2 hq
   obtain⟨rfl,hby⟩:=hl2
   obtain⟨hp8,_⟩:=zfJ (hB.ok hx.i) hd (by rcases hn with rfl | rfl <;> omega)
   refine zce hby (by omega) ?_
   rw[decide_eq_true rfl]
   exact hq
end
end Go.Proofs.YtabdpmnhjlmnlaaGreatDoor
end
section
namespace Go.Cr
open Go Go.Pt
theorem znY (x:Int):IntKind.u8.wrap x=x%256:=by simp[IntKind.wrap,IntKind.bits,IntKind.signed]
def bL (xs:List Int):List Value:=xs.map (.int .u8)
def bp (w:Int) (i:Nat):List Value:=(List.range 8).map fun j=>Value.int .u8 (if j<i then w/2 ^ (8*j)%256 else 0)
theorem znF (w:Int) (i:Nat) (h:i<8):spl (bp w i) i [.int .u8 (w/2 ^ (8*i)%256)]=bp w (i+1):=by
 match i,h with
 | 0,_=>rfl
 | 1,_=>rfl
 | 2,_=>rfl
 | 3,_=>rfl
 | 4,_=>rfl
 | 5,_=>rfl
 | 6,_=>rfl
 | 7,_=>rfl
theorem zoJ (w:Int):bp w 8=bL (bytes8 w):=by
 unfold bp bL bytes8
 rw[List.map_map]
 apply List.map_congr_left
 intro j hj
 have:=List.mem_range.1 hj
 simp only[Function.comp,if_pos this]
def exL (k n:Int):List Value:=[.int .u8 k,.int .u64 n]
theorem _root_.Go.Pt.At.pt1 {S:Mem} {b o:Nat} {s s':Seat} (h:At S b o s.L) (hl:s.R.length=16) {i:Nat} {v:Value} (hi:i<26) (he:spl s.L i [v]=s'.L) {K:Mem→Prop} (hK:K (S.put b o s'.L)):Go.Pt.pt S b (o+i) 1 [v] K:=
 h.pt (i:=i) (vs:=[v]) rfl (by rw[Seat.L_len hl];show i+1≤26;omega) (by rw[he];exact hK)
end Go.Cr
namespace Go.Proofs.YtabdpmnhjlmnlaaGreatDoor
open Go Go.Pt Go.Cr
theorem zcr {S:Mem} {w:Int} (hw:W64 w) {Q:Sl→Mem→Prop} (hQ:∀ c,S c=none→Q ⟨some (c,0),8,8⟩ (S.set c (bw 5 (bL (bytes8 w))))):fH S w Q:=by
 apply zgh
 unfold fi
 intro c hc
 refine qc (fun J=>J (S.set c (bw 5 (bL (bytes8 w))))) (hQ c hc) fun J hJ=>?_
 refine zX (fun (z:Int) S'=>∃ i:Nat,z=i∧i≤8∧S'=S.set c (bw 5 (bp w i))) (fun z=>8-z.toNat) ?_ ⟨0,rfl,by omega,rfl⟩
 rintro X z S' ⟨i,rfl,hi,rfl⟩ ih
 by_cases hlt:(i:Int)<8
 ·rw[if_pos hlt]
  have hi8:i<8:=by omega
  have e8:IntKind.i64.wrap (8*(i:Int))=((8*i:Nat):Int):=by rw[w64 (by omega) (by omega)];omega
  obtain⟨m,hm⟩:∃ m:Nat,w=m:=⟨w.toNat,by omega⟩
  rw[e8]
  refine⟨by omega,by omega,hlt,?_⟩
  rw[show 0+(i:Int).toNat*1=i by omega,w64 (by omega) (by omega)]
  refine zko (t:=5) (cs:=bp w i) zO (by simp[bp];omega) ?_
  have ev:IntKind.u8.wrap (ishr .u64 w ((8*i:Nat):Int))=w/2 ^ (8*i)%256:=by
   rw[hm,vZ (by omega),znY,Int.natCast_ediv];rfl
  rw[ev,zhs,znF w i hi8]
  exact ih _ _ ⟨i+1,by omega,by omega,rfl⟩ (by omega)
 ·rw[if_neg hlt]
  have:i=8:=by omega
  subst this
  rw[zoJ];exact hJ
theorem zpc {S:Mem} {c t:Nat} {xs:List Int} (hx:Byt xs) {n:Nat} (hn:xs.length=n):By (S.set c (bw t (bL xs))) ⟨some (c,0),n,n⟩ xs:=
 ⟨hn,Nat.le_refl _,hx,.inr ⟨c,0,rfl,fun i hi=>by
  rw[qA zO,qb]
  simp[bL,List.getElem?_eq_getElem hi]⟩⟩
section
variable {bus:Value} {I:Mem→Rho→GM→Prop} {R:Nat→Prop} {S:Mem} {ρ:Rho} {g:GM} {b o:Nat} {s:Seat} {time me:Int}
theorem ziT (hB:Bus bus I R) (hx:Cx I R S ρ g b o s) (hs:s.Ok) {addr w:Int} (ha:W64 addr) (hw:W64 w) {Q:Bool→Mem→Prop}
  (hQ:∀ S1 ρ1,Mv S ρ S1 ρ1 R→match putW s g addr w with | some g'=>Cx I R S1 ρ1 g' b o s→Q true S1 | none=>Cx I R S1 ρ1 g b o s→Q false S1):ff S (cL b o bus time me) addr w Q:=by
 have c1:nthL (cL b o bus time me) 1=some bus:=rfl
 apply zev
 unfold jy
 refine⟨rfl,?_⟩
 refine qc (fun J=>∀ S1 ρ1,Mv S ρ S1 ρ1 R→Cx I R S1 ρ1 g b o s→match place s g addr true with | some q=>J q.1 q.2 true S1 | none=>∀ x y,J x y false S1) ?_ fun J hJ=>?_
 rotate_left
 ·refine zeK hB hx hs ha fun S1 ρ1 hm hx1=>?_
  have h:=hJ S1 ρ1 hm hx1
  cases hp:place s g addr true with
  | none=>rw[hp] at h;dsimp only at h ⊢;rw[if_neg (by decide)];exact h _ _
  | some q=>rw[hp] at h;dsimp only at h ⊢;rw[if_pos rfl];exact h
 intro S1 ρ1 hm hx1
 have hq1:=hQ S1 ρ1 hm
 unfold putW at hQ hq1
 cases hp:place s g addr true with
 | none=>
  dsimp only
  intro x y
  rw[if_neg (by decide)]
  rw[hp] at hq1;exact hq1 hx1
 | some q=>
  dsimp only
  have hpb:=zfA (hB.ok hx.i) ha hp
  rw[if_pos rfl,tm ha.1]
  rw[hp] at hq1
  dsimp only at hq1
  by_cases h1:addr%8=0
  ·rw[if_pos h1,zoZ c1]
   refine⟨hB.ifc,?_⟩
   refine zcr hw fun c hc=>?_
   have hk:Keeps S1 (S1.set c (bw 5 (bL (bytes8 w)))) []:=Keeps.refl.fresh hc
   have m2:Mv S1 ρ1 (S1.set c (bw 5 (bL (bytes8 w)))) ρ1 R:=Mv.keeps (hB.rg hx1.i) hk
   have hx2:=hx1.mv m2 (hB.kp hx1.i hk)
   refine hB.save hx2.i hpb.1 (by omega) (zpc (kn w) (xo w)) (fun b o e=>by
    cases e
    cases hr:ρ1 c with
    | none=>rfl
    | some r=>exact absurd hc (hB.rg hx1.i c r hr)) (xo w) fun S' ρ' g' e hm' hi hl2=>⟨e,rfl,?_⟩
   have hq:=hQ S' ρ' ((hm.trans m2).trans hm')
   rw[hp] at hq
   dsimp only at hq
   rw[if_neg (fun h=>h h1)] at hq
   cases hg:g.map q.1 with
   | none=>
    rw[hg] at hl2 hq
    dsimp only at hl2 hq
    rw[decide_eq_false hl2.1]
    refine hq ?_
    have:=hx2.mv hm' hi
    rw[hl2.2] at this;exact this
   | some fw=>
    obtain⟨f,wr⟩:=fw
    rw[hg] at hl2 hq
    cases wr with
    | true=>
     dsimp only at hl2 hq
     rw[hl2.1,decide_eq_true rfl]
     refine hq ?_
     have:=hx2.mv hm' hi
     rw[hl2.2] at this;exact this
    | false=>
     dsimp only at hl2 hq
     rw[decide_eq_false hl2.1]
     refine hq ?_
     have:=hx2.mv hm' hi
     rw[hl2.2] at this;exact this
  ·rw[if_neg h1]
   rw[if_pos h1] at hq1
   exact hq1 hx1
theorem km (hA:At S b o s.L) (hl:s.R.length=16) {cause addr:Int} {Q:List Value→Mem→Prop} (hQ:Q (exL (if (s.trap cause addr).st=2 then 4 else 1) cause) (S.put b o (s.trap cause addr).L)):yt S (cL b o bus time me) cause addr Q:=by
 have c0:nthL (cL b o bus time me) 0=some (eP (some (b,o))):=rfl
 have hp:Pl S b o:=Pl.of hA hl
 have hl':(s.trap cause addr).R.length=16:=by unfold Seat.trap;split <;> exact hl
 apply zeu
 unfold jw
 refine⟨rfl,?_⟩
 rw[qP c0]
 have h:=zjO hp hl (cause:=cause) (addr:=addr) (Q:=fun Sx=>gP (nthL (cL b o bus time me) 0) fun t_1=>nn t_1 fun b_2 o=>gI (Sx.cell b_2 (o+23)) .u8 fun t_2=>if t_2=2 then Q ([.int .u8 4,.int .u64 cause]) Sx else Q ([.int .u8 1,.int .u64 cause]) Sx) ?_
 ·rw[hA.self] at h;exact h
 ·rw[qP c0,qk,zY ((hp.cell hl' (by decide)).trans (Seat.g23 hl'))]
  by_cases h2:(s.trap cause addr).st=2
  ·rw[if_pos h2];rw[if_pos h2] at hQ;exact hQ
  ·rw[if_neg h2];rw[if_neg h2] at hQ;exact hQ
end
end Go.Proofs.YtabdpmnhjlmnlaaGreatDoor
end
section
namespace Go.Cr
open Go Go.Pt
theorem zbL (x:Int):x64 x=x%18446744073709551616:=by unfold x64;exact IntKind.wrap_u64 x
theorem wN (x:Int):W64 (x64 x):=by rw[zbL];exact⟨by omega,by omega⟩
theorem Seat.r_w {s:Seat} (h:s.Ok) (i:Int):W64 (s.r i):=by
 unfold Seat.r
 rw[List.getD_eq_getElem?_getD]
 cases hx:s.R[i.toNat]? with
 | none=>exact⟨by simp,by simp⟩
 | some v=>exact h.r v (List.mem_of_getElem? hx)
theorem zon {w v:Int} (hw:W64 w) (hv:W64 v):ior .u64 (iandn .u64 w (ishl .u64 (IntKind.u64.wrap (ishl .u64 1 48-1)) 16)) (ishl .u64 (iand .u64 v (IntKind.u64.wrap (ishl .u64 1 48-1))) 16)=x64 (w%65536+x64 (v*65536)):=by
 obtain⟨a,rfl⟩:∃ m:Nat,w=m:=⟨w.toNat,by omega⟩
 obtain⟨b,rfl⟩:∃ m:Nat,v=m:=⟨v.toNat,by omega⟩
 have hM:IntKind.u64.wrap (ishl .u64 1 48-1)=((2 ^ 48-1:Nat):Int):=zfF (n:=48) (by decide) (by decide)
 have e1:ishl .u64 ((2 ^ 48-1:Nat):Int) 16=(((2 ^ 48-1)*2 ^ 16:Nat):Int):=jb (a:=2 ^ 48-1) (s:=16) (by decide) (by decide)
 have e2:iand .u64 (b:Int) ((2 ^ 48-1:Nat):Int)=((b%2 ^ 48:Nat):Int):=by
  rw[yw (by omega) (by decide),Nat.and_two_pow_sub_one_eq_mod]
 have e3:ishl .u64 ((b%2 ^ 48:Nat):Int) 16=((b%2 ^ 48*2 ^ 16:Nat):Int):=jb (a:=b%2 ^ 48) (s:=16) (by decide) (by omega)
 have e4:iandn .u64 (a:Int) (((2 ^ 48-1)*2 ^ 16:Nat):Int)=((a%65536:Nat):Int):=by
  unfold iandn
  show IntKind.u64.wrap ((BitVec.ofInt 64 (a:Int) &&& ~~~ BitVec.ofInt 64 (((2 ^ 48-1)*2 ^ 16:Nat):Int)).toNat:Int)=_
  have q:(~~~ BitVec.ofInt 64 (((2 ^ 48-1)*2 ^ 16:Nat):Int))=BitVec.ofNat 64 65535:=by decide
  rw[q,wd,BitVec.toNat_and,BitVec.toNat_ofNat,BitVec.toNat_ofNat,Nat.mod_eq_of_lt (by omega),Nat.mod_eq_of_lt (by decide)]
  have:a &&& 65535=a%65536:=Nat.and_two_pow_sub_one_eq_mod a 16
  rw[this]
  exact wu64 (by omega) (by omega)
 rw[hM,e1,e2,e3,e4,gX (by omega) (by omega),zku (by omega),zbL,zbL]
 omega
theorem zmS {c:Int} (h:W64 c):iand .u64 c 63=c%64:=by
 obtain⟨m,rfl⟩:∃ m:Nat,c=m:=⟨c.toNat,by omega⟩
 have:=yw (a:=m) (b:=63) (by omega) (by decide)
 have e:m &&& 63=m%64:=Nat.and_two_pow_sub_one_eq_mod m 6
 rw[e] at this
 exact this
theorem zkb {s t:Seat} {n v:Int} (h:setR s n v=some t):t.st=s.st∧t.R=s.R:=by
 unfold setR at h
 repeat' split at h
 all_goals first | (cases h;exact⟨rfl,rfl⟩) | cases h
theorem zib {s:Seat} (h:s.R.length=16) (i v:Int):(s.setr i v).R.length=16:=by simp[Seat.setr,h]
end Go.Cr
namespace Go.Proofs.YtabdpmnhjlmnlaaGreatDoor
open Go Go.Pt Go.Cr
section
variable {bus:Value} {I:Mem→Rho→GM→Prop} {R:Nat→Prop} {S:Mem} {ρ:Rho} {g:GM} {b o:Nat} {s:Seat} {time me:Int}
theorem znk {w v:Int} (hw:W64 w) (hv:W64 v) {Q:Int→Mem→Prop} (hQ:Q (x64 (w%65536+x64 (v*65536))) S):ym S w 16 48 v Q:=by
 apply jM
 unfold wW
 simp only[jn]
 rw[if_neg (by decide),if_neg (by decide),if_neg (by decide),if_pos (by decide)]
 refine⟨by decide,by decide,by decide,?_⟩
 rw[zon hw hv];exact hQ
theorem taken14 {x y:Int} {Q:Bool→Mem→Prop} (hQ:Q (decide (x=y)) S):fe S 14 x y Q:=by
 apply zay
 unfold kT
 simp only[jn]
 rw[if_pos trivial];exact hQ
theorem taken15 {x y:Int} {Q:Bool→Mem→Prop} (hQ:Q (decide (x≠y)) S):fe S 15 x y Q:=by
 apply zay
 unfold kT
 simp only[jn]
 rw[if_neg (by decide),if_pos trivial];exact hQ
theorem taken16 {x y:Int} {Q:Bool→Mem→Prop} (hQ:Q (decide (IntKind.i64.wrap x<IntKind.i64.wrap y)) S):fe S 16 x y Q:=by
 apply zay
 unfold kT
 simp only[jn]
 rw[if_neg (by decide),if_neg (by decide)];exact hQ
theorem zlt {k x y:Int} (hy:W64 y) {Q:Int→Mem→Prop} (hQ:Q (sumM k x y) S):zfV S k x y Q:=by
 apply zjV
 unfold zeq
 simp only[jn,zmS hy]
 unfold sumM x64 at hQ
 by_cases h3:k=3
 ·rw[if_pos h3] at hQ ⊢;exact hQ
 rw[if_neg h3] at hQ ⊢
 by_cases h4:k=4
 ·rw[if_pos h4] at hQ ⊢;exact hQ
 rw[if_neg h4] at hQ ⊢
 by_cases h5:k=5
 ·rw[if_pos h5] at hQ ⊢;exact hQ
 rw[if_neg h5] at hQ ⊢
 by_cases h6:k=6
 ·rw[if_pos h6] at hQ ⊢;exact hQ
 rw[if_neg h6] at hQ ⊢
 by_cases h7:k=7
 ·rw[if_pos h7] at hQ ⊢;exact hQ
 rw[if_neg h7] at hQ ⊢
 by_cases h8:k=8
 ·rw[if_pos h8] at hQ ⊢;exact hQ
 rw[if_neg h8] at hQ ⊢
 by_cases h9:k=9
 ·rw[if_pos h9] at hQ ⊢;exact⟨by omega,hQ⟩
 rw[if_neg h9] at hQ ⊢
 exact⟨by omega,hQ⟩
theorem zgO {f:Bool} {Q:Int→Mem→Prop} (hQ:Q (if f=true then 1 else 0) S):zbt S f Q:=by
 apply zhg
 unfold zaN
 cases f with
 | true=>simpa using hQ
 | false=>simpa using hQ
theorem zmg (hs:s.Ok) {n:Int} (hn:0≤n∧n<9) (hme:0≤me∧me≤2) {Q:Int→Bool→Mem→Prop} (hQ:Q (getR s time me n) true S):zfv S s.L n time me Q:=by
 have hl:=hs.len
 have hm:=hs.mask
 apply ziJ
 unfold zcx
 refine⟨Seat.L_len hl,?_⟩
 simp only[jn]
 rw[zY (Seat.g17 hl),zY (Seat.g18 hl),zY (Seat.g19 hl),zY (Seat.g20 hl),zY (Seat.g21 hl),zY (Seat.g25 hl),zaF (Seat.g22 hl),wu64 (x:=s.mask) (by omega) (by omega),wu64 (x:=me) (by omega) (by omega)]
 unfold getR at hQ
 have:n=0∨n=1∨n=2∨n=3∨n=4∨n=5∨n=6∨n=7∨n=8:=by omega
 rcases this with rfl | rfl | rfl | rfl | rfl | rfl | rfl | rfl | rfl <;> simp only[Int.reduceEq,if_true,if_false] at hQ ⊢
 ·exact hQ
 ·exact hQ
 ·exact hQ
 ·exact hQ
 ·exact hQ
 ·exact hQ
 ·exact zgO hQ
 ·exact hQ
 ·exact hQ
theorem set_spec (hA:At S b o s.L) (hs:s.Ok) {n v:Int} (hn:0≤n∧n<9) (hv:W64 v) {Q:Bool→Mem→Prop} (hQ:match setR s n v with | some t=>Q true (S.put b o t.L) | none=>Q false S):zfu S (some (b,o)) n v Q:=by
 have hl:=hs.len
 obtain⟨m,hm⟩:∃ m:Nat,v=m:=⟨v.toNat,by omega⟩
 have a1:iand .u64 v 255=v%256:=by
  have:=yw (a:=m) (b:=255) (by omega) (by decide)
  have e:m &&& 255=m%256:=Nat.and_two_pow_sub_one_eq_mod m 8
  rw[e] at this
  rw[hm];exact this
 have a2:iand .u64 v 1=v%2:=by
  have:=yw (a:=m) (b:=1) (by omega) (by decide)
  rw[Nat.and_one_is_mod] at this
  rw[hm];exact this
 apply ziH
 unfold zcv
 simp only[jn,reduceCtorEq,if_false]
 simp only[qk,a1,a2]
 rw[wu32 (x:=v%256) (by omega) (by omega)]
 unfold setR at hQ
 have:n=0∨n=1∨n=2∨n=3∨n=4∨n=5∨n=6∨n=7∨n=8:=by omega
 rcases this with rfl | rfl | rfl | rfl | rfl | rfl | rfl | rfl | rfl <;> simp only[Int.reduceEq,if_true,if_false,reduceIte] at hQ ⊢
 ·exact hA.pt1 hl (by decide) (Seat.s17 hl v) hQ
 ·exact hA.pt1 hl (by decide) (Seat.s18 hl v) hQ
 ·exact hA.pt1 hl (by decide) (Seat.s19 hl v) hQ
 ·exact hA.pt1 hl (by decide) (Seat.s20 hl v) hQ
 ·exact hA.pt1 hl (by decide) (Seat.s21 hl v) hQ
 ·exact hA.pt1 hl (by decide) (Seat.s25 hl _) hQ
 ·exact hA.pt1 hl (by decide) (Seat.s22 hl _) hQ
 ·exact hQ
 ·exact hQ
end
end Go.Proofs.YtabdpmnhjlmnlaaGreatDoor
namespace Go.Proofs.YtabdpmnhjlmnlaaGreatDoor
open Go Go.Pt Go.Cr
section
variable {bus:Value} {I:Mem→Rho→GM→Prop} {R:Nat→Prop} {S:Mem} {ρ:Rho} {g:GM} {b o:Nat} {s:Seat} {time me:Int}
set_option maxHeartbeats 1000000 in
theorem znC (hB:Bus bus I R) (hx:Cx I R S ρ g b o s) (hs:s.Ok) {k x y z n:Int} (hbd:Bd k x y z n) (hrt:Rt k x y z n) (hst:s.st=0) (ht:W64 time) (hme:0≤me∧me≤2) {Q:List Value→Mem→Prop}
  (hQ:∀ S1 ρ1,Mv S ρ S1 ρ1 R→I S1 ρ1 (doM s g time me k x y z n).g→At S1 b o s.L→Q (exL (doM s g time me k x y z n).k (doM s g time me k x y z n).n) (S1.put b o (doM s g time me k x y z n).s.L)):zco S (cL b o bus time me) (opL k x y z n) Q:=by
 have hl:=hs.len
 have hA:=hx.at_
 have hp:Pl S b o:=Pl.of hA hl
 have m0:Mv S ρ S ρ R:=Mv.refl (hB.rg hx.i)
 have c0:nthL (cL b o bus time me) 0=some (eP (some (b,o))):=rfl
 have c2:nthL (cL b o bus time me) 2=some (.int .u64 time):=rfl
 have c3:nthL (cL b o bus time me) 3=some (.int .i64 me):=rfl
 have g0:nthL (opL k x y z n) 0=some (.int .u8 k):=rfl
 have g1:nthL (opL k x y z n) 1=some (.int .u8 x):=rfl
 have g2:nthL (opL k x y z n) 2=some (.int .u8 y):=rfl
 have g3:nthL (opL k x y z n) 3=some (.int .u8 z):=rfl
 have g4:nthL (opL k x y z n) 4=some (.int .i16 n):=rfl
 have hk0:=hbd.kk
 have hx0:=hbd.aa
 have hy0:=hbd.bb
 have hz0:=hbd.cc
 have hn0:=hbd.nn
 have hk:=hrt.kk
 have hxr:=hrt.aa
 have hyr:=hrt.bb
 have hzr:=hrt.cc
 have hrw:=hrt.rw
 unfold regR at hxr hyr hzr
 have hx16:x<16:=by omega
 have hy16:y<16:=by omega
 have hz16:z<16:=by omega
 have cr:∀ {i:Int},0≤i→i<16→S.cell b (o+i.toNat)=some (.int .u64 (s.r i)):=fun {i} h0 h1=>(hx.cell hl (by omega)).trans (Seat.L_r hl (by omega))
 have e64:IntKind.i64.wrap n=n:=w64 (by omega) (by omega)
 apply zgn
 unfold fq
 refine⟨rfl,rfl,?_⟩
 rw[qP c0,zY g4]
 simp only[Nat.mul_one,e64]
 rw[qk,zY ((hx.cell hl (by decide)).trans (Seat.g16 hl)),zY g1]
 refine⟨hx0.1,hx16,?_⟩
 rw[zY (cr hx0.1 hx16),zY g2]
 refine⟨hy0.1,hy16,?_⟩
 rw[zY (cr hy0.1 hy16)]
 refine qc (fun J=>∀ S1 (t:Seat) pc v,Pl S1 b o→t.R.length=16→v.length=2→Q (exL 0 0) (S1.put b o ({ t with pc:=pc }:Seat).L)→J pc v (S1.put b o t.L)) ?_ fun J hJ=>?_
 ·intro S1 t pc v hp1 hl1 hv hq
  exact⟨hv,hp1.pt (s:=t) hl1 (by decide) (Seat.s16 hl1 pc) hq⟩
 have hJ0:∀ {S1:Mem} (pc:Int) (v:List Value),At S1 b o s.L→v.length=2→Q (exL 0 0) (S1.put b o ({ s with pc:=pc }:Seat).L)→J pc v S1:=fun {S1} pc v hA1 hv hq=>by
  have:=hJ S1 s pc v (Pl.of hA1 hl) hl hv hq
  rw[hA1.self] at this;exact this
 have hJr:∀ (u pc:Int) (v:List Value),v.length=2→Q (exL 0 0) (S.put b o ({ s.setr x u with pc:=pc }:Seat).L)→Go.Pt.pt S b (o+x.toNat) 1 [.int .u64 u] fun Sx=>J pc v Sx:=fun u pc v hv hq=>
  hA.pt1 hl (by omega) (Seat.set_r hl (by omega) u) (hJ S (s.setr x u) pc v hp (zib hl x u) hv hq)
 have hq0:=hQ S ρ m0
 rw[zY g0]
 have hwN:W64 (x64 n):=wN n
 have hwy:W64 (s.r y):=Seat.r_w hs y
 have hwx:W64 (s.r x):=Seat.r_w hs x
 have hkk:k=0∨k=1∨k=2∨k=3∨k=4∨k=5∨k=6∨k=7∨k=8∨k=9∨k=10∨k=11∨k=12∨k=13∨k=14∨k=15∨k=16∨k=17∨k=18∨k=19∨k=20∨k=21∨k=22:=by omega
 have ar:(3≤k∧k≤10)→(gI (nthL (opL k x y z n) 1) .u8 fun t_37=>gI (nthL (opL k x y z n) 3) .u8 fun t_39=>0≤t_39∧t_39<16∧gI (S.cell b (o+t_39.toNat)) .u64 fun t_40=>zfV S k (s.r y) t_40 fun t_41 Sx_23=>0≤t_37∧t_37<16∧Go.Pt.pt Sx_23 b (o+t_37.toNat) 1 [.int .u64 t_41] fun Sx_24=>J (IntKind.u64.wrap (s.pc+4)) [.int .u8 0,.int .u64 0] Sx_24):=fun hk=>by
  rw[zY g1,zY g3]
  refine⟨hz0.1,hz16,?_⟩
  rw[zY (cr hz0.1 hz16)]
  refine zlt (Seat.r_w hs z) ⟨hx0.1,hx16,?_⟩
  refine hJr _ _ _ rfl ?_
  have:doM s g time me k x y z n=⟨{ s.setr x (sumM k (s.r y) (s.r z)) with pc:=x64 (s.pc+4) },0,0,g⟩:=by
   unfold doM
   simp only
   repeat rw[if_neg (by omega)]
   rw[if_pos (by omega)]
  rw[this] at hq0
  exact hq0 hx.i hA
 have hres:∀ c u:Int,(exL c u).all (·.oneCell')=true:=fun _ _=>rfl
 rcases hkk with rfl | rfl | rfl | rfl | rfl | rfl | rfl | rfl | rfl | rfl | rfl | rfl | rfl | rfl | rfl | rfl | rfl | rfl | rfl | rfl | rfl | rfl | rfl <;> simp only[Int.reduceEq,reduceIte,jn,zY g0,Int.reduceLE,Bool.false_eq_true]
 ·exact hJ0 _ _ hA rfl (hq0 hx.i hA)
 ·rw[zY g1]
  exact⟨hx0.1,hx16,hJr _ _ _ rfl (hq0 hx.i hA)⟩
 ·rw[zY g1]
  refine znk hwx hwN ?_
  exact⟨hx0.1,hx16,hJr _ _ _ rfl (hq0 hx.i hA)⟩
 ·exact ar (by decide)
 ·exact ar (by decide)
 ·exact ar (by decide)
 ·exact ar (by decide)
 ·exact ar (by decide)
 ·exact ar (by decide)
 ·exact ar (by decide)
 ·exact ar (by decide)
 ·rw[zY g1]
  exact⟨hx0.1,hx16,hJr _ _ _ rfl (hq0 hx.i hA)⟩
 ·refine zeU hB hx hs (wN _) (n:=8) (.inr rfl) fun S1 ρ1 hm hx1=>?_
  have hq:=hQ S1 ρ1 hm
  change I S1 ρ1 (match getW s g (x64 (s.r y+x64 n)) 8 with | some v=>(⟨{ s.setr x v with pc:=x64 (s.pc+4) },0,0,g⟩:Out) | none=>trapM s g 3 (x64 (s.r y+x64 n))).g→_→Q (exL (match getW s g (x64 (s.r y+x64 n)) 8 with | some v=>(⟨{ s.setr x v with pc:=x64 (s.pc+4) },0,0,g⟩:Out) | none=>trapM s g 3 (x64 (s.r y+x64 n))).k (match getW s g (x64 (s.r y+x64 n)) 8 with | some v=>(⟨{ s.setr x v with pc:=x64 (s.pc+4) },0,0,g⟩:Out) | none=>trapM s g 3 (x64 (s.r y+x64 n))).n) (S1.put b o (match getW s g (x64 (s.r y+x64 n)) 8 with | some v=>(⟨{ s.setr x v with pc:=x64 (s.pc+4) },0,0,g⟩:Out) | none=>trapM s g 3 (x64 (s.r y+x64 n))).s.L) at hq
  change match getW s g (x64 (s.r y+x64 n)) 8 with | some w=>_ | none=>_
  cases hg:getW s g (x64 (s.r y+x64 n)) 8 with
  | some v=>
   rw[hg] at hq
   dsimp only at hq ⊢
   rw[if_pos rfl,zY g1]
   exact⟨hx0.1,hx16,hx1.at_.pt1 hl (by omega) (Seat.set_r hl (by omega) v) (hJ S1 (s.setr x v) _ _ (Pl.of hx1.at_ hl) (zib hl x v) rfl (hq hx1.i hx1.at_))⟩
  | none=>
   rw[hg] at hq
   dsimp only at hq ⊢
   intro u
   rw[if_neg (by decide)]
   exact km hx1.at_ hl ⟨hres _ _,hq hx1.i hx1.at_⟩
 ·refine ziT hB hx hs (wN _) hwx fun S1 ρ1 hm=>?_
  have hq:=hQ S1 ρ1 hm
  change I S1 ρ1 (match putW s g (x64 (s.r y+x64 n)) (s.r x) with | some g'=>(⟨{ s with pc:=x64 (s.pc+4) },0,0,g'⟩:Out) | none=>trapM s g 4 (x64 (s.r y+x64 n))).g→_→Q (exL (match putW s g (x64 (s.r y+x64 n)) (s.r x) with | some g'=>(⟨{ s with pc:=x64 (s.pc+4) },0,0,g'⟩:Out) | none=>trapM s g 4 (x64 (s.r y+x64 n))).k (match putW s g (x64 (s.r y+x64 n)) (s.r x) with | some g'=>(⟨{ s with pc:=x64 (s.pc+4) },0,0,g'⟩:Out) | none=>trapM s g 4 (x64 (s.r y+x64 n))).n) (S1.put b o (match putW s g (x64 (s.r y+x64 n)) (s.r x) with | some g'=>(⟨{ s with pc:=x64 (s.pc+4) },0,0,g'⟩:Out) | none=>trapM s g 4 (x64 (s.r y+x64 n))).s.L) at hq
  change match putW s g (x64 (s.r y+x64 n)) (s.r x) with | some g'=>_ | none=>_
  cases hg:putW s g (x64 (s.r y+x64 n)) (s.r x) with
  | some g'=>
   rw[hg] at hq
   dsimp only at hq ⊢
   intro hx1
   rw[if_pos rfl]
   exact hJ0 _ _ hx1.at_ rfl (hq hx1.i hx1.at_)
  | none=>
   rw[hg] at hq
   dsimp only at hq ⊢
   intro hx1
   rw[if_neg (by decide)]
   exact km hx1.at_ hl ⟨hres _ _,hq hx1.i hx1.at_⟩
 ·refine taken14 ?_
  have hq:=hq0 hx.i hA
  change Q (exL 0 0) (S.put b o ({ s with pc:=if s.r x=s.r y then x64 (s.pc+x64 (4*x64 n)) else x64 (s.pc+4) }:Seat).L) at hq
  by_cases he:s.r x=s.r y
  ·rw[if_pos he] at hq
   rw[decide_eq_true he,if_pos rfl,zY ((hx.cell hl (by decide)).trans (Seat.g16 hl))]
   exact hJ0 _ _ hA rfl hq
  ·rw[if_neg he] at hq
   rw[decide_eq_false he,if_neg (by decide)]
   exact hJ0 _ _ hA rfl hq
 ·refine taken15 ?_
  have hq:=hq0 hx.i hA
  change Q (exL 0 0) (S.put b o ({ s with pc:=if s.r x≠s.r y then x64 (s.pc+x64 (4*x64 n)) else x64 (s.pc+4) }:Seat).L) at hq
  by_cases he:s.r x≠s.r y
  ·rw[if_pos he] at hq
   rw[decide_eq_true he,if_pos rfl,zY ((hx.cell hl (by decide)).trans (Seat.g16 hl))]
   exact hJ0 _ _ hA rfl hq
  ·rw[if_neg he] at hq
   rw[decide_eq_false he,if_neg (by decide)]
   exact hJ0 _ _ hA rfl hq
 ·refine taken16 ?_
  have hq:=hq0 hx.i hA
  change Q (exL 0 0) (S.put b o ({ s with pc:=if IntKind.i64.wrap (s.r x)<IntKind.i64.wrap (s.r y) then x64 (s.pc+x64 (4*x64 n)) else x64 (s.pc+4) }:Seat).L) at hq
  by_cases he:IntKind.i64.wrap (s.r x)<IntKind.i64.wrap (s.r y)
  ·rw[if_pos he] at hq
   rw[decide_eq_true he,if_pos rfl,zY ((hx.cell hl (by decide)).trans (Seat.g16 hl))]
   exact hJ0 _ _ hA rfl hq
  ·rw[if_neg he] at hq
   rw[decide_eq_false he,if_neg (by decide)]
   exact hJ0 _ _ hA rfl hq
 ·rw[zY g1]
  exact⟨hx0.1,hx16,hJr _ _ _ rfl (hq0 hx.i hA)⟩
 ·have h9:=hrw (.inl rfl)
  have hall:=hA.all
  rw[Seat.L_len hl] at hall
  rw[zY g1,jo hall,zY g4,e64,zY c2,zY c3]
  refine zmg hs h9 hme ?_
  exact⟨hx0.1,hx16,hJr _ _ _ rfl (hq0 hx.i hA)⟩
 ·have h9:=hrw (.inr rfl)
  rw[zY g4,e64]
  refine set_spec hA hs h9 hwx ?_
  have hq:=hq0
  change I S ρ (match setR s n (s.r x) with | some t=>(⟨{ t with pc:=x64 (s.pc+4) },0,0,g⟩:Out) | none=>trapM s g 1 s.pc).g→_→Q (exL (match setR s n (s.r x) with | some t=>(⟨{ t with pc:=x64 (s.pc+4) },0,0,g⟩:Out) | none=>trapM s g 1 s.pc).k (match setR s n (s.r x) with | some t=>(⟨{ t with pc:=x64 (s.pc+4) },0,0,g⟩:Out) | none=>trapM s g 1 s.pc).n) (S.put b o (match setR s n (s.r x) with | some t=>(⟨{ t with pc:=x64 (s.pc+4) },0,0,g⟩:Out) | none=>trapM s g 1 s.pc).s.L) at hq
  cases hset:setR s n (s.r x) with
  | some t=>
   rw[hset] at hq
   dsimp only at hq ⊢
   have ht:t.st=s.st∧t.R=s.R:=zkb hset
   have hw:t.wake=t:=by unfold Seat.wake;rw[if_neg (fun h=>by have:=h.1;omega)]
   have hlt:t.R.length=16:=by rw[ht.2];exact hl
   rw[if_pos rfl]
   refine zgd hp hlt ?_
   rw[hw]
   exact hJ S t _ _ hp hlt rfl (hq hx.i hA)
  | none=>
   rw[hset] at hq
   dsimp only at hq ⊢
   rw[if_neg (by decide),zY ((hx.cell hl (by decide)).trans (Seat.g16 hl))]
   exact km hA hl ⟨hres _ _,hq hx.i hA⟩
 ·exact hA.pt1 hl (by decide) (Seat.s16 hl _) (hq0 hx.i hA)
 ·refine hA.pt1 hl (by decide) (Seat.s16 hl _) ?_
  rw[zY ((hp.cell (s:={ s with pc:=IntKind.u64.wrap (s.pc+4) }) hl (by decide)).trans (Seat.g24 (s:={ s with pc:=IntKind.u64.wrap (s.pc+4) }) hl)),zY ((hp.cell (s:={ s with pc:=IntKind.u64.wrap (s.pc+4) }) hl (by decide)).trans (Seat.g25 (s:={ s with pc:=IntKind.u64.wrap (s.pc+4) }) hl))]
  have hq:=hq0
  change I S ρ (if s.may=0 then (⟨{ s with pc:=x64 (s.pc+4),st:=1 },3,0,g⟩:Out) else ⟨{ s with pc:=x64 (s.pc+4) },0,0,g⟩).g→_→Q (exL (if s.may=0 then (⟨{ s with pc:=x64 (s.pc+4),st:=1 },3,0,g⟩:Out) else ⟨{ s with pc:=x64 (s.pc+4) },0,0,g⟩).k (if s.may=0 then (⟨{ s with pc:=x64 (s.pc+4),st:=1 },3,0,g⟩:Out) else ⟨{ s with pc:=x64 (s.pc+4) },0,0,g⟩).n) (S.put b o (if s.may=0 then (⟨{ s with pc:=x64 (s.pc+4),st:=1 },3,0,g⟩:Out) else ⟨{ s with pc:=x64 (s.pc+4) },0,0,g⟩).s.L) at hq
  by_cases hmay:s.may=0
  ·rw[if_pos hmay] at hq
   rw[if_pos (show iand .u32 s.pend s.mask=0 from hmay)]
   exact hp.pt (s:={ s with pc:=IntKind.u64.wrap (s.pc+4) }) hl (by decide) (Seat.s23 (s:={ s with pc:=IntKind.u64.wrap (s.pc+4) }) hl _) (hq hx.i hA)
  ·rw[if_neg hmay] at hq
   rw[if_neg (show ¬iand .u32 s.pend s.mask=0 from hmay)]
   exact hq hx.i hA
 ·have h:=zli hp hl (Q:=fun Sx=>Q [.int .u8 0,.int .u64 0] Sx) (hq0 hx.i hA)
  rw[hA.self] at h
  exact h
end
end Go.Proofs.YtabdpmnhjlmnlaaGreatDoor
end
section
namespace Go.Cr
open Go Go.Pt Go.Lib
def C64:Nat:=11400714819323198485
def mixN (x:Nat):Int:=ixor .u64 ((x*C64/18446744073709551616*131072%18446744073709551616+x*C64/18446744073709551616/140737488355328:Nat):Int) ((x*C64%18446744073709551616:Nat):Int)
def mixM (sum w:Int):Int:=mixN (ixor .u64 sum w).toNat
theorem ziq {a b:Nat} (ha:a<18446744073709551616) (hb:b<18446744073709551616):ixor .u64 a b=((a ^^^ b:Nat):Int):=by
 unfold ixor
 show IntKind.u64.wrap ((BitVec.ofInt 64 (a:Int) ^^^ BitVec.ofInt 64 (b:Int)).toNat:Int)=_
 rw[wd,wd,BitVec.toNat_xor,BitVec.toNat_ofNat,BitVec.toNat_ofNat,Nat.mod_eq_of_lt ha,Nat.mod_eq_of_lt hb]
 have:a ^^^ b<2 ^ 64:=Nat.xor_lt_two_pow (by omega) (by omega)
 exact wu64 (by omega) (by omega)
theorem zkO {a b:Int} (ha:W64 a) (hb:W64 b):∃ m:Nat,ixor .u64 a b=m∧m<18446744073709551616:=by
 obtain⟨x,rfl⟩:∃ m:Nat,a=m:=⟨a.toNat,by omega⟩
 obtain⟨y,rfl⟩:∃ m:Nat,b=m:=⟨b.toNat,by omega⟩
 refine⟨x ^^^ y,ziq (by omega) (by omega),?_⟩
 have:x ^^^ y<2 ^ 64:=Nat.xor_lt_two_pow (by omega) (by omega)
 omega
end Go.Cr
namespace Go.Proofs.YtabdpmnhjlmnlaaGreatDoor
open Go Go.Pt Go.Cr Go.Lib
section
variable {S:Mem}
theorem zlV {x y:Nat} (hx:x<18446744073709551616) (hy:y<18446744073709551616) {Q:Int→Int→Mem→Prop} (hQ:Q ((x*y/18446744073709551616:Nat):Int) ((x*y%18446744073709551616:Nat):Int) S):zcs S x y Q:=by
 apply zgp
 unfold fD
 obtain⟨bd,bt,bw,hhi⟩:=mul64_hi x y hx hy
 have ba:=half_mul_le (a:=x/4294967296) (b:=y/4294967296) (by omega) (by omega)
 have sx:ishr .u64 (x:Int) 32=((x/4294967296:Nat):Int):=vZ (a:=x) (s:=32) (by decide)
 have sy:ishr .u64 (y:Int) 32=((y/4294967296:Nat):Int):=vZ (a:=y) (s:=32) (by decide)
 have mk:∀ a:Nat,a<18446744073709551616→iand .u64 (a:Int) 4294967295=((a%4294967296:Nat):Int):=fun a h=>by
  have:=yw (a:=a) (b:=4294967295) h (by decide)
  have e:a &&& 4294967295=a%4294967296:=Nat.and_two_pow_sub_one_eq_mod a 32
  rw[e] at this;exact this
 have sr:∀ a:Nat,ishr .u64 (a:Int) 32=((a/4294967296:Nat):Int):=fun a=>vZ (a:=a) (s:=32) (by decide)
 have wn:∀ a:Nat,a<18446744073709551616→IntKind.u64.wrap (a:Int)=(a:Int):=fun a h=>wu64 (by omega) (by omega)
 have wm:IntKind.u64.wrap ((x:Int)*y)=((x*y%18446744073709551616:Nat):Int):=by
  rw[←Int.natCast_mul,IntKind.wrap_u64];omega
 rw[sx,sy,mk x hx,mk y hy,wm]
 simp only[←Int.natCast_mul]
 generalize hp:x/4294967296*(y/4294967296)=p at *
 generalize hq:x/4294967296*(y%4294967296)=q at *
 generalize hr:x%4294967296*(y/4294967296)=r at *
 generalize ht:x%4294967296*(y%4294967296)=t at *
 rw[wn t (by omega),sr t,wn q (by omega),←Int.natCast_add,wn (q+t/4294967296) (by omega),sr,mk _ (by omega),wn r (by omega),←Int.natCast_add,wn ((q+t/4294967296)%4294967296+r) (by omega),sr,wn p (by omega),←Int.natCast_add,wn (p+(q+t/4294967296)/4294967296) (by omega),←Int.natCast_add,wn _ (by omega),hhi]
 exact hQ
theorem zlD {x:Nat} (hx:x<18446744073709551616) {Q:Int→Mem→Prop} (hQ:Q ((x*131072%18446744073709551616+x/140737488355328:Nat):Int) S):wV S x 17 Q:=by
 apply zaz
 unfold xW
 have e1:iand .u64 (IntKind.u64.wrap 17) 63=17:=by decide
 have e2:IntKind.u64.wrap (64-17)=47:=by decide
 rw[e1,e2]
 refine⟨by decide,by decide,?_⟩
 have e3:ishl .u64 (x:Int) 17=((x%140737488355328*2 ^ 17:Nat):Int):=by
  unfold ishl
  show IntKind.u64.wrap ((x:Int)*131072)=_
  rw[IntKind.wrap_u64];omega
 have e4:ishr .u64 (x:Int) 47=((x/140737488355328:Nat):Int):=vZ (a:=x) (s:=47) (by decide)
 rw[e3,e4,gX (by omega) (by omega),zal (by omega)]
 have:x%140737488355328*2 ^ 17=x*131072%18446744073709551616:=by omega
 rw[this];exact hQ
theorem zlW {sum w:Int} (hs:W64 sum) (hw:W64 w) {Q:Int→Mem→Prop} (hQ:Q (mixM sum w) S):zdf S sum w Q:=by
 apply ziF
 unfold zct
 obtain⟨m,e,hm⟩:=zkO hs hw
 unfold mixM at hQ
 rw[e,Int.toNat_natCast] at hQ
 unfold mixN at hQ
 rw[e]
 refine zlV (y:=C64) hm (by decide) ?_
 refine zlD (Nat.div_lt_of_lt_mul (Nat.mul_lt_mul_of_lt_of_le hm (by decide) (by decide))) ?_
 exact hQ
theorem zoV {sum w:Int} (hs:W64 sum) (hw:W64 w):W64 (mixM sum w):=by
 obtain⟨m,e,hm⟩:=zkO hs hw
 unfold mixM
 rw[e,Int.toNat_natCast]
 unfold mixN
 have hh:m*C64/18446744073709551616<18446744073709551616:=Nat.div_lt_of_lt_mul (Nat.mul_lt_mul_of_lt_of_le hm (by decide) (by decide))
 generalize m*C64/18446744073709551616=h at *
 have hl:m*C64%18446744073709551616<18446744073709551616:=Nat.mod_lt _ (by decide)
 generalize m*C64%18446744073709551616=lo at *
 obtain⟨z,ez,hz⟩:=zkO (a:=((h*131072%18446744073709551616+h/140737488355328:Nat):Int)) (b:=(lo:Int)) ⟨by omega,by omega⟩ ⟨by omega,by omega⟩
 rw[ez];exact⟨by omega,by omega⟩
end
end Go.Proofs.YtabdpmnhjlmnlaaGreatDoor
end
section
namespace Go.Cr
open Go Go.Pt
def Seat.words (s:Seat):List Int:=s.R++[s.pc,s.base,s.vec,s.epc,s.cause,s.addr,(if s.opn=true then 1 else 0),s.st,s.pend,s.mask]
def Seat.sum (s:Seat):Int:=s.words.foldl mixM 0
theorem Seat.words_w {s:Seat} (h:s.Ok):∀ x∈s.words,W64 x:=by
 intro x hx
 have h1:=h.st
 have h2:=h.pend
 have h3:=h.mask
 unfold Seat.words at hx
 rcases List.mem_append.1 hx with hx | hx
 ·exact h.r x hx
 ·simp only[List.mem_cons,List.not_mem_nil,or_false] at hx
  rcases hx with rfl | rfl | rfl | rfl | rfl | rfl | rfl | rfl | rfl | rfl
  ·exact h.pc
  ·exact h.base
  ·exact h.vec
  ·exact h.epc
  ·exact h.cause
  ·exact h.addr
  ·split <;> exact⟨by decide,by decide⟩
  ·exact⟨by omega,by omega⟩
  ·exact⟨by omega,by omega⟩
  ·exact⟨by omega,by omega⟩
theorem Seat.words_len {s:Seat} (h:s.R.length=16):s.words.length=26:=by simp[Seat.words,h]
end Go.Cr
namespace Go.Proofs.YtabdpmnhjlmnlaaGreatDoor
open Go Go.Pt Go.Cr
section
variable {S:Mem} {s:Seat}
end
end Go.Proofs.YtabdpmnhjlmnlaaGreatDoor
end
section
namespace Go.Proofs.YtabdpmnhjlmnlaaGreatDoor
open Go Go.Pt Go.Cr
section
variable {S:Mem} {s:Seat}
theorem zks (ho:s.Ok) {Q:Sl→Mem→Prop} (hQ:∀ t S',Keeps S S' []→Row S' 1 t (s.words.map (Value.int .u64))→Q t S'):zdJ S s.L Q:=by
 have hs:=ho.len
 have h1:=ho.st
 have h2:=ho.pend
 have h3:=ho.mask
 apply zhi
 unfold zaP
 refine⟨Seat.L_len hs,?_⟩
 intro b hb
 have hsb:(S.set b (bw 43 s.L)) b=some (bw 43 s.L):=zO
 have hk0:Keeps S (S.set b (bw 43 s.L)) []:=Keeps.refl.fresh hb
 have hpart:(S.set b (bw 43 s.L)).part b 0 (16*1)=some (s.R.map (Value.int .u64)):=by
  rw[yu hsb,qJ (by show 0+16*1≤s.L.length;rw[Seat.L_len hs];decide)]
  show some ((s.L.drop 0).take 16)=_
  rw[List.drop_zero]
  unfold Seat.L
  rw[List.take_left' (by simpa using hs)]
 refine⟨s.R.map (Value.int .u64),.inr ⟨b,0,rfl,hpart⟩,by rw[List.all_map];exact List.all_eq_true.2 fun _ _=>rfl,?_⟩
 refine gr Row.nil (by simpa using hs) (by decide) rfl (by decide) fun t S1 c kb e1 e2 e3 e4 e5=>?_
 have hc:(S.set b (bw 43 s.L)) c=none:=by
  rcases e3 with e3 | e3
  ·cases e3
  ·exact e3
 have hcb:c≠b:=fun h=>by rw[h,hsb] at hc;cases hc
 have hk1:Keeps S S1 []:=by rw[e4];exact hk0.trans (Keeps.refl.fresh hc)
 have hS1b:S1 b=some (bw 43 s.L):=by rw[e4,qm hcb.symm];exact hsb
 have hcell:∀ i,S1.cell b i=nthL s.L i:=fun i=>by rw[qA hS1b]
 rw[zY ((hcell 16).trans (Seat.g16 hs)),zY ((hcell 17).trans (Seat.g17 hs)),zY ((hcell 18).trans (Seat.g18 hs)),zY ((hcell 19).trans (Seat.g19 hs)),zY ((hcell 20).trans (Seat.g20 hs)),zY ((hcell 21).trans (Seat.g21 hs)),zaF ((hcell 22).trans (Seat.g22 hs)),zY ((hcell 23).trans (Seat.g23 hs)),zY ((hcell 24).trans (Seat.g24 hs)),zY ((hcell 25).trans (Seat.g25 hs))]
 refine zgO ?_
 refine⟨(hcell 25).trans (Seat.g25 hs),(hcell 24).trans (Seat.g24 hs),(hcell 23).trans (Seat.g23 hs),(hcell 21).trans (Seat.g21 hs),(hcell 20).trans (Seat.g20 hs),(hcell 19).trans (Seat.g19 hs),(hcell 18).trans (Seat.g18 hs),(hcell 17).trans (Seat.g17 hs),(hcell 16).trans (Seat.g16 hs),?_⟩
 rw[wu64 (x:=s.st) (by omega) (by omega),wu64 (x:=s.pend) (by omega) (by omega),wu64 (x:=s.mask) (by omega) (by omega)]
 have htn:t.n=16:=by rw[e1]
 refine gr e5 rfl (by decide) rfl (by omega) fun t2 S2 c2 kb2 f1 f2 f3 f4 f5=>?_
 have hc2:c2≠b∧Keeps S S2 []:=by
  rcases f3 with f3 | f3
  ·rw[e2] at f3;cases f3
   have hSc:S c=none:=by rw[qm hcb] at hc;exact hc
   exact⟨hcb,by rw[f4];exact hk1.fresh hSc⟩
  ·refine⟨fun h=>(by rw[h,hS1b] at f3;cases f3),?_⟩
   have hSc:S c2=none:=by
    cases hS:S c2 with
    | none=>rfl
    | some kk=>have:=hk1.get hS (by simp);rw[f3] at this;cases this
   rw[f4];exact hk1.fresh hSc
 have hS2b:S2 b=some (bw 43 s.L):=by rw[f4,qm hc2.1.symm];exact hS1b
 have hcell2:∀ i,S2.cell b i=nthL s.L i:=fun i=>by rw[qA hS2b]
 refine⟨(hcell2 25).trans (Seat.g25 hs),(hcell2 24).trans (Seat.g24 hs),(hcell2 23).trans (Seat.g23 hs),hQ t2 S2 hc2.2 ?_⟩
 have:s.words.map (Value.int .u64)=[]++s.R.map (Value.int .u64)++[.int .u64 s.pc,.int .u64 s.base,.int .u64 s.vec,.int .u64 s.epc,.int .u64 s.cause,.int .u64 s.addr,.int .u64 (if s.opn=true then 1 else 0),.int .u64 s.st,.int .u64 s.pend,.int .u64 s.mask]:=by
  unfold Seat.words;rw[List.map_append];rfl
 rw[this];exact f5
theorem zkP {t:Sl} {xs:List Int} (hw:∀ x∈xs,W64 x) (hrow:Row S 1 t (xs.map (Value.int .u64))) (hn:xs.length≤1000) {Q:Int→Mem→Prop} (hQ:Q (xs.foldl mixM 0) S) :
  (lp (fun Xx (z:Int×Int) (Sx_2:Mem)=>match z with
   | (n_1,i)=>if i<(t.n:Int) then sl t fun b_1 o n_2 _=>0≤i∧i<((n_2:Nat):Int)∧gI (Sx_2.cell b_1 (o+i.toNat*1)) .u64 fun t_1=>zdf Sx_2 n_1 t_1 fun t_2 Sx_4=>Xx (t_2,IntKind.i64.wrap (i+1)) Sx_4 else Q n_1 Sx_2) (0,0) S):=by
 have hlen:t.n=xs.length:=by have:=hrow.len;simp only[List.length_map,Nat.mul_one] at this;exact this.symm
 refine zX (fun (z:Int×Int) S'=>∃ i:Nat,z=((xs.take i).foldl mixM 0,(i:Int))∧i≤xs.length∧S'=S∧W64 ((xs.take i).foldl mixM 0)) (fun z=>xs.length-z.2.toNat) ?_ ⟨0,rfl,by omega,rfl,by rw[List.take_zero];exact⟨by decide,by decide⟩⟩
 rintro X z S' ⟨i,rfl,hi,rfl,hacc⟩ ih
 dsimp only at ih ⊢
 by_cases hlt:(i:Int)<(t.n:Int)
 ·rw[if_pos hlt]
  have hil:i<xs.length:=by omega
  rcases hrow.lie with ⟨_,h2⟩ | ⟨b,k,h1,h2,_,h4,h5⟩
  ·have:=hrow.cap;omega
  obtain⟨tp,tn,tc⟩:=t
  simp only at h1 hlen hlt h4 h5
  subst h1
  rw[zah]
  have hc:S'.cell b i=some (.int .u64 xs[i]):=by
   rw[qA h2,qb]
   have:(k.cs.take (tn*1))[i]? = some (.int .u64 xs[i]):=by rw[h5];simp[List.getElem?_eq_getElem hil]
   rw[List.getElem?_take,if_pos (by omega)] at this
   exact this
  refine⟨by omega,hlt,?_⟩
  rw[show 0+(i:Int).toNat*1=i by omega,zY hc]
  have hx:=hw _ (List.getElem_mem hil)
  refine zlW hacc hx ?_
  rw[w64 (by omega) (by omega)]
  have e:(xs.take (i+1)).foldl mixM 0=mixM ((xs.take i).foldl mixM 0) xs[i]:=by
   rw[List.take_succ_eq_append_getElem hil,List.foldl_append];rfl
  refine ih _ S' ⟨i+1,by rw[e];simp,by omega,rfl,by rw[e];exact zoV hacc hx⟩ (by dsimp only;omega)
 ·rw[if_neg hlt]
  have e:i=xs.length:=by omega
  subst e
  rw[List.take_length];exact hQ
theorem zjW (ho:s.Ok) {Q:Int→Mem→Prop} (hQ:∀ S',Keeps S S' []→Q s.sum S'):zft S s.L Q:=by
 have hs:=ho.len
 apply ziG
 unfold zcu
 refine⟨Seat.L_len hs,?_⟩
 refine zks ho fun t S' hk hrow=>?_
 exact zkP (Q:=fun n Sx=>Q n Sx) (Seat.words_w ho) hrow (by rw[Seat.words_len hs];decide) (hQ S' hk)
end
end Go.Proofs.YtabdpmnhjlmnlaaGreatDoor
end
section
namespace Go.Cr
open Go Go.Pt
def upd {α:Type} (f:Nat→α) (i:Nat) (v:α):Nat→α:=fun x=>if x=i then v else f x
theorem zq {α:Type} {f:Nat→α} {i:Nat} {v:α}:upd f i v i=v:=by simp[upd]
theorem zo {α:Type} {f:Nat→α} {i j:Nat} {v:α} (h:j≠i):upd f i v j=f j:=by simp[upd,h]
theorem zfl {α:Type} {f:Nat→α} {i:Nat} {v w:α}:upd (upd f i v) i w=upd f i w:=by
 funext x;simp only[upd];split <;> rfl
theorem xG {α:Type} {f:Nat→α} {i:Nat}:upd f i (f i)=f:=by
 funext x;simp only[upd];split
 ·rename_i h;rw[h]
 ·rfl
structure Ls where
 on:Bool
 fr:Nat
 pg:Nat
 to:Nat
 wr:Bool
 at_:Int
def Ls.setA (l:Ls) (a:Int):Ls:=⟨l.on,l.fr,l.pg,l.to,l.wr,a⟩
def ls0:Ls:=⟨false,0,0,0,false,0⟩
structure Evt where
 kind:Int
 seat:Int
 a:Int
 b:Int
structure Bv where
 on:Bool
 seats:List Seat
 quota:Int
 keys:List Int
 disk:Nat→List Int
 bells:Nat→Bool
def bv0:Bv:=⟨false,[],0,[],fun _=>[],fun _=>false⟩
structure Wd where
 free:Int
 vm:Nat→Bv
 time:Nat→Int
 own:Nat→Nat→Option (List Int)
 alarm:Nat→Nat→Option Int
 ls:Nat→Ls
 ev:Nat→List Evt
def W0 (free:Int):Wd:=⟨free,fun _=>bv0,fun _=>0,fun _ _=>none,fun _ _=>none,fun _=>ls0,fun _=>[]⟩
def Wd.there (W:Wd) (n:Int):Prop:=0≤n∧n<6∧(W.vm n.toNat).on=true
instance (W:Wd) (n:Int):Decidable (W.there n):=inferInstanceAs (Decidable (_∧_∧_))
def fit256 (l:List Int):List Int:=l.take 256++List.replicate (256-l.length) 0
theorem zeY (l:List Int):(fit256 l).length=256:=by simp[fit256];omega
def pageB (img:List Int) (i:Nat):List Int:=fit256 (img.drop (256*i))
def noughts:List Int:=List.replicate 256 0
theorem qI:noughts.length=256:=List.length_replicate
theorem zdR {x:Int} (h:x∈noughts):x=0:=List.eq_of_mem_replicate h
theorem xL {x:Int} (h:x∈noughts):0≤x∧x≤255:=by rw[zdR h];decide
theorem zja:List.replicate 256 (0:Int)=noughts:=rfl
def firstOff (f:Nat→Bool) (n:Nat):Option Nat:=(List.range n).find? fun i=>! f i
def count (f:Nat→Bool) (n:Nat):Nat:=((List.range n).filter f).length
def Wd.pages (W:Wd) (n:Nat):Nat:=count (fun p=>(W.own n p).isSome) 32
def mkV (seats quota:Int):Bv:={ on:=true,seats:=List.replicate seats.toNat seat0,quota:=quota,keys:=[],disk:=fun _=>noughts,bells:=fun _=>false }
def Wd.create (W:Wd) (seats quota pages:Int) (img:List Int):Int×Int×Wd:=
 if seats<1∨3<seats∨quota<1∨32<quota∨pages<1∨quota<pages then (0,1,W)
 else if 256*pages<img.length then (0,6,W)
 else match firstOff (fun n=>(W.vm n).on) 6 with
  | none=>(0,2,W)
  | some n=>if W.free<5+pages then (0,3,W)
   else (n,0,{ W with free:=W.free-(5+pages),vm:=upd W.vm n (mkV seats quota),time:=upd W.time n 0,ev:=upd W.ev n [],own:=upd W.own n fun p=>if (p:Int)<pages then some (pageB img p) else none })
def Wd.destroy (W:Wd) (n:Int):Int×Wd:=
 if ¬W.there n then (2,W)
 else (0,{ W with free:=W.free+(5+W.pages n.toNat),vm:=fun i=>if i=n.toNat then bv0 else { W.vm i with bells:=upd (W.vm i).bells n.toNat false },own:=upd W.own n.toNat fun _=>none,alarm:=upd W.alarm n.toNat fun _=>none,ls:=fun i=>if (W.ls i).on=true∧((W.ls i).fr=n.toNat∨(W.ls i).to=n.toNat) then ls0 else W.ls i })
def Bv.ring (v:Bv) (n:Nat) (on:Bool):Bv:={ v with bells:=upd v.bells n on }
def Wd.setV (W:Wd) (n:Nat) (v:Bv):Wd:={ W with vm:=upd W.vm n v }
def Wd.join (W:Wd) (a b:Int) (on:Bool):Int×Wd:=
 if ¬W.there a∨¬W.there b then (2,W)
 else if a=b then (1,W)
 else (0,(W.setV a.toNat ((W.vm a.toNat).ring b.toNat on)).setV b.toNat ((W.vm b.toNat).ring a.toNat on))
def Bv.setSeat (v:Bv) (k:Nat) (s:Seat):Bv:={ v with seats:=v.seats.set k s }
def Seat.raise (s:Seat) (i:Nat):Seat:=if s.st=2 then s else Seat.wake { s with pend:=ior .u32 s.pend (2 ^ i) }
def Bv.seat (v:Bv) (k:Nat):Seat:=v.seats.getD k seat0
def Wd.raise (W:Wd) (n k i:Nat):Int×Wd:=
 if ((W.vm n).seat k).st=2 then (10,W) else (0,W.setV n ((W.vm n).setSeat k (((W.vm n).seat k).raise i)))
def Bv.setKeys (v:Bv) (l:List Int):Bv:={ v with keys:=l }
def Wd.key (W:Wd) (n b:Int):Int×Wd:=
 if ¬W.there n then (2,W)
 else if 64≤(W.vm n.toNat).keys.length then (3,W)
 else (0,((W.setV n.toNat ((W.vm n.toNat).setKeys ((W.vm n.toNat).keys++[b]))).raise n.toNat 0 6).2)
def dueA (al:Nat→Option Int) (time:Int) (k:Nat):Bool:=match al k with
 | some a=>decide (a≤time)
 | none=>false
def Wd.tick (W:Wd):Wd:=
 { W with time:=fun n=>W.time n+1,vm:=fun n=>{ W.vm n with seats:=(W.vm n).seats.mapIdx fun k s=>if dueA (W.alarm n) (W.time n+1) k=true then s.raise 7 else s },alarm:=fun n k=>if dueA (W.alarm n) (W.time n+1) k=true then none else W.alarm n k }
def Wd.tell (W:Wd) (n:Nat) (e:Evt):Wd:={ W with ev:=upd W.ev n (W.ev n++[e]) }
def leaseAt (ls:Nat→Ls) (n:Nat) (page:Int):Option Nat:=(List.range 16).find? fun i=>(ls i).on && (decide ((ls i).to=n) && decide ((ls i).at_=page))
def Wd.where_ (W:Wd) (n p:Nat):Option (Nat×Nat×Bool):=
 if (W.own n p).isSome then some (n,p,true)
 else (leaseAt W.ls n p).map fun i=>((W.ls i).fr,(W.ls i).pg,(W.ls i).wr)
def Wd.gm (W:Wd) (n:Nat):GM:=
 ⟨fun p=>if 32≤p then none else (W.where_ n p).map fun q=>(32*q.1+q.2.1,q.2.2),fun f=>(W.own (f/32) (f%32)).getD []⟩
def Wd.setDat (W:Wd) (d:Nat→List Int):Wd:={ W with own:=fun n p=>(W.own n p).map fun _=>d (32*n+p) }
def Wd.setO (W:Wd) (n p:Nat) (o:Option (List Int)):Wd:={ W with own:=upd W.own n (upd (W.own n) p o) }
def small (w:Int):Int:=if 65535<w then -1 else w
def Wd.mine (W:Wd) (n:Nat) (p:Int):Int:=
 if p<0∨31<p∨W.where_ n p.toNat=none then 11 else if (W.own n p.toNat).isSome=true then 0 else 7
def Wd.setL (W:Wd) (i:Nat) (l:Ls):Wd:={ W with ls:=upd W.ls i l }
def Wd.lease (W:Wd) (n:Nat) (c:Int) (i page:Int):Int×Wd:=
 if i<0∨15<i∨(W.ls i.toNat).on=false then (2,W)
 else if c<7∧(W.ls i.toNat).to≠n∨c=7∧(W.ls i.toNat).fr≠n then (7,W)
 else if c=6 then (if (W.ls i.toNat).at_<0 then (10,W) else (0,W.setL i.toNat ((W.ls i.toNat).setA (-1))))
 else if 0≤(W.ls i.toNat).at_ then (8,W)
 else if c=7 then (0,W.setL i.toNat ls0)
 else if page<0∨31<page then (1,W)
 else if W.where_ n page.toNat≠none then (8,W)
 else (0,W.setL i.toNat ((W.ls i.toNat).setA page))
def lentL (ls:Nat→Ls) (n:Nat) (p:Int):Bool:=(List.range 16).any fun i=>(ls i).on && (decide ((ls i).fr=n) && decide (((ls i).pg:Int)=p))
def Wd.ring (W:Wd) (n:Nat) (a b:Int):Int×Wd:=
 if ¬W.there a∨(W.vm n).bells a.toNat=false then (2,W)
 else if b<0∨7<b then (1,W)
 else W.raise a.toNat 0 b.toNat
def Wd.offer (W:Wd) (n:Nat) (p to:Int) (w:Bool):Int×Int×Wd:=
 if W.mine n p≠0 then (0,W.mine n p,W)
 else if ¬W.there to then (0,2,W)
 else if (n:Int)=to then (0,1,W)
 else match firstOff (fun i=>(W.ls i).on) 16 with
  | none=>(0,3,W)
  | some i=>(i,0,W.setL i ⟨true,n,p.toNat,to.toNat,w,-1⟩)
def Wd.give (W:Wd) (n:Nat) (p:Int):Int×Wd:=
 if W.mine n p≠0 then (W.mine n p,W)
 else if lentL W.ls n p=true then (8,W)
 else (0,{ W.setO n p.toNat none with free:=W.free+1 })
def Wd.get (W:Wd) (n:Nat) (p:Int):Int×Wd:=
 if p<0∨31<p then (1,W)
 else if W.where_ n p.toNat≠none then (8,W)
 else if (W.vm n).quota≤W.pages n then (9,W)
 else if W.free=0 then (3,W)
 else (0,{ W.setO n p.toNat (some noughts) with free:=W.free-1 })
def Wd.load (W:Wd) (n:Nat) (sec p:Int):Int×Wd:=
 if sec<0∨3<sec then (1,W)
 else if p<0∨31<p then (11,W)
 else match W.where_ n p.toNat with
  | some (m,q,true)=>(0,W.setO m q (some ((W.vm n).disk sec.toNat)))
  | _=>(11,W)
def Bv.setDisk (v:Bv) (k:Nat) (l:List Int):Bv:={ v with disk:=upd v.disk k l }
def Wd.save (W:Wd) (n:Nat) (sec p:Int):Int×Wd:=
 if sec<0∨3<sec then (1,W)
 else if p<0∨31<p then (11,W)
 else match W.where_ n p.toNat with
  | some (m,q,_)=>(0,W.setV n ((W.vm n).setDisk sec.toNat ((W.own m q).getD [])))
  | none=>(11,W)
def Wd.nextKey (W:Wd) (n:Nat):Int×Int×Wd:=match (W.vm n).keys with
 | []=>(0,2,W)
 | x :: l=>(x,0,W.setV n ((W.vm n).setKeys l))
def Wd.setAlarm (W:Wd) (n k:Nat) (w:Int):Wd:={ W with alarm:=upd W.alarm n (upd (W.alarm n) k (some w)) }
def Seat.die (s:Seat):Seat:={ s with st:=2 }
def Wd.call (W:Wd) (n k:Nat) (c w1 w2 w3:Int):Int×Int×Wd:=
 if c=0 then (0,0,W.tell n ⟨3,k,w1%256,0⟩)
 else if c=1 then W.nextKey n
 else if c=2 then ((0:Int),W.ring n (small w1) (small w2))
 else if c=3 then (0,0,W.setAlarm n k w1)
 else if c=4 then W.offer n (small w1) (small w2) (decide (w3≠0))
 else if 5≤c∧c≤7 then ((0:Int),W.lease n c (small w1) (small w2))
 else if c=8 then ((0:Int),W.give n (small w1))
 else if c=9 then ((0:Int),W.get n (small w1))
 else if c=10 then ((0:Int),W.load n (small w1) (small w2))
 else if c=11 then ((0:Int),W.save n (small w1) (small w2))
 else if c=12 then (n,0,W)
 else if c=13 then (0,0,W.setV n ((W.vm n).setSeat k ((W.vm n).seat k).die))
 else (0,1,W)
def told (x n:Int) (k:Int) (pc:Int) (s:Seat):Evt:=if x=1 then ⟨4,k,n,pc⟩ else if x=4 then ⟨5,k,n,pc⟩ else ⟨1,k,pc,s.sum⟩
def Seat.answer (s:Seat) (e v:Int):Seat:=(s.setr 0 e).setr 1 v
def Wd.putSeat (W:Wd) (n k:Nat) (s:Seat):Wd:=W.setV n ((W.vm n).setSeat k s)
def Wd.hyper (W:Wd) (n k:Nat) (c:Int) (s:Seat):Wd:=
 let r:=W.call n k c (s.r 1) (s.r 2) (s.r 3)
 (r.2.2.putSeat n k (((r.2.2.vm n).seat k).answer r.2.1 r.1)).tell n ⟨2,k,ior .u64 (x64 (c*256)) r.2.1,r.1⟩
def Wd.run (W:Wd) (n k:Int):Int×Wd:=
 if ¬W.there n∨k<0∨(W.vm n.toNat).seats.length≤k then (2,W)
 else
  let s:=(W.vm n.toNat).seat k.toNat
  let o:=stepM s (W.gm n.toNat) (W.time n.toNat) k
  if o.k=5 then (10,W)
  else
   let W2:=((W.setDat o.g.dat).putSeat n.toNat k.toNat o.s).tell n.toNat (told o.k o.n k s.pc o.s)
   (0,if o.k=2 then W2.hyper n.toNat k.toNat o.n o.s else W2)
end Go.Cr
end
section
namespace Go.Cr
open Go Go.Pt
def pk (form:Int) (f:Nat) (wr:Bool):Int:=
 if form=1 then 1+256*f+(if wr=true then 2 else 0)
 else 9223372036854775808+(65535-f)+(if wr=true then 4611686018427387904 else 0)
theorem znL {form:Int} {f:Nat} (hf:f≤65535) {wr:Bool}:W64 (pk form f wr)∧pk form f wr≠0:=by
 unfold pk
 split <;> split <;> exact⟨⟨by omega,by omega⟩,by omega⟩
end Go.Cr
end
section
namespace Go.Cr
open Go Go.Pt
def spB (d:List Int) (off:Nat) (l:List Int):List Int:=d.take off++l++d.drop (off+l.length)
theorem zjZ {d:List Int} {off:Nat} {l:List Int} (h:off+l.length≤d.length):(spB d off l).length=d.length:=by
 unfold spB;simp only[List.length_append,List.length_take,List.length_drop];omega
theorem zka {d:List Int} {off:Nat} {l:List Int} (h:Byt d) (hl:Byt l):Byt (spB d off l):=fun x hx=>by
 unfold spB at hx
 rcases List.mem_append.1 hx with hx | hx
 ·rcases List.mem_append.1 hx with hx | hx
  ·exact h x (List.mem_of_mem_take hx)
  ·exact hl x hx
 ·exact h x (List.mem_of_mem_drop hx)
def rdB (d:List Int) (off n:Nat):List Int:=(d.drop off).take n
theorem zlF {d:List Int} {off:Nat} {l:List Int} (h:off+l.length≤d.length):rdB (spB d off l) off l.length=l:=by
 unfold rdB spB
 rw[List.append_assoc,List.drop_left' (by rw[List.length_take];omega),List.take_left' rfl]
theorem zmV {d:List Int} {off j:Nat} {l:List Int} (h:off+l.length≤d.length):(spB d off l)[j]? = if off≤j∧j<off+l.length then l[j-off]? else d[j]?:=by
 unfold spB
 rw[List.append_assoc,List.getElem?_append,List.length_take,Nat.min_eq_left (by omega)]
 split
 ·rw[if_neg (by omega),List.getElem?_take,if_pos (by omega)]
 ·rw[List.getElem?_append]
  split
  ·rw[if_pos (by omega)]
  ·rw[if_neg (by omega),List.getElem?_drop];congr 1;omega
theorem zkl {d:List Int} {off n j:Nat}:(rdB d off n)[j]? = if j<n then d[off+j]? else none:=by
 unfold rdB
 rw[List.getElem?_take,List.getElem?_drop]
theorem zkk {d:List Int} {off o n:Nat} {l:List Int} (h:off+l.length≤d.length) (h2:o+n≤off∨off+l.length≤o):rdB (spB d off l) o n=rdB d o n:=by
 apply List.ext_getElem?
 intro j
 rw[zkl,zkl]
 by_cases hj:j<n
 ·rw[if_pos hj,if_pos hj,zmV h,if_neg (by omega)]
 ·rw[if_neg hj,if_neg hj]
def ld (d:Nat→List Int) (f i:Nat):Int:=num (rdB (d f) (8*i) 8)
def wr (d:Nat→List Int) (f off:Nat) (l:List Int):Nat→List Int:=upd d f (spB (d f) off l)
def unp (form w:Int):Option (Nat×Bool):=
 if w=0 then none
 else
  let f:=if form=1 then (w/256%65536).toNat else (65535-w%65536).toNat
  let b:=if form=1 then decide (w/2%2=1) else decide (w/4611686018427387904%2=1)
  if pk form f b=w then some (f,b) else none
theorem zba {form:Int}:unp form 0=none:=by simp[unp]
theorem zjN {form:Int} {f:Nat} {b:Bool} (h:f≤65535):unp form (pk form f b)=some (f,b):=by
 have h0:=(znL (form:=form) h (wr:=b)).2
 unfold unp
 rw[if_neg h0]
 by_cases h1:form=1
 ·rw[if_pos h1,if_pos h1]
  have e1:(pk form f b/256%65536).toNat=f:=by unfold pk;rw[if_pos h1];split <;> omega
  have e2:decide (pk form f b/2%2=1)=b:=by
   unfold pk;rw[if_pos h1];cases b
   ·simp;omega
   ·simp;omega
  simp only[e1,e2];rw[if_pos trivial]
 ·rw[if_neg h1,if_neg h1]
  have e1:(65535-pk form f b%65536).toNat=f:=by unfold pk;rw[if_neg h1];split <;> omega
  have e2:decide (pk form f b/4611686018427387904%2=1)=b:=by
   unfold pk;rw[if_neg h1];cases b
   ·simp;omega
   ·simp;omega
  simp only[e1,e2];rw[if_pos trivial]
theorem znV {form w:Int} {q:Nat×Bool} (h:unp form w=some q):q.1≤65535∧pk form q.1 q.2=w:=by
 unfold unp at h
 by_cases h0:w=0
 ·rw[if_pos h0] at h;cases h
 ·rw[if_neg h0] at h
  dsimp only at h
  obtain⟨h1,h2⟩:=Option.ite_none_right_eq_some.1 h
  simp only[Option.some.injEq] at h2
  subst h2
  exact⟨by dsimp only;split <;> omega,h1⟩
structure Ow where
 kind:Int
 vm:Int
 page:Int
 sh:Int
def ow0:Ow:=⟨0,0,0,0⟩
structure Cw where
 vm:Int
 page:Int
 f:Nat
 w:Bool
structure Kn where
 form:Int
 now:Int
 vm:Nat→Bv
 late:Nat→Int
 tf:Nat→Int
 fr:Nat→List Nat
 ls:Nat→Ls
 turns:Nat→Int
structure Cst extends Kn where
 N:Nat
 dat:Nat→List Int
 used:Nat→Bool
 left:Int
 cache:List Cw
 own:Nat→Ow
 alm:Nat→Nat→Option Int
 region:List Nat
 ev:Nat→List Evt
def leafC (d:Nat→List Int) (N:Nat) (form:Int) (fr:List Nat) (page:Int):Option (Nat×Nat):=
 if page<0∨31<page then none
 else match fr with
  | []=>none
  | r :: _=>if r<N then (unp form (ld d r (page/8).toNat)).map fun x=>(x.1,(page%8).toNat) else none
def walkC (d:Nat→List Int) (N:Nat) (form:Int) (fr:List Nat) (page:Int):Option (Nat×Bool):=match leafC d N form fr page with
 | none=>none
 | some (f,i)=>if f<N then unp form (ld d f i) else none
def setC (d:Nat→List Int) (N:Nat) (form:Int) (fr:List Nat) (page w:Int):Nat→List Int:=match leafC d N form fr page with
 | none=>d
 | some (f,i)=>if f<N then wr d f (8*i) (bytes8 w) else d
def Cst.walk (C:Cst) (n:Nat) (page:Int):Option (Nat×Bool):=walkC C.dat C.N (C.tf n) (C.fr n) page
def dropC (l:List Cw) (vm page:Int):List Cw:=l.filter fun r=>! (decide (r.vm=vm) && decide (r.page=page))
def putC (l:List Cw) (r:Cw):List Cw:=(if (dropC l r.vm r.page).length=8 then (dropC l r.vm r.page).tail else dropC l r.vm r.page)++[r]
def lookC (l:List Cw) (vm page:Int):Option (Nat×Bool):=(l.find? fun r=>decide (r.vm=vm) && decide (r.page=page)).map fun r=>(r.f,r.w)
def Cst.find (C:Cst) (n:Nat) (page:Int):Option (Nat×Bool)×List Cw:=match lookC C.cache n page with
 | some x=>(some x,C.cache)
 | none=>match C.walk n page with
  | some x=>(some x,putC C.cache ⟨n,page,x.1,x.2⟩)
  | none=>(none,C.cache)
def takeN (N:Nat):Nat→(Nat→Bool)→Option (List Nat×(Nat→Bool))
 | 0,u=>some ([],u)
 | k+1,u=>match firstOff u N with
  | none=>none
  | some f=>match takeN N k (upd u f true) with
   | none=>none
   | some (l,u')=>some (f :: l,u')
def donC (own:Nat→Ow) (f:Nat) (n page:Int):Nat→Ow:=if (own f).kind=0 then upd own f ⟨3,n,page,0⟩ else own
def keepC (own:Nat→Ow) (f:Nat) (n:Int):Nat→Ow:=if (own f).kind=0 then upd own f (if 0≤n then ⟨2,n,0,0⟩ else ⟨1,0,0,0⟩) else own
end Go.Cr
end
section
namespace Go.Proofs.YtabdpmnhjlmnlaaGreatDoor
open Go Go.Pt
attribute [local irreducible] Code.wp Back bodyPost wpList FR WL WC WQ WA AW Tr Yc HC AllC
set_option maxRecDepth 20000
set_option maxHeartbeats 4000000
set_option linter.unusedVariables false
def zaM (S:Mem) (frames:Int) (Q:Pt→Mem→Prop):Prop:=
 0≤IntKind.i64.wrap (256*(if 512<(if frames<0 then 0 else frames) then 512 else (if frames<0 then 0 else frames)))∧IntKind.i64.wrap (256*(if 512<(if frames<0 then 0 else frames) then 512 else (if frames<0 then 0 else frames)))≤IntKind.i64.wrap (256*(if 512<(if frames<0 then 0 else frames) then 512 else (if frames<0 then 0 else frames)))∧(1:Int)*(IntKind.i64.wrap (256*(if 512<(if frames<0 then 0 else frames) then 512 else (if frames<0 then 0 else frames))))≤281474976710656∧IntKind.i64.wrap (256*(if 512<(if frames<0 then 0 else frames) then 512 else (if frames<0 then 0 else frames)))≤9223372036854775807 ∧
 al S 5 (zrep (Int.toNat (IntKind.i64.wrap (256*(if 512<(if frames<0 then 0 else frames) then 512 else (if frames<0 then 0 else frames))))) [.int .u8 0]) fun b Sx=>
 al Sx 180 ([.slice (some ⟨b,0,none⟩) (Int.toNat (IntKind.i64.wrap (256*(if 512<(if frames<0 then 0 else frames) then 512 else (if frames<0 then 0 else frames))))) (Int.toNat (IntKind.i64.wrap (256*(if 512<(if frames<0 then 0 else frames) then 512 else (if frames<0 then 0 else frames)))))]) fun b_1 Sx_1=>
 Q (some (b_1,0)) Sx_1
theorem zhf {S:Mem} {frames:Int} {Q:Pt→Mem→Prop} (H:zaM S frames Q):gN S frames Q:=by
 unfold zaM at H
 exact Tr.intro Tryz.func50 E Tryz.ntmps50 E fun w0=>csr<|gv E E<|nxr<|mv E E<|s_p E (zjF E E)<|s_p E (zjE E E)<|s_p E (ji E E)<|by obtain⟨c,c_1,c_2,c_3,H1⟩:=H;exact zmX E E E c c_1 c_2 c_3 fun b=>ku 0 E fun hb=>have H2:=H1 b hb;s_p E (zF E E)<|by exact qM E E E fun b_1=>ku 0 E fun hb_1=>have H3:=H2 b_1 hb_1;gv E E<|nx<|zi<|zh Tryz.results50 (zd E ze) ⟨_,E,H3⟩
def xv (S:Mem) (s:Pt) (Q:Int→Mem→Prop):Prop:=
 if s=none then
 Q 0 S
 else
 nn s fun b o=>
 gL (S.cell b o) fun t=>
 Q (IntKind.i64.wrap (Int.tdiv (t.n:Int) 256)) S
theorem fU {S:Mem} {s:Pt} {Q:Int→Mem→Prop} (H:xv S s Q):ya S s Q:=by
 unfold xv at H
 exact Tr.intro Tryz.func35 E Tryz.ntmps35 E fun w0=>csr<|gv E E<|nx<|zC<|csr<|mv E E<|iteK H (fun c H1=>s_p E (yT (qE (p:=s) E E) c)<|nx<|c_t E E<|csr<|gv E E<|nx<|zi<|zb<|zh Tryz.results35 (zd E ze) ⟨_,E,H1⟩) fun c H1=>s_p E (yF (qE (p:=s) E E) c)<|nx<|cfs E E<|zt<|csr<|mv E E<|by obtain⟨b,o,rfl,H2⟩:=H1;exact s_p E (zJ E)<|s_p E (zv E E)<|gx H2 fun t ht H3=>s_v E (zz E) (zH ht)<|s_p E (yk E)<|s_p E (ziD E E (by decide))<|gv E E<|nx<|zi<|zh Tryz.results35 (zd E ze) ⟨_,E,H3⟩
def vy (S:Mem) (s:Pt) (frame:Int) (off:Int) (n:Int) (Q:Int→Int→Mem→Prop):Prop:=
 jn (fun (Sx:Mem)=>
 Q (IntKind.i64.wrap ((IntKind.i64.wrap (256*frame))+off)) 0 Sx) fun Jx=>
 if frame<0 then
 Q 0 1 S
 else
 ya S s fun t Sx_1=>
 if t≤frame then
 Q 0 1 Sx_1
 else
 if off<0 then
 Q 0 1 Sx_1
 else
 if n<0 then
 Q 0 1 Sx_1
 else
 if 256<off then
 Q 0 1 Sx_1
 else
 if IntKind.i64.wrap (256-off)<n then
 Q 0 1 Sx_1
 else
 Jx Sx_1
theorem zcL {S:Mem} {s:Pt} {frame:Int} {off:Int} {n:Int} {Q:Int→Int→Mem→Prop} (H:vy S s frame off n Q):vh S s frame off n Q:=by
 unfold vy at H
 exact Tr.intro Tryz.func143 E Tryz.ntmps143 E fun w0=>csr<|gv E E<|gv E E<|nx<|zn H (fun (J:Mem→Prop) (z:Unit) S=>J S) (fun z=>⟨40,[(1,.int .i64 frame),(2,.int .i64 off)]⟩) (fun z=>[]) (fun _ Sx H1=>csr<|mv E E<|s_p E (ji E E)<|mv E E<|s_p E (qh E E)<|gv E E<|gv E E<|nx<|zi<|zh Tryz.results143 (zd E (zd E ze)) ⟨_,_,E,H1⟩) (fun Jx hJx H2=>csr<|mv E E<|iteK H2 (fun c H3=>s_p E (yT (zD E E) c)<|mv E E<|sk4 E E E E<|pk E E E<|mv E E<|sk2 E E<|pk E E E<|mv E E<|sk2 E E<|pk E E E<|mv E E<|sk2 E E<|pk E E E<|mv E E<|sk4 E E E E<|pk E E E<|nx<|c_t E E<|csr<|gv E E<|gv E E<|nx<|zi<|zb<|zh Tryz.results143 (zd E (zd E ze)) ⟨_,_,E,H3⟩) fun c H3=>s_p E (yF (zD E E) c)<|mv E E<|mv E E<|mv E E<|qC E E H3 fun t Sx_1 H4=>iteK H4 (fun c_1 H5=>s_p E (yT (qj E E) c_1)<|pk E E E<|mv E E<|sk2 E E<|pk E E E<|mv E E<|sk2 E E<|pk E E E<|mv E E<|sk2 E E<|pk E E E<|mv E E<|sk4 E E E E<|pk E E E<|nx<|c_t E E<|csr<|gv E E<|gv E E<|nx<|zi<|zb<|zh Tryz.results143 (zd E (zd E ze)) ⟨_,_,E,H5⟩) fun c_1 H5=>s_p E (yF (qj E E) c_1)<|pk E E E<|mv E E<|mv E E<|iteK H5 (fun c_2 H6=>s_p E (yT (zD E E) c_2)<|pk E E E<|mv E E<|sk2 E E<|pk E E E<|mv E E<|sk2 E E<|pk E E E<|mv E E<|sk4 E E E E<|pk E E E<|nx<|c_t E E<|csr<|gv E E<|gv E E<|nx<|zi<|zb<|zh Tryz.results143 (zd E (zd E ze)) ⟨_,_,E,H6⟩) fun c_2 H6=>s_p E (yF (zD E E) c_2)<|pk E E E<|mv E E<|mv E E<|iteK H6 (fun c_3 H7=>s_p E (yT (zD E E) c_3)<|pk E E E<|mv E E<|sk2 E E<|pk E E E<|mv E E<|sk4 E E E E<|pk E E E<|nx<|c_t E E<|csr<|gv E E<|gv E E<|nx<|zi<|zb<|zh Tryz.results143 (zd E (zd E ze)) ⟨_,_,E,H7⟩) fun c_3 H7=>s_p E (yF (zD E E) c_3)<|pk E E E<|mv E E<|mv E E<|iteK H7 (fun c_4 H8=>s_p E (yT (xu E E) c_4)<|pk E E E<|mv E E<|sk4 E E E E<|pk E E E<|nx<|c_t E E<|csr<|gv E E<|gv E E<|nx<|zi<|zb<|by exact zh Tryz.results143 (zd E (zd E ze)) ⟨_,_,E,H8⟩) fun c_4 H8=>s_p E (yF (xu E E) c_4)<|pk E E E<|mv E E<|mv E E<|mv E E<|s_p E (gu E E)<|iteK H8 (fun c_5 H9=>s_p E (yT (xu E E) c_5)<|pk E E E<|nx<|c_t E E<|csr<|gv E E<|gv E E<|nx<|by exact zi<|zb<|zh Tryz.results143 (zd E (zd E ze)) ⟨_,_,E,H9⟩) fun c_5 H9=>s_p E (yF (xu E E) c_5)<|pk E E E<|nx<|cfs E E<|hJx () _ _ _ _ [] H9 E ⟨E,E,True.intro⟩ E)
def wv (S:Mem) (s:Pt) (frame:Int) (off:Int) (n:Int) (Q:Sl→Int→Mem→Prop):Prop:=
 vh S s frame off n fun t t_1 Sx=>
 jn (fun (Sx_1:Mem)=>
 nn s fun b o=>
 gL (Sx_1.cell b o) fun t_2=>
 (0:Int)≤t∧(t:Int)≤IntKind.i64.wrap (t+n)∧IntKind.i64.wrap (t+n)≤(t_2.c:Int) ∧
 lt (slc 1 t_2 t (IntKind.i64.wrap (t+n))) fun t_3=>
 sp Sx_1 t_3 1 fun vs=>
 ap Sx_1 5 1 1 [.int .u8 0] (⟨none,0,0⟩) t_3.n vs fun t_4 Sx_2=>
 Q t_4 0 Sx_2) fun Jx=>
 if t_1≠0 then
 Q (⟨none,0,0⟩) t_1 Sx
 else
 Jx Sx
theorem zbd {S:Mem} {s:Pt} {frame:Int} {off:Int} {n:Int} {Q:Sl→Int→Mem→Prop} (H:wv S s frame off n Q):qY S s frame off n Q:=by
 unfold wv at H
 exact Tr.intro Tryz.func163 E Tryz.ntmps163 E fun w0=>csr<|gv E E<|gv E E<|nxr<|mv E E<|mv E E<|mv E E<|mv E E<|gO E E H fun t t_1 Sx H1=>mv E E<|s_p E (zg E E)<|s_p E (zg E E)<|gv E E<|gv E E<|nx<|zn H1 (fun (J:Mem→Prop) (z:Unit) S=>J S) (fun z=>⟨33,[(0,eP s),(3,.int .i64 n),(10,.int .i64 t)]⟩) (fun z=>[]) (fun _ Sx_1 H2=>csr<|mv E E<|by obtain⟨b,o,rfl,H3⟩:=H2;exact s_p E (zJ E)<|s_p E (zv E E)<|gx H3 fun t_2 ht_2 H4=>s_v E (zz E) (zH ht_2)<|mv E E<|mv E E<|mv E E<|s_p E (qh E E)<|an3 H4 fun c c_1 c_2 H5=>by obtain⟨t_3,et_3,H6⟩:=zjD H5;exact s_p E (eqv (zcK (a:=t) (b:=IntKind.i64.wrap (t+n)) E E E c c_1 c_2) (congrArg eL et_3))<|by obtain⟨vs,h,c_3,H7⟩:=H6;exact vY (sx:=⟨none,0,0⟩) (vs:=vs) E E E ((zaH h).1) ((zaH (P:=Tryz.prog) (w0:=w0) (S0:=S) (V:=[]) h).2) c_3 (by decide) H7 fun t_4 Sx_2 H8=>gv E E<|gv E E<|nx<|zi<|zh Tryz.results163 (zd E (zd E ze)) ⟨_,_,E,H8⟩) (fun Jx hJx H9=>csr<|mv E E<|iteK H9 (fun c_4 H10=>s_p E (yT (zQ E E) c_4)<|nx<|c_t E E<|csr<|mv E E<|gv E E<|gv E E<|nx<|zi<|zb<|zh Tryz.results163 (zd E (zd E ze)) ⟨_,_,E,H10⟩) fun c_4 H10=>s_p E (yF (zQ E E) c_4)<|nx<|cfs E E<|hJx () _ _ _ _ [] H10 E ⟨E,E,E,True.intro⟩ E)
def xQ (S:Mem) (s:Pt) (frame:Int) (off:Int) (p:Sl) (Q:Int→Mem→Prop):Prop:=
 vh S s frame off (p.n:Int) fun t t_1 Sx=>
 jn (fun (Sx_1:Mem)=>
 nn s fun b o=>
 gL (Sx_1.cell b o) fun t_2=>
 (0:Int)≤t∧(t:Int)≤(t_2.n:Int)∧(t_2.n:Int)≤(t_2.c:Int) ∧
 lt (slc 1 t_2 t (t_2.n:Int)) fun t_3=>
 cpy Sx_1 1 t_3 p fun t_4 Sx_2=>
 Q 0 Sx_2) fun Jx=>
 if t_1≠0 then
 Q t_1 Sx
 else
 Jx Sx
theorem zar {S:Mem} {s:Pt} {frame:Int} {off:Int} {p:Sl} {Q:Int→Mem→Prop} (H:xQ S s frame off p Q):qp S s frame off p Q:=by
 unfold xQ at H
 exact Tr.intro Tryz.func76 E Tryz.ntmps76 E fun w0=>csr<|gv E E<|nxr<|mv E E<|mv E E<|mv E E<|mv E E<|s_p E (yk E)<|gO E E H fun t t_1 Sx H1=>mv E E<|s_p E (zg E E)<|s_p E (zg E E)<|gv E E<|gv E E<|nx<|zn H1 (fun (J:Mem→Prop) (z:Unit) S=>J S) (fun z=>⟨31,[(0,eP s),(3,eL p),(9,.int .i64 t)]⟩) (fun z=>[]) (fun _ Sx_1 H2=>csr<|mv E E<|by obtain⟨b,o,rfl,H3⟩:=H2;exact s_p E (zJ E)<|s_p E (zv E E)<|gx H3 fun t_2 ht_2 H4=>s_v E (zz E) (zH ht_2)<|mv E E<|an3 H4 fun c c_1 c_2 H5=>by obtain⟨t_3,et_3,H6⟩:=zjD H5;exact s_p E (eqv (zcK (a:=t) (b:=(t_2.n:Int)) E E E c c_1 c_2) (congrArg eL et_3))<|mv E E<|zoQ (sd:=t_3) (ss:=p) E E E H6 fun t_4 Sx_2 H7=>nxr<|gv E E<|nx<|zi<|zh Tryz.results76 (zd E ze) ⟨_,E,H7⟩) (fun Jx hJx H8=>csr<|mv E E<|iteK H8 (fun c_3 H9=>s_p E (yT (zQ E E) c_3)<|nx<|c_t E E<|csr<|mv E E<|gv E E<|nx<|zi<|zb<|zh Tryz.results76 (zd E ze) ⟨_,E,H9⟩) fun c_3 H9=>s_p E (yF (zQ E E) c_3)<|nx<|cfs E E<|hJx () _ _ _ _ [] H9 E ⟨E,E,E,True.intro⟩ E)
def yV (S:Mem) (s:Pt) (frame:Int) (i:Int) (Q:Int→Int→Mem→Prop):Prop:=
 jn (fun (Sx:Mem)=>
 qY Sx s frame (IntKind.i64.wrap (8*i)) 8 fun t t_1 Sx_1=>
 zdm Sx_1 t fun t_2 Sx_2=>
 Q t_2 t_1 Sx_2) fun Jx=>
 if i<0 then
 Q 0 1 S
 else
 if 32≤i then
 Q 0 1 S
 else
 Jx S
theorem ja {S:Mem} {s:Pt} {frame:Int} {i:Int} {Q:Int→Int→Mem→Prop} (H:yV S s frame i Q):yG S s frame i Q:=by
 unfold yV at H
 exact Tr.intro Tryz.func108 E Tryz.ntmps108 E fun w0=>csr<|gv E E<|gv E E<|nx<|zn H (fun (J:Mem→Prop) (z:Unit) S=>J S) (fun z=>⟨27,[(0,eP s),(1,.int .i64 frame),(2,.int .i64 i)]⟩) (fun z=>[]) (fun _ Sx H1=>csr<|mv E E<|mv E E<|mv E E<|s_p E (ji E E)<|gO E E H1 fun t t_1 Sx_1 H2=>mv E E<|s_p E (zg E E)<|s_p E (zg E E)<|gv E E<|gv E E<|nxr<|mv E E<|qC E E H2 fun t_2 Sx_2 H3=>mv E E<|gv E E<|gv E E<|nx<|zi<|zh Tryz.results108 (zd E (zd E ze)) ⟨_,_,E,H3⟩) (fun Jx hJx H4=>csr<|mv E E<|iteK H4 (fun c H5=>s_p E (yT (zD E E) c)<|mv E E<|sk2 E E<|pk E E E<|nx<|c_t E E<|csr<|gv E E<|gv E E<|nx<|zi<|zb<|zh Tryz.results108 (zd E (zd E ze)) ⟨_,_,E,H5⟩) fun c H5=>s_p E (yF (zD E E) c)<|mv E E<|mv E E<|iteK H5 (fun c_1 H6=>s_p E (yT (qj E E) c_1)<|pk E E E<|nx<|c_t E E<|csr<|gv E E<|gv E E<|nx<|zi<|zb<|zh Tryz.results108 (zd E (zd E ze)) ⟨_,_,E,H6⟩) fun c_1 H6=>s_p E (yF (qj E E) c_1)<|pk E E E<|nx<|cfs E E<|hJx () _ _ _ _ [] H6 E ⟨E,E,E,True.intro⟩ E)
def yU (S:Mem) (s:Pt) (frame:Int) (i:Int) (w:Int) (Q:Int→Mem→Prop):Prop:=
 jn (fun (Sx:Mem)=>
 fH Sx w fun t Sx_1=>
 qp Sx_1 s frame (IntKind.i64.wrap (8*i)) t fun t_1 Sx_2=>
 Q t_1 Sx_2) fun Jx=>
 if i<0 then
 Q 1 S
 else
 if 32≤i then
 Q 1 S
 else
 Jx S
theorem kZ {S:Mem} {s:Pt} {frame:Int} {i:Int} {w:Int} {Q:Int→Mem→Prop} (H:yU S s frame i w Q):qX S s frame i w Q:=by
 unfold yU at H
 exact Tr.intro Tryz.func110 E Tryz.ntmps110 E fun w0=>csr<|gv E E<|nx<|zn H (fun (J:Mem→Prop) (z:Unit) S=>J S) (fun z=>⟨22,[(0,eP s),(1,.int .i64 frame),(2,.int .i64 i),(3,.int .u64 w)]⟩) (fun z=>[]) (fun _ Sx H1=>csr<|mv E E<|mv E E<|mv E E<|s_p E (ji E E)<|mv E E<|qC E E H1 fun t Sx_1 H2=>qC E E H2 fun t_1 Sx_2 H3=>gv E E<|nx<|zi<|zh Tryz.results110 (zd E ze) ⟨_,E,H3⟩) (fun Jx hJx H4=>csr<|mv E E<|iteK H4 (fun c H5=>s_p E (yT (zD E E) c)<|mv E E<|sk2 E E<|pk E E E<|nx<|c_t E E<|csr<|gv E E<|nx<|zi<|zb<|zh Tryz.results110 (zd E ze) ⟨_,E,H5⟩) fun c H5=>s_p E (yF (zD E E) c)<|mv E E<|mv E E<|iteK H5 (fun c_1 H6=>s_p E (yT (qj E E) c_1)<|pk E E E<|nx<|c_t E E<|csr<|gv E E<|nx<|zi<|zb<|zh Tryz.results110 (zd E ze) ⟨_,E,H6⟩) fun c_1 H6=>s_p E (yF (qj E E) c_1)<|pk E E E<|nx<|cfs E E<|hJx () _ _ _ _ [] H6 E ⟨E,E,E,E,True.intro⟩ E)
def xR (S:Mem) (s:Pt) (frame:Int) (Q:Int→Mem→Prop):Prop:=
 al S 5 (zrep 256 [.int .u8 0]) fun b Sx=>
 qp Sx s frame 0 (⟨some (b,0),256,256⟩) fun t Sx_1=>
 Q t Sx_1
theorem zas {S:Mem} {s:Pt} {frame:Int} {Q:Int→Mem→Prop} (H:xR S s frame Q):yo S s frame Q:=by
 unfold xR at H
 exact Tr.intro Tryz.func140 E Tryz.ntmps140 E fun w0=>csr<|gv E E<|nxr<|mv E E<|mv E E<|zmX E E E (by decide) (by decide) (by decide) (by decide) fun b=>ku 0 E fun hb=>have H1:=H b hb;qC E E H1 fun t Sx_1 H2=>gv E E<|nx<|zi<|zh Tryz.results140 (zd E ze) ⟨_,E,H2⟩
end Go.Proofs.YtabdpmnhjlmnlaaGreatDoor
end
section
namespace Go.Cr
open Go Go.Pt
structure StoreAt (S:Mem) (m B N:Nat) (M:List Int):Prop where
 hd:S m=some (bw 180 [eL ⟨some (B,0),256*N,256*N⟩])
 dt:S B=some (bw 5 (bL M))
 ne:m≠B
 len:M.length=256*N
 byt:Byt M
 lim:N≤512
theorem StoreAt.keep {S S':Mem} {m B N:Nat} {M:List Int} (h:StoreAt S m B N M) (hk:Keeps S S' []):StoreAt S' m B N M:=
 ⟨hk.get h.hd (by simp),hk.get h.dt (by simp),h.ne,h.len,h.byt,h.lim⟩
end Go.Cr
namespace Go.Proofs.YtabdpmnhjlmnlaaGreatDoor
open Go Go.Pt Go.Cr
section
variable {S:Mem} {m B N:Nat} {M:List Int}
theorem zeb (h:StoreAt S m B N M) {Q:Int→Mem→Prop} (hQ:Q N S):ya S (some (m,0)) Q:=by
 have hl:=h.lim
 apply fU
 unfold xv
 rw[if_neg (by simp),qk,jW (n:=⟨some (B,0),256*N,256*N⟩) (by rw[qA h.hd];rfl)]
 have e:IntKind.i64.wrap (Int.tdiv ((256*N:Nat):Int) 256)=(N:Int):=by rw[td (by omega),w64 (by omega) (by omega)];omega
 show Q (IntKind.i64.wrap (Int.tdiv ((256*N:Nat):Int) 256)) S
 rw[e];exact hQ
theorem zlk (h:StoreAt S m B N M) {frame off n:Int} (hb : -4294967296≤off∧off≤4294967296) {Q:Int→Int→Mem→Prop} (hY:0≤frame→frame<N→0≤off→0≤n→off+n≤256→Q (256*frame+off) 0 S) (hN:¬(0≤frame∧frame<N∧0≤off∧0≤n∧off+n≤256)→Q 0 1 S):vh S (some (m,0)) frame off n Q:=by
 have hl:=h.lim
 apply zcL
 unfold vy
 simp only[jn]
 by_cases h1:frame<0
 ·rw[if_pos h1];exact hN fun h=>by omega
 rw[if_neg h1]
 refine zeb h ?_
 by_cases h2:(N:Int)≤frame
 ·rw[if_pos h2];exact hN fun h=>by omega
 rw[if_neg h2]
 by_cases h3:off<0
 ·rw[if_pos h3];exact hN fun h=>by omega
 rw[if_neg h3]
 by_cases h4:n<0
 ·rw[if_pos h4];exact hN fun h=>by omega
 rw[if_neg h4]
 by_cases h5:256<off
 ·rw[if_pos h5];exact hN fun h=>by omega
 rw[if_neg h5,w64 (x:=256-off) (by omega) (by omega)]
 by_cases h6:256-off<n
 ·rw[if_pos h6];exact hN fun h=>by omega
 rw[if_neg h6,w64 (x:=256*frame) (by omega) (by omega),w64 (x:=256*frame+off) (by omega) (by omega)]
 exact hY (by omega) (by omega) (by omega) (by omega) (by omega)
end
end Go.Proofs.YtabdpmnhjlmnlaaGreatDoor
namespace Go.Proofs.YtabdpmnhjlmnlaaGreatDoor
open Go Go.Pt Go.Cr
section
variable {S:Mem} {m B N:Nat} {M:List Int}
def rdF (M:List Int) (f off n:Nat):List Int:=(M.drop (256*f+off)).take n
theorem zlj (xs:List Int):(bL xs).all (·.oneCell')=true:=by
 unfold bL;rw[List.all_map];exact List.all_eq_true.2 fun _ _=>rfl
theorem zdP (h:StoreAt S m B N M) {frame off n:Int} (hb : -4294967296≤off∧off≤4294967296) {Q:Sl→Int→Mem→Prop}
  (hY:0≤frame→frame<N→0≤off→0<n→off+n≤256→∀ t S',Keeps S S' []→Row S' 1 t (bL (rdF M frame.toNat off.toNat n.toNat))→(∀ b o,t.p=some (b,o)→S b=none)→Q t 0 S')
  (hN:¬(0≤frame∧frame<N∧0≤off∧0≤n∧off+n≤256)→Q ⟨none,0,0⟩ 1 S) (hn:n≠0):qY S (some (m,0)) frame off n Q:=by
 have hl:=h.lim
 have hlen:=h.len
 apply zbd
 unfold wv
 simp only[jn]
 refine zlk h hb (fun f0 f1 o0 n0 on=>?_) fun hbad=>?_
 ·rw[if_neg (fun h=>h rfl),qk,jW (n:=⟨some (B,0),256*N,256*N⟩) (by rw[qA h.hd];rfl),w64 (x:=256*frame+off+n) (by omega) (by omega)]
  refine⟨by omega,by omega,by show 256*frame+off+n≤((256*N:Nat):Int);omega,?_⟩
  have e:slc 1 ⟨some (B,0),256*N,256*N⟩ (256*frame+off) (256*frame+off+n)=⟨some (B,256*frame.toNat+off.toNat),n.toNat,256*N-(256*frame.toNat+off.toNat)⟩:=by
   unfold slc
   have e1:(256*frame+off).toNat=256*frame.toNat+off.toNat:=by omega
   have e2:(256*frame+off+n-(256*frame+off)).toNat=n.toNat:=by omega
   simp only[e1,e2,Nat.mul_one,Nat.zero_add,Option.map_some]
   rw[if_neg (by omega)]
  show sp S (slc 1 _ _ _) 1 _
  rw[e]
  have hpart:S.part B (256*frame.toNat+off.toNat) (n.toNat*1)=some (bL (rdF M frame.toNat off.toNat n.toNat)):=by
   rw[yu h.dt,qJ (by simp[bL];omega),Nat.mul_one]
   simp[bL,rdF]
  refine⟨_,.inr ⟨B,_,rfl,hpart⟩,zlj _,?_⟩
  have hrl:(rdF M frame.toNat off.toNat n.toNat).length=n.toNat:=by simp[rdF];omega
  refine gr Row.nil (by rw[Nat.mul_one];simp[bL,hrl]) (by show 0<n.toNat;omega) rfl (by show (2*(0+n.toNat)+1024)*1≤_;omega) fun t S2 c kb e1 e2 e3 e4 e5=>?_
  have hc:S c=none:=by
   rcases e3 with e3 | e3
   ·cases e3
   ·exact e3
  exact hY f0 f1 o0 (by omega) on t S2 (by rw[e4];exact Keeps.refl.fresh hc) e5 fun b o hb=>by rw[e2] at hb;cases hb;exact hc
 ·rw[if_pos (by decide)];exact hN hbad
end
end Go.Proofs.YtabdpmnhjlmnlaaGreatDoor
namespace Go.Proofs.YtabdpmnhjlmnlaaGreatDoor
open Go Go.Pt Go.Cr
section
variable {S:Mem} {m B N:Nat} {M:List Int}
def wrF (M:List Int) (f off:Nat) (l:List Int):List Int:=M.take (256*f+off)++l++M.drop (256*f+off+l.length)
theorem zmM {M:List Int} {f off:Nat} {l:List Int} (h:256*f+off+l.length≤M.length):(wrF M f off l).length=M.length:=by
 unfold wrF;simp only[List.length_append,List.length_take,List.length_drop];omega
theorem zmN {M:List Int} {f off:Nat} {l:List Int} (h:Byt M) (hl:Byt l):Byt (wrF M f off l):=fun x hx=>by
 unfold wrF at hx
 rcases List.mem_append.1 hx with hx | hx
 ·rcases List.mem_append.1 hx with hx | hx
  ·exact h x (List.mem_of_mem_take hx)
  ·exact hl x hx
 ·exact h x (List.mem_of_mem_drop hx)
theorem fG (h:StoreAt S m B N M) {frame off:Int} (hb : -4294967296≤off∧off≤4294967296) {p:Sl} {l:List Int} (hp:l=[]∨∃ b o,p.p=some (b,o)∧S.part b o (l.length*1)=some (bL l)) (hpl:l.length=p.n) (hl0:l≠[]) (hby:Byt l) {Q:Int→Mem→Prop}
  (hY:0≤frame→frame<N→0≤off→off+p.n≤256→StoreAt (S.set B (bw 5 (bL (wrF M frame.toNat off.toNat l)))) m B N (wrF M frame.toNat off.toNat l)→Q 0 (S.set B (bw 5 (bL (wrF M frame.toNat off.toNat l)))))
  (hN:¬(0≤frame∧frame<N∧0≤off∧0≤(p.n:Int)∧off+p.n≤256)→Q 1 S):qp S (some (m,0)) frame off p Q:=by
 have hl:=h.lim
 have hlen:=h.len
 have hpos:0<l.length:=List.length_pos_iff.2 hl0
 apply zar
 unfold xQ
 simp only[jn]
 refine zlk h hb (fun f0 f1 o0 n0 on=>?_) fun hbad=>?_
 ·rw[if_neg (fun h=>h rfl),qk,jW (n:=⟨some (B,0),256*N,256*N⟩) (by rw[qA h.hd];rfl)]
  refine⟨by omega,by show 256*frame+off≤((256*N:Nat):Int);omega,Int.le_refl _,?_⟩
  have e:slc 1 ⟨some (B,0),256*N,256*N⟩ (256*frame+off) ((256*N:Nat):Int)=⟨some (B,256*frame.toNat+off.toNat),256*N-(256*frame.toNat+off.toNat),256*N-(256*frame.toNat+off.toNat)⟩:=by
   unfold slc
   have e1:(256*frame+off).toNat=256*frame.toNat+off.toNat:=by omega
   have e2:(((256*N:Nat):Int)-(256*frame+off)).toNat=256*N-(256*frame.toNat+off.toNat):=by omega
   simp only[e1,e2,Nat.mul_one,Nat.zero_add,Option.map_some]
   rw[if_neg (by omega)]
  show lt (slc 1 ⟨some (B,0),256*N,256*N⟩ (256*frame+off) ((256*N:Nat):Int)) _
  rw[e]
  unfold lt
  rcases hp with hp | ⟨b,o,hpp,hpart⟩
  ·exact absurd hp hl0
  have emin:min p.n (256*N-(256*frame.toNat+off.toNat))=l.length:=by omega
  refine⟨bL l,.inr ⟨b,o,hpp,by show S.part b o (min p.n (256*N-(256*frame.toNat+off.toNat))*1)=_;rw[emin];exact hpart⟩,zlj _,.inr ⟨B,_,rfl,?_,?_⟩⟩
  ·exact⟨_,h.dt,rfl,by show _+min p.n (256*N-(256*frame.toNat+off.toNat))*1≤(bL M).length;rw[emin];simp[bL];omega⟩
  ·have eput:S.put B (256*frame.toNat+off.toNat) (bL l)=S.set B (bw 5 (bL (wrF M frame.toNat off.toNat l))):=by
    rw[vU h.dt]
    show S.set B ⟨5,spl (bL M) (256*frame.toNat+off.toNat) (bL l),(0,0)⟩=_
    rw[xq _ _ _ (by simp[bL];omega)]
    simp[bL,wrF]
   rw[eput]
   exact hY f0 f1 o0 on ⟨by rw[qm h.ne];exact h.hd,zO,h.ne,by rw[zmM (by omega)];exact h.len,zmN h.byt hby,h.lim⟩
 ·rw[if_pos (by decide)];exact hN hbad
end
end Go.Proofs.YtabdpmnhjlmnlaaGreatDoor
namespace Go.Proofs.YtabdpmnhjlmnlaaGreatDoor
open Go Go.Pt Go.Cr
section
variable {S:Mem} {m B N:Nat} {M:List Int}
theorem zmA {t:Sl} {xs:List Int} (h:Row S 1 t (bL xs)) (hb:Byt xs):By S t xs:=by
 have hl:=h.len
 simp only[bL,List.length_map,Nat.mul_one] at hl
 refine⟨hl,h.cap,hb,?_⟩
 by_cases h0:t.n=0
 ·exact .inl h0
 right
 rcases h.lie with ⟨_,e2⟩ | ⟨b,k,e1,e2,_,_,e5⟩
 ·have:=h.cap;omega
 ·refine⟨b,0,e1,fun i hi=>?_⟩
  rw[Nat.zero_add,qA e2,qb]
  have:(k.cs.take (t.n*1))[i]? = some (.int .u8 xs[i]):=by rw[e5];simp[bL,List.getElem?_eq_getElem hi]
  rw[List.getElem?_take,if_pos (by omega)] at this
  exact this
theorem ziQ (h:StoreAt S m B N M) {f i:Nat} (hf:f<N) (hi:i<32) {Q:Int→Int→Mem→Prop} (hQ:∀ S',Keeps S S' []→Q (num (rdF M f (8*i) 8)) 0 S'):yG S (some (m,0)) f i Q:=by
 have hlen:=h.len
 apply ja
 unfold yV
 simp only[jn]
 rw[if_neg (by omega),if_neg (by omega),w64 (by omega) (by omega)]
 refine zdP h (by omega) (fun _ _ _ _ _ t S' hk hrow _=>?_) (fun hbad=>absurd ⟨by omega,by omega,by omega,by omega,by omega⟩ hbad) (by decide)
 have e:(8*(i:Int)).toNat=8*i:=by omega
 have e8:(8:Int).toNat=8:=rfl
 rw[Int.toNat_natCast,e,e8] at hrow
 have hb:Byt (rdF M f (8*i) 8):=fun x hx=>h.byt x (List.mem_of_mem_drop (List.mem_of_mem_take hx))
 exact zce (zmA hrow hb) (by simp[rdF];omega) (hQ S' hk)
end
end Go.Proofs.YtabdpmnhjlmnlaaGreatDoor
namespace Go.Proofs.YtabdpmnhjlmnlaaGreatDoor
open Go Go.Pt Go.Cr
section
variable {S:Mem} {m B N:Nat} {M:List Int}
theorem ziP (h:StoreAt S m B N M) {f i:Nat} (hf:f<N) (hi:i<32) {w:Int} (hw:W64 w) {Q:Int→Mem→Prop} (hQ:∀ S',Keeps S S' [B]→StoreAt S' m B N (wrF M f (8*i) (bytes8 w))→Q 0 S'):qX S (some (m,0)) f i w Q:=by
 apply kZ
 unfold yU
 simp only[jn]
 rw[if_neg (by omega),if_neg (by omega),w64 (by omega) (by omega)]
 refine zcr hw fun c hc=>?_
 have hk:Keeps S (S.set c (bw 5 (bL (bytes8 w)))) []:=Keeps.refl.fresh hc
 have h8:=xo w
 have e:(8*(i:Int)).toNat=8*i:=by omega
 refine fG (h.keep hk) (by omega) (l:=bytes8 w) (.inr ⟨c,0,rfl,?_⟩) h8 (fun h0=>by rw[h0] at h8;simp at h8) (kn w) (fun _ _ _ _ hs=>?_) (fun hbad=>absurd ⟨by omega,by omega,by omega,by show (0:Int)≤((8:Nat):Int);decide,by show 8*(i:Int)+((8:Nat):Int)≤256;omega⟩ hbad)
 ·rw[yu zO,qJ (by show 0+(bytes8 w).length*1≤(bL (bytes8 w)).length;simp[bL])]
  simp only[bL,List.drop_zero,Nat.mul_one]
  rw[List.take_of_length_le (by simp)]
 ·rw[Int.toNat_natCast,e] at hs ⊢
  exact hQ _ ((hk.wider (by simp)).set (by simp)) hs
end
end Go.Proofs.YtabdpmnhjlmnlaaGreatDoor
namespace Go.Proofs.YtabdpmnhjlmnlaaGreatDoor
open Go Go.Pt Go.Cr
section
variable {S:Mem} {m B N:Nat} {M:List Int}
theorem zfh:∀ n:Nat,zrep n [Value.int .u8 0]=bL (List.replicate n 0)
 | 0=>rfl
 | n+1=>by
  have:=zfh n
  simp only[bL,List.map_replicate] at this ⊢
  simp[zrep,List.replicate_succ] at this ⊢
  exact this
theorem zht (h:StoreAt S m B N M) {f:Nat} (hf:f<N) {Q:Int→Mem→Prop} (hQ:∀ S',Keeps S S' [B]→StoreAt S' m B N (wrF M f 0 (List.replicate 256 0))→Q 0 S'):yo S (some (m,0)) f Q:=by
 apply zas
 unfold xR
 intro c hc
 rw[zfh]
 have hk:Keeps S (S.set c (bw 5 (bL (List.replicate 256 0)))) []:=Keeps.refl.fresh hc
 have h8:(List.replicate 256 (0:Int)).length=256:=List.length_replicate
 refine fG (h.keep hk) (by decide) (l:=List.replicate 256 0) (.inr ⟨c,0,rfl,?_⟩) h8 (fun h0=>by rw[h0] at h8;cases h8) (fun x hx=>by rw[List.eq_of_mem_replicate hx];decide) (fun _ _ _ _ hs=>?_) (fun hbad=>absurd ⟨by omega,by omega,by omega,by show (0:Int)≤((256:Nat):Int);decide,by show (0:Int)+((256:Nat):Int)≤256;decide⟩ hbad)
 ·rw[yu zO,qJ (by show 0+(List.replicate 256 (0:Int)).length*1≤(bL (List.replicate 256 0)).length;unfold bL;rw[List.length_map];omega)]
  simp only[bL,List.drop_zero,Nat.mul_one]
  rw[List.take_of_length_le (by rw[List.length_map];exact Nat.le_refl _)]
 ·rw[Int.toNat_natCast] at hs ⊢
  exact hQ _ ((hk.wider (by simp)).set (by simp)) hs
end
end Go.Proofs.YtabdpmnhjlmnlaaGreatDoor
end
section
namespace Go.Cr
open Go Go.Pt
open Go.Proofs.YtabdpmnhjlmnlaaGreatDoor (rdF wrF)
def cF {α:Type}:Nat→(Nat→List α)→List α
 | 0,_=>[]
 | n+1,f=>cF n f++f n
section
variable {α:Type} {n w i:Nat} {f g:Nat→List α}
theorem ye:∀ {n:Nat},(∀ i,i<n→f i=g i)→cF n f=cF n g
 | 0,_=>rfl
 | n+1,h=>by simp only[cF];rw[ye fun i hi=>h i (by omega),h n (by omega)]
theorem xr:∀ {n:Nat},(∀ i,i<n→(f i).length=w)→(cF n f).length=n*w
 | 0,_=>by simp[cF]
 | n+1,h=>by simp only[cF,List.length_append];rw[xr fun i hi=>h i (by omega),h n (by omega),Nat.add_mul];omega
theorem ziy:∀ {n i:Nat},(∀ i,i<n→(f i).length=w)→i<n→∃ A B,A.length=i*w∧∀ v,cF n (upd f i v)=A++(v++B)
 | 0,_,_,h=>by omega
 | n+1,i,h,hi=>by
  by_cases e:i=n
  ·subst e
   refine⟨cF i f,[],xr fun j hj=>h j (by omega),fun v=>?_⟩
   simp only[cF,zq,List.append_nil]
   rw[ye fun j hj=>zo (f:=f) (v:=v) (show j≠i by omega)]
  ·obtain⟨A,B,h1,h2⟩:=ziy (n:=n) (i:=i) (fun j hj=>h j (by omega)) (by omega)
   refine⟨A,B++f n,h1,fun v=>?_⟩
   simp only[cF]
   rw[h2,zo (Ne.symm e)];simp
theorem zlh (h:∀ i,i<n→(f i).length=w) (hi:i<n):∃ A B,A.length=i*w∧cF n f=A++(f i++B)∧∀ v,cF n (upd f i v)=A++(v++B):=by
 obtain⟨A,B,h1,h2⟩:=ziy h hi
 exact⟨A,B,h1,by rw[←h2,xG],h2⟩
theorem zmz {x:α}:∀ {n:Nat},x∈cF n f→∃ i,i<n∧x∈f i
 | 0,h=>by simp[cF] at h
 | n+1,h=>by
  simp only[cF,List.mem_append] at h
  rcases h with h | h
  ·obtain⟨i,h1,h2⟩:=zmz h;exact⟨i,by omega,h2⟩
  ·exact⟨n,by omega,h⟩
end
variable {n w i k:Nat} {f g:Nat→List Value}
theorem zeo (h:∀ i,i<n→(f i).length=w) (hi:i<n) (hk:k<w):nthL (cF n f) (i*w+k)=nthL (f i) k:=by
 obtain⟨A,B,h2,h1,_⟩:=zlh h hi
 have hl:=h i hi
 rw[qb,qb,h1,List.getElem?_append_right (by omega),List.getElem?_append_left (by omega)]
 congr 1;omega
theorem zfY {m:Nat} (h:∀ i,i<n→(f i).length=w) (hi:i<n) (hk:k+m≤w):lpart (cF n f) (i*w+k) m=lpart (f i) k m:=by
 obtain⟨A,B,h2,h1,_⟩:=zlh h hi
 have hl:=h i hi
 have ht:(cF n f).length=n*w:=xr h
 have hb:i*w+w≤n*w:=by
  have:=Nat.mul_le_mul_right w (show i+1≤n by omega)
  rw[Nat.add_mul,Nat.one_mul] at this;exact this
 rw[qJ (by omega),qJ (by omega)]
 congr 1
 apply List.ext_getElem?
 intro j
 rw[List.getElem?_take,List.getElem?_take,List.getElem?_drop,List.getElem?_drop,h1]
 by_cases hj:j<m
 ·rw[if_pos hj,if_pos hj,List.getElem?_append_right (by omega),List.getElem?_append_left (by omega)]
  congr 1;omega
 ·rw[if_neg hj,if_neg hj]
theorem zen {vs:List Value} (h:∀ i,i<n→(f i).length=w) (hi:i<n) (hk:k+vs.length≤w):spl (cF n f) (i*w+k) vs=cF n (upd f i (spl (f i) k vs)):=by
 have hl:=h i hi
 obtain⟨A,B,h1,h2,h3⟩:=zlh h hi
 rw[h3,h2,←h1,qz rfl]
 congr 1
 rw[xq _ _ _ (by rw[List.length_append];omega),xq _ _ _ (by omega),List.take_append_of_le_length (by omega),List.drop_append_of_le_length (by omega)]
 simp
theorem qF {A B:List Value} {n j:Nat} (h:A.length=n):nthL (A++B) (n+j)=nthL B j:=zim h
theorem zbB {A B:List Value} {j:Nat} (h:j<A.length):nthL (A++B) j=nthL A j:=by
 rw[qb,qb,List.getElem?_append_left h]
theorem yM {A B:List Value} {n j m:Nat} (h:A.length=n):lpart (A++B) (n+j) m=lpart B j m:=by
 by_cases hb:j+m≤B.length
 ·rw[qJ (by simp;omega),qJ hb]
  congr 1
  rw[←List.drop_drop,List.drop_left' h]
 ·unfold lpart
  have e1:Nat.ble (n+j+m) (A++B).length=false:=by
   cases hh:Nat.ble (n+j+m) (A++B).length
   ·rfl
   ·have:=Nat.le_of_ble_eq_true hh;simp at this;omega
  have e2:Nat.ble (j+m) B.length=false:=by
   cases hh:Nat.ble (j+m) B.length
   ·rfl
   ·have:=Nat.le_of_ble_eq_true hh;omega
  rw[e1,e2]
theorem ki {A B:List Value} {j m:Nat} (h:j+m≤A.length):lpart (A++B) j m=lpart A j m:=by
 rw[qJ (by simp;omega),qJ h]
 congr 1
 apply List.ext_getElem?
 intro x
 rw[List.getElem?_take,List.getElem?_take,List.getElem?_drop,List.getElem?_drop]
 by_cases hx:x<m
 ·rw[if_pos hx,if_pos hx,List.getElem?_append_left (by omega)]
 ·rw[if_neg hx,if_neg hx]
theorem vX {A B v:List Value} {j:Nat} (h:j+v.length≤A.length):spl (A++B) j v=spl A j v++B:=by
 rw[xq _ _ _ (by rw[List.length_append];omega),xq _ _ _ (by omega),List.take_append_of_le_length (by omega),List.drop_append_of_le_length (by omega),List.append_assoc,List.append_assoc,List.append_assoc]
theorem zmw {d:Nat→List Int} {N f off n:Nat} (h:∀ f,f<N→(d f).length=256) (hf:f<N) (hn:off+n≤256):rdF (cF N d) f off n=rdB (d f) off n:=by
 obtain⟨A,B,h1,h2,_⟩:=zlh h hf
 have hl:=h f hf
 unfold rdF rdB
 rw[h2,show 256*f+off=A.length+off by omega,←List.drop_drop,List.drop_left' rfl]
 rw[List.drop_append_of_le_length (by omega),List.take_append_of_le_length (by rw[List.length_drop];omega)]
theorem zjK {d:Nat→List Int} {N f off:Nat} {l:List Int} (h:∀ f,f<N→(d f).length=256) (hf:f<N) (hn:off+l.length≤256):wrF (cF N d) f off l=cF N (wr d f off l):=by
 obtain⟨A,B,h1,h2,h3⟩:=zlh h hf
 have hl:=h f hf
 unfold wrF wr
 rw[h3,h2,show 256*f+off=A.length+off by omega,List.take_length_add_append,Nat.add_assoc,←List.drop_drop,List.drop_left' rfl]
 rw[List.take_append_of_le_length (by omega),List.drop_append_of_le_length (by omega)]
 unfold spB
 simp
end Go.Cr
end
