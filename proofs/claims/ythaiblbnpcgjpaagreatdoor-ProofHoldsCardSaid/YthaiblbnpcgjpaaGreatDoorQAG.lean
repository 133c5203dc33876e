/- Texts of this work,joined by program (pack.py). -/
import Derived.Test.YthaiblbnpcgjpaaGreatDoorQAF
import Derived.Test.YthaiblbnpcgjpaaGreatDoorQAE
import Derived.Test.YthaiblbnpcgjpaaGreatDoorQAB
set_option linter.unusedVariables false
section
namespace Go.Cr
open Go Go.Pt
structure StoreAt (S:Mem) (m B N:Nat) (M:List Int):Prop where
 hd:S m=some (bw 214 [eL ⟨some (B,0),256*N,256*N⟩])
 dt:S B=some (bw 5 (bL M))
 ne:m≠B
 len:M.length=256*N
 byt:Byt M
 lim:N≤512
theorem StoreAt.keep {S S':Mem} {m B N:Nat} {M:List Int} (h:StoreAt S m B N M) (hk:Keeps S S' []):StoreAt S' m B N M:=
 ⟨hk.get h.hd (by simp),hk.get h.dt (by simp),h.ne,h.len,h.byt,h.lim⟩
end Go.Cr
namespace Go.Proofs.YthaiblbnpcgjpaaGreatDoor
open Go Go.Pt Go.Cr
section
variable {S:Mem} {m B N:Nat} {M:List Int}
theorem zfg (h:StoreAt S m B N M) {Q:Int→Mem→Prop} (hQ:Q N S):qF S (some (m,0)) Q:=by
 have hl:=h.lim
 apply zaA
 unfold xk
 rw[if_neg (by simp),zL,wj (n:=⟨some (B,0),256*N,256*N⟩) (by rw[qj h.hd];rfl)]
 have e:IntKind.i64.wrap (Int.tdiv ((256*N:Nat):Int) 256)=(N:Int):=by rw[td (by omega),w64 (by omega) (by omega)];omega
 show Q (IntKind.i64.wrap (Int.tdiv ((256*N:Nat):Int) 256)) S
 rw[e];exact hQ
theorem zmA (h:StoreAt S m B N M) {frame off n:Int} (hb : -4294967296≤off∧off≤4294967296) {Q:Int→Int→Mem→Prop} (hY:0≤frame→frame<N→0≤off→0≤n→off+n≤256→Q (256*frame+off) 0 S) (hN:¬(0≤frame∧frame<N∧0≤off∧0≤n∧off+n≤256)→Q 0 1 S):vx S (some (m,0)) frame off n Q:=by
 have hl:=h.lim
 apply zdF
 unfold vL
 simp only[jn]
 by_cases h1:frame<0
 ·rw[if_pos h1];exact hN fun h=>by omega
 rw[if_neg h1]
 refine zfg h ?_
 by_cases h2:(N:Int)≤frame
 ·rw[if_pos h2];exact hN fun h=>by omega
 rw[if_neg h2]
 by_cases h3:off<0
 ·rw[if_pos h3];exact hN fun h=>by omega
 rw[if_neg h3]
 by_cases h4:n<0
 ·rw[if_pos h4];exact hN fun h=>by omega
 rw[if_neg h4]
 by_cases h5:256<off
 ·rw[if_pos h5];exact hN fun h=>by omega
 rw[if_neg h5,w64 (x:=256-off) (by omega) (by omega)]
 by_cases h6:256-off<n
 ·rw[if_pos h6];exact hN fun h=>by omega
 rw[if_neg h6,w64 (x:=256*frame) (by omega) (by omega),w64 (x:=256*frame+off) (by omega) (by omega)]
 exact hY (by omega) (by omega) (by omega) (by omega) (by omega)
end
open Go Go.Pt Go.Cr
section
variable {S:Mem} {m B N:Nat} {M:List Int}
def rdF (M:List Int) (f off n:Nat):List Int:=(M.drop (256*f+off)).take n
theorem zmy (xs:List Int):(bL xs).all (·.oneCell')=true:=by
 unfold bL;rw[List.all_map];exact List.all_eq_true.2 fun _ _=>rfl
theorem zeR (h:StoreAt S m B N M) {frame off n:Int} (hb : -4294967296≤off∧off≤4294967296) {Q:Sl→Int→Mem→Prop}
  (hY:0≤frame→frame<N→0≤off→0<n→off+n≤256→∀ t S',Keeps S S' []→Row S' 1 t (bL (rdF M frame.toNat off.toNat n.toNat))→(∀ b o,t.p=some (b,o)→S b=none)→Q t 0 S')
  (hN:¬(0≤frame∧frame<N∧0≤off∧0≤n∧off+n≤256)→Q ⟨none,0,0⟩ 1 S) (hn:n≠0):qO S (some (m,0)) frame off n Q:=by
 have hl:=h.lim
 have hlen:=h.len
 apply zbP
 unfold ww
 simp only[jn]
 refine zmA h hb (fun f0 f1 o0 n0 on=>?_) fun hbad=>?_
 ·rw[if_neg (fun h=>h rfl),zL,wj (n:=⟨some (B,0),256*N,256*N⟩) (by rw[qj h.hd];rfl),w64 (x:=256*frame+off+n) (by omega) (by omega)]
  refine⟨by omega,by omega,by show 256*frame+off+n≤((256*N:Nat):Int);omega,?_⟩
  have e:slc 1 ⟨some (B,0),256*N,256*N⟩ (256*frame+off) (256*frame+off+n)=⟨some (B,256*frame.toNat+off.toNat),n.toNat,256*N-(256*frame.toNat+off.toNat)⟩:=by
   unfold slc
   have e1:(256*frame+off).toNat=256*frame.toNat+off.toNat:=by omega
   have e2:(256*frame+off+n-(256*frame+off)).toNat=n.toNat:=by omega
   simp only[e1,e2,Nat.mul_one,Nat.zero_add,Option.map_some]
   rw[if_neg (by omega)]
  show sp S (slc 1 _ _ _) 1 _
  rw[e]
  have hpart:S.part B (256*frame.toNat+off.toNat) (n.toNat*1)=some (bL (rdF M frame.toNat off.toNat n.toNat)):=by
   rw[yp h.dt,qA (by simp[bL];omega),Nat.mul_one]
   simp[bL,rdF]
  refine⟨_,.inr ⟨B,_,rfl,hpart⟩,zmy _,?_⟩
  have hrl:(rdF M frame.toNat off.toNat n.toNat).length=n.toNat:=by simp[rdF];omega
  refine wS Row.nil (by rw[Nat.mul_one];simp[bL,hrl]) (by show 0<n.toNat;omega) rfl (by show (2*(0+n.toNat)+1024)*1≤_;omega) fun t S2 c kb e1 e2 e3 e4 e5=>?_
  have hc:S c=none:=by
   rcases e3 with e3 | e3
   ·cases e3
   ·exact e3
  exact hY f0 f1 o0 (by omega) on t S2 (by rw[e4];exact Keeps.refl.fresh hc) e5 fun b o hb=>by rw[e2] at hb;cases hb;exact hc
 ·rw[if_pos (by decide)];exact hN hbad
end
open Go Go.Pt Go.Cr
section
variable {S:Mem} {m B N:Nat} {M:List Int}
def wrF (M:List Int) (f off:Nat) (l:List Int):List Int:=M.take (256*f+off)++l++M.drop (256*f+off+l.length)
theorem zoo {M:List Int} {f off:Nat} {l:List Int} (h:256*f+off+l.length≤M.length):(wrF M f off l).length=M.length:=by
 unfold wrF;simp only[List.length_append,List.length_take,List.length_drop];omega
theorem zop {M:List Int} {f off:Nat} {l:List Int} (h:Byt M) (hl:Byt l):Byt (wrF M f off l):=fun x hx=>by
 unfold wrF at hx
 rcases List.mem_append.1 hx with hx | hx
 ·rcases List.mem_append.1 hx with hx | hx
  ·exact h x (List.mem_of_mem_take hx)
  ·exact hl x hx
 ·exact h x (List.mem_of_mem_drop hx)
theorem zak (h:StoreAt S m B N M) {frame off:Int} (hb : -4294967296≤off∧off≤4294967296) {p:Sl} {l:List Int} (hp:l=[]∨∃ b o,p.p=some (b,o)∧S.part b o (l.length*1)=some (bL l)) (hpl:l.length=p.n) (hl0:l≠[]) (hby:Byt l) {Q:Int→Mem→Prop}
  (hY:0≤frame→frame<N→0≤off→off+p.n≤256→StoreAt (S.set B (bw 5 (bL (wrF M frame.toNat off.toNat l)))) m B N (wrF M frame.toNat off.toNat l)→Q 0 (S.set B (bw 5 (bL (wrF M frame.toNat off.toNat l)))))
  (hN:¬(0≤frame∧frame<N∧0≤off∧0≤(p.n:Int)∧off+p.n≤256)→Q 1 S):qg S (some (m,0)) frame off p Q:=by
 have hl:=h.lim
 have hlen:=h.len
 have hpos:0<l.length:=List.length_pos_iff.2 hl0
 apply zbb
 unfold xM
 simp only[jn]
 refine zmA h hb (fun f0 f1 o0 n0 on=>?_) fun hbad=>?_
 ·rw[if_neg (fun h=>h rfl),zL,wj (n:=⟨some (B,0),256*N,256*N⟩) (by rw[qj h.hd];rfl)]
  refine⟨by omega,by show 256*frame+off≤((256*N:Nat):Int);omega,Int.le_refl _,?_⟩
  have e:slc 1 ⟨some (B,0),256*N,256*N⟩ (256*frame+off) ((256*N:Nat):Int)=⟨some (B,256*frame.toNat+off.toNat),256*N-(256*frame.toNat+off.toNat),256*N-(256*frame.toNat+off.toNat)⟩:=by
   unfold slc
   have e1:(256*frame+off).toNat=256*frame.toNat+off.toNat:=by omega
   have e2:(((256*N:Nat):Int)-(256*frame+off)).toNat=256*N-(256*frame.toNat+off.toNat):=by omega
   simp only[e1,e2,Nat.mul_one,Nat.zero_add,Option.map_some]
   rw[if_neg (by omega)]
  show lt (slc 1 ⟨some (B,0),256*N,256*N⟩ (256*frame+off) ((256*N:Nat):Int)) _
  rw[e]
  unfold lt
  rcases hp with hp | ⟨b,o,hpp,hpart⟩
  ·exact absurd hp hl0
  have emin:min p.n (256*N-(256*frame.toNat+off.toNat))=l.length:=by omega
  refine⟨bL l,.inr ⟨b,o,hpp,by show S.part b o (min p.n (256*N-(256*frame.toNat+off.toNat))*1)=_;rw[emin];exact hpart⟩,zmy _,.inr ⟨B,_,rfl,?_,?_⟩⟩
  ·exact⟨_,h.dt,rfl,by show _+min p.n (256*N-(256*frame.toNat+off.toNat))*1≤(bL M).length;rw[emin];simp[bL];omega⟩
  ·have eput:S.put B (256*frame.toNat+off.toNat) (bL l)=S.set B (bw 5 (bL (wrF M frame.toNat off.toNat l))):=by
    rw[kN h.dt]
    show S.set B ⟨5,spl (bL M) (256*frame.toNat+off.toNat) (bL l),(0,0)⟩=_
    rw[xi _ _ _ (by simp[bL];omega)]
    simp[bL,wrF]
   rw[eput]
   exact hY f0 f1 o0 on ⟨by rw[zO h.ne];exact h.hd,zz,h.ne,by rw[zoo (by omega)];exact h.len,zop h.byt hby,h.lim⟩
 ·rw[if_pos (by decide)];exact hN hbad
end
open Go Go.Pt Go.Cr
section
variable {S:Mem} {m B N:Nat} {M:List Int}
theorem znV {t:Sl} {xs:List Int} (h:Row S 1 t (bL xs)) (hb:Byt xs):By S t xs:=by
 have hl:=h.len
 simp only[bL,List.length_map,Nat.mul_one] at hl
 refine⟨hl,h.cap,hb,?_⟩
 by_cases h0:t.n=0
 ·exact .inl h0
 right
 rcases h.lie with ⟨_,e2⟩ | ⟨b,k,e1,e2,_,_,e5⟩
 ·have:=h.cap;omega
 ·refine⟨b,0,e1,fun i hi=>?_⟩
  rw[Nat.zero_add,qj e2,zI]
  have:(k.cs.take (t.n*1))[i]? = some (.int .u8 xs[i]):=by rw[e5];simp[bL,List.getElem?_eq_getElem hi]
  rw[List.getElem?_take,if_pos (by omega)] at this
  exact this
theorem zke (h:StoreAt S m B N M) {f i:Nat} (hf:f<N) (hi:i<32) {Q:Int→Int→Mem→Prop} (hQ:∀ S',Keeps S S' []→Q (num (rdF M f (8*i) 8)) 0 S'):yz S (some (m,0)) f i Q:=by
 have hlen:=h.len
 apply jB
 unfold yP
 simp only[jn]
 rw[if_neg (by omega),if_neg (by omega),w64 (by omega) (by omega)]
 refine zeR h (by omega) (fun _ _ _ _ _ t S' hk hrow _=>?_) (fun hbad=>absurd ⟨by omega,by omega,by omega,by omega,by omega⟩ hbad) (by decide)
 have e:(8*(i:Int)).toNat=8*i:=by omega
 have e8:(8:Int).toNat=8:=rfl
 rw[Int.toNat_natCast,e,e8] at hrow
 have hb:Byt (rdF M f (8*i) 8):=fun x hx=>h.byt x (List.mem_of_mem_drop (List.mem_of_mem_take hx))
 exact zcR (znV hrow hb) (by simp[rdF];omega) (hQ S' hk)
end
open Go Go.Pt Go.Cr
section
variable {S:Mem} {m B N:Nat} {M:List Int}
theorem zkd (h:StoreAt S m B N M) {f i:Nat} (hf:f<N) (hi:i<32) {w:Int} (hw:W64 w) {Q:Int→Mem→Prop} (hQ:∀ S',Keeps S S' [B]→StoreAt S' m B N (wrF M f (8*i) (bytes8 w))→Q 0 S'):qN S (some (m,0)) f i w Q:=by
 apply jA
 unfold yO
 simp only[jn]
 rw[if_neg (by omega),if_neg (by omega),w64 (by omega) (by omega)]
 refine zdh hw fun c hc=>?_
 have hk:Keeps S (S.set c (bw 5 (bL (bytes8 w)))) []:=Keeps.refl.fresh hc
 have h8:=xf w
 have e:(8*(i:Int)).toNat=8*i:=by omega
 refine zak (h.keep hk) (by omega) (l:=bytes8 w) (.inr ⟨c,0,rfl,?_⟩) h8 (fun h0=>by rw[h0] at h8;simp at h8) (kJ w) (fun _ _ _ _ hs=>?_) (fun hbad=>absurd ⟨by omega,by omega,by omega,by show (0:Int)≤((8:Nat):Int);decide,by show 8*(i:Int)+((8:Nat):Int)≤256;omega⟩ hbad)
 ·rw[yp zz,qA (by show 0+(bytes8 w).length*1≤(bL (bytes8 w)).length;simp[bL])]
  simp only[bL,List.drop_zero,Nat.mul_one]
  rw[List.take_of_length_le (by simp)]
 ·rw[Int.toNat_natCast,e] at hs ⊢
  exact hQ _ ((hk.wider (by simp)).set (by simp)) hs
end
open Go Go.Pt Go.Cr
section
variable {S:Mem} {m B N:Nat} {M:List Int}
theorem zgl:∀ n:Nat,zrep n [Value.int .u8 0]=bL (List.replicate n 0)
 | 0=>rfl
 | n+1=>by
  have:=zgl n
  simp only[bL,List.map_replicate] at this ⊢
  simp[zrep,List.replicate_succ] at this ⊢
  exact this
theorem ziy (h:StoreAt S m B N M) {f:Nat} (hf:f<N) {Q:Int→Mem→Prop} (hQ:∀ S',Keeps S S' [B]→StoreAt S' m B N (wrF M f 0 (List.replicate 256 0))→Q 0 S'):yf S (some (m,0)) f Q:=by
 apply zbc
 unfold xN
 intro c hc
 rw[zgl]
 have hk:Keeps S (S.set c (bw 5 (bL (List.replicate 256 0)))) []:=Keeps.refl.fresh hc
 have h8:(List.replicate 256 (0:Int)).length=256:=List.length_replicate
 refine zak (h.keep hk) (by decide) (l:=List.replicate 256 0) (.inr ⟨c,0,rfl,?_⟩) h8 (fun h0=>by rw[h0] at h8;cases h8) (fun x hx=>by rw[List.eq_of_mem_replicate hx];decide) (fun _ _ _ _ hs=>?_) (fun hbad=>absurd ⟨by omega,by omega,by omega,by show (0:Int)≤((256:Nat):Int);decide,by show (0:Int)+((256:Nat):Int)≤256;decide⟩ hbad)
 ·rw[yp zz,qA (by show 0+(List.replicate 256 (0:Int)).length*1≤(bL (List.replicate 256 0)).length;unfold bL;rw[List.length_map];omega)]
  simp only[bL,List.drop_zero,Nat.mul_one]
  rw[List.take_of_length_le (by rw[List.length_map];exact Nat.le_refl _)]
 ·rw[Int.toNat_natCast] at hs ⊢
  exact hQ _ ((hk.wider (by simp)).set (by simp)) hs
end
end Go.Proofs.YthaiblbnpcgjpaaGreatDoor
end
namespace Go.Cr
section
open Go Go.Pt
open Go.Proofs.YthaiblbnpcgjpaaGreatDoor (rdF wrF)
def cF {α:Type}:Nat→(Nat→List α)→List α
 | 0,_=>[]
 | n+1,f=>cF n f++f n
section
variable {α:Type} {n w i:Nat} {f g:Nat→List α}
theorem jF:∀ {n:Nat},(∀ i,i<n→f i=g i)→cF n f=cF n g
 | 0,_=>rfl
 | n+1,h=>by simp only[cF];rw[jF fun i hi=>h i (by omega),h n (by omega)]
theorem fX:∀ {n:Nat},(∀ i,i<n→(f i).length=w)→(cF n f).length=n*w
 | 0,_=>by simp[cF]
 | n+1,h=>by simp only[cF,List.length_append];rw[fX fun i hi=>h i (by omega),h n (by omega),Nat.add_mul];omega
theorem zjQ:∀ {n i:Nat},(∀ i,i<n→(f i).length=w)→i<n→∃ A B,A.length=i*w∧∀ v,cF n (upd f i v)=A++(v++B)
 | 0,_,_,h=>by omega
 | n+1,i,h,hi=>by
  by_cases e:i=n
  ·subst e
   refine⟨cF i f,[],fX fun j hj=>h j (by omega),fun v=>?_⟩
   simp only[cF,zl,List.append_nil]
   rw[jF fun j hj=>zh (f:=f) (v:=v) (show j≠i by omega)]
  ·obtain⟨A,B,h1,h2⟩:=zjQ (n:=n) (i:=i) (fun j hj=>h j (by omega)) (by omega)
   refine⟨A,B++f n,h1,fun v=>?_⟩
   simp only[cF]
   rw[h2,zh (Ne.symm e)];simp
theorem zmw (h:∀ i,i<n→(f i).length=w) (hi:i<n):∃ A B,A.length=i*w∧cF n f=A++(f i++B)∧∀ v,cF n (upd f i v)=A++(v++B):=by
 obtain⟨A,B,h1,h2⟩:=zjQ h hi
 exact⟨A,B,h1,by rw[←h2,xV],h2⟩
theorem znU {x:α}:∀ {n:Nat},x∈cF n f→∃ i,i<n∧x∈f i
 | 0,h=>by simp[cF] at h
 | n+1,h=>by
  simp only[cF,List.mem_append] at h
  rcases h with h | h
  ·obtain⟨i,h1,h2⟩:=znU h;exact⟨i,by omega,h2⟩
  ·exact⟨n,by omega,h⟩
end
variable {n w i k:Nat} {f g:Nat→List Value}
theorem zhZ (h:∀ i,i<n→(f i).length=w) (hi:i<n) (hk:k<w):nthL (cF n f) (i*w+k)=nthL (f i) k:=by
 obtain⟨A,B,h2,h1,_⟩:=zmw h hi
 have hl:=h i hi
 rw[zI,zI,h1,List.getElem?_append_right (by omega),List.getElem?_append_left (by omega)]
 congr 1;omega
theorem zgX {m:Nat} (h:∀ i,i<n→(f i).length=w) (hi:i<n) (hk:k+m≤w):lpart (cF n f) (i*w+k) m=lpart (f i) k m:=by
 obtain⟨A,B,h2,h1,_⟩:=zmw h hi
 have hl:=h i hi
 have ht:(cF n f).length=n*w:=fX h
 have hb:i*w+w≤n*w:=by
  have:=Nat.mul_le_mul_right w (show i+1≤n by omega)
  rw[Nat.add_mul,Nat.one_mul] at this;exact this
 rw[qA (by omega),qA (by omega)]
 congr 1
 apply List.ext_getElem?
 intro j
 rw[List.getElem?_take,List.getElem?_take,List.getElem?_drop,List.getElem?_drop,h1]
 by_cases hj:j<m
 ·rw[if_pos hj,if_pos hj,List.getElem?_append_right (by omega),List.getElem?_append_left (by omega)]
  congr 1;omega
 ·rw[if_neg hj,if_neg hj]
theorem zhY {vs:List Value} (h:∀ i,i<n→(f i).length=w) (hi:i<n) (hk:k+vs.length≤w):spl (cF n f) (i*w+k) vs=cF n (upd f i (spl (f i) k vs)):=by
 have hl:=h i hi
 obtain⟨A,B,h1,h2,h3⟩:=zmw h hi
 rw[h3,h2,←h1,xX rfl]
 congr 1
 rw[xi _ _ _ (by rw[List.length_append];omega),xi _ _ _ (by omega),List.take_append_of_le_length (by omega),List.drop_append_of_le_length (by omega)]
 simp
theorem we {A B:List Value} {n j:Nat} (h:A.length=n):nthL (A++B) (n+j)=nthL B j:=zjD h
theorem zhz {A B:List Value} {j:Nat} (h:j<A.length):nthL (A++B) j=nthL A j:=by
 rw[zI,zI,List.getElem?_append_left h]
theorem xc {A B:List Value} {n j m:Nat} (h:A.length=n):lpart (A++B) (n+j) m=lpart B j m:=by
 by_cases hb:j+m≤B.length
 ·rw[qA (by simp;omega),qA hb]
  congr 1
  rw[←List.drop_drop,List.drop_left' h]
 ·unfold lpart
  have e1:Nat.ble (n+j+m) (A++B).length=false:=by
   cases hh:Nat.ble (n+j+m) (A++B).length
   ·rfl
   ·have:=Nat.le_of_ble_eq_true hh;simp at this;omega
  have e2:Nat.ble (j+m) B.length=false:=by
   cases hh:Nat.ble (j+m) B.length
   ·rfl
   ·have:=Nat.le_of_ble_eq_true hh;omega
  rw[e1,e2]
theorem kF {A B:List Value} {j m:Nat} (h:j+m≤A.length):lpart (A++B) j m=lpart A j m:=by
 rw[qA (by simp;omega),qA h]
 congr 1
 apply List.ext_getElem?
 intro x
 rw[List.getElem?_take,List.getElem?_take,List.getElem?_drop,List.getElem?_drop]
 by_cases hx:x<m
 ·rw[if_pos hx,if_pos hx,List.getElem?_append_left (by omega)]
 ·rw[if_neg hx,if_neg hx]
theorem zee {A B v:List Value} {j:Nat} (h:j+v.length≤A.length):spl (A++B) j v=spl A j v++B:=by
 rw[xi _ _ _ (by rw[List.length_append];omega),xi _ _ _ (by omega),List.take_append_of_le_length (by omega),List.drop_append_of_le_length (by omega),List.append_assoc,List.append_assoc,List.append_assoc]
theorem znO {d:Nat→List Int} {N f off n:Nat} (h:∀ f,f<N→(d f).length=256) (hf:f<N) (hn:off+n≤256):rdF (cF N d) f off n=rdB (d f) off n:=by
 obtain⟨A,B,h1,h2,_⟩:=zmw h hf
 have hl:=h f hf
 unfold rdF rdB
 rw[h2,show 256*f+off=A.length+off by omega,←List.drop_drop,List.drop_left' rfl]
 rw[List.drop_append_of_le_length (by omega),List.take_append_of_le_length (by rw[List.length_drop];omega)]
theorem zkZ {d:Nat→List Int} {N f off:Nat} {l:List Int} (h:∀ f,f<N→(d f).length=256) (hf:f<N) (hn:off+l.length≤256):wrF (cF N d) f off l=cF N (wr d f off l):=by
 obtain⟨A,B,h1,h2,h3⟩:=zmw h hf
 have hl:=h f hf
 unfold wrF wr
 rw[h3,h2,show 256*f+off=A.length+off by omega,List.take_length_add_append,Nat.add_assoc,←List.drop_drop,List.drop_left' rfl]
 rw[List.take_append_of_le_length (by omega),List.drop_append_of_le_length (by omega)]
 unfold spB
 simp
end
section
open Go Go.Pt
structure Pc (S:Mem) (ρ:Rho) (r b:Nat) (l:List Value):Prop where
 at_:At S b 0 l
 rol:ρ b=some r
section
variable {S S' S0:Mem} {ρ ρ' ρ0:Rho} {R:Nat→Prop} {r b:Nat} {l:List Value}
theorem Pc.keep (h:Pc S ρ r b l) (m:Mv S ρ S' ρ' R) (hr:¬R r):Pc S' ρ' r b l:=
 ⟨h.at_.keep (m.kp b h.at_.some fun r' e=>by rw[h.rol] at e;cases e;exact hr),m.ext b r h.rol⟩
theorem Pc.cell (h:Pc S ρ r b l) {x:Nat} (i:Nat) (hi:i<l.length) (hx:x=i):S.cell b x=nthL l i:=by
 subst hx
 have:=h.at_.cell hi
 rwa [Nat.zero_add] at this
theorem Pc.part (h:Pc S ρ r b l) {x n:Nat} (i:Nat) (hi:i+n≤l.length) (hx:x=i):S.part b x n=lpart l i n:=by
 subst hx
 have:=h.at_.part hi
 rwa [Nat.zero_add] at this
theorem Pc.ne {r' b':Nat} {l':List Value} (h:Pc S ρ r b l) (h':Pc S ρ r' b' l') (hr:r≠r'):b≠b':=fun e=>by
 have:=h.rol;rw[e,h'.rol] at this;cases this;exact hr rfl
theorem Pc.pt (h:Pc S ρ r b l) (hg:∀ b r,ρ b=some r→S b≠none) {x n:Nat} {vs:List Value} (i:Nat) (hn:n=vs.length) (hi:i+vs.length≤l.length) (hx:x=i) {K:Mem→Prop}
  (hK:∀ S',Mv S ρ S' ρ (· = r)→Pc S' ρ r b (spl l i vs)→K S'):Go.Pt.pt S b x n vs K:=by
 subst hx
 have e:x=0+x:=(Nat.zero_add x).symm
 rw[e]
 refine h.at_.pt (i:=x) hn hi ?_
 have hl:(spl l x vs).length=l.length:=qK hi
 exact hK _ (h.at_.mv (R:=(· = r)) (Mv.refl hg) h.rol rfl _) ⟨h.at_.put hl,h.rol⟩
end
def evL (e:Evt):List Value:=[.int .u8 e.kind,.int .i64 e.seat,.int .u64 e.a,.int .u64 e.b]
def lsL (l:Ls):List Value:=[.bool l.on,.int .i64 l.fr,.int .i64 l.pg,.int .i64 l.to,.bool l.wr,.int .i64 l.at_]
def owL (o:Ow):List Value:=[.int .u8 o.kind,.int .i64 o.vm,.int .i64 o.page,.int .i64 o.sh]
def cwL (r:Cw):List Value:=[.int .i64 r.vm,.int .i64 r.page,.bool true,.int .i64 r.f,.bool r.w]
def nL (l:List Nat):List Value:=l.map fun (n:Nat)=>Value.int .i64 n
def bI (f:Nat→Bool):Nat:=(f 0).toNat+2*(f 1).toNat+4*(f 2).toNat+8*(f 3).toNat+16*(f 4).toNat+32*(f 5).toNat
structure Vx where
 ss:Sl
 fs:Sl
 ks:Sl
 d:Nat→Sl
def vx0:Vx:=⟨⟨none,0,0⟩,⟨none,0,0⟩,⟨none,0,0⟩,fun _=>⟨none,0,0⟩⟩
def vmC (x:Vx) (v:Bv) (tf late:Int):List Value:=
 [.bool v.on,eL x.ss,.int .i64 tf,eL x.fs,.int .i64 v.quota,.int .u64 late,eL x.ks,eL (x.d 0),eL (x.d 1),eL (x.d 2),eL (x.d 3),.int .u32 (bI v.bells)]
theorem zii {x:Vx} {v:Bv} {tf late:Int}:(vmC x v tf late).length=12:=rfl
def knL (k:Kn) (x:Nat→Vx) (ob kb:Nat):List Value:=
 [.int .i64 k.form,.int .u64 k.now]++(cF 6 (fun i=>vmC (x i) (k.vm i) (k.tf i) (k.late i))++([eP (some (ob,0))]++(cF 16 (fun i=>lsL (k.ls i))++([eP (some (kb,0))]++cF 18 fun i=>[.int .i64 (k.turns i)]))))
section
variable {k:Kn} {x:Nat→Vx} {ob kb:Nat}
theorem jK:(cF 6 fun i=>vmC (x i) (k.vm i) (k.tf i) (k.late i)).length=72:=fX (w:=12) fun _ _=>rfl
theorem zcU:(cF 16 fun i=>lsL (k.ls i)).length=96:=fX (w:=6) fun _ _=>rfl
theorem zos:(cF 18 fun i=>[Value.int .i64 (k.turns i)]).length=18:=fX (w:=1) fun _ _=>rfl
theorem vb:(knL k x ob kb).length=190:=by
 unfold knL
 simp only[List.length_append,jK,zcU,zos,List.length_cons,List.length_nil]
theorem zqu {i j:Nat} (hi:i<6) (hj:j<12):nthL (knL k x ob kb) (2+(i*12+j))=nthL (vmC (x i) (k.vm i) (k.tf i) (k.late i)) j:=by
 unfold knL
 rw[we (n:=2) rfl,zhz (by rw[jK];omega)]
 exact zhZ (w:=12) (fun _ _=>rfl) hi hj
theorem zoR {i j m:Nat} (hi:i<6) (hj:j+m≤12):lpart (knL k x ob kb) (2+(i*12+j)) m=lpart (vmC (x i) (k.vm i) (k.tf i) (k.late i)) j m:=by
 unfold knL
 rw[xc (n:=2) rfl,kF (by rw[jK];omega)]
 exact zgX (w:=12) (fun _ _=>rfl) hi hj
theorem znQ:nthL (knL k x ob kb) 74=some (eP (some (ob,0))):=by
 unfold knL
 rw[show 74=2+(72+0) by rfl,we (n:=2) rfl,we (n:=72) jK];rfl
theorem zoS:lpart (knL k x ob kb) 75 96=some (cF 16 fun i=>lsL (k.ls i)):=by
 unfold knL
 rw[show 75=2+(72+(1+0)) by omega,xc (n:=2) rfl,xc (n:=72) jK,xc (n:=1) rfl,kF (by rw[zcU];omega)]
 have:=ze (zcU (k:=k));exact this
theorem zqv:nthL (knL k x ob kb) 171=some (eP (some (kb,0))):=by
 unfold knL
 rw[show 171=2+(72+(1+(96+0))) by omega,we (n:=2) rfl,we (n:=72) jK,we (n:=1) rfl,we (n:=96) zcU];rfl
theorem zlZ {i j:Nat} {vs:List Value} (hi:i<6) (hj:j+vs.length≤12) {x':Vx} {v':Bv} {tf' late':Int} {fr':List Nat} (he:spl (vmC (x i) (k.vm i) (k.tf i) (k.late i)) j vs=vmC x' v' tf' late') :
  spl (knL k x ob kb) (2+(i*12+j)) vs=knL { k with vm:=upd k.vm i v',tf:=upd k.tf i tf',late:=upd k.late i late',fr:=upd k.fr i fr' } (upd x i x') ob kb:=by
 unfold knL
 rw[xX (n:=2) rfl,zee (by rw[jK];omega),zhY (w:=12) (fun _ _=>rfl) hi hj,he]
 have e:cF 6 (upd (fun i=>vmC (x i) (k.vm i) (k.tf i) (k.late i)) i (vmC x' v' tf' late'))=cF 6 fun n=>vmC (upd x i x' n) (upd k.vm i v' n) (upd k.tf i tf' n) (upd k.late i late' n):=jF fun n _=>by
  by_cases e:n=i
  ·subst e;simp only[zl]
  ·simp only[zh e]
 rw[e]
theorem zlY {ls':Nat→Ls}:spl (knL k x ob kb) 75 (cF 16 fun i=>lsL (ls' i))=knL { k with ls:=ls' } x ob kb:=by
 unfold knL
 have e:(cF 16 fun i=>lsL (ls' i)).length=96:=fX (w:=6) fun _ _=>rfl
 rw[show 75=2+(72+(1+0)) by omega,xX (n:=2) rfl,xX (n:=72) jK,xX (n:=1) rfl,zee (by rw[zcU];omega),zgu (by rw[zcU,e])]
theorem zky {t:Int}:spl (knL k x ob kb) 1 [.int .u64 t]=knL { k with now:=t } x ob kb:=rfl
end
end
end Go.Cr
section
namespace Go.Pt
open Go Go.RowKit Go.Cr
section
variable {S S':Mem} {ρ ρ':Rho} {r w:Nat} {s:Sl} {l:List Value}
theorem Rw.some (h:Rw S ρ r w s l) (h0:0<l.length):∃ c,s.p=Option.some (c,0):=by
 rcases h.row.lie with ⟨_,h2⟩ | ⟨b,k,h1,_⟩
 ·have h4:=h.row.len
  have h3:=h.row.cap
  have hn:s.n=0:=by omega
  rw[hn,Nat.zero_mul] at h4
  omega
 ·exact⟨b,h1⟩
theorem Rw.cell (h:Rw S ρ r w s l) {c:Nat} (hc:s.p=Option.some (c,0)) {x:Nat} (i:Nat) (hi:i<l.length) (hx:x=i):S.cell c x=nthL l i:=by
 subst hx
 have hl:=h.row.len
 rcases h.row.lie with ⟨h1,_⟩ | ⟨b,k,h1,h2,h3,h4,h5⟩
 ·rw[h1] at hc;cases hc
 ·rw[h1] at hc;cases hc
  rw[qj h2,zI,zI,←h5,List.getElem?_take,if_pos (by omega)]
theorem Rw.part (h:Rw S ρ r w s l) {c:Nat} (hc:s.p=Option.some (c,0)) {x n:Nat} (i:Nat) (hi:i+n≤l.length) (hx:x=i):S.part c x n=lpart l i n:=by
 subst hx
 have hl:=h.row.len
 have hcap:=h.row.cap
 rcases h.row.lie with ⟨h1,_⟩ | ⟨b,k,h1,h2,h3,h4,h5⟩
 ·rw[h1] at hc;cases hc
 ·rw[h1] at hc;cases hc
  have hm:s.n*w≤s.c*w:=Nat.mul_le_mul_right _ hcap
  rw[yp h2,qA (by omega),qA hi]
  congr 1
  apply List.ext_getElem?
  intro j
  rw[List.getElem?_take,List.getElem?_take,List.getElem?_drop,List.getElem?_drop]
  by_cases hj:j<n
  ·rw[if_pos hj,if_pos hj,←h5,List.getElem?_take,if_pos (by omega)]
  ·rw[if_neg hj,if_neg hj]
theorem Rw.pt (h:Rw S ρ r w s l) (hg:∀ b r,ρ b=Option.some r→S b≠none) {c:Nat} (hc:s.p=Option.some (c,0)) {x n:Nat} {vs:List Value} (i:Nat) (hn:n=vs.length) (hi:i+vs.length≤l.length) (hx:x=i) {K:Mem→Prop}
  (hK:∀ S',Mv S ρ S' ρ (· = r)→Rw S' ρ r w s (spl l i vs)→K S'):Go.Pt.pt S c x n vs K:=by
 subst hx
 have hl:=h.row.len
 have hcap:=h.row.cap
 have hr:=h.rol c 0 hc
 rcases h.row.lie with ⟨h1,_⟩ | ⟨b,k,h1,h2,h3,h4,h5⟩
 ·rw[h1] at hc;cases hc
 ·rw[h1] at hc;cases hc
  have hm:s.n*w≤s.c*w:=Nat.mul_le_mul_right _ hcap
  refine⟨⟨k,h2,h3,by omega⟩,?_⟩
  rw[kN h2]
  refine hK _ (Mv.put (R:=(· = r)) (Mv.refl hg) hr rfl _) ⟨⟨by rw[qK hi];exact hl,hcap,.inr ⟨c,_,h1,zz,h3,?_,?_⟩⟩,h.rol⟩
  ·simp only;rw[qK (by omega)];exact h4
  ·simp only
   rw[←h5]
   have hkl:k.cs=k.cs.take (s.n*w)++k.cs.drop (s.n*w):=(List.take_append_drop _ _).symm
   have h6:(k.cs.take (s.n*w)).length=s.n*w:=by rw[List.length_take];omega
   have e:spl k.cs x vs=spl (k.cs.take (s.n*w)) x vs++k.cs.drop (s.n*w):=by
    conv=>lhs;rw[hkl]
    exact zee (by omega)
   rw[e,List.take_left' (by rw[qK (by omega)];exact h6)]
theorem Rw.n (h:Rw S ρ r w s l) (hw:0<w) {m:Nat} (hm:l.length=m*w):s.n=m:=by
 have:=h.row.len
 rw[hm] at this
 exact (Nat.eq_of_mul_eq_mul_right hw this).symm
theorem Rw.sl (h:Rw S ρ r w s l) (h0:0<l.length):∃ c,s=⟨Option.some (c,0),s.n,s.c⟩∧s.p=Option.some (c,0):=by
 obtain⟨c,hc⟩:=h.some h0
 refine⟨c,?_,hc⟩
 obtain⟨p,n,c'⟩:=s
 simp only at hc;rw[hc]
theorem Rw.keeps (h:Rw S ρ r w s l) (hk:Keeps S S' []):Rw S' ρ r w s l:=
 ⟨h.row.keep fun b hb=>by
  rcases h.row.lie with ⟨h1,_⟩ | ⟨b',k,h1,h2,_⟩
  ·rw[h1] at hb;cases hb
  ·rw[h1] at hb;cases hb;exact hk b (by rw[h2];simp) (by simp),h.rol⟩
end
end Go.Pt
namespace Go.Cr
open Go Go.Pt
theorem Pc.keeps {S S':Mem} {ρ:Rho} {r b:Nat} {l:List Value} (h:Pc S ρ r b l) (hk:Keeps S S' []):Pc S' ρ r b l:=
 ⟨h.at_.keep (hk b h.at_.some (by simp)),h.rol⟩
structure OwnP (S:Mem) (ρ:Rho) (ob N:Nat) (own:Nat→Ow):Prop where
 ex:∃ rs,Pc S ρ 8 ob [eL rs]∧Rw S ρ 9 4 rs (cF N fun f=>owL (own f))
theorem xB {own:Nat→Ow} {N:Nat}:(cF N fun f=>owL (own f)).length=N*4:=fX (w:=4) fun _ _=>rfl
section
variable {S S':Mem} {ρ ρ':Rho} {R:Nat→Prop} {ob N:Nat} {own:Nat→Ow}
theorem OwnP.keep (h:OwnP S ρ ob N own) (m:Mv S ρ S' ρ' R) (h8:¬R 8) (h9:¬R 9):OwnP S' ρ' ob N own:=by
 obtain⟨rs,h1,h2⟩:=h.ex
 exact⟨rs,h1.keep m h8,h2.keep m h9⟩
theorem OwnP.keeps (h:OwnP S ρ ob N own) (hk:Keeps S S' []):OwnP S' ρ ob N own:=by
 obtain⟨rs,h1,h2⟩:=h.ex
 exact⟨rs,h1.keeps hk,h2.keeps hk⟩
end
end Go.Cr
end
section
namespace Go.Cr
open Go Go.Pt
def shC (own:Nat→Ow) (f:Nat) (n:Int):Nat→Ow:=if (own f).kind=3∧(own f).vm=n then upd own f { own f with sh:=(own f).sh+1 } else own
def unshC (own:Nat→Ow) (f:Nat) (n:Int):Nat→Ow:=if (own f).kind=3∧(own f).vm=n∧(own f).sh≠0 then upd own f { own f with sh:=(own f).sh-1 } else own
def recC (own:Nat→Ow) (f:Nat) (n:Int):Nat→Ow:=if (own f).kind=3∧(own f).vm=n∧(own f).sh≤0 then upd own f ow0 else own
def relC (own:Nat→Ow) (f:Nat):Nat→Ow:=if (own f).kind=3∨(own f).kind=0 then own else upd own f ow0
theorem zqn {own:Nat→Ow} {N f:Nat} (hf:f<N) {o:Ow} {j:Nat} {vs:List Value} (hj:j+vs.length≤4) (he:spl (owL (own f)) j vs=owL o):spl (cF N fun g=>owL (own g)) (f*4+j) vs=cF N fun g=>owL (upd own f o g):=by
 rw[zhY (w:=4) (fun _ _=>rfl) hf hj,he]
 refine jF fun g _=>?_
 by_cases e:g=f
 ·subst e;simp only[zl]
 ·simp only[zh e]
theorem zcm {own:Nat→Ow} {N f j:Nat} (hf:f<N) (hj:j<4):nthL (cF N fun g=>owL (own g)) (f*4+j)=nthL (owL (own f)) j:=zhZ (w:=4) (fun _ _=>rfl) hf hj
theorem ziF {own:Nat→Ow} {N f:Nat} (hf:f<N):lpart (cF N fun g=>owL (own g)) (f*4) 4=some (owL (own f)):=by
 have:=zgX (w:=4) (k:=0) (m:=4) (n:=N) (f:=fun g=>owL (own g)) (fun _ _=>rfl) hf (by decide)
 rw[Nat.add_zero] at this
 rw[this];rfl
end Go.Cr
namespace Go.Proofs.YthaiblbnpcgjpaaGreatDoor
open Go Go.Pt Go.Cr
section
variable {S:Mem} {ρ:Rho} {ob N:Nat} {own:Nat→Ow}
theorem zcj (h:OwnP S ρ ob N own) {f:Nat} (hf:f<N) {Q:Pt→Int→Mem→Prop} (hQ:∀ rs rb,Pc S ρ 8 ob [eL rs]→Rw S ρ 9 4 rs (cF N fun f=>owL (own f))→rs.p=some (rb,0)→Q (some (rb,0+f*4)) 0 S):qV S (some (ob,0)) f Q:=by
 obtain⟨rs,h1,h2⟩:=h.ex
 have hn:=h2.n (by decide) xB
 obtain⟨rb,e1,e2⟩:=h2.sl (by rw[xB];omega)
 have hc:S.cell ob 0=some (eL rs):=h1.cell 0 (by simp) rfl
 apply fg
 unfold xG
 simp only[jn]
 rw[if_neg (by simp),if_neg (by omega),zL,wj hc,if_neg (by omega),zL,wj hc,e1,fi]
 refine⟨by omega,by omega,?_⟩
 rw[Int.toNat_natCast]
 exact hQ rs rb h1 h2 e2
theorem zcs (h:OwnP S ρ ob N own) {f:Nat} (hf:f<N) {Q:List Value→Int→Mem→Prop} (hQ:Q (owL (own f)) 0 S):qW S (some (ob,0)) f Q:=by
 apply fh
 unfold xH
 refine zcj h hf fun rs rb h1 h2 hb=>?_
 rw[if_neg (by decide),zL,xa (by rw[h2.part hb (f*4) (by rw[xB];omega) (by omega)];exact ziF hf)]
 exact⟨rfl,hQ⟩
theorem wrow {rs:Sl} {rb f j n x:Nat} {vs:List Value} {o:Ow} (h1:Pc S ρ 8 ob [eL rs]) (h2:Rw S ρ 9 4 rs (cF N fun f=>owL (own f))) (hb:rs.p=some (rb,0)) (hg:∀ b r,ρ b=some r→S b≠none) (hf:f<N) (hn:n=vs.length) (hj:j+vs.length≤4) (hx:x=f*4+j) (he:spl (owL (own f)) j vs=owL o) {K:Mem→Prop}
  (hK:∀ S',Mv S ρ S' ρ (· = 9)→Pc S' ρ 8 ob [eL rs]→Rw S' ρ 9 4 rs (cF N fun g=>owL (upd own f o g))→K S'):pt S rb x n vs K:=
 h2.pt hg hb (f*4+j) hn (by rw[xB];omega) hx fun S' m h3=>hK S' m (h1.keep m (by decide)) (by rw[zqn hf hj he] at h3;exact h3)
theorem zoq {n p:Nat} (hn:n<6) (hp:p<32) {Q:Bool→Mem→Prop} (hQ:Q true S):zgE S n p Q:=by
 apply zka
 unfold zdp
 rw[if_pos (by omega),if_pos (by omega),if_pos (by omega),decide_eq_true (by omega)]
 exact hQ
theorem ziU (h:OwnP S ρ ob N own) (hg:∀ b r,ρ b=some r→S b≠none) {f n p:Nat} (hf:f<N) (hn:n<6) (hp:p<32) {Q:Int→Mem→Prop} (hQ:∀ e S',Mv S ρ S' ρ (· = 9)→OwnP S' ρ ob N (donC own f n p)→Q e S'):wZ S (some (ob,0)) f n p Q:=by
 apply zbd
 unfold xO
 refine zcj h hf fun rs rb h1 h2 hb=>?_
 simp only[jn]
 rw[if_neg (by decide)]
 refine zoq hn hp ?_
 rw[if_pos rfl,zL,zx (by rw[h2.cell hb (f*4) (by rw[xB];omega) (by omega)];exact zcm (j:=0) hf (by decide))]
 unfold donC at hQ
 by_cases hk:(own f).kind=0
 ·rw[if_pos hk] at hQ
  rw[if_neg (fun h=>h hk),zL]
  exact wrow (j:=0) h1 h2 hb hg hf (by rfl) (by simp) (by omega) (by rfl) fun S' m h3 h4=>hQ _ S' m ⟨rs,h3,h4⟩
 ·rw[if_neg hk] at hQ
  rw[if_pos hk]
  exact hQ _ S (Mv.refl hg) ⟨rs,h1,h2⟩
theorem zgc (h:OwnP S ρ ob N own) (hg:∀ b r,ρ b=some r→S b≠none) {f:Nat} {n:Int} (hf:f<N) (hn:n<6) {Q:Int→Mem→Prop} (hQ:∀ e S',Mv S ρ S' ρ (· = 9)→OwnP S' ρ ob N (keepC own f n)→Q e S'):yg S (some (ob,0)) f n Q:=by
 apply zcC
 unfold vj
 refine zcj h hf fun rs rb h1 h2 hb=>?_
 simp only[jn]
 rw[if_neg (by decide),if_neg (by omega),zL,zx (by rw[h2.cell hb (f*4) (by rw[xB];omega) (by omega)];exact zcm (j:=0) hf (by decide))]
 unfold keepC at hQ
 by_cases hk:(own f).kind=0
 ·rw[if_pos hk] at hQ
  rw[if_neg (fun h=>h hk),zL]
  refine wrow (j:=0) (o:=⟨1,0,0,0⟩) h1 h2 hb hg hf (by rfl) (by simp) (by omega) (by rfl) fun S' m h3 h4=>?_
  by_cases h0:0≤n
  ·rw[if_pos h0] at hQ
   rw[if_pos h0]
   refine wrow (j:=0) (o:=⟨2,n,0,0⟩) (vs:=[.int .u8 2,.int .i64 n,.int .i64 0,.int .i64 0]) h3 h4 hb m.rg hf rfl (by simp) (by omega) rfl fun S2 m2 h5 h6=>hQ _ S2 (m.trans m2) ⟨rs,h5,?_⟩
   rw[gq] at h6;exact h6
  ·rw[if_neg h0] at hQ
   rw[if_neg h0]
   exact hQ _ S' m ⟨rs,h3,h4⟩
 ·rw[if_neg hk] at hQ
  rw[if_pos hk]
  exact hQ _ S (Mv.refl hg) ⟨rs,h1,h2⟩
theorem zcT (h:OwnP S ρ ob N own) {f:Nat} {n:Int} (hf:f<N) {Q:Pt→Int→Mem→Prop}
  (hY:(own f).kind=3→(own f).vm=n→∀ rs rb,Pc S ρ 8 ob [eL rs]→Rw S ρ 9 4 rs (cF N fun f=>owL (own f))→rs.p=some (rb,0)→Q (some (rb,0+f*4)) 0 S) (hN:¬((own f).kind=3∧(own f).vm=n)→Q none 7 S):yS S (some (ob,0)) f n Q:=by
 apply zcB
 unfold vi
 refine zcj h hf fun rs rb h1 h2 hb=>?_
 simp only[jn]
 rw[if_neg (by decide),zL,zx (by rw[h2.cell hb (f*4) (by rw[xB];omega) (by omega)];exact zcm (j:=0) hf (by decide))]
 by_cases hk:(own f).kind=3
 ·rw[if_neg (fun h=>h hk),zx (by rw[h2.cell hb (f*4+1) (by rw[xB];omega) (by omega)];exact zcm (j:=1) hf (by decide))]
  by_cases hv:(own f).vm=n
  ·rw[if_neg (fun h=>h hv)];exact hY hk hv rs rb h1 h2 hb
  ·rw[if_pos hv];exact hN fun h=>hv h.2
 ·rw[if_pos hk];exact hN fun h=>hk h.1
theorem zkf (h:OwnP S ρ ob N own) (hg:∀ b r,ρ b=some r→S b≠none) {f:Nat} {n:Int} (hf:f<N) (hb0:0≤(own f).sh∧(own f).sh≤1000000) {Q:Int→Mem→Prop} (hQ:∀ e S',Mv S ρ S' ρ (· = 9)→OwnP S' ρ ob N (shC own f n)→Q e S'):vF S (some (ob,0)) f n Q:=by
 apply zbS
 unfold wy
 unfold shC at hQ
 refine zcT h hf (fun hk hv rs rb h1 h2 hb=>?_) fun hn=>?_
 ·rw[if_pos ⟨hk,hv⟩] at hQ
  rw[if_pos rfl,zL,zx (by rw[h2.cell hb (f*4+3) (by rw[xB];omega) (by omega)];exact zcm (j:=3) hf (by decide)),w64 (by omega) (by omega)]
  exact wrow (j:=3) (o:={ own f with sh:=(own f).sh+1 }) h1 h2 hb hg hf (by rfl) (by simp) (by omega) (by rfl) fun S' m h3 h4=>hQ _ S' m ⟨rs,h3,h4⟩
 ·rw[if_neg hn] at hQ
  rw[if_neg (by decide)]
  exact hQ _ S (Mv.refl hg) h
theorem zds (h:OwnP S ρ ob N own) (hg:∀ b r,ρ b=some r→S b≠none) {f:Nat} {n:Int} (hf:f<N) (hb0:0≤(own f).sh∧(own f).sh≤1000000) {Q:Int→Mem→Prop} (hQ:∀ e S',Mv S ρ S' ρ (· = 9)→OwnP S' ρ ob N (unshC own f n)→((own f).kind=3∧(own f).vm=n∧(own f).sh≠0→e=0)→Q e S'):qQ S (some (ob,0)) f n Q:=by
 apply zaF
 unfold xq
 unfold unshC at hQ
 refine zcT h hf (fun hk hv rs rb h1 h2 hb=>?_) fun hn=>?_
 ·simp only[jn]
  rw[if_neg (by decide),zL,zx (by rw[h2.cell hb (f*4+3) (by rw[xB];omega) (by omega)];exact zcm (j:=3) hf (by decide))]
  by_cases hs:(own f).sh=0
  ·rw[if_neg (fun h=>h.2.2 hs)] at hQ
   rw[if_pos hs]
   exact hQ _ S (Mv.refl hg) ⟨rs,h1,h2⟩ fun h=>absurd hs h.2.2
  ·rw[if_pos ⟨hk,hv,hs⟩] at hQ
   rw[if_neg hs,zL,zx (by rw[h2.cell hb (f*4+3) (by rw[xB];omega) (by omega)];exact zcm (j:=3) hf (by decide)),w64 (by omega) (by omega)]
   exact wrow (j:=3) (o:={ own f with sh:=(own f).sh-1 }) h1 h2 hb hg hf (by rfl) (by simp) (by omega) (by rfl) fun S' m h3 h4=>hQ _ S' m ⟨rs,h3,h4⟩ fun _=>rfl
 ·rw[if_neg (fun h=>hn ⟨h.1,h.2.1⟩)] at hQ
  simp only[jn]
  rw[if_pos (by decide)]
  exact hQ _ S (Mv.refl hg) h fun h=>absurd ⟨h.1,h.2.1⟩ hn
theorem zdw (h:OwnP S ρ ob N own) (hg:∀ b r,ρ b=some r→S b≠none) {f:Nat} {n:Int} (hf:f<N) {Q:Int→Mem→Prop} (hQ:∀ e S',Mv S ρ S' ρ (· = 9)→OwnP S' ρ ob N (recC own f n)→Q e S'):yM S (some (ob,0)) f n Q:=by
 apply zaH
 unfold xu
 unfold recC at hQ
 refine zcT h hf (fun hk hv rs rb h1 h2 hb=>?_) fun hn=>?_
 ·simp only[jn]
  rw[if_neg (by decide),zL,zx (by rw[h2.cell hb (f*4+3) (by rw[xB];omega) (by omega)];exact zcm (j:=3) hf (by decide))]
  by_cases hs:0<(own f).sh
  ·rw[if_neg (fun h=>by omega)] at hQ
   rw[if_pos hs]
   exact hQ _ S (Mv.refl hg) ⟨rs,h1,h2⟩
  ·rw[if_pos ⟨hk,hv,by omega⟩] at hQ
   rw[if_neg hs,zL]
   exact wrow (j:=0) (o:=ow0) h1 h2 hb hg hf (by rfl) (by simp) (by omega) (by rfl) fun S' m h3 h4=>hQ _ S' m ⟨rs,h3,h4⟩
 ·rw[if_neg (fun h=>hn ⟨h.1,h.2.1⟩)] at hQ
  simp only[jn]
  rw[if_pos (by decide)]
  exact hQ _ S (Mv.refl hg) h
theorem zhr (h:OwnP S ρ ob N own) (hg:∀ b r,ρ b=some r→S b≠none) {f:Nat} (hf:f<N) {Q:Int→Mem→Prop} (hQ:∀ e S',Mv S ρ S' ρ (· = 9)→OwnP S' ρ ob N (relC own f)→Q e S'):wc S (some (ob,0)) f Q:=by
 apply zaG
 unfold xr
 unfold relC at hQ
 refine zcj h hf fun rs rb h1 h2 hb=>?_
 simp only[jn]
 have e0:=(h2.cell hb (f*4) (by rw[xB];omega) (show 0+f*4=f*4 by omega)).trans (zcm (own:=own) (j:=0) hf (by decide))
 rw[if_neg (by decide),zL,zx e0]
 by_cases h3:(own f).kind=3
 ·rw[if_pos (.inl h3)] at hQ
  rw[if_pos h3]
  exact hQ _ S (Mv.refl hg) h
 ·rw[if_neg h3,zx e0]
  by_cases h0:(own f).kind=0
  ·rw[if_pos (.inr h0)] at hQ
   rw[if_pos h0]
   exact hQ _ S (Mv.refl hg) h
  ·rw[if_neg (fun h=>h.elim h3 h0)] at hQ
   rw[if_neg h0,zL]
   exact wrow (j:=0) (o:=ow0) h1 h2 hb hg hf (by rfl) (by simp) (by omega) (by rfl) fun S' m h3 h4=>hQ _ S' m ⟨rs,h3,h4⟩
theorem gk (h:OwnP S ρ ob N own) (hN:N≤512) {kind n:Int} {Q:Int→Mem→Prop} (hQ:Q (count (fun f=>decide ((own f).kind=kind) && (decide (kind<2) || decide ((own f).vm=n))) N) S):qP S (some (ob,0)) kind n Q:=by
 obtain⟨rs,h1,h2⟩:=h.ex
 have hn:=h2.n (by decide) xB
 have hc:S.cell ob 0=some (eL rs):=h1.cell 0 (by simp) rfl
 apply zbT
 unfold wz
 simp only[jn]
 rw[if_neg (by simp),zL,wj hc]
 refine zC (fun (z:Int×Int) S'=>∃ i:Nat,z=(((count (fun f=>decide ((own f).kind=kind) && (decide (kind<2) || decide ((own f).vm=n))) i:Nat):Int),(i:Int))∧i≤N∧S'=S) (fun z=>N-z.2.toNat) ?_ ⟨0,rfl,by omega,rfl⟩
 rintro X z S' ⟨i,rfl,hi,rfl⟩ ih
 dsimp only at ih ⊢
 have hcl:=kD (fun f=>decide ((own f).kind=kind) && (decide (kind<2) || decide ((own f).vm=n))) i
 by_cases hlt:(i:Int)<(rs.n:Int)
 ·obtain⟨rb,e1,e2⟩:=h2.sl (by rw[xB];omega)
  rw[if_pos hlt]
  rw[e1,fi]
  refine⟨by omega,by omega,?_⟩
  rw[Int.toNat_natCast,xa (by rw[h2.part e2 (i*4) (by rw[xB];omega) (by omega)];exact ziF (by omega))]
  refine⟨rfl,?_⟩
  rw[zx (show nthL (owL (own i)) 0=some (.int .u8 (own i).kind) from rfl),w64 (x:=(i:Int)+1) (by omega) (by omega),w64 (x:=(_:Int)+1) (by omega) (by omega)]
  have hs:=qG (fun f=>decide ((own f).kind=kind) && (decide (kind<2) || decide ((own f).vm=n))) i
  by_cases hk:(own i).kind=kind
  ·rw[if_pos hk]
   by_cases h2':kind<2
   ·rw[if_pos h2']
    refine ih _ S' ⟨i+1,?_,by omega,rfl⟩ (by dsimp only;omega)
    rw[hs];simp[hk,h2']
   ·rw[if_neg h2',zx (show nthL (owL (own i)) 1=some (.int .i64 (own i).vm) from rfl)]
    by_cases hv:(own i).vm=n
    ·rw[if_pos hv]
     refine ih _ S' ⟨i+1,?_,by omega,rfl⟩ (by dsimp only;omega)
     rw[hs];simp[hk,hv]
    ·rw[if_neg hv]
     refine ih _ S' ⟨i+1,?_,by omega,rfl⟩ (by dsimp only;omega)
     rw[hs];simp[hv,h2']
  ·rw[if_neg hk]
   refine ih _ S' ⟨i+1,?_,by omega,rfl⟩ (by dsimp only;omega)
   rw[hs];simp[hk]
 ·rw[if_neg hlt]
  have:i=N:=by omega
  subst this;exact hQ
end
end Go.Proofs.YthaiblbnpcgjpaaGreatDoor
end
namespace Go.Cr
section
open Go Go.Pt
section
variable {C:Cst} {W:Wd} {φ:Nat→Nat→Nat}
theorem WOk.setL (h:WOk W) {i:Nat} {l:Ls} (hi:i<16)
  (h1:l.on=true→(W.vm l.fr).on=true∧(W.vm l.to).on=true∧l.fr≠l.to∧(W.own l.fr l.pg).isSome=true∧-1≤l.at_∧l.at_≤31) (h2:l.on=false→l=ls0) (h3:l.on=true→∀ p:Nat,l.at_=p→W.own l.to p=none)
  (h4:l.on=true→0≤l.at_→∀ j,j≠i→(W.ls j).on=true→(W.ls j).to=l.to→(W.ls j).at_≠l.at_):WOk (W.setL i l):=by
 have e0:(W.setL i l).ls i=l:=zl
 have e1:∀ j,j≠i→(W.setL i l).ls j=W.ls j:=fun j hj=>zh hj
 refine { h with lsr:=fun j hj=>?_,lso:=fun j hj=>?_,lsa:=fun j hj=>?_,lsu:=fun j k hj hk ht h0 ha=>?_ }
 ·by_cases e:j=i
  ·subst e;rw[e0] at hj ⊢;exact⟨hi,h1 hj⟩
  ·rw[e1 j e] at hj ⊢;exact h.lsr j hj
 ·by_cases e:j=i
  ·subst e;rw[e0] at hj ⊢;exact h2 hj
  ·rw[e1 j e] at hj ⊢;exact h.lso j hj
 ·by_cases e:j=i
  ·subst e;rw[e0] at hj ⊢;exact h3 hj
  ·rw[e1 j e] at hj ⊢;exact h.lsa j hj
 ·by_cases e:j=i
  ·by_cases e2:k=i
   ·rw[e,e2]
   ·subst e
    rw[e0] at hj h0 ht ha
    rw[e1 k e2] at hk ht ha
    exact absurd ha.symm (h4 hj h0 k e2 hk ht.symm)
  ·by_cases e2:k=i
   ·subst e2
    rw[e0] at hk ht ha
    rw[e1 j e] at hj ht h0 ha
    exact absurd ha (h4 hk (by omega) j e hj ht)
   ·rw[e1 j e] at hj ht h0 ha
    rw[e1 k e2] at hk ht ha
    exact h.lsu j k hj hk ht h0 ha
theorem zkE {p q:Nat→Bool} {n:Nat} (h:∀ i,i<n→p i=q i):(List.range n).find? p=(List.range n).find? q:=by
 have:=zfE (u:=fun i=>! p i) (u':=fun i=>! q i) (N:=n) fun i hi=>by rw[h i hi]
 simpa [firstOff] using this
theorem zfc {ls:Nat→Ls} {i:Nat} {l:Ls} {m:Nat} {p:Int} (h1:¬((ls i).on=true∧(ls i).to=m∧(ls i).at_=p)) (h2:¬(l.on=true∧l.to=m∧l.at_=p)):leaseAt (upd ls i l) m p=leaseAt ls m p:=by
 unfold leaseAt
 apply zkE
 intro j _
 by_cases e:j=i
 ·subst e
  rw[zl]
  rw[Bool.eq_iff_iff]
  simp only[Bool.and_eq_true,decide_eq_true_eq]
  exact⟨fun h=>absurd h h2,fun h=>absurd h h1⟩
 ·rw[zh e]
theorem qR {ls:Nat→Ls} {m i:Nat} {p:Int} (h:leaseAt ls m p=some i):i<16∧(ls i).on=true∧(ls i).to=m∧(ls i).at_=p:=by
 have h1:=List.find?_some h
 have h2:=List.mem_of_find?_eq_some h
 simp only[Bool.and_eq_true,decide_eq_true_eq] at h1
 exact⟨List.mem_range.1 h2,h1⟩
theorem zat (h:WOk W) {i:Nat} {p:Int} (hon:(W.ls i).on=true) (ha:(W.ls i).at_=p) (h0:0≤p):leaseAt W.ls (W.ls i).to p=some i:=by
 have hi:=(h.lsr i hon).1
 cases hf:leaseAt W.ls (W.ls i).to p with
 | none=>
  have:=List.find?_eq_none.1 hf i (List.mem_range.2 hi)
  simp[hon,ha] at this
 | some j=>
  obtain⟨_,h1,h2,h3⟩:=qR hf
  rw[h.lsu i j hon h1 h2.symm (by omega) (by rw[ha,h3])]
theorem zco {ls:Nat→Ls} {i:Nat} (hi:i<16) (l:Ls) (n p:Nat):lentN (upd ls i l) n p+((ls i).on && (decide ((ls i).fr=n) && decide ((ls i).pg=p))).toNat=lentN ls n p+(l.on && (decide (l.fr=n) && decide (l.pg=p))).toNat:=by
 unfold lentN
 have e:(fun j=>(upd ls i l j).on && (decide ((upd ls i l j).fr=n) && decide ((upd ls i l j).pg=p)))=upd (fun j=>(ls j).on && (decide ((ls j).fr=n) && decide ((ls j).pg=p))) i (l.on && (decide (l.fr=n) && decide (l.pg=p))):=by
  funext j
  unfold upd
  split <;> rfl
 rw[e]
 exact kZ (g:=fun j=>(ls j).on && (decide ((ls j).fr=n) && decide ((ls j).pg=p))) hi _
theorem zla {d:Nat→List Int} {N:Nat} {tf:Int} {fr:List Nat} (hl:fr.length=5) (hN:∀ j,j<5→fr.getD j 0<N) (hr:∀ j,j<4→unp tf (ld d (fr.getD 0 0) j)=some (fr.getD (j+1) 0,true)) {p:Nat} (hp:p<32):walkC d N tf fr p=unp tf (ld d (fr.getD (p/8+1) 0) (p%8)):=by
 have h1:=hr (p/8) (by omega)
 have h2:=hN (p/8+1) (by omega)
 have h3:=hN 0 (by decide)
 match fr,hl with
 | [a,b,c,e,g],_=>
  unfold walkC leafC
  rw[if_neg (by omega)]
  dsimp only
  rw[List.getD_cons_zero] at h1 h3
  have e1:((p:Int)/8).toNat=p/8:=by omega
  have e2:((p:Int)%8).toNat=p%8:=by omega
  rw[if_pos h3,e1,e2,h1]
  dsimp only [Option.map_some]
  rw[if_pos h2]
structure Tu (C:Cst) (n p:Nat) (w:Int) (d:Nat→List Int):Prop where
 ld:∀ m j i,C.fr m≠[]→j<5→i<32→Go.Cr.ld d ((C.fr m).getD j 0) i=if m=n∧j=p/8+1∧i=p%8 then w else Go.Cr.ld C.dat ((C.fr m).getD j 0) i
 oth:∀ f,(C.own f).kind≠2→d f=C.dat f
 len:∀ f,f<C.N→(d f).length=256∧Byt (d f)
theorem Rel.tu (h:Rel C W φ) {n p:Nat} (hn:(W.vm n).on=true) (hp:p<32) {w:Int} (hw:W64 w):Tu C n p w (setC C.dat C.N (C.tf n) (C.fr n) p w):=by
 have e:setC C.dat C.N (C.tf n) (C.fr n) p w=wr C.dat ((C.fr n).getD (p/8+1) 0) (8*(p%8)) (bytes8 w):=by
  unfold setC
  rw[h.leafC hn hp]
  dsimp only
  rw[if_pos (h.frN hn (by omega)).1]
 have hf:=h.frN hn (j:=p/8+1) (by omega)
 have hl:=(h.len _ hf.1).1
 have h8:=xf w
 rw[e]
 refine⟨fun m j i hm hj hi=>?_,fun f hk=>zpX fun e2=>?_,fun f hf'=>⟨by rw[zjh (by rw[hl,h8];omega)];exact (h.len f hf').1,zji (kJ w) (h.len f hf').2⟩⟩
 ·rw[zqt hl (by omega) hi hw]
  have hmo:(W.vm m).on=true:=by
   cases hv:(W.vm m).on with
   | true=>rfl
   | false=>exact absurd (h.off m hv).1 hm
  have hmf:=h.frN hmo hj
  by_cases ee:m=n∧j=p/8+1∧i=p%8
  ·rw[if_pos ee,if_pos ⟨by rw[ee.1,ee.2.1],ee.2.2⟩]
  ·rw[if_neg ee,if_neg]
   rintro⟨e1,e2⟩
   apply ee
   have hmn:m=n:=by
    have:=hmf.2
    rw[e1,hf.2] at this
    simp only[Ow.mk.injEq] at this
    omega
   subst hmn
   refine⟨rfl,?_,e2⟩
   have hnd:=(h.tab m hmo).2.2
   have hlen:=(h.tab m hmo).2.1
   rw[List.getD_eq_getElem?_getD,List.getD_eq_getElem?_getD,List.getElem?_eq_getElem (by omega),List.getElem?_eq_getElem (by omega)] at e1
   exact (List.getElem_inj hnd).1 e1
 ·rw[e2,hf.2] at hk
  exact hk rfl
section
variable {n p:Nat} {w:Int} {d:Nat→List Int}
theorem Tu.root (t:Tu C n p w d) (h:Rel C W φ) {m j:Nat} (hm:(W.vm m).on=true) (hj:j<4):unp C.form (Go.Cr.ld d ((C.fr m).getD 0 0) j)=some ((C.fr m).getD (j+1) 0,true):=by
 have hne:C.fr m≠[]:=fun e=>by have:=(h.tab m hm).2.1;rw[e] at this;simp at this
 rw[t.ld m 0 j hne (by decide) (by omega),if_neg (by omega)]
 exact h.root m j hm hj
theorem Tu.leaf (t:Tu C n p w d) (h:Rel C W φ) {m q:Nat} (hm:(W.vm m).on=true) (hq:q<32):unp C.form (Go.Cr.ld d ((C.fr m).getD (q/8+1) 0) (q%8))=if m=n∧q=p then unp C.form w else (W.where_ m q).map fun x=>(φ x.1 x.2.1,x.2.2):=by
 have hne:C.fr m≠[]:=fun e=>by have:=(h.tab m hm).2.1;rw[e] at this;simp at this
 rw[t.ld m _ _ hne (by omega) (by omega)]
 by_cases e:m=n∧q=p
 ·rw[if_pos e,if_pos ⟨e.1,by rw[e.2],by rw[e.2]⟩]
 ·rw[if_neg e,if_neg (fun h=>e ⟨h.1,by omega⟩)]
  exact (h.leaf m q hm hq).1
theorem Tu.lw (t:Tu C n p w d) (h:Rel C W φ) {m q:Nat} (hm:(W.vm m).on=true) (hq:q<32) (h0:unp C.form w=none→w=0):LW C.form (Go.Cr.ld d ((C.fr m).getD (q/8+1) 0) (q%8)) (if m=n∧q=p then unp C.form w else (W.where_ m q).map fun x=>(φ x.1 x.2.1,x.2.2)):=by
 refine⟨t.leaf h hm hq,?_⟩
 have hne:C.fr m≠[]:=fun e=>by have:=(h.tab m hm).2.1;rw[e] at this;simp at this
 rw[t.ld m _ _ hne (by omega) (by omega)]
 by_cases e:m=n∧q=p
 ·rw[if_pos e,if_pos ⟨e.1,by rw[e.2],by rw[e.2]⟩];exact h0
 ·rw[if_neg e,if_neg (fun h=>e ⟨h.1,by omega⟩)]
  exact (h.leaf m q hm hq).2
theorem Tu.walk (t:Tu C n p w d) (h:Rel C W φ) {m:Nat} (hm:(W.vm m).on=true) {page:Int} (hne:¬(m=n∧page=p)):walkC d C.N (C.tf m) (C.fr m) page=C.walk m page:=by
 by_cases hp:page<0∨31<page
 ·rw[zed hp]
  unfold walkC Go.Cr.leafC
  rw[if_pos hp]
 ·obtain⟨q,rfl⟩:∃ q:Nat,page=q:=⟨page.toNat,by omega⟩
  have hf:=(h.tab m hm).1
  rw[zla (h.tab m hm).2.1 (fun j hj=>(h.frN hm hj).1) (fun j hj=>by rw[hf];exact t.root h hm hj) (by omega),hf,t.leaf h hm (by omega),if_neg (by omega),h.walk hm (by omega)]
theorem Tu.cache (t:Tu C n p w d) (h:Rel C W φ):∀ r∈dropC C.cache n p,∃ m:Nat,r.vm=m∧(W.vm m).on=true∧walkC d C.N (C.tf m) (C.fr m) r.page=some (r.f,r.w):=fun r hr=>by
 obtain⟨h1,h2⟩:=zfk hr
 obtain⟨m,e1,e2,e3⟩:=h.cache r h1
 refine⟨m,e1,e2,?_⟩
 rw[t.walk h e2 (fun e=>h2 ⟨by rw[e1,e.1],e.2⟩)]
 exact e3
end
theorem where_own {n p:Nat} {l:List Int} (h:W.own n p=some l):W.where_ n p=some (n,p,true):=by
 unfold Wd.where_
 rw[h];rfl
theorem Rel.offer (h:Rel C W φ) {n p to i:Nat} {w:Bool} (hon:(W.vm n).on=true) (hto:(W.vm to).on=true) (hne:n≠to) {l:List Int} (ho:W.own n p=some l) (hi:firstOff (fun i=>(W.ls i).on) 16=some i):Rel { C with ls:=upd C.ls i ⟨true,n,p,to,w,-1⟩,own:=shC C.own (φ n p) n } (W.setL i ⟨true,n,p,to,w,-1⟩) φ:=by
 obtain⟨hi16,hioff,_⟩:=qd hi
 have hpg:=h.pg n p l ho
 have hw:∀ m q,(W.setL i ⟨true,n,p,to,w,-1⟩).where_ m q=W.where_ m q:=fun m q=>by
  have e:=zfc (ls:=W.ls) (i:=i) (l:=⟨true,n,p,to,w,-1⟩) (m:=m) (p:=q) (fun h=>by rw[hioff] at h;cases h.1) (fun h=>by have:=h.2.2;simp only at this;omega)
  unfold Wd.where_
  show (if (W.own m q).isSome=true then _ else (leaseAt (upd W.ls i _) m q).map _)=_
  split
  ·rfl
  ·rw[e]
   cases hf:leaseAt W.ls m q with
   | none=>rfl
   | some j=>
    obtain⟨_,hj,_⟩:=qR hf
    have:j≠i:=fun e=>by subst e;rw[hioff] at hj;cases hj
    simp only[Option.map_some]
    show some ((upd W.ls i _ j).fr,(upd W.ls i _ j).pg,(upd W.ls i _ j).wr)=_
    rw[zh this]
 have hown:shC C.own (φ n p) n=upd C.own (φ n p) ⟨3,n,p,lentN W.ls n p+1⟩:=by
  unfold shC
  rw[hpg.2.1,if_pos ⟨rfl,rfl⟩]
 have hk:∀ f,(upd C.own (φ n p) ⟨3,n,p,lentN W.ls n p+1⟩ f).kind=(C.own f).kind:=fun f=>by
  by_cases e:f=φ n p
  ·rw[e,zl,hpg.2.1]
  ·rw[zh e]
 have hoth:∀ f,(C.own f).kind≠3→upd C.own (φ n p) ⟨3,n,p,lentN W.ls n p+1⟩ f=C.own f:=fun f hf=>zh fun e=>by rw[e,hpg.2.1] at hf;exact hf rfl
 have hlent:∀ m q,lentN (upd W.ls i ⟨true,n,p,to,w,-1⟩) m q=lentN W.ls m q+(decide (n=m) && decide (p=q)).toNat:=fun m q=>by
  have:=zco (ls:=W.ls) hi16 ⟨true,n,p,to,w,-1⟩ m q
  rw[hioff] at this
  simpa using this
 rw[hown]
 exact { h with
  wk:=h.wk.setL hi16 (fun _=>⟨hon,hto,hne,by show (W.own n p).isSome=true;rw[ho];rfl,show (-1:Int)≤-1 by decide,show (-1:Int)≤31 by decide⟩) (fun h=>by cases h) (fun _ q hq=>by simp only at hq;omega) (fun _ h0=>by simp only at h0;omega)
  ls:=by show upd C.ls i _=upd W.ls i _;rw[h.ls]
  used:=fun f hf=>by show C.used f=decide ((upd C.own _ _ f).kind≠0);rw[hk];exact h.used f hf
  own0:=fun f hf h0=>by
   have h0':(upd C.own (φ n p) ⟨3,n,p,lentN W.ls n p+1⟩ f).kind=0:=h0
   rw[hk] at h0'
   show upd C.own _ _ f=ow0
   rw[hoth f (by rw[h0'];decide)];exact h.own0 f hf h0'
  kind:=fun f hf=>by show 0≤(upd C.own _ _ f).kind∧_;rw[hk];exact h.kind f hf
  tabf:=fun m f hm=>by
   have:=h.tabf m f hm
   refine⟨this.1,?_⟩
   show upd C.own _ _ f=_
   rw[hoth f (by rw[this.2];show (2:Int)≠3;decide)];exact this.2
  tabk:=fun f hf h2=>by
   have h2':(upd C.own (φ n p) ⟨3,n,p,lentN W.ls n p+1⟩ f).kind=2:=h2
   rw[hk] at h2';exact h.tabk f hf h2'
  leaf:=fun m q hm hq=>by rw[hw];exact h.leaf m q hm hq
  pg:=fun m q l2 hl2=>by
   have h3:=h.pg m q l2 hl2
   refine⟨h3.1,?_,h3.2.2⟩
   show upd C.own (φ n p) _ (φ m q)=⟨3,m,q,lentN (upd W.ls i _) m q⟩
   rw[hlent]
   by_cases e:n=m∧p=q
   ·obtain⟨rfl,rfl⟩:=e
    rw[zl];simp
   ·rw[zh (fun e2=>e (by have:=h.inj hl2 ho e2;exact⟨this.1.symm,this.2.symm⟩)),h3.2.1]
    have:(decide (n=m) && decide (p=q))=false:=by simpa using e
    rw[this];simp
  pgk:=fun f hf h3=>by
   have h3':(upd C.own (φ n p) ⟨3,n,p,lentN W.ls n p+1⟩ f).kind=3:=h3
   rw[hk] at h3';exact h.pgk f hf h3'
  hyp:=⟨h.hyp.1,fun f=>by
   show _↔f<C.N∧(upd C.own _ _ f).kind=1
   rw[hk];exact h.hyp.2 f⟩ }
theorem zcN {i:Nat} {l:Ls} {m q:Nat} (h1:¬((W.ls i).on=true∧(W.ls i).to=m∧(W.ls i).at_=q)) (h2:¬(l.on=true∧l.to=m∧l.at_=q)):(W.setL i l).where_ m q=W.where_ m q:=by
 have e:=zfc (ls:=W.ls) (i:=i) (l:=l) (m:=m) (p:=q) h1 h2
 unfold Wd.where_
 show (if (W.own m q).isSome=true then _ else (leaseAt (upd W.ls i l) m q).map _)=_
 split
 ·rfl
 ·rw[e]
  cases hf:leaseAt W.ls m q with
  | none=>rfl
  | some j=>
   obtain⟨_,hj⟩:=qR hf
   have:j≠i:=fun e=>by subst e;exact h1 hj
   simp only[Option.map_some]
   show some ((upd W.ls i l j).fr,(upd W.ls i l j).pg,(upd W.ls i l j).wr)=_
   rw[zh this]
theorem zfJ {n p:Nat} (h:W.where_ n p=none):W.own n p=none∧leaseAt W.ls n p=none:=by
 unfold Wd.where_ at h
 split at h
 ·cases h
 ·rename_i hs
  refine⟨by cases ho:W.own n p with | none=>rfl | some l=>rw[ho] at hs;simp at hs,?_⟩
  cases hf:leaseAt W.ls n p with
  | none=>rfl
  | some j=>rw[hf] at h;cases h
theorem Rel.accept (h:Rel C W φ) {n p i:Nat} (hp:p<32) (hi:(W.ls i).on=true) (hto:(W.ls i).to=n) (hat:(W.ls i).at_<0) (hno:W.where_ n p=none) :
  Rel { C with ls:=upd C.ls i ((C.ls i).setA p),dat:=setC C.dat C.N (C.tf n) (C.fr n) p (pk (C.tf n) (φ (W.ls i).fr (W.ls i).pg) (W.ls i).wr),cache:=dropC C.cache n p } (W.setL i ((W.ls i).setA p)) φ:=by
 have hl:=h.wk.lsr i hi
 have hon:(W.vm n).on=true:=by rw[←hto];exact hl.2.2.1
 obtain⟨l,ho⟩:=Option.isSome_iff_exists.1 hl.2.2.2.2.1
 have hpg:=h.pg _ _ l ho
 have hN:=h.N
 have htf:=(h.tab n hon).1
 have ht:=h.tu hon hp (w:=pk (C.tf n) (φ (W.ls i).fr (W.ls i).pg) (W.ls i).wr) (zpi (by omega)).1
 have hn1:=zfJ hno
 have hwk:WOk (W.setL i ((W.ls i).setA p)):=h.wk.setL hl.1 (fun _=>⟨hl.2.1,hl.2.2.1,hl.2.2.2.1,hl.2.2.2.2.1,by show (-1:Int)≤p;omega,by show (p:Int)≤31;omega⟩) (fun e=>by have e':(W.ls i).on=false:=e;rw[hi] at e';cases e')
  (fun _ q hq=>by
   have hq':(p:Int)=q:=hq
   have:q=p:=by omega
   show W.own (W.ls i).to q=none
   rw[this,hto];exact hn1.1)
  (fun _ _ j hj hjon hjt hja=>by
   have hja':(W.ls j).at_=(p:Int):=hja
   have hjt':(W.ls j).to=(W.ls i).to:=hjt
   have:=zat h.wk hjon hja' (by omega)
   rw[hjt',hto,hn1.2] at this;cases this)
 have hw:∀ m q,(W.setL i ((W.ls i).setA p)).where_ m q=if m=n∧q=p then some ((W.ls i).fr,(W.ls i).pg,(W.ls i).wr) else W.where_ m q:=fun m q=>by
  by_cases e:m=n∧q=p
  ·rw[if_pos e]
   obtain⟨rfl,rfl⟩:=e
   have e0:(W.setL i ((W.ls i).setA q)).ls i=((W.ls i).setA q):=zl
   have:=zat hwk (i:=i) (p:=(q:Int)) (by rw[e0];exact hi) (by rw[e0];rfl) (by omega)
   rw[e0] at this
   have hto2:((W.ls i).setA q).to=m:=hto
   rw[hto2] at this
   unfold Wd.where_
   rw[this,if_neg (by show ¬(W.own m q).isSome=true;rw[hn1.1];simp),Option.map_some,e0];rfl
  ·rw[if_neg e]
   exact zcN (fun h=>by omega) (fun h=>e ⟨(show (W.ls i).to=m from h.2.1).symm.trans hto,by have:(p:Int)=q:=h.2.2;omega⟩)
 have hlent:∀ m q,lentN (upd W.ls i ((W.ls i).setA p)) m q=lentN W.ls m q:=fun m q=>by
  have:=zco (ls:=W.ls) hl.1 ((W.ls i).setA p) m q
  have e:(((W.ls i).setA p).on && (decide (((W.ls i).setA p).fr=m) && decide (((W.ls i).setA p).pg=q)))=((W.ls i).on && (decide ((W.ls i).fr=m) && decide ((W.ls i).pg=q))):=rfl
  rw[e] at this
  omega
 exact { h with
  wk:=hwk
  ls:=by show upd C.ls i _=upd W.ls i _;rw[h.ls]
  len:=ht.len
  root:=fun m j hm hj=>ht.root h hm hj
  leaf:=fun m q hm hq=>by
   show LW C.form (ld (setC C.dat C.N (C.tf n) (C.fr n) p _) ((C.fr m).getD (q/8+1) 0) (q%8)) _
   refine (ht.lw h hm hq fun e=>by rw[htf,zhc (by omega)] at e;cases e).to ?_
   rw[hw]
   split
   ·rw[htf,zhc (by omega)];rfl
   ·rfl
  pg:=fun m q l2 hl2=>by
   have h3:=h.pg m q l2 hl2
   refine⟨h3.1,?_,?_⟩
   ·show C.own (φ m q)=⟨3,m,q,lentN (upd W.ls i _) m q⟩
    rw[hlent];exact h3.2.1
   ·show setC C.dat C.N (C.tf n) (C.fr n) p _ (φ m q)=l2
    rw[ht.oth _ (by rw[h3.2.1];show (3:Int)≠2;decide)];exact h3.2.2
  cache:=ht.cache (W:=W) (φ:=φ) h
  csize:=Nat.le_trans fR h.csize }
theorem Rel.leave (h:Rel C W φ) {n p i:Nat} (hi:(W.ls i).on=true) (hto:(W.ls i).to=n) (hat:(W.ls i).at_=p) :
  Rel { C with ls:=upd C.ls i ((C.ls i).setA (-1)),dat:=setC C.dat C.N (C.tf n) (C.fr n) p 0,cache:=dropC C.cache n p } (W.setL i ((W.ls i).setA (-1))) φ:=by
 have hl:=h.wk.lsr i hi
 have hp:p<32:=by have:=hl.2.2.2.2.2.2;omega
 have hon:(W.vm n).on=true:=by rw[←hto];exact hl.2.2.1
 have htf:=(h.tab n hon).1
 have ht:=h.tu hon hp (w:=0) ⟨by decide,by decide⟩
 have hwk:WOk (W.setL i ((W.ls i).setA (-1))):=h.wk.setL hl.1 (fun _=>⟨hl.2.1,hl.2.2.1,hl.2.2.2.1,hl.2.2.2.2.1,show (-1:Int)≤-1 by decide,show (-1:Int)≤31 by decide⟩) (fun e=>by have e':(W.ls i).on=false:=e;rw[hi] at e';cases e')
  (fun _ q hq=>by have:(-1:Int)=q:=hq;omega) (fun _ h0=>by have:(0:Int)≤-1:=h0;omega)
 have hown:W.own n p=none:=by rw[←hto];exact h.wk.lsa i hi p hat
 have hw:∀ m q,(W.setL i ((W.ls i).setA (-1))).where_ m q=if m=n∧q=p then none else W.where_ m q:=fun m q=>by
  by_cases e:m=n∧q=p
  ·rw[if_pos e]
   obtain⟨rfl,rfl⟩:=e
   unfold Wd.where_
   rw[if_neg (by show ¬(W.own m q).isSome=true;rw[hown];simp)]
   cases hf:leaseAt (W.setL i ((W.ls i).setA (-1))).ls m q with
   | none=>rfl
   | some j=>
    obtain⟨_,hj,hjt,hja⟩:=qR hf
    by_cases e:j=i
    ·subst e
     have e0:(W.setL j ((W.ls j).setA (-1))).ls j=((W.ls j).setA (-1)):=zl
     rw[e0] at hja
     have:(-1:Int)=q:=hja
     omega
    ·have e0:(W.setL i ((W.ls i).setA (-1))).ls j=W.ls j:=zh e
     rw[e0] at hj hjt hja
     exact absurd (h.wk.lsu j i hj hi (by rw[hjt,hto]) (by omega) (by rw[hja,hat])) e
  ·rw[if_neg e]
   exact zcN (fun h=>e ⟨h.2.1.symm.trans hto,by omega⟩) (fun h=>by have:(-1:Int)=q:=h.2.2;omega)
 have hlent:∀ m q,lentN (upd W.ls i ((W.ls i).setA (-1))) m q=lentN W.ls m q:=fun m q=>by
  have:=zco (ls:=W.ls) hl.1 ((W.ls i).setA (-1)) m q
  have e:(((W.ls i).setA (-1)).on && (decide (((W.ls i).setA (-1)).fr=m) && decide (((W.ls i).setA (-1)).pg=q)))=((W.ls i).on && (decide ((W.ls i).fr=m) && decide ((W.ls i).pg=q))):=rfl
  rw[e] at this
  omega
 exact { h with
  wk:=hwk
  ls:=by show upd C.ls i _=upd W.ls i _;rw[h.ls]
  len:=ht.len
  root:=fun m j hm hj=>ht.root h hm hj
  leaf:=fun m q hm hq=>by
   show LW C.form (ld (setC C.dat C.N (C.tf n) (C.fr n) p _) ((C.fr m).getD (q/8+1) 0) (q%8)) _
   refine (ht.lw h hm hq fun _=>rfl).to ?_
   rw[hw]
   split
   ·rw[zbM];rfl
   ·rfl
  pg:=fun m q l2 hl2=>by
   have h3:=h.pg m q l2 hl2
   refine⟨h3.1,?_,?_⟩
   ·show C.own (φ m q)=⟨3,m,q,lentN (upd W.ls i _) m q⟩
    rw[hlent];exact h3.2.1
   ·show setC C.dat C.N (C.tf n) (C.fr n) p _ (φ m q)=l2
    rw[ht.oth _ (by rw[h3.2.1];show (3:Int)≠2;decide)];exact h3.2.2
  cache:=ht.cache (W:=W) (φ:=φ) h
  csize:=Nat.le_trans fR h.csize }
theorem Rel.withdraw (h:Rel C W φ) {i:Nat} (hi:(W.ls i).on=true) (hat:(W.ls i).at_<0) :
  Rel { C with ls:=upd C.ls i ls0,own:=unshC C.own (φ (W.ls i).fr (W.ls i).pg) (W.ls i).fr } (W.setL i ls0) φ∧(C.own (φ (W.ls i).fr (W.ls i).pg)).kind=3∧(C.own (φ (W.ls i).fr (W.ls i).pg)).vm=(W.ls i).fr∧(C.own (φ (W.ls i).fr (W.ls i).pg)).sh≠0:=by
 have hl:=h.wk.lsr i hi
 obtain⟨l,ho⟩:=Option.isSome_iff_exists.1 hl.2.2.2.2.1
 have hpg:=h.pg _ _ l ho
 have hwk:WOk (W.setL i ls0):=h.wk.setL hl.1 (fun e=>by cases e) (fun _=>rfl) (fun e=>by cases e) (fun e=>by cases e)
 have hw:∀ m q,(W.setL i ls0).where_ m q=W.where_ m q:=fun m q=>zcN (fun h=>by omega) (fun h=>by cases h.1)
 have hlent:∀ m q,lentN (upd W.ls i ls0) m q+(decide ((W.ls i).fr=m) && decide ((W.ls i).pg=q)).toNat=lentN W.ls m q:=fun m q=>by
  have:=zco (ls:=W.ls) hl.1 ls0 m q
  rw[hi] at this
  simpa [ls0] using this
 have hl1:=hlent (W.ls i).fr (W.ls i).pg
 simp only[decide_true,Bool.and_self,Bool.toNat_true] at hl1
 have hsh:(C.own (φ (W.ls i).fr (W.ls i).pg)).sh≠0:=by rw[hpg.2.1];simp only;omega
 refine⟨?_,by rw[hpg.2.1],by rw[hpg.2.1],hsh⟩
 generalize hn:(W.ls i).fr=n at *
 generalize hq:(W.ls i).pg=p at *
 have hown:unshC C.own (φ n p) n=upd C.own (φ n p) ⟨3,n,p,(lentN W.ls n p:Int)-1⟩:=by
  unfold unshC
  rw[if_pos ⟨by rw[hpg.2.1],by rw[hpg.2.1],hsh⟩,hpg.2.1]
 have hk:∀ f,(upd C.own (φ n p) ⟨3,n,p,(lentN W.ls n p:Int)-1⟩ f).kind=(C.own f).kind:=fun f=>by
  by_cases e:f=φ n p
  ·rw[e,zl,hpg.2.1]
  ·rw[zh e]
 have hoth:∀ f,(C.own f).kind≠3→upd C.own (φ n p) ⟨3,n,p,(lentN W.ls n p:Int)-1⟩ f=C.own f:=fun f hf=>zh fun e=>by rw[e,hpg.2.1] at hf;exact hf rfl
 rw[hown]
 exact { h with
  wk:=hwk
  ls:=by show upd C.ls i _=upd W.ls i _;rw[h.ls]
  used:=fun f hf=>by show C.used f=decide ((upd C.own _ _ f).kind≠0);rw[hk];exact h.used f hf
  own0:=fun f hf h0=>by
   have h0':(upd C.own (φ n p) ⟨3,n,p,(lentN W.ls n p:Int)-1⟩ f).kind=0:=h0
   rw[hk] at h0'
   show upd C.own _ _ f=ow0
   rw[hoth f (by rw[h0'];decide)];exact h.own0 f hf h0'
  kind:=fun f hf=>by show 0≤(upd C.own _ _ f).kind∧_;rw[hk];exact h.kind f hf
  tabf:=fun m f hm=>by
   have:=h.tabf m f hm
   refine⟨this.1,?_⟩
   show upd C.own _ _ f=_
   rw[hoth f (by rw[this.2];show (2:Int)≠3;decide)];exact this.2
  tabk:=fun f hf h2=>by
   have h2':(upd C.own (φ n p) ⟨3,n,p,(lentN W.ls n p:Int)-1⟩ f).kind=2:=h2
   rw[hk] at h2';exact h.tabk f hf h2'
  leaf:=fun m q hm hq=>by rw[hw];exact h.leaf m q hm hq
  pg:=fun m q l2 hl2=>by
   have h3:=h.pg m q l2 hl2
   refine⟨h3.1,?_,h3.2.2⟩
   show upd C.own (φ n p) _ (φ m q)=⟨3,m,q,lentN (upd W.ls i ls0) m q⟩
   have h4:=hlent m q
   by_cases e:n=m∧p=q
   ·obtain⟨rfl,rfl⟩:=e
    rw[zl]
    congr 1
    omega
   ·rw[zh (fun e2=>e (by have:=h.inj hl2 ho e2;exact⟨this.1.symm,this.2.symm⟩)),h3.2.1]
    have h5:(decide (n=m) && decide (p=q))=false:=by simpa using e
    rw[h5] at h4
    congr 1
    have:Bool.toNat false=0:=rfl
    omega
  pgk:=fun f hf h3=>by
   have h3':(upd C.own (φ n p) ⟨3,n,p,(lentN W.ls n p:Int)-1⟩ f).kind=3:=h3
   rw[hk] at h3';exact h.pgk f hf h3'
  hyp:=⟨h.hyp.1,fun f=>by
   show _↔f<C.N∧(upd C.own _ _ f).kind=1
   rw[hk];exact h.hyp.2 f⟩ }
end
end
section
open Go Go.Pt
def kk (q:Nat×Nat):List Value:=[.int .i64 (q.1:Nat),.int .i64 (q.2:Nat)]
def mapF (K:List (Nat×Nat)) (g:Nat×Nat→Nat):KV:=K.map fun q=>(kk q,.int .i64 (g q:Nat))
theorem zqw {a b:Nat×Nat}:eqL (kk a) (kk b)=true↔a=b:=by
 obtain⟨a1,a2⟩:=a
 obtain⟨b1,b2⟩:=b
 simp[kk,eqL,eq1,Int.natCast_inj]
theorem zlQ {K:List (Nat×Nat)} {g:Nat×Nat→Nat}:okM [.i .i64,.i .i64] (mapF K g):=fun x hx=>by
 obtain⟨q,_,rfl⟩:=List.mem_map.1 hx
 rfl
theorem mfindF {g:Nat×Nat→Nat} {a:Nat×Nat}:∀ {K:List (Nat×Nat)} {i:Nat},mfind (mapF K g) (kk a) i=if a∈K then some (i+K.idxOf a,.int .i64 (g a:Nat)) else none
 | [],_=>rfl
 | q :: K,i=>by
  show (if eqL (kk a) (kk q)=true then some (i,Value.int .i64 (g q:Nat)) else mfind (mapF K g) (kk a) (i+1))=_
  by_cases e:a=q
  ·subst e
   rw[if_pos (zqw.2 rfl),if_pos (by simp),List.idxOf_cons_self];rfl
  ·rw[if_neg fun h=>e (zqw.1 h),mfindF (K:=K)]
   by_cases h:a∈K
   ·rw[if_pos h,if_pos (by simp[h]),List.idxOf_cons,show (q == a)=false by simpa using fun h=>e h.symm]
    simp only[cond_false]
    congr 2;omega
   ·rw[if_neg h,if_neg (by simp[h,e])]
theorem mgetF {K:List (Nat×Nat)} {g:Nat×Nat→Nat} {a:Nat×Nat} (h:a∉K→g a=0):mget (mapF K g) (kk a) (.int .i64 0)=.int .i64 (g a:Nat):=by
 unfold mget
 rw[mfindF]
 by_cases e:a∈K
 ·rw[if_pos e]
 ·rw[if_neg e,h e];rfl
theorem incF {K:List (Nat×Nat)} {g:Nat×Nat→Nat} {a:Nat×Nat} (hn:K.Nodup) {v:Nat} :
  mset (mput (mapF K g) (kk a) (.int .i64 0)) (mix (mapF K g) (kk a)) (.int .i64 (v:Nat))=mapF (if a∈K then K else K++[a]) fun q=>if q=a then v else g q:=by
 unfold mput mix mset
 rw[mfindF]
 by_cases e:a∈K
 ·rw[if_pos e,if_pos e]
  dsimp only
  rw[Nat.zero_add]
  unfold mapF
  apply List.ext_getElem?
  intro j
  rw[List.getElem?_modify,List.getElem?_map,List.getElem?_map]
  have hi:=List.idxOf_lt_length_iff.2 e
  have hg:K[K.idxOf a]=a:=List.getElem_idxOf hi
  cases hq:K[j]? with
  | none=>rfl
  | some q=>
   simp only[Option.map_some]
   by_cases h:K.idxOf a=j
   ·subst h
    rw[List.getElem?_eq_getElem hi,hg] at hq
    cases hq
    simp
   ·have:q≠a:=fun hqa=>by
     subst hqa
     obtain⟨hj,e2⟩:=List.getElem?_eq_some_iff.1 hq
     exact h ((List.getElem_inj hn (h₀:=hi) (h₁:=hj)).1 (hg.trans e2.symm))
    simp[h,this]
 ·rw[if_neg e,if_neg e]
  dsimp only
  unfold mapF
  apply List.ext_getElem?
  intro j
  rw[List.getElem?_modify,List.length_map,List.map_append,List.getElem?_append,List.getElem?_append,List.length_map,List.length_map]
  by_cases hj:j<K.length
  ·rw[if_pos hj,if_pos hj,List.getElem?_map,List.getElem?_map,List.getElem?_eq_getElem hj]
   have:K[j]≠a:=fun h=>e (h ▸ List.getElem_mem hj)
   simp[show K.length≠j by omega,this]
  ·rw[if_neg hj,if_neg hj]
   by_cases h:K.length=j
   ·subst h;simp
   ·rw[List.getElem?_eq_none (by simp;omega),List.getElem?_eq_none (by simp;omega)];simp
def lentK (ls:Nat→Ls) (k:Nat) (q:Nat×Nat):Nat:=count (fun i=>(ls i).on && (decide ((ls i).fr=q.1) && decide ((ls i).pg=q.2))) k
theorem zno {ls:Nat→Ls} {n p:Nat}:lentK ls 16 (n,p)=lentN ls n p:=rfl
theorem zhF {ls:Nat→Ls} {k:Nat} (h:(ls k).on=false):lentK ls (k+1)=lentK ls k:=by
 funext q;unfold lentK;rw[qG,h];rfl
theorem zgK {ls:Nat→Ls} {k:Nat} (h:(ls k).on=true):lentK ls (k+1)=fun q=>if q=((ls k).fr,(ls k).pg) then lentK ls k q+1 else lentK ls k q:=by
 funext q
 obtain⟨a,b⟩:=q
 unfold lentK
 rw[qG,h]
 by_cases e:(a,b)=((ls k).fr,(ls k).pg)
 ·rw[if_pos e]
  cases e
  simp
 ·rw[if_neg e]
  have:¬((ls k).fr=a∧(ls k).pg=b):=fun⟨h1,h2⟩=>e (by rw[h1,h2])
  rw[show (true && (decide ((ls k).fr=a) && decide ((ls k).pg=b)))=false by simpa using this]
  rfl
structure Keys (ls:Nat→Ls) (k:Nat) (K:List (Nat×Nat)):Prop where
 nd:K.Nodup
 mem:∀ q,q∈K↔0<lentK ls k q
theorem Keys.off {ls:Nat→Ls} {k:Nat} {K:List (Nat×Nat)} (h:Keys ls k K) (ho:(ls k).on=false):Keys ls (k+1) K:=⟨h.nd,fun q=>by rw[zhF ho];exact h.mem q⟩
theorem Keys.on {ls:Nat→Ls} {k:Nat} {K:List (Nat×Nat)} (h:Keys ls k K) (ho:(ls k).on=true):Keys ls (k+1) (if ((ls k).fr,(ls k).pg)∈K then K else K++[((ls k).fr,(ls k).pg)]):=by
 by_cases e:((ls k).fr,(ls k).pg)∈K
 ·rw[if_pos e]
  refine⟨h.nd,fun q=>?_⟩
  rw[zgK ho,h.mem]
  dsimp only
  by_cases e2:q=((ls k).fr,(ls k).pg)
  ·subst e2;rw[if_pos rfl];exact⟨fun _=>by omega,fun _=>(h.mem _).1 e⟩
  ·rw[if_neg e2]
 ·rw[if_neg e]
  refine⟨?_,fun q=>?_⟩
  ·rw[List.nodup_append]
   refine⟨h.nd,by simp,fun a ha b hb e2=>?_⟩
   rw[List.mem_singleton] at hb
   subst hb;subst e2;exact e ha
  ·rw[zgK ho,List.mem_append,List.mem_singleton]
   dsimp only
   by_cases e2:q=((ls k).fr,(ls k).pg)
   ·rw[if_pos e2];exact⟨fun _=>by omega,fun _=>.inr e2⟩
   ·rw[if_neg e2,h.mem];exact⟨fun h=>h.resolve_right e2,.inl⟩
theorem Keys.inc {ls:Nat→Ls} {k:Nat} {K:List (Nat×Nat)} (h:Keys ls k K) (ho:(ls k).on=true) :
  mset (mput (mapF K (lentK ls k)) (kk ((ls k).fr,(ls k).pg)) (.int .i64 0)) (mix (mapF K (lentK ls k)) (kk ((ls k).fr,(ls k).pg))) (.int .i64 ((lentK ls k ((ls k).fr,(ls k).pg)+1:Nat):Int))=mapF (if ((ls k).fr,(ls k).pg)∈K then K else K++[((ls k).fr,(ls k).pg)]) (lentK ls (k+1)):=by
 rw[incF h.nd]
 congr 1
 rw[zgK ho]
 funext q
 by_cases e:q=((ls k).fr,(ls k).pg)
 ·rw[if_pos e,if_pos e,e]
 ·rw[if_neg e,if_neg e]
theorem Keys.get {ls:Nat→Ls} {k:Nat} {K:List (Nat×Nat)} (h:Keys ls k K) (q:Nat×Nat):mget (mapF K (lentK ls k)) (kk q) (.int .i64 0)=.int .i64 (lentK ls k q:Nat):=mgetF fun hq=>Nat.eq_zero_of_not_pos fun h0=>hq ((h.mem q).2 h0)
theorem Keys.zero {ls:Nat→Ls}:Keys ls 0 []:=⟨List.nodup_nil,fun q=>by simp[lentK,count]⟩
theorem Rel.keys {C:Cst} {W:Wd} {φ:Nat→Nat→Nat} (h:Rel C W φ) {K:List (Nat×Nat)} (hK:Keys W.ls 16 K):count (fun f=>decide ((C.own f).kind=3) && decide (0<(C.own f).sh)) C.N=K.length:=by
 have hF:∀ f,f∈(List.range C.N).filter (fun f=>decide ((C.own f).kind=3) && decide (0<(C.own f).sh))↔f<C.N∧(C.own f).kind=3∧0<(C.own f).sh:=fun f=>by
  rw[List.mem_filter,List.mem_range];simp
 have hnd:((List.range C.N).filter fun f=>decide ((C.own f).kind=3) && decide (0<(C.own f).sh)).Nodup:=List.Pairwise.filter _ List.nodup_range
 unfold count
 generalize (List.range C.N).filter (fun f=>decide ((C.own f).kind=3) && decide (0<(C.own f).sh))=F at hF hnd
 have own:∀ q,q∈K→∃ l,W.own q.1 q.2=some l:=fun q hq=>by
  have h1:=(hK.mem q).1 hq
  have:∃ i,i<16∧(W.ls i).on=true∧(W.ls i).fr=q.1∧(W.ls i).pg=q.2:=by
   apply Classical.byContradiction
   intro hne
   have:lentK W.ls 16 q=0:=xe fun i hi=>by
    cases ho:((W.ls i).on && (decide ((W.ls i).fr=q.1) && decide ((W.ls i).pg=q.2))) with
    | false=>rfl
    | true=>
     simp only[Bool.and_eq_true,decide_eq_true_eq] at ho
     exact absurd ⟨i,hi,ho.1,ho.2.1,ho.2.2⟩ hne
   omega
  obtain⟨i,_,ho,h2,h3⟩:=this
  have:=(h.wk.lsr i ho).2.2.2.2.1
  rw[h2,h3] at this
  exact Option.isSome_iff_exists.1 this
 apply Nat.le_antisymm
 ·have hm:(F.map fun f=>((C.own f).vm.toNat,(C.own f).page.toNat)).Nodup:=by
   unfold List.Nodup
   rw[List.pairwise_map]
   unfold List.Nodup at hnd
   rw[List.pairwise_iff_forall_sublist] at hnd ⊢
   intro a b hs he
   have ha:=(hF a).1 (hs.subset (by simp))
   have hb:=(hF b).1 (hs.subset (by simp))
   obtain⟨n,p,h1,h2⟩:=h.pgk a ha.1 ha.2.1
   obtain⟨m,q,h3,h4⟩:=h.pgk b hb.1 hb.2.1
   obtain⟨l1,e1⟩:=Option.isSome_iff_exists.1 h1
   obtain⟨l2,e2⟩:=Option.isSome_iff_exists.1 h3
   have o1:=(h.pg n p l1 e1).2.1
   have o2:=(h.pg m q l2 e2).2.1
   rw[h2] at o1
   rw[h4] at o2
   rw[o1,o2] at he
   simp only[Int.toNat_natCast,Prod.mk.injEq] at he
   rw[he.1,he.2] at h2
   exact hnd hs (h2.symm.trans h4)
  have hsub:(F.map fun f=>((C.own f).vm.toNat,(C.own f).page.toNat)) ⊆ K:=fun q hq=>by
   obtain⟨f,hf,rfl⟩:=List.mem_map.1 hq
   have ha:=(hF f).1 hf
   obtain⟨n,p,h1,h2⟩:=h.pgk f ha.1 ha.2.1
   obtain⟨l1,e1⟩:=Option.isSome_iff_exists.1 h1
   have o1:=(h.pg n p l1 e1).2.1
   rw[h2] at o1
   rw[o1] at ha ⊢
   refine (hK.mem _).2 ?_
   have:=ha.2.2
   simp only[Int.toNat_natCast] at this ⊢
   rw[zno];omega
  have:=hm.length_le_of_subset hsub
  rwa [List.length_map] at this
 ·have hm:(K.map fun q=>φ q.1 q.2).Nodup:=by
   unfold List.Nodup
   rw[List.pairwise_map]
   have hn:=hK.nd
   unfold List.Nodup at hn
   rw[List.pairwise_iff_forall_sublist] at hn ⊢
   intro a b hs he
   obtain⟨l1,e1⟩:=own a (hs.subset (by simp))
   obtain⟨l2,e2⟩:=own b (hs.subset (by simp))
   have:=h.inj e1 e2 he
   exact hn hs (Prod.ext this.1 this.2)
  have hsub:(K.map fun q=>φ q.1 q.2) ⊆ F:=fun f hf=>by
   obtain⟨q,hq,rfl⟩:=List.mem_map.1 hf
   obtain⟨l,e⟩:=own q hq
   have hp:=h.pg q.1 q.2 l e
   refine (hF _).2 ⟨hp.1,by rw[hp.2.1],?_⟩
   rw[hp.2.1]
   have:=(hK.mem q).1 hq
   have e2:lentN W.ls q.1 q.2=lentK W.ls 16 q:=rfl
   simp only;omega
  have:=hm.length_le_of_subset hsub
  rwa [List.length_map] at this
end
end Go.Cr
