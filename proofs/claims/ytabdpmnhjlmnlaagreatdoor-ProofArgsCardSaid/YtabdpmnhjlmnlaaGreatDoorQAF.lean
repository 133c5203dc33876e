/- Texts of this work,joined by program (pack.py): St,Cf,Ch,Rx,Cn,PsH,PsF,Ta,Ci,Su. -/
import Derived.Test.YtabdpmnhjlmnlaaGreatDoorQAE
import Derived.Test.YtabdpmnhjlmnlaaGreatDoorQAB
set_option linter.unusedVariables false
section
namespace Go.Cr
open Go Go.Pt
structure StoreAt (S:Mem) (m B N:Nat) (M:List Int):Prop where
 hd:S m=some (bw 180 [eL ⟨some (B,0),256*N,256*N⟩])
 dt:S B=some (bw 5 (bL M))
 ne:m≠B
 len:M.length=256*N
 byt:Byt M
 lim:N≤512
theorem StoreAt.keep {S S':Mem} {m B N:Nat} {M:List Int} (h:StoreAt S m B N M) (hk:Keeps S S' []):StoreAt S' m B N M:=
 ⟨hk.get h.hd (by simp),hk.get h.dt (by simp),h.ne,h.len,h.byt,h.lim⟩
end Go.Cr
namespace Go.Proofs.YtabdpmnhjlmnlaaGreatDoor
open Go Go.Pt Go.Cr
section
variable {S:Mem} {m B N:Nat} {M:List Int}
theorem ga (h:StoreAt S m B N M) {Q:Int→Mem→Prop} (hQ:Q N S):qj S (some (m,0)) Q:=by
 have hl:=h.lim
 apply vr
 unfold yf
 rw[if_neg (by simp),yo,wb (n:=⟨some (B,0),256*N,256*N⟩) (by rw[qE h.hd];rfl)]
 have e:IntKind.i64.wrap (Int.tdiv ((256*N:Nat):Int) 256)=(N:Int):=by rw[td (by omega),w64 (by omega) (by omega)];omega
 show Q (IntKind.i64.wrap (Int.tdiv ((256*N:Nat):Int) 256)) S
 rw[e];exact hQ
theorem zdh (h:StoreAt S m B N M) {frame off n:Int} (hb : -4294967296≤off∧off≤4294967296) {Q:Int→Int→Mem→Prop} (hY:0≤frame→frame<N→0≤off→0≤n→off+n≤256→Q (256*frame+off) 0 S) (hN:¬(0≤frame∧frame<N∧0≤off∧0≤n∧off+n≤256)→Q 0 1 S):xj S (some (m,0)) frame off n Q:=by
 have hl:=h.lim
 apply ji
 unfold xq
 simp only[jn]
 by_cases h1:frame<0
 ·rw[if_pos h1];exact hN fun h=>by omega
 rw[if_neg h1]
 refine ga h ?_
 by_cases h2:(N:Int)≤frame
 ·rw[if_pos h2];exact hN fun h=>by omega
 rw[if_neg h2]
 by_cases h3:off<0
 ·rw[if_pos h3];exact hN fun h=>by omega
 rw[if_neg h3]
 by_cases h4:n<0
 ·rw[if_pos h4];exact hN fun h=>by omega
 rw[if_neg h4]
 by_cases h5:256<off
 ·rw[if_pos h5];exact hN fun h=>by omega
 rw[if_neg h5,w64 (x:=256-off) (by omega) (by omega)]
 by_cases h6:256-off<n
 ·rw[if_pos h6];exact hN fun h=>by omega
 rw[if_neg h6,w64 (x:=256*frame) (by omega) (by omega),w64 (x:=256*frame+off) (by omega) (by omega)]
 exact hY (by omega) (by omega) (by omega) (by omega) (by omega)
end
end Go.Proofs.YtabdpmnhjlmnlaaGreatDoor
namespace Go.Proofs.YtabdpmnhjlmnlaaGreatDoor
open Go Go.Pt Go.Cr
section
variable {S:Mem} {m B N:Nat} {M:List Int}
def rdF (M:List Int) (f off n:Nat):List Int:=(M.drop (256*f+off)).take n
theorem zdY (xs:List Int):(bL xs).all (·.oneCell')=true:=by
 unfold bL;rw[List.all_map];exact List.all_eq_true.2 fun _ _=>rfl
theorem fV (h:StoreAt S m B N M) {frame off n:Int} (hb : -4294967296≤off∧off≤4294967296) {Q:Sl→Int→Mem→Prop}
  (hY:0≤frame→frame<N→0≤off→0<n→off+n≤256→∀ t S',Keeps S S' []→Row S' 1 t (bL (rdF M frame.toNat off.toNat n.toNat))→(∀ b o,t.p=some (b,o)→S b=none)→Q t 0 S')
  (hN:¬(0≤frame∧frame<N∧0≤off∧0≤n∧off+n≤256)→Q ⟨none,0,0⟩ 1 S) (hn:n≠0):yr S (some (m,0)) frame off n Q:=by
 have hl:=h.lim
 have hlen:=h.len
 apply kg
 unfold yP
 simp only[jn]
 refine zdh h hb (fun f0 f1 o0 n0 on=>?_) fun hbad=>?_
 ·rw[if_neg (fun h=>h rfl),yo,wb (n:=⟨some (B,0),256*N,256*N⟩) (by rw[qE h.hd];rfl),w64 (x:=256*frame+off+n) (by omega) (by omega)]
  refine⟨by omega,by omega,by show 256*frame+off+n≤((256*N:Nat):Int);omega,?_⟩
  have e:slc 1 ⟨some (B,0),256*N,256*N⟩ (256*frame+off) (256*frame+off+n)=⟨some (B,256*frame.toNat+off.toNat),n.toNat,256*N-(256*frame.toNat+off.toNat)⟩:=by
   unfold slc
   have e1:(256*frame+off).toNat=256*frame.toNat+off.toNat:=by omega
   have e2:(256*frame+off+n-(256*frame+off)).toNat=n.toNat:=by omega
   simp only[e1,e2,Nat.mul_one,Nat.zero_add,Option.map_some]
   rw[if_neg (by omega)]
  show sp S (slc 1 _ _ _) 1 _
  rw[e]
  have hpart:S.part B (256*frame.toNat+off.toNat) (n.toNat*1)=some (bL (rdF M frame.toNat off.toNat n.toNat)):=by
   rw[xL h.dt,qq (by simp[bL];omega),Nat.mul_one]
   simp[bL,rdF]
  refine⟨_,.inr ⟨B,_,rfl,hpart⟩,zdY _,?_⟩
  have hrl:(rdF M frame.toNat off.toNat n.toNat).length=n.toNat:=by simp[rdF];omega
  refine kJ Row.nil (by rw[Nat.mul_one];simp[bL,hrl]) (by show 0<n.toNat;omega) rfl (by show (2*(0+n.toNat)+1024)*1≤_;omega) fun t S2 c kb e1 e2 e3 e4 e5=>?_
  have hc:S c=none:=by
   rcases e3 with e3 | e3
   ·cases e3
   ·exact e3
  exact hY f0 f1 o0 (by omega) on t S2 (by rw[e4];exact Keeps.refl.fresh hc) e5 fun b o hb=>by rw[e2] at hb;cases hb;exact hc
 ·rw[if_pos (by decide)];exact hN hbad
end
end Go.Proofs.YtabdpmnhjlmnlaaGreatDoor
namespace Go.Proofs.YtabdpmnhjlmnlaaGreatDoor
open Go Go.Pt Go.Cr
section
variable {S:Mem} {m B N:Nat} {M:List Int}
def wrF (M:List Int) (f off:Nat) (l:List Int):List Int:=M.take (256*f+off)++l++M.drop (256*f+off+l.length)
theorem zec {M:List Int} {f off:Nat} {l:List Int} (h:256*f+off+l.length≤M.length):(wrF M f off l).length=M.length:=by
 unfold wrF;simp only[List.length_append,List.length_take,List.length_drop];omega
theorem zed {M:List Int} {f off:Nat} {l:List Int} (h:Byt M) (hl:Byt l):Byt (wrF M f off l):=fun x hx=>by
 unfold wrF at hx
 rcases List.mem_append.1 hx with hx | hx
 ·rcases List.mem_append.1 hx with hx | hx
  ·exact h x (List.mem_of_mem_take hx)
  ·exact hl x hx
 ·exact h x (List.mem_of_mem_drop hx)
theorem vf (h:StoreAt S m B N M) {frame off:Int} (hb : -4294967296≤off∧off≤4294967296) {p:Sl} {l:List Int} (hp:l=[]∨∃ b o,p.p=some (b,o)∧S.part b o (l.length*1)=some (bL l)) (hpl:l.length=p.n) (hl0:l≠[]) (hby:Byt l) {Q:Int→Mem→Prop}
  (hY:0≤frame→frame<N→0≤off→off+p.n≤256→StoreAt (S.set B (bw 5 (bL (wrF M frame.toNat off.toNat l)))) m B N (wrF M frame.toNat off.toNat l)→Q 0 (S.set B (bw 5 (bL (wrF M frame.toNat off.toNat l)))))
  (hN:¬(0≤frame∧frame<N∧0≤off∧0≤(p.n:Int)∧off+p.n≤256)→Q 1 S):zR S (some (m,0)) frame off p Q:=by
 have hl:=h.lim
 have hlen:=h.len
 have hpos:0<l.length:=List.length_pos_iff.2 hl0
 apply vH
 unfold yv
 simp only[jn]
 refine zdh h hb (fun f0 f1 o0 n0 on=>?_) fun hbad=>?_
 ·rw[if_neg (fun h=>h rfl),yo,wb (n:=⟨some (B,0),256*N,256*N⟩) (by rw[qE h.hd];rfl)]
  refine⟨by omega,by show 256*frame+off≤((256*N:Nat):Int);omega,Int.le_refl _,?_⟩
  have e:slc 1 ⟨some (B,0),256*N,256*N⟩ (256*frame+off) ((256*N:Nat):Int)=⟨some (B,256*frame.toNat+off.toNat),256*N-(256*frame.toNat+off.toNat),256*N-(256*frame.toNat+off.toNat)⟩:=by
   unfold slc
   have e1:(256*frame+off).toNat=256*frame.toNat+off.toNat:=by omega
   have e2:(((256*N:Nat):Int)-(256*frame+off)).toNat=256*N-(256*frame.toNat+off.toNat):=by omega
   simp only[e1,e2,Nat.mul_one,Nat.zero_add,Option.map_some]
   rw[if_neg (by omega)]
  show lt (slc 1 ⟨some (B,0),256*N,256*N⟩ (256*frame+off) ((256*N:Nat):Int)) _
  rw[e]
  unfold lt
  rcases hp with hp | ⟨b,o,hpp,hpart⟩
  ·exact absurd hp hl0
  have emin:min p.n (256*N-(256*frame.toNat+off.toNat))=l.length:=by omega
  refine⟨bL l,.inr ⟨b,o,hpp,by show S.part b o (min p.n (256*N-(256*frame.toNat+off.toNat))*1)=_;rw[emin];exact hpart⟩,zdY _,.inr ⟨B,_,rfl,?_,?_⟩⟩
  ·exact⟨_,h.dt,rfl,by show _+min p.n (256*N-(256*frame.toNat+off.toNat))*1≤(bL M).length;rw[emin];simp[bL];omega⟩
  ·have eput:S.put B (256*frame.toNat+off.toNat) (bL l)=S.set B (bw 5 (bL (wrF M frame.toNat off.toNat l))):=by
    rw[wa h.dt]
    show S.set B ⟨5,spl (bL M) (256*frame.toNat+off.toNat) (bL l),(0,0)⟩=_
    rw[xk _ _ _ (by simp[bL];omega)]
    simp[bL,wrF]
   rw[eput]
   exact hY f0 f1 o0 on ⟨by rw[qk h.ne];exact h.hd,zG,h.ne,by rw[zec (by omega)];exact h.len,zed h.byt hby,h.lim⟩
 ·rw[if_pos (by decide)];exact hN hbad
end
end Go.Proofs.YtabdpmnhjlmnlaaGreatDoor
namespace Go.Proofs.YtabdpmnhjlmnlaaGreatDoor
open Go Go.Pt Go.Cr
section
variable {S:Mem} {m B N:Nat} {M:List Int}
theorem zfx {t:Sl} {xs:List Int} (h:Row S 1 t (bL xs)) (hb:Byt xs):By S t xs:=by
 have hl:=h.len
 simp only[bL,List.length_map,Nat.mul_one] at hl
 refine⟨hl,h.cap,hb,?_⟩
 by_cases h0:t.n=0
 ·exact .inl h0
 right
 rcases h.lie with ⟨_,e2⟩ | ⟨b,k,e1,e2,_,_,e5⟩
 ·have:=h.cap;omega
 ·refine⟨b,0,e1,fun i hi=>?_⟩
  rw[Nat.zero_add,qE e2,zK]
  have:(k.cs.take (t.n*1))[i]? = some (.int .u8 xs[i]):=by rw[e5];simp[bL,List.getElem?_eq_getElem hi]
  rw[List.getElem?_take,if_pos (by omega)] at this
  exact this
theorem zbM (h:StoreAt S m B N M) {f i:Nat} (hf:f<N) (hi:i<32) {Q:Int→Int→Mem→Prop} (hQ:∀ S',Keeps S S' []→Q (num (rdF M f (8*i) 8)) 0 S'):qO S (some (m,0)) f i Q:=by
 have hlen:=h.len
 apply xZ
 unfold qV
 simp only[jn]
 rw[if_neg (by omega),if_neg (by omega),w64 (by omega) (by omega)]
 refine fV h (by omega) (fun _ _ _ _ _ t S' hk hrow _=>?_) (fun hbad=>absurd ⟨by omega,by omega,by omega,by omega,by omega⟩ hbad) (by decide)
 have e:(8*(i:Int)).toNat=8*i:=by omega
 have e8:(8:Int).toNat=8:=rfl
 rw[Int.toNat_natCast,e,e8] at hrow
 have hb:Byt (rdF M f (8*i) 8):=fun x hx=>h.byt x (List.mem_of_mem_drop (List.mem_of_mem_take hx))
 exact zcG (zfx hrow hb) (by simp[rdF];omega) (hQ S' hk)
end
end Go.Proofs.YtabdpmnhjlmnlaaGreatDoor
namespace Go.Proofs.YtabdpmnhjlmnlaaGreatDoor
open Go Go.Pt Go.Cr
section
variable {S:Mem} {m B N:Nat} {M:List Int}
theorem zbL (h:StoreAt S m B N M) {f i:Nat} (hf:f<N) (hi:i<32) {w:Int} (hw:W64 w) {Q:Int→Mem→Prop} (hQ:∀ S',Keeps S S' [B]→StoreAt S' m B N (wrF M f (8*i) (bytes8 w))→Q 0 S'):qN S (some (m,0)) f i w Q:=by
 apply xY
 unfold qU
 simp only[jn]
 rw[if_neg (by omega),if_neg (by omega),w64 (by omega) (by omega)]
 refine gZ hw fun c hc=>?_
 have hk:Keeps S (S.set c (bw 5 (bL (bytes8 w)))) []:=Keeps.refl.fresh hc
 have h8:=xc w
 have e:(8*(i:Int)).toNat=8*i:=by omega
 refine vf (h.keep hk) (by omega) (l:=bytes8 w) (.inr ⟨c,0,rfl,?_⟩) h8 (fun h0=>by rw[h0] at h8;simp at h8) (wy w) (fun _ _ _ _ hs=>?_) (fun hbad=>absurd ⟨by omega,by omega,by omega,by show (0:Int)≤((8:Nat):Int);decide,by show 8*(i:Int)+((8:Nat):Int)≤256;omega⟩ hbad)
 ·rw[xL zG,qq (by show 0+(bytes8 w).length*1≤(bL (bytes8 w)).length;simp[bL])]
  simp only[bL,List.drop_zero,Nat.mul_one]
  rw[List.take_of_length_le (by simp)]
 ·rw[Int.toNat_natCast,e] at hs ⊢
  exact hQ _ ((hk.wider (by simp)).set (by simp)) hs
end
end Go.Proofs.YtabdpmnhjlmnlaaGreatDoor
namespace Go.Proofs.YtabdpmnhjlmnlaaGreatDoor
open Go Go.Pt Go.Cr
section
variable {S:Mem} {m B N:Nat} {M:List Int}
theorem fa:∀ n:Nat,zrep n [Value.int .u8 0]=bL (List.replicate n 0)
 | 0=>rfl
 | n+1=>by
  have:=fa n
  simp only[bL,List.map_replicate] at this ⊢
  simp[zrep,List.replicate_succ] at this ⊢
  exact this
theorem zaA (h:StoreAt S m B N M) {f:Nat} (hf:f<N) {Q:Int→Mem→Prop} (hQ:∀ S',Keeps S S' [B]→StoreAt S' m B N (wrF M f 0 (List.replicate 256 0))→Q 0 S'):qA S (some (m,0)) f Q:=by
 apply vI
 unfold yw
 intro c hc
 rw[fa]
 have hk:Keeps S (S.set c (bw 5 (bL (List.replicate 256 0)))) []:=Keeps.refl.fresh hc
 have h8:(List.replicate 256 (0:Int)).length=256:=List.length_replicate
 refine vf (h.keep hk) (by decide) (l:=List.replicate 256 0) (.inr ⟨c,0,rfl,?_⟩) h8 (fun h0=>by rw[h0] at h8;cases h8) (fun x hx=>by rw[List.eq_of_mem_replicate hx];decide) (fun _ _ _ _ hs=>?_) (fun hbad=>absurd ⟨by omega,by omega,by omega,by show (0:Int)≤((256:Nat):Int);decide,by show (0:Int)+((256:Nat):Int)≤256;decide⟩ hbad)
 ·rw[xL zG,qq (by show 0+(List.replicate 256 (0:Int)).length*1≤(bL (List.replicate 256 0)).length;unfold bL;rw[List.length_map];omega)]
  simp only[bL,List.drop_zero,Nat.mul_one]
  rw[List.take_of_length_le (by rw[List.length_map];exact Nat.le_refl _)]
 ·rw[Int.toNat_natCast] at hs ⊢
  exact hQ _ ((hk.wider (by simp)).set (by simp)) hs
end
end Go.Proofs.YtabdpmnhjlmnlaaGreatDoor
end
section
namespace Go.Cr
open Go Go.Pt
open Go.Proofs.YtabdpmnhjlmnlaaGreatDoor (rdF wrF)
def cF {α:Type}:Nat→(Nat→List α)→List α
 | 0,_=>[]
 | n+1,f=>cF n f++f n
section
variable {α:Type} {n w i:Nat} {f g:Nat→List α}
theorem vq:∀ {n:Nat},(∀ i,i<n→f i=g i)→cF n f=cF n g
 | 0,_=>rfl
 | n+1,h=>by simp only[cF];rw[vq fun i hi=>h i (by omega),h n (by omega)]
theorem vF:∀ {n:Nat},(∀ i,i<n→(f i).length=w)→(cF n f).length=n*w
 | 0,_=>by simp[cF]
 | n+1,h=>by simp only[cF,List.length_append];rw[vF fun i hi=>h i (by omega),h n (by omega),Nat.add_mul];omega
theorem zbx:∀ {n i:Nat},(∀ i,i<n→(f i).length=w)→i<n→∃ A B,A.length=i*w∧∀ v,cF n (upd f i v)=A++(v++B)
 | 0,_,_,h=>by omega
 | n+1,i,h,hi=>by
  by_cases e:i=n
  ·subst e
   refine⟨cF i f,[],vF fun j hj=>h j (by omega),fun v=>?_⟩
   simp only[cF,zt,List.append_nil]
   rw[vq fun j hj=>zn (f:=f) (v:=v) (show j≠i by omega)]
  ·obtain⟨A,B,h1,h2⟩:=zbx (n:=n) (i:=i) (fun j hj=>h j (by omega)) (by omega)
   refine⟨A,B++f n,h1,fun v=>?_⟩
   simp only[cF]
   rw[h2,zn (Ne.symm e)];simp
theorem zdg (h:∀ i,i<n→(f i).length=w) (hi:i<n):∃ A B,A.length=i*w∧cF n f=A++(f i++B)∧∀ v,cF n (upd f i v)=A++(v++B):=by
 obtain⟨A,B,h1,h2⟩:=zbx h hi
 exact⟨A,B,h1,by rw[←h2,zba],h2⟩
end
variable {n w i k:Nat} {f g:Nat→List Value}
theorem zdf (h:∀ i,i<n→(f i).length=w) (hi:i<n) (hk:k<w):nthL (cF n f) (i*w+k)=nthL (f i) k:=by
 obtain⟨A,B,h2,h1,_⟩:=zdg h hi
 have hl:=h i hi
 rw[zK,zK,h1,List.getElem?_append_right (by omega),List.getElem?_append_left (by omega)]
 congr 1;omega
theorem fJ {m:Nat} (h:∀ i,i<n→(f i).length=w) (hi:i<n) (hk:k+m≤w):lpart (cF n f) (i*w+k) m=lpart (f i) k m:=by
 obtain⟨A,B,h2,h1,_⟩:=zdg h hi
 have hl:=h i hi
 have ht:(cF n f).length=n*w:=vF h
 have hb:i*w+w≤n*w:=by
  have:=Nat.mul_le_mul_right w (show i+1≤n by omega)
  rw[Nat.add_mul,Nat.one_mul] at this;exact this
 rw[qq (by omega),qq (by omega)]
 congr 1
 apply List.ext_getElem?
 intro j
 rw[List.getElem?_take,List.getElem?_take,List.getElem?_drop,List.getElem?_drop,h1]
 by_cases hj:j<m
 ·rw[if_pos hj,if_pos hj,List.getElem?_append_right (by omega),List.getElem?_append_left (by omega)]
  congr 1;omega
 ·rw[if_neg hj,if_neg hj]
theorem zby {vs:List Value} (h:∀ i,i<n→(f i).length=w) (hi:i<n) (hk:k+vs.length≤w):spl (cF n f) (i*w+k) vs=cF n (upd f i (spl (f i) k vs)):=by
 have hl:=h i hi
 obtain⟨A,B,h1,h2,h3⟩:=zdg h hi
 rw[h3,h2,←h1,kq rfl]
 congr 1
 rw[xk _ _ _ (by rw[List.length_append];omega),xk _ _ _ (by omega),List.take_append_of_le_length (by omega),List.drop_append_of_le_length (by omega)]
 simp
theorem kA {A B:List Value} {n j:Nat} (h:A.length=n):nthL (A++B) (n+j)=nthL B j:=zdD h
theorem zac {A B:List Value} {j:Nat} (h:j<A.length):nthL (A++B) j=nthL A j:=by
 rw[zK,zK,List.getElem?_append_left h]
theorem xE {A B:List Value} {n j m:Nat} (h:A.length=n):lpart (A++B) (n+j) m=lpart B j m:=by
 by_cases hb:j+m≤B.length
 ·rw[qq (by simp;omega),qq hb]
  congr 1
  rw[←List.drop_drop,List.drop_left' h]
 ·unfold lpart
  have e1:Nat.ble (n+j+m) (A++B).length=false:=by
   cases hh:Nat.ble (n+j+m) (A++B).length
   ·rfl
   ·have:=Nat.le_of_ble_eq_true hh;simp at this;omega
  have e2:Nat.ble (j+m) B.length=false:=by
   cases hh:Nat.ble (j+m) B.length
   ·rfl
   ·have:=Nat.le_of_ble_eq_true hh;omega
  rw[e1,e2]
theorem wx {A B:List Value} {j m:Nat} (h:j+m≤A.length):lpart (A++B) j m=lpart A j m:=by
 rw[qq (by simp;omega),qq h]
 congr 1
 apply List.ext_getElem?
 intro x
 rw[List.getElem?_take,List.getElem?_take,List.getElem?_drop,List.getElem?_drop]
 by_cases hx:x<m
 ·rw[if_pos hx,if_pos hx,List.getElem?_append_left (by omega)]
 ·rw[if_neg hx,if_neg hx]
theorem fi {A B v:List Value} {j:Nat} (h:j+v.length≤A.length):spl (A++B) j v=spl A j v++B:=by
 rw[xk _ _ _ (by rw[List.length_append];omega),xk _ _ _ (by omega),List.take_append_of_le_length (by omega),List.drop_append_of_le_length (by omega),List.append_assoc,List.append_assoc,List.append_assoc]
theorem zff {d:Nat→List Int} {N f off n:Nat} (h:∀ f,f<N→(d f).length=256) (hf:f<N) (hn:off+n≤256):rdF (cF N d) f off n=rdB (d f) off n:=by
 obtain⟨A,B,h1,h2,_⟩:=zdg h hf
 have hl:=h f hf
 unfold rdF rdB
 rw[h2,show 256*f+off=A.length+off by omega,←List.drop_drop,List.drop_left' rfl]
 rw[List.drop_append_of_le_length (by omega),List.take_append_of_le_length (by rw[List.length_drop];omega)]
theorem zcq {d:Nat→List Int} {N f off:Nat} {l:List Int} (h:∀ f,f<N→(d f).length=256) (hf:f<N) (hn:off+l.length≤256):wrF (cF N d) f off l=cF N (wr d f off l):=by
 obtain⟨A,B,h1,h2,h3⟩:=zdg h hf
 have hl:=h f hf
 unfold wrF wr
 rw[h3,h2,show 256*f+off=A.length+off by omega,List.take_length_add_append,Nat.add_assoc,←List.drop_drop,List.drop_left' rfl]
 rw[List.take_append_of_le_length (by omega),List.drop_append_of_le_length (by omega)]
 unfold spB
 simp
end Go.Cr
end
section
namespace Go.Cr
open Go Go.Pt
structure Pc (S:Mem) (ρ:Rho) (r b:Nat) (l:List Value):Prop where
 at_:At S b 0 l
 rol:ρ b=some r
section
variable {S S' S0:Mem} {ρ ρ' ρ0:Rho} {R:Nat→Prop} {r b:Nat} {l:List Value}
theorem Pc.keep (h:Pc S ρ r b l) (m:Mv S ρ S' ρ' R) (hr:¬R r):Pc S' ρ' r b l:=
 ⟨h.at_.keep (m.kp b h.at_.some fun r' e=>by rw[h.rol] at e;cases e;exact hr),m.ext b r h.rol⟩
theorem Pc.cell (h:Pc S ρ r b l) {x:Nat} (i:Nat) (hi:i<l.length) (hx:x=i):S.cell b x=nthL l i:=by
 subst hx
 have:=h.at_.cell hi
 rwa [Nat.zero_add] at this
theorem Pc.part (h:Pc S ρ r b l) {x n:Nat} (i:Nat) (hi:i+n≤l.length) (hx:x=i):S.part b x n=lpart l i n:=by
 subst hx
 have:=h.at_.part hi
 rwa [Nat.zero_add] at this
theorem Pc.ne {r' b':Nat} {l':List Value} (h:Pc S ρ r b l) (h':Pc S ρ r' b' l') (hr:r≠r'):b≠b':=fun e=>by
 have:=h.rol;rw[e,h'.rol] at this;cases this;exact hr rfl
theorem Pc.pt (h:Pc S ρ r b l) (hg:∀ b r,ρ b=some r→S b≠none) {x n:Nat} {vs:List Value} (i:Nat) (hn:n=vs.length) (hi:i+vs.length≤l.length) (hx:x=i) {K:Mem→Prop}
  (hK:∀ S',Mv S ρ S' ρ (· = r)→Pc S' ρ r b (spl l i vs)→K S'):Go.Pt.pt S b x n vs K:=by
 subst hx
 have e:x=0+x:=(Nat.zero_add x).symm
 rw[e]
 refine h.at_.pt (i:=x) hn hi ?_
 have hl:(spl l x vs).length=l.length:=qn hi
 exact hK _ (h.at_.mv (R:=(· = r)) (Mv.refl hg) h.rol rfl _) ⟨h.at_.put hl,h.rol⟩
end
def evL (e:Evt):List Value:=[.int .u8 e.kind,.int .i64 e.seat,.int .u64 e.a,.int .u64 e.b]
def lsL (l:Ls):List Value:=[.bool l.on,.int .i64 l.fr,.int .i64 l.pg,.int .i64 l.to,.bool l.wr,.int .i64 l.at_]
def owL (o:Ow):List Value:=[.int .u8 o.kind,.int .i64 o.vm,.int .i64 o.page,.int .i64 o.sh]
def cwL (r:Cw):List Value:=[.int .i64 r.vm,.int .i64 r.page,.bool true,.int .i64 r.f,.bool r.w]
def nL (l:List Nat):List Value:=l.map fun (n:Nat)=>Value.int .i64 n
def bI (f:Nat→Bool):Nat:=(f 0).toNat+2*(f 1).toNat+4*(f 2).toNat+8*(f 3).toNat+16*(f 4).toNat+32*(f 5).toNat
structure Vx where
 ss:Sl
 fs:Sl
 ks:Sl
 d:Nat→Sl
def vx0:Vx:=⟨⟨none,0,0⟩,⟨none,0,0⟩,⟨none,0,0⟩,fun _=>⟨none,0,0⟩⟩
def vmC (x:Vx) (v:Bv) (tf late:Int):List Value:=
 [.bool v.on,eL x.ss,.int .i64 tf,eL x.fs,.int .i64 v.quota,.int .u64 late,eL x.ks,eL (x.d 0),eL (x.d 1),eL (x.d 2),eL (x.d 3),.int .u32 (bI v.bells)]
theorem zar {x:Vx} {v:Bv} {tf late:Int}:(vmC x v tf late).length=12:=rfl
def knL (k:Kn) (x:Nat→Vx) (ob kb:Nat):List Value:=
 [.int .i64 k.form,.int .u64 k.now]++(cF 6 (fun i=>vmC (x i) (k.vm i) (k.tf i) (k.late i))++([eP (some (ob,0))]++(cF 16 (fun i=>lsL (k.ls i))++([eP (some (kb,0))]++cF 18 fun i=>[.int .i64 (k.turns i)]))))
section
variable {k:Kn} {x:Nat→Vx} {ob kb:Nat}
theorem wT:(cF 6 fun i=>vmC (x i) (k.vm i) (k.tf i) (k.late i)).length=72:=vF (w:=12) fun _ _=>rfl
theorem zaH:(cF 16 fun i=>lsL (k.ls i)).length=96:=vF (w:=6) fun _ _=>rfl
theorem zeh:(cF 18 fun i=>[Value.int .i64 (k.turns i)]).length=18:=vF (w:=1) fun _ _=>rfl
theorem wF:(knL k x ob kb).length=190:=by
 unfold knL
 simp only[List.length_append,wT,zaH,zeh,List.length_cons,List.length_nil]
theorem zfk {i j:Nat} (hi:i<6) (hj:j<12):nthL (knL k x ob kb) (2+(i*12+j))=nthL (vmC (x i) (k.vm i) (k.tf i) (k.late i)) j:=by
 unfold knL
 rw[kA (n:=2) rfl,zac (by rw[wT];omega)]
 exact zdf (w:=12) (fun _ _=>rfl) hi hj
theorem zez {i j m:Nat} (hi:i<6) (hj:j+m≤12):lpart (knL k x ob kb) (2+(i*12+j)) m=lpart (vmC (x i) (k.vm i) (k.tf i) (k.late i)) j m:=by
 unfold knL
 rw[xE (n:=2) rfl,wx (by rw[wT];omega)]
 exact fJ (w:=12) (fun _ _=>rfl) hi hj
theorem zdV:nthL (knL k x ob kb) 74=some (eP (some (ob,0))):=by
 unfold knL
 rw[show 74=2+(72+0) by rfl,kA (n:=2) rfl,kA (n:=72) wT];rfl
theorem zeB:lpart (knL k x ob kb) 75 96=some (cF 16 fun i=>lsL (k.ls i)):=by
 unfold knL
 rw[show 75=2+(72+(1+0)) by omega,xE (n:=2) rfl,xE (n:=72) wT,xE (n:=1) rfl,wx (by rw[zaH];omega)]
 have:=zC (zaH (k:=k));exact this
theorem zeA {i j:Nat} {vs:List Value} (hi:i<6) (hj:j+vs.length≤12) {x':Vx} {v':Bv} {tf' late':Int} {fr':List Nat} (he:spl (vmC (x i) (k.vm i) (k.tf i) (k.late i)) j vs=vmC x' v' tf' late') :
  spl (knL k x ob kb) (2+(i*12+j)) vs=knL { k with vm:=upd k.vm i v',tf:=upd k.tf i tf',late:=upd k.late i late',fr:=upd k.fr i fr' } (upd x i x') ob kb:=by
 unfold knL
 rw[kq (n:=2) rfl,fi (by rw[wT];omega),zby (w:=12) (fun _ _=>rfl) hi hj,he]
 have e:cF 6 (upd (fun i=>vmC (x i) (k.vm i) (k.tf i) (k.late i)) i (vmC x' v' tf' late'))=cF 6 fun n=>vmC (upd x i x' n) (upd k.vm i v' n) (upd k.tf i tf' n) (upd k.late i late' n):=vq fun n _=>by
  by_cases e:n=i
  ·subst e;simp only[zt]
  ·simp only[zn e]
 rw[e]
end
end Go.Cr
end
section
namespace Go.Pt
open Go Go.RowKit Go.Cr
section
variable {S S':Mem} {ρ ρ':Rho} {r w:Nat} {s:Sl} {l:List Value}
theorem Rw.some (h:Rw S ρ r w s l) (h0:0<l.length):∃ c,s.p=Option.some (c,0):=by
 rcases h.row.lie with ⟨_,h2⟩ | ⟨b,k,h1,_⟩
 ·have h4:=h.row.len
  have h3:=h.row.cap
  have hn:s.n=0:=by omega
  rw[hn,Nat.zero_mul] at h4
  omega
 ·exact⟨b,h1⟩
theorem Rw.cell (h:Rw S ρ r w s l) {c:Nat} (hc:s.p=Option.some (c,0)) {x:Nat} (i:Nat) (hi:i<l.length) (hx:x=i):S.cell c x=nthL l i:=by
 subst hx
 have hl:=h.row.len
 rcases h.row.lie with ⟨h1,_⟩ | ⟨b,k,h1,h2,h3,h4,h5⟩
 ·rw[h1] at hc;cases hc
 ·rw[h1] at hc;cases hc
  rw[qE h2,zK,zK,←h5,List.getElem?_take,if_pos (by omega)]
theorem Rw.part (h:Rw S ρ r w s l) {c:Nat} (hc:s.p=Option.some (c,0)) {x n:Nat} (i:Nat) (hi:i+n≤l.length) (hx:x=i):S.part c x n=lpart l i n:=by
 subst hx
 have hl:=h.row.len
 have hcap:=h.row.cap
 rcases h.row.lie with ⟨h1,_⟩ | ⟨b,k,h1,h2,h3,h4,h5⟩
 ·rw[h1] at hc;cases hc
 ·rw[h1] at hc;cases hc
  have hm:s.n*w≤s.c*w:=Nat.mul_le_mul_right _ hcap
  rw[xL h2,qq (by omega),qq hi]
  congr 1
  apply List.ext_getElem?
  intro j
  rw[List.getElem?_take,List.getElem?_take,List.getElem?_drop,List.getElem?_drop]
  by_cases hj:j<n
  ·rw[if_pos hj,if_pos hj,←h5,List.getElem?_take,if_pos (by omega)]
  ·rw[if_neg hj,if_neg hj]
theorem Rw.pt (h:Rw S ρ r w s l) (hg:∀ b r,ρ b=Option.some r→S b≠none) {c:Nat} (hc:s.p=Option.some (c,0)) {x n:Nat} {vs:List Value} (i:Nat) (hn:n=vs.length) (hi:i+vs.length≤l.length) (hx:x=i) {K:Mem→Prop}
  (hK:∀ S',Mv S ρ S' ρ (· = r)→Rw S' ρ r w s (spl l i vs)→K S'):Go.Pt.pt S c x n vs K:=by
 subst hx
 have hl:=h.row.len
 have hcap:=h.row.cap
 have hr:=h.rol c 0 hc
 rcases h.row.lie with ⟨h1,_⟩ | ⟨b,k,h1,h2,h3,h4,h5⟩
 ·rw[h1] at hc;cases hc
 ·rw[h1] at hc;cases hc
  have hm:s.n*w≤s.c*w:=Nat.mul_le_mul_right _ hcap
  refine⟨⟨k,h2,h3,by omega⟩,?_⟩
  rw[wa h2]
  refine hK _ (Mv.put (R:=(· = r)) (Mv.refl hg) hr rfl _) ⟨⟨by rw[qn hi];exact hl,hcap,.inr ⟨c,_,h1,zG,h3,?_,?_⟩⟩,h.rol⟩
  ·simp only;rw[qn (by omega)];exact h4
  ·simp only
   rw[←h5]
   have hkl:k.cs=k.cs.take (s.n*w)++k.cs.drop (s.n*w):=(List.take_append_drop _ _).symm
   have h6:(k.cs.take (s.n*w)).length=s.n*w:=by rw[List.length_take];omega
   have e:spl k.cs x vs=spl (k.cs.take (s.n*w)) x vs++k.cs.drop (s.n*w):=by
    conv=>lhs;rw[hkl]
    exact fi (by omega)
   rw[e,List.take_left' (by rw[qn (by omega)];exact h6)]
theorem Rw.n (h:Rw S ρ r w s l) (hw:0<w) {m:Nat} (hm:l.length=m*w):s.n=m:=by
 have:=h.row.len
 rw[hm] at this
 exact (Nat.eq_of_mul_eq_mul_right hw this).symm
theorem Rw.sl (h:Rw S ρ r w s l) (h0:0<l.length):∃ c,s=⟨Option.some (c,0),s.n,s.c⟩∧s.p=Option.some (c,0):=by
 obtain⟨c,hc⟩:=h.some h0
 refine⟨c,?_,hc⟩
 obtain⟨p,n,c'⟩:=s
 simp only at hc;rw[hc]
theorem Rw.keeps (h:Rw S ρ r w s l) (hk:Keeps S S' []):Rw S' ρ r w s l:=
 ⟨h.row.keep fun b hb=>by
  rcases h.row.lie with ⟨h1,_⟩ | ⟨b',k,h1,h2,_⟩
  ·rw[h1] at hb;cases hb
  ·rw[h1] at hb;cases hb;exact hk b (by rw[h2];simp) (by simp),h.rol⟩
end
end Go.Pt
namespace Go.Cr
open Go Go.Pt
theorem Pc.keeps {S S':Mem} {ρ:Rho} {r b:Nat} {l:List Value} (h:Pc S ρ r b l) (hk:Keeps S S' []):Pc S' ρ r b l:=
 ⟨h.at_.keep (hk b h.at_.some (by simp)),h.rol⟩
structure OwnP (S:Mem) (ρ:Rho) (ob N:Nat) (own:Nat→Ow):Prop where
 ex:∃ rs,Pc S ρ 8 ob [eL rs]∧Rw S ρ 9 4 rs (cF N fun f=>owL (own f))
theorem wu {own:Nat→Ow} {N:Nat}:(cF N fun f=>owL (own f)).length=N*4:=vF (w:=4) fun _ _=>rfl
section
variable {S S':Mem} {ρ ρ':Rho} {R:Nat→Prop} {ob N:Nat} {own:Nat→Ow}
theorem OwnP.keep (h:OwnP S ρ ob N own) (m:Mv S ρ S' ρ' R) (h8:¬R 8) (h9:¬R 9):OwnP S' ρ' ob N own:=by
 obtain⟨rs,h1,h2⟩:=h.ex
 exact⟨rs,h1.keep m h8,h2.keep m h9⟩
theorem OwnP.keeps (h:OwnP S ρ ob N own) (hk:Keeps S S' []):OwnP S' ρ ob N own:=by
 obtain⟨rs,h1,h2⟩:=h.ex
 exact⟨rs,h1.keeps hk,h2.keeps hk⟩
end
end Go.Cr
end
section
namespace Go.Cr
open Go Go.Pt
theorem qD (g:Nat→Bool) (n:Nat):count g (n+1)=count g n+(g n).toNat:=by
 unfold count
 rw[List.range_succ,List.filter_append,List.length_append]
 congr 1
 cases h:g n <;> simp[h]
theorem xQ {g g':Nat→Bool}:∀ {n:Nat},(∀ i,i<n→g i=g' i)→count g n=count g' n
 | 0,_=>rfl
 | n+1,h=>by rw[qD,qD,xQ fun i hi=>h i (by omega),h n (by omega)]
theorem jA (g:Nat→Bool):∀ n,count g n≤n
 | 0=>by simp[count]
 | n+1=>by
  have:=jA g n
  rw[qD]
  cases g n <;> simp <;> omega
theorem gY {g g':Nat→Bool}:∀ {n:Nat},(∀ i,i<n→g i=true→g' i=true)→count g n≤count g' n
 | 0,_=>by simp[count]
 | n+1,h=>by
  rw[qD,qD]
  have:=gY (n:=n) fun i hi=>h i (by omega)
  have h2:=h n (by omega)
  cases hg:g n
  ·simp;omega
  ·rw[h2 hg];simp;omega
theorem yD {g:Nat→Bool}:∀ {n:Nat},(∀ i,i<n→g i=false)→count g n=0
 | 0,_=>rfl
 | n+1,h=>by rw[qD,yD fun i hi=>h i (by omega),h n (by omega)];rfl
theorem zdd {g:Nat→Bool} {n i:Nat} (hi:i<n) (h:g i=true):0<count g n:=by
 induction n with
 | zero=>omega
 | succ n ih=>
  rw[qD]
  by_cases e:i=n
  ·subst e;rw[h];simp
  ·have:=ih (by omega);omega
theorem gX {g:Nat→Bool} {n:Nat} (h:count g n=0):∀ i,i<n→g i=false:=fun i hi=>by
 cases hg:g i
 ·rfl
 ·have:=zdd hi hg;omega
theorem xP {g:Nat→Bool} {n f:Nat} (hf:f<n) (b:Bool):count (upd g f b) n+(g f).toNat=count g n+b.toNat:=by
 induction n with
 | zero=>omega
 | succ n ih=>
  rw[qD,qD]
  by_cases e:f=n
  ·subst e
   rw[zt,xQ (g:=upd g f b) (g':=g) fun i hi=>zn (by omega)]
   omega
  ·have:=ih (by omega)
   rw[zn (f:=g) (i:=f) (j:=n) (Ne.symm e)]
   omega
theorem zX {u:Nat→Bool} {N f:Nat} (h:firstOff u N=some f):f<N∧u f=false∧∀ g,g<f→u g=true:=by
 unfold firstOff at h
 induction N with
 | zero=>simp at h
 | succ N ih=>
  rw[List.range_succ,List.find?_append] at h
  cases h1:(List.range N).find? (fun i=>! u i) with
  | some x=>
   rw[h1] at h
   simp only[Option.some_or,Option.some.injEq] at h
   subst h
   have:=ih h1
   exact⟨by omega,this.2⟩
  | none=>
   rw[h1] at h
   rw[Option.none_or] at h
   cases hu:u N with
   | true=>simp[hu] at h
   | false=>
    simp[hu] at h
    subst h
    refine⟨by omega,hu,fun g hg=>?_⟩
    have:=List.find?_eq_none.1 h1 g (List.mem_range.2 hg)
    simpa using this
theorem wJ {u:Nat→Bool} {N:Nat} (h:firstOff u N=none):∀ f,f<N→u f=true:=fun f hf=>by
 have:=List.find?_eq_none.1 h f (List.mem_range.2 hf)
 simpa using this
theorem vQ {u:Nat→Bool} {N f:Nat} (hf:f<N) (h0:u f=false) (h1:∀ g,g<f→u g=true):firstOff u N=some f:=by
 cases h:firstOff u N with
 | none=>have:=wJ h f hf;rw[h0] at this;cases this
 | some g=>
  obtain⟨_,h3,h4⟩:=zX h
  rcases Nat.lt_trichotomy f g with e | e | e
  ·have:=h4 f e;rw[h0] at this;cases this
  ·rw[e]
  ·have:=h1 g e;rw[h3] at this;cases this
theorem gy {u u':Nat→Bool} {N:Nat} (h:∀ i,i<N→u i=u' i):firstOff u N=firstOff u' N:=by
 cases h1:firstOff u N with
 | some f=>
  obtain⟨a,b,c⟩:=zX h1
  exact (vQ a (by rw[←h f a];exact b) fun g hg=>by rw[←h g (by omega)];exact c g hg).symm
 | none=>
  cases h2:firstOff u' N with
  | none=>rfl
  | some f=>
   obtain⟨a,b,c⟩:=zX h2
   have:=wJ h1 f a
   rw[h f a,b] at this;cases this
theorem xb {u:Nat→Bool} {N:Nat}:firstOff u N=none↔count (fun f=>! u f) N=0:=by
 constructor
 ·intro h
  exact yD fun i hi=>by rw[wJ h i hi];rfl
 ·intro h
  cases h1:firstOff u N with
  | none=>rfl
  | some f=>
   obtain⟨a,b,_⟩:=zX h1
   have:=gX h f a
   rw[b] at this;cases this
theorem yC {N:Nat}:∀ {k:Nat} {u:Nat→Bool} {l:List Nat} {u':Nat→Bool},takeN N k u=some (l,u') →
  l.length=k∧l.Nodup∧(∀ f∈l,f<N∧u f=false)∧(∀ f,u' f=(u f || decide (f∈l)))∧count (fun f=>! u' f) N+k=count (fun f=>! u f) N
 | 0,u,l,u',h=>by
  simp only[takeN,Option.some.injEq,Prod.mk.injEq] at h
  obtain⟨rfl,rfl⟩:=h
  simp
 | k+1,u,l,u',h=>by
  simp only[takeN] at h
  cases h1:firstOff u N with
  | none=>rw[h1] at h;cases h
  | some f=>
   rw[h1] at h
   dsimp only at h
   cases h2:takeN N k (upd u f true) with
   | none=>rw[h2] at h;cases h
   | some q=>
    obtain⟨l2,u2⟩:=q
    rw[h2] at h
    simp only[Option.some.injEq,Prod.mk.injEq] at h
    obtain⟨rfl,rfl⟩:=h
    obtain⟨a,b,_⟩:=zX h1
    obtain⟨c1,c2,c3,c4,c5⟩:=yC h2
    have hnf:f∉l2:=fun hm=>by
     have:=(c3 f hm).2
     rw[zt] at this;cases this
    refine⟨by rw[List.length_cons,c1],List.nodup_cons.2 ⟨hnf,c2⟩,fun g hg=>?_,fun g=>?_,?_⟩
    ·rcases List.mem_cons.1 hg with e | e
     ·rw[e];exact⟨a,b⟩
     ·have h3:=c3 g e
      rw[zn (fun e2=>hnf (by rw[←e2];exact e))] at h3
      exact h3
    ·rw[c4 g]
     by_cases e:g=f
     ·subst e;rw[zt];simp
     ·rw[zn e];simp[e]
    ·have e1:(fun g=>! upd u f true g)=upd (fun g=>! u g) f false:=by
      funext g;unfold upd;split <;> rfl
     have:=xP (g:=fun g=>! u g) a false
     rw[←e1] at this
     simp only[b,Bool.not_false,Bool.toNat_true,Bool.toNat_false] at this
     omega
theorem wo {N:Nat}:∀ {k:Nat} {u:Nat→Bool},takeN N k u=none↔count (fun f=>! u f) N<k
 | 0,u=>by simp[takeN]
 | k+1,u=>by
  simp only[takeN]
  cases h1:firstOff u N with
  | none=>
   have:=xb.1 h1
   exact⟨fun _=>by omega,fun _=>rfl⟩
  | some f=>
   obtain⟨a,b,_⟩:=zX h1
   have e1:(fun g=>! upd u f true g)=upd (fun g=>! u g) f false:=by
    funext g;unfold upd;split <;> rfl
   have:=xP (g:=fun g=>! u g) a false
   rw[←e1] at this
   simp only[b,Bool.not_false,Bool.toNat_true,Bool.toNat_false] at this
   have ih:=wo (N:=N) (k:=k) (u:=upd u f true)
   dsimp only
   cases h2:takeN N k (upd u f true) with
   | none=>
    have h3:=ih.1 h2
    exact⟨fun _=>by omega,fun _=>rfl⟩
   | some q=>
    obtain⟨l2,u2⟩:=q
    have h3:¬count (fun g=>! upd u f true g) N<k:=fun h=>by
     have:=ih.2 h
     rw[h2] at this;cases this
    exact⟨fun h=>(by cases h),fun h=>(by omega)⟩
end Go.Cr
end
section
namespace Go.Proofs.YtabdpmnhjlmnlaaGreatDoor
open Go Go.Pt
attribute [local irreducible] Code.wp Back bodyPost wpList FR WL WC WQ WA AW Tr Yc HC AllC
set_option maxRecDepth 20000
set_option maxHeartbeats 4000000
set_option linter.unusedVariables false
def yU (S:Mem) (c:Pt) (vm:Int) (page:Int) (Q:Mem→Prop):Prop:=
 al S 3 ([.int .i64 vm]) fun b Sx=>
 al Sx 3 ([.int .i64 page]) fun b_1 Sx_1=>
 if c≠none then
 xo Sx_1 c (.func (.func 229) #[] #[.pointer (some ⟨b,0,none⟩),.pointer (some ⟨b_1,0,none⟩)]) fun Sx_2=>
 Q Sx_2
 else
 Q Sx_1
theorem kn {S:Mem} {c:Pt} {vm:Int} {page:Int} {Q:Mem→Prop} (H:yU S c vm page Q):xp S c vm page Q:=by
 unfold yU at H
 exact Tr.intro Tryz.func203 E Tryz.ntmps203 E fun w0=>csr<|xW E E E fun b=>vy 0 E fun hb=>have H1:=H b hb;xW E E E fun b_1=>vy 0 E fun hb_1=>have H2:=H1 b_1 hb_1;nxr<|mv E E<|iteK H2 (fun c_1 H3=>s_p E (yT (zbC (p:=c) E E) c_1)<|nx<|ctr E E<|mv E E<|s_p E (zfE E)<|zdR E E H3 fun Sx_2 H4=>zu<|jQ Tryz.results203 (zi) ⟨E,H4⟩) fun c_1 H3=>s_p E (yF (zbC (p:=c) E E) c_1)<|nx<|cfs E E<|jQ Tryz.results203 (zi) ⟨E,H3⟩
def yc (S:Mem) (r:List Value) (t:Pt) (t_1:Pt) (Q:Bool→Mem→Prop):Prop:=
 r.length=5 ∧
 gA (lpart r 0 2) fun a=>
 nn t fun b_1 o=>
 gI (S.cell b_1 o) .i64 fun t_2=>
 nn t_1 fun b_2 o_1=>
 gI (S.cell b_2 o_1) .i64 fun t_3=>
 fits [.i .i64,.i .i64] a=true ∧
 Q (!(eqL a ([.int .i64 t_2,.int .i64 t_3]))) S
theorem wV {S:Mem} {r:List Value} {t:Pt} {t_1:Pt} {Q:Bool→Mem→Prop} (H:yc S r t t_1 Q):vR S r t t_1 Q:=by
 unfold yc at H
 exact Tr.intro Tryz.func229 E Tryz.ntmps229 E fun w0=>an H fun hr H1=>csr<|xW E E E fun b=>gv E E<|nxr<|s_p E (zD E E)<|gx H1 fun a ha H2=>by refine s_v E (qu E ((qv ha).2.2)) (qi 0 E ha) ?_;exact by obtain⟨b_1,o,rfl,H3⟩:=H2;exact gx H3 fun t_2 ht_2 H4=>s_v E (zB E) (zV ht_2)<|by obtain⟨b_2,o_1,rfl,H5⟩:=H4;exact gx H5 fun t_3 ht_3 H6=>s_v E (zB E) (zV ht_3)<|s_p E (zM E E)<|by exact an H6 fun c H7=>s_p E (zcm E E c E)<|gv E E<|nx<|zm<|zl Tryz.results229 (zf E zi) ⟨_,E,H7⟩
def yS (S:Mem) (c:Pt) (wants:Value) (Q:Mem→Prop):Prop:=
 jn (fun (l:Sl) (Sx:Mem)=>
 nn c fun b o=>
 pt Sx b o 1 ([eL l]) fun Sx_1=>
 Q Sx_1) fun Jx=>
 nn c fun b_1 o_1=>
 gL (S.cell b_1 o_1) fun t=>
 lp (fun Xx (z:Sl×Int) (Sx_2:Mem)=>
 match z with
 | (l_1,t_1)=>
 if t_1<(t.n:Int) then
 sl t fun b_2 o_2 n n_1=>
 0≤t_1∧t_1<((n:Nat):Int) ∧
 gA (Sx_2.part b_2 (o_2+t_1.toNat*5) 5) fun t_2=>
 t_2.all (·.oneCell')=true ∧
 cv Tryz.prog Sx_2 wants [valL t_2] fun rv Sx_3=>∃ t_3:Bool,rv=.bool t_3∧
 if t_3=true then
 t_2.all (·.oneCell')=true ∧
 ap Sx_3 264 5 40 [.int .i64 0,.int .i64 0,.bool false,.int .i64 0,.bool false] l_1 1 t_2 fun t_4 Sx_4=>
 Xx (t_4,IntKind.i64.wrap (t_1+1)) Sx_4
 else
 Xx (l_1,IntKind.i64.wrap (t_1+1)) Sx_3
 else
 Jx l_1 Sx_2) (⟨none,0,0⟩,0) S
theorem km {S:Mem} {c:Pt} {wants:Value} {Q:Mem→Prop} (H:yS S c wants Q):xo S c wants Q:=by
 unfold yS at H
 exact Tr.intro Tryz.func151 E Tryz.ntmps151 E fun w0=>csr<|gv E E<|nx<|zo H (fun (J:Sl→Mem→Prop) (z:Sl) S=>J z S) (fun z=>⟨28,[(0,eP c),(4,eL z)]⟩) (fun z=>[]) (fun l Sx H1=>zr<|mv E E<|mv E E<|by obtain⟨b,o,rfl,H2⟩:=H1;exact s_p E (qb E)<|s_p E (zD E E)<|an H2 fun c_1 H3=>wW E E E E E c_1 E<|zu<|jQ Tryz.results151 (zi) ⟨E,H3⟩) (fun Jx hJx H4=>csr<|mv E E<|by obtain⟨b_1,o_1,rfl,H5⟩:=H4;exact s_p E (qb E)<|s_p E (zD E E)<|gx H5 fun t ht H6=>s_v E (zB E) (zV ht)<|s_p E (qy E)<|mv E E<|nx<|zs<|qh (fun z=>⟨28,[(0,.pointer (some ⟨b_1,o_1,none⟩)),(1,wants),(4,eL z.1),(10,eL t),(11,.int .i64 (t.n:Int)),(12,.int .i64 z.2)]⟩) (fun z=>[]) (⟨none,0,0⟩,0) (idx:=[]) H6 E ⟨E,E,E,E,E,E,True.intro⟩ E<|by rintro Xx hXx ⟨l_1,t_1⟩ Sx_2 H7;exact csr<|iteK H7 (fun c_2 H8=>s_p E (yT (zw E E) c_2)<|nx<|zx<|c_t E E<|qg<|zk<|zx<|zs<|csr<|by obtain⟨b_2,o_2,n,n_1,rfl,H9⟩:=H8;exact an2 H9 fun c_3 c_4 H10=>s_p E (qG E E c_3 c_4 E)<|gx H10 fun t_2 ht_2 H11=>by refine s_v E (qu E (zH ht_2)) (wm ht_2) ?_;exact by refine zN E fun b_3=>?_;exact an H11 fun c_5 H12=>zz 0 E E E E E (zH ht_2) E c_5<|nxr<|mv E E<|by refine s_v E (qu E (zH ht_2)) (qi (k:=5) 0 E (zC (zH ht_2))) ?_;exact zfO E E E H12 fun rv Sx_3 H13=>by obtain⟨t_3,rfl,H14⟩:=H13;exact by have H15:=vY H14;rcases H15 with ⟨rfl,H16⟩ | ⟨rfl,H16⟩;exact (nx<|ctr E E<|mv E E<|by refine s_v E (qu E (zH ht_2)) (qi (k:=5) 0 E (zC (zH ht_2))) ?_;exact zaB E E (by decide) (kG (size:=5) E (zH ht_2)) fun b_4=>an H16 fun c_6 H17=>vN (sx:=l_1) (vs:=t_2) E E E (zcg 1 E (zC (zH ht_2))) (zH ht_2) c_6 (by decide) H17 fun t_4 Sx_4 H18=>gv E E<|zu<|zQ<|zk<|zr<|s_p E (zU E E)<|mv E E<|zu<|hXx (t_4,IntKind.i64.wrap (t_1+1)) _ _ _ _ [] H18 E ⟨E,E,E,E,E,E,True.intro⟩ E);exact (nx<|cfs E E<|zQ<|zk<|zr<|s_p E (zU E E)<|mv E E<|zu<|hXx (l_1,IntKind.i64.wrap (t_1+1)) _ _ _ _ [] H16 E ⟨E,E,E,E,E,E,True.intro⟩ E)) fun c_2 H8=>s_p E (yF (zw E E) c_2)<|nx<|zx<|c_f E E<|zT<|zg<|zg<|zv<|hJx l_1 _ _ _ _ [] H8 E ⟨E,E,True.intro⟩ E)
end Go.Proofs.YtabdpmnhjlmnlaaGreatDoor
end
section
namespace Go.Proofs.YtabdpmnhjlmnlaaGreatDoor
open Go Go.Pt
attribute [local irreducible] Code.wp Back bodyPost wpList FR WL WC WQ WA AW Tr Yc HC AllC
set_option maxRecDepth 20000
set_option maxHeartbeats 4000000
set_option linter.unusedVariables false
def vc (S:Mem) (form:Int) (x:List Value) (Q:Int→Mem→Prop):Prop:=
 x.length=3 ∧
 jn (fun (Sx:Mem)=>
 jn (fun (Sx_1:Mem)=>
 gI (nthL x 1) .i64 fun t=>
 wS Sx_1 9223372036854775808 0 16 (ineg .u64 (IntKind.u64.wrap t)) fun t_1 Sx_2=>
 gB (nthL x 2) fun t_2=>
 if t_2=true then
 Q (ior .u64 t_1 4611686018427387904) Sx_2
 else
 Q t_1 Sx_2) fun Jx=>
 if form=1 then
 gI (nthL x 1) .i64 fun t_3=>
 wS Sx 1 8 16 (IntKind.u64.wrap t_3) fun t_4 Sx_3=>
 gB (nthL x 2) fun t_5=>
 if t_5=true then
 Q (ior .u64 t_4 2) Sx_3
 else
 Q t_4 Sx_3
 else
 Jx Sx) fun Jx_1=>
 gB (nthL x 0) fun t_6=>
 if t_6=true then
 Jx_1 S
 else
 Q 0 S
theorem fP {S:Mem} {form:Int} {x:List Value} {Q:Int→Mem→Prop} (H:vc S form x Q):wq S form x Q:=by
 unfold vc at H
 exact Tr.intro Tryz.func111 E Tryz.ntmps111 E fun w0=>an H fun hx H1=>csr<|xW E E E fun b=>gv E E<|nx<|zo H1 (fun (J:Mem→Prop) (z:Unit) S=>J S) (fun z=>⟨30,[(0,.int .i64 form),(3,.pointer (some ⟨b,0,none⟩))]⟩) (fun z=>[⟨b,111,x⟩]) (fun _ Sx H2=>csr<|gv E E<|nx<|zo H2 (fun (J:Mem→Prop) (z:Unit) S=>J S) (fun z=>⟨30,[(3,.pointer (some ⟨b,0,none⟩))]⟩) (fun z=>[⟨b,111,x⟩]) (fun _ Sx_1 H3=>csr<|s_p E (zD E E)<|gx H3 fun t ht H4=>s_v E (zB E) (zL 0 E ht)<|s_p E (yl ⟨_,Tryz.underlying3⟩ E)<|s_p E (zeS E)<|qW E E H4 fun t_1 Sx_2 H5=>gv E E<|nx<|zx<|csr<|s_p E (zD E E)<|gx H5 fun t_2 ht_2 H6=>by have H7:=vY H6;rcases H7 with ⟨rfl,H8⟩ | ⟨rfl,H8⟩;exact (s_v E (zB E) (zL 0 E ht_2)<|nx<|ctr E E<|mv E E<|s_p E (zfC E E)<|gv E E<|nxr<|mv E E<|gv E E<|nx<|zm<|zl Tryz.results111 (zf E zi) ⟨_,E,H8⟩);exact (s_v E (zB E) (zL 0 E ht_2)<|nx<|cfs E E<|zk<|csr<|mv E E<|gv E E<|nx<|zm<|zl Tryz.results111 (zf E zi) ⟨_,E,H8⟩)) (fun Jx hJx H9=>csr<|mv E E<|iteK H9 (fun c H10=>ceT E E E (c)<|nx<|c_t E E<|csr<|s_p E (zD E E)<|gx H10 fun t_3 ht_3 H11=>s_v E (zB E) (zL 0 E ht_3)<|s_p E (yl ⟨_,Tryz.underlying3⟩ E)<|qW E E H11 fun t_4 Sx_3 H12=>gv E E<|nx<|zx<|csr<|s_p E (zD E E)<|gx H12 fun t_5 ht_5 H13=>by have H14:=vY H13;rcases H14 with ⟨rfl,H15⟩ | ⟨rfl,H15⟩;exact (s_v E (zB E) (zL 0 E ht_5)<|nx<|ctr E E<|mv E E<|s_p E (zfC E E)<|gv E E<|nxr<|mv E E<|gv E E<|nx<|zm<|ze<|zl Tryz.results111 (zf E zi) ⟨_,E,H15⟩);exact (s_v E (zB E) (zL 0 E ht_5)<|nx<|cfs E E<|zk<|csr<|mv E E<|gv E E<|nx<|zm<|ze<|zl Tryz.results111 (zf E zi) ⟨_,E,H15⟩)) fun c H10=>ceF E E E (c)<|nx<|cfs E E<|hJx () _ _ _ _ [0] H10 E ⟨E,True.intro⟩ E)) (fun Jx_1 hJx_1 H16=>csr<|s_p E (zD E E)<|gx H16 fun t_6 ht_6 H17=>by have H18:=vY H17;rcases H18 with ⟨rfl,H19⟩ | ⟨rfl,H19⟩;exact (s_v E (zB E) (zL 0 E ht_6)<|s_p E (yB (qt E) E)<|nx<|cfs E E<|hJx_1 () _ _ _ _ [0] H19 E ⟨E,E,True.intro⟩ E);exact (s_v E (zB E) (zL 0 E ht_6)<|s_p E (yB (qt E) E)<|nx<|c_t E E<|csr<|gv E E<|nx<|zm<|ze<|zl Tryz.results111 (zf E zi) ⟨_,E,H19⟩))
def wn (S:Mem) (form:Int) (w:Int) (Q:List Value→Bool→Mem→Prop):Prop:=
 vg S w 8 16 fun t Sx=>
 jn (fun (x:List Value) (Sx_1:Mem)=>
 x.length=3 ∧
 jn (fun (v:List Value) (Sx_2:Mem)=>
 v.length=3 ∧
 wq Sx_2 form x fun t_1 Sx_3=>
 if t_1≠w then
 Q ([.bool false,.int .i64 0,.bool false]) false Sx_3
 else
 x.all (·.oneCell')=true ∧
 Q x true Sx_3) fun Jx=>
 if w=0 then
 Q ([.bool false,.int .i64 0,.bool false]) true Sx_1
 else
 Jx ([.bool false,.int .i64 0,.bool false]) Sx_1) fun Jx_1=>
 if form≠1 then
 vg Sx (ineg .u64 w) 0 16 fun t_2 Sx_4=>
 Jx_1 ([.bool true,.int .i64 (IntKind.i64.wrap t_2),.bool (decide (iand .u64 (ishr .u64 w 62) 1=1))]) Sx_4
 else
 Jx_1 ([.bool true,.int .i64 (IntKind.i64.wrap t),.bool (decide (iand .u64 w 2≠0))]) Sx
theorem gq {S:Mem} {form:Int} {w:Int} {Q:List Value→Bool→Mem→Prop} (H:wn S form w Q):xX S form w Q:=by
 unfold wn at H
 exact Tr.intro Tryz.func109 E Tryz.ntmps109 E fun w0=>csr<|by refine zN E fun b=>?_;exact gv E E<|nxr<|mv E E<|qW E E H fun t Sx H1=>s_p E (yl ⟨_,Tryz.underlying39⟩ E)<|mv E E<|s_p E (zbD E E)<|s_p E (zI E E)<|s_p E (zM E E)<|by exact by refine zN E fun b_1=>?_;exact wP (sz:=3) (vs:=[.bool true,.int .i64 (IntKind.i64.wrap t),.bool (decide (iand .u64 w 2≠0))]) 1 E E E E E E (Nat.le_of_ble_eq_true E) E<|nx<|zo H1 (fun (J:List Value→Mem→Prop) (z:List Value) S=>J z S) (fun z=>⟨36,[(0,.int .i64 form),(1,.int .u64 w),(4,.pointer (some ⟨b,0,none⟩)),(6,.pointer (some ⟨b_1,0,none⟩))]⟩) (fun z=>[⟨b,111,[.bool false,.int .i64 0,.bool false]⟩,⟨b_1,111,z⟩]) (fun x Sx_1 H2=>an H2 fun hx H3=>zo H3 (fun (J:List Value→Mem→Prop) (z:List Value) S=>J z S) (fun z=>⟨36,[(0,.int .i64 form),(1,.int .u64 w),(4,.pointer (some ⟨b,0,none⟩)),(6,.pointer (some ⟨b_1,0,none⟩))]⟩) (fun z=>[⟨b,111,z⟩,⟨b_1,111,x⟩]) (fun v Sx_2 H4=>an H4 fun hv H5=>zx<|csr<|mv E E<|by refine s_v E (qu E hx) (qi (k:=3) 1 E (zC hx)) ?_;exact qW E E H5 fun t_1 Sx_3 H6=>mv E E<|iteK H6 (fun c H7=>s_p E (yT (zI E E) c)<|nx<|c_t E E<|csr<|s_p E (zM E E)<|by exact zz 0 E E E E E E hv E<|gv E E<|nx<|zm<|ze<|zl Tryz.results109 (qa E (qi (k:=3) 0 E E) E (zf E zi)) ⟨_,_,E,E,H7⟩) fun c H7=>s_p E (yF (zI E E) c)<|nx<|cfs E E<|zk<|csr<|by refine s_v E (qu E hx) (qi (k:=3) 1 E (zC hx)) ?_;exact an H7 fun c_1 H8=>zz 0 E E E E E hx hv c_1<|gv E E<|nx<|zm<|zl Tryz.results109 (qa E (qi (k:=3) 0 E (zC hx)) hx (zf E zi)) ⟨_,_,E,hx,H8⟩) (fun Jx hJx H9=>csr<|mv E E<|iteK H9 (fun c_2 H10=>ceT E E E (c_2)<|nx<|c_t E E<|csr<|s_p E (zM E E)<|by exact wP (sz:=3) (vs:=[.bool false,.int .i64 0,.bool false]) 0 E E E E E E (Nat.le_of_ble_eq_true E) E<|gv E E<|nx<|zm<|ze<|zl Tryz.results109 (qa E (qi (k:=3) 0 E E) E (zf E zi)) ⟨_,_,E,E,H10⟩) fun c_2 H10=>ceF E E E (c_2)<|nx<|cfs E E<|hJx ([.bool false,.int .i64 0,.bool false]) _ _ _ _ [0,0] H10 E ⟨E,E,E,E,True.intro⟩ E)) (fun Jx_1 hJx_1 H11=>csr<|mv E E<|iteK H11 (fun c_3 H12=>s_p E (yT (zI E E) c_3)<|nx<|ctr E E<|mv E E<|s_p E (zeS E)<|qW E E H12 fun t_2 Sx_4 H13=>s_p E (yl ⟨_,Tryz.underlying39⟩ E)<|mv E E<|s_p E (fb E E (by decide))<|s_p E (zbD E E)<|s_p E (xV E E)<|s_p E (zD E E)<|wP (sz:=1) (vs:=[.int .i64 (IntKind.i64.wrap t_2)]) 1 E E E E E E (Nat.le_of_ble_eq_true E) E<|s_p E (zD E E)<|wP (sz:=1) (vs:=[.bool (decide (iand .u64 (ishr .u64 w 62) 1=1))]) 1 E E E E E E (Nat.le_of_ble_eq_true E) E<|zu<|hJx_1 ([.bool true,.int .i64 (IntKind.i64.wrap t_2),.bool (decide (iand .u64 (ishr .u64 w 62) 1=1))]) _ _ _ _ [0,0] H13 E ⟨E,E,E,E,True.intro⟩ E) fun c_3 H12=>s_p E (yF (zI E E) c_3)<|nx<|cfs E E<|hJx_1 ([.bool true,.int .i64 (IntKind.i64.wrap t),.bool (decide (iand .u64 w 2≠0))]) _ _ _ _ [0,0] H12 E ⟨E,E,E,E,True.intro⟩ E)
def yN (S:Mem) (t:List Value) (s:Pt) (page:Int) (Q:Int→Int→Int→Mem→Prop):Prop:=
 t.length=2 ∧
 jn (fun (Sx:Mem)=>
 gL (nthL t 1) fun t_1=>
 sl t_1 fun b_1 o n n_1=>
 (0:Int)<(n:Nat) ∧
 gI (Sx.cell b_1 o) .i64 fun t_2=>
 qO Sx s t_2 (IntKind.i64.wrap (Int.tdiv page 8)) fun t_3 t_4 Sx_1=>
 gI (nthL t 0) .i64 fun t_5=>
 xX Sx_1 t_5 t_3 fun t_6 t_7 Sx_2=>
 if t_7=true then
 t_6.all (·.oneCell')=true ∧
 jn (fun (Sx_3:Mem)=>
 gI (nthL t_6 1) .i64 fun t_8=>
 Q t_8 (Int.tmod page 8) 0 Sx_3) fun Jx=>
 if t_4≠0 then
 Q 0 0 11 Sx_2
 else
 gB (nthL t_6 0) fun t_9=>
 if t_9=true then
 Jx Sx_2
 else
 Q 0 0 11 Sx_2
 else
 t_6.all (·.oneCell')=true ∧
 jn (fun (Sx_4:Mem)=>
 gI (nthL t_6 1) .i64 fun t_10=>
 Q t_10 (Int.tmod page 8) 0 Sx_4) fun Jx_1=>
 if t_4≠0 then
 Q 0 0 11 Sx_2
 else
 Q 0 0 11 Sx_2) fun Jx_2=>
 if page<0 then
 Q 0 0 1 S
 else
 if 32≤page then
 Q 0 0 1 S
 else
 gL (nthL t 1) fun t_11=>
 if (t_11.n:Int)=0 then
 Q 0 0 1 S
 else
 Jx_2 S
theorem ka {S:Mem} {t:List Value} {s:Pt} {page:Int} {Q:Int→Int→Int→Mem→Prop} (H:yN S t s page Q):yq S t s page Q:=by
 unfold yN at H
 exact Tr.intro Tryz.func107 E Tryz.ntmps107 E fun w0=>an H fun ht H1=>csr<|xW E E E fun b=>gv E E<|gv E E<|gv E E<|nx<|zo H1 (fun (J:Mem→Prop) (z:Unit) S=>J S) (fun z=>⟨58,[(1,eP s),(2,.int .i64 page),(3,.pointer (some ⟨b,0,none⟩))]⟩) (fun z=>[⟨b,63,t⟩]) (fun _ Sx H2=>csr<|mv E E<|s_p E (zD E E)<|gx H2 fun t_1 ht_1 H3=>s_v E (zB E) (zL 0 E ht_1)<|by obtain⟨b_1,o,n,n_1,rfl,H4⟩:=H3;exact an H4 fun c_1 H5=>s_p E (qG E E (by decide) c_1 E)<|gx H5 fun t_2 ht_2 H6=>s_v E (zB E) (zV ht_2)<|mv E E<|s_p E (zap E E (by decide))<|zbe E E H6 fun t_3 t_4 Sx_1 H7=>mv E E<|s_p E (zp E E)<|s_p E (zp E E)<|gv E E<|gv E E<|nxr<|s_p E (zD E E)<|gx H7 fun t_5 ht_5 H8=>s_v E (zB E) (zL 0 E ht_5)<|mv E E<|yG E E H8 fun rv Sx_2 H9=>by obtain⟨t_6,t_7,rfl,ht_6,H10⟩:=H9;exact mv E E<|s_p E (zp E E)<|iteK H10 (fun c_2 H11=>s_p E (yB (zp E E) c_2)<|by refine zN E fun b_2=>?_;exact an H11 fun c_3 H12=>zz 1 E E E E E ht_6 E c_3<|gv E E<|nx<|zo H12 (fun (J:Mem→Prop) (z:Unit) S=>J S) (fun z=>⟨58,[(2,.int .i64 page),(11,.pointer (some ⟨b_2,0,none⟩))]⟩) (fun z=>[⟨b_2,111,t_6⟩]) (fun _ Sx_3 H13=>csr<|s_p E (zD E E)<|gx H13 fun t_8 ht_8 H14=>s_v E (zB E) (zL 0 E ht_8)<|mv E E<|s_p E (gn E E (by decide))<|gv E E<|gv E E<|gv E E<|nx<|zm<|zl Tryz.results107 (zf E (zf E (zf E zi))) ⟨_,_,_,E,H14⟩) (fun Jx hJx H15=>csr<|mv E E<|iteK H15 (fun c_4 H16=>s_p E (yT (zI E E) c_4)<|mv E E<|sk2 E E<|pk E E E<|mv E E<|sk2 E E<|zP E<|pk E E E<|nx<|c_t E E<|csr<|gv E E<|gv E E<|gv E E<|nx<|zm<|ze<|zl Tryz.results107 (zf E (zf E (zf E zi))) ⟨_,_,_,E,H16⟩) fun c_4 H16=>s_p E (yF (zI E E) c_4)<|mv E E<|mv E E<|s_p E (yB (qt E) E)<|pk E E E<|mv E E<|s_p E (zD E E)<|gx H16 fun t_9 ht_9 H17=>by have H18:=vY H17;rcases H18 with ⟨rfl,H19⟩ | ⟨rfl,H19⟩;exact (s_v E (zB E) (zL 1 E ht_9)<|s_p E (yB (qt E) E)<|pk E E E<|nx<|cfs E E<|hJx () _ _ _ _ [1] H19 E ⟨E,E,True.intro⟩ E);exact (s_v E (zB E) (zL 1 E ht_9)<|s_p E (yB (qt E) E)<|pk E E E<|nx<|c_t E E<|csr<|gv E E<|gv E E<|gv E E<|nx<|zm<|ze<|zl Tryz.results107 (zf E (zf E (zf E zi))) ⟨_,_,_,E,H19⟩))) fun c_2 H11=>s_p E (yB (zp E E) (zcj c_2))<|by refine zN E fun b_3=>?_;exact an H11 fun c_5 H20=>zz 1 E E E E E ht_6 E c_5<|gv E E<|nx<|zo H20 (fun (J:Mem→Prop) (z:Unit) S=>J S) (fun z=>⟨58,[(2,.int .i64 page),(11,.pointer (some ⟨b_3,0,none⟩))]⟩) (fun z=>[⟨b_3,111,t_6⟩]) (fun _ Sx_4 H21=>csr<|s_p E (zD E E)<|gx H21 fun t_10 ht_10 H22=>s_v E (zB E) (zL 0 E ht_10)<|mv E E<|s_p E (gn E E (by decide))<|gv E E<|gv E E<|gv E E<|nx<|zm<|zl Tryz.results107 (zf E (zf E (zf E zi))) ⟨_,_,_,E,H22⟩) (fun Jx_1 hJx_1 H23=>csr<|mv E E<|iteK H23 (fun c_6 H24=>s_p E (yT (zI E E) c_6)<|mv E E<|sk2 E E<|pk E E E<|mv E E<|sk2 E E<|zP E<|pk E E E<|nx<|c_t E E<|csr<|gv E E<|gv E E<|gv E E<|nx<|zm<|ze<|zl Tryz.results107 (zf E (zf E (zf E zi))) ⟨_,_,_,E,H24⟩) fun c_6 H24=>s_p E (yF (zI E E) c_6)<|mv E E<|mv E E<|s_p E (yB (qt E) E)<|pk E E E<|mv E E<|sk2 E E<|zP E<|pk E E E<|nx<|c_t E E<|csr<|gv E E<|gv E E<|gv E E<|nx<|zm<|ze<|zl Tryz.results107 (zf E (zf E (zf E zi))) ⟨_,_,_,E,H24⟩)) (fun Jx_2 hJx_2 H25=>csr<|mv E E<|iteK H25 (fun c_7 H26=>s_p E (yT (zw E E) c_7)<|mv E E<|sk2 E E<|pk E E E<|mv E E<|sk4 E E E E<|pk E E E<|nx<|c_t E E<|csr<|gv E E<|gv E E<|gv E E<|nx<|zm<|ze<|zl Tryz.results107 (zf E (zf E (zf E zi))) ⟨_,_,_,E,H26⟩) fun c_7 H26=>s_p E (yF (zw E E) c_7)<|mv E E<|mv E E<|iteK H26 (fun c_8 H27=>s_p E (yT (qL E E) c_8)<|pk E E E<|mv E E<|sk4 E E E E<|pk E E E<|nx<|c_t E E<|csr<|gv E E<|gv E E<|gv E E<|nx<|zm<|ze<|zl Tryz.results107 (zf E (zf E (zf E zi))) ⟨_,_,_,E,H27⟩) fun c_8 H27=>s_p E (yF (qL E E) c_8)<|pk E E E<|mv E E<|s_p E (zD E E)<|gx H27 fun t_11 ht_11 H28=>s_v E (zB E) (zL 0 E ht_11)<|s_p E (qy E)<|iteK H28 (fun c_9 H29=>ceT E E E (c_9)<|pk E E E<|nx<|c_t E E<|csr<|gv E E<|gv E E<|gv E E<|nx<|zm<|ze<|zl Tryz.results107 (zf E (zf E (zf E zi))) ⟨_,_,_,E,H29⟩) fun c_9 H29=>ceF E E E (c_9)<|pk E E E<|nx<|cfs E E<|hJx_2 () _ _ _ _ [0] H29 E ⟨E,E,E,True.intro⟩ E)
def xd (S:Mem) (t:List Value) (s:Pt) (page:Int) (frame:Int) (write:Bool) (Q:Int→Mem→Prop):Prop:=
 t.length=2 ∧
 yq S t s page fun t_1 t_2 t_3 Sx=>
 jn (fun (Sx_1:Mem)=>
 gI (nthL t 0) .i64 fun t_4=>
 wq Sx_1 t_4 ([.bool true,.int .i64 frame,.bool write]) fun t_5 Sx_2=>
 qN Sx_2 s t_1 t_2 t_5 fun t_6 Sx_3=>
 Q t_6 Sx_3) fun Jx=>
 if t_3≠0 then
 Q t_3 Sx
 else
 if frame<0 then
 Q 1 Sx
 else
 qj Sx s fun t_7 Sx_4=>
 if t_7≤frame then
 Q 1 Sx_4
 else
 Jx Sx_4
theorem kN {S:Mem} {t:List Value} {s:Pt} {page:Int} {frame:Int} {write:Bool} {Q:Int→Mem→Prop} (H:xd S t s page frame write Q):xG S t s page frame write Q:=by
 unfold xd at H
 exact Tr.intro Tryz.func53 E Tryz.ntmps53 E fun w0=>an H fun ht H1=>csr<|xW E E E fun b=>gv E E<|nxr<|by refine s_v E (qu E ht) (qi (k:=2) 0 E (zC ht)) ?_;exact mv E E<|mv E E<|zfN E E H1 fun t_1 t_2 t_3 Sx H2=>mv E E<|s_p E (zp E E)<|s_p E (zp E E)<|s_p E (zp E E)<|gv E E<|gv E E<|gv E E<|nx<|zo H2 (fun (J:Mem→Prop) (z:Unit) S=>J S) (fun z=>⟨45,[(1,eP s),(3,.int .i64 frame),(4,.bool write),(5,.pointer (some ⟨b,0,none⟩)),(11,.int .i64 t_1),(12,.int .i64 t_2)]⟩) (fun z=>[⟨b,63,t⟩]) (fun _ Sx_1 H3=>csr<|mv E E<|mv E E<|mv E E<|s_p E (zD E E)<|gx H3 fun t_4 ht_4 H4=>s_v E (zB E) (zL 0 E ht_4)<|mv E E<|mv E E<|s_p E (zM E E)<|by exact qW E E H4 fun t_5 Sx_2 H5=>qW E E H5 fun t_6 Sx_3 H6=>gv E E<|nx<|zm<|zl Tryz.results53 (zf E zi) ⟨_,E,H6⟩) (fun Jx hJx H7=>zs<|csr<|mv E E<|iteK H7 (fun c H8=>s_p E (yT (zI E E) c)<|gv E E<|nx<|c_t E E<|csr<|mv E E<|gv E E<|nx<|zm<|zh<|ze<|zl Tryz.results53 (zf E zi) ⟨_,E,H8⟩) fun c H8=>s_p E (yF (zI E E) c)<|gv E E<|nx<|c_f E E<|csr<|mv E E<|iteK H8 (fun c_1 H9=>s_p E (yT (zw E E) c_1)<|mv E E<|sk4 E E E E<|pk E E E<|gv E E<|nx<|c_t E E<|csr<|gv E E<|nx<|zm<|zh<|ze<|zl Tryz.results53 (zf E zi) ⟨_,E,H9⟩) fun c_1 H9=>s_p E (yF (zw E E) c_1)<|mv E E<|mv E E<|mv E E<|qW E E H9 fun t_7 Sx_4 H10=>iteK H10 (fun c_2 H11=>s_p E (yT (qL E E) c_2)<|pk E E E<|gv E E<|nx<|c_t E E<|csr<|gv E E<|nx<|zm<|zh<|ze<|zl Tryz.results53 (zf E zi) ⟨_,E,H11⟩) fun c_2 H11=>s_p E (yF (qL E E) c_2)<|pk E E E<|gv E E<|nx<|cfs E E<|zQ<|hJx () _ _ _ _ [0] H11 E ⟨E,E,E,E,E,E,True.intro⟩ E)
def yO (S:Mem) (t:List Value) (s:Pt) (page:Int) (Q:List Value→Int→Mem→Prop):Prop:=
 t.length=2 ∧
 yq S t s page fun t_1 t_2 t_3 Sx=>
 jn (fun (v:List Value) (Sx_1:Mem)=>
 v.length=3 ∧
 qO Sx_1 s t_1 t_2 fun t_4 t_5 Sx_2=>
 gI (nthL t 0) .i64 fun t_6=>
 xX Sx_2 t_6 t_4 fun t_7 t_8 Sx_3=>
 if t_8=true then
 t_7.all (·.oneCell')=true ∧
 if t_5≠0 then
 Q ([.bool false,.int .i64 0,.bool false]) 11 Sx_3
 else
 gB (nthL t_7 0) fun t_9=>
 if t_9=true then
 t_7.all (·.oneCell')=true ∧
 Q t_7 0 Sx_3
 else
 Q ([.bool false,.int .i64 0,.bool false]) 11 Sx_3
 else
 t_7.all (·.oneCell')=true ∧
 if t_5≠0 then
 Q ([.bool false,.int .i64 0,.bool false]) 11 Sx_3
 else
 Q ([.bool false,.int .i64 0,.bool false]) 11 Sx_3) fun Jx=>
 if t_3≠0 then
 Q ([.bool false,.int .i64 0,.bool false]) t_3 Sx
 else
 Jx ([.bool false,.int .i64 0,.bool false]) Sx
theorem kd {S:Mem} {t:List Value} {s:Pt} {page:Int} {Q:List Value→Int→Mem→Prop} (H:yO S t s page Q):qM S t s page Q:=by
 unfold yO at H
 exact Tr.intro Tryz.func52 E Tryz.ntmps52 E fun w0=>an H fun ht H1=>csr<|xW E E E fun b=>by refine zN E fun b_1=>?_;exact gv E E<|nxr<|by refine s_v E (qu E ht) (qi (k:=2) 0 E (zC ht)) ?_;exact mv E E<|mv E E<|zfN E E H1 fun t_1 t_2 t_3 Sx H2=>mv E E<|s_p E (zp E E)<|s_p E (zp E E)<|s_p E (zp E E)<|gv E E<|gv E E<|gv E E<|nx<|zo H2 (fun (J:List Value→Mem→Prop) (z:List Value) S=>J z S) (fun z=>⟨53,[(1,eP s),(3,.pointer (some ⟨b,0,none⟩)),(6,.pointer (some ⟨b_1,0,none⟩)),(8,.int .i64 t_1),(9,.int .i64 t_2)]⟩) (fun z=>[⟨b,63,t⟩,⟨b_1,111,z⟩]) (fun v Sx_1 H3=>an H3 fun hv H4=>csr<|mv E E<|mv E E<|mv E E<|zbe E E H4 fun t_4 t_5 Sx_2 H5=>mv E E<|s_p E (zp E E)<|s_p E (zp E E)<|gv E E<|gv E E<|nxr<|s_p E (zD E E)<|gx H5 fun t_6 ht_6 H6=>s_v E (zB E) (zL 0 E ht_6)<|mv E E<|yG E E H6 fun rv Sx_3 H7=>by obtain⟨t_7,t_8,rfl,ht_7,H8⟩:=H7;exact mv E E<|s_p E (zp E E)<|iteK H8 (fun c H9=>s_p E (yB (zp E E) c)<|by refine zN E fun b_2=>?_;exact an H9 fun c_1 H10=>zz 2 E E E E E ht_7 E c_1<|gv E E<|nx<|zx<|csr<|mv E E<|iteK H10 (fun c_2 H11=>s_p E (yT (zI E E) c_2)<|mv E E<|sk2 E E<|pk E E E<|mv E E<|sk2 E E<|zP E<|pk E E E<|nx<|c_t E E<|csr<|s_p E (zM E E)<|by exact zz 1 E E E E E E hv E<|gv E E<|nx<|zm<|ze<|zl Tryz.results52 (qa E (qi (k:=3) 1 E E) E (zf E zi)) ⟨_,_,E,E,H11⟩) fun c_2 H11=>s_p E (yF (zI E E) c_2)<|mv E E<|mv E E<|s_p E (yB (qt E) E)<|pk E E E<|mv E E<|s_p E (zD E E)<|gx H11 fun t_9 ht_9 H12=>by have H13:=vY H12;rcases H13 with ⟨rfl,H14⟩ | ⟨rfl,H14⟩;exact (s_v E (zB E) (zL 2 E ht_9)<|s_p E (yB (qt E) E)<|pk E E E<|nx<|cfs E E<|zk<|csr<|by refine s_v E (qu E ht_7) (qi (k:=3) 2 E (zC ht_7)) ?_;exact an H14 fun c_3 H15=>zz 1 E E E E E ht_7 hv c_3<|gv E E<|nx<|zm<|zl Tryz.results52 (qa E (qi (k:=3) 1 E (zC ht_7)) ht_7 (zf E zi)) ⟨_,_,E,ht_7,H15⟩);exact (s_v E (zB E) (zL 2 E ht_9)<|s_p E (yB (qt E) E)<|pk E E E<|nx<|c_t E E<|csr<|s_p E (zM E E)<|by exact zz 1 E E E E E E hv E<|gv E E<|nx<|zm<|ze<|zl Tryz.results52 (qa E (qi (k:=3) 1 E E) E (zf E zi)) ⟨_,_,E,E,H14⟩)) fun c H9=>s_p E (yB (zp E E) (zcj c))<|by refine zN E fun b_3=>?_;exact an H9 fun c_4 H16=>zz 2 E E E E E ht_7 E c_4<|gv E E<|nx<|zx<|csr<|mv E E<|iteK H16 (fun c_5 H17=>s_p E (yT (zI E E) c_5)<|mv E E<|sk2 E E<|pk E E E<|mv E E<|sk2 E E<|zP E<|pk E E E<|nx<|c_t E E<|csr<|s_p E (zM E E)<|by exact zz 1 E E E E E E hv E<|gv E E<|nx<|zm<|ze<|zl Tryz.results52 (qa E (qi (k:=3) 1 E E) E (zf E zi)) ⟨_,_,E,E,H17⟩) fun c_5 H17=>s_p E (yF (zI E E) c_5)<|mv E E<|mv E E<|s_p E (yB (qt E) E)<|pk E E E<|mv E E<|sk2 E E<|zP E<|pk E E E<|nx<|c_t E E<|csr<|s_p E (zM E E)<|by exact zz 1 E E E E E E hv E<|gv E E<|nx<|zm<|ze<|zl Tryz.results52 (qa E (qi (k:=3) 1 E E) E (zf E zi)) ⟨_,_,E,E,H17⟩) (fun Jx hJx H18=>csr<|mv E E<|iteK H18 (fun c_6 H19=>s_p E (yT (zI E E) c_6)<|nx<|c_t E E<|csr<|s_p E (zM E E)<|by exact mv E E<|wP (sz:=3) (vs:=[.bool false,.int .i64 0,.bool false]) 1 E E E E E E (Nat.le_of_ble_eq_true E) E<|gv E E<|nx<|zm<|ze<|zl Tryz.results52 (qa E (qi (k:=3) 1 E E) E (zf E zi)) ⟨_,_,E,E,H19⟩) fun c_6 H19=>s_p E (yF (zI E E) c_6)<|nx<|cfs E E<|hJx ([.bool false,.int .i64 0,.bool false]) _ _ _ _ [0,0] H19 E ⟨E,E,E,E,E,True.intro⟩ E)
def vd (S:Mem) (s:Pt) (form:Int) (frames:Sl) (Q:List Value→Int→Mem→Prop):Prop:=
 jn (fun (v:List Value) (Sx:Mem)=>
 v.length=2 ∧
 jn (fun (v_1:List Value) (Sx_1:Mem)=>
 v_1.length=2 ∧
 jn (fun (Sx_2:Mem)=>
 sp Sx_2 frames 1 fun vs=>
 ap Sx_2 3 1 8 [.int .i64 0] (⟨none,0,0⟩) frames.n vs fun t Sx_3=>
 Q ([.int .i64 form,eL t]) 0 Sx_3) fun Jx=>
 (0:Int)≤1∧(1:Int)≤(frames.n:Int)∧(frames.n:Int)≤(frames.c:Int) ∧
 lt (slc 1 frames 1 (frames.n:Int)) fun t_1=>
 lp (fun Xx (t_2:Int) (Sx_4:Mem)=>
 if t_2<(t_1.n:Int) then
 sl t_1 fun b_1 o n n_1=>
 0≤t_2∧t_2<((n:Nat):Int) ∧
 gI (Sx_4.cell b_1 (o+t_2.toNat*1)) .i64 fun t_3=>
 sl frames fun b_2 o_1 n_2 n_3=>
 (0:Int)<(n_2:Nat) ∧
 gI (Sx_4.cell b_2 o_1) .i64 fun t_4=>
 wq Sx_4 form ([.bool true,.int .i64 t_3,.bool true]) fun t_5 Sx_5=>
 Sx_5.cell b_2 o_1=some (.int .i64 t_4) ∧
 qN Sx_5 s t_4 t_2 t_5 fun t_6 Sx_6=>
 Xx (IntKind.i64.wrap (t_2+1)) Sx_6
 else
 Jx Sx_4) 0 Sx_1) fun Jx_1=>
 lp (fun Xx_1 (z:Int×List Value) (Sx_7:Mem)=>
 match z with
 | (t_7,v_2)=>
 v_2.length=2 ∧
 if t_7<(frames.n:Int) then
 sl frames fun b_3 o_2 n_4 n_5=>
 0≤t_7∧t_7<((n_4:Nat):Int) ∧
 gI (Sx_7.cell b_3 (o_2+t_7.toNat*1)) .i64 fun t_8=>
 qA Sx_7 s t_8 fun t_9 Sx_8=>
 if t_9≠0 then
 Q ([.int .i64 0,.slice (none) 0 0]) t_9 Sx_8
 else
 Xx_1 (IntKind.i64.wrap (t_7+1),v_2) Sx_8
 else
 Jx_1 v_2 Sx_7) (0,v) Sx) fun Jx_2=>
 if (frames.n:Int)≠5 then
 Q ([.int .i64 0,.slice (none) 0 0]) 1 S
 else
 if form≠1 then
 if form≠2 then
 Q ([.int .i64 0,.slice (none) 0 0]) 1 S
 else
 Jx_2 ([.int .i64 0,.slice (none) 0 0]) S
 else
 Jx_2 ([.int .i64 0,.slice (none) 0 0]) S
theorem fQ {S:Mem} {s:Pt} {form:Int} {frames:Sl} {Q:List Value→Int→Mem→Prop} (H:vd S s form frames Q):vh S s form frames Q:=by
 unfold vd at H
 exact Tr.intro Tryz.func74 E Tryz.ntmps74 E fun w0=>csr<|by refine zN E fun b=>?_;exact gv E E<|nx<|zo H (fun (J:List Value→Mem→Prop) (z:List Value) S=>J z S) (fun z=>⟨62,[(0,eP s),(1,.int .i64 form),(2,eL frames),(6,.pointer (some ⟨b,0,none⟩))]⟩) (fun z=>[⟨b,63,z⟩]) (fun v Sx H1=>an H1 fun hv H2=>zo H2 (fun (J:List Value→Mem→Prop) (z:List Value) S=>J z S) (fun z=>⟨62,[(0,eP s),(1,.int .i64 form),(2,eL frames),(6,.pointer (some ⟨b,0,none⟩))]⟩) (fun z=>[⟨b,63,z⟩]) (fun v_1 Sx_1 H3=>an H3 fun hv_1 H4=>zo H4 (fun (J:Mem→Prop) (z:Unit) S=>J S) (fun z=>⟨62,[(1,.int .i64 form),(2,eL frames),(6,.pointer (some ⟨b,0,none⟩))]⟩) (fun z=>[⟨b,63,v_1⟩]) (fun _ Sx_2 H5=>csr<|mv E E<|mv E E<|by obtain⟨vs,h,c,H6⟩:=H5;exact vN (sx:=⟨none,0,0⟩) (vs:=vs) E E E ((zaN h).1) ((zaN (P:=Tryz.prog) (w0:=w0) (S0:=S) (V:=[]) h).2) c (by decide) H6 fun t Sx_3 H7=>s_p E (zM E E)<|by exact zz 0 E E E E E E hv_1 E<|gv E E<|nx<|zm<|zl Tryz.results74 (qa E (qi (k:=2) 0 E E) E (zf E zi)) ⟨_,_,E,E,H7⟩) (fun Jx hJx H8=>csr<|mv E E<|an3 H8 fun c_1 c_2 c_3 H9=>by obtain⟨t_1,et_1,H10⟩:=zdU H9;exact s_p E (eqv (fL (a:=1) (b:=(frames.n:Int)) E E E c_1 c_2 c_3) (congrArg eL et_1))<|s_p E (qy E)<|mv E E<|nx<|zs<|qh (fun z=>⟨62,[(0,eP s),(1,.int .i64 form),(2,eL frames),(6,.pointer (some ⟨b,0,none⟩)),(40,eL t_1),(41,.int .i64 (t_1.n:Int)),(42,.int .i64 z)]⟩) (fun z=>[⟨b,63,v_1⟩]) 0 (idx:=[0]) H10 E ⟨E,E,E,E,E,E,E,True.intro⟩ E<|fun Xx hXx t_2 Sx_4 H11=>csr<|iteK H11 (fun c_4 H12=>s_p E (yT (zw E E) c_4)<|nx<|zx<|c_t E E<|qg<|zk<|zx<|zs<|csr<|mv E E<|by obtain⟨b_1,o,n,n_1,rfl,H13⟩:=H12;exact an2 H13 fun c_5 c_6 H14=>s_p E (qG E E c_5 c_6 E)<|gx H14 fun t_3 ht_3 H15=>s_v E (zB E) (zV ht_3)<|gv E E<|gv E E<|nx<|zY (by kernel_rfl)<|a_takeP 0 E (by decide +kernel) (zc (za (za (zc (za zb))))) E (zj E)<|by exact a_takeP 1 E (by decide +kernel) (zc (za (za (zc (za zb))))) E (zj E)<|by exact by obtain⟨b_2,o_1,n_2,n_3,rfl,H16⟩:=H15;exact an H16 fun c_8 H17=>a_takeP 2 E (by decide +kernel) (zc (za (za (zc (za zb))))) E (qG E E (by decide) c_8 E)<|by exact gx H17 fun t_4 ht_4 H18=>zA 3 E (by decide +kernel) (zc (za (za (zc (za zb))))) E (zB E) (zV ht_4)<|by exact a_takeP 4 E (by decide +kernel) (zc (za (za (zc (za zb))))) E (zj E)<|by exact a_takeP 5 E (by decide +kernel) (zc (za (za (zc (za zb))))) E (zj E)<|by exact a_takeP 6 E (by decide +kernel) (zc (za (za (zc (za zb))))) E (zj E)<|by exact a_takeP 7 E (by decide +kernel) (zc (za (za (zc (za zb))))) E (zM E E)<|by exact zJ 8 (by decide +kernel) E<|by exact qW E E H18 fun t_5 Sx_5 H19=>by obtain⟨k,H20⟩:=H19;exact zu<|zS (zy (zV k) zF)<|zJ 9 (by decide +kernel) E<|by exact qW E E H20 fun t_6 Sx_6 H21=>zu<|zS zF<|zE (by decide +kernel)<|by exact zQ<|zk<|zr<|s_p E (zU E E)<|mv E E<|zu<|hXx (IntKind.i64.wrap (t_2+1)) _ _ _ _ [0] H21 E ⟨E,E,E,E,E,E,E,True.intro⟩ E) fun c_4 H12=>s_p E (yF (zw E E) c_4)<|nx<|zx<|c_f E E<|zT<|zg<|zg<|zv<|hJx () _ _ _ _ [0] H12 E ⟨E,E,E,True.intro⟩ E)) (fun Jx_1 hJx_1 H22=>csr<|mv E E<|s_p E (qy E)<|mv E E<|nx<|zs<|qh (fun z=>⟨62,[(0,eP s),(1,.int .i64 form),(2,eL frames),(6,.pointer (some ⟨b,0,none⟩)),(25,eL frames),(26,.int .i64 (frames.n:Int)),(27,.int .i64 z.1)]⟩) (fun z=>[⟨b,63,z.2⟩]) (0,v) (idx:=[0]) H22 E ⟨E,E,E,E,E,E,E,True.intro⟩ E<|by rintro Xx_1 hXx_1 ⟨t_7,v_2⟩ Sx_7 H23;exact an H23 fun hv_2 H24=>csr<|iteK H24 (fun c_9 H25=>s_p E (yT (zw E E) c_9)<|nx<|zx<|c_t E E<|qg<|zk<|zx<|zs<|csr<|by obtain⟨b_3,o_2,n_4,n_5,rfl,H26⟩:=H25;exact an2 H26 fun c_10 c_11 H27=>s_p E (qG E E c_10 c_11 E)<|gx H27 fun t_8 ht_8 H28=>s_v E (zB E) (zV ht_8)<|gv E E<|nxr<|mv E E<|mv E E<|qW E E H28 fun t_9 Sx_8 H29=>gv E E<|nxr<|mv E E<|iteK H29 (fun c_12 H30=>s_p E (yT (zI E E) c_12)<|nx<|c_t E E<|csr<|s_p E (zM E E)<|by exact mv E E<|zz 0 E E E E E E hv_2 E<|gv E E<|nx<|zm<|zh<|ze<|ze<|zh<|ze<|zl Tryz.results74 (qa E (qi (k:=2) 0 E E) E (zf E zi)) ⟨_,_,E,E,H30⟩) fun c_12 H30=>s_p E (yF (zI E E) c_12)<|nx<|cfs E E<|zQ<|zk<|zr<|s_p E (zU E E)<|mv E E<|zu<|hXx_1 (IntKind.i64.wrap (t_7+1),v_2) _ _ _ _ [0] H30 E ⟨E,E,E,E,E,E,E,True.intro⟩ E) fun c_9 H25=>s_p E (yF (zw E E) c_9)<|nx<|zx<|c_f E E<|zT<|zg<|zg<|zv<|hJx_1 v_2 _ _ _ _ [0] H25 E ⟨E,E,E,E,True.intro⟩ E)) (fun Jx_2 hJx_2 H31=>csr<|mv E E<|s_p E (qy E)<|iteK H31 (fun c_13 H32=>s_p E (yT (zI E E) c_13)<|mv E E<|sk4 E E E E<|sk2 E E<|pk E E E<|nx<|c_t E E<|csr<|s_p E (zM E E)<|by exact wP (sz:=2) (vs:=[.int .i64 0,.slice (none) 0 0]) 0 E E E E E E (Nat.le_of_ble_eq_true E) E<|gv E E<|nx<|zm<|ze<|zl Tryz.results74 (qa E (qi (k:=2) 0 E E) E (zf E zi)) ⟨_,_,E,E,H32⟩) fun c_13 H32=>s_p E (yF (zI E E) c_13)<|mv E E<|mv E E<|iteK H32 (fun c_14 H33=>s_p E (yT (zI E E) c_14)<|mv E E<|mv E E<|iteK H33 (fun c_15 H34=>s_p E (yT (zI E E) c_15)<|pk E E E<|pk E E E<|nx<|c_t E E<|csr<|s_p E (zM E E)<|by exact wP (sz:=2) (vs:=[.int .i64 0,.slice (none) 0 0]) 0 E E E E E E (Nat.le_of_ble_eq_true E) E<|gv E E<|nx<|zm<|ze<|zl Tryz.results74 (qa E (qi (k:=2) 0 E E) E (zf E zi)) ⟨_,_,E,E,H34⟩) fun c_15 H34=>s_p E (yF (zI E E) c_15)<|pk E E E<|pk E E E<|nx<|cfs E E<|hJx_2 ([.int .i64 0,.slice (none) 0 0]) _ _ _ _ [0] H34 E ⟨E,E,E,E,True.intro⟩ E) fun c_14 H33=>s_p E (yF (zI E E) c_14)<|mv E E<|sk2 E E<|pk E E E<|pk E E E<|nx<|cfs E E<|hJx_2 ([.int .i64 0,.slice (none) 0 0]) _ _ _ _ [0] H33 E ⟨E,E,E,E,True.intro⟩ E)
end Go.Proofs.YtabdpmnhjlmnlaaGreatDoor
end
section
namespace Go.Proofs.YtabdpmnhjlmnlaaGreatDoor
open Go Go.Pt Go.Cr
section
variable {S:Mem}
def enL (f:Int) (wr:Bool):List Value:=[.bool true,.int .i64 f,.bool wr]
theorem packw1 {f:Nat} (hf:f≤65535) {Q:Int→Mem→Prop} (hQ:Q ((1+256*f:Nat):Int) S):wS S 1 8 16 (f:Int) Q:=by
 apply jI
 unfold wM
 simp only[jn]
 rw[if_neg (by decide),if_neg (by decide),if_neg (by decide),if_pos (by decide)]
 refine⟨by decide,by decide,by decide,?_⟩
 have e1:iandn .u64 1 (ishl .u64 (IntKind.u64.wrap (ishl .u64 1 16-1)) 8)=((1:Nat):Int):=by decide
 have e2:IntKind.u64.wrap (ishl .u64 1 16-1)=((2 ^ 16-1:Nat):Int):=by decide
 rw[e1,e2,kC (by omega) (by decide),Nat.and_two_pow_sub_one_eq_mod,Nat.mod_eq_of_lt (by omega)]
 have e3:ishl .u64 (f:Int) 8=((f*2 ^ 8:Nat):Int):=fD (a:=f) (s:=8) (by decide) (by omega)
 rw[e3,jW (by omega) (by omega),zdT (by decide)]
 have:1+f*2 ^ 8=1+256*f:=by omega
 rw[this];exact hQ
theorem zbq {x:Nat} (hx:x<18446744073709551616):ineg .u64 (x:Int)=((18446744073709551615-x:Nat):Int):=by
 unfold ineg
 show ixor .u64 18446744073709551615 (x:Int)=_
 have h:=zdI (a:=18446744073709551615) (b:=x) (by decide) hx
 have e:18446744073709551615 ^^^ x=18446744073709551615-x:=by
  have h2:(BitVec.allOnes 64 ^^^ BitVec.ofNat 64 x).toNat=(~~~ BitVec.ofNat 64 x).toNat:=by rw[BitVec.allOnes_xor]
  rw[BitVec.toNat_xor,BitVec.toNat_allOnes,BitVec.toNat_ofNat,Nat.mod_eq_of_lt hx,BitVec.toNat_not,BitVec.toNat_ofNat,Nat.mod_eq_of_lt hx] at h2
  exact h2
 rw[e] at h
 exact h
theorem packw2 {f:Nat} (hf:f≤65535) {Q:Int→Mem→Prop} (hQ:Q ((9223372036854775808+(65535-f):Nat):Int) S):wS S 9223372036854775808 0 16 (ineg .u64 (f:Int)) Q:=by
 apply jI
 unfold wM
 simp only[jn]
 rw[if_neg (by decide),if_neg (by decide),if_neg (by decide),if_pos (by decide)]
 refine⟨by decide,by decide,by decide,?_⟩
 have e1:iandn .u64 9223372036854775808 (ishl .u64 (IntKind.u64.wrap (ishl .u64 1 16-1)) 0)=((1*2 ^ 63:Nat):Int):=by decide
 have e2:IntKind.u64.wrap (ishl .u64 1 16-1)=((2 ^ 16-1:Nat):Int):=by decide
 rw[e1,e2,zbq (by omega),kC (by omega) (by decide),Nat.and_two_pow_sub_one_eq_mod]
 have e4:(18446744073709551615-f)%2 ^ 16=65535-f:=by omega
 rw[e4]
 have e3:ishl .u64 ((65535-f:Nat):Int) 0=(((65535-f)*2 ^ 0:Nat):Int):=fD (a:=65535-f) (s:=0) (by decide) (by omega)
 rw[e3,jW (by decide) (by omega),jg (by omega)]
 have:1*2 ^ 63+(65535-f)*2 ^ 0=9223372036854775808+(65535-f):=by omega
 rw[this];exact hQ
theorem or2 {f:Nat}:(1+256*f) ||| 2=1+256*f+2:=by
 have e1:1+256*f=f*2 ^ 8 ||| 1:=by rw[jg (by decide)];omega
 rw[e1,Nat.or_assoc,show 1 ||| 2=3 by decide,jg (by decide),jg (by decide)]
theorem or62 {x:Nat} (hx:x≤65535):(9223372036854775808+x) ||| 4611686018427387904=9223372036854775808+x+4611686018427387904:=by
 have e1:9223372036854775808+x=1*2 ^ 63 ||| x:=by rw[jg (by omega)]
 rw[e1,Nat.or_assoc,Nat.or_comm x,←Nat.or_assoc,show 1*2 ^ 63 ||| 4611686018427387904=3*2 ^ 62 by decide,jg (by omega),jg (by omega)]
 omega
theorem kS {form:Int} {f:Nat} (hf:f≤65535) {wr:Bool} {Q:Int→Mem→Prop} (hQ:Q (pk form f wr) S):wq S form (enL f wr) Q:=by
 apply fP
 unfold vc enL
 refine⟨rfl,?_⟩
 simp only[jn]
 rw[fK (show nthL [Value.bool true,.int .i64 f,.bool wr] 0=some (.bool true) from rfl),if_pos rfl]
 have g1:∀ K,gI (nthL [Value.bool true,.int .i64 f,.bool wr] 1) .i64 K=K (f:Int):=fun K=>yd rfl K
 have g2:∀ K,gB (nthL [Value.bool true,.int .i64 f,.bool wr] 2) K=K wr:=fun K=>fK rfl K
 have eu:IntKind.u64.wrap (f:Int)=(f:Int):=wu64 (by omega) (by omega)
 unfold Go.Cr.pk at hQ
 by_cases h1:form=1
 ·rw[if_pos h1] at hQ
  rw[if_pos h1,g1,eu]
  refine packw1 hf ?_
  rw[g2]
  cases wr
  ·rw[if_neg (by decide)]
   rw[if_neg (by decide)] at hQ
   have e:((1+256*f:Nat):Int)=1+256*(f:Int)+0:=by omega
   rw[e];exact hQ
  ·rw[if_pos rfl]
   rw[if_pos rfl] at hQ
   have:=jW (a:=1+256*f) (b:=2) (by omega) (by decide)
   rw[or2] at this
   have e2:((2:Nat):Int)=2:=rfl
   rw[e2] at this
   rw[this]
   have e:((1+256*f+2:Nat):Int)=1+256*(f:Int)+2:=by omega
   rw[e];exact hQ
 ·rw[if_neg h1] at hQ
  rw[if_neg h1,g1,eu]
  refine packw2 hf ?_
  rw[g2]
  cases wr
  ·rw[if_neg (by decide)]
   rw[if_neg (by decide)] at hQ
   have e:((9223372036854775808+(65535-f):Nat):Int)=9223372036854775808+(65535-(f:Int))+0:=by omega
   rw[e];exact hQ
  ·rw[if_pos rfl]
   rw[if_pos rfl] at hQ
   have:=jW (a:=9223372036854775808+(65535-f)) (b:=4611686018427387904) (by omega) (by decide)
   rw[or62 (by omega)] at this
   have e2:((4611686018427387904:Nat):Int)=4611686018427387904:=rfl
   rw[e2] at this
   rw[this]
   have e:((9223372036854775808+(65535-f)+4611686018427387904:Nat):Int)=9223372036854775808+(65535-(f:Int))+4611686018427387904:=by omega
   rw[e];exact hQ
theorem jG {w:Nat} (hw:w<18446744073709551616) {k:Nat} (hk:k≤63) {Q:Int→Mem→Prop} (hQ:Q ((w/2 ^ k%65536:Nat):Int) S):vg S (w:Int) (k:Int) 16 Q:=by
 apply fM
 unfold va
 simp only[jn]
 rw[if_neg (by omega),if_neg (by omega),if_neg (by decide),if_pos (by decide)]
 refine⟨by omega,by decide,?_⟩
 have e2:IntKind.u64.wrap (ishl .u64 1 16-1)=((2 ^ 16-1:Nat):Int):=by decide
 have hd:w/2 ^ k≤w:=Nat.div_le_self _ _
 rw[e2,fw hk,kC (by omega) (by decide),Nat.and_two_pow_sub_one_eq_mod]
 exact hQ
def noEn:List Value:=[.bool false,.int .i64 0,.bool false]
theorem wz {form w:Int} (hw:W64 w) {Q:List Value→Bool→Mem→Prop}
  (hY:∀ f b,unp form w=some (f,b)→Q (enL f b) true S) (hN:unp form w=none→Q noEn (decide (w=0)) S):xX S form w Q:=by
 obtain⟨n,rfl⟩:∃ n:Nat,w=n:=⟨w.toNat,by have:=hw.1;omega⟩
 have hn:n<18446744073709551616:=by have:=hw.2;omega
 apply gq
 unfold wn
 refine jG (k:=8) hn (by decide) ?_
 refine qC (fun J=>J (enL (if form=1 then ((n:Int)/256%65536).toNat else (65535-(n:Int)%65536).toNat:Nat) (if form=1 then decide ((n:Int)/2%2=1) else decide ((n:Int)/4611686018427387904%2=1))) S) ?_ fun J hJ=>?_
 ·refine⟨rfl,?_⟩
  simp only[jn]
  by_cases h0:(n:Int)=0
  ·rw[if_pos h0]
   have e:unp form (n:Int)=none:=by unfold unp;rw[if_pos h0]
   have:=hN e
   rw[decide_eq_true h0] at this;exact this
  ·rw[if_neg h0]
   refine⟨rfl,?_⟩
   refine kS (by split <;> omega) ?_
   have hu:unp form (n:Int)=if pk form (if form=1 then ((n:Int)/256%65536).toNat else (65535-(n:Int)%65536).toNat) (if form=1 then decide ((n:Int)/2%2=1) else decide ((n:Int)/4611686018427387904%2=1))=(n:Int) then some (if form=1 then ((n:Int)/256%65536).toNat else (65535-(n:Int)%65536).toNat,if form=1 then decide ((n:Int)/2%2=1) else decide ((n:Int)/4611686018427387904%2=1)) else none:=by
    unfold unp;rw[if_neg h0]
   by_cases hp:pk form (if form=1 then ((n:Int)/256%65536).toNat else (65535-(n:Int)%65536).toNat) (if form=1 then decide ((n:Int)/2%2=1) else decide ((n:Int)/4611686018427387904%2=1))=(n:Int)
   ·rw[if_neg (fun h=>h hp)]
    rw[if_pos hp] at hu
    exact⟨rfl,hY _ _ hu⟩
   ·rw[if_pos hp]
    rw[if_neg hp] at hu
    have:=hN hu
    rw[decide_eq_false h0] at this;exact this
 ·by_cases h1:form=1
  ·simp only[if_pos h1] at hJ
   rw[if_neg (fun h=>h h1)]
   have e1:((n/2 ^ 8%65536:Nat):Int)=((((n:Int)/256%65536).toNat:Nat):Int):=by omega
   have e2:decide (iand .u64 (n:Int) 2≠0)=decide ((n:Int)/2%2=1):=by
    have:=kC (a:=n) (b:=2) hn (by decide)
    have h3:=zdj n 1
    rw[show 2 ^ 1=2 by decide] at h3
    rw[h3] at this
    have e3:((2:Nat):Int)=2:=rfl
    rw[e3] at this
    rw[this]
    apply decide_eq_decide.2
    omega
   rw[e1,w64 (by omega) (by omega),e2];exact hJ
  ·simp only[if_neg h1] at hJ
   rw[if_pos h1,zbq hn]
   refine jG (k:=0) (by omega) (by decide) ?_
   have hf:(18446744073709551615-n)/2 ^ 0%65536=(65535-(n:Int)%65536).toNat:=by omega
   rw[hf,w64 (by omega) (by omega)]
   have e2:decide (iand .u64 (ishr .u64 (n:Int) 62) 1=1)=decide ((n:Int)/4611686018427387904%2=1):=by
    have h3:=fw (a:=n) (s:=62) (by decide)
    have h4:=kC (a:=n/2 ^ 62) (b:=1) (by omega) (by decide)
    have h5:=zdj (n/2 ^ 62) 0
    rw[show 2 ^ 0=1 by decide] at h5
    have e3:((1:Nat):Int)=1:=rfl
    have e4:((62:Nat):Int)=62:=rfl
    rw[e4] at h3
    rw[e3,h5] at h4
    rw[h3,h4]
    apply decide_eq_decide.2
    omega
   rw[e2];exact hJ
end
end Go.Proofs.YtabdpmnhjlmnlaaGreatDoor
end
section
namespace Go.Cr
open Go Go.Pt
theorem zbT {w:Int} (h:W64 w):num (bytes8 w)=w:=by
 obtain⟨h1,h2⟩:=h
 have e:bytes8 w=[w/1%256,w/256%256,w/65536%256,w/16777216%256,w/4294967296%256,w/1099511627776%256,w/281474976710656%256,w/72057594037927936%256]:=rfl
 rw[e]
 simp only[num]
 omega
theorem zfj {d:Nat→List Int} {f g i j:Nat} {w:Int} (hl:(d f).length=256) (hi:i<32) (hj:j<32) (hw:W64 w):ld (wr d f (8*i) (bytes8 w)) g j=if g=f∧j=i then w else ld d g j:=by
 have h8:=xc w
 unfold ld wr
 by_cases hg:g=f
 ·subst hg
  rw[zt]
  by_cases e:j=i
  ·subst e
   rw[if_pos ⟨rfl,rfl⟩]
   have:=zdw (d:=d g) (off:=8*j) (l:=bytes8 w) (by omega)
   rw[h8] at this
   rw[this,zbT hw]
  ·rw[if_neg (fun h=>e h.2),zcz (by omega) (by omega)]
 ·rw[zn hg,if_neg (fun h=>hg h.1)]
theorem zaY {d:Nat→List Int} {f off:Nat} {l:List Int} (hl:off+l.length≤(d f).length) (g:Nat):(wr d f off l g).length=(d g).length:=by
 unfold wr
 by_cases hg:g=f
 ·subst hg;rw[zt,zek hl]
 ·rw[zn hg]
theorem zaZ {d:Nat→List Int} {f off:Nat} {l:List Int} (hb:Byt l) {g:Nat} (h:Byt (d g)):Byt (wr d f off l g):=by
 unfold wr
 by_cases hg:g=f
 ·subst hg;rw[zt];exact zem h hb
 ·rw[zn hg];exact h
theorem zeU {d:Nat→List Int} {f g off:Nat} {l:List Int} (h:g≠f):wr d f off l g=d g:=zn h
def lentN (ls:Nat→Ls) (n p:Nat):Nat:=count (fun i=>(ls i).on && (decide ((ls i).fr=n) && decide ((ls i).pg=p))) 16
structure WOk (W:Wd):Prop where
 off:∀ n,(W.vm n).on=false→W.vm n=bv0∧(∀ p,W.own n p=none)∧∀ k,W.alarm n k=none
 six:∀ n,6≤n→(W.vm n).on=false
 seats:∀ n,(W.vm n).on=true→1≤(W.vm n).seats.length∧(W.vm n).seats.length≤3
 ok:∀ n,∀ s∈(W.vm n).seats,s.Ok
 keys:∀ n,(W.vm n).keys.length≤64∧Byt (W.vm n).keys
 disk:∀ n j,(W.vm n).on=true→((W.vm n).disk j).length=256∧Byt ((W.vm n).disk j)
 quota:∀ n,0≤(W.vm n).quota∧(W.vm n).quota≤32
 bells:∀ n k,(W.vm n).bells k=true→(W.vm n).on=true∧(W.vm k).on=true∧(W.vm k).bells n=true∧k≠n
 pg:∀ n p l,W.own n p=some l→(W.vm n).on=true∧p<32∧l.length=256∧Byt l
 most:∀ n,(W.pages n:Int)≤(W.vm n).quota
 lsr:∀ i,(W.ls i).on=true→i<16∧(W.vm (W.ls i).fr).on=true∧(W.vm (W.ls i).to).on=true∧(W.ls i).fr≠(W.ls i).to∧(W.own (W.ls i).fr (W.ls i).pg).isSome=true∧-1≤(W.ls i).at_∧(W.ls i).at_≤31
 lso:∀ i,(W.ls i).on=false→W.ls i=ls0
 lsa:∀ i,(W.ls i).on=true→∀ p:Nat,(W.ls i).at_=p→W.own (W.ls i).to p=none
 lsu:∀ i j,(W.ls i).on=true→(W.ls j).on=true→(W.ls i).to=(W.ls j).to→0≤(W.ls i).at_→(W.ls i).at_=(W.ls j).at_→i=j
 alarm:∀ n k w,W.alarm n k=some w→k<(W.vm n).seats.length∧W64 w
def most64:Int:=18446744073709551615
structure Rel (C:Cst) (W:Wd) (φ:Nat→Nat→Nat):Prop where
 wk:WOk W
 vm:C.vm=W.vm
 ls:C.ls=W.ls
 ev:C.ev=W.ev
 N:C.N≤512
 form:C.form=1∨C.form=2
 now:0≤C.now∧C.now≤4611686018427387904
 time:∀ n,(W.vm n).on=true→0≤C.late n∧C.late n≤C.now∧W.time n=C.now-C.late n
 alm:∀ n k,C.alm n k=(W.alarm n k).map fun w=>min (w+C.late n) most64
 free:W.free=count (fun f=>! C.used f) C.N
 left:C.left = -1
 used:∀ f,f<C.N→C.used f=decide ((C.own f).kind≠0)
 own0:∀ f,f<C.N→(C.own f).kind=0→C.own f=ow0
 kind:∀ f,f<C.N→0≤(C.own f).kind∧(C.own f).kind≤3
 len:∀ f,f<C.N→(C.dat f).length=256∧Byt (C.dat f)
 off:∀ n,(W.vm n).on=false→C.fr n=[]∧C.tf n=0∧C.late n=0
 tab:∀ n,(W.vm n).on=true→C.tf n=C.form∧(C.fr n).length=5∧(C.fr n).Nodup
 tabf:∀ n f,f∈C.fr n→f<C.N∧C.own f=⟨2,n,0,0⟩
 tabk:∀ f,f<C.N→(C.own f).kind=2→∃ n,f∈C.fr n
 root:∀ n j,(W.vm n).on=true→j<4→unp C.form (ld C.dat ((C.fr n).getD 0 0) j)=some ((C.fr n).getD (j+1) 0,true)
 leaf:∀ n p,(W.vm n).on=true→p<32→unp C.form (ld C.dat ((C.fr n).getD (p/8+1) 0) (p%8))=(W.where_ n p).map fun q=>(φ q.1 q.2.1,q.2.2)
 pg:∀ n p l,W.own n p=some l→φ n p<C.N∧C.own (φ n p)=⟨3,n,p,lentN W.ls n p⟩∧C.dat (φ n p)=l
 pgk:∀ f,f<C.N→(C.own f).kind=3→∃ n p,(W.own n p).isSome=true∧φ n p=f
 hyp:C.region.Nodup∧∀ f,f∈C.region↔f<C.N∧(C.own f).kind=1
 cache:∀ r∈C.cache,∃ n:Nat,r.vm=n∧(W.vm n).on=true∧C.walk n r.page=some (r.f,r.w)
 csize:C.cache.length≤8
section
variable {C:Cst} {W:Wd} {φ:Nat→Nat→Nat}
theorem fF {l:List Nat} {i:Nat} (h:i<l.length):l.getD i 0∈l:=by
 rw[List.getD_eq_getElem?_getD,List.getElem?_eq_getElem h];exact List.getElem_mem h
theorem Rel.frN (h:Rel C W φ) {n j:Nat} (hn:(W.vm n).on=true) (hj:j<5):(C.fr n).getD j 0<C.N∧C.own ((C.fr n).getD j 0)=⟨2,n,0,0⟩:=
 h.tabf n _ (fF (by rw[(h.tab n hn).2.1];exact hj))
theorem Rel.cons (h:Rel C W φ) {n:Nat} (hn:(W.vm n).on=true):∃ a b c d e,C.fr n=[a,b,c,d,e]:=by
 have hl:=(h.tab n hn).2.1
 match hf:C.fr n,hl with
 | [a,b,c,d,e],_=>exact⟨a,b,c,d,e,rfl⟩
theorem Rel.leafC (h:Rel C W φ) {n:Nat} (hn:(W.vm n).on=true) {p:Nat} (hp:p<32):Go.Cr.leafC C.dat C.N (C.tf n) (C.fr n) p=some ((C.fr n).getD (p/8+1) 0,p%8):=by
 have h1:=(h.tab n hn).1
 have hr:=h.root n (p/8) hn (by omega)
 have h0:=h.frN hn (j:=0) (by decide)
 obtain⟨a,b,c,d,e,hf⟩:=h.cons hn
 rw[hf] at hr h0 ⊢
 unfold Go.Cr.leafC
 rw[if_neg (by omega)]
 simp only[List.getD_cons_zero] at h0 hr
 dsimp only
 rw[if_pos h0.1,h1]
 have e1:((p:Int)/8).toNat=p/8:=by omega
 have e2:((p:Int)%8).toNat=p%8:=by omega
 rw[e1,e2,hr];rfl
theorem Rel.walk (h:Rel C W φ) {n:Nat} (hn:(W.vm n).on=true) {p:Nat} (hp:p<32):C.walk n p=(W.where_ n p).map fun q=>(φ q.1 q.2.1,q.2.2):=by
 unfold Cst.walk walkC
 rw[h.leafC hn hp]
 dsimp only
 rw[if_pos (h.frN hn (by omega)).1,(h.tab n hn).1]
 exact h.leaf n p hn hp
theorem ff {C:Cst} {n:Nat} {page:Int} (hp:page<0∨31<page):C.walk n page=none:=by
 unfold Cst.walk walkC Go.Cr.leafC
 rw[if_pos hp]
theorem Rel.ld_keep (h:Rel C W φ) {f:Nat} (hf:(C.own f).kind≠2) {l:List Int} {n j i:Nat} (hn:(W.vm n).on=true) (hj:j<5):ld (upd C.dat f l) ((C.fr n).getD j 0) i=ld C.dat ((C.fr n).getD j 0) i:=by
 have:=(h.frN hn hj).2
 unfold ld
 rw[zn]
 intro e
 rw[e] at this
 rw[this] at hf
 exact hf rfl
theorem Rel.inj (h:Rel C W φ) {n p m q:Nat} {l l':List Int} (h1:W.own n p=some l) (h2:W.own m q=some l') (e:φ n p=φ m q):n=m∧p=q:=by
 have e1:=(h.pg n p l h1).2.1
 have e2:=(h.pg m q l' h2).2.1
 rw[e,e2] at e1
 simp only[Ow.mk.injEq,Int.natCast_inj] at e1
 exact⟨e1.2.1.symm,e1.2.2.1.symm⟩
theorem WOk.where_own (h:WOk W) {n p:Nat} {q:Nat×Nat×Bool} (hq:W.where_ n p=some q):∃ l,W.own q.1 q.2.1=some l:=by
 unfold Wd.where_ at hq
 split at hq
 ·rename_i hs
  cases hq
  exact Option.isSome_iff_exists.1 hs
 ·cases hf:leaseAt W.ls n p with
  | none=>rw[hf] at hq;cases hq
  | some i=>
   rw[hf] at hq
   simp only[Option.map_some,Option.some.injEq] at hq
   subst hq
   have:=List.find?_some hf
   simp only[Bool.and_eq_true,decide_eq_true_eq] at this
   exact Option.isSome_iff_exists.1 (h.lsr i this.1).2.2.2.2.1
end
end Go.Cr
end
section
namespace Go.Cr
open Go Go.Pt
theorem _root_.Go.Pt.Rw.claim {S S':Mem} {ρ:Rho} {R:Nat→Prop} {r size:Nat} {t:Sl} {l:List Value} (hg:∀ b r,ρ b=some r→S b≠none) (hk:Keeps S S' []) (hrow:Row S' size t l) (hf:∀ b o,t.p=some (b,o)→S b=none) :
  ∃ ρ',Mv S ρ S' ρ' R∧Rw S' ρ' r size t l:=by
 rcases hrow.lie with ⟨h1,_⟩ | ⟨b,k,h1,h2,_⟩
 ·exact⟨ρ,Mv.keeps hg hk,hrow,fun b o h=>by rw[h1] at h;cases h⟩
 ·refine⟨ρ.upd b r,Mv.claim hg hk (hf b 0 h1) (by rw[h2];simp),hrow,fun b' o h=>?_⟩
  rw[h1] at h;cases h;exact yp
structure StoreD (S:Mem) (ρ:Rho) (m N:Nat) (d:Nat→List Int):Prop where
 ex:∃ B,StoreAt S m B N (cF N d)∧ρ B=some 2
 rol:ρ m=some 1
 len:∀ f,f<N→(d f).length=256
 byt:∀ f,f<N→Byt (d f)
section
variable {S S':Mem} {ρ ρ':Rho} {R:Nat→Prop} {m N:Nat} {d:Nat→List Int}
theorem StoreD.keep (h:StoreD S ρ m N d) (mv:Mv S ρ S' ρ' R) (h1:¬R 1) (h2:¬R 2):StoreD S' ρ' m N d:=by
 obtain⟨B,hB,hr⟩:=h.ex
 have e1:S' m=S m:=mv.kp m (by rw[hB.hd];simp) fun r e=>by rw[h.rol] at e;cases e;exact h1
 have e2:S' B=S B:=mv.kp B (by rw[hB.dt];simp) fun r e=>by rw[hr] at e;cases e;exact h2
 exact⟨⟨B,⟨by rw[e1];exact hB.hd,by rw[e2];exact hB.dt,hB.ne,hB.len,hB.byt,hB.lim⟩,mv.ext B 2 hr⟩,mv.ext m 1 h.rol,h.len,h.byt⟩
theorem StoreD.keeps (h:StoreD S ρ m N d) (hk:Keeps S S' []):StoreD S' ρ m N d:=by
 obtain⟨B,hB,hr⟩:=h.ex
 exact⟨⟨B,hB.keep hk,hr⟩,h.rol,h.len,h.byt⟩
theorem StoreD.lim (h:StoreD S ρ m N d):N≤512:=by obtain⟨B,hB,_⟩:=h.ex;exact hB.lim
theorem zeb (hg:∀ b r,ρ b=some r→S b≠none) {B:Nat} (hr:ρ B=some 2) (hk:Keeps S S' [B]) (hB:S' B≠none):Mv S ρ S' ρ (· = 2):=
 Mv.keepsW hg hk fun w hw=>by rw[List.mem_singleton] at hw;subst hw;exact⟨hB,2,hr,rfl⟩
end
end Go.Cr
namespace Go.Proofs.YtabdpmnhjlmnlaaGreatDoor
open Go Go.Pt Go.Cr
section
variable {S:Mem} {ρ:Rho} {m N:Nat} {d:Nat→List Int}
theorem framesD (h:StoreD S ρ m N d) {Q:Int→Mem→Prop} (hQ:Q N S):qj S (some (m,0)) Q:=by
 obtain⟨B,hB,_⟩:=h.ex
 exact ga hB hQ
theorem readBad (h:StoreD S ρ m N d) {f off n:Nat} (hf:N≤f) (hn:0<n) (ho:off+n≤256) {Q:Sl→Int→Mem→Prop} (hQ:Q ⟨none,0,0⟩ 1 S):yr S (some (m,0)) f off n Q:=by
 obtain⟨B,hB,_⟩:=h.ex
 exact fV hB (by omega) (fun _ hl _ _ _ t S' _ _ _=>absurd hl (by omega)) (fun _=>hQ) (by omega)
theorem loadD (h:StoreD S ρ m N d) {f i:Nat} (hi:i<32) {Q:Int→Int→Mem→Prop} (hY:f<N→∀ S',Keeps S S' []→Q (ld d f i) 0 S') (hN:N≤f→Q 0 1 S):qO S (some (m,0)) f i Q:=by
 by_cases hf:f<N
 ·obtain⟨B,hB,_⟩:=h.ex
  refine zbM hB hf hi fun S' hk=>?_
  rw[zff h.len hf (by omega)]
  exact hY hf S' hk
 ·apply xZ
  unfold qV
  simp only[jn]
  rw[if_neg (by omega),if_neg (by omega),w64 (by omega) (by omega)]
  refine readBad (off:=8*i) (n:=8) h (by omega) (by decide) (by omega) ?_
  exact zcG (xs:=[]) ⟨rfl,Nat.le_refl _,fun _ h=>by simp at h,.inl rfl⟩ (by decide) (hN (by omega))
theorem zfP (h:StoreD S ρ m N d) {f i:Nat} (hf:f<N) (hi:i<32):W64 (ld d f i):=by
 have hl:=h.len f hf
 have hb:Byt (rdB (d f) (8*i) 8):=fun x hx=>h.byt f hf x (List.mem_of_mem_drop (List.mem_of_mem_take hx))
 have:=zcH hb
 have e:(rdB (d f) (8*i) 8).length=8:=by unfold rdB;rw[List.length_take,List.length_drop];omega
 rw[e] at this
 have h8:(256:Int) ^ 8=18446744073709551616:=by decide
 unfold ld
 exact⟨this.1,by omega⟩
theorem writeD (h:StoreD S ρ m N d) (hg:∀ b r,ρ b=some r→S b≠none) {f off:Nat} (hf:f<N) {p:Sl} {l:List Int} (hp:∃ b o,p.p=some (b,o)∧S.part b o (l.length*1)=some (bL l)) (hpl:l.length=p.n) (hl0:l≠[]) (ho:off+l.length≤256) (hb:Byt l) {Q:Int→Mem→Prop}
  (hQ:∀ S',Mv S ρ S' ρ (· = 2)→StoreD S' ρ m N (wr d f off l)→Q 0 S'):zR S (some (m,0)) f off p Q:=by
 obtain⟨B,hB,hr⟩:=h.ex
 refine vf hB (by omega) (l:=l) (.inr hp) hpl hl0 hb (fun _ _ _ _ hs=>?_) (fun hbad=>absurd ⟨by omega,by omega,by omega,by omega,by omega⟩ hbad)
 rw[Int.toNat_natCast,Int.toNat_natCast,zcq h.len hf ho] at hs ⊢
 refine hQ _ (zeb hg hr (Keeps.refl.set (by simp)) (by simp)) ⟨⟨B,hs,hr⟩,h.rol,fun g hg'=>?_,fun g hg'=>zaZ hb (h.byt g hg')⟩
 rw[zaY (by rw[h.len f hf];exact ho)];exact h.len g hg'
theorem writeBad (h:StoreD S ρ m N d) {f off:Nat} (hf:N≤f) {p:Sl} {l:List Int} (hp:∃ b o,p.p=some (b,o)∧S.part b o (l.length*1)=some (bL l)) (hpl:l.length=p.n) (hl0:l≠[]) (ho:off+l.length≤256) (hb:Byt l) {Q:Int→Mem→Prop} (hQ:Q 1 S):zR S (some (m,0)) f off p Q:=by
 obtain⟨B,hB,hr⟩:=h.ex
 exact vf hB (by omega) (l:=l) (.inr hp) hpl hl0 hb (fun _ h2 _ _ _=>absurd h2 (by omega)) (fun _=>hQ)
theorem saveD (h:StoreD S ρ m N d) (hg:∀ b r,ρ b=some r→S b≠none) {f i:Nat} (hi:i<32) {w:Int} (hw:W64 w) {Q:Int→Mem→Prop}
  (hQ:∀ e S',Mv S ρ S' ρ (· = 2)→StoreD S' ρ m N (if f<N then wr d f (8*i) (bytes8 w) else d)→Q e S'):qN S (some (m,0)) f i w Q:=by
 obtain⟨B,hB,hr⟩:=h.ex
 by_cases hf:f<N
 ·refine zbL hB hf hi hw fun S' hk hs=>?_
  rw[zcq h.len hf (by rw[xc];omega)] at hs
  refine hQ 0 S' (zeb hg hr hk (by rw[hs.dt];simp)) ?_
  rw[if_pos hf]
  refine⟨⟨B,hs,hr⟩,h.rol,fun g hg'=>?_,fun g hg'=>zaZ (wy w) (h.byt g hg')⟩
  rw[zaY (by rw[h.len f hf,xc];omega)];exact h.len g hg'
 ·apply xY
  unfold qU
  simp only[jn]
  rw[if_neg (by omega),if_neg (by omega),w64 (by omega) (by omega)]
  refine gZ hw fun c hc=>?_
  have hk:Keeps S (S.set c (bw 5 (bL (bytes8 w)))) []:=Keeps.refl.fresh hc
  have h8:=xc w
  refine writeBad (off:=8*i) (h.keeps hk) (by omega) (l:=bytes8 w) ⟨c,0,rfl,?_⟩ h8 (fun h0=>by rw[h0] at h8;simp at h8) (by omega) (wy w) ?_
  ·rw[xL zG,qq (by show 0+(bytes8 w).length*1≤(bL (bytes8 w)).length;simp[bL])]
   simp only[bL,List.drop_zero,Nat.mul_one]
   rw[List.take_of_length_le (by simp)]
  ·refine hQ 1 _ (Mv.keeps hg hk) ?_
   rw[if_neg hf];exact h.keeps hk
theorem clearD (h:StoreD S ρ m N d) (hg:∀ b r,ρ b=some r→S b≠none) {f:Nat} (hf:f<N) {Q:Int→Mem→Prop}
  (hQ:∀ S',Mv S ρ S' ρ (· = 2)→StoreD S' ρ m N (upd d f noughts)→Q 0 S'):qA S (some (m,0)) f Q:=by
 obtain⟨B,hB,hr⟩:=h.ex
 refine zaA hB hf fun S' hk hs=>?_
 have hl:=h.len f hf
 have e:wr d f 0 noughts=upd d f noughts:=by
  unfold wr spB
  rw[List.take_zero,List.nil_append,List.drop_of_length_le (by rw[qI];omega),List.append_nil]
 rw[zbU,zcq h.len hf (by rw[qI];omega),e] at hs
 refine hQ S' (zeb hg hr hk (by rw[hs.dt];simp)) ⟨⟨B,hs,hr⟩,h.rol,fun g hg'=>?_,fun g hg'=>?_⟩
 ·by_cases e:g=f
  ·rw[e,zt];exact qI
  ·rw[zn e];exact h.len g hg'
 ·by_cases e:g=f
  ·rw[e,zt];exact fun x hx=>yZ hx
  ·rw[zn e];exact h.byt g hg'
end
end Go.Proofs.YtabdpmnhjlmnlaaGreatDoor
namespace Go.Cr
open Go Go.Pt
open Go.Proofs.YtabdpmnhjlmnlaaGreatDoor (enL noEn)
def tbL (tf:Int) (fs:Sl):List Value:=[.int .i64 tf,eL fs]
theorem zbp {d:Nat→List Int} {N:Nat} {tf:Int} {fr:List Nat} {page:Int} {f i:Nat} (h:leafC d N tf fr page=some (f,i)):i<8∧f≤65535:=by
 unfold leafC at h
 split at h
 ·cases h
 ·cases fr with
  | nil=>cases h
  | cons r l=>
   dsimp only at h
   split at h
   ·cases hu:unp tf (ld d r (page/8).toNat) with
    | none=>rw[hu] at h;cases h
    | some q=>
     rw[hu] at h
     simp only[Option.map_some,Option.some.injEq,Prod.mk.injEq] at h
     have:=(zeX hu).1
     omega
   ·cases h
end Go.Cr
namespace Go.Proofs.YtabdpmnhjlmnlaaGreatDoor
open Go Go.Pt Go.Cr
section
variable {S:Mem} {ρ:Rho} {m N:Nat} {d:Nat→List Int} {tf:Int} {fs:Sl} {fr:List Nat}
theorem zet (hr:Row S 1 fs (nL fr)) {i:Nat} (hi:i<fr.length):∃ b,fs.p=some (b,0)∧S.cell b i=some (.int .i64 (fr.getD i 0:Nat))∧fs.n=fr.length:=by
 have hl:=hr.len
 have hn:fs.n=fr.length:=by simp[nL] at hl;omega
 rcases hr.lie with ⟨_,h2⟩ | ⟨b,k,h1,h2,h3,h4,h5⟩
 ·have:=hr.cap;omega
 ·refine⟨b,h1,?_,hn⟩
  rw[qE h2,zK]
  have:(k.cs.take (fs.n*1))[i]? = (nL fr)[i]?:=by rw[h5]
  rw[List.getElem?_take,if_pos (by omega)] at this
  rw[this]
  simp[nL,List.getElem?_eq_getElem hi]
theorem leafD (h:StoreD S ρ m N d) (hr:Row S 1 fs (nL fr)) {page:Int} {Q:Int→Int→Int→Mem→Prop}
  (hY:∀ f i S',leafC d N tf fr page=some (f,i)→Keeps S S' []→Q f i 0 S') (hN:∀ e S',leafC d N tf fr page=none→e≠0→Keeps S S' []→Q 0 0 e S'):yq S (tbL tf fs) (some (m,0)) page Q:=by
 have hn:fs.n=fr.length:=by have:=hr.len;simp[nL] at this;omega
 have c0:nthL (tbL tf fs) 0=some (.int .i64 tf):=rfl
 have c1:nthL (tbL tf fs) 1=some (eL fs):=rfl
 have hk0:Keeps S S []:=Keeps.refl
 apply ka
 unfold yN
 refine⟨rfl,?_⟩
 refine qC (fun J=>0≤page→page<32→fr≠[]→J S) ?_ fun J hJ=>?_
 rotate_left
 ·by_cases h1:page<0
  ·rw[if_pos h1];exact hN 1 S (by unfold leafC;rw[if_pos (by omega)]) (by decide) hk0
  rw[if_neg h1]
  by_cases h2:32≤page
  ·rw[if_pos h2];exact hN 1 S (by unfold leafC;rw[if_pos (by omega)]) (by decide) hk0
  rw[if_neg h2,wb c1]
  by_cases h3:(fs.n:Int)=0
  ·rw[if_pos h3]
   have:fr=[]:=List.length_eq_zero_iff.1 (by omega)
   refine hN 1 S ?_ (by decide) hk0
   subst this;unfold leafC;rw[if_neg (by omega)]
  ·rw[if_neg h3]
   exact hJ (by omega) (by omega) (fun e=>by rw[e] at hn;simp at hn;omega)
 intro h0 h1 hne
 obtain⟨r,l,hfr⟩:∃ r l,fr=r :: l:=by
  cases fr with
  | nil=>exact absurd rfl hne
  | cons r l=>exact⟨r,l,rfl⟩
 have hlf:leafC d N tf fr page=if r<N then (unp tf (ld d r (page/8).toNat)).map fun x=>(x.1,(page%8).toNat) else none:=by
  unfold leafC;rw[if_neg (by omega),hfr]
 obtain⟨b,hb,hcell,_⟩:=zet hr (i:=0) (by rw[hfr];simp)
 rw[hfr,List.getD_cons_zero] at hcell
 have hsl:fs=⟨some (b,0),fs.n,fs.c⟩:=by obtain⟨p,n,c⟩:=fs;simp only at hb;rw[hb]
 rw[wb c1,hsl,gr]
 refine⟨by rw[hfr] at hn;simp at hn;omega,?_⟩
 rw[yd hcell,td h0,w64 (by omega) (by omega)]
 have e8:page/8=(((page/8).toNat:Nat):Int):=by omega
 have em:Int.tmod page 8=(((page%8).toNat:Nat):Int):=by rw[tm h0];omega
 rw[e8]
 have c0:nthL (tbL tf ⟨some (b,0),fs.n,fs.c⟩) 0=some (.int .i64 tf):=rfl
 refine loadD h (by omega) (fun hrN S1 hk=>?_) fun hrN=>?_
 ·rw[yd c0]
  rw[if_pos hrN] at hlf
  refine wz (zfP h hrN (by omega)) (fun f bb hu=>?_) fun hu=>?_
  ·rw[if_pos rfl]
   refine⟨rfl,?_⟩
   simp only[jn]
   rw[if_neg (by decide),fK (show nthL (enL f bb) 0=some (.bool true) from rfl),if_pos rfl,yd (show nthL (enL f bb) 1=some (.int .i64 f) from rfl),em]
   rw[hu] at hlf
   exact hY _ _ _ hlf hk
  ·have hz:leafC d N tf fr page=none:=by rw[hlf,hu];rfl
   by_cases hw:ld d r (page/8).toNat=0
   ·rw[decide_eq_true hw,if_pos rfl]
    refine⟨rfl,?_⟩
    simp only[jn]
    rw[if_neg (by decide),fK (show nthL noEn 0=some (.bool false) from rfl),if_neg (by decide)]
    exact hN _ _ hz (by decide) hk
   ·rw[decide_eq_false hw,if_neg (by decide)]
    refine⟨rfl,?_⟩
    simp only[jn]
    rw[if_neg (by decide)]
    exact hN _ _ hz (by decide) hk
 ·rw[yd c0]
  rw[if_neg (by omega)] at hlf
  refine wz ⟨by decide,by decide⟩ (fun f bb hu=>by rw[jw] at hu;cases hu) fun _=>?_
  rw[decide_eq_true rfl,if_pos rfl]
  refine⟨rfl,?_⟩
  simp only[jn]
  rw[if_pos (by decide)]
  exact hN _ _ hlf (by decide) hk0
theorem walkD (h:StoreD S ρ m N d) (hr:Row S 1 fs (nL fr)) {page:Int} {Q:List Value→Int→Mem→Prop}
  (hY:∀ f b S',walkC d N tf fr page=some (f,b)→Keeps S S' []→Q (enL f b) 0 S') (hN:∀ e S',walkC d N tf fr page=none→e≠0→Keeps S S' []→Q noEn e S'):qM S (tbL tf fs) (some (m,0)) page Q:=by
 have c0:nthL (tbL tf fs) 0=some (.int .i64 tf):=rfl
 apply kd
 unfold yO
 refine⟨rfl,?_⟩
 refine leafD h hr (fun f i S1 hl hk=>?_) fun e S1 hl he hk=>?_
 ·simp only[jn]
  rw[if_neg (by decide)]
  refine⟨rfl,?_⟩
  have hb:=zbp hl
  have hw:walkC d N tf fr page=if f<N then unp tf (ld d f i) else none:=by unfold walkC;rw[hl]
  have h1:=h.keeps hk
  refine loadD h1 (by omega) (fun hf S2 hk2=>?_) fun hf=>?_
  ·rw[yd c0]
   rw[if_pos hf] at hw
   refine wz (zfP h1 hf (by omega)) (fun f' bb hu=>?_) fun hu=>?_
   ·rw[if_pos rfl]
    refine⟨rfl,?_⟩
    rw[if_neg (by decide),fK (show nthL (enL f' bb) 0=some (.bool true) from rfl),if_pos rfl]
    exact⟨rfl,hY _ _ _ (by rw[hw,hu]) (hk.trans hk2)⟩
   ·rw[hu] at hw
    by_cases hz:ld d f i=0
    ·rw[decide_eq_true hz,if_pos rfl]
     refine⟨rfl,?_⟩
     rw[if_neg (by decide),fK (show nthL noEn 0=some (.bool false) from rfl),if_neg (by decide)]
     exact hN _ _ hw (by decide) (hk.trans hk2)
    ·rw[decide_eq_false hz,if_neg (by decide)]
     refine⟨rfl,?_⟩
     rw[if_neg (by decide)]
     exact hN _ _ hw (by decide) (hk.trans hk2)
  ·rw[yd c0]
   rw[if_neg (by omega)] at hw
   refine wz ⟨by decide,by decide⟩ (fun f bb hu=>by rw[jw] at hu;cases hu) fun _=>?_
   rw[decide_eq_true rfl,if_pos rfl]
   refine⟨rfl,?_⟩
   rw[if_pos (by decide)]
   exact hN _ _ hw (by decide) hk
 ·simp only[jn]
  rw[if_pos he]
  exact hN e S1 (by unfold walkC;rw[hl]) he hk
theorem mapD (h:StoreD S ρ m N d) (hg:∀ b r,ρ b=some r→S b≠none) (hr:Row S 1 fs (nL fr)) {page:Int} {f:Nat} (hf:f<N) {wr:Bool} {Q:Int→Mem→Prop}
  (hQ:∀ e S',Mv S ρ S' ρ (· = 2)→StoreD S' ρ m N (setC d N tf fr page (Go.Cr.pk tf f wr))→Q e S'):xG S (tbL tf fs) (some (m,0)) page f wr Q:=by
 have c0:nthL (tbL tf fs) 0=some (.int .i64 tf):=rfl
 have hN:=h.lim
 apply kN
 unfold xd
 refine⟨rfl,?_⟩
 refine leafD h hr (fun f' i S1 hl hk=>?_) fun e S1 hl he hk=>?_
 ·have hb:=zbp hl
  have h1:=h.keeps hk
  have m1:Mv S ρ S1 ρ (· = 2):=Mv.keeps hg hk
  simp only[jn]
  rw[if_neg (by decide),if_neg (by omega)]
  refine framesD h1 ?_
  rw[if_neg (by omega),yd c0]
  refine kS (by omega) ?_
  refine saveD h1 m1.rg (by omega) (zfg (by omega)).1 fun e S2 m2 h2=>hQ e S2 (m1.trans m2) ?_
  unfold setC
  rw[hl];exact h2
 ·simp only[jn]
  rw[if_pos he]
  refine hQ e S1 (Mv.keeps hg hk) ?_
  unfold setC
  rw[hl];exact h.keeps hk
end
end Go.Proofs.YtabdpmnhjlmnlaaGreatDoor
end
