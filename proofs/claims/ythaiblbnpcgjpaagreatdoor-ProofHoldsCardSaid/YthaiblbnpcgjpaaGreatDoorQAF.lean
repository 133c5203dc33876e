/- Texts of this work,joined by program (pack.py). -/
import Derived.Test.YthaiblbnpcgjpaaGreatDoorQAE
import Derived.Test.YthaiblbnpcgjpaaGreatDoorQAC
import Derived.Test.YthaiblbnpcgjpaaGreatDoorQAD
import Derived.Lib.Mul64
set_option linter.unusedVariables false
section
namespace Go.Cr
open Go Go.Pt
theorem zih (x:Int):x64 x=x%18446744073709551616:=by unfold x64;exact IntKind.wrap_u64 x
theorem wU (x:Int):W64 (x64 x):=by rw[zih];exact⟨by omega,by omega⟩
theorem Seat.r_w {s:Seat} (h:s.Ok) (i:Int):W64 (s.r i):=by
 unfold Seat.r
 rw[List.getD_eq_getElem?_getD]
 cases hx:s.R[i.toNat]? with
 | none=>exact⟨by simp,by simp⟩
 | some v=>exact h.r v (List.mem_of_getElem? hx)
theorem zqr {w v:Int} (hw:W64 w) (hv:W64 v):ior .u64 (iandn .u64 w (ishl .u64 (IntKind.u64.wrap (ishl .u64 1 48-1)) 16)) (ishl .u64 (iand .u64 v (IntKind.u64.wrap (ishl .u64 1 48-1))) 16)=x64 (w%65536+x64 (v*65536)):=by
 obtain⟨a,rfl⟩:∃ m:Nat,w=m:=⟨w.toNat,by omega⟩
 obtain⟨b,rfl⟩:∃ m:Nat,v=m:=⟨v.toNat,by omega⟩
 have hM:IntKind.u64.wrap (ishl .u64 1 48-1)=((2 ^ 48-1:Nat):Int):=zgI (n:=48) (by decide) (by decide)
 have e1:ishl .u64 ((2 ^ 48-1:Nat):Int) 16=(((2 ^ 48-1)*2 ^ 16:Nat):Int):=jC (a:=2 ^ 48-1) (s:=16) (by decide) (by decide)
 have e2:iand .u64 (b:Int) ((2 ^ 48-1:Nat):Int)=((b%2 ^ 48:Nat):Int):=by
  rw[yr (by omega) (by decide),Nat.and_two_pow_sub_one_eq_mod]
 have e3:ishl .u64 ((b%2 ^ 48:Nat):Int) 16=((b%2 ^ 48*2 ^ 16:Nat):Int):=jC (a:=b%2 ^ 48) (s:=16) (by decide) (by omega)
 have e4:iandn .u64 (a:Int) (((2 ^ 48-1)*2 ^ 16:Nat):Int)=((a%65536:Nat):Int):=by
  unfold iandn
  show IntKind.u64.wrap ((BitVec.ofInt 64 (a:Int) &&& ~~~ BitVec.ofInt 64 (((2 ^ 48-1)*2 ^ 16:Nat):Int)).toNat:Int)=_
  have q:(~~~ BitVec.ofInt 64 (((2 ^ 48-1)*2 ^ 16:Nat):Int))=BitVec.ofNat 64 65535:=by decide
  rw[q,wd,BitVec.toNat_and,BitVec.toNat_ofNat,BitVec.toNat_ofNat,Nat.mod_eq_of_lt (by omega),Nat.mod_eq_of_lt (by decide)]
  have:a &&& 65535=a%65536:=Nat.and_two_pow_sub_one_eq_mod a 16
  rw[this]
  exact wu64 (by omega) (by omega)
 rw[hM,e1,e2,e3,e4,fO (by omega) (by omega),zlH (by omega),zih,zih]
 omega
theorem zot {c:Int} (h:W64 c):iand .u64 c 63=c%64:=by
 obtain⟨m,rfl⟩:∃ m:Nat,c=m:=⟨c.toNat,by omega⟩
 have:=yr (a:=m) (b:=63) (by omega) (by decide)
 have e:m &&& 63=m%64:=Nat.and_two_pow_sub_one_eq_mod m 6
 rw[e] at this
 exact this
theorem zlp {s t:Seat} {n v:Int} (h:setR s n v=some t):t.st=s.st∧t.R=s.R:=by
 unfold setR at h
 repeat' split at h
 all_goals first | (cases h;exact⟨rfl,rfl⟩) | cases h
theorem zjl {s:Seat} (h:s.R.length=16) (i v:Int):(s.setr i v).R.length=16:=by simp[Seat.setr,h]
end Go.Cr
namespace Go.Proofs.YthaiblbnpcgjpaaGreatDoor
open Go Go.Pt Go.Cr
section
variable {bus:Value} {I:Mem→Rho→GM→Prop} {R:Nat→Prop} {S:Mem} {ρ:Rho} {g:GM} {b o:Nat} {s:Seat} {time me:Int}
theorem zoN {w v:Int} (hw:W64 w) (hv:W64 v) {Q:Int→Mem→Prop} (hQ:Q (x64 (w%65536+x64 (v*65536))) S):yc S w 16 48 v Q:=by
 apply gu
 unfold ve
 simp only[jn]
 rw[if_neg (by decide),if_neg (by decide),if_neg (by decide),if_pos (by decide)]
 refine⟨by decide,by decide,by decide,?_⟩
 rw[zqr hw hv];exact hQ
theorem taken14 {x y:Int} {Q:Bool→Mem→Prop} (hQ:Q (decide (x=y)) S):fU S 14 x y Q:=by
 apply zbi
 unfold jr
 simp only[jn]
 rw[if_pos trivial];exact hQ
theorem taken15 {x y:Int} {Q:Bool→Mem→Prop} (hQ:Q (decide (x≠y)) S):fU S 15 x y Q:=by
 apply zbi
 unfold jr
 simp only[jn]
 rw[if_neg (by decide),if_pos trivial];exact hQ
theorem taken16 {x y:Int} {Q:Bool→Mem→Prop} (hQ:Q (decide (IntKind.i64.wrap x<IntKind.i64.wrap y)) S):fU S 16 x y Q:=by
 apply zbi
 unfold jr
 simp only[jn]
 rw[if_neg (by decide),if_neg (by decide)];exact hQ
theorem zmM {k x y:Int} (hy:W64 y) {Q:Int→Mem→Prop} (hQ:Q (sumM k x y) S):zgV S k x y Q:=by
 apply zlj
 unfold zfr
 simp only[jn,zot hy]
 unfold sumM x64 at hQ
 by_cases h3:k=3
 ·rw[if_pos h3] at hQ ⊢;exact hQ
 rw[if_neg h3] at hQ ⊢
 by_cases h4:k=4
 ·rw[if_pos h4] at hQ ⊢;exact hQ
 rw[if_neg h4] at hQ ⊢
 by_cases h5:k=5
 ·rw[if_pos h5] at hQ ⊢;exact hQ
 rw[if_neg h5] at hQ ⊢
 by_cases h6:k=6
 ·rw[if_pos h6] at hQ ⊢;exact hQ
 rw[if_neg h6] at hQ ⊢
 by_cases h7:k=7
 ·rw[if_pos h7] at hQ ⊢;exact hQ
 rw[if_neg h7] at hQ ⊢
 by_cases h8:k=8
 ·rw[if_pos h8] at hQ ⊢;exact hQ
 rw[if_neg h8] at hQ ⊢
 by_cases h9:k=9
 ·rw[if_pos h9] at hQ ⊢;exact⟨by omega,hQ⟩
 rw[if_neg h9] at hQ ⊢
 exact⟨by omega,hQ⟩
theorem zhP {f:Bool} {Q:Int→Mem→Prop} (hQ:Q (if f=true then 1 else 0) S):zcg S f Q:=by
 apply zim
 unfold zbz
 cases f with
 | true=>simpa using hQ
 | false=>simpa using hQ
theorem znv (hs:s.Ok) {n:Int} (hn:0≤n∧n<9) (hme:0≤me∧me≤2) {Q:Int→Bool→Mem→Prop} (hQ:Q (getR s time me n) true S):zgy S s.L n time me Q:=by
 have hl:=hs.len
 have hm:=hs.mask
 apply zjY
 unfold zdn
 refine⟨Seat.L_len hl,?_⟩
 simp only[jn]
 rw[zx (Seat.g17 hl),zx (Seat.g18 hl),zx (Seat.g19 hl),zx (Seat.g20 hl),zx (Seat.g21 hl),zx (Seat.g25 hl),fo (Seat.g22 hl),wu64 (x:=s.mask) (by omega) (by omega),wu64 (x:=me) (by omega) (by omega)]
 unfold getR at hQ
 have:n=0∨n=1∨n=2∨n=3∨n=4∨n=5∨n=6∨n=7∨n=8:=by omega
 rcases this with rfl | rfl | rfl | rfl | rfl | rfl | rfl | rfl | rfl <;> simp only[Int.reduceEq,if_true,if_false] at hQ ⊢
 ·exact hQ
 ·exact hQ
 ·exact hQ
 ·exact hQ
 ·exact hQ
 ·exact hQ
 ·exact zhP hQ
 ·exact hQ
 ·exact hQ
theorem set_spec (hA:At S b o s.L) (hs:s.Ok) {n v:Int} (hn:0≤n∧n<9) (hv:W64 v) {Q:Bool→Mem→Prop} (hQ:match setR s n v with | some t=>Q true (S.put b o t.L) | none=>Q false S):zgx S (some (b,o)) n v Q:=by
 have hl:=hs.len
 obtain⟨m,hm⟩:∃ m:Nat,v=m:=⟨v.toNat,by omega⟩
 have a1:iand .u64 v 255=v%256:=by
  have:=yr (a:=m) (b:=255) (by omega) (by decide)
  have e:m &&& 255=m%256:=Nat.and_two_pow_sub_one_eq_mod m 8
  rw[e] at this
  rw[hm];exact this
 have a2:iand .u64 v 1=v%2:=by
  have:=yr (a:=m) (b:=1) (by omega) (by decide)
  rw[Nat.and_one_is_mod] at this
  rw[hm];exact this
 apply zjW
 unfold zdl
 simp only[jn,reduceCtorEq,if_false]
 simp only[zL,a1,a2]
 rw[wu32 (x:=v%256) (by omega) (by omega)]
 unfold setR at hQ
 have:n=0∨n=1∨n=2∨n=3∨n=4∨n=5∨n=6∨n=7∨n=8:=by omega
 rcases this with rfl | rfl | rfl | rfl | rfl | rfl | rfl | rfl | rfl <;> simp only[Int.reduceEq,if_true,if_false,reduceIte] at hQ ⊢
 ·exact hA.pt1 hl (by decide) (Seat.s17 hl v) hQ
 ·exact hA.pt1 hl (by decide) (Seat.s18 hl v) hQ
 ·exact hA.pt1 hl (by decide) (Seat.s19 hl v) hQ
 ·exact hA.pt1 hl (by decide) (Seat.s20 hl v) hQ
 ·exact hA.pt1 hl (by decide) (Seat.s21 hl v) hQ
 ·exact hA.pt1 hl (by decide) (Seat.s25 hl _) hQ
 ·exact hA.pt1 hl (by decide) (Seat.s22 hl _) hQ
 ·exact hQ
 ·exact hQ
end
open Go Go.Pt Go.Cr
section
variable {bus:Value} {I:Mem→Rho→GM→Prop} {R:Nat→Prop} {S:Mem} {ρ:Rho} {g:GM} {b o:Nat} {s:Seat} {time me:Int}
set_option maxHeartbeats 1000000 in
theorem zpb (hB:Bus bus I R) (hx:Cx I R S ρ g b o s) (hs:s.Ok) {k x y z n:Int} (hbd:Bd k x y z n) (hrt:Rt k x y z n) (hst:s.st=0) (ht:W64 time) (hme:0≤me∧me≤2) {Q:List Value→Mem→Prop}
  (hQ:∀ S1 ρ1,Mv S ρ S1 ρ1 R→I S1 ρ1 (doM s g time me k x y z n).g→At S1 b o s.L→Q (exL (doM s g time me k x y z n).k (doM s g time me k x y z n).n) (S1.put b o (doM s g time me k x y z n).s.L)):zdd S (cL b o bus time me) (opL k x y z n) Q:=by
 have hl:=hs.len
 have hA:=hx.at_
 have hp:Pl S b o:=Pl.of hA hl
 have m0:Mv S ρ S ρ R:=Mv.refl (hB.rg hx.i)
 have c0:nthL (cL b o bus time me) 0=some (eP (some (b,o))):=rfl
 have c2:nthL (cL b o bus time me) 2=some (.int .u64 time):=rfl
 have c3:nthL (cL b o bus time me) 3=some (.int .i64 me):=rfl
 have g0:nthL (opL k x y z n) 0=some (.int .u8 k):=rfl
 have g1:nthL (opL k x y z n) 1=some (.int .u8 x):=rfl
 have g2:nthL (opL k x y z n) 2=some (.int .u8 y):=rfl
 have g3:nthL (opL k x y z n) 3=some (.int .u8 z):=rfl
 have g4:nthL (opL k x y z n) 4=some (.int .i16 n):=rfl
 have hk0:=hbd.kk
 have hx0:=hbd.aa
 have hy0:=hbd.bb
 have hz0:=hbd.cc
 have hn0:=hbd.nn
 have hk:=hrt.kk
 have hxr:=hrt.aa
 have hyr:=hrt.bb
 have hzr:=hrt.cc
 have hrw:=hrt.rw
 unfold regR at hxr hyr hzr
 have hx16:x<16:=by omega
 have hy16:y<16:=by omega
 have hz16:z<16:=by omega
 have cr:∀ {i:Int},0≤i→i<16→S.cell b (o+i.toNat)=some (.int .u64 (s.r i)):=fun {i} h0 h1=>(hx.cell hl (by omega)).trans (Seat.L_r hl (by omega))
 have e64:IntKind.i64.wrap n=n:=w64 (by omega) (by omega)
 apply zhk
 unfold zaf
 refine⟨rfl,rfl,?_⟩
 rw[zS c0,zx g4]
 simp only[Nat.mul_one,e64]
 rw[zL,zx ((hx.cell hl (by decide)).trans (Seat.g16 hl)),zx g1]
 refine⟨hx0.1,hx16,?_⟩
 rw[zx (cr hx0.1 hx16),zx g2]
 refine⟨hy0.1,hy16,?_⟩
 rw[zx (cr hy0.1 hy16)]
 refine zZ (fun J=>∀ S1 (t:Seat) pc v,Pl S1 b o→t.R.length=16→v.length=2→Q (exL 0 0) (S1.put b o ({ t with pc:=pc }:Seat).L)→J pc v (S1.put b o t.L)) ?_ fun J hJ=>?_
 ·intro S1 t pc v hp1 hl1 hv hq
  exact⟨hv,hp1.pt (s:=t) hl1 (by decide) (Seat.s16 hl1 pc) hq⟩
 have hJ0:∀ {S1:Mem} (pc:Int) (v:List Value),At S1 b o s.L→v.length=2→Q (exL 0 0) (S1.put b o ({ s with pc:=pc }:Seat).L)→J pc v S1:=fun {S1} pc v hA1 hv hq=>by
  have:=hJ S1 s pc v (Pl.of hA1 hl) hl hv hq
  rw[hA1.self] at this;exact this
 have hJr:∀ (u pc:Int) (v:List Value),v.length=2→Q (exL 0 0) (S.put b o ({ s.setr x u with pc:=pc }:Seat).L)→Go.Pt.pt S b (o+x.toNat) 1 [.int .u64 u] fun Sx=>J pc v Sx:=fun u pc v hv hq=>
  hA.pt1 hl (by omega) (Seat.set_r hl (by omega) u) (hJ S (s.setr x u) pc v hp (zjl hl x u) hv hq)
 have hq0:=hQ S ρ m0
 rw[zx g0]
 have hwN:W64 (x64 n):=wU n
 have hwy:W64 (s.r y):=Seat.r_w hs y
 have hwx:W64 (s.r x):=Seat.r_w hs x
 have hkk:k=0∨k=1∨k=2∨k=3∨k=4∨k=5∨k=6∨k=7∨k=8∨k=9∨k=10∨k=11∨k=12∨k=13∨k=14∨k=15∨k=16∨k=17∨k=18∨k=19∨k=20∨k=21∨k=22:=by omega
 have ar:(3≤k∧k≤10)→(gI (nthL (opL k x y z n) 1) .u8 fun t_37=>gI (nthL (opL k x y z n) 3) .u8 fun t_39=>0≤t_39∧t_39<16∧gI (S.cell b (o+t_39.toNat)) .u64 fun t_40=>zgV S k (s.r y) t_40 fun t_41 Sx_23=>0≤t_37∧t_37<16∧Go.Pt.pt Sx_23 b (o+t_37.toNat) 1 [.int .u64 t_41] fun Sx_24=>J (IntKind.u64.wrap (s.pc+4)) [.int .u8 0,.int .u64 0] Sx_24):=fun hk=>by
  rw[zx g1,zx g3]
  refine⟨hz0.1,hz16,?_⟩
  rw[zx (cr hz0.1 hz16)]
  refine zmM (Seat.r_w hs z) ⟨hx0.1,hx16,?_⟩
  refine hJr _ _ _ rfl ?_
  have:doM s g time me k x y z n=⟨{ s.setr x (sumM k (s.r y) (s.r z)) with pc:=x64 (s.pc+4) },0,0,g⟩:=by
   unfold doM
   simp only
   repeat rw[if_neg (by omega)]
   rw[if_pos (by omega)]
  rw[this] at hq0
  exact hq0 hx.i hA
 have hres:∀ c u:Int,(exL c u).all (·.oneCell')=true:=fun _ _=>rfl
 rcases hkk with rfl | rfl | rfl | rfl | rfl | rfl | rfl | rfl | rfl | rfl | rfl | rfl | rfl | rfl | rfl | rfl | rfl | rfl | rfl | rfl | rfl | rfl | rfl <;> simp only[Int.reduceEq,reduceIte,jn,zx g0,Int.reduceLE,Bool.false_eq_true]
 ·exact hJ0 _ _ hA rfl (hq0 hx.i hA)
 ·rw[zx g1]
  exact⟨hx0.1,hx16,hJr _ _ _ rfl (hq0 hx.i hA)⟩
 ·rw[zx g1]
  refine zoN hwx hwN ?_
  exact⟨hx0.1,hx16,hJr _ _ _ rfl (hq0 hx.i hA)⟩
 ·exact ar (by decide)
 ·exact ar (by decide)
 ·exact ar (by decide)
 ·exact ar (by decide)
 ·exact ar (by decide)
 ·exact ar (by decide)
 ·exact ar (by decide)
 ·exact ar (by decide)
 ·rw[zx g1]
  exact⟨hx0.1,hx16,hJr _ _ _ rfl (hq0 hx.i hA)⟩
 ·refine zfZ hB hx hs (wU _) (n:=8) (.inr rfl) fun S1 ρ1 hm hx1=>?_
  have hq:=hQ S1 ρ1 hm
  change I S1 ρ1 (match getW s g (x64 (s.r y+x64 n)) 8 with | some v=>(⟨{ s.setr x v with pc:=x64 (s.pc+4) },0,0,g⟩:Out) | none=>trapM s g 3 (x64 (s.r y+x64 n))).g→_→Q (exL (match getW s g (x64 (s.r y+x64 n)) 8 with | some v=>(⟨{ s.setr x v with pc:=x64 (s.pc+4) },0,0,g⟩:Out) | none=>trapM s g 3 (x64 (s.r y+x64 n))).k (match getW s g (x64 (s.r y+x64 n)) 8 with | some v=>(⟨{ s.setr x v with pc:=x64 (s.pc+4) },0,0,g⟩:Out) | none=>trapM s g 3 (x64 (s.r y+x64 n))).n) (S1.put b o (match getW s g (x64 (s.r y+x64 n)) 8 with | some v=>(⟨{ s.setr x v with pc:=x64 (s.pc+4) },0,0,g⟩:Out) | none=>trapM s g 3 (x64 (s.r y+x64 n))).s.L) at hq
  change match getW s g (x64 (s.r y+x64 n)) 8 with | some w=>_ | none=>_
  cases hg:getW s g (x64 (s.r y+x64 n)) 8 with
  | some v=>
   rw[hg] at hq
   dsimp only at hq ⊢
   rw[if_pos rfl,zx g1]
   exact⟨hx0.1,hx16,hx1.at_.pt1 hl (by omega) (Seat.set_r hl (by omega) v) (hJ S1 (s.setr x v) _ _ (Pl.of hx1.at_ hl) (zjl hl x v) rfl (hq hx1.i hx1.at_))⟩
  | none=>
   rw[hg] at hq
   dsimp only at hq ⊢
   intro u
   rw[if_neg (by decide)]
   exact kI hx1.at_ hl ⟨hres _ _,hq hx1.i hx1.at_⟩
 ·refine zkh hB hx hs (wU _) hwx fun S1 ρ1 hm=>?_
  have hq:=hQ S1 ρ1 hm
  change I S1 ρ1 (match putW s g (x64 (s.r y+x64 n)) (s.r x) with | some g'=>(⟨{ s with pc:=x64 (s.pc+4) },0,0,g'⟩:Out) | none=>trapM s g 4 (x64 (s.r y+x64 n))).g→_→Q (exL (match putW s g (x64 (s.r y+x64 n)) (s.r x) with | some g'=>(⟨{ s with pc:=x64 (s.pc+4) },0,0,g'⟩:Out) | none=>trapM s g 4 (x64 (s.r y+x64 n))).k (match putW s g (x64 (s.r y+x64 n)) (s.r x) with | some g'=>(⟨{ s with pc:=x64 (s.pc+4) },0,0,g'⟩:Out) | none=>trapM s g 4 (x64 (s.r y+x64 n))).n) (S1.put b o (match putW s g (x64 (s.r y+x64 n)) (s.r x) with | some g'=>(⟨{ s with pc:=x64 (s.pc+4) },0,0,g'⟩:Out) | none=>trapM s g 4 (x64 (s.r y+x64 n))).s.L) at hq
  change match putW s g (x64 (s.r y+x64 n)) (s.r x) with | some g'=>_ | none=>_
  cases hg:putW s g (x64 (s.r y+x64 n)) (s.r x) with
  | some g'=>
   rw[hg] at hq
   dsimp only at hq ⊢
   intro hx1
   rw[if_pos rfl]
   exact hJ0 _ _ hx1.at_ rfl (hq hx1.i hx1.at_)
  | none=>
   rw[hg] at hq
   dsimp only at hq ⊢
   intro hx1
   rw[if_neg (by decide)]
   exact kI hx1.at_ hl ⟨hres _ _,hq hx1.i hx1.at_⟩
 ·refine taken14 ?_
  have hq:=hq0 hx.i hA
  change Q (exL 0 0) (S.put b o ({ s with pc:=if s.r x=s.r y then x64 (s.pc+x64 (4*x64 n)) else x64 (s.pc+4) }:Seat).L) at hq
  by_cases he:s.r x=s.r y
  ·rw[if_pos he] at hq
   rw[decide_eq_true he,if_pos rfl,zx ((hx.cell hl (by decide)).trans (Seat.g16 hl))]
   exact hJ0 _ _ hA rfl hq
  ·rw[if_neg he] at hq
   rw[decide_eq_false he,if_neg (by decide)]
   exact hJ0 _ _ hA rfl hq
 ·refine taken15 ?_
  have hq:=hq0 hx.i hA
  change Q (exL 0 0) (S.put b o ({ s with pc:=if s.r x≠s.r y then x64 (s.pc+x64 (4*x64 n)) else x64 (s.pc+4) }:Seat).L) at hq
  by_cases he:s.r x≠s.r y
  ·rw[if_pos he] at hq
   rw[decide_eq_true he,if_pos rfl,zx ((hx.cell hl (by decide)).trans (Seat.g16 hl))]
   exact hJ0 _ _ hA rfl hq
  ·rw[if_neg he] at hq
   rw[decide_eq_false he,if_neg (by decide)]
   exact hJ0 _ _ hA rfl hq
 ·refine taken16 ?_
  have hq:=hq0 hx.i hA
  change Q (exL 0 0) (S.put b o ({ s with pc:=if IntKind.i64.wrap (s.r x)<IntKind.i64.wrap (s.r y) then x64 (s.pc+x64 (4*x64 n)) else x64 (s.pc+4) }:Seat).L) at hq
  by_cases he:IntKind.i64.wrap (s.r x)<IntKind.i64.wrap (s.r y)
  ·rw[if_pos he] at hq
   rw[decide_eq_true he,if_pos rfl,zx ((hx.cell hl (by decide)).trans (Seat.g16 hl))]
   exact hJ0 _ _ hA rfl hq
  ·rw[if_neg he] at hq
   rw[decide_eq_false he,if_neg (by decide)]
   exact hJ0 _ _ hA rfl hq
 ·rw[zx g1]
  exact⟨hx0.1,hx16,hJr _ _ _ rfl (hq0 hx.i hA)⟩
 ·have h9:=hrw (.inl rfl)
  have hall:=hA.all
  rw[Seat.L_len hl] at hall
  rw[zx g1,xa hall,zx g4,e64,zx c2,zx c3]
  refine znv hs h9 hme ?_
  exact⟨hx0.1,hx16,hJr _ _ _ rfl (hq0 hx.i hA)⟩
 ·have h9:=hrw (.inr rfl)
  rw[zx g4,e64]
  refine set_spec hA hs h9 hwx ?_
  have hq:=hq0
  change I S ρ (match setR s n (s.r x) with | some t=>(⟨{ t with pc:=x64 (s.pc+4) },0,0,g⟩:Out) | none=>trapM s g 1 s.pc).g→_→Q (exL (match setR s n (s.r x) with | some t=>(⟨{ t with pc:=x64 (s.pc+4) },0,0,g⟩:Out) | none=>trapM s g 1 s.pc).k (match setR s n (s.r x) with | some t=>(⟨{ t with pc:=x64 (s.pc+4) },0,0,g⟩:Out) | none=>trapM s g 1 s.pc).n) (S.put b o (match setR s n (s.r x) with | some t=>(⟨{ t with pc:=x64 (s.pc+4) },0,0,g⟩:Out) | none=>trapM s g 1 s.pc).s.L) at hq
  cases hset:setR s n (s.r x) with
  | some t=>
   rw[hset] at hq
   dsimp only at hq ⊢
   have ht:t.st=s.st∧t.R=s.R:=zlp hset
   have hw:t.wake=t:=by unfold Seat.wake;rw[if_neg (fun h=>by have:=h.1;omega)]
   have hlt:t.R.length=16:=by rw[ht.2];exact hl
   rw[if_pos rfl]
   refine zhb hp hlt ?_
   rw[hw]
   exact hJ S t _ _ hp hlt rfl (hq hx.i hA)
  | none=>
   rw[hset] at hq
   dsimp only at hq ⊢
   rw[if_neg (by decide),zx ((hx.cell hl (by decide)).trans (Seat.g16 hl))]
   exact kI hA hl ⟨hres _ _,hq hx.i hA⟩
 ·exact hA.pt1 hl (by decide) (Seat.s16 hl _) (hq0 hx.i hA)
 ·refine hA.pt1 hl (by decide) (Seat.s16 hl _) ?_
  rw[zx ((hp.cell (s:={ s with pc:=IntKind.u64.wrap (s.pc+4) }) hl (by decide)).trans (Seat.g24 (s:={ s with pc:=IntKind.u64.wrap (s.pc+4) }) hl)),zx ((hp.cell (s:={ s with pc:=IntKind.u64.wrap (s.pc+4) }) hl (by decide)).trans (Seat.g25 (s:={ s with pc:=IntKind.u64.wrap (s.pc+4) }) hl))]
  have hq:=hq0
  change I S ρ (if s.may=0 then (⟨{ s with pc:=x64 (s.pc+4),st:=1 },3,0,g⟩:Out) else ⟨{ s with pc:=x64 (s.pc+4) },0,0,g⟩).g→_→Q (exL (if s.may=0 then (⟨{ s with pc:=x64 (s.pc+4),st:=1 },3,0,g⟩:Out) else ⟨{ s with pc:=x64 (s.pc+4) },0,0,g⟩).k (if s.may=0 then (⟨{ s with pc:=x64 (s.pc+4),st:=1 },3,0,g⟩:Out) else ⟨{ s with pc:=x64 (s.pc+4) },0,0,g⟩).n) (S.put b o (if s.may=0 then (⟨{ s with pc:=x64 (s.pc+4),st:=1 },3,0,g⟩:Out) else ⟨{ s with pc:=x64 (s.pc+4) },0,0,g⟩).s.L) at hq
  by_cases hmay:s.may=0
  ·rw[if_pos hmay] at hq
   rw[if_pos (show iand .u32 s.pend s.mask=0 from hmay)]
   exact hp.pt (s:={ s with pc:=IntKind.u64.wrap (s.pc+4) }) hl (by decide) (Seat.s23 (s:={ s with pc:=IntKind.u64.wrap (s.pc+4) }) hl _) (hq hx.i hA)
  ·rw[if_neg hmay] at hq
   rw[if_neg (show ¬iand .u32 s.pend s.mask=0 from hmay)]
   exact hq hx.i hA
 ·have h:=zmx hp hl (Q:=fun Sx=>Q [.int .u8 0,.int .u64 0] Sx) (hq0 hx.i hA)
  rw[hA.self] at h
  exact h
end
end Go.Proofs.YthaiblbnpcgjpaaGreatDoor
end
section
namespace Go.Cr
open Go Go.Pt Go.Lib
def C64:Nat:=11400714819323198485
def mixN (x:Nat):Int:=ixor .u64 ((x*C64/18446744073709551616*131072%18446744073709551616+x*C64/18446744073709551616/140737488355328:Nat):Int) ((x*C64%18446744073709551616:Nat):Int)
def mixM (sum w:Int):Int:=mixN (ixor .u64 sum w).toNat
theorem zjJ {a b:Nat} (ha:a<18446744073709551616) (hb:b<18446744073709551616):ixor .u64 a b=((a ^^^ b:Nat):Int):=by
 unfold ixor
 show IntKind.u64.wrap ((BitVec.ofInt 64 (a:Int) ^^^ BitVec.ofInt 64 (b:Int)).toNat:Int)=_
 rw[wd,wd,BitVec.toNat_xor,BitVec.toNat_ofNat,BitVec.toNat_ofNat,Nat.mod_eq_of_lt ha,Nat.mod_eq_of_lt hb]
 have:a ^^^ b<2 ^ 64:=Nat.xor_lt_two_pow (by omega) (by omega)
 exact wu64 (by omega) (by omega)
theorem zmb {a b:Int} (ha:W64 a) (hb:W64 b):∃ m:Nat,ixor .u64 a b=m∧m<18446744073709551616:=by
 obtain⟨x,rfl⟩:∃ m:Nat,a=m:=⟨a.toNat,by omega⟩
 obtain⟨y,rfl⟩:∃ m:Nat,b=m:=⟨b.toNat,by omega⟩
 refine⟨x ^^^ y,zjJ (by omega) (by omega),?_⟩
 have:x ^^^ y<2 ^ 64:=Nat.xor_lt_two_pow (by omega) (by omega)
 omega
end Go.Cr
namespace Go.Proofs.YthaiblbnpcgjpaaGreatDoor
open Go Go.Pt Go.Cr Go.Lib
section
variable {S:Mem}
theorem znj {x y:Nat} (hx:x<18446744073709551616) (hy:y<18446744073709551616) {Q:Int→Int→Mem→Prop} (hQ:Q ((x*y/18446744073709551616:Nat):Int) ((x*y%18446744073709551616:Nat):Int) S):zdi S x y Q:=by
 apply zhm
 unfold zah
 obtain⟨bd,bt,bw,hhi⟩:=mul64_hi x y hx hy
 have ba:=half_mul_le (a:=x/4294967296) (b:=y/4294967296) (by omega) (by omega)
 have sx:ishr .u64 (x:Int) 32=((x/4294967296:Nat):Int):=kz (a:=x) (s:=32) (by decide)
 have sy:ishr .u64 (y:Int) 32=((y/4294967296:Nat):Int):=kz (a:=y) (s:=32) (by decide)
 have mk:∀ a:Nat,a<18446744073709551616→iand .u64 (a:Int) 4294967295=((a%4294967296:Nat):Int):=fun a h=>by
  have:=yr (a:=a) (b:=4294967295) h (by decide)
  have e:a &&& 4294967295=a%4294967296:=Nat.and_two_pow_sub_one_eq_mod a 32
  rw[e] at this;exact this
 have sr:∀ a:Nat,ishr .u64 (a:Int) 32=((a/4294967296:Nat):Int):=fun a=>kz (a:=a) (s:=32) (by decide)
 have wn:∀ a:Nat,a<18446744073709551616→IntKind.u64.wrap (a:Int)=(a:Int):=fun a h=>wu64 (by omega) (by omega)
 have wm:IntKind.u64.wrap ((x:Int)*y)=((x*y%18446744073709551616:Nat):Int):=by
  rw[←Int.natCast_mul,IntKind.wrap_u64];omega
 rw[sx,sy,mk x hx,mk y hy,wm]
 simp only[←Int.natCast_mul]
 generalize hp:x/4294967296*(y/4294967296)=p at *
 generalize hq:x/4294967296*(y%4294967296)=q at *
 generalize hr:x%4294967296*(y/4294967296)=r at *
 generalize ht:x%4294967296*(y%4294967296)=t at *
 rw[wn t (by omega),sr t,wn q (by omega),←Int.natCast_add,wn (q+t/4294967296) (by omega),sr,mk _ (by omega),wn r (by omega),←Int.natCast_add,wn ((q+t/4294967296)%4294967296+r) (by omega),sr,wn p (by omega),←Int.natCast_add,wn (p+(q+t/4294967296)/4294967296) (by omega),←Int.natCast_add,wn _ (by omega),hhi]
 exact hQ
theorem zmT {x:Nat} (hx:x<18446744073709551616) {Q:Int→Mem→Prop} (hQ:Q ((x*131072%18446744073709551616+x/140737488355328:Nat):Int) S):vd S x 17 Q:=by
 apply zbj
 unfold xS
 have e1:iand .u64 (IntKind.u64.wrap 17) 63=17:=by decide
 have e2:IntKind.u64.wrap (64-17)=47:=by decide
 rw[e1,e2]
 refine⟨by decide,by decide,?_⟩
 have e3:ishl .u64 (x:Int) 17=((x%140737488355328*2 ^ 17:Nat):Int):=by
  unfold ishl
  show IntKind.u64.wrap ((x:Int)*131072)=_
  rw[IntKind.wrap_u64];omega
 have e4:ishr .u64 (x:Int) 47=((x/140737488355328:Nat):Int):=kz (a:=x) (s:=47) (by decide)
 rw[e3,e4,fO (by omega) (by omega),zaU (by omega)]
 have:x%140737488355328*2 ^ 17=x*131072%18446744073709551616:=by omega
 rw[this];exact hQ
theorem znk {sum w:Int} (hs:W64 sum) (hw:W64 w) {Q:Int→Mem→Prop} (hQ:Q (mixM sum w) S):zec S sum w Q:=by
 apply zjU
 unfold zdj
 obtain⟨m,e,hm⟩:=zmb hs hw
 unfold mixM at hQ
 rw[e,Int.toNat_natCast] at hQ
 unfold mixN at hQ
 rw[e]
 refine znj (y:=C64) hm (by decide) ?_
 refine zmT (Nat.div_lt_of_lt_mul (Nat.mul_lt_mul_of_lt_of_le hm (by decide) (by decide))) ?_
 exact hQ
theorem zrj {sum w:Int} (hs:W64 sum) (hw:W64 w):W64 (mixM sum w):=by
 obtain⟨m,e,hm⟩:=zmb hs hw
 unfold mixM
 rw[e,Int.toNat_natCast]
 unfold mixN
 have hh:m*C64/18446744073709551616<18446744073709551616:=Nat.div_lt_of_lt_mul (Nat.mul_lt_mul_of_lt_of_le hm (by decide) (by decide))
 generalize m*C64/18446744073709551616=h at *
 have hl:m*C64%18446744073709551616<18446744073709551616:=Nat.mod_lt _ (by decide)
 generalize m*C64%18446744073709551616=lo at *
 obtain⟨z,ez,hz⟩:=zmb (a:=((h*131072%18446744073709551616+h/140737488355328:Nat):Int)) (b:=(lo:Int)) ⟨by omega,by omega⟩ ⟨by omega,by omega⟩
 rw[ez];exact⟨by omega,by omega⟩
end
end Go.Proofs.YthaiblbnpcgjpaaGreatDoor
end
section
namespace Go.Cr
open Go Go.Pt
def Seat.words (s:Seat):List Int:=s.R++[s.pc,s.base,s.vec,s.epc,s.cause,s.addr,(if s.opn=true then 1 else 0),s.st,s.pend,s.mask]
def Seat.sum (s:Seat):Int:=s.words.foldl mixM 0
theorem Seat.words_w {s:Seat} (h:s.Ok):∀ x∈s.words,W64 x:=by
 intro x hx
 have h1:=h.st
 have h2:=h.pend
 have h3:=h.mask
 unfold Seat.words at hx
 rcases List.mem_append.1 hx with hx | hx
 ·exact h.r x hx
 ·simp only[List.mem_cons,List.not_mem_nil,or_false] at hx
  rcases hx with rfl | rfl | rfl | rfl | rfl | rfl | rfl | rfl | rfl | rfl
  ·exact h.pc
  ·exact h.base
  ·exact h.vec
  ·exact h.epc
  ·exact h.cause
  ·exact h.addr
  ·split <;> exact⟨by decide,by decide⟩
  ·exact⟨by omega,by omega⟩
  ·exact⟨by omega,by omega⟩
  ·exact⟨by omega,by omega⟩
theorem Seat.words_len {s:Seat} (h:s.R.length=16):s.words.length=26:=by simp[Seat.words,h]
end Go.Cr
namespace Go.Proofs.YthaiblbnpcgjpaaGreatDoor
open Go Go.Pt Go.Cr
section
variable {S:Mem} {s:Seat}
end
end Go.Proofs.YthaiblbnpcgjpaaGreatDoor
end
namespace Go.Proofs.YthaiblbnpcgjpaaGreatDoor
section
open Go Go.Pt Go.Cr
section
variable {S:Mem} {s:Seat}
theorem zlE (ho:s.Ok) {Q:Sl→Mem→Prop} (hQ:∀ t S',Keeps S S' []→Row S' 1 t (s.words.map (Value.int .u64))→Q t S'):zeM S s.L Q:=by
 have hs:=ho.len
 have h1:=ho.st
 have h2:=ho.pend
 have h3:=ho.mask
 apply zio
 unfold zbB
 refine⟨Seat.L_len hs,?_⟩
 intro b hb
 have hsb:(S.set b (bw 66 s.L)) b=some (bw 66 s.L):=zz
 have hk0:Keeps S (S.set b (bw 66 s.L)) []:=Keeps.refl.fresh hb
 have hpart:(S.set b (bw 66 s.L)).part b 0 (16*1)=some (s.R.map (Value.int .u64)):=by
  rw[yp hsb,qA (by show 0+16*1≤s.L.length;rw[Seat.L_len hs];decide)]
  show some ((s.L.drop 0).take 16)=_
  rw[List.drop_zero]
  unfold Seat.L
  rw[List.take_left' (by simpa using hs)]
 refine⟨s.R.map (Value.int .u64),.inr ⟨b,0,rfl,hpart⟩,by rw[List.all_map];exact List.all_eq_true.2 fun _ _=>rfl,?_⟩
 refine wS Row.nil (by simpa using hs) (by decide) rfl (by decide) fun t S1 c kb e1 e2 e3 e4 e5=>?_
 have hc:(S.set b (bw 66 s.L)) c=none:=by
  rcases e3 with e3 | e3
  ·cases e3
  ·exact e3
 have hcb:c≠b:=fun h=>by rw[h,hsb] at hc;cases hc
 have hk1:Keeps S S1 []:=by rw[e4];exact hk0.trans (Keeps.refl.fresh hc)
 have hS1b:S1 b=some (bw 66 s.L):=by rw[e4,zO hcb.symm];exact hsb
 have hcell:∀ i,S1.cell b i=nthL s.L i:=fun i=>by rw[qj hS1b]
 rw[zx ((hcell 16).trans (Seat.g16 hs)),zx ((hcell 17).trans (Seat.g17 hs)),zx ((hcell 18).trans (Seat.g18 hs)),zx ((hcell 19).trans (Seat.g19 hs)),zx ((hcell 20).trans (Seat.g20 hs)),zx ((hcell 21).trans (Seat.g21 hs)),fo ((hcell 22).trans (Seat.g22 hs)),zx ((hcell 23).trans (Seat.g23 hs)),zx ((hcell 24).trans (Seat.g24 hs)),zx ((hcell 25).trans (Seat.g25 hs))]
 refine zhP ?_
 refine⟨(hcell 25).trans (Seat.g25 hs),(hcell 24).trans (Seat.g24 hs),(hcell 23).trans (Seat.g23 hs),(hcell 21).trans (Seat.g21 hs),(hcell 20).trans (Seat.g20 hs),(hcell 19).trans (Seat.g19 hs),(hcell 18).trans (Seat.g18 hs),(hcell 17).trans (Seat.g17 hs),(hcell 16).trans (Seat.g16 hs),?_⟩
 rw[wu64 (x:=s.st) (by omega) (by omega),wu64 (x:=s.pend) (by omega) (by omega),wu64 (x:=s.mask) (by omega) (by omega)]
 have htn:t.n=16:=by rw[e1]
 refine wS e5 rfl (by decide) rfl (by omega) fun t2 S2 c2 kb2 f1 f2 f3 f4 f5=>?_
 have hc2:c2≠b∧Keeps S S2 []:=by
  rcases f3 with f3 | f3
  ·rw[e2] at f3;cases f3
   have hSc:S c=none:=by rw[zO hcb] at hc;exact hc
   exact⟨hcb,by rw[f4];exact hk1.fresh hSc⟩
  ·refine⟨fun h=>(by rw[h,hS1b] at f3;cases f3),?_⟩
   have hSc:S c2=none:=by
    cases hS:S c2 with
    | none=>rfl
    | some kk=>have:=hk1.get hS (by simp);rw[f3] at this;cases this
   rw[f4];exact hk1.fresh hSc
 have hS2b:S2 b=some (bw 66 s.L):=by rw[f4,zO hc2.1.symm];exact hS1b
 have hcell2:∀ i,S2.cell b i=nthL s.L i:=fun i=>by rw[qj hS2b]
 refine⟨(hcell2 25).trans (Seat.g25 hs),(hcell2 24).trans (Seat.g24 hs),(hcell2 23).trans (Seat.g23 hs),hQ t2 S2 hc2.2 ?_⟩
 have:s.words.map (Value.int .u64)=[]++s.R.map (Value.int .u64)++[.int .u64 s.pc,.int .u64 s.base,.int .u64 s.vec,.int .u64 s.epc,.int .u64 s.cause,.int .u64 s.addr,.int .u64 (if s.opn=true then 1 else 0),.int .u64 s.st,.int .u64 s.pend,.int .u64 s.mask]:=by
  unfold Seat.words;rw[List.map_append];rfl
 rw[this];exact f5
theorem zmc {t:Sl} {xs:List Int} (hw:∀ x∈xs,W64 x) (hrow:Row S 1 t (xs.map (Value.int .u64))) (hn:xs.length≤1000) {Q:Int→Mem→Prop} (hQ:Q (xs.foldl mixM 0) S) :
  (lp (fun Xx (z:Int×Int) (Sx_2:Mem)=>match z with
   | (n_1,i)=>if i<(t.n:Int) then sl t fun b_1 o n_2 _=>0≤i∧i<((n_2:Nat):Int)∧gI (Sx_2.cell b_1 (o+i.toNat*1)) .u64 fun t_1=>zec Sx_2 n_1 t_1 fun t_2 Sx_4=>Xx (t_2,IntKind.i64.wrap (i+1)) Sx_4 else Q n_1 Sx_2) (0,0) S):=by
 have hlen:t.n=xs.length:=by have:=hrow.len;simp only[List.length_map,Nat.mul_one] at this;exact this.symm
 refine zC (fun (z:Int×Int) S'=>∃ i:Nat,z=((xs.take i).foldl mixM 0,(i:Int))∧i≤xs.length∧S'=S∧W64 ((xs.take i).foldl mixM 0)) (fun z=>xs.length-z.2.toNat) ?_ ⟨0,rfl,by omega,rfl,by rw[List.take_zero];exact⟨by decide,by decide⟩⟩
 rintro X z S' ⟨i,rfl,hi,rfl,hacc⟩ ih
 dsimp only at ih ⊢
 by_cases hlt:(i:Int)<(t.n:Int)
 ·rw[if_pos hlt]
  have hil:i<xs.length:=by omega
  rcases hrow.lie with ⟨_,h2⟩ | ⟨b,k,h1,h2,_,h4,h5⟩
  ·have:=hrow.cap;omega
  obtain⟨tp,tn,tc⟩:=t
  simp only at h1 hlen hlt h4 h5
  subst h1
  rw[fi]
  have hc:S'.cell b i=some (.int .u64 xs[i]):=by
   rw[qj h2,zI]
   have:(k.cs.take (tn*1))[i]? = some (.int .u64 xs[i]):=by rw[h5];simp[List.getElem?_eq_getElem hil]
   rw[List.getElem?_take,if_pos (by omega)] at this
   exact this
  refine⟨by omega,hlt,?_⟩
  rw[show 0+(i:Int).toNat*1=i by omega,zx hc]
  have hx:=hw _ (List.getElem_mem hil)
  refine znk hacc hx ?_
  rw[w64 (by omega) (by omega)]
  have e:(xs.take (i+1)).foldl mixM 0=mixM ((xs.take i).foldl mixM 0) xs[i]:=by
   rw[List.take_succ_eq_append_getElem hil,List.foldl_append];rfl
  refine ih _ S' ⟨i+1,by rw[e];simp,by omega,rfl,by rw[e];exact zrj hacc hx⟩ (by dsimp only;omega)
 ·rw[if_neg hlt]
  have e:i=xs.length:=by omega
  subst e
  rw[List.take_length];exact hQ
theorem zlk (ho:s.Ok) {Q:Int→Mem→Prop} (hQ:∀ S',Keeps S S' []→Q s.sum S'):zgw S s.L Q:=by
 have hs:=ho.len
 apply zjV
 unfold zdk
 refine⟨Seat.L_len hs,?_⟩
 refine zlE ho fun t S' hk hrow=>?_
 exact zmc (Q:=fun n Sx=>Q n Sx) (Seat.words_w ho) hrow (by rw[Seat.words_len hs];decide) (hQ S' hk)
end
end
end Go.Proofs.YthaiblbnpcgjpaaGreatDoor
namespace Go.Cr
section
open Go Go.Pt
def upd {α:Type} (f:Nat→α) (i:Nat) (v:α):Nat→α:=fun x=>if x=i then v else f x
theorem zl {α:Type} {f:Nat→α} {i:Nat} {v:α}:upd f i v i=v:=by simp[upd]
theorem zh {α:Type} {f:Nat→α} {i j:Nat} {v:α} (h:j≠i):upd f i v j=f j:=by simp[upd,h]
theorem gq {α:Type} {f:Nat→α} {i:Nat} {v w:α}:upd (upd f i v) i w=upd f i w:=by
 funext x;simp only[upd];split <;> rfl
theorem xV {α:Type} {f:Nat→α} {i:Nat}:upd f i (f i)=f:=by
 funext x;simp only[upd];split
 ·rename_i h;rw[h]
 ·rfl
structure Ls where
 on:Bool
 fr:Nat
 pg:Nat
 to:Nat
 wr:Bool
 at_:Int
def Ls.setA (l:Ls) (a:Int):Ls:=⟨l.on,l.fr,l.pg,l.to,l.wr,a⟩
def ls0:Ls:=⟨false,0,0,0,false,0⟩
structure Evt where
 kind:Int
 seat:Int
 a:Int
 b:Int
structure Bv where
 on:Bool
 seats:List Seat
 quota:Int
 keys:List Int
 disk:Nat→List Int
 bells:Nat→Bool
def bv0:Bv:=⟨false,[],0,[],fun _=>[],fun _=>false⟩
structure Wd where
 free:Int
 vm:Nat→Bv
 time:Nat→Int
 own:Nat→Nat→Option (List Int)
 alarm:Nat→Nat→Option Int
 ls:Nat→Ls
 ev:Nat→List Evt
def W0 (free:Int):Wd:=⟨free,fun _=>bv0,fun _=>0,fun _ _=>none,fun _ _=>none,fun _=>ls0,fun _=>[]⟩
def Wd.there (W:Wd) (n:Int):Prop:=0≤n∧n<6∧(W.vm n.toNat).on=true
instance (W:Wd) (n:Int):Decidable (W.there n):=inferInstanceAs (Decidable (_∧_∧_))
def fit256 (l:List Int):List Int:=l.take 256++List.replicate (256-l.length) 0
theorem zkC (l:List Int):(fit256 l).length=256:=by simp[fit256];omega
def pageB (img:List Int) (i:Nat):List Int:=fit256 (img.drop (256*i))
def noughts:List Int:=List.replicate 256 0
theorem qX:noughts.length=256:=List.length_replicate
theorem zeU {x:Int} (h:x∈noughts):x=0:=List.eq_of_mem_replicate h
theorem xK {x:Int} (h:x∈noughts):0≤x∧x≤255:=by rw[zeU h];decide
theorem zkp:List.replicate 256 (0:Int)=noughts:=rfl
def firstOff (f:Nat→Bool) (n:Nat):Option Nat:=(List.range n).find? fun i=>! f i
def count (f:Nat→Bool) (n:Nat):Nat:=((List.range n).filter f).length
def Wd.pages (W:Wd) (n:Nat):Nat:=count (fun p=>(W.own n p).isSome) 32
def mkV (seats quota:Int):Bv:={ on:=true,seats:=List.replicate seats.toNat seat0,quota:=quota,keys:=[],disk:=fun _=>noughts,bells:=fun _=>false }
def Wd.create (W:Wd) (seats quota pages:Int) (img:List Int):Int×Int×Wd:=
 if seats<1∨3<seats∨quota<1∨32<quota∨pages<1∨quota<pages then (0,1,W)
 else if 256*pages<img.length then (0,6,W)
 else match firstOff (fun n=>(W.vm n).on) 6 with
  | none=>(0,2,W)
  | some n=>if W.free<5+pages then (0,3,W)
   else (n,0,{ W with free:=W.free-(5+pages),vm:=upd W.vm n (mkV seats quota),time:=upd W.time n 0,ev:=upd W.ev n [],own:=upd W.own n fun p=>if (p:Int)<pages then some (pageB img p) else none })
def Wd.destroy (W:Wd) (n:Int):Int×Wd:=
 if ¬W.there n then (2,W)
 else (0,{ W with free:=W.free+(5+W.pages n.toNat),vm:=fun i=>if i=n.toNat then bv0 else { W.vm i with bells:=upd (W.vm i).bells n.toNat false },own:=upd W.own n.toNat fun _=>none,alarm:=upd W.alarm n.toNat fun _=>none,ls:=fun i=>if (W.ls i).on=true∧((W.ls i).fr=n.toNat∨(W.ls i).to=n.toNat) then ls0 else W.ls i })
def Bv.ring (v:Bv) (n:Nat) (on:Bool):Bv:={ v with bells:=upd v.bells n on }
def Wd.setV (W:Wd) (n:Nat) (v:Bv):Wd:={ W with vm:=upd W.vm n v }
def Wd.join (W:Wd) (a b:Int) (on:Bool):Int×Wd:=
 if ¬W.there a∨¬W.there b then (2,W)
 else if a=b then (1,W)
 else (0,(W.setV a.toNat ((W.vm a.toNat).ring b.toNat on)).setV b.toNat ((W.vm b.toNat).ring a.toNat on))
def Bv.setSeat (v:Bv) (k:Nat) (s:Seat):Bv:={ v with seats:=v.seats.set k s }
def Seat.raise (s:Seat) (i:Nat):Seat:=if s.st=2 then s else Seat.wake { s with pend:=ior .u32 s.pend (2 ^ i) }
def Bv.seat (v:Bv) (k:Nat):Seat:=v.seats.getD k seat0
def Wd.raise (W:Wd) (n k i:Nat):Int×Wd:=
 if ((W.vm n).seat k).st=2 then (10,W) else (0,W.setV n ((W.vm n).setSeat k (((W.vm n).seat k).raise i)))
def Bv.setKeys (v:Bv) (l:List Int):Bv:={ v with keys:=l }
def Wd.key (W:Wd) (n b:Int):Int×Wd:=
 if ¬W.there n then (2,W)
 else if 64≤(W.vm n.toNat).keys.length then (3,W)
 else (0,((W.setV n.toNat ((W.vm n.toNat).setKeys ((W.vm n.toNat).keys++[b]))).raise n.toNat 0 6).2)
def dueA (al:Nat→Option Int) (time:Int) (k:Nat):Bool:=match al k with
 | some a=>decide (a≤time)
 | none=>false
def Wd.tick (W:Wd):Wd:=
 { W with time:=fun n=>W.time n+1,vm:=fun n=>{ W.vm n with seats:=(W.vm n).seats.mapIdx fun k s=>if dueA (W.alarm n) (W.time n+1) k=true then s.raise 7 else s },alarm:=fun n k=>if dueA (W.alarm n) (W.time n+1) k=true then none else W.alarm n k }
def Wd.tell (W:Wd) (n:Nat) (e:Evt):Wd:={ W with ev:=upd W.ev n (W.ev n++[e]) }
def leaseAt (ls:Nat→Ls) (n:Nat) (page:Int):Option Nat:=(List.range 16).find? fun i=>(ls i).on && (decide ((ls i).to=n) && decide ((ls i).at_=page))
def Wd.where_ (W:Wd) (n p:Nat):Option (Nat×Nat×Bool):=
 if (W.own n p).isSome then some (n,p,true)
 else (leaseAt W.ls n p).map fun i=>((W.ls i).fr,(W.ls i).pg,(W.ls i).wr)
def Wd.gm (W:Wd) (n:Nat):GM:=
 ⟨fun p=>if 32≤p then none else (W.where_ n p).map fun q=>(32*q.1+q.2.1,q.2.2),fun f=>(W.own (f/32) (f%32)).getD []⟩
def Wd.setDat (W:Wd) (d:Nat→List Int):Wd:={ W with own:=fun n p=>(W.own n p).map fun _=>d (32*n+p) }
def Wd.setO (W:Wd) (n p:Nat) (o:Option (List Int)):Wd:={ W with own:=upd W.own n (upd (W.own n) p o) }
def small (w:Int):Int:=if 65535<w then -1 else w
def Wd.mine (W:Wd) (n:Nat) (p:Int):Int:=
 if p<0∨31<p∨W.where_ n p.toNat=none then 11 else if (W.own n p.toNat).isSome=true then 0 else 7
def Wd.setL (W:Wd) (i:Nat) (l:Ls):Wd:={ W with ls:=upd W.ls i l }
def Wd.lease (W:Wd) (n:Nat) (c:Int) (i page:Int):Int×Wd:=
 if i<0∨15<i∨(W.ls i.toNat).on=false then (2,W)
 else if c<7∧(W.ls i.toNat).to≠n∨c=7∧(W.ls i.toNat).fr≠n then (7,W)
 else if c=6 then (if (W.ls i.toNat).at_<0 then (10,W) else (0,W.setL i.toNat ((W.ls i.toNat).setA (-1))))
 else if 0≤(W.ls i.toNat).at_ then (8,W)
 else if c=7 then (0,W.setL i.toNat ls0)
 else if page<0∨31<page then (1,W)
 else if W.where_ n page.toNat≠none then (8,W)
 else (0,W.setL i.toNat ((W.ls i.toNat).setA page))
def lentL (ls:Nat→Ls) (n:Nat) (p:Int):Bool:=(List.range 16).any fun i=>(ls i).on && (decide ((ls i).fr=n) && decide (((ls i).pg:Int)=p))
def Wd.ring (W:Wd) (n:Nat) (a b:Int):Int×Wd:=
 if ¬W.there a∨(W.vm n).bells a.toNat=false then (2,W)
 else if b<0∨7<b then (1,W)
 else W.raise a.toNat 0 b.toNat
def Wd.offer (W:Wd) (n:Nat) (p to:Int) (w:Bool):Int×Int×Wd:=
 if W.mine n p≠0 then (0,W.mine n p,W)
 else if ¬W.there to then (0,2,W)
 else if (n:Int)=to then (0,1,W)
 else match firstOff (fun i=>(W.ls i).on) 16 with
  | none=>(0,3,W)
  | some i=>(i,0,W.setL i ⟨true,n,p.toNat,to.toNat,w,-1⟩)
def Wd.give (W:Wd) (n:Nat) (p:Int):Int×Wd:=
 if W.mine n p≠0 then (W.mine n p,W)
 else if lentL W.ls n p=true then (8,W)
 else (0,{ W.setO n p.toNat none with free:=W.free+1 })
def Wd.get (W:Wd) (n:Nat) (p:Int):Int×Wd:=
 if p<0∨31<p then (1,W)
 else if W.where_ n p.toNat≠none then (8,W)
 else if (W.vm n).quota≤W.pages n then (9,W)
 else if W.free=0 then (3,W)
 else (0,{ W.setO n p.toNat (some noughts) with free:=W.free-1 })
def Wd.load (W:Wd) (n:Nat) (sec p:Int):Int×Wd:=
 if sec<0∨3<sec then (1,W)
 else if p<0∨31<p then (11,W)
 else match W.where_ n p.toNat with
  | some (m,q,true)=>(0,W.setO m q (some ((W.vm n).disk sec.toNat)))
  | _=>(11,W)
def Bv.setDisk (v:Bv) (k:Nat) (l:List Int):Bv:={ v with disk:=upd v.disk k l }
def Wd.save (W:Wd) (n:Nat) (sec p:Int):Int×Wd:=
 if sec<0∨3<sec then (1,W)
 else if p<0∨31<p then (11,W)
 else match W.where_ n p.toNat with
  | some (m,q,_)=>(0,W.setV n ((W.vm n).setDisk sec.toNat ((W.own m q).getD [])))
  | none=>(11,W)
def Wd.nextKey (W:Wd) (n:Nat):Int×Int×Wd:=match (W.vm n).keys with
 | []=>(0,2,W)
 | x :: l=>(x,0,W.setV n ((W.vm n).setKeys l))
def Wd.setAlarm (W:Wd) (n k:Nat) (w:Int):Wd:={ W with alarm:=upd W.alarm n (upd (W.alarm n) k (some w)) }
def Seat.die (s:Seat):Seat:={ s with st:=2 }
def Wd.call (W:Wd) (n k:Nat) (c w1 w2 w3:Int):Int×Int×Wd:=
 if c=0 then (0,0,W.tell n ⟨3,k,w1%256,0⟩)
 else if c=1 then W.nextKey n
 else if c=2 then ((0:Int),W.ring n (small w1) (small w2))
 else if c=3 then (0,0,W.setAlarm n k w1)
 else if c=4 then W.offer n (small w1) (small w2) (decide (w3≠0))
 else if 5≤c∧c≤7 then ((0:Int),W.lease n c (small w1) (small w2))
 else if c=8 then ((0:Int),W.give n (small w1))
 else if c=9 then ((0:Int),W.get n (small w1))
 else if c=10 then ((0:Int),W.load n (small w1) (small w2))
 else if c=11 then ((0:Int),W.save n (small w1) (small w2))
 else if c=12 then (n,0,W)
 else if c=13 then (0,0,W.setV n ((W.vm n).setSeat k ((W.vm n).seat k).die))
 else (0,1,W)
def told (x n:Int) (k:Int) (pc:Int) (s:Seat):Evt:=if x=1 then ⟨4,k,n,pc⟩ else if x=4 then ⟨5,k,n,pc⟩ else ⟨1,k,pc,s.sum⟩
def Seat.answer (s:Seat) (e v:Int):Seat:=(s.setr 0 e).setr 1 v
def Wd.putSeat (W:Wd) (n k:Nat) (s:Seat):Wd:=W.setV n ((W.vm n).setSeat k s)
def Wd.hyper (W:Wd) (n k:Nat) (c:Int) (s:Seat):Wd:=
 let r:=W.call n k c (s.r 1) (s.r 2) (s.r 3)
 (r.2.2.putSeat n k (((r.2.2.vm n).seat k).answer r.2.1 r.1)).tell n ⟨2,k,ior .u64 (x64 (c*256)) r.2.1,r.1⟩
def Wd.run (W:Wd) (n k:Int):Int×Wd:=
 if ¬W.there n∨k<0∨(W.vm n.toNat).seats.length≤k then (2,W)
 else
  let s:=(W.vm n.toNat).seat k.toNat
  let o:=stepM s (W.gm n.toNat) (W.time n.toNat) k
  if o.k=5 then (10,W)
  else
   let W2:=((W.setDat o.g.dat).putSeat n.toNat k.toNat o.s).tell n.toNat (told o.k o.n k s.pc o.s)
   (0,if o.k=2 then W2.hyper n.toNat k.toNat o.n o.s else W2)
end
section
open Go Go.Pt
def pk (form:Int) (f:Nat) (wr:Bool):Int:=
 if form=1 then 1+256*f+(if wr=true then 2 else 0)
 else 9223372036854775808+(65535-f)+(if wr=true then 4611686018427387904 else 0)
theorem zpi {form:Int} {f:Nat} (hf:f≤65535) {wr:Bool}:W64 (pk form f wr)∧pk form f wr≠0:=by
 unfold pk
 split <;> split <;> exact⟨⟨by omega,by omega⟩,by omega⟩
end
section
open Go Go.Pt
def spB (d:List Int) (off:Nat) (l:List Int):List Int:=d.take off++l++d.drop (off+l.length)
theorem zln {d:List Int} {off:Nat} {l:List Int} (h:off+l.length≤d.length):(spB d off l).length=d.length:=by
 unfold spB;simp only[List.length_append,List.length_take,List.length_drop];omega
theorem zlo {d:List Int} {off:Nat} {l:List Int} (h:Byt d) (hl:Byt l):Byt (spB d off l):=fun x hx=>by
 unfold spB at hx
 rcases List.mem_append.1 hx with hx | hx
 ·rcases List.mem_append.1 hx with hx | hx
  ·exact h x (List.mem_of_mem_take hx)
  ·exact hl x hx
 ·exact h x (List.mem_of_mem_drop hx)
def rdB (d:List Int) (off n:Nat):List Int:=(d.drop off).take n
theorem zmV {d:List Int} {off:Nat} {l:List Int} (h:off+l.length≤d.length):rdB (spB d off l) off l.length=l:=by
 unfold rdB spB
 rw[List.append_assoc,List.drop_left' (by rw[List.length_take];omega),List.take_left' rfl]
theorem zow {d:List Int} {off j:Nat} {l:List Int} (h:off+l.length≤d.length):(spB d off l)[j]? = if off≤j∧j<off+l.length then l[j-off]? else d[j]?:=by
 unfold spB
 rw[List.append_assoc,List.getElem?_append,List.length_take,Nat.min_eq_left (by omega)]
 split
 ·rw[if_neg (by omega),List.getElem?_take,if_pos (by omega)]
 ·rw[List.getElem?_append]
  split
  ·rw[if_pos (by omega)]
  ·rw[if_neg (by omega),List.getElem?_drop];congr 1;omega
theorem zlC {d:List Int} {off n j:Nat}:(rdB d off n)[j]? = if j<n then d[off+j]? else none:=by
 unfold rdB
 rw[List.getElem?_take,List.getElem?_drop]
theorem zlB {d:List Int} {off o n:Nat} {l:List Int} (h:off+l.length≤d.length) (h2:o+n≤off∨off+l.length≤o):rdB (spB d off l) o n=rdB d o n:=by
 apply List.ext_getElem?
 intro j
 rw[zlC,zlC]
 by_cases hj:j<n
 ·rw[if_pos hj,if_pos hj,zow h,if_neg (by omega)]
 ·rw[if_neg hj,if_neg hj]
def ld (d:Nat→List Int) (f i:Nat):Int:=num (rdB (d f) (8*i) 8)
def wr (d:Nat→List Int) (f off:Nat) (l:List Int):Nat→List Int:=upd d f (spB (d f) off l)
def unp (form w:Int):Option (Nat×Bool):=
 if w=0 then none
 else
  let f:=if form=1 then (w/256%65536).toNat else (65535-w%65536).toNat
  let b:=if form=1 then decide (w/2%2=1) else decide (w/4611686018427387904%2=1)
  if pk form f b=w then some (f,b) else none
theorem zbM {form:Int}:unp form 0=none:=by simp[unp]
theorem zhc {form:Int} {f:Nat} {b:Bool} (h:f≤65535):unp form (pk form f b)=some (f,b):=by
 have h0:=(zpi (form:=form) h (wr:=b)).2
 unfold unp
 rw[if_neg h0]
 by_cases h1:form=1
 ·rw[if_pos h1,if_pos h1]
  have e1:(pk form f b/256%65536).toNat=f:=by unfold pk;rw[if_pos h1];split <;> omega
  have e2:decide (pk form f b/2%2=1)=b:=by
   unfold pk;rw[if_pos h1];cases b
   ·simp;omega
   ·simp;omega
  simp only[e1,e2];rw[if_pos trivial]
 ·rw[if_neg h1,if_neg h1]
  have e1:(65535-pk form f b%65536).toNat=f:=by unfold pk;rw[if_neg h1];split <;> omega
  have e2:decide (pk form f b/4611686018427387904%2=1)=b:=by
   unfold pk;rw[if_neg h1];cases b
   ·simp;omega
   ·simp;omega
  simp only[e1,e2];rw[if_pos trivial]
theorem zqa {form w:Int} {q:Nat×Bool} (h:unp form w=some q):q.1≤65535∧pk form q.1 q.2=w:=by
 unfold unp at h
 by_cases h0:w=0
 ·rw[if_pos h0] at h;cases h
 ·rw[if_neg h0] at h
  dsimp only at h
  obtain⟨h1,h2⟩:=Option.ite_none_right_eq_some.1 h
  simp only[Option.some.injEq] at h2
  subst h2
  exact⟨by dsimp only;split <;> omega,h1⟩
structure Ow where
 kind:Int
 vm:Int
 page:Int
 sh:Int
def ow0:Ow:=⟨0,0,0,0⟩
structure Cw where
 vm:Int
 page:Int
 f:Nat
 w:Bool
structure Kn where
 form:Int
 now:Int
 vm:Nat→Bv
 late:Nat→Int
 tf:Nat→Int
 fr:Nat→List Nat
 ls:Nat→Ls
 turns:Nat→Int
structure Cst extends Kn where
 N:Nat
 dat:Nat→List Int
 used:Nat→Bool
 left:Int
 cache:List Cw
 own:Nat→Ow
 alm:Nat→Nat→Option Int
 region:List Nat
 ev:Nat→List Evt
def leafC (d:Nat→List Int) (N:Nat) (form:Int) (fr:List Nat) (page:Int):Option (Nat×Nat):=
 if page<0∨31<page then none
 else match fr with
  | []=>none
  | r :: _=>if r<N then (unp form (ld d r (page/8).toNat)).map fun x=>(x.1,(page%8).toNat) else none
def walkC (d:Nat→List Int) (N:Nat) (form:Int) (fr:List Nat) (page:Int):Option (Nat×Bool):=match leafC d N form fr page with
 | none=>none
 | some (f,i)=>if f<N then unp form (ld d f i) else none
def setC (d:Nat→List Int) (N:Nat) (form:Int) (fr:List Nat) (page w:Int):Nat→List Int:=match leafC d N form fr page with
 | none=>d
 | some (f,i)=>if f<N then wr d f (8*i) (bytes8 w) else d
def Cst.walk (C:Cst) (n:Nat) (page:Int):Option (Nat×Bool):=walkC C.dat C.N (C.tf n) (C.fr n) page
def dropC (l:List Cw) (vm page:Int):List Cw:=l.filter fun r=>! (decide (r.vm=vm) && decide (r.page=page))
def putC (l:List Cw) (r:Cw):List Cw:=(if (dropC l r.vm r.page).length=8 then (dropC l r.vm r.page).tail else dropC l r.vm r.page)++[r]
def lookC (l:List Cw) (vm page:Int):Option (Nat×Bool):=(l.find? fun r=>decide (r.vm=vm) && decide (r.page=page)).map fun r=>(r.f,r.w)
def Cst.find (C:Cst) (n:Nat) (page:Int):Option (Nat×Bool)×List Cw:=match lookC C.cache n page with
 | some x=>(some x,C.cache)
 | none=>match C.walk n page with
  | some x=>(some x,putC C.cache ⟨n,page,x.1,x.2⟩)
  | none=>(none,C.cache)
def takeN (N:Nat):Nat→(Nat→Bool)→Option (List Nat×(Nat→Bool))
 | 0,u=>some ([],u)
 | k+1,u=>match firstOff u N with
  | none=>none
  | some f=>match takeN N k (upd u f true) with
   | none=>none
   | some (l,u')=>some (f :: l,u')
def donC (own:Nat→Ow) (f:Nat) (n page:Int):Nat→Ow:=if (own f).kind=0 then upd own f ⟨3,n,page,0⟩ else own
def keepC (own:Nat→Ow) (f:Nat) (n:Int):Nat→Ow:=if (own f).kind=0 then upd own f (if 0≤n then ⟨2,n,0,0⟩ else ⟨1,0,0,0⟩) else own
end
section
open Go Go.Pt
theorem zko {w:Int} (h:W64 w):num (bytes8 w)=w:=by
 obtain⟨h1,h2⟩:=h
 have e:bytes8 w=[w/1%256,w/256%256,w/65536%256,w/16777216%256,w/4294967296%256,w/1099511627776%256,w/281474976710656%256,w/72057594037927936%256]:=rfl
 rw[e]
 simp only[num]
 omega
theorem zqt {d:Nat→List Int} {f g i j:Nat} {w:Int} (hl:(d f).length=256) (hi:i<32) (hj:j<32) (hw:W64 w):ld (wr d f (8*i) (bytes8 w)) g j=if g=f∧j=i then w else ld d g j:=by
 have h8:=xf w
 unfold ld wr
 by_cases hg:g=f
 ·subst hg
  rw[zl]
  by_cases e:j=i
  ·subst e
   rw[if_pos ⟨rfl,rfl⟩]
   have:=zmV (d:=d g) (off:=8*j) (l:=bytes8 w) (by omega)
   rw[h8] at this
   rw[this,zko hw]
  ·rw[if_neg (fun h=>e h.2),zlB (by omega) (by omega)]
 ·rw[zh hg,if_neg (fun h=>hg h.1)]
theorem zjh {d:Nat→List Int} {f off:Nat} {l:List Int} (hl:off+l.length≤(d f).length) (g:Nat):(wr d f off l g).length=(d g).length:=by
 unfold wr
 by_cases hg:g=f
 ·subst hg;rw[zl,zln hl]
 ·rw[zh hg]
theorem zji {d:Nat→List Int} {f off:Nat} {l:List Int} (hb:Byt l) {g:Nat} (h:Byt (d g)):Byt (wr d f off l g):=by
 unfold wr
 by_cases hg:g=f
 ·subst hg;rw[zl];exact zlo h hb
 ·rw[zh hg];exact h
theorem zpX {d:Nat→List Int} {f g off:Nat} {l:List Int} (h:g≠f):wr d f off l g=d g:=zh h
def lentN (ls:Nat→Ls) (n p:Nat):Nat:=count (fun i=>(ls i).on && (decide ((ls i).fr=n) && decide ((ls i).pg=p))) 16
structure WOk (W:Wd):Prop where
 off:∀ n,(W.vm n).on=false→W.vm n=bv0∧(∀ p,W.own n p=none)∧∀ k,W.alarm n k=none
 six:∀ n,6≤n→(W.vm n).on=false
 seats:∀ n,(W.vm n).on=true→1≤(W.vm n).seats.length∧(W.vm n).seats.length≤3
 ok:∀ n,∀ s∈(W.vm n).seats,s.Ok
 keys:∀ n,(W.vm n).keys.length≤64∧Byt (W.vm n).keys
 disk:∀ n j,(W.vm n).on=true→((W.vm n).disk j).length=256∧Byt ((W.vm n).disk j)
 quota:∀ n,0≤(W.vm n).quota∧(W.vm n).quota≤32
 bells:∀ n k,(W.vm n).bells k=true→(W.vm n).on=true∧(W.vm k).on=true∧(W.vm k).bells n=true∧k≠n
 pg:∀ n p l,W.own n p=some l→(W.vm n).on=true∧p<32∧l.length=256∧Byt l
 most:∀ n,(W.pages n:Int)≤(W.vm n).quota
 lsr:∀ i,(W.ls i).on=true→i<16∧(W.vm (W.ls i).fr).on=true∧(W.vm (W.ls i).to).on=true∧(W.ls i).fr≠(W.ls i).to∧(W.own (W.ls i).fr (W.ls i).pg).isSome=true∧-1≤(W.ls i).at_∧(W.ls i).at_≤31
 lso:∀ i,(W.ls i).on=false→W.ls i=ls0
 lsa:∀ i,(W.ls i).on=true→∀ p:Nat,(W.ls i).at_=p→W.own (W.ls i).to p=none
 lsu:∀ i j,(W.ls i).on=true→(W.ls j).on=true→(W.ls i).to=(W.ls j).to→0≤(W.ls i).at_→(W.ls i).at_=(W.ls j).at_→i=j
 alarm:∀ n k w,W.alarm n k=some w→k<(W.vm n).seats.length∧W64 w
def LW (form w:Int) (o:Option (Nat×Bool)):Prop:=unp form w=o∧(o=none→w=0)
theorem LW.to {form w:Int} {o o':Option (Nat×Bool)} (h:LW form w o) (e:o=o'):LW form w o':=e ▸ h
def most64:Int:=18446744073709551615
structure Rel (C:Cst) (W:Wd) (φ:Nat→Nat→Nat):Prop where
 wk:WOk W
 vm:C.vm=W.vm
 ls:C.ls=W.ls
 ev:C.ev=W.ev
 N:C.N≤512
 form:C.form=1∨C.form=2
 now:0≤C.now∧C.now≤4611686018427387904
 time:∀ n,(W.vm n).on=true→0≤C.late n∧C.late n≤C.now∧W.time n=C.now-C.late n
 alm:∀ n k,C.alm n k=(W.alarm n k).map fun w=>min (w+C.late n) most64
 free:W.free=count (fun f=>! C.used f) C.N
 left:C.left = -1
 used:∀ f,f<C.N→C.used f=decide ((C.own f).kind≠0)
 own0:∀ f,f<C.N→(C.own f).kind=0→C.own f=ow0
 kind:∀ f,f<C.N→0≤(C.own f).kind∧(C.own f).kind≤3
 len:∀ f,f<C.N→(C.dat f).length=256∧Byt (C.dat f)
 off:∀ n,(W.vm n).on=false→C.fr n=[]∧C.tf n=0∧C.late n=0
 tab:∀ n,(W.vm n).on=true→C.tf n=C.form∧(C.fr n).length=5∧(C.fr n).Nodup
 tabf:∀ n f,f∈C.fr n→f<C.N∧C.own f=⟨2,n,0,0⟩
 tabk:∀ f,f<C.N→(C.own f).kind=2→∃ n,f∈C.fr n
 root:∀ n j,(W.vm n).on=true→j<4→unp C.form (ld C.dat ((C.fr n).getD 0 0) j)=some ((C.fr n).getD (j+1) 0,true)
 leaf:∀ n p,(W.vm n).on=true→p<32→LW C.form (ld C.dat ((C.fr n).getD (p/8+1) 0) (p%8)) ((W.where_ n p).map fun q=>(φ q.1 q.2.1,q.2.2))
 pg:∀ n p l,W.own n p=some l→φ n p<C.N∧C.own (φ n p)=⟨3,n,p,lentN W.ls n p⟩∧C.dat (φ n p)=l
 pgk:∀ f,f<C.N→(C.own f).kind=3→∃ n p,(W.own n p).isSome=true∧φ n p=f
 hyp:C.region.Nodup∧∀ f,f∈C.region↔f<C.N∧(C.own f).kind=1
 cache:∀ r∈C.cache,∃ n:Nat,r.vm=n∧(W.vm n).on=true∧C.walk n r.page=some (r.f,r.w)
 csize:C.cache.length≤8
section
variable {C:Cst} {W:Wd} {φ:Nat→Nat→Nat}
theorem zgP {l:List Nat} {i:Nat} (h:i<l.length):l.getD i 0∈l:=by
 rw[List.getD_eq_getElem?_getD,List.getElem?_eq_getElem h];exact List.getElem_mem h
theorem Rel.frN (h:Rel C W φ) {n j:Nat} (hn:(W.vm n).on=true) (hj:j<5):(C.fr n).getD j 0<C.N∧C.own ((C.fr n).getD j 0)=⟨2,n,0,0⟩:=
 h.tabf n _ (zgP (by rw[(h.tab n hn).2.1];exact hj))
theorem Rel.cons (h:Rel C W φ) {n:Nat} (hn:(W.vm n).on=true):∃ a b c d e,C.fr n=[a,b,c,d,e]:=by
 have hl:=(h.tab n hn).2.1
 match hf:C.fr n,hl with
 | [a,b,c,d,e],_=>exact⟨a,b,c,d,e,rfl⟩
theorem Rel.leafC (h:Rel C W φ) {n:Nat} (hn:(W.vm n).on=true) {p:Nat} (hp:p<32):Go.Cr.leafC C.dat C.N (C.tf n) (C.fr n) p=some ((C.fr n).getD (p/8+1) 0,p%8):=by
 have h1:=(h.tab n hn).1
 have hr:=h.root n (p/8) hn (by omega)
 have h0:=h.frN hn (j:=0) (by decide)
 obtain⟨a,b,c,d,e,hf⟩:=h.cons hn
 rw[hf] at hr h0 ⊢
 unfold Go.Cr.leafC
 rw[if_neg (by omega)]
 simp only[List.getD_cons_zero] at h0 hr
 dsimp only
 rw[if_pos h0.1,h1]
 have e1:((p:Int)/8).toNat=p/8:=by omega
 have e2:((p:Int)%8).toNat=p%8:=by omega
 rw[e1,e2,hr];rfl
theorem Rel.walk (h:Rel C W φ) {n:Nat} (hn:(W.vm n).on=true) {p:Nat} (hp:p<32):C.walk n p=(W.where_ n p).map fun q=>(φ q.1 q.2.1,q.2.2):=by
 unfold Cst.walk walkC
 rw[h.leafC hn hp]
 dsimp only
 rw[if_pos (h.frN hn (by omega)).1,(h.tab n hn).1]
 exact (h.leaf n p hn hp).1
theorem zed {C:Cst} {n:Nat} {page:Int} (hp:page<0∨31<page):C.walk n page=none:=by
 unfold Cst.walk walkC Go.Cr.leafC
 rw[if_pos hp]
theorem Rel.ld_keep (h:Rel C W φ) {f:Nat} (hf:(C.own f).kind≠2) {l:List Int} {n j i:Nat} (hn:(W.vm n).on=true) (hj:j<5):ld (upd C.dat f l) ((C.fr n).getD j 0) i=ld C.dat ((C.fr n).getD j 0) i:=by
 have:=(h.frN hn hj).2
 unfold ld
 rw[zh]
 intro e
 rw[e] at this
 rw[this] at hf
 exact hf rfl
theorem Rel.inj (h:Rel C W φ) {n p m q:Nat} {l l':List Int} (h1:W.own n p=some l) (h2:W.own m q=some l') (e:φ n p=φ m q):n=m∧p=q:=by
 have e1:=(h.pg n p l h1).2.1
 have e2:=(h.pg m q l' h2).2.1
 rw[e,e2] at e1
 simp only[Ow.mk.injEq,Int.natCast_inj] at e1
 exact⟨e1.2.1.symm,e1.2.2.1.symm⟩
theorem WOk.where_own (h:WOk W) {n p:Nat} {q:Nat×Nat×Bool} (hq:W.where_ n p=some q):∃ l,W.own q.1 q.2.1=some l:=by
 unfold Wd.where_ at hq
 split at hq
 ·rename_i hs
  cases hq
  exact Option.isSome_iff_exists.1 hs
 ·cases hf:leaseAt W.ls n p with
  | none=>rw[hf] at hq;cases hq
  | some i=>
   rw[hf] at hq
   simp only[Option.map_some,Option.some.injEq] at hq
   subst hq
   have:=List.find?_some hf
   simp only[Bool.and_eq_true,decide_eq_true_eq] at this
   exact Option.isSome_iff_exists.1 (h.lsr i this.1).2.2.2.2.1
end
end
section
open Go Go.Pt
theorem qG (g:Nat→Bool) (n:Nat):count g (n+1)=count g n+(g n).toNat:=by
 unfold count
 rw[List.range_succ,List.filter_append,List.length_append]
 congr 1
 cases h:g n <;> simp[h]
theorem ja {g g':Nat→Bool}:∀ {n:Nat},(∀ i,i<n→g i=g' i)→count g n=count g' n
 | 0,_=>rfl
 | n+1,h=>by rw[qG,qG,ja fun i hi=>h i (by omega),h n (by omega)]
theorem kD (g:Nat→Bool):∀ n,count g n≤n
 | 0=>by simp[count]
 | n+1=>by
  have:=kD g n
  rw[qG]
  cases g n <;> simp <;> omega
theorem zgi {g g':Nat→Bool}:∀ {n:Nat},(∀ i,i<n→g i=true→g' i=true)→count g n≤count g' n
 | 0,_=>by simp[count]
 | n+1,h=>by
  rw[qG,qG]
  have:=zgi (n:=n) fun i hi=>h i (by omega)
  have h2:=h n (by omega)
  cases hg:g n
  ·simp;omega
  ·rw[h2 hg];simp;omega
theorem xe {g:Nat→Bool}:∀ {n:Nat},(∀ i,i<n→g i=false)→count g n=0
 | 0,_=>rfl
 | n+1,h=>by rw[qG,xe fun i hi=>h i (by omega),h n (by omega)];rfl
theorem zmr {g:Nat→Bool} {n i:Nat} (hi:i<n) (h:g i=true):0<count g n:=by
 induction n with
 | zero=>omega
 | succ n ih=>
  rw[qG]
  by_cases e:i=n
  ·subst e;rw[h];simp
  ·have:=ih (by omega);omega
theorem zgh {g:Nat→Bool} {n:Nat} (h:count g n=0):∀ i,i<n→g i=false:=fun i hi=>by
 cases hg:g i
 ·rfl
 ·have:=zmr hi hg;omega
theorem kZ {g:Nat→Bool} {n f:Nat} (hf:f<n) (b:Bool):count (upd g f b) n+(g f).toNat=count g n+b.toNat:=by
 induction n with
 | zero=>omega
 | succ n ih=>
  rw[qG,qG]
  by_cases e:f=n
  ·subst e
   rw[zl,ja (g:=upd g f b) (g':=g) fun i hi=>zh (by omega)]
   omega
  ·have:=ih (by omega)
   rw[zh (f:=g) (i:=f) (j:=n) (Ne.symm e)]
   omega
theorem qd {u:Nat→Bool} {N f:Nat} (h:firstOff u N=some f):f<N∧u f=false∧∀ g,g<f→u g=true:=by
 unfold firstOff at h
 induction N with
 | zero=>simp at h
 | succ N ih=>
  rw[List.range_succ,List.find?_append] at h
  cases h1:(List.range N).find? (fun i=>! u i) with
  | some x=>
   rw[h1] at h
   simp only[Option.some_or,Option.some.injEq] at h
   subst h
   have:=ih h1
   exact⟨by omega,this.2⟩
  | none=>
   rw[h1] at h
   rw[Option.none_or] at h
   cases hu:u N with
   | true=>simp[hu] at h
   | false=>
    simp[hu] at h
    subst h
    refine⟨by omega,hu,fun g hg=>?_⟩
    have:=List.find?_eq_none.1 h1 g (List.mem_range.2 hg)
    simpa using this
theorem gN {u:Nat→Bool} {N:Nat} (h:firstOff u N=none):∀ f,f<N→u f=true:=fun f hf=>by
 have:=List.find?_eq_none.1 h f (List.mem_range.2 hf)
 simpa using this
theorem gK {u:Nat→Bool} {N f:Nat} (hf:f<N) (h0:u f=false) (h1:∀ g,g<f→u g=true):firstOff u N=some f:=by
 cases h:firstOff u N with
 | none=>have:=gN h f hf;rw[h0] at this;cases this
 | some g=>
  obtain⟨_,h3,h4⟩:=qd h
  rcases Nat.lt_trichotomy f g with e | e | e
  ·have:=h4 f e;rw[h0] at this;cases this
  ·rw[e]
  ·have:=h1 g e;rw[h3] at this;cases this
theorem zfE {u u':Nat→Bool} {N:Nat} (h:∀ i,i<N→u i=u' i):firstOff u N=firstOff u' N:=by
 cases h1:firstOff u N with
 | some f=>
  obtain⟨a,b,c⟩:=qd h1
  exact (gK a (by rw[←h f a];exact b) fun g hg=>by rw[←h g (by omega)];exact c g hg).symm
 | none=>
  cases h2:firstOff u' N with
  | none=>rfl
  | some f=>
   obtain⟨a,b,c⟩:=qd h2
   have:=gN h1 f a
   rw[h f a,b] at this;cases this
theorem yi {u:Nat→Bool} {N:Nat}:firstOff u N=none↔count (fun f=>! u f) N=0:=by
 constructor
 ·intro h
  exact xe fun i hi=>by rw[gN h i hi];rfl
 ·intro h
  cases h1:firstOff u N with
  | none=>rfl
  | some f=>
   obtain⟨a,b,_⟩:=qd h1
   have:=zgh h f a
   rw[b] at this;cases this
theorem xU {N:Nat}:∀ {k:Nat} {u:Nat→Bool} {l:List Nat} {u':Nat→Bool},takeN N k u=some (l,u') →
  l.length=k∧l.Nodup∧(∀ f∈l,f<N∧u f=false)∧(∀ f,u' f=(u f || decide (f∈l)))∧count (fun f=>! u' f) N+k=count (fun f=>! u f) N
 | 0,u,l,u',h=>by
  simp only[takeN,Option.some.injEq,Prod.mk.injEq] at h
  obtain⟨rfl,rfl⟩:=h
  simp
 | k+1,u,l,u',h=>by
  simp only[takeN] at h
  cases h1:firstOff u N with
  | none=>rw[h1] at h;cases h
  | some f=>
   rw[h1] at h
   dsimp only at h
   cases h2:takeN N k (upd u f true) with
   | none=>rw[h2] at h;cases h
   | some q=>
    obtain⟨l2,u2⟩:=q
    rw[h2] at h
    simp only[Option.some.injEq,Prod.mk.injEq] at h
    obtain⟨rfl,rfl⟩:=h
    obtain⟨a,b,_⟩:=qd h1
    obtain⟨c1,c2,c3,c4,c5⟩:=xU h2
    have hnf:f∉l2:=fun hm=>by
     have:=(c3 f hm).2
     rw[zl] at this;cases this
    refine⟨by rw[List.length_cons,c1],List.nodup_cons.2 ⟨hnf,c2⟩,fun g hg=>?_,fun g=>?_,?_⟩
    ·rcases List.mem_cons.1 hg with e | e
     ·rw[e];exact⟨a,b⟩
     ·have h3:=c3 g e
      rw[zh (fun e2=>hnf (by rw[←e2];exact e))] at h3
      exact h3
    ·rw[c4 g]
     by_cases e:g=f
     ·subst e;rw[zl];simp
     ·rw[zh e];simp[e]
    ·have e1:(fun g=>! upd u f true g)=upd (fun g=>! u g) f false:=by
      funext g;unfold upd;split <;> rfl
     have:=kZ (g:=fun g=>! u g) a false
     rw[←e1] at this
     simp only[b,Bool.not_false,Bool.toNat_true,Bool.toNat_false] at this
     omega
theorem ga {N:Nat}:∀ {k:Nat} {u:Nat→Bool},takeN N k u=none↔count (fun f=>! u f) N<k
 | 0,u=>by simp[takeN]
 | k+1,u=>by
  simp only[takeN]
  cases h1:firstOff u N with
  | none=>
   have:=yi.1 h1
   exact⟨fun _=>by omega,fun _=>rfl⟩
  | some f=>
   obtain⟨a,b,_⟩:=qd h1
   have e1:(fun g=>! upd u f true g)=upd (fun g=>! u g) f false:=by
    funext g;unfold upd;split <;> rfl
   have:=kZ (g:=fun g=>! u g) a false
   rw[←e1] at this
   simp only[b,Bool.not_false,Bool.toNat_true,Bool.toNat_false] at this
   have ih:=ga (N:=N) (k:=k) (u:=upd u f true)
   dsimp only
   cases h2:takeN N k (upd u f true) with
   | none=>
    have h3:=ih.1 h2
    exact⟨fun _=>by omega,fun _=>rfl⟩
   | some q=>
    obtain⟨l2,u2⟩:=q
    have h3:¬count (fun g=>! upd u f true g) N<k:=fun h=>by
     have:=ih.2 h
     rw[h2] at this;cases this
    exact⟨fun h=>(by cases h),fun h=>(by omega)⟩
end
section
open Go Go.Pt
section
variable {C:Cst} {W:Wd} {φ:Nat→Nat→Nat}
theorem Rel.tell (h:Rel C W φ) (n:Nat) (e:Evt):Rel { C with ev:=upd C.ev n (C.ev n++[e]) } (W.tell n e) φ:=
 { h with wk:={ h.wk with off:=h.wk.off },ev:=by show upd C.ev n (C.ev n++[e])=upd W.ev n (W.ev n++[e]);rw[h.ev] }
theorem WOk.setV (h:WOk W) {n:Nat} {v:Bv} (hon:(W.vm n).on=true) (h1:v.on=true) (h2:v.seats.length=(W.vm n).seats.length) (h3:∀ s∈v.seats,s.Ok) (h4:v.keys.length≤64∧Byt v.keys) (h5:∀ j,(v.disk j).length=256∧Byt (v.disk j)) (h6:v.quota=(W.vm n).quota) (h7:v.bells=(W.vm n).bells):WOk (W.setV n v):=by
 have on':∀ i,((W.setV n v).vm i).on=(W.vm i).on:=fun i=>by
  show (upd W.vm n v i).on=_
  by_cases e:i=n
  ·subst e;rw[zl,h1,hon]
  ·rw[zh e]
 have vm':∀ i,i≠n→(W.setV n v).vm i=W.vm i:=fun i e=>zh e
 have vn:(W.setV n v).vm n=v:=zl
 have be':∀ i,((W.setV n v).vm i).bells=(W.vm i).bells:=fun i=>by
  by_cases e:i=n
  ·subst e;rw[vn,h7]
  ·rw[vm' i e]
 have ql':∀ i,((W.setV n v).vm i).quota=(W.vm i).quota:=fun i=>by
  by_cases e:i=n
  ·subst e;rw[vn,h6]
  ·rw[vm' i e]
 have sl':∀ i,((W.setV n v).vm i).seats.length=(W.vm i).seats.length:=fun i=>by
  by_cases e:i=n
  ·subst e;rw[vn,h2]
  ·rw[vm' i e]
 refine { h with off:=fun i hi=>?_,six:=fun i hi=>by rw[on'];exact h.six i hi,seats:=fun i hi=>?_,ok:=fun i=>?_,keys:=fun i=>?_,disk:=fun i j hi=>?_,quota:=fun i=>by rw[ql'];exact h.quota i,bells:=fun i k=>?_,pg:=fun i p l hl=>?_,most:=fun i=>by rw[ql'];exact h.most i,lsr:=fun i hi=>?_,alarm:=fun i k w hw=>by rw[sl'];exact h.alarm i k w hw }
 ·rw[on'] at hi
  have:i≠n:=fun e=>by subst e;rw[hon] at hi;cases hi
  rw[vm' i this];exact h.off i hi
 ·rw[on'] at hi;rw[sl'];exact h.seats i hi
 ·by_cases e:i=n
  ·subst e;rw[vn];exact h3
  ·rw[vm' i e];exact h.ok i
 ·by_cases e:i=n
  ·subst e;rw[vn];exact h4
  ·rw[vm' i e];exact h.keys i
 ·by_cases e:i=n
  ·subst e;rw[vn];exact h5 j
  ·rw[on'] at hi
   rw[vm' i e];exact h.disk i j hi
 ·rw[be',be',on',on'];exact h.bells i k
 ·rw[on'];exact h.pg i p l hl
 ·rw[on',on'];exact h.lsr i hi
theorem Rel.setV (h:Rel C W φ) {n:Nat} {v:Bv} (hon:(W.vm n).on=true) (h1:v.on=true) (hk:WOk (W.setV n v)):Rel { C with vm:=upd C.vm n v } (W.setV n v) φ:=by
 have on':∀ i,((W.setV n v).vm i).on=(W.vm i).on:=fun i=>by
  show (upd W.vm n v i).on=_
  by_cases e:i=n
  ·subst e;rw[zl,h1,hon]
  ·rw[zh e]
 exact { h with
  wk:=hk
  vm:=by show upd C.vm n v=upd W.vm n v;rw[h.vm]
  time:=fun i hi=>by rw[on'] at hi;exact h.time i hi
  off:=fun i hi=>by rw[on'] at hi;exact h.off i hi
  tab:=fun i hi=>by rw[on'] at hi;exact h.tab i hi
  root:=fun i j hi=>by rw[on'] at hi;exact h.root i j hi
  leaf:=fun i p hi=>by rw[on'] at hi;exact h.leaf i p hi
  cache:=fun r hr=>by
   obtain⟨i,h1,h2,h3⟩:=h.cache r hr
   exact⟨i,h1,by rw[on'];exact h2,h3⟩ }
theorem Rel.setCache (h:Rel C W φ) {l:List Cw} (h1:∀ r∈l,∃ n:Nat,r.vm=n∧(W.vm n).on=true∧C.walk n r.page=some (r.f,r.w)) (h2:l.length≤8):Rel { C with cache:=l } W φ:=
 { h with cache:=h1,csize:=h2 }
theorem zlU {l:List Cw} {vm page:Int} {q:Nat×Bool} (h:lookC l vm page=some q):∃ r∈l,r.vm=vm∧r.page=page∧(r.f,r.w)=q:=by
 unfold lookC at h
 cases hf:l.find? (fun r=>decide (r.vm=vm) && decide (r.page=page)) with
 | none=>rw[hf] at h;cases h
 | some r=>
  rw[hf] at h
  simp only[Option.map_some,Option.some.injEq] at h
  have:=List.find?_some hf
  simp only[Bool.and_eq_true,decide_eq_true_eq] at this
  exact⟨r,List.mem_of_find?_eq_some hf,this.1,this.2,h⟩
theorem zfk {l:List Cw} {vm page:Int} {r:Cw} (h:r∈dropC l vm page):r∈l∧¬(r.vm=vm∧r.page=page):=by
 unfold dropC at h
 rw[List.mem_filter] at h
 exact⟨h.1,fun hh=>by have:=h.2;simp[hh.1,hh.2] at this⟩
theorem fR {l:List Cw} {vm page:Int}:(dropC l vm page).length≤l.length:=List.length_filter_le _ _
theorem zmY {l:List Cw} {r x:Cw} (h:x∈putC l r):x∈l∨x=r:=by
 unfold putC at h
 rw[List.mem_append,List.mem_singleton] at h
 rcases h with h | h
 ·left
  split at h
  ·exact (zfk (List.mem_of_mem_tail h)).1
  ·exact (zfk h).1
 ·exact .inr h
theorem zmZ {l:List Cw} {r:Cw} (h:l.length≤8):(putC l r).length≤8:=by
 unfold putC
 have:=fR (l:=l) (vm:=r.vm) (page:=r.page)
 rw[List.length_append]
 split
 ·rw[List.length_tail];simp;omega
 ·simp;omega
theorem Rel.find (h:Rel C W φ) {n:Nat} (hn:(W.vm n).on=true) {page:Int} {q:Nat×Bool} (hl:lookC C.cache n page=some q):C.walk n page=some q:=by
 obtain⟨r,hr,h1,h2,h3⟩:=zlU hl
 obtain⟨m,e1,e2,e3⟩:=h.cache r hr
 have:m=n:=by rw[h1] at e1;omega
 subst this
 rw[h2,h3] at e3;exact e3
theorem Rel.put (h:Rel C W φ) {n:Nat} (hn:(W.vm n).on=true) {page:Int} {f:Nat} {w:Bool} (hw:C.walk n page=some (f,w)):Rel { C with cache:=putC C.cache ⟨n,page,f,w⟩ } W φ:=
 h.setCache (fun r hr=>by
  rcases zmY hr with e | e
  ·exact h.cache r e
  ·subst e;exact⟨n,rfl,hn,hw⟩) (zmZ h.csize)
theorem Rel.walk_some (h:Rel C W φ) {n:Nat} (hn:(W.vm n).on=true) {page:Int} {f:Nat} {w:Bool} (hw:C.walk n page=some (f,w)):∃ m q l,0≤page∧page≤31∧W.where_ n page.toNat=some (m,q,w)∧W.own m q=some l∧f=φ m q:=by
 by_cases hp:page<0∨31<page
 ·rw[zed hp] at hw;cases hw
 ·have e:page=((page.toNat:Nat):Int):=by omega
  rw[e,h.walk hn (by omega)] at hw
  cases hq:W.where_ n page.toNat with
  | none=>rw[hq] at hw;cases hw
  | some q=>
   rw[hq] at hw
   simp only[Option.map_some,Option.some.injEq,Prod.mk.injEq] at hw
   obtain⟨l,hl⟩:=h.wk.where_own hq
   obtain⟨a,b,c⟩:=q
   simp only at hw hl
   obtain⟨rfl,rfl⟩:=hw
   exact⟨a,b,l,by omega,by omega,rfl,hl,rfl⟩
theorem Rel.walk_none (h:Rel C W φ) {n:Nat} (hn:(W.vm n).on=true) {page:Int} (hw:C.walk n page=none):page<0∨31<page∨W.where_ n page.toNat=none:=by
 by_cases hp:page<0∨31<page
 ·omega
 ·right;right
  have e:page=((page.toNat:Nat):Int):=by omega
  rw[e,h.walk hn (by omega)] at hw
  cases hq:W.where_ n page.toNat with
  | none=>rfl
  | some q=>rw[hq] at hw;cases hw
theorem WOk.setO (h:WOk W) {m q:Nat} {l l':List Int} (ho:W.own m q=some l) (hl:l'.length=256∧Byt l'):WOk (W.setO m q (some l')):=by
 have is':∀ i p,((W.setO m q (some l')).own i p).isSome=(W.own i p).isSome:=fun i p=>by
  show (upd W.own m (upd (W.own m) q (some l')) i p).isSome=_
  by_cases e:i=m
  ·subst e
   rw[zl]
   by_cases e2:p=q
   ·subst e2;rw[zl,ho];rfl
   ·rw[zh e2]
  ·rw[zh e]
 have no':∀ i p,(W.setO m q (some l')).own i p=none↔W.own i p=none:=fun i p=>by
  rw[←Option.not_isSome_iff_eq_none,←Option.not_isSome_iff_eq_none,is']
 have hon:=(h.pg m q l ho)
 refine { h with off:=fun i hi=>⟨(h.off i hi).1,fun p=>(no' i p).2 ((h.off i hi).2.1 p),(h.off i hi).2.2⟩,pg:=fun i p l2 hl2=>?_,most:=fun i=>?_,lsr:=fun i hi=>?_,lsa:=fun i hi p hp=>(no' _ _).2 (h.lsa i hi p hp) }
 ·by_cases e:i=m∧p=q
  ·obtain⟨rfl,rfl⟩:=e
   have:l'=l2:=by
    have h2:(W.setO i p (some l')).own i p=some l':=by show upd W.own i (upd (W.own i) p (some l')) i p=_;rw[zl,zl]
    rw[h2] at hl2;exact Option.some.inj hl2
   subst this
   exact⟨hon.1,hon.2.1,hl⟩
  ·refine h.pg i p l2 ?_
   have:(W.setO m q (some l')).own i p=W.own i p:=by
    show upd W.own m (upd (W.own m) q (some l')) i p=_
    by_cases e1:i=m
    ·subst e1;rw[zl,zh (fun e2=>e ⟨rfl,e2⟩)]
    ·rw[zh e1]
   rw[this] at hl2;exact hl2
 ·have:(W.setO m q (some l')).pages i=W.pages i:=ja fun p _=>is' i p
  rw[this];exact h.most i
 ·rw[is'];exact h.lsr i hi
theorem zfN {m q:Nat} {l l':List Int} (ho:W.own m q=some l) {n p:Nat}:(W.setO m q (some l')).where_ n p=W.where_ n p:=by
 unfold Wd.where_
 have:((W.setO m q (some l')).own n p).isSome=(W.own n p).isSome:=by
  show (upd W.own m (upd (W.own m) q (some l')) n p).isSome=_
  by_cases e:n=m
  ·subst e
   rw[zl]
   by_cases e2:p=q
   ·subst e2;rw[zl,ho];rfl
   ·rw[zh e2]
  ·rw[zh e]
 rw[this];rfl
theorem Rel.walk_keep (h:Rel C W φ) {f:Nat} (hf:(C.own f).kind≠2) {l:List Int} {n:Nat} (hn:(W.vm n).on=true) (page:Int):walkC (upd C.dat f l) C.N (C.tf n) (C.fr n) page=C.walk n page:=by
 by_cases hp:page<0∨31<page
 ·rw[zed hp]
  unfold walkC Go.Cr.leafC
  rw[if_pos hp]
 ·have e:page=((page.toNat:Nat):Int):=by omega
  have h32:page.toNat<32:=by omega
  have key:∀ j i,j<5→ld (upd C.dat f l) ((C.fr n).getD j 0) i=ld C.dat ((C.fr n).getD j 0) i:=fun j i hj=>h.ld_keep hf hn hj
  obtain⟨a,b,c,d,g,hfr⟩:=h.cons hn
  have k0:=key 0 (page/8).toNat (by decide)
  have hlf:=h.leafC hn h32
  rw[←e] at hlf
  unfold Cst.walk walkC
  have hlf2:Go.Cr.leafC (upd C.dat f l) C.N (C.tf n) (C.fr n) page=Go.Cr.leafC C.dat C.N (C.tf n) (C.fr n) page:=by
   unfold Go.Cr.leafC
   rw[if_neg hp,if_neg hp,hfr]
   rw[hfr,List.getD_cons_zero] at k0
   dsimp only
   rw[k0]
  rw[hlf2,hlf]
  dsimp only
  rw[key _ _ (by omega)]
theorem Rel.setO (h:Rel C W φ) {m q:Nat} {l l':List Int} (ho:W.own m q=some l) (hl:l'.length=256∧Byt l'):Rel { C with dat:=upd C.dat (φ m q) l' } (W.setO m q (some l')) φ:=by
 have hp:=h.pg m q l ho
 have hk:(C.own (φ m q)).kind≠2:=by rw[hp.2.1];exact (show (3:Int)≠2 by decide)
 exact { h with
  wk:=h.wk.setO ho hl
  len:=fun f hf=>by
   show (upd C.dat (φ m q) l' f).length=256∧Byt (upd C.dat (φ m q) l' f)
   by_cases e:f=φ m q
   ·rw[e,zl];exact hl
   ·rw[zh e];exact h.len f hf
  root:=fun n j hn hj=>by
   show unp C.form (ld (upd C.dat (φ m q) l') ((C.fr n).getD 0 0) j)=_
   rw[h.ld_keep hk hn (by decide)];exact h.root n j hn hj
  leaf:=fun n p hn hp'=>by
   show LW C.form (ld (upd C.dat (φ m q) l') ((C.fr n).getD (p/8+1) 0) (p%8)) _
   rw[h.ld_keep hk hn (by omega),zfN ho];exact h.leaf n p hn hp'
  pg:=fun n p l2 hl2=>by
   show φ n p<C.N∧C.own (φ n p)=_∧upd C.dat (φ m q) l' (φ n p)=l2
   by_cases e:n=m∧p=q
   ·obtain⟨rfl,rfl⟩:=e
    have h2:(W.setO n p (some l')).own n p=some l':=by show upd W.own n (upd (W.own n) p (some l')) n p=_;rw[zl,zl]
    rw[h2] at hl2
    cases hl2
    exact⟨hp.1,hp.2.1,zl⟩
   ·have h2:(W.setO m q (some l')).own n p=W.own n p:=by
     show upd W.own m (upd (W.own m) q (some l')) n p=_
     by_cases e1:n=m
     ·subst e1;rw[zl,zh (fun e2=>e ⟨rfl,e2⟩)]
     ·rw[zh e1]
    rw[h2] at hl2
    have h3:=h.pg n p l2 hl2
    refine⟨h3.1,h3.2.1,?_⟩
    rw[zh (fun e2=>e (h.inj hl2 ho e2))];exact h3.2.2
  pgk:=fun f hf hk'=>by
   obtain⟨n,p,h1,h2⟩:=h.pgk f hf hk'
   refine⟨n,p,?_,h2⟩
   show (upd W.own m (upd (W.own m) q (some l')) n p).isSome=true
   by_cases e:n=m
   ·subst e
    rw[zl]
    by_cases e2:p=q
    ·subst e2;rw[zl];rfl
    ·rw[zh e2];exact h1
   ·rw[zh e];exact h1
  cache:=fun r hr=>by
   obtain⟨n,h1,h2,h3⟩:=h.cache r hr
   exact⟨n,h1,h2,by rw[←h3];exact h.walk_keep hk h2 r.page⟩ }
theorem Rel.setAlarm (h:Rel C W φ) {n k:Nat} (hk:k<(W.vm n).seats.length) {w:Int} (hw:W64 w):Rel { C with alm:=upd C.alm n (upd (C.alm n) k (some (min (w+C.late n) most64))) } (W.setAlarm n k w) φ:=by
 have hon:(W.vm n).on=true:=by
  cases e:(W.vm n).on with
  | true=>rfl
  | false=>rw[(h.wk.off n e).1] at hk;simp[bv0] at hk
 refine { h with wk:={ h.wk with off:=fun i hi=>⟨(h.wk.off i hi).1,(h.wk.off i hi).2.1,fun j=>?_⟩,alarm:=fun i j w' hw'=>?_ },alm:=fun i j=>?_ }
 ·show upd W.alarm n (upd (W.alarm n) k (some w)) i j=none
  have:i≠n:=fun e=>by subst e;have hi':(W.vm i).on=false:=hi;rw[hon] at hi';cases hi'
  rw[zh this];exact (h.wk.off i hi).2.2 j
 ·have hw'':upd W.alarm n (upd (W.alarm n) k (some w)) i j=some w':=hw'
  by_cases e:i=n
  ·subst e
   rw[zl] at hw''
   by_cases e2:j=k
   ·subst e2;rw[zl] at hw'';cases hw'';exact⟨hk,hw⟩
   ·rw[zh e2] at hw'';exact h.wk.alarm i j w' hw''
  ·rw[zh e] at hw'';exact h.wk.alarm i j w' hw''
 ·show upd C.alm n (upd (C.alm n) k (some (min (w+C.late n) most64))) i j=(upd W.alarm n (upd (W.alarm n) k (some w)) i j).map _
  by_cases e:i=n
  ·subst e
   rw[zl,zl]
   by_cases e2:j=k
   ·subst e2;rw[zl,zl];rfl
   ·rw[zh e2,zh e2];exact h.alm i j
  ·rw[zh e,zh e];exact h.alm i j
end
end
end Go.Cr
namespace Go.Proofs.YthaiblbnpcgjpaaGreatDoor
section
open Go Go.Pt Go.Proofs.Tryz
attribute [local irreducible] lt WD WN Code.wp Back bodyPost wpList FR WL WC WQ WA AW Tr Yc HC AllC
set_option maxRecDepth 20000
set_option maxHeartbeats 4000000
def wz (S:Mem) (b:Pt) (kind:Int) (n:Int) (Q:Int→Mem→Prop):Prop:=
 jn (fun (Sx:Mem)=>
 jn (fun (k:Int) (Sx_1:Mem)=>
 Q k Sx_1) fun Jx=>
 nn b fun b_1 o=>
 gL (Sx.cell b_1 o) fun t=>
 lp (fun Xx (z:Int×Int) (Sx_2:Mem)=>
 match z with
 | (k_1,t_1)=>
 if t_1<(t.n:Int) then
 jn (fun (k_2:Int) (Sx_3:Mem)=>
 Xx (k_2,IntKind.i64.wrap (t_1+1)) Sx_3) fun Jx_1=>
 sl t fun b_2 o_1 n_1 n_2=>
 0≤t_1∧t_1<((n_1:Nat):Int) ∧
 gA (Sx_2.part b_2 (o_1+t_1.toNat*4) 4) fun t_2=>
 t_2.all (·.oneCell')=true ∧
 gI (nthL t_2 0) .u8 fun t_3=>
 if t_3=kind then
 if kind<2 then
 Jx_1 (IntKind.i64.wrap (k_1+1)) Sx_2
 else
 gI (nthL t_2 1) .i64 fun t_4=>
 if t_4=n then
 Jx_1 (IntKind.i64.wrap (k_1+1)) Sx_2
 else
 Jx_1 k_1 Sx_2
 else
 Jx_1 k_1 Sx_2
 else
 Jx k_1 Sx_2) (0,0) Sx) fun Jx_2=>
 if b=none then
 Q 0 S
 else
 Jx_2 S
theorem zbT {S:Mem} {b:Pt} {kind:Int} {n:Int} {Q:Int→Mem→Prop} (H:wz S b kind n Q):qP S b kind n Q:=by
 unfold wz at H
 have:=dj0 (α:=Int×Unit) 11 [] (fun z=>[(7,.int .i64 z.1)])
 have:=dj0 (α:=Int×Int) 6 [1,2,15,16] (fun z=>[(7,.int .i64 z.1),(17,.int .i64 z.2)])
 have:=dj0 (α:=Int×Unit) 10 [1,2,15,16,17] (fun z=>[(7,.int .i64 z.1)])
 have:=dj1 5 [0,1,2,7]
 exact Tr.intro func183 E ntmps183 E fun w0=>go results183 H
def xO (S:Mem) (b:Pt) (frame:Int) (n:Int) (page:Int) (Q:Int→Mem→Prop):Prop:=
 qV S b frame fun t t_1 Sx=>
 jn (fun (Sx_1:Mem)=>
 nn t fun b_1 o=>
 pt Sx_1 b_1 o 4 ([.int .u8 3,.int .i64 n,.int .i64 page,.int .i64 0]) fun Sx_2=>
 Q 0 Sx_2) fun Jx=>
 if t_1≠0 then
 Q t_1 Sx
 else
 zgE Sx n page fun t_2 Sx_3=>
 if t_2=true then
 nn t fun b_2 o_1=>
 gI (Sx_3.cell b_2 o_1) .u8 fun t_3=>
 if t_3≠0 then
 Q 8 Sx_3
 else
 Jx Sx_3
 else
 Q 1 Sx_3
theorem zbd {S:Mem} {b:Pt} {frame:Int} {n:Int} {page:Int} {Q:Int→Mem→Prop} (H:xO S b frame n page Q):wZ S b frame n page Q:=by
 unfold xO at H
 have:=dj1 9 [2,3,9]
 exact Tr.intro func132 E ntmps132 E fun w0=>go results132 H
def xH (S:Mem) (b:Pt) (frame:Int) (Q:List Value→Int→Mem→Prop):Prop:=
 qV S b frame fun t t_1 Sx=>
 if t_1≠0 then
 Q ([.int .u8 0,.int .i64 0,.int .i64 0,.int .i64 0]) t_1 Sx
 else
 nn t fun b_2 o=>
 gA (Sx.part b_2 o 4) fun t_2=>
 t_2.all (·.oneCell')=true ∧
 Q t_2 0 Sx
theorem fh {S:Mem} {b:Pt} {frame:Int} {Q:List Value→Int→Mem→Prop} (H:xH S b frame Q):qW S b frame Q:=by
 unfold xH at H
 exact Tr.intro func182 E ntmps182 E fun w0=>go results182 H
def vj (S:Mem) (b:Pt) (frame:Int) (n:Int) (Q:Int→Mem→Prop):Prop:=
 qV S b frame fun t t_1 Sx=>
 jn (fun (Sx_1:Mem)=>
 nn t fun b_1 o=>
 pt Sx_1 b_1 o 4 ([.int .u8 1,.int .i64 0,.int .i64 0,.int .i64 0]) fun Sx_2=>
 if 0≤n then
 pt Sx_2 b_1 o 4 ([.int .u8 2,.int .i64 n,.int .i64 0,.int .i64 0]) fun Sx_3=>
 Q 0 Sx_3
 else
 Q 0 Sx_2) fun Jx=>
 if t_1≠0 then
 Q t_1 Sx
 else
 if 6≤n then
 Q 1 Sx
 else
 nn t fun b_2 o_1=>
 gI (Sx.cell b_2 o_1) .u8 fun t_2=>
 if t_2≠0 then
 Q 8 Sx
 else
 Jx Sx
theorem zcC {S:Mem} {b:Pt} {frame:Int} {n:Int} {Q:Int→Mem→Prop} (H:vj S b frame n Q):yg S b frame n Q:=by
 unfold vj at H
 have:=dj1 9 [2,7]
 exact Tr.intro func67 E ntmps67 E fun w0=>go results67 H
def xu (S:Mem) (b:Pt) (frame:Int) (n:Int) (Q:Int→Mem→Prop):Prop:=
 yS S b frame n fun t t_1 Sx=>
 jn (fun (Sx_1:Mem)=>
 nn t fun b_1 o=>
 pt Sx_1 b_1 o 4 ([.int .u8 0,.int .i64 0,.int .i64 0,.int .i64 0]) fun Sx_2=>
 Q 0 Sx_2) fun Jx=>
 if t_1≠0 then
 Q t_1 Sx
 else
 nn t fun b_2 o_1=>
 gI (Sx.cell b_2 (o_1+3)) .i64 fun t_2=>
 if 0<t_2 then
 Q 8 Sx
 else
 Jx Sx
theorem zaH {S:Mem} {b:Pt} {frame:Int} {n:Int} {Q:Int→Mem→Prop} (H:xu S b frame n Q):yM S b frame n Q:=by
 unfold xu at H
 have:=dj1 7 [7]
 exact Tr.intro func102 E ntmps102 E fun w0=>go results102 H
def wy (S:Mem) (b:Pt) (frame:Int) (n:Int) (Q:Int→Mem→Prop):Prop:=
 yS S b frame n fun t t_1 Sx=>
 if t_1=0 then
 nn t fun b_1 o=>
 gI (Sx.cell b_1 (o+3)) .i64 fun t_2=>
 pt Sx b_1 (o+3) 1 ([.int .i64 (IntKind.i64.wrap (t_2+1))]) fun Sx_1=>
 Q t_1 Sx_1
 else
 Q t_1 Sx
theorem zbS {S:Mem} {b:Pt} {frame:Int} {n:Int} {Q:Int→Mem→Prop} (H:wy S b frame n Q):vF S b frame n Q:=by
 unfold wy at H
 exact Tr.intro func235 E ntmps235 E fun w0=>go results235 H
def xq (S:Mem) (b:Pt) (frame:Int) (n:Int) (Q:Int→Mem→Prop):Prop:=
 yS S b frame n fun t t_1 Sx=>
 jn (fun (Sx_1:Mem)=>
 nn t fun b_1 o=>
 gI (Sx_1.cell b_1 (o+3)) .i64 fun t_2=>
 pt Sx_1 b_1 (o+3) 1 ([.int .i64 (IntKind.i64.wrap (t_2-1))]) fun Sx_2=>
 Q 0 Sx_2) fun Jx=>
 if t_1≠0 then
 Q t_1 Sx
 else
 nn t fun b_2 o_1=>
 gI (Sx.cell b_2 (o_1+3)) .i64 fun t_3=>
 if t_3=0 then
 Q 8 Sx
 else
 Jx Sx
theorem zaF {S:Mem} {b:Pt} {frame:Int} {n:Int} {Q:Int→Mem→Prop} (H:xq S b frame n Q):qQ S b frame n Q:=by
 unfold xq at H
 have:=dj1 7 [7]
 exact Tr.intro func152 E ntmps152 E fun w0=>go results152 H
def vi (S:Mem) (b:Pt) (frame:Int) (n:Int) (Q:Pt→Int→Mem→Prop):Prop:=
 qV S b frame fun t t_1 Sx=>
 jn (fun (Sx_1:Mem)=>
 Q t 0 Sx_1) fun Jx=>
 if t_1≠0 then
 Q none t_1 Sx
 else
 nn t fun b_1 o=>
 gI (Sx.cell b_1 o) .u8 fun t_2=>
 if t_2≠3 then
 Q none 7 Sx
 else
 gI (Sx.cell b_1 (o+1)) .i64 fun t_3=>
 if t_3≠n then
 Q none 7 Sx
 else
 Jx Sx
theorem zcB {S:Mem} {b:Pt} {frame:Int} {n:Int} {Q:Pt→Int→Mem→Prop} (H:vi S b frame n Q):yS S b frame n Q:=by
 unfold vi at H
 exact Tr.intro func154 E ntmps154 E fun w0=>csr<|gv E E<|gv E E<|nxr<|mv E E<|mv E E<|ziz E E H fun t t_1 Sx H1=>mv E E<|s_p E (zk E E)<|s_p E (zk E E)<|gv E E<|gv E E<|nx<|zy H1 (fun (J:Mem→Prop) (z:Unit) S=>J S) (fun z=>⟨35,[(8,eP t)]⟩) (fun z=>[]) (fun _ Sx_1 H2=>csr<|mv E E<|gv E E<|gv E E<|nx<|zu<|zt results154 (zf E (zf E zi)) ⟨_,_,E,H2⟩) (fun Jx hJx H3=>zK<|csr<|mv E E<|iteK H3 (fun c H4=>s_p E (yT (qt E E) c)<|gv E E<|nx<|c_t E E<|csr<|mv E E<|gv E E<|gv E E<|nx<|zu<|zo<|zd<|zt results154 (zf E (zf E zi)) ⟨_,_,E,H4⟩) fun c H4=>s_p E (yF (qt E E) c)<|gv E E<|nx<|c_f E E<|csr<|mv E E<|by obtain⟨b_1,o,rfl,H5⟩:=H4;exact s_p E (qx E)<|s_p E (zA E E)<|gx H5 fun t_2 ht_2 H6=>s_v E (zG E) (qh ht_2)<|iteK H6 (fun c_1 H7=>s_p E (yT (qt E E) c_1)<|mv E E<|sk4 E E E E<|sk2 E E<|pk E E E<|gv E E<|nx<|c_t E E<|csr<|gv E E<|gv E E<|nx<|zu<|zo<|zd<|zt results154 (zf E (zf E zi)) ⟨_,_,E,H7⟩) fun c_1 H7=>s_p E (yF (qt E E) c_1)<|mv E E<|mv E E<|s_p E (qx E)<|s_p E (zA E E)<|gx H7 fun t_3 ht_3 H8=>s_v E (zG E) (qh ht_3)<|mv E E<|iteK H8 (fun c_2 H9=>s_p E (yT (qt E E) c_2)<|pk E E E<|gv E E<|nx<|c_t E E<|csr<|gv E E<|gv E E<|nx<|zu<|zo<|zd<|zt results154 (zf E (zf E zi)) ⟨_,_,E,H9⟩) fun c_2 H9=>s_p E (yF (qt E E) c_2)<|pk E E E<|gv E E<|nx<|cfs E E<|qr<|hJx () _ _ _ _ [] H9 E ⟨E,True.intro⟩ E)
def xG (S:Mem) (b:Pt) (frame:Int) (Q:Pt→Int→Mem→Prop):Prop:=
 jn (fun (Sx:Mem)=>
 nn b fun b_1 o=>
 gL (Sx.cell b_1 o) fun t=>
 sl t fun b_2 o_1 n n_1=>
 0≤frame∧frame<((n:Nat):Int) ∧
 Q (some (b_2,o_1+frame.toNat*4)) 0 Sx) fun Jx=>
 if b=none then
 Q none 1 S
 else
 if frame<0 then
 Q none 1 S
 else
 nn b fun b_3 o_2=>
 gL (S.cell b_3 o_2) fun t_1=>
 if (t_1.n:Int)≤frame then
 Q none 1 S
 else
 Jx S
theorem fg {S:Mem} {b:Pt} {frame:Int} {Q:Pt→Int→Mem→Prop} (H:xG S b frame Q):qV S b frame Q:=by
 unfold xG at H
 exact Tr.intro func129 E ntmps129 E fun w0=>csr<|gv E E<|gv E E<|nx<|zy H (fun (J:Mem→Prop) (z:Unit) S=>J S) (fun z=>⟨27,[(0,eP b),(1,.int .i64 frame)]⟩) (fun z=>[]) (fun _ Sx H1=>csr<|mv E E<|by obtain⟨b_1,o,rfl,H2⟩:=H1;exact s_p E (qx E)<|s_p E (zA E E)<|gx H2 fun t ht H3=>s_v E (zG E) (qh ht)<|mv E E<|by obtain⟨b_2,o_1,n,n_1,rfl,H4⟩:=H3;exact an2 H4 fun c c_1 H5=>s_p E (gn E E c c_1 E)<|gv E E<|gv E E<|nx<|zu<|zt results129 (zf E (zf E zi)) ⟨_,_,E,H5⟩) (fun Jx hJx H6=>csr<|mv E E<|iteK H6 (fun c_2 H7=>s_p E (yT (wP (p:=b) E E) c_2)<|mv E E<|sk2 E E<|pk E E E<|mv E E<|sk4 E E E E<|sk2 E E<|zF E<|pk E E E<|nx<|c_t E E<|csr<|gv E E<|gv E E<|nx<|zu<|zd<|zt results129 (zf E (zf E zi)) ⟨_,_,E,H7⟩) fun c_2 H7=>s_p E (yF (wP (p:=b) E E) c_2)<|mv E E<|mv E E<|iteK H7 (fun c_3 H8=>s_p E (yT (qq E E) c_3)<|pk E E E<|mv E E<|sk4 E E E E<|sk2 E E<|zF E<|pk E E E<|nx<|c_t E E<|csr<|gv E E<|gv E E<|nx<|zu<|zd<|zt results129 (zf E (zf E zi)) ⟨_,_,E,H8⟩) fun c_3 H8=>s_p E (yF (qq E E) c_3)<|pk E E E<|mv E E<|mv E E<|mv E E<|by obtain⟨b_3,o_2,rfl,H9⟩:=H8;exact s_p E (qx E)<|s_p E (zA E E)<|gx H9 fun t_1 ht_1 H10=>s_v E (zG E) (qh ht_1)<|s_p E (jJ E)<|iteK H10 (fun c_4 H11=>s_p E (yT (wT E E) c_4)<|pk E E E<|nx<|c_t E E<|csr<|gv E E<|gv E E<|nx<|zu<|zd<|zt results129 (zf E (zf E zi)) ⟨_,_,E,H11⟩) fun c_4 H11=>s_p E (yF (wT E E) c_4)<|pk E E E<|nx<|cfs E E<|hJx () _ _ _ _ [] H11 E ⟨E,E,True.intro⟩ E)
def zbD (S:Mem) (frames:Int) (Q:Pt→Mem→Prop):Prop:=
 0≤(if 512<(if frames<0 then 0 else frames) then 512 else (if frames<0 then 0 else frames))∧(if 512<(if frames<0 then 0 else frames) then 512 else (if frames<0 then 0 else frames))≤(if 512<(if frames<0 then 0 else frames) then 512 else (if frames<0 then 0 else frames))∧(32:Int)*(if 512<(if frames<0 then 0 else frames) then 512 else (if frames<0 then 0 else frames))≤281474976710656∧(if 512<(if frames<0 then 0 else frames) then 512 else (if frames<0 then 0 else frames))≤9223372036854775807 ∧
 al S 68 (zrep (Int.toNat (if 512<(if frames<0 then 0 else frames) then 512 else (if frames<0 then 0 else frames))) [.int .u8 0,.int .i64 0,.int .i64 0,.int .i64 0]) fun b Sx=>
 al Sx 71 ([.slice (some ⟨b,0,none⟩) (Int.toNat (if 512<(if frames<0 then 0 else frames) then 512 else (if frames<0 then 0 else frames))) (Int.toNat (if 512<(if frames<0 then 0 else frames) then 512 else (if frames<0 then 0 else frames)))]) fun b_1 Sx_1=>
 Q (some (b_1,0)) Sx_1
theorem ziq {S:Mem} {frames:Int} {Q:Pt→Mem→Prop} (H:zbD S frames Q):zeT S frames Q:=by
 unfold zbD at H
 exact Tr.intro func81 E ntmps81 E fun w0=>go results81 H
def zdp (S:Mem) (n:Int) (page:Int) (Q:Bool→Mem→Prop):Prop:=
 if 0≤n then
 if n<6 then
 if 0≤page then
 Q (decide (page<32)) S
 else
 Q false S
 else
 Q false S
 else
 Q false S
theorem zka {S:Mem} {n:Int} {page:Int} {Q:Bool→Mem→Prop} (H:zdp S n page Q):zgE S n page Q:=by
 unfold zdp at H
 exact Tr.intro func188 E ntmps188 E fun w0=>go results188 H
def xr (S:Mem) (b:Pt) (frame:Int) (Q:Int→Mem→Prop):Prop:=
 qV S b frame fun t t_1 Sx=>
 jn (fun (Sx_1:Mem)=>
 nn t fun b_1 o=>
 pt Sx_1 b_1 o 4 ([.int .u8 0,.int .i64 0,.int .i64 0,.int .i64 0]) fun Sx_2=>
 Q 0 Sx_2) fun Jx=>
 if t_1≠0 then
 Q t_1 Sx
 else
 nn t fun b_2 o_1=>
 gI (Sx.cell b_2 o_1) .u8 fun t_2=>
 if t_2=3 then
 Q 7 Sx
 else
 gI (Sx.cell b_2 o_1) .u8 fun t_3=>
 if t_3=0 then
 Q 8 Sx
 else
 Jx Sx
theorem zaG {S:Mem} {b:Pt} {frame:Int} {Q:Int→Mem→Prop} (H:xr S b frame Q):wc S b frame Q:=by
 unfold xr at H
 have:=dj1 9 [5]
 exact Tr.intro func104 E ntmps104 E fun w0=>go results104 H
end
section
open Go Go.Pt Go.Proofs.Tryz
attribute [local irreducible] lt WD WN Code.wp Back bodyPost wpList FR WL WC WQ WA AW Tr Yc HC AllC
set_option maxRecDepth 20000
set_option maxHeartbeats 4000000
def zby (S:Mem) (frames:Int) (Q:Pt→Mem→Prop):Prop:=
 0≤IntKind.i64.wrap (256*(if 512<(if frames<0 then 0 else frames) then 512 else (if frames<0 then 0 else frames)))∧IntKind.i64.wrap (256*(if 512<(if frames<0 then 0 else frames) then 512 else (if frames<0 then 0 else frames)))≤IntKind.i64.wrap (256*(if 512<(if frames<0 then 0 else frames) then 512 else (if frames<0 then 0 else frames)))∧(1:Int)*(IntKind.i64.wrap (256*(if 512<(if frames<0 then 0 else frames) then 512 else (if frames<0 then 0 else frames))))≤281474976710656∧IntKind.i64.wrap (256*(if 512<(if frames<0 then 0 else frames) then 512 else (if frames<0 then 0 else frames)))≤9223372036854775807 ∧
 al S 5 (zrep (Int.toNat (IntKind.i64.wrap (256*(if 512<(if frames<0 then 0 else frames) then 512 else (if frames<0 then 0 else frames))))) [.int .u8 0]) fun b Sx=>
 al Sx 214 ([.slice (some ⟨b,0,none⟩) (Int.toNat (IntKind.i64.wrap (256*(if 512<(if frames<0 then 0 else frames) then 512 else (if frames<0 then 0 else frames))))) (Int.toNat (IntKind.i64.wrap (256*(if 512<(if frames<0 then 0 else frames) then 512 else (if frames<0 then 0 else frames)))))]) fun b_1 Sx_1=>
 Q (some (b_1,0)) Sx_1
theorem zil {S:Mem} {frames:Int} {Q:Pt→Mem→Prop} (H:zby S frames Q):fI S frames Q:=by
 unfold zby at H
 exact Tr.intro func93 E ntmps93 E fun w0=>go results93 H
def xk (S:Mem) (s:Pt) (Q:Int→Mem→Prop):Prop:=
 if s=none then
 Q 0 S
 else
 nn s fun b o=>
 gL (S.cell b o) fun t=>
 Q (IntKind.i64.wrap (Int.tdiv (t.n:Int) 256)) S
theorem zaA {S:Mem} {s:Pt} {Q:Int→Mem→Prop} (H:xk S s Q):qF S s Q:=by
 unfold xk at H
 exact Tr.intro func118 E ntmps118 E fun w0=>go results118 H
def vL (S:Mem) (s:Pt) (frame:Int) (off:Int) (n:Int) (Q:Int→Int→Mem→Prop):Prop:=
 jn (fun (Sx:Mem)=>
 Q (IntKind.i64.wrap ((IntKind.i64.wrap (256*frame))+off)) 0 Sx) fun Jx=>
 if frame<0 then
 Q 0 1 S
 else
 qF S s fun t Sx_1=>
 if t≤frame then
 Q 0 1 Sx_1
 else
 if off<0 then
 Q 0 1 Sx_1
 else
 if n<0 then
 Q 0 1 Sx_1
 else
 if 256<off then
 Q 0 1 Sx_1
 else
 if IntKind.i64.wrap (256-off)<n then
 Q 0 1 Sx_1
 else
 Jx Sx_1
theorem zdF {S:Mem} {s:Pt} {frame:Int} {off:Int} {n:Int} {Q:Int→Int→Mem→Prop} (H:vL S s frame off n Q):vx S s frame off n Q:=by
 unfold vL at H
 have:=dj1 4 [1,2]
 exact Tr.intro func134 E ntmps134 E fun w0=>go results134 H
def ww (S:Mem) (s:Pt) (frame:Int) (off:Int) (n:Int) (Q:Sl→Int→Mem→Prop):Prop:=
 vx S s frame off n fun t t_1 Sx=>
 jn (fun (Sx_1:Mem)=>
 nn s fun b o=>
 gL (Sx_1.cell b o) fun t_2=>
 (0:Int)≤t∧(t:Int)≤IntKind.i64.wrap (t+n)∧IntKind.i64.wrap (t+n)≤(t_2.c:Int) ∧
 lt (slc 1 t_2 t (IntKind.i64.wrap (t+n))) fun t_3=>
 sp Sx_1 t_3 1 fun vs=>
 ap Sx_1 5 1 1 [.int .u8 0] (⟨none,0,0⟩) t_3.n vs fun t_4 Sx_2=>
 Q t_4 0 Sx_2) fun Jx=>
 if t_1≠0 then
 Q (⟨none,0,0⟩) t_1 Sx
 else
 Jx Sx
theorem zbP {S:Mem} {s:Pt} {frame:Int} {off:Int} {n:Int} {Q:Sl→Int→Mem→Prop} (H:ww S s frame off n Q):qO S s frame off n Q:=by
 unfold ww at H
 exact Tr.intro func71 E ntmps71 E fun w0=>csr<|gv E E<|gv E E<|nxr<|mv E E<|mv E E<|mv E E<|mv E E<|ziz E E H fun t t_1 Sx H1=>mv E E<|s_p E (zk E E)<|s_p E (zk E E)<|gv E E<|gv E E<|nx<|zy H1 (fun (J:Mem→Prop) (z:Unit) S=>J S) (fun z=>⟨33,[(0,eP s),(3,.int .i64 n),(10,.int .i64 t)]⟩) (fun z=>[]) (fun _ Sx_1 H2=>csr<|mv E E<|by obtain⟨b,o,rfl,H3⟩:=H2;exact s_p E (qx E)<|s_p E (zA E E)<|gx H3 fun t_2 ht_2 H4=>s_v E (zG E) (qh ht_2)<|mv E E<|mv E E<|mv E E<|s_p E (qZ E E)<|an3 H4 fun c c_1 c_2 H5=>by obtain⟨t_3,et_3,H6⟩:=zmG H5;exact s_p E (eqv (zft (a:=t) (b:=IntKind.i64.wrap (t+n)) E E E c c_1 c_2) (congrArg eL et_3))<|by obtain⟨vs,h,c_3,H7⟩:=H6;exact gf (sx:=⟨none,0,0⟩) (vs:=vs) E E E ((zbq h).1) ((zbq (P:=prog) (w0:=w0) (S0:=S) (V:=[]) h).2) c_3 (by decide) H7 fun t_4 Sx_2 H8=>gv E E<|gv E E<|nx<|zu<|zt results71 (zf E (zf E zi)) ⟨_,_,E,H8⟩) (fun Jx hJx H9=>csr<|mv E E<|iteK H9 (fun c_4 H10=>s_p E (yT (qt E E) c_4)<|nx<|c_t E E<|csr<|mv E E<|gv E E<|gv E E<|nx<|zu<|zd<|zt results71 (zf E (zf E zi)) ⟨_,_,E,H10⟩) fun c_4 H10=>s_p E (yF (qt E E) c_4)<|nx<|cfs E E<|hJx () _ _ _ _ [] H10 E ⟨E,E,E,True.intro⟩ E)
def xM (S:Mem) (s:Pt) (frame:Int) (off:Int) (p:Sl) (Q:Int→Mem→Prop):Prop:=
 vx S s frame off (p.n:Int) fun t t_1 Sx=>
 jn (fun (Sx_1:Mem)=>
 nn s fun b o=>
 gL (Sx_1.cell b o) fun t_2=>
 (0:Int)≤t∧(t:Int)≤(t_2.n:Int)∧(t_2.n:Int)≤(t_2.c:Int) ∧
 lt (slc 1 t_2 t (t_2.n:Int)) fun t_3=>
 cpy Sx_1 1 t_3 p fun t_4 Sx_2=>
 Q 0 Sx_2) fun Jx=>
 if t_1≠0 then
 Q t_1 Sx
 else
 Jx Sx
theorem zbb {S:Mem} {s:Pt} {frame:Int} {off:Int} {p:Sl} {Q:Int→Mem→Prop} (H:xM S s frame off p Q):qg S s frame off p Q:=by
 unfold xM at H
 exact Tr.intro func70 E ntmps70 E fun w0=>csr<|gv E E<|nxr<|mv E E<|mv E E<|mv E E<|mv E E<|s_p E (jJ E)<|ziz E E H fun t t_1 Sx H1=>mv E E<|s_p E (zk E E)<|s_p E (zk E E)<|gv E E<|gv E E<|nx<|zy H1 (fun (J:Mem→Prop) (z:Unit) S=>J S) (fun z=>⟨31,[(0,eP s),(3,eL p),(9,.int .i64 t)]⟩) (fun z=>[]) (fun _ Sx_1 H2=>csr<|mv E E<|by obtain⟨b,o,rfl,H3⟩:=H2;exact s_p E (qx E)<|s_p E (zA E E)<|gx H3 fun t_2 ht_2 H4=>s_v E (zG E) (qh ht_2)<|mv E E<|an3 H4 fun c c_1 c_2 H5=>by obtain⟨t_3,et_3,H6⟩:=zmG H5;exact s_p E (eqv (zft (a:=t) (b:=(t_2.n:Int)) E E E c c_1 c_2) (congrArg eL et_3))<|mv E E<|zqj (sd:=t_3) (ss:=p) E E E H6 fun t_4 Sx_2 H7=>nxr<|gv E E<|nx<|zu<|zt results70 (zf E zi) ⟨_,E,H7⟩) (fun Jx hJx H8=>csr<|mv E E<|iteK H8 (fun c_3 H9=>s_p E (yT (qt E E) c_3)<|nx<|c_t E E<|csr<|mv E E<|gv E E<|nx<|zu<|zd<|zt results70 (zf E zi) ⟨_,E,H9⟩) fun c_3 H9=>s_p E (yF (qt E E) c_3)<|nx<|cfs E E<|hJx () _ _ _ _ [] H9 E ⟨E,E,E,True.intro⟩ E)
def yP (S:Mem) (s:Pt) (frame:Int) (i:Int) (Q:Int→Int→Mem→Prop):Prop:=
 jn (fun (Sx:Mem)=>
 qO Sx s frame (IntKind.i64.wrap (8*i)) 8 fun t t_1 Sx_1=>
 zen Sx_1 t fun t_2 Sx_2=>
 Q t_2 t_1 Sx_2) fun Jx=>
 if i<0 then
 Q 0 1 S
 else
 if 32≤i then
 Q 0 1 S
 else
 Jx S
theorem jB {S:Mem} {s:Pt} {frame:Int} {i:Int} {Q:Int→Int→Mem→Prop} (H:yP S s frame i Q):yz S s frame i Q:=by
 unfold yP at H
 have:=dj1 4 [0,1,2]
 exact Tr.intro func28 E ntmps28 E fun w0=>go results28 H
def yO (S:Mem) (s:Pt) (frame:Int) (i:Int) (w:Int) (Q:Int→Mem→Prop):Prop:=
 jn (fun (Sx:Mem)=>
 zal Sx w fun t Sx_1=>
 qg Sx_1 s frame (IntKind.i64.wrap (8*i)) t fun t_1 Sx_2=>
 Q t_1 Sx_2) fun Jx=>
 if i<0 then
 Q 1 S
 else
 if 32≤i then
 Q 1 S
 else
 Jx S
theorem jA {S:Mem} {s:Pt} {frame:Int} {i:Int} {w:Int} {Q:Int→Mem→Prop} (H:yO S s frame i w Q):qN S s frame i w Q:=by
 unfold yO at H
 have:=dj1 4 [0,1,2,3]
 exact Tr.intro func29 E ntmps29 E fun w0=>go results29 H
def xN (S:Mem) (s:Pt) (frame:Int) (Q:Int→Mem→Prop):Prop:=
 al S 5 (zrep 256 [.int .u8 0]) fun b Sx=>
 qg Sx s frame 0 (⟨some (b,0),256,256⟩) fun t Sx_1=>
 Q t Sx_1
theorem zbc {S:Mem} {s:Pt} {frame:Int} {Q:Int→Mem→Prop} (H:xN S s frame Q):yf S s frame Q:=by
 unfold xN at H
 exact Tr.intro func130 E ntmps130 E fun w0=>go results130 H
end
end Go.Proofs.YthaiblbnpcgjpaaGreatDoor
