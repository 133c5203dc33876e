/- Texts of this work,joined by program (pack.py). -/
import Derived.Test.YthaiblbnpcgjpaaGreatDoorQAA
import Derived.ChangeKeysEq
set_option linter.unusedVariables false
namespace Go.Pt
section
open Go Go.RowKit
theorem zjS (b o:Nat):adr (some (b,o))=some ⟨b,o,none⟩:=rfl
section
variable {P:Program} {l:Fr} {c:Cond}
theorem zfP {t e:TypeId} (he:P.underlying t=some (.slice e)) (p:Option Addr) (n k n2 k2:Nat) (w:World):(Op.equal t (.slice p n k) (.slice none n2 k2)).run P w=.ok p.isNone w:=by
 have h:Op.equal t (.slice p n k) (.slice none n2 k2)=Op.equalIn (9999+1) t (.slice p n k) (.slice none n2 k2):=rfl
 rw[h,Op.equalIn]
 cases p <;> simp[run_underlying he]
theorem znL {t t2:TypeId} {e size:Nat} {x y:Operand} {p:Pt} {n k n2 k2:Nat} [h:SliceT P t e size] (hx:ev l x=some (.slice (adr p) n k)) (hy:ev l y=some (.slice none n2 k2)):Yc P l c (.binOp .eql t x y t2) (.bool (decide (p=none))):=by
 unfold Yc;intro a w ha _ d ty ps af g
 have hr:=zfP h.run (adr p) n k n2 k2 w
 rw[zau] at hr
 simp[execOp,ha.eval hx,ha.eval hy,eqGuard,binOp,hr]
theorem zpE {t t2:TypeId} {e size:Nat} {x y:Operand} {p:Pt} {n k n2 k2:Nat} [h:SliceT P t e size] (hx:ev l x=some (.slice (adr p) n k)) (hy:ev l y=some (.slice none n2 k2)):Yc P l c (.binOp .neq t x y t2) (.bool (decide (p≠none))):=by
 unfold Yc;intro a w ha _ d ty ps af g
 have hr:=zfP h.run (adr p) n k n2 k2 w
 rw[zau] at hr
 simp[execOp,ha.eval hx,ha.eval hy,eqGuard,binOp,hr]
theorem zrb {t e size:Nat} {x:Operand} {p:Option Addr} {len cap:Nat} [h:SliceT P t e size] (hx:ev l x=some (.slice p len cap)) :
  Yc P l c (.call { callee:=.builtin .cap,args:=#[x],argTypes:=#[t] }) (.int .i64 cap):=by
 unfold Yc;intro a w ha _ d ty ps af g
 simp[execOp,ha.eval hx,resolve,invoke,builtin,Builtin.cap_,run_underlying h.run,goInt]
theorem zoh {t t2:TypeId} {x y:Operand} {k:IntKind} {m n:Int} (hx:ev l x=some (.int k m)) (hy:ev l y=some (.int k n)):Yc P l c (.call { callee:=.builtin .max,args:=#[x,y],argTypes:=#[t,t2] }) (.int k (if m<n then n else m)):=by
 unfold Yc;intro a w ha _ d ty ps af g
 simp[execOp,ha.eval hx,ha.eval hy,resolve,invoke,builtin,Builtin.max_,Builtin.max2]
theorem zog {t t2:TypeId} {x y:Operand} {k:IntKind} {m n:Int} (hx:ev l x=some (.int k m)) (hy:ev l y=some (.int k n)):Yc P l c (.call { callee:=.builtin .min,args:=#[x,y],argTypes:=#[t,t2] }) (.int k (if n<m then n else m)):=by
 unfold Yc;intro a w ha _ d ty ps af g
 simp[execOp,ha.eval hx,ha.eval hy,resolve,invoke,builtin,Builtin.min_,Builtin.min2]
def evB (l:Fr):Option Operand→Int→Option Int
 | none,d=>some d
 | some x,_=>match ev l x with
  | some (.int _ n)=>some n
  | _=>none
theorem zcY {lo:Option Operand} {dflt z:Int} {a:Act} (ha:Ag l a) (h:evB l lo dflt=some z):(lo=none∧z=dflt)∨(∃ x k,lo=some x∧a.eval x=.int k z):=by
 cases lo with
 | none=>simp[evB] at h;exact .inl ⟨rfl,h.symm⟩
 | some x=>
  simp only[evB] at h
  split at h
  ·rename_i k n hx;cases h;exact .inr ⟨x,k,rfl,ha.eval hx⟩
  ·cases h
def slc (size:Nat) (s:Sl) (a b:Int):Sl:=⟨if s.c=a.toNat then s.p else s.p.map fun q=>(q.1,q.2+a.toNat*size),(b-a).toNat,s.c-a.toNat⟩
theorem yA {w:World} {kk:IntKind} {z:Int} {y:Nat} {code:BoundsCode} (h0:0≤z) (h1:z≤y):(Instr.sliceBound (.int kk z) y code).run P w=.ok z.toNat w:=by
 simp[Instr.sliceBound,asIntOf,h0,h1]
theorem zkj {w:World} {ac:Act} {lo hi:Option Operand} {n k:Nat} {a b:Int} (ha:Ag l ac) (hlo:evB l lo 0=some a) (hhi:evB l hi n=some b) (h0:0≤a) (h1:a≤b) (h2:b≤k) :
  (Instr.sliceBounds true n k (lo.map ac.eval) (hi.map ac.eval) none).run P w=.ok (a.toNat,b.toNat,k) w:=by
 have hb0:0≤b:=by omega
 have hab:a≤(b.toNat:Int):=by omega
 rcases zcY ha hlo with ⟨rfl,rfl⟩ | ⟨xl,kl,rfl,hl⟩ <;> rcases zcY ha hhi with ⟨rfl,rfl⟩ | ⟨xh,kh,rfl,hh⟩
 ·simp[Instr.sliceBounds]
 ·simp[Instr.sliceBounds,hh,yA hb0 h2]
 ·simp only[Int.toNat_natCast] at hab
  simp[Instr.sliceBounds,hl,yA h0 hab]
 ·simp[Instr.sliceBounds,hl,hh,yA hb0 h2,yA h0 hab]
theorem zft {t e size:Nat} {x:Operand} {lo hi:Option Operand} {p:Pt} {n k:Nat} {a b:Int} [h:SliceT P t e size] (hx:ev l x=some (.slice (adr p) n k)) (hlo:evB l lo 0=some a) (hhi:evB l hi n=some b)
  (h0:0≤a) (h1:a≤b) (h2:b≤k):Yc P l c (.slice t x lo hi none) (eL (slc size ⟨p,n,k⟩ a b)):=by
 unfold Yc;intro ac w ha _ d ty ps af g
 have e1:(b-a).toNat=b.toNat-a.toNat:=by omega
 have hadr:adr (if k=a.toNat then p else p.map fun q=>(q.1,q.2+a.toNat*size))=if k=a.toNat then adr p else (adr p).map (·.add (a.toNat*size)):=by
  split
  ·rfl
  ·cases p with
   | none=>rfl
   | some q=>obtain⟨u,v⟩:=q;simp[adr,Addr.add_lit]
 have hb:=zkj (P:=P) (w:=w) ha hlo hhi h0 h1 h2
 simp only[execOp,ha.eval hx,Instr.sliceAt,Instr.slice,Sem.run_bind,run_underlying h.run,Result.andThen_ok,hb,h.size,Sem.run_pure,slc,eL,hadr,e1,Option.map_none]
theorem znK {t n e size b o:Nat} {x:Operand} [h:ArrayT P t n e size] (hx:ev l x=some (.pointer (some ⟨b,o,none⟩))):Yc P l c (.slice t x none none none) (.slice (some ⟨b,o,none⟩) n n):=by
 unfold Yc;intro ac w ha _ d ty ps af g
 simp[execOp,ha.eval hx,Instr.sliceAt,Instr.sliceBounds,run_underlying h.run,h.size,Instr.sureAddr,Addr.add]
end
/-! ### What is appended,copied -/
theorem zrH {P:Program} {w0:World} {S0 S:Mem} {V:Hp} {b o m size c2:Nat} {vs:List Value} (h:S.part b o (m*size)=some vs):∀ w,St w0 S0 S V w→(Builtin.firstCells size m (.slice (some ⟨b,o,none⟩) m c2)).run P w=.ok vs.toArray w:=fun w hS=>by
 have:=zci (P:=P) (jw h w hS) (qL h)
 simpa [Builtin.firstCells] using this
theorem zgS {P:Program} {w0:World} {S0 S:Mem} {V:Hp} {b o m size c2:Nat} {vs:List Value} (n:Nat) {ty:TypeId} {cs:List Value} (hn:nthL V n=some ⟨b,ty,cs⟩) (h:lpart cs o (m*size)=some vs) (hty:Nat.beq ty itT=false:=by rfl):∀ w,St w0 S0 S V w→(Builtin.firstCells size m (.slice (some ⟨b,o,none⟩) m c2)).run P w=.ok vs.toArray w:=fun w hS=>by
 have:=zci (P:=P) (zD n hn h hty w hS) (qE h).2.2
 simpa [Builtin.firstCells] using this
theorem znT {P:Program} {w0:World} {S0 S:Mem} {V:Hp} {size m c2:Nat}:∀ w,St w0 S0 S V w→(Builtin.firstCells size m (.slice none m c2)).run P w=.ok (List.toArray []) w:=fun w _=>by simp[Builtin.firstCells]
def sp (S:Mem) (s:Sl) (size:Nat) (K:List Value→Prop):Prop:=∃ vs,((s.p=none∧s.n=0∧vs=[])∨∃ b o,s.p=some (b,o)∧S.part b o (s.n*size)=some vs)∧vs.all (·.oneCell')=true∧K vs
theorem zbq {P:Program} {w0:World} {S0 S:Mem} {V:Hp} {s:Sl} {size:Nat} {vs:List Value} (h:(s.p=none∧s.n=0∧vs=[])∨∃ b o,s.p=some (b,o)∧S.part b o (s.n*size)=some vs) :
  (∀ w,St w0 S0 S V w→(Builtin.firstCells size s.n (eL s)).run P w=.ok vs.toArray w)∧vs.length=s.n*size:=by
 obtain⟨p,n,c⟩:=s
 rcases h with ⟨h1,h2,rfl⟩ | ⟨b,o,h1,h2⟩
 ·simp only at h1 h2;subst h1;subst h2
  exact⟨znT,by simp⟩
 ·simp only at h1 h2;subst h1
  exact⟨zrH h2,qL h2⟩
def ap (S:Mem) (e:TypeId) (size bytes:Nat) (z:List Value) (s:Sl) (m:Nat) (vs:List Value) (K:Sl→Mem→Prop):Prop:=
 (2*(s.n+m)+1024)*bytes≤281474976710656 ∧
 (s.n+m≤s.c→(s.p=none∧vs=[]∧K ⟨none,s.n+m,s.c⟩ S)∨∃ b o,s.p=some (b,o)∧S.room b (o+s.n*size) (m*size)∧K ⟨s.p,s.n+m,s.c⟩ (S.put b (o+s.n*size) vs)) ∧
 (s.c<s.n+m→∃ old,((s.p=none∧s.n=0∧old=[])∨∃ b o,s.p=some (b,o)∧S.part b o (s.n*size)=some old) ∧
  ∀ b' c',S b'=none→s.n+m≤c'→c'<9223372036854775808→K ⟨some (b',0),s.n+m,c'⟩ (S.set b' (bw e (old++vs++zrep (c'-(s.n+m)) z))))
theorem zhK (need:Nat):∀ (r c:Nat),c≤2*need+1024→Builtin.growBy need r c≤2*need+1024
 | 0,c,h=>h
 | r+1,c,h=>by
  unfold Builtin.growBy
  split
  ·exact h
  ·exact zhK need r _ (by omega)
theorem zeW {need c:Nat} (h:c<need):Builtin.nextslicecap need c≤2*need+1024:=by
 unfold Builtin.nextslicecap
 split
 ·omega
 ·split
  ·omega
  ·exact zhK _ _ _ (by omega)
theorem zaP (z:List Value) (n:Nat) (h:0<z.length):Builtin.zeroCells z.toArray n=(zrep n z).toArray:=by
 have:=jO z n h
 simpa [Builtin.zeroCells,madeCells] using this
section
variable {P:Program} {w0:World} {S0:Mem} {opl:List Oper} {Q:Exit→Act→World→Prop} {rest:List Oper} {l:Fr} {S:Mem} {V:Hp}
variable {d:Option Tmp} {op:Op} {ty:TypeId} {ps:String} {af:Array Edge} {g:Option (Nat×Bool)}
theorem zrv {t e size bytes:Nat} {z:List Value} {x y:Operand} {kl kc:IntKind} {n c:Int} [h:ElemT P t e z size bytes] (hw:wantL opl l g=some true) (hx:ev l x=some (.int kl n)) (hy:ev l y=some (.int kc c))
  (h0:0≤n) (hnc:n≤c) (hb:(bytes:Int)*c≤281474976710656) (h63:c≤9223372036854775807)
  (k:∀ b,WL P w0 S0 opl Q rest (putn l d (.slice (some ⟨b,0,none⟩) n.toNat c.toNat)) S (V++[⟨b,e,zrep c.toNat z⟩])) (hty:Nat.beq e itT=false:=by rfl):WL P w0 S0 opl Q (⟨d,.makeSlice t x y,ty,ps,af,g⟩ :: rest) l S V:=by
 unfold WL at k ⊢
 intro a w ha hS
 refine wpList_step fun K hK=>?_
 rw[if_pos (qu (o:=⟨d,.makeSlice t x y,ty,ps,af,g⟩) hw ha)]
 unfold Oper.wp
 obtain⟨i,v,h1,h2,h3,h4,h5⟩:=h.info
 have hr:=run_make (P:=P) w t e i v h.sl h1 h2 kl kc n c h0 hnc (by rw[h5];exact hb) h63
 rw[h3,h4,←h.len,jO z _ (by rw[h.len];exact h.pos)] at hr
 have:(execOp a.eval ⟨d,.makeSlice t x y,ty,ps,af,g⟩).run P w=.ok (.value (.slice (some ⟨w.heap.size,0,none⟩) n.toNat c.toNat)) (w.alloc (.cells (zrep c.toNat z).toArray e)):=by
  simp[execOp,ha.eval hx,ha.eval hy,hr]
 rw[this]
 exact hK _ _ (k w.heap.size _ _ (ha.put d _) (hS.alloc _ e hty))
theorem zjr {t e size bytes n:Nat} {z cs:List Value} {qs:List (Nat×Operand)} {vs:List (Nat×Value)} [h:ElemT P t e z size bytes] (hw:wantL opl l g=some true) (hx:evp l qs=some vs)
  (hn:n*size≤16777216) (hf:fillS (fun i=>some (i*size,size)) (zrep n z) vs=some cs)
  (k:∀ b,WL P w0 S0 opl Q rest (putn l d (.slice (some ⟨b,0,none⟩) n n)) S (V++[⟨b,e,cs⟩])) (hty:Nat.beq e itT=false:=by rfl):WL P w0 S0 opl Q (⟨d,.buildSlice t n qs.toArray,ty,ps,af,g⟩ :: rest) l S V:=by
 unfold WL at k ⊢
 intro a w ha hS
 refine wpList_step fun K hK=>?_
 rw[if_pos (qu (o:=⟨d,.buildSlice t n qs.toArray,ty,ps,af,g⟩) hw ha)]
 unfold Oper.wp
 obtain⟨i,v,h1,h2,h3,h4,h5⟩:=h.info
 have he:=ha.evalp hx
 have hm:(qs.toArray.map fun x=>(x.1,a.eval x.2))=vs.toArray:=by rw[←he];simp
 have hfill:=gO _ _ _ _ hf
 have hz:madeCells z.toArray (n*size)=(zrep n z).toArray:=by rw[←h.len];exact jO z n (by rw[h.len];exact h.pos)
 have hs:∀ w,(sizeOf e).run P w=.ok size w:=fun w=>by simp[sizeOf,typeInfo,h1,h4]
 have hzv:∀ w,(zeroValue e).run P w=.ok v w:=fun w=>by simp[zeroValue,typeInfo,h1,h2]
 have:(execOp a.eval ⟨d,.buildSlice t n qs.toArray,ty,ps,af,g⟩).run P w=.ok (.value (.slice (some ⟨w.heap.size,0,none⟩) n n)) (w.alloc (.cells cs.toArray e)):=by
  simp only[execOp,hm,Instr.buildSlice,Sem.run_bind,run_underlying h.sl,Result.andThen_ok,hs]
  rw[if_neg (by simp;omega)]
  by_cases h0:n*size=0
  ·have e0:(Array.range (n*size)).map (fun x=>(#[]:Array Value)[x%(#[]:Array Value).size]!)=(zrep n z).toArray:=by rw[←hz,h0];simp[madeCells]
   rw[if_pos h0]
   simp only[Sem.run_bind,Sem.run_pure,Result.andThen_ok,e0,hfill]
   rfl
  ·rw[if_neg h0]
   have e1:(Array.range (n*size)).map (fun x=>(z.toArray)[x%(z.toArray).size]!)=(zrep n z).toArray:=hz
   simp only[Sem.run_bind,hzv,Result.andThen_ok,h3,Sem.run_pure,e1,hfill]
   rfl
 rw[this]
 exact hK _ _ (k w.heap.size _ _ (ha.put d _) (hS.alloc _ e hty))
theorem gf {t e size bytes:Nat} {z:List Value} {x y:Operand} {sx:Sl} {ay:Option Addr} {m c2:Nat} {vs:List Value} {K:Sl→Mem→Prop} [h:ElemT P t e z size bytes] (hw:wantL opl l g=some true)
  (hx:ev l x=some (eL sx)) (hy:ev l y=some (.slice ay m c2)) (hv:∀ w,St w0 S0 S V w→(Builtin.firstCells size m (.slice ay m c2)).run P w=.ok vs.toArray w) (hl:vs.length=m*size) (h1:vs.all (·.oneCell')=true) (hb:bytes≠0)
  (H:ap S e size bytes z sx m vs K) (k:∀ r S',K r S'→WL P w0 S0 opl Q rest (putn l d (eL r)) S' V) (hty:Nat.beq e itT=false:=by rfl) :
  WL P w0 S0 opl Q (⟨d,.call { callee:=.builtin .append,args:=#[x,y],argTypes:=#[t,t] },ty,ps,af,g⟩ :: rest) l S V:=by
 unfold WL at k ⊢
 intro a w ha hS
 refine wpList_step fun KK hKK=>?_
 rw[if_pos (qu (o:=⟨d,.call { callee:=.builtin .append,args:=#[x,y],argTypes:=#[t,t] },ty,ps,af,g⟩) hw ha)]
 unfold Oper.wp
 obtain⟨i,v0,i1,i2,i3,i4,i5⟩:=h.info
 have hs:∀ w,(sizeOf e).run P w=.ok size w:=fun w=>by simp[sizeOf,typeInfo,i1,i4]
 have hti:∀ w,(typeInfo e).run P w=.ok i w:=fun w=>by simp[typeInfo,i1]
 have hzv:∀ w,(zeroValue e).run P w=.ok v0 w:=fun w=>by simp[zeroValue,typeInfo,i1,i2]
 obtain⟨lim,hin,hgr⟩:=H
 obtain⟨p,n,cc⟩:=sx
 simp only at lim hin hgr
 have hv:=hv w hS
 by_cases hcap:n+m≤cc
 ·rcases hin hcap with ⟨hp,hvs,hK⟩ | ⟨b,o,hp,hpart,hK⟩
  ·subst hp;subst hvs
   have:(execOp a.eval ⟨d,.call { callee:=.builtin .append,args:=#[x,y],argTypes:=#[t,t] },ty,ps,af,g⟩).run P w=.ok (.value (eL ⟨none,n+m,cc⟩)) w:=by
    simp[execOp,resolve,invoke,builtin,ha.eval hx,ha.eval hy,eL,adr,Builtin.append_,run_underlying h.sl,hs,Builtin.lenOf,hcap,hv]
   rw[this]
   exact hKK _ _ (k _ _ hK _ _ (ha.put d _) hS)
  ·subst hp
   obtain⟨kb,hkb,hfr,hlp⟩:=hpart
   have hm:=hS.mem b kb hkb
   rw[hfr] at hm
   have hst:=run_storeCells_at (P:=P) b (o+n*size) kb.ty vs 0 kb.cs.toArray w hm (by simp;omega) (fun v hv=>List.all_eq_true.1 h1 v hv)
   simp only[Nat.add_zero] at hst
   rw[←xi kb.cs (o+n*size) vs (by omega)] at hst
   have:(execOp a.eval ⟨d,.call { callee:=.builtin .append,args:=#[x,y],argTypes:=#[t,t] },ty,ps,af,g⟩).run P w=.ok (.value (eL ⟨some (b,o),n+m,cc⟩)) (w.setRow b (spl kb.cs (o+n*size) vs).toArray):=by
    simp[execOp,resolve,invoke,builtin,ha.eval hx,ha.eval hy,eL,adr,Builtin.append_,run_underlying h.sl,hs,Builtin.lenOf,hcap,hv,Addr.add_lit,hst]
   rw[this]
   exact hKK _ _ (k _ _ hK _ _ (ha.put d _) (hS.putS hkb _))
 ·obtain⟨old,hold,hK⟩:=hgr (by omega)
  have hlim:¬281474976710656<Builtin.nextslicecap (n+m) cc*i.bytes:=by
   have h1:=zeW (need:=n+m) (c:=cc) (by omega)
   have h2:=Nat.mul_le_mul_right i.bytes h1
   rw[i5] at h2 ⊢
   omega
  have hi0:¬i.bytes=0:=by rw[i5];exact hb
  have hof:(Builtin.firstCells size n (.slice (adr p) n cc)).run P w.drew=.ok old.toArray w.drew:=by
   have:=(zbq (P:=P) (w0:=w0) (S0:=S0) (S:=S) (V:=V) (s:=⟨p,n,cc⟩) (size:=size) (vs:=old) hold).1 _ hS.drew
   exact this
  have hv':(Builtin.firstCells size m (.slice ay m c2)).run P w.drew=.ok vs.toArray w.drew:=by
   have:=‹∀ w,St w0 S0 S V w→(Builtin.firstCells size m (.slice ay m c2)).run P w=.ok vs.toArray w› _ hS.drew
   exact this
  let nc:=Question.cut (.appendCap (n+m) cc e) (w.tape w.drawn (.appendCap (n+m) cc e))
  have hnc:n+m≤nc∧nc<9223372036854775808:=by
   have:n+m<9223372036854775808:=by
    have:1≤bytes:=by omega
    have:=Nat.mul_le_mul_left (2*(n+m)+1024) this
    omega
   have h2:w.tape w.drawn (.appendCap (n+m) cc e)%(2 ^ 63-(n+m))<2 ^ 63-(n+m):=Nat.mod_lt _ (by omega)
   simp only[nc,Question.cut]
   omega
  have:(execOp a.eval ⟨d,.call { callee:=.builtin .append,args:=#[x,y],argTypes:=#[t,t] },ty,ps,af,g⟩).run P w=.ok (.value (eL ⟨some (w.heap.size,0),n+m,nc⟩)) (w.drew.alloc (.cells (old++vs++zrep (nc-(n+m)) z).toArray e)):=by
   have hz:=zaP z (nc-(n+m)) (by rw[h.len];exact h.pos)
   simp only[nc] at hz
   simp[execOp,resolve,invoke,builtin,ha.eval hx,ha.eval hy,eL,Builtin.append_,run_underlying h.sl,hs,hti,hzv,Builtin.lenOf,hcap,hi0,hlim,hof,hv',choose,Sem.run,Question.forced,newRow,newObj,i3,hz,nc,zjS]
  rw[this]
  refine hKK _ _ (k _ _ (hK w.heap.size nc hS.fresh hnc.1 hnc.2) _ _ (ha.put d _) ?_)
  have:=(hS.drew.alloc (old++vs++zrep (nc-(n+m)) z) e hty).publish (n:=V.length) (e:=⟨w.heap.size,e,old++vs++zrep (nc-(n+m)) z⟩) (by rw[zI];simp) hty
  have hd:dropE (V++[⟨w.heap.size,e,old++vs++zrep (nc-(n+m)) z⟩]) V.length=V:=by
   have:∀ (V:Hp) (x:Ent),dropE (V++[x]) V.length=V:=by
    intro V x
    induction V with
    | nil=>rfl
    | cons y V ih=>simp[dropE,ih]
   exact this _ _
  have this2:St w0 S0 (S.set w.heap.size (bw e (old++vs++zrep (nc-(n+m)) z))) (dropE (V++[⟨w.heap.size,e,old++vs++zrep (nc-(n+m)) z⟩]) V.length) (w.drew.alloc (.cells (old++vs++zrep (nc-(n+m)) z).toArray e)):=this
  rw[hd] at this2
  exact this2
end
end
section
open Go Go.RowKit
def lt {α:Type} (a:α) (K:α→Prop):Prop:=K a
theorem zmG {α:Type} {a:α} {K:α→Prop} (h:lt a K):∃ x,a=x∧K x:=⟨a,rfl,h⟩
theorem eqv {P:Program} {l:Fr} {c:Cond} {op:Op} {v v':Value} (h:Yc P l c op v) (e:v=v'):Yc P l c op v':=e ▸ h
theorem zei {pl:Nat→Option (Nat×Nat)} {cs:List Value}:fillS pl cs []=some cs:=rfl
theorem yC {pl:Nat→Option (Nat×Nat)} {cs out:List Value} {i off size:Nat} {v:Value} {rest:List (Nat×Value)} (hp:pl i=some (off,size)) (hl:(cellsL v).length=size) (hb:off+size≤cs.length)
  (h:fillS pl (spl cs off (cellsL v)) rest=some out):fillS pl cs ((i,v) :: rest)=some out:=by
 simp only[fillS,hp]
 rw[if_pos]
 ·exact h
 ·simp only[Bool.and_eq_true,beq_iff_eq];exact⟨hl,Nat.ble_eq_true_of_le hb⟩
theorem jD {z a:List Value} {size:Nat} (hz:z.length=size) (h:a.length=size):fillS (fun i=>some (i*size,size)) (zrep 1 z) [(0,valL a)]=some a:=by
 have e:spl (zrep 1 z) (0*size) (cellsL (valL a))=a:=by
  have:cellsL (valL a)=a:=by simp[cellsL,valL]
  rw[this,Nat.zero_mul,zgu (by simp[zrep];omega)]
 have:=yC (pl:=fun i=>some (i*size,size)) (cs:=zrep 1 z) (out:=a) (i:=0) (off:=0*size) (size:=size) (v:=valL a) (rest:=[]) rfl (by simp[cellsL,valL,h]) (by simp[zrep];omega) (by rw[e];rfl)
 exact this
theorem ge {cs vs:List Value} {o n m:Nat} (h:cs.length=n) (hv:vs.length=m) (h2:o+m≤n):(spl cs o vs).length=n:=qn h (by omega)
section
variable {P:Program} {w0:World} {S0:Mem} {Q:Exit→Act→World→Prop} {l:Fr} {S:Mem} {V:Hp}
end
end
section
open Go Go.RowKit
inductive CK where
 | i (k:IntKind)
 | b
 | s
def fit1:CK→Value→Bool
 | .i k,.int k' _=>decide (k=k')
 | .b,.bool _=>true
 | .s,.string _=>true
 | _,_=>false
def fits:List CK→List Value→Bool
 | [],[]=>true
 | k :: ks,v :: vs=>fit1 k v && fits ks vs
 | _,_=>false
def eq1:Value→Value→Bool
 | .int _ m,.int _ n=>m == n
 | .bool a,.bool b=>a == b
 | .string a,.string b=>a.toList == b.toList
 | _,_=>false
def eqL:List Value→List Value→Bool
 | [],[]=>true
 | x :: xs,y :: ys=>eq1 x y && eqL xs ys
 | _,_=>false
theorem vz:∀ {ks:List CK} {vs:List Value},fits ks vs=true→vs.length=ks.length
 | [],[],_=>rfl
 | [],_ :: _,h=>by simp[fits] at h
 | _ :: _,[],h=>by simp[fits] at h
 | k :: ks,v :: vs,h=>by simp only[fits,Bool.and_eq_true] at h;simp[vz h.2]
theorem kV:∀ {ks ks':List CK} {vs:List Value},fits (ks++ks') vs=true→fits ks (vs.take ks.length)=true∧fits ks' (vs.drop ks.length)=true
 | [],ks',vs,h=>by simpa [fits] using h
 | k :: ks,ks',[],h=>by simp[fits] at h
 | k :: ks,ks',v :: vs,h=>by
  simp only[List.cons_append,fits,Bool.and_eq_true] at h
  have:=kV h.2
  simp[fits,h.1,this]
theorem zfj:∀ (n:Nat) (xs ys:List Value),xs.length=ys.length→eqL xs ys=(eqL (xs.take n) (ys.take n) && eqL (xs.drop n) (ys.drop n))
 | 0,xs,ys,_=>by simp[eqL]
 | n+1,[],[],_=>by simp[eqL]
 | n+1,[],_ :: _,h=>by simp at h
 | n+1,_ :: _,[],h=>by simp at h
 | n+1,x :: xs,y :: ys,h=>by
  simp only[eqL,List.take_succ_cons,List.drop_succ_cons]
  rw[zfj n xs ys (by simpa using h),Bool.and_assoc]
theorem zpa {k:CK} {x y:Value} (hx:fit1 k x=true) (hy:fit1 k y=true):eq1 x y=true↔x=y:=by
 cases k <;> cases x <;> simp only[fit1,Bool.false_eq_true] at hx <;> cases y <;> simp only[fit1,Bool.false_eq_true] at hy
 ·simp only[decide_eq_true_eq] at hx hy;subst hx;subst hy;simp[eq1]
 ·simp[eq1]
 ·simp only[eq1,beq_iff_eq,Value.string.injEq]
  constructor
  ·intro h
   rw[ByteArray.toList_eq,ByteArray.toList_eq] at h
   rename_i a b
   cases a;cases b
   simp only[ByteArray.mk.injEq] at h ⊢
   exact Array.toList_inj.1 h
  ·rintro rfl;rfl
theorem zcZ:∀ {ks:List CK} {xs ys:List Value},fits ks xs=true→fits ks ys=true→(eqL xs ys=true↔xs=ys)
 | [],[],[],_,_=>by simp[eqL]
 | [],_ :: _,_,h,_=>by simp[fits] at h
 | [],[],_ :: _,_,h=>by simp[fits] at h
 | _ :: _,[],_,h,_=>by simp[fits] at h
 | _ :: _,_ :: _,[],_,h=>by simp[fits] at h
 | k :: ks,x :: xs,y :: ys,hx,hy=>by
  simp only[fits,Bool.and_eq_true] at hx hy
  simp only[eqL,Bool.and_eq_true,zpa hx.1 hy.1,zcZ hx.2 hy.2,List.cons.injEq]
def fieldsK (P:Program) (f:TypeId→Option (List CK)):List Field→Nat→Option (List CK)
 | [],_=>some []
 | g :: gs,o=>match f g.type with
  | none=>none
  | some ks => if g.name != "_" && Nat.beq g.offset o && ((P.info? g.type).map (·.size) == some ks.length) then (fieldsK P f gs (o + ks.length)).map (ks ++ ·) else none
def kindsOf (P:Program):Nat→TypeId→Option (List CK)
 | 0,_=>none
 | d+1,t=>match P.underlying t with
  | some .bool=>some [.b]
  | some (.int k)=>some [.i k]
  | some .string=>some [.s]
  | some (.array n e)=>match kindsOf P d e with
   | some ks=>if (P.info? e).map (·.size) == some ks.length then some (List.replicate n ks).flatten else none
   | none=>none
  | some (.struct fs)=>if P.stoodInHeld t then none else fieldsK P (kindsOf P d) fs.toList 0
  | _=>none
def aggT (P:Program) (t:TypeId):Bool:=match P.underlying t with
 | some (.array _ _)=>true
 | some (.struct _)=>true
 | _=>false
def vOf (a:Bool) (xs:List Value):Value:=match a with
 | true=>.agg xs.toArray
 | false=>xs.headD undef
section
variable {P:Program}
theorem zhH {d:Nat} {t:TypeId} {ks:List CK} (h:kindsOf P d t=some ks) (ha:aggT P t=false):ks.length=1:=by
 cases d with
 | zero=>simp[kindsOf] at h
 | succ d=>
  simp only[kindsOf] at h
  simp only[aggT] at ha
  split at h <;> simp_all <;> (cases h;rfl)
theorem zki {t:TypeId} (hu:∃ u,P.underlying t=some u) (w:World):(isAgg t).run P w=.ok (aggT P t) w:=by
 obtain⟨u,hu⟩:=hu
 cases u <;> simp[isAgg,run_underlying hu,aggT,hu]
theorem zma {d:Nat} {t:TypeId} {ks:List CK} (h:kindsOf P d t=some ks):∃ u,P.underlying t=some u:=by
 cases d with
 | zero=>simp[kindsOf] at h
 | succ d=>
  simp only[kindsOf] at h
  cases hu:P.underlying t with
  | none=>rw[hu] at h;simp at h
  | some u=>exact⟨u,rfl⟩
theorem zch {d:Nat} {t:TypeId} {ks:List CK} (h:kindsOf P d t=some ks) (hs:(P.info? t).map (·.size)=some ks.length) {cs:List Value} {o:Nat} (hf:fits ks ((cs.drop o).take ks.length)=true) (w:World) :
  (part t cs.toArray o).run P w=.ok (vOf (aggT P t) ((cs.drop o).take ks.length)) w:=by
 have hagg:=zki (zma h)
 cases ha:aggT P t with
 | true=>
  obtain⟨i,hi,hsz⟩:=Option.map_eq_some_iff.1 hs
  have hsize:(sizeOf t).run P w=.ok ks.length w:=by simp[sizeOf,typeInfo,hi,hsz]
  simp[part,hagg,ha,hsize,vOf,List.extract_eq_take_drop]
 | false=>
  have h1:=zhH h ha
  have hl:=vz hf
  rw[h1] at hl ⊢
  have:cs[o]? = ((cs.drop o).take 1)[0]?:=by simp
  cases hc:(cs.drop o).take 1 with
  | nil=>rw[hc] at hl;simp at hl
  | cons v r=>
   rw[hc] at this
   simp at this
   simp[part,hagg,ha,vOf,this]
theorem zhR {d dd:Nat} (ih:∀ t ks,kindsOf P d t=some ks→∀ w xs ys,fits ks xs=true→fits ks ys=true→(Op.equalIn dd t (vOf (aggT P t) xs) (vOf (aggT P t) ys)).run P w=.ok (eqL xs ys) w) (cs ds:List Value) (hl:cs.length=ds.length) :
  ∀ (gs:List Field) (o:Nat) (ks:List CK),fieldsK P (kindsOf P d) gs o=some ks→fits ks (cs.drop o)=true→fits ks (ds.drop o)=true→∀ w,(Op.eqFields dd cs.toArray ds.toArray gs).run P w=.ok (eqL (cs.drop o) (ds.drop o)) w
 | [],o,ks,h,h1,h2,w=>by
  simp[fieldsK] at h;subst h
  have e1:=vz h1;have e2:=vz h2
  rw[List.length_eq_zero_iff.1 e1,List.length_eq_zero_iff.1 e2]
  simp[Op.eqFields,eqL]
 | g :: gs,o,ks,h,h1,h2,w=>by
  simp only[fieldsK] at h
  split at h
  ·cases h
  ·rename_i k1 hk
   split at h
   ·rename_i hc
    simp only[Bool.and_eq_true,bne_iff_ne,ne_eq,beq_iff_eq] at hc
    obtain⟨⟨hn,ho⟩,hsz⟩:=hc
    have ho:=Nat.eq_of_beq_eq_true ho
    obtain⟨k2,hk2,rfl⟩:=Option.map_eq_some_iff.1 h
    obtain⟨a1,a2⟩:=kV h1
    obtain⟨b1,b2⟩:=kV h2
    rw[List.drop_drop] at a2 b2
    have r1:=zhR ih cs ds hl gs _ k2 hk2 a2 b2 w
    simp only[Op.eqFields,hn,ne_eq,not_false_eq_true,if_true,Sem.run_bind,ho,zch hk hsz a1,zch hk hsz b1,Result.andThen_ok,ih _ _ hk w _ _ a1 b1]
    rw[zfj k1.length (cs.drop o) (ds.drop o) (by simp[hl]),List.drop_drop,List.drop_drop]
    cases hb:eqL ((cs.drop o).take k1.length) ((ds.drop o).take k1.length) with
    | true=>simpa using r1
    | false=>simp
   ·cases h
theorem zjN {d dd:Nat} {e:TypeId} {k1:List CK} (ih:∀ w xs ys,fits k1 xs=true→fits k1 ys=true→(Op.equalIn dd e (vOf (aggT P e) xs) (vOf (aggT P e) ys)).run P w=.ok (eqL xs ys) w) (hk:kindsOf P d e=some k1) (hsz:(P.info? e).map (·.size)=some k1.length)
  (cs ds:List Value) (hl:cs.length=ds.length):∀ (n i:Nat),fits (List.replicate n k1).flatten (cs.drop (i*k1.length))=true→fits (List.replicate n k1).flatten (ds.drop (i*k1.length))=true→∀ w,
   (Op.eqItems dd e k1.length cs.toArray ds.toArray (List.range' i n)).run P w=.ok (eqL (cs.drop (i*k1.length)) (ds.drop (i*k1.length))) w
 | 0,i,h1,h2,w=>by
  have e1:=vz h1;have e2:=vz h2
  simp only[List.replicate_zero,List.flatten_nil,List.length_nil] at e1 e2
  rw[List.length_eq_zero_iff.1 e1,List.length_eq_zero_iff.1 e2]
  simp[Op.eqItems,eqL]
 | n+1,i,h1,h2,w=>by
  simp only[List.replicate_succ,List.flatten_cons] at h1 h2
  obtain⟨a1,a2⟩:=kV h1
  obtain⟨b1,b2⟩:=kV h2
  rw[List.drop_drop,show i*k1.length+k1.length=(i+1)*k1.length by rw[Nat.add_mul];omega] at a2 b2
  have r1:=zjN ih hk hsz cs ds hl n (i+1) a2 b2 w
  simp only[List.range'_succ,Op.eqItems,Sem.run_bind,zch hk hsz a1,zch hk hsz b1,Result.andThen_ok,ih w _ _ a1 b1]
  rw[zfj k1.length (cs.drop (i*k1.length)) (ds.drop (i*k1.length)) (by simp[hl]),List.drop_drop,List.drop_drop,show i*k1.length+k1.length=(i+1)*k1.length by rw[Nat.add_mul];omega]
  cases hb:eqL ((cs.drop (i*k1.length)).take k1.length) ((ds.drop (i*k1.length)).take k1.length) with
  | true=>simpa using r1
  | false=>simp
theorem zfi:∀ (d:Nat) (t:TypeId) (ks:List CK),kindsOf P d t=some ks→∀ dd w xs ys,fits ks xs=true→fits ks ys=true→(Op.equalIn (dd+d) t (vOf (aggT P t) xs) (vOf (aggT P t) ys)).run P w=.ok (eqL xs ys) w
 | 0,t,ks,h=>by simp[kindsOf] at h
 | d+1,t,ks,h=>by
  intro dd w xs ys fx fy
  have hl:xs.length=ys.length:=by rw[vz fx,vz fy]
  simp only[kindsOf] at h
  cases hu:P.underlying t with
  | none=>rw[hu] at h;simp at h
  | some u=>
   rw[hu] at h
   have scal:∀ k:CK,ks=[k]→∃ x y,xs=[x]∧ys=[y]∧fit1 k x=true∧fit1 k y=true:=by
    rintro k rfl
    match xs,ys,fx,fy with
    | [x],[y],fx,fy=>simp only[fits,Bool.and_true] at fx fy;exact⟨x,y,rfl,rfl,fx,fy⟩
    | [],_,fx,_=>simp[fits] at fx
    | [_],[],_,fy=>simp[fits] at fy
    | _ :: _ :: _,_,fx,_=>simp[fits] at fx
    | [_],_ :: _ :: _,_,fy=>simp[fits] at fy
   cases u <;> simp only[reduceCtorEq,Option.some.injEq] at h
   case bool=>
    obtain⟨x,y,rfl,rfl,h1,h2⟩:=scal _ h.symm
    cases x <;> simp only[fit1,Bool.false_eq_true] at h1
    cases y <;> simp only[fit1,Bool.false_eq_true] at h2
    simp[aggT,hu,vOf,Op.equalIn,run_underlying hu,eqL,eq1]
   case int=>
    obtain⟨x,y,rfl,rfl,h1,h2⟩:=scal _ h.symm
    cases x <;> simp only[fit1,Bool.false_eq_true] at h1
    cases y <;> simp only[fit1,Bool.false_eq_true] at h2
    simp only[decide_eq_true_eq] at h1 h2
    subst h1;subst h2
    simp[aggT,hu,vOf,Op.equalIn,run_underlying hu,eqL,eq1]
   case string=>
    obtain⟨x,y,rfl,rfl,h1,h2⟩:=scal _ h.symm
    cases x <;> simp only[fit1,Bool.false_eq_true] at h1
    cases y <;> simp only[fit1,Bool.false_eq_true] at h2
    simp[aggT,hu,vOf,Op.equalIn,run_underlying hu,eqL,eq1,beq_toListBytes]
   case array n e=>
    split at h
    ·rename_i k1 hk
     split at h
     ·rename_i hsz
      simp only[beq_iff_eq] at hsz
      obtain⟨i,hi,hi2⟩:=Option.map_eq_some_iff.1 hsz
      cases h
      have hc:P.cellsOf e=k1.length:=by simp[Program.cellsOf,hi,hi2]
      have:=zjN (dd:=dd+d) (zfi d e k1 hk dd) hk hsz xs ys hl n 0 (by simpa using fx) (by simpa using fy) w
      simp only[Nat.zero_mul,List.drop_zero] at this
      simp only[aggT,hu,vOf]
      rw[show dd+(d+1)=(dd+d)+1 from rfl,run_equalIn_array w (dd+d) xs.toArray ys.toArray hu hi,hc,List.range_eq_range']
      exact this
     ·cases h
    ·cases h
   case struct fs=>
    split at h
    ·cases h
    ·rename_i hst
     have hfs:P.fieldsOf t=fs:=by simp[Program.fieldsOf,hu]
     have:=zhR (dd:=dd+d) (fun t ks hk w xs ys=>zfi d t ks hk dd w xs ys) xs ys hl fs.toList 0 ks h (by simpa using fx) (by simpa using fy) w
     simp only[List.drop_zero] at this
     simp only[aggT,hu,vOf]
     rw[show dd+(d+1)=(dd+d)+1 from rfl,run_equalIn_struct w (dd+d) t xs.toArray ys.toArray (by rw[hfs];exact hu) (by simpa using hst),hfs]
     exact this
class EqT (P:Program) (t:TypeId) (ks:outParam (List CK)):Prop where
 kinds:kindsOf P 8 t=some ks
 agg:aggT P t=true
 guard:P.eqGuardType P.depth t=false
variable {l:Fr} {c:Cond}
theorem zmJ {t t2:TypeId} {x y:Operand} {ks:List CK} {xs ys:List Value} [h:EqT P t ks] (hx:ev l x=some (valL xs)) (hy:ev l y=some (valL ys)) (fx:fits ks xs=true) (fy:fits ks ys=true):Yc P l c (.binOp .eql t x y t2) (.bool (eqL xs ys)):=by
 unfold Yc;intro a w ha _ d ty ps af g
 have hm:=zfi 8 t ks h.kinds 9992 w xs ys fx fy
 rw[h.agg] at hm
 simp only[vOf] at hm
 simp[execOp,ha.eval hx,ha.eval hy,valL,run_eqGuard_agg w .eql t x y xs.toArray ys.toArray h.guard,run_eql_struct,hm]
theorem zof {t t2:TypeId} {x y:Operand} {ks:List CK} {xs ys:List Value} [h:EqT P t ks] (hx:ev l x=some (valL xs)) (hy:ev l y=some (valL ys)) (fx:fits ks xs=true) (fy:fits ks ys=true):Yc P l c (.binOp .neq t x y t2) (.bool (!eqL xs ys)):=by
 unfold Yc;intro a w ha _ d ty ps af g
 have hm:=zfi 8 t ks h.kinds 9992 w xs ys fx fy
 rw[h.agg] at hm
 simp only[vOf] at hm
 simp[execOp,ha.eval hx,ha.eval hy,valL,run_eqGuard_agg w .neq t x y xs.toArray ys.toArray h.guard,run_neq_struct,hm]
class BoolT (P:Program) (t:TypeId):Prop where
 run:P.underlying t=some .bool
theorem zig {t t2:TypeId} {x y:Operand} {a b:Bool} [h:BoolT P t] (hx:ev l x=some (.bool a)) (hy:ev l y=some (.bool b)):Yc P l c (.binOp .eql t x y t2) (.bool (decide (a=b))):=by
 unfold Yc;intro ac w ha _ d ty ps af g
 have:=run_equal_bool (P:=P) w t a b h.run
 simp only[execOp,ha.eval hx,ha.eval hy,eqGuard,binOp]
 simp[this];cases a <;> cases b <;> rfl
theorem zmH {t t2:TypeId} {x y:Operand} {a b:Bool} [h:BoolT P t] (hx:ev l x=some (.bool a)) (hy:ev l y=some (.bool b)):Yc P l c (.binOp .neq t x y t2) (.bool (decide (a≠b))):=by
 unfold Yc;intro ac w ha _ d ty ps af g
 have:=run_equal_bool (P:=P) w t a b h.run
 simp only[execOp,ha.eval hx,ha.eval hy,eqGuard,binOp]
 simp[this];cases a <;> cases b <;> rfl
theorem zlt (a b:ByteArray):(a.toList == b.toList)=decide (a=b):=by
 rw[ByteArray.toList_eq,ByteArray.toList_eq]
 cases a with | mk a=>cases b with | mk b=>
 by_cases h:a=b
 ·subst h;simp
 ·have:¬a.toList=b.toList:=fun h2=>h (Array.toList_inj.1 h2)
  simp[h,this]
theorem zpR {t t2:TypeId} {x y:Operand} {a b:ByteArray} (hx:ev l x=some (.string a)) (hy:ev l y=some (.string b)):Yc P l c (.binOp .eql t x y t2) (.bool (decide (a=b))):=by
 unfold Yc;intro ac w ha _ d ty ps af g
 rw[←zlt]
 simp[execOp,ha.eval hx,ha.eval hy,eqGuard,binOp,Op.stringOp]
theorem zpv {t t2:TypeId} {x y:Operand} {a b:ByteArray} (hx:ev l x=some (.string a)) (hy:ev l y=some (.string b)):Yc P l c (.binOp .neq t x y t2) (.bool (decide (a≠b))):=by
 unfold Yc;intro ac w ha _ d ty ps af g
 have h:decide (a≠b) = !(decide (a=b)):=by by_cases h:a=b <;> simp[h]
 rw[h,←zlt]
 simp[execOp,ha.eval hx,ha.eval hy,eqGuard,binOp,Op.stringOp,bne]
end
end
section
open Go Go.RowKit
class BytesT (P:Program) (t:TypeId):Prop where
 run:∃ e,P.underlying t=some (.slice e)∧P.underlying e=some (.int .u8)
class StrT (P:Program) (t:TypeId):Prop where
 run:P.underlying t=some .string
def bs (S:Mem) (s:Sl) (K:ByteArray→Prop):Prop:=∃ xs:List Int,((s.p=none∧xs=[])∨∃ b o,s.p=some (b,o)∧xs.length=s.n∧S.part b o s.n=some (xs.map (.int .u8)))∧lt (strOfNums xs) K
def bcond (s:Sl) (xs:List Int):Cond:=match s.p with
 | none=>.tt
 | some (b,o)=>.cells b o (xs.map (.int .u8))
section
variable {P:Program} {w0:World} {S0 S:Mem} {V:Hp} {l:Fr}
end
def cpy (S:Mem) (size:Nat) (d s:Sl) (K:Int→Mem→Prop):Prop:=
 sp S ⟨s.p,min s.n d.n,0⟩ size fun vs=>(d.p=none∧vs=[]∧K ((min s.n d.n:Nat):Int) S)∨∃ b o,d.p=some (b,o)∧S.room b o (min s.n d.n*size)∧K ((min s.n d.n:Nat):Int) (S.put b o vs)
def clr (S:Mem) (size:Nat) (z:List Value) (s:Sl) (K:Mem→Prop):Prop:=
 (s.p=none∨s.n=0)∧K S∨∃ b o,s.p=some (b,o)∧S.room b o (s.n*size)∧K (S.put b o (zrep s.n z))
section
variable {P:Program} {w0:World} {S0:Mem} {opl:List Oper} {Q:Exit→Act→World→Prop} {rest:List Oper} {l:Fr} {S:Mem} {V:Hp}
variable {d:Option Tmp} {op:Op} {ty:TypeId} {ps:String} {af:Array Edge} {g:Option (Nat×Bool)}
theorem zqj {t e size bytes:Nat} {z:List Value} {x y:Operand} {sd ss:Sl} {K:Int→Mem→Prop} [h:ElemT P t e z size bytes] (hw:wantL opl l g=some true)
  (hx:ev l x=some (eL sd)) (hy:ev l y=some (eL ss)) (H:cpy S size sd ss K) (k:∀ r S',K r S'→WL P w0 S0 opl Q rest (putn l d (.int .i64 r)) S' V) :
  WL P w0 S0 opl Q (⟨d,.call { callee:=.builtin .copy,args:=#[x,y],argTypes:=#[t,t] },ty,ps,af,g⟩ :: rest) l S V:=by
 unfold WL at k ⊢
 intro a w ha hS
 refine wpList_step fun KK hKK=>?_
 rw[if_pos (qu (o:=⟨d,.call { callee:=.builtin .copy,args:=#[x,y],argTypes:=#[t,t] },ty,ps,af,g⟩) hw ha)]
 unfold Oper.wp
 obtain⟨i,v0,i1,i2,i3,i4,i5⟩:=h.info
 have hs:∀ w,(sizeOf e).run P w=.ok size w:=fun w=>by simp[sizeOf,typeInfo,i1,i4]
 obtain⟨vs,hvs,h1,hK⟩:=H
 obtain⟨pd,nd,cd⟩:=sd
 obtain⟨p2,n2,c2⟩:=ss
 simp only at hvs hK
 have hfc:=(zbq (P:=P) (w0:=w0) (S0:=S0) (S:=S) (V:=V) (s:=⟨p2,min n2 nd,0⟩) (size:=size) hvs).1 w hS
 have hfc2:(Builtin.firstCells size (min n2 nd) (.slice (adr p2) n2 c2)).run P w=.ok vs.toArray w:=by
  cases hp:p2 with
  | none=>rw[hp] at hfc;simpa [Builtin.firstCells,eL,adr] using hfc
  | some q=>rw[hp] at hfc;obtain⟨u,v⟩:=q;simpa [Builtin.firstCells,eL,adr] using hfc
 rcases hK with ⟨hp,hv,hK⟩ | ⟨b,o,hp,hpart,hK⟩
 ·subst hp;subst hv
  have:(execOp a.eval ⟨d,.call { callee:=.builtin .copy,args:=#[x,y],argTypes:=#[t,t] },ty,ps,af,g⟩).run P w=.ok (.value (.int .i64 ((min n2 nd:Nat):Int))) w:=by
   have hm:Nat.min n2 nd=min n2 nd:=rfl
   simp only[eL] at hx hy
   simp[execOp,resolve,invoke,builtin,ha.eval hx,ha.eval hy,adr_none,Builtin.copy_,run_underlying h.sl,hs,Builtin.lenOf,hm,hfc2,goInt]
  rw[this]
  exact hKK _ _ (k _ _ hK _ _ (ha.put d _) hS)
 ·subst hp
  obtain⟨kb,hkb,hfr,hlp⟩:=hpart
  have hm:=hS.mem b kb hkb
  rw[hfr] at hm
  have hlen:vs.length=min n2 nd*size:=(zbq (P:=P) (w0:=w0) (S0:=S0) (S:=S) (V:=V) (s:=⟨p2,min n2 nd,0⟩) (size:=size) hvs).2
  have hst:=run_storeCells_at (P:=P) b o kb.ty vs 0 kb.cs.toArray w hm (by simp;omega) (fun v hv=>List.all_eq_true.1 h1 v hv)
  simp only[Nat.add_zero] at hst
  rw[←xi kb.cs o vs (by omega)] at hst
  have:(execOp a.eval ⟨d,.call { callee:=.builtin .copy,args:=#[x,y],argTypes:=#[t,t] },ty,ps,af,g⟩).run P w=.ok (.value (.int .i64 ((min n2 nd:Nat):Int))) (w.setRow b (spl kb.cs o vs).toArray):=by
   have hm:Nat.min n2 nd=min n2 nd:=rfl
   simp only[eL] at hx hy
   simp[execOp,resolve,invoke,builtin,ha.eval hx,ha.eval hy,zjS,Builtin.copy_,run_underlying h.sl,hs,Builtin.lenOf,hm,hfc2,goInt,hst]
  rw[this]
  exact hKK _ _ (k _ _ hK _ _ (ha.put d _) (hS.putS hkb _))
where adr_none:adr none=none:=rfl
theorem zrf {t e size bytes:Nat} {z:List Value} {x:Operand} {s:Sl} {K:Mem→Prop} [h:ElemT P t e z size bytes] (hw:wantL opl l g=some true)
  (hx:ev l x=some (eL s)) (hz:z.all (·.oneCell')=true) (H:clr S size z s K) (k:∀ S',K S'→WL P w0 S0 opl Q rest (putn l d (.tuple #[])) S' V) :
  WL P w0 S0 opl Q (⟨d,.call { callee:=.builtin .clear,args:=#[x],argTypes:=#[t] },ty,ps,af,g⟩ :: rest) l S V:=by
 unfold WL at k ⊢
 intro a w ha hS
 refine wpList_step fun KK hKK=>?_
 rw[if_pos (qu (o:=⟨d,.call { callee:=.builtin .clear,args:=#[x],argTypes:=#[t] },ty,ps,af,g⟩) hw ha)]
 unfold Oper.wp
 obtain⟨i,v0,i1,i2,i3,i4,i5⟩:=h.info
 have hzv:∀ w,(zeroValue e).run P w=.ok v0 w:=fun w=>by simp[zeroValue,typeInfo,i1,i2]
 obtain⟨p,n,c⟩:=s
 simp only[eL] at hx
 have triv:p=none∨n=0→(execOp a.eval ⟨d,.call { callee:=.builtin .clear,args:=#[x],argTypes:=#[t] },ty,ps,af,g⟩).run P w=.ok (.value (.tuple #[])) w:=by
  intro hn
  rcases hn with hn | hn
  ·subst hn
   simp[execOp,resolve,invoke,builtin,ha.eval hx,adr,Builtin.clear_,run_underlying h.sl]
  ·subst hn
   cases p with
   | none=>simp[execOp,resolve,invoke,builtin,ha.eval hx,adr,Builtin.clear_,run_underlying h.sl]
   | some q=>obtain⟨u,v⟩:=q;simp[execOp,resolve,invoke,builtin,ha.eval hx,adr,Builtin.clear_,run_underlying h.sl]
 rcases H with ⟨hn,hK⟩ | ⟨b,o,hp,hpart,hK⟩
 ·rw[triv hn]
  exact hKK _ _ (k _ hK _ _ (ha.put d _) hS)
 ·simp only at hp hpart hK
  subst hp
  obtain⟨kb,hkb,hfr,hlp⟩:=hpart
  have hm:=hS.mem b kb hkb
  rw[hfr] at hm
  by_cases hn:n=0
  ·rw[triv (.inr hn)]
   subst hn
   have:S.put b o (zrep 0 z)=S:=by
    funext q
    unfold Mem.put
    by_cases hq:q=b
    ·subst hq
     rw[if_pos rfl,hkb]
     simp only[Option.map_some,zrep]
     rw[xi _ _ _ (by omega)]
     simp
    ·rw[if_neg hq]
   rw[this] at hK
   exact hKK _ _ (k _ hK _ _ (ha.put d _) hS)
  ·have hall:(zrep n z).all (·.oneCell')=true:=by
    have:∀ n,(zrep n z).all (·.oneCell')=true:=fun n=>by
     induction n with
     | zero=>rfl
     | succ n ih=>simp only[zrep,List.all_append,hz,ih,Bool.and_self]
    exact this n
   have hlen:(zrep n z).length=n*size:=by rw[kK,h.len]
   have hst:=run_storeCells_at (P:=P) b o kb.ty (zrep n z) 0 kb.cs.toArray w hm (by simp;omega) (fun v hv=>List.all_eq_true.1 hall v hv)
   simp only[Nat.add_zero] at hst
   rw[←xi kb.cs o (zrep n z) (by omega)] at hst
   have hzc:=zaP z n (by rw[h.len];exact h.pos)
   obtain⟨m,rfl⟩:∃ m,n=m+1:=⟨n-1,by omega⟩
   have:(execOp a.eval ⟨d,.call { callee:=.builtin .clear,args:=#[x],argTypes:=#[t] },ty,ps,af,g⟩).run P w=.ok (.value (.tuple #[])) (w.setRow b (spl kb.cs o (zrep (m+1) z)).toArray):=by
    simp[execOp,resolve,invoke,builtin,ha.eval hx,adr,Builtin.clear_,run_underlying h.sl,hzv,i3,hzc,hst]
   rw[this]
   exact hKK _ _ (k _ hK _ _ (ha.put d _) (hS.putS hkb _))
end
section
variable {P:Program} {l:Fr} {c:Cond}
theorem zpH {t:TypeId} {x:Operand} {s:ByteArray} [h:StrT P t] (hx:ev l x=some (.string s)):Yc P l c (.call { callee:=.builtin .len,args:=#[x],argTypes:=#[t] }) (.int .i64 s.size):=by
 unfold Yc;intro a w ha _ d ty ps af g
 simp[execOp,ha.eval hx,resolve,invoke,builtin,Builtin.len_,run_underlying h.run,goInt]
theorem zpk {t:TypeId} {x:Operand} {lo hi:Option Operand} {s:ByteArray} {a b:Int} [h:StrT P t] (hx:ev l x=some (.string s)) (hlo:evB l lo 0=some a) (hhi:evB l hi s.size=some b)
  (h0:0≤a) (h1:a≤b) (h2:b≤s.size):Yc P l c (.slice t x lo hi none) (.string (s.extract a.toNat b.toNat)):=by
 unfold Yc;intro ac w ha _ d ty ps af g
 have hb0:0≤b:=by omega
 have hab:a≤(b.toNat:Int):=by omega
 rcases zcY ha hlo with ⟨rfl,rfl⟩ | ⟨xl,kl,rfl,hl⟩ <;> rcases zcY ha hhi with ⟨rfl,rfl⟩ | ⟨xh,kh,rfl,hh⟩
 ·simp[execOp,ha.eval hx,Instr.sliceAt,Instr.slice,run_underlying h.run,Instr.sliceBounds]
 ·simp[execOp,ha.eval hx,Instr.sliceAt,Instr.slice,run_underlying h.run,Instr.sliceBounds,hh,yA hb0 h2]
 ·simp only[Int.toNat_natCast] at hab
  simp[execOp,ha.eval hx,Instr.sliceAt,Instr.slice,run_underlying h.run,Instr.sliceBounds,hl,yA h0 hab]
 ·simp[execOp,ha.eval hx,Instr.sliceAt,Instr.slice,run_underlying h.run,Instr.sliceBounds,hl,hh,yA hb0 h2,yA h0 hab]
end
/-! strings ranged over;a slice of one's own as a string -/
section
variable {P:Program} {w0 w:World} {S0 S:Mem} {V:Hp}
theorem St.allocE (h:St w0 S0 S V w) {cs:List Value} {o:Obj} (ho:(Ent.mk w.heap.size itT cs).obj=o):St w0 S0 S (V++[⟨w.heap.size,itT,cs⟩]) (w.alloc o):=by
 refine⟨h.os,h.tape,h.output,by have:=h.size;simp;omega,fun k hk hn=>?_,fun b k hb=>?_,fun e he=>?_,?_,h.own,h.keep⟩
 ·rw[heap_alloc_old w _ (show k<w.heap.size by have:=h.size;omega)];exact h.frame k hk hn
 ·rw[heap_alloc_old w _ (h.lt hb)];exact h.mem b k hb
 ·rcases List.mem_append.1 he with he | he
  ·rw[heap_alloc_old w _ (h.ltV he)];exact h.loc e he
  ·obtain rfl:e=_:=by simpa using he
   exact⟨by rw[ho];exact heap_alloc_new w _,h.fresh,h.size⟩
 ·refine List.pairwise_append.2 ⟨h.nodup,by simp,fun x hx y hy=>?_⟩
  obtain rfl:y=_:=by simpa using hy
  have:=h.ltV hx
  simp;omega
theorem zbm (w:World) (g:Nat) (o:Obj) (k:Nat) (h:k≠g):({ w with heap:=w.heap.setIfInBounds g o }:World).heap[k]? = w.heap[k]?:=by
 simp only[Array.getElem?_setIfInBounds];rw[if_neg (by omega)]
theorem St.setI (h:St w0 S0 S V w) {n b:Nat} {cs:List Value} (hn:nthL V n=some ⟨b,itT,cs⟩) {cs':List Value} {o:Obj} (ho:(Ent.mk b itT cs').obj=o):St w0 S0 S (setE V n cs') { w with heap:=w.heap.setIfInBounds b o }:=by
 have he:=qv hn
 obtain⟨h1,h2,h3⟩:=h.loc _ he
 have hlt:=h.ltV he
 refine⟨h.os,h.tape,h.output,by simpa using h.size,fun k hk hnot=>?_,fun b' k hb=>?_,fun x hx=>?_,?_,h.own,h.keep⟩
 ·rw[zbm _ _ _ _ (by simp only at h3;omega)];exact h.frame k hk hnot
 ·rw[zbm _ _ _ _ (fun hbe=>by rw[hbe] at hb;simp only at h2;rw[h2] at hb;cases hb)];exact h.mem b' k hb
 ·rcases zjn hn x hx with rfl | ⟨m,hm,hx'⟩
  ·refine⟨?_,h2,h3⟩
   rw[ho]
   simp only at hlt
   simp[hlt]
  ·rw[zbm _ _ _ _ (zdA h.nodup hn hx' hm)];exact h.loc x (qv hx')
 ·rw[zaq,zeJ,←zaq];exact h.nodup
end
section
variable {P:Program} {w0:World} {S0:Mem} {opl:List Oper} {Q:Exit→Act→World→Prop} {rest:List Oper} {l:Fr} {S:Mem} {V:Hp}
variable {d:Option Tmp} {op:Op} {ty:TypeId} {ps:String} {af:Array Edge} {g:Option (Nat×Bool)}
end
/-! an interface value against nil -/
class IfaceT (P:Program) (t:TypeId):Prop where
 run:∃ ms,P.underlying t=some (.interface ms)
def ni (v:Value) (K:Bool→Prop):Prop:=∃ b,((v=.nilIface∧b=true)∨((∃ t u,v=.iface t u)∧b=false))∧K b
theorem zjs {P:Program} {t:TypeId} [h:IfaceT P t] {v:Value} {b:Bool} (hv:(v=.nilIface∧b=true)∨((∃ t u,v=.iface t u)∧b=false)) (w:World):(Op.equal t v .nilIface).run P w=.ok b w:=by
 obtain⟨ms,hu⟩:=h.run
 have e:Op.equal t v .nilIface=Op.equalIn (9999+1) t v .nilIface:=rfl
 rw[e,Op.equalIn]
 rcases hv with ⟨rfl,rfl⟩ | ⟨⟨tt,u,rfl⟩,rfl⟩ <;> simp[run_underlying hu]
section
variable {P:Program} {l:Fr} {c:Cond}
theorem zie {t t2:TypeId} {x:Operand} {v:Value} {b:Bool} [h:IfaceT P t] (hx:ev l x=some v) (hv:(v=.nilIface∧b=true)∨((∃ t u,v=.iface t u)∧b=false)):Yc P l c (.binOp .eql t x (.const .nilIface) t2) (.bool b):=fun a w ha _ d ty ps af g=>by
 have hr:=zjs (P:=P) (t:=t) hv w
 have e2:a.eval (.const .nilIface)=.nilIface:=rfl
 rcases hv with ⟨rfl,rfl⟩ | ⟨⟨tt,u,rfl⟩,rfl⟩ <;> simp[execOp,ha.eval hx,e2,eqGuard,binOp,hr]
theorem zok {t t2:TypeId} {x:Operand} {v:Value} {b:Bool} [h:IfaceT P t] (hx:ev l x=some v) (hv:(v=.nilIface∧b=true)∨((∃ t u,v=.iface t u)∧b=false)):Yc P l c (.binOp .neq t x (.const .nilIface) t2) (.bool (!b)):=fun a w ha _ d ty ps af g=>by
 have hr:=zjs (P:=P) (t:=t) hv w
 have e2:a.eval (.const .nilIface)=.nilIface:=rfl
 rcases hv with ⟨rfl,rfl⟩ | ⟨⟨tt,u,rfl⟩,rfl⟩ <;> simp[execOp,ha.eval hx,e2,eqGuard,binOp,hr]
end
end
section
open Go Go.RowKit
def isI (v:Value):Prop:=∃ t x,v=.iface t x
def asI (v:Value) (t:TypeId) (k:IntKind) (K:Int→Prop):Prop:=∃ n,v=.iface t (.int k n)∧K n
class MethS (P:Program) (t:TypeId) (name:String) (f:outParam FuncId):Prop where
 run:∀ cs w,(method (P.types.size+Made.depth) t (valL cs) name).run P w=.ok (f,valL cs) w
theorem zrz {P:Program} {S:Mem} {t f:Nat} {name:String} {args cs:List Value} {R:Value→Mem→Prop} [hm:MethS P t name f] [hcall:CallT P f] (h:Tr P f S (valL cs :: args) R):ci P S (.iface t (valL cs)) name args R:=
 ⟨f,_,fun w _=>by simp[callMethod,hm.run,hcall.run],h⟩
def fz (S:Mem) (b:Nat) (K:Mem→Prop):Prop:=∃ k,S b=some k∧k.fr=(0,0)∧K (S.set b ⟨k.ty,k.cs,(k.cs.length,k.cs.length+1)⟩)
theorem zdg {v:Value} (h:v.oneCell'=true):cellsL v=[v]:=by cases v <;> simp_all [cellsL,Value.oneCell']
theorem zph {v:Value} (h:v.oneCell'=true):([v]:List Value).all (·.oneCell')=true:=by simp[h]
theorem zgf {pl:Nat→Option (Nat×Nat)} {cs out:List Value} {i off:Nat} {v:Value} {rest:List (Nat×Value)} (hp:pl i=some (off,1)) (hv:v.oneCell'=true) (hb:off+1≤cs.length)
  (h:fillS pl (spl cs off [v]) rest=some out):fillS pl cs ((i,v) :: rest)=some out:=by
 refine yC hp (by rw[zdg hv];rfl) hb ?_
 rw[zdg hv];exact h
section
variable {P:Program} {w0:World} {S0:Mem} {opl:List Oper} {Q:Exit→Act→World→Prop} {rest:List Oper} {l:Fr} {S:Mem} {V:Hp} {c:Cond}
variable {d:Option Tmp} {ty:TypeId} {ps:String} {af:Array Edge} {g:Option (Nat×Bool)}
theorem zpy {x:Operand} {v:Value} (hv:isI v) (hx:ev l x=some v):Yc P l c (.nilCheck x) v:=fun a w ha _ d ty ps af g=>by
 obtain⟨t,u,rfl⟩:=hv
 simp[execOp,ha.eval hx]
theorem ziB {w:World} {ac:Act} {lo hi:Option Operand} {n k:Nat} {a b:Int} (ha:Ag l ac) (hlo:evB l lo 0=some a) (hhi:evB l hi n=some b) (h0:0≤a) (h1:a≤b) (h2:b≤k) :
  (Instr.sliceBounds false n k (lo.map ac.eval) (hi.map ac.eval) none).run P w=.ok (a.toNat,b.toNat,k) w:=by
 have hb0:0≤b:=by omega
 have hab:a≤(b.toNat:Int):=by omega
 rcases zcY ha hlo with ⟨rfl,rfl⟩ | ⟨xl,kl,rfl,hl⟩ <;> rcases zcY ha hhi with ⟨rfl,rfl⟩ | ⟨xh,kh,rfl,hh⟩
 ·simp[Instr.sliceBounds]
 ·simp[Instr.sliceBounds,hh,yA hb0 h2]
 ·simp only[Int.toNat_natCast] at hab
  simp[Instr.sliceBounds,hl,yA h0 hab]
 ·simp[Instr.sliceBounds,hl,hh,yA hb0 h2,yA h0 hab]
theorem znZ {t n e size b o:Nat} {x:Operand} {lo hi:Option Operand} {z y:Int} [h:ArrayT P t n e size] (hx:ev l x=some (.pointer (some ⟨b,o,none⟩))) (hlo:evB l lo 0=some z) (hhi:evB l hi n=some y)
  (h0:0≤z) (h1:z≤y) (h2:y≤n):Yc P l c (.slice t x lo hi none) (eL (slc size ⟨some (b,o),n,n⟩ z y)):=by
 unfold Yc;intro ac w ha _ d ty ps af g
 have e1:(y-z).toNat=y.toNat-z.toNat:=by omega
 have hb:=ziB (P:=P) (w:=w) ha hlo hhi h0 h1 h2
 have hadr:adr (if n=z.toNat then some (b,o) else (some (b,o)).map fun q=>(q.1,q.2+z.toNat*size))=some (if n=z.toNat then ⟨b,o,none⟩ else (⟨b,o,none⟩:Addr).add (z.toNat*size)):=by
  split
  ·rfl
  ·simp[adr,Addr.add_lit]
 simp only[execOp,ha.eval hx,Instr.sliceAt,Sem.run_bind,run_underlying h.run,Result.andThen_ok,hb,h.size,Sem.run_pure,slc,eL,hadr,e1,Option.map_none,Instr.sureAddr]
theorem zqZ {t:TypeId} {x i:Operand} {n e size b o m:Nat} {k:IntKind} {z:Int} [h:ArrayT P t n e size] (hx:ev l x=some (.pointer (some ⟨b,o,none⟩)))
  (hi:ev l i=some (.int k z)) (h0:0≤z) (h1:z<n) (hm:z.toNat*size=m):Yc P l c (.indexAddr t x i) (.pointer (some ⟨b,o+m,none⟩)):=wO hx hi h0 h1 (by rw[hm])
theorem zbn (w:World) (a:Addr) (n j:Nat) (h:j≠a.block):(w.freeze a n).heap[j]? = w.heap[j]?:=by
 unfold World.freeze
 split
 ·rfl
 ·simp only[Array.getElem?_modify]
  rw[if_neg (fun e=>h e.symm)]
theorem St.freeze {w:World} (h:St w0 S0 S V w) {b:Nat} {k:Blk} (hb:S b=some k) (hf:k.fr=(0,0)):St w0 S0 (S.set b ⟨k.ty,k.cs,(k.cs.length,k.cs.length+1)⟩) V (w.freeze { block:=b,off:=k.cs.length } 1):=by
 have hsz:(w.freeze { block:=b,off:=k.cs.length } 1).heap.size=w.heap.size:=by simp[World.freeze]
 refine⟨h.os,h.tape,h.output,by rw[hsz];exact h.size,fun j hj hn=>?_,fun x kx hx=>?_,fun e he=>?_,h.nodup,fun x hx h1=>?_,fun x hx=>?_⟩
 ·rw[zbn _ _ _ _ (fun hjb=>?_)]
  ·exact h.frame j hj hn
  ·simp only at hjb
   subst hjb
   have:=h.own j hn (by rw[hb];simp)
   omega
 ·by_cases hxb:x=b
  ·subst hxb
   simp only[Mem.set,if_true,Option.some.injEq] at hx
   subst hx
   have h1:=h.mem x k hb
   unfold World.freeze
   rw[if_neg (by decide)]
   show (w.heap.modify x _)[x]? = _
   rw[Array.getElem?_modify,if_pos rfl,h1,hf]
   rfl
  ·simp only[Mem.set,if_neg hxb] at hx
   rw[zbn _ _ _ _ hxb];exact h.mem x kx hx
 ·obtain⟨h1,h2,h3⟩:=h.loc e he
  have hne:e.b≠b:=fun hq=>by rw[hq] at h2;rw[h2] at hb;cases hb
  rw[zbn _ _ _ _ hne]
  exact⟨h1,by simp only[Mem.set,if_neg hne];exact h2,h3⟩
 ·by_cases hxb:x=b
  ·exact h.own x hx (by rw[hxb,hb];simp)
  ·simp only[Mem.set,if_neg hxb] at h1;exact h.own x hx h1
 ·by_cases hxb:x=b
  ·simp[Mem.set,hxb]
  ·simp only[Mem.set,if_neg hxb];exact h.keep x hx
theorem zrD {t:TypeId} {x:Operand} {b o m n:Nat} {K:Mem→Prop} [ht:BytesT P t] (hw:wantL opl l g=some true) (hx:ev l x=some (.slice (some ⟨b,o,none⟩) m n)) (H:fz S b K)
  (k:∀ S',K S'→WL P w0 S0 opl Q rest (putn l d (.slice (some ⟨b,o,none⟩) m n)) S' V):WL P w0 S0 opl Q (⟨d,.convert t t x,ty,ps,af,g⟩ :: rest) l S V:=
 fun a w ha hS=>wpList_step fun K' hK=>by
  obtain⟨q,h1,h2,h3⟩:=H
  obtain⟨e,hs,he⟩:=ht.run
  rw[if_pos (qu (o:=⟨d,.convert t t x,ty,ps,af,g⟩) hw ha)]
  unfold Oper.wp
  have hsh:w.shape? b=some (q.ty,q.cs.length):=by simp[World.shape?,hS.mem b q h1]
  have:(execOp a.eval ⟨d,.convert t t x,ty,ps,af,g⟩).run P w=.ok (.value (.slice (some ⟨b,o,none⟩) m n)) (w.freeze { block:=b,off:=q.cs.length } 1):=by
   simp[execOp,ha.eval hx,convert,run_underlying hs,run_underlying he,markStringish,hsh]
  rw[this]
  exact hK _ _ (k _ h3 _ _ (ha.put d _) (hS.freeze h1 h2))
end
end
section
open Go Go.RowKit
abbrev KV:=List (List Value×Value)
def flK (l:KV):List Value:=l.flatMap fun x=>[valL x.1,x.2]
def mvL (l:KV):List Value:=[.agg (flK l).toArray]
def entL:KV→Nat→List MapEntry
 | [],_=>[]
 | x :: r,i=>⟨valL x.1,x.2,i⟩ :: entL r (i+1)
theorem zjI:∀ (l:KV) (i:Nat),mapE (flK l) i=entL l i
 | [],_=>rfl
 | x :: r,i=>by
  show (⟨valL x.1,x.2,i⟩ :: mapE (flK r) (i+1):List MapEntry)=_
  rw[zjI r];rfl
theorem zoZ (l:KV):(flK l).length=l.length*2:=by
 unfold flK
 rw[List.length_flatMap]
 simp only[List.length_cons,List.length_nil]
 rw[List.map_const',List.sum_replicate_nat]
theorem ziH (b:Nat) (l:KV):(Ent.mk b itT (mvL l)).obj=.map (entL l 0).toArray l.length:=by
 have:(flK l).toArray.size/2=l.length:=by rw[List.size_toArray,zoZ];omega
 unfold mvL
 rw[Ent.obj_one,this,List.toList_toArray,zjI]
def mfind:KV→List Value→Nat→Option (Nat×Value)
 | [],_,_=>none
 | x :: r,k,i=>if eqL k x.1=true then some (i,x.2) else mfind r k (i+1)
def mget (l:KV) (k:List Value) (z:Value):Value:=match mfind l k 0 with
 | some x=>x.2
 | none=>z
def mput (l:KV) (k:List Value) (z:Value):KV:=match mfind l k 0 with
 | some _=>l
 | none=>l++[(k,z)]
def mix (l:KV) (k:List Value):Nat:=match mfind l k 0 with
 | some x=>x.1
 | none=>l.length
def mset (l:KV) (i:Nat) (v:Value):KV:=l.modify i fun x=>(x.1,v)
def okM (ks:List CK) (l:KV):Prop:=∀ x∈l,fits ks x.1=true
def gM (c:List Value) (K:KV→Prop):Prop:=∃ m,c=mvL m∧K m
theorem zoL {l m:KV} (h:mvL l=mvL m):l=m:=by
 have h1:flK l=flK m:=by
  unfold mvL at h
  simp only[List.cons.injEq,Value.agg.injEq,and_true] at h
  exact List.toArray_inj h
 clear h
 induction l generalizing m with
 | nil=>
  cases m with
  | nil=>rfl
  | cons y m=>simp[flK] at h1
 | cons x l ih=>
  cases m with
  | nil=>simp[flK] at h1
  | cons y m=>
   have h2:valL x.1 :: x.2 :: flK l=valL y.1 :: y.2 :: flK m:=h1
   simp only[List.cons.injEq,valL,Value.agg.injEq] at h2
   rw[ih h2.2.2]
   have:x=y:=Prod.ext (List.toArray_inj h2.1) h2.2.1
   rw[this]
theorem zro (m:KV) (K:KV→Prop):gM (mvL m) K=K m:=propext ⟨fun⟨m',h,k⟩=>zoL h ▸ k,fun k=>⟨m,rfl,k⟩⟩
theorem zgH:∀ {l:KV} {k:List Value} {i:Nat} {x:Nat×Value},mfind l k i=some x→i≤x.1∧x.1<i+l.length
 | [],_,_,_,h=>by cases h
 | y :: r,k,i,x,h=>by
  unfold mfind at h
  split at h
  ·cases h;simp
  ·have:=zgH h
   rw[List.length_cons];omega
theorem zhD:∀ {l:KV} {k:List Value} {i:Nat} (r:KV),mfind l k i=none→mfind (l++r) k i=mfind r k (i+l.length)
 | [],_,_,_,_=>rfl
 | y :: l,k,i,r,h=>by
  unfold mfind at h
  split at h
  ·cases h
  ·rename_i hne
   rw[List.cons_append]
   conv=>lhs;unfold mfind
   rw[if_neg hne,zhD r h,List.length_cons]
   congr 1;omega
theorem znl {l:KV} {k:List Value} {z:Value} (h:eqL k k=true):mget (mput l k z) k z=mget l k z:=by
 unfold mput mget
 cases hf:mfind l k 0 with
 | some x=>simp only[hf]
 | none=>simp only[zhD _ hf,mfind,if_pos h]
theorem zqq {l:KV} {k:List Value} {z:Value}:mix l k<(mput l k z).length:=by
 unfold mix mput
 cases hf:mfind l k 0 with
 | some x=>have:=zgH hf;simpa using this
 | none=>simp
theorem zoF {ks:List CK} {l:KV} {k:List Value} {z:Value} (h:okM ks l) (hk:fits ks k=true):okM ks (mput l k z):=by
 unfold mput
 split
 ·exact h
 ·intro x hx
  rcases List.mem_append.1 hx with hx | hx
  ·exact h x hx
  ·rw[List.mem_singleton] at hx;subst hx;exact hk
theorem zny {ks:List CK} {k:List Value} (h:fits ks k=true):eqL k k=true:=(zcZ h h).2 rfl
class MapT (P:Program) (t:TypeId) (z:outParam Value) (ks:outParam (List CK)):Prop where
 run:∃ ke el n ie,P.underlying t=some (.map ke el)∧P.underlying ke=some (.array n ie)∧(∀ w,(zeroValue el).run P w=.ok z w)∧(∀ e cs w,fits ks cs=true→(Instr.checkKey e 10000 ke (valL cs)).run P w=.ok () w)∧∀ xs ys w,fits ks xs=true→fits ks ys=true→(Op.equal ke (valL xs) (valL ys)).run P w=.ok (eqL xs ys) w
 same:∀ cs,fits ks cs=true→Instr.sameBits 10000 (valL cs) (valL cs)=true
theorem zqL {P:Program} {ie:TypeId} {k:IntKind} (hi:P.underlying ie=some (.int k)) (e:Bool) (n:Nat) (x:Value) (w:World):(Instr.checkKey e (n+1) ie x).run P w=.ok () w:=by
 rw[Instr.checkKey]
 simp[run_underlying hi]
theorem zqK {P:Program} {ke ie:TypeId} {k:IntKind} (ha:P.underlying ke=some (.array 2 ie)) (hi:P.underlying ie=some (.int k)) (hs:∀ w,(sizeOf ie).run P w=.ok 1 w) (hg:∀ w,(isAgg ie).run P w=.ok false w) (e:Bool) (n:Nat) (x y:Value) (w:World) :
  (Instr.checkKey e (n+1+1) ke (.agg #[x,y])).run P w=.ok () w:=by
 rw[Instr.checkKey]
 simp[run_underlying ha,hs,part,hg,zqL hi,show List.range' 0 2=[0,1] from rfl]
theorem zoM {P:Program} {t ke el ie:TypeId} {k:IntKind} {z:Value} (hk:P.underlying t=some (.map ke el)) (ha:P.underlying ke=some (.array 2 ie)) (hi:P.underlying ie=some (.int k))
  (hs:∀ w,(sizeOf ie).run P w=.ok 1 w) (hg:∀ w,(isAgg ie).run P w=.ok false w) (hz:∀ w,(zeroValue el).run P w=.ok z w) (hq:kindsOf P 8 ke=some [.i k,.i k]) (hq2:aggT P ke=true):MapT P t z [.i k,.i k]:=by
 refine⟨⟨ke,el,2,ie,hk,ha,hz,fun e cs w hf=>?_,fun xs ys w hx hy=>?_⟩,fun cs hf=>?_⟩
 ·match cs,vz hf with
  | [x,y],_=>exact zqK ha hi hs hg e 9998 x y w
 ·have hm:=zfi 8 ke _ hq 9992 w xs ys hx hy
  rw[hq2] at hm
  exact hm
 ·match cs,vz hf,hf with
  | [x,y],_,hf=>
   simp only[fits,Bool.and_eq_true,and_true] at hf
   obtain⟨h1,h2⟩:=hf
   unfold fit1 at h1 h2
   split at h1
   ·split at h2
    ·simp[valL,Instr.sameBits]
    all_goals simp_all
   all_goals simp_all
section
variable {P:Program} {w0 w:World} {S0 S:Mem} {V:Hp}
theorem zlv {ks:List CK} {ke:TypeId} (he:∀ xs ys w,fits ks xs=true→fits ks ys=true→(Op.equal ke (valL xs) (valL ys)).run P w=.ok (eqL xs ys) w) {cs:List Value} (hc:fits ks cs=true):∀ (l:KV),okM ks l→∀ i j,(Instr.findAsking ke (valL cs) (entL l j) i).run P w=.ok (mfind l cs i) w
 | [],_,_,_=>rfl
 | x :: r,ho,i,j=>by
  have h1:=he cs x.1 w hc (ho x (by simp))
  have h2:=zlv he hc r (fun y hy=>ho y (by simp[hy])) (i+1) (j+1)
  show (Instr.findAsking ke (valL cs) (⟨valL x.1,x.2,j⟩ :: entL r (j+1)) i).run P w=_
  unfold Instr.findAsking mfind
  simp only[Sem.run_bind,h1,Result.andThen_ok]
  cases eqL cs x.1 with
  | true=>simp
  | false=>simpa using h2
theorem zjt {t:TypeId} {z:Value} {ks:List CK} [h:MapT P t z ks] {ke el:TypeId} (hu:P.underlying t=some (.map ke el)) {cs:List Value} (hc:fits ks cs=true) {l:KV} (hl:okM ks l):(Instr.findKey ke (valL cs) (entL l 0)).run P w=.ok (mfind l cs 0) w:=by
 obtain⟨ke',el',n,ie,h1,h2,h3,h4,h5⟩:=h.run
 rw[h1] at hu;cases hu
 unfold Instr.findKey
 simp only[Sem.run_bind,run_underlying h2,Result.andThen_ok]
 cases l with
 | nil=>simp[entL,Instr.findNow,mfind]
 | cons x r=>
  have:Instr.findNow (.array n ie) (valL cs) (entL (x :: r) 0) 0=none:=by simp[entL,Instr.findNow,Instr.sameNow]
  rw[this]
  exact zlv h5 hc (x :: r) hl 0 0
theorem zqC {b:Nat} {M:List Value} {m:KV} {ks:List CK} {cs:List Value} {z v:Value} (n:Nat) (hn:nthL V n=some ⟨b,itT,M⟩) (hM:M=mvL m) (ho:okM ks m) (hv:mget m cs z=v):HC w0 S0 S V (.mp fun w=>∃ m,w.heap[b]? = some (.map (entL m 0).toArray m.length)∧okM ks m∧mget m cs z=v):=fun w hS=>by
 have:=(hS.loc _ (qv hn)).1
 subst hM
 rw[ziH] at this
 exact⟨m,this,ho,hv⟩
theorem zrG {b:Nat} {M:List Value} {m:KV} (n:Nat) (hn:nthL V n=some ⟨b,itT,M⟩) (hM:M=mvL m):HC w0 S0 S V (.mp fun w=>w.heap[b]? = some (.map (entL m 0).toArray m.length)):=fun w hS=>by
 have:=(hS.loc _ (qv hn)).1
 subst hM
 rw[ziH] at this
 exact this
variable {opl:List Oper} {Q:Exit→Act→World→Prop} {rest:List Oper} {l:Fr}
variable {d:Option Tmp} {ty:TypeId} {ps:String} {af:Array Edge} {g:Option (Nat×Bool)}
theorem zqi {t:TypeId} (hw:wantL opl l g=some true)
  (k:∀ b,WL P w0 S0 opl Q rest (putn l d (.map (some b))) S (V++[⟨b,itT,mvL []⟩])):WL P w0 S0 opl Q (⟨d,.makeMap t none,ty,ps,af,g⟩ :: rest) l S V:=
 fun a w ha hS=>wpList_step fun K hK=>by
  rw[if_pos (qu (o:=⟨d,.makeMap t none,ty,ps,af,g⟩) hw ha)]
  unfold Oper.wp
  have:(execOp a.eval ⟨d,.makeMap t none,ty,ps,af,g⟩).run P w=.ok (.value (.map (some w.heap.size))) (w.alloc (.map #[] 0)):=by
   simp[execOp,Instr.makeMap,newObj,Sem.run]
  rw[this]
  exact hK _ _ (k w.heap.size _ _ (ha.put d _) (hS.allocE (cs:=mvL []) (ziH _ [])))
theorem zkW {t:TypeId} {x i:Operand} {b:Nat} {cs:List Value} {z v:Value} {ks:List CK} [h:MapT P t z ks] (hx:ev l x=some (.map (some b))) (hi:ev l i=some (valL cs)) (hf:fits ks cs=true) :
  Yc P l (.mp fun w=>∃ m,w.heap[b]? = some (.map (entL m 0).toArray m.length)∧okM ks m∧mget m cs z=v) (.lookup t x i false) v:=fun a w ha hc d ty ps af g=>by
 obtain⟨m,h1,h2,h3⟩:=hc
 obtain⟨ke,el,n,ie,u1,u2,u3,u4,u5⟩:=h.run
 have hfind:=zjt (P:=P) (w:=w) (t:=t) u1 hf h2
 have hck:=u4 (entL m 0).isEmpty cs w hf
 have:(Instr.lookup t (.map (some b)) (valL cs) false).run P w=.ok v w:=by
  unfold mget at h3
  cases hm:mfind m cs 0 with
  | some y=>
   rw[hm] at h3 hfind
   simp[Instr.lookup,run_underlying u1,getObj,Sem.run,h1,hck,hfind]
   exact h3
  | none=>
   rw[hm] at h3 hfind
   subst h3
   simp[Instr.lookup,run_underlying u1,getObj,Sem.run,h1,hck,hfind,u3]
 simp[execOp,ha.eval hx,ha.eval hi,this]
theorem zpI {t:TypeId} {z:Value} {ks:List CK} {x:Operand} {b:Nat} {m:KV} [h:MapT P t z ks] (hx:ev l x=some (.map (some b))):Yc P l (.mp fun w=>w.heap[b]? = some (.map (entL m 0).toArray m.length)) (.call { callee:=.builtin .len,args:=#[x],argTypes:=#[t] }) (.int .i64 m.length):=fun a w ha hc d ty ps af g=>by
 obtain⟨ke,el,_,_,hu,_⟩:=h.run
 have hc:w.heap[b]? = some (.map (entL m 0).toArray m.length):=hc
 have hl:∀ (m:KV) i,(entL m i).length=m.length:=fun m=>by
  induction m with
  | nil=>intro _;rfl
  | cons y r ih=>intro i;simp[entL,ih]
 simp[execOp,ha.eval hx,resolve,invoke,builtin,Builtin.len_,run_underlying hu,goInt,getObj,Sem.run,hc,hl]
theorem zjO:∀ (m:KV) (y:List Value×Value) (i:Nat),entL (m++[y]) i=entL m i++[⟨valL y.1,y.2,i+m.length⟩]
 | [],_,_=>rfl
 | x :: r,y,i=>by
  show (_ :: entL (r++[y]) (i+1):List MapEntry)=_
  rw[zjO r y]
  show _=(_ :: (entL r (i+1)++_):List MapEntry)
  rw[List.length_cons,show i+1+r.length=i+(r.length+1) by omega]
theorem zaw:∀ (m:KV) (i j:Nat),(entL m i)[j]? = (m[j]?).map fun x=>⟨valL x.1,x.2,i+j⟩
 | [],_,_=>by simp[entL]
 | x :: r,i,0=>by simp[entL]
 | x :: r,i,j+1=>by
  simp only[entL,List.getElem?_cons_succ]
  rw[zaw r (i+1) j,show i+1+j=i+(j+1) by omega]
theorem zgT (m:KV) (i:Nat):(entL m i).length=m.length:=by
 induction m generalizing i with
 | nil=>rfl
 | cons y r ih=>simp[entL,ih]
theorem zhC:∀ {m:KV} {k:List Value} {i:Nat} {x:Nat×Value},mfind m k i=some x→∃ y,m[x.1-i]? = some y∧eqL k y.1=true∧y.2=x.2
 | [],_,_,_,h=>by cases h
 | y :: r,k,i,x,h=>by
  unfold mfind at h
  split at h
  ·rename_i he
   cases h
   exact⟨y,by simp,he,rfl⟩
  ·obtain⟨u,h1,h2,h3⟩:=zhC h
   have:=zgH h
   refine⟨u,?_,h2,h3⟩
   rw[show x.1-i=(x.1-(i+1))+1 by omega,List.getElem?_cons_succ];exact h1
theorem zmj (m:KV) (i:Nat) (v:Value):entL (mset m i v) 0=(entL m 0).modify i fun e=>{ e with val:=v }:=by
 apply List.ext_getElem?
 intro j
 unfold mset
 rw[zaw,List.getElem?_modify,List.getElem?_modify,zaw]
 cases m[j]? with
 | none=>rfl
 | some x=>
  by_cases e:i=j
  ·subst e;simp
  ·simp[e]
theorem zgk {α:Type} (l:List α) (i:Nat) (f:α→α):l.toArray.modify i f=(l.modify i f).toArray:=by
 apply Array.ext_getElem?
 intro j
 rw[Array.getElem?_modify,List.getElem?_toArray,List.getElem?_toArray,List.getElem?_modify]
 by_cases e:i=j
 ·rw[if_pos e];simp[e]
 ·rw[if_neg e];cases l[j]? <;> simp[e]
theorem zoA {t:TypeId} {x i:Operand} {b:Nat} {M:List Value} {m:KV} {cs:List Value} {z:Value} {ks:List CK} [h:MapT P t z ks] (n:Nat) (hw:wantL opl l g=some true) (hx:ev l x=some (.map (some b))) (hi:ev l i=some (valL cs)) (hn:nthL V n=some ⟨b,itT,M⟩) (hM:M=mvL m) (ho:okM ks m) (hf:fits ks cs=true)
  (k:WL P w0 S0 opl Q rest (putn l d (.tuple #[mget m cs z,.int .i64 (mix m cs:Nat)])) S (setE V n (mvL (mput m cs z)))):WL P w0 S0 opl Q (⟨d,.mapEntry t x i,ty,ps,af,g⟩ :: rest) l S V:=
 fun a w ha hS=>wpList_step fun K hK=>by
  rw[if_pos (qu (o:=⟨d,.mapEntry t x i,ty,ps,af,g⟩) hw ha)]
  unfold Oper.wp
  subst hM
  obtain⟨ke,el,_,_,u1,u2,u3,u4,u5⟩:=h.run
  have hl:=(hS.loc _ (qv hn)).1
  rw[ziH] at hl
  simp only at hl
  have hfind:=zjt (P:=P) (w:=w) (t:=t) u1 hf ho
  have hck:=u4 false cs w hf
  have:(execOp a.eval ⟨d,.mapEntry t x i,ty,ps,af,g⟩).run P w=.ok (.value (.tuple #[mget m cs z,.int .i64 (mix m cs:Nat)])) { w with heap:=w.heap.setIfInBounds b (.map (entL (mput m cs z) 0).toArray (mput m cs z).length) }:=by
   have key:(Instr.mapEntry t (.map (some b)) (valL cs)).run P w=.ok (.tuple #[mget m cs z,.int .i64 (mix m cs:Nat)]) { w with heap:=w.heap.setIfInBounds b (.map (entL (mput m cs z) 0).toArray (mput m cs z).length) }:=by
    simp only[Instr.mapEntry,Sem.run_bind,run_underlying u1,Result.andThen_ok,getObj,Sem.run,hl,hck,hfind,List.toList_toArray]
    unfold mget mix mput
    cases hm:mfind m cs 0 with
    | none=>
     simp only[Sem.run_bind,u3,Result.andThen_ok,setObj,Sem.run,goInt,zjO,Nat.zero_add]
     simp[hl]
    | some y=>
     obtain⟨u,h1,h2,h3⟩:=zhC hm
     rw[Nat.sub_zero] at h1
     have hu:=List.mem_of_getElem? h1
     have he:cs=u.1:=(zcZ hf (ho u hu)).1 h2
     have hg:(entL m 0)[y.1]? = some ⟨valL cs,u.2,y.1⟩:=by rw[zaw,h1,he];simp
     have hs:=h.same cs hf
     have hmod:(entL m 0).toArray.modify y.1 (fun e=>{ e with key:=valL cs })=(entL m 0).toArray:=by
      rw[zgk]
      congr 1
      apply List.ext_getElem?
      intro j
      rw[List.getElem?_modify]
      by_cases e:y.1=j
      ·subst e;rw[hg];simp
      ·simp[e]
     simp only[Instr.keyThatStays,List.getElem?_toArray,hg,Option.map_some,Option.getD_some,hs,if_true,Sem.run_bind,Sem.run_pure,Result.andThen_ok,setObj,Sem.run,goInt,hmod,hl]
   simp[execOp,ha.eval hx,ha.eval hi,key]
  rw[this]
  exact hK _ _ (k _ _ (ha.put d _) (hS.setI hn (cs':=mvL (mput m cs z)) (ziH _ _)))
theorem zmS {t:TypeId} {x s y:Operand} {b j:Nat} {k':IntKind} {M:List Value} {m:KV} {v:Value} (n:Nat) (hw:wantL opl l g=some true) (hx:ev l x=some (.map (some b))) (hs:ev l s=some (.int k' (j:Nat))) (hy:ev l y=some v) (hn:nthL V n=some ⟨b,itT,M⟩) (hM:M=mvL m) (hj:j<m.length)
  (k:WL P w0 S0 opl Q rest (putn l d undef) S (setE V n (mvL (mset m j v)))):WL P w0 S0 opl Q (⟨d,.entryStore t x s y,ty,ps,af,g⟩ :: rest) l S V:=
 fun a w ha hS=>wpList_step fun K hK=>by
  rw[if_pos (qu (o:=⟨d,.entryStore t x s y,ty,ps,af,g⟩) hw ha)]
  unfold Oper.wp
  subst hM
  have hl:=(hS.loc _ (qv hn)).1
  rw[ziH] at hl
  simp only at hl
  have hidx:(entL m 0).toArray.findIdx? (fun e=>(e.born:Int) == (j:Int))=some j:=by
   rw[List.findIdx?_toArray,List.findIdx?_eq_some_iff_getElem]
   refine⟨by rw[zgT];exact hj,?_,fun i hi=>?_⟩
   ·have:=zaw m 0 j
    rw[List.getElem?_eq_getElem hj,List.getElem?_eq_getElem (by rw[zgT];exact hj)] at this
    simp only[Option.map_some,Option.some.injEq] at this
    rw[this];simp
   ·have:=zaw m 0 i
    rw[List.getElem?_eq_getElem (by omega:i<m.length),List.getElem?_eq_getElem (by rw[zgT];omega)] at this
    simp only[Option.map_some,Option.some.injEq] at this
    rw[this];simp;omega
  have:(execOp a.eval ⟨d,.entryStore t x s y,ty,ps,af,g⟩).run P w=.ok .skip { w with heap:=w.heap.setIfInBounds b (.map (entL (mset m j v) 0).toArray (mset m j v).length) }:=by
   have hlen:(mset m j v).length=m.length:=List.length_modify _ _ _
   have key:(Instr.entryStore t (.map (some b)) (.int k' (j:Nat)) v).run P w=.ok () { w with heap:=w.heap.setIfInBounds b (.map (entL (mset m j v) 0).toArray (mset m j v).length) }:=by
    simp[Instr.entryStore,getObj,Sem.run,hl,asInt,asIntOf,hidx,setObj,zgk,zmj,hlen]
   simp[execOp,ha.eval hx,ha.eval hs,ha.eval hy,key]
  rw[this]
  exact hK _ _ (k _ _ (ha.put d _) (hS.setI hn (cs':=mvL (mset m j v)) (ziH _ _)))
end
/-! slices of three bounds -/
def bkp (S S':Mem) (s:Sl):Prop:=∀ b o,s.p=some (b,o)→S'.part b o s.n=S.part b o s.n
end
end Go.Pt
section
namespace Go.Pt
open Go
theorem iteK {p A B R:Prop} [Decidable p] (h:if p then A else B) (h1:p→A→R) (h2:¬p→B→R):R:=by
 rcases zrl h with ⟨a,b⟩ | ⟨a,b⟩
 ·exact h1 a b
 ·exact h2 a b
theorem an {p q R:Prop} (h:p∧q) (k:p→q→R):R:=k h.1 h.2
theorem an2 {p p2 q R:Prop} (h:p∧p2∧q) (k:p→p2→q→R):R:=k h.1 h.2.1 h.2.2
theorem an3 {p p2 p3 q R:Prop} (h:p∧p2∧p3∧q) (k:p→p2→p3→q→R):R:=k h.1 h.2.1 h.2.2.1 h.2.2.2
theorem gx {α:Type} {p q:α→Prop} {R:Prop} (h:∃ x,p x∧q x) (k:∀ x,p x→q x→R):R:=h.elim fun x hx=>k x hx.1 hx.2
section rules
variable {P:Program} {w0:World} {S0:Mem} {opl:List Oper} {Q:Exit→Act→World→Prop} {rest:List Oper} {l:Fr} {S:Mem} {V:Hp}
variable {d:Option Tmp} {ty:TypeId} {ps:String} {af:Array Edge} {g:Option (Nat×Bool)}
theorem mv {x:Operand} {v:Value} (hw:wantL opl l g=some true) (hx:ev l x=some v) (k:WL P w0 S0 opl Q rest (putn l d v) S V):WL P w0 S0 opl Q (⟨d,.move x,ty,ps,af,g⟩ :: rest) l S V:=s_p hw (zp hx) k
theorem gv {x:Operand} {v:Value} (hw:wantL opl l g=some true) (hx:ev l x=some v) (k:WL P w0 S0 opl Q rest (putn l d v) S V):WL P w0 S0 opl Q (⟨d,.assign x,ty,ps,af,g⟩ :: rest) l S V:=s_p hw (zT hx) k
theorem ceT {k:IntKind} {m n:Int} {x y:Operand} {t t2:TypeId} (hw:wantL opl l g=some true) (hx:ev l x=some (.int k m)) (hy:ev l y=some (.int k n)) (hp:m=n)
  (h:WL P w0 S0 opl Q rest (putn l d (.bool true)) S V):WL P w0 S0 opl Q (⟨d,.binOp .eql t x y t2,ty,ps,af,g⟩ :: rest) l S V:=s_p hw (yT (zdE hx hy) hp) h
theorem ceF {k:IntKind} {m n:Int} {x y:Operand} {t t2:TypeId} (hw:wantL opl l g=some true) (hx:ev l x=some (.int k m)) (hy:ev l y=some (.int k n)) (hp:¬m=n)
  (h:WL P w0 S0 opl Q rest (putn l d (.bool false)) S V):WL P w0 S0 opl Q (⟨d,.binOp .eql t x y t2,ty,ps,af,g⟩ :: rest) l S V:=s_p hw (yF (zdE hx hy) hp) h
theorem csr {i:Nat} {ol:List Oper} {y:Code} (h:WL P w0 S0 ol (Exit.then (y.wp P Q) Q) ol l S V):WC P w0 S0 (.seq (.region i ol.toArray false) y) Q l S V:=qb (zE h)
theorem nx {y:Code} (h:WC P w0 S0 y Q l S V):WL P w0 S0 opl (Exit.then (y.wp P Q) Q) [] l S V:=zr (zB h)
theorem nxr {i:Nat} {ol:List Oper} {y:Code} (h:WL P w0 S0 ol (Exit.then (y.wp P Q) Q) ol l S V):WL P w0 S0 opl (Exit.then ((Code.seq (.region i ol.toArray false) y).wp P Q) Q) [] l S V:=nx (csr h)
theorem ctr {i:Nat} {ol:List Oper} {c:Operand} {y:Code} {e:Bool} (hc:ev l c=some (.bool e)) (he:e=true) (h:WL P w0 S0 ol Q ol l S V):WC P w0 S0 (.cond c (.region i ol.toArray false) y) Q l S V:=c_t hc he (zE h)
theorem cfr {i:Nat} {ol:List Oper} {c:Operand} {x:Code} {e:Bool} (hc:ev l c=some (.bool e)) (he:e=false) (h:WL P w0 S0 ol Q ol l S V):WC P w0 S0 (.cond c x (.region i ol.toArray false)) Q l S V:=c_f hc he (zE h)
theorem cfs {c:Operand} {x:Code} {e:Bool} (hc:ev l c=some (.bool e)) (he:e=false) (h:WQ w0 S0 Q .normal l S V):WC P w0 S0 (.cond c x .skip) Q l S V:=c_f hc he (yV h)
theorem pk {q x y:Operand} {b:Bool} {v:Value} (hw:wantL opl l g=some true) (hc:ev l q=some (.bool b)) (hx:ev l (if b then x else y)=some v) (k:WL P w0 S0 opl Q rest (putn l d v) S V) :
  WL P w0 S0 opl Q (⟨d,.pick q x y,ty,ps,af,g⟩ :: rest) l S V:=s_p hw (fp hc hx) k
theorem sk2 {d0:Option Tmp} {op0:Op} {ty0:TypeId} {ps0:String} {af0:Array Edge} {g0:Option (Nat×Bool)} {d1:Option Tmp} {op1:Op} {ty1:TypeId} {ps1:String} {af1:Array Edge} {g1:Option (Nat×Bool)} (h0:wantL opl l g0=some false) (h1:wantL opl (putn l d0 undef) g1=some false)
  (k:WL P w0 S0 opl Q rest (putn (putn l d0 undef) d1 undef) S V):WL P w0 S0 opl Q (⟨d0,op0,ty0,ps0,af0,g0⟩ :: ⟨d1,op1,ty1,ps1,af1,g1⟩ :: rest) l S V:=zF h0 (zF h1 k)
theorem sk4 {d0:Option Tmp} {op0:Op} {ty0:TypeId} {ps0:String} {af0:Array Edge} {g0:Option (Nat×Bool)} {d1:Option Tmp} {op1:Op} {ty1:TypeId} {ps1:String} {af1:Array Edge} {g1:Option (Nat×Bool)} {d2:Option Tmp} {op2:Op} {ty2:TypeId} {ps2:String} {af2:Array Edge} {g2:Option (Nat×Bool)} {d3:Option Tmp} {op3:Op} {ty3:TypeId} {ps3:String} {af3:Array Edge} {g3:Option (Nat×Bool)} (h0:wantL opl l g0=some false) (h1:wantL opl (putn l d0 undef) g1=some false) (h2:wantL opl (putn (putn l d0 undef) d1 undef) g2=some false) (h3:wantL opl (putn (putn (putn l d0 undef) d1 undef) d2 undef) g3=some false)
  (k:WL P w0 S0 opl Q rest (putn (putn (putn (putn l d0 undef) d1 undef) d2 undef) d3 undef) S V):WL P w0 S0 opl Q (⟨d0,op0,ty0,ps0,af0,g0⟩ :: ⟨d1,op1,ty1,ps1,af1,g1⟩ :: ⟨d2,op2,ty2,ps2,af2,g2⟩ :: ⟨d3,op3,ty3,ps3,af3,g3⟩ :: rest) l S V:=zF h0 (zF h1 (zF h2 (zF h3 k)))
theorem sk8 {d0:Option Tmp} {op0:Op} {ty0:TypeId} {ps0:String} {af0:Array Edge} {g0:Option (Nat×Bool)} {d1:Option Tmp} {op1:Op} {ty1:TypeId} {ps1:String} {af1:Array Edge} {g1:Option (Nat×Bool)} {d2:Option Tmp} {op2:Op} {ty2:TypeId} {ps2:String} {af2:Array Edge} {g2:Option (Nat×Bool)} {d3:Option Tmp} {op3:Op} {ty3:TypeId} {ps3:String} {af3:Array Edge} {g3:Option (Nat×Bool)} {d4:Option Tmp} {op4:Op} {ty4:TypeId} {ps4:String} {af4:Array Edge} {g4:Option (Nat×Bool)} {d5:Option Tmp} {op5:Op} {ty5:TypeId} {ps5:String} {af5:Array Edge} {g5:Option (Nat×Bool)} {d6:Option Tmp} {op6:Op} {ty6:TypeId} {ps6:String} {af6:Array Edge} {g6:Option (Nat×Bool)} {d7:Option Tmp} {op7:Op} {ty7:TypeId} {ps7:String} {af7:Array Edge} {g7:Option (Nat×Bool)} (h0:wantL opl l g0=some false) (h1:wantL opl (putn l d0 undef) g1=some false) (h2:wantL opl (putn (putn l d0 undef) d1 undef) g2=some false) (h3:wantL opl (putn (putn (putn l d0 undef) d1 undef) d2 undef) g3=some false) (h4:wantL opl (putn (putn (putn (putn l d0 undef) d1 undef) d2 undef) d3 undef) g4=some false) (h5:wantL opl (putn (putn (putn (putn (putn l d0 undef) d1 undef) d2 undef) d3 undef) d4 undef) g5=some false) (h6:wantL opl (putn (putn (putn (putn (putn (putn l d0 undef) d1 undef) d2 undef) d3 undef) d4 undef) d5 undef) g6=some false) (h7:wantL opl (putn (putn (putn (putn (putn (putn (putn l d0 undef) d1 undef) d2 undef) d3 undef) d4 undef) d5 undef) d6 undef) g7=some false)
  (k:WL P w0 S0 opl Q rest (putn (putn (putn (putn (putn (putn (putn (putn l d0 undef) d1 undef) d2 undef) d3 undef) d4 undef) d5 undef) d6 undef) d7 undef) S V):WL P w0 S0 opl Q (⟨d0,op0,ty0,ps0,af0,g0⟩ :: ⟨d1,op1,ty1,ps1,af1,g1⟩ :: ⟨d2,op2,ty2,ps2,af2,g2⟩ :: ⟨d3,op3,ty3,ps3,af3,g3⟩ :: ⟨d4,op4,ty4,ps4,af4,g4⟩ :: ⟨d5,op5,ty5,ps5,af5,g5⟩ :: ⟨d6,op6,ty6,ps6,af6,g6⟩ :: ⟨d7,op7,ty7,ps7,af7,g7⟩ :: rest) l S V:=zF h0 (zF h1 (zF h2 (zF h3 (zF h4 (zF h5 (zF h6 (zF h7 k)))))))
section calls
variable {f:FuncId} {xs:List Operand} {ats:Array TypeId} {args:List Value} [hcall:CallT P f]
theorem zlu {u:Value} {K:Mem→Prop} (hw:wantL opl l g=some true) (hx:evs l xs=some args) (hc:Tr P f S args fun v S'=>v=u∧K S')
  (k:∀ S',K S'→WL P w0 S0 opl Q rest (putn l d u) S' V):WL P w0 S0 opl Q (⟨d,.call { callee:=.value (.func f),args:=xs.toArray,argTypes:=ats },ty,ps,af,g⟩ :: rest) l S V:=qz hw hx hc fun _ S' h=>by
 obtain⟨rfl,h⟩:=h;exact k S' h
theorem kq {α:Type} {e:α→Value} {K:α→Mem→Prop} (hw:wantL opl l g=some true) (hx:evs l xs=some args) (hc:Tr P f S args fun v S'=>∃ t,v=e t∧K t S')
  (k:∀ t S',K t S'→WL P w0 S0 opl Q rest (putn l d (e t)) S' V):WL P w0 S0 opl Q (⟨d,.call { callee:=.value (.func f),args:=xs.toArray,argTypes:=ats },ty,ps,af,g⟩ :: rest) l S V:=qz hw hx hc fun _ S' h=>by
 obtain⟨t,rfl,h⟩:=h;exact k t S' h
theorem ziz {α β:Type} {e:α→β→Value} {K:α→β→Mem→Prop} (hw:wantL opl l g=some true) (hx:evs l xs=some args) (hc:Tr P f S args fun v S'=>∃ t u,v=e t u∧K t u S')
  (k:∀ t u S',K t u S'→WL P w0 S0 opl Q rest (putn l d (e t u)) S' V):WL P w0 S0 opl Q (⟨d,.call { callee:=.value (.func f),args:=xs.toArray,argTypes:=ats },ty,ps,af,g⟩ :: rest) l S V:=qz hw hx hc fun _ S' h=>by
 obtain⟨t,u,rfl,h⟩:=h;exact k t u S' h
theorem zrw {α β γ:Type} {e:α→β→γ→Value} {K:α→β→γ→Mem→Prop} (hw:wantL opl l g=some true) (hx:evs l xs=some args) (hc:Tr P f S args fun v S'=>∃ t u z,v=e t u z∧K t u z S')
  (k:∀ t u z S',K t u z S'→WL P w0 S0 opl Q rest (putn l d (e t u z)) S' V):WL P w0 S0 opl Q (⟨d,.call { callee:=.value (.func f),args:=xs.toArray,argTypes:=ats },ty,ps,af,g⟩ :: rest) l S V:=qz hw hx hc fun _ S' h=>by
 obtain⟨t,u,z,rfl,h⟩:=h;exact k t u z S' h
end calls
end rules
theorem E {α:Sort _} {a:α}:a=a:=rfl
theorem aTP {P:Program} {fn:Func} {w0:World} {S0 S:Mem} {R:Value→Mem→Prop} {opl:List Oper} {K:Act→World→Prop} {fuel:Nat} {cs:List (Nat×Cond)} {listed:Array Bool} {l:Fr} {V:Hp} {d:Option Tmp} {op:Op} {ty:TypeId} {ps:String} {af:Array Edge} {g:Option (Nat×Bool)} (i:Nat) {v:Value} (hi:nthL opl i=some ⟨d,op,ty,ps,af,g⟩) (hok:okTake opl listed i=true)
  (hw:wantL opl l g=some true) (hy:Yc P l .tt op v) (k:WA P w0 S0 opl (Exit.then K (bodyPost P fn (FR w0 S0 R))) fuel cs (listed.setIfInBounds i true) (putn l d v) S V):WA P w0 S0 opl (Exit.then K (bodyPost P fn (FR w0 S0 R))) (fuel+1) cs listed l S V:=a_takeP i hi hok (za zb) hw hy k
theorem aT {P:Program} {fn:Func} {w0:World} {S0 S:Mem} {R:Value→Mem→Prop} {opl:List Oper} {K:Act→World→Prop} {fuel:Nat} {cs:List (Nat×Cond)} {listed:Array Bool} {l:Fr} {V:Hp} {d:Option Tmp} {op:Op} {ty:TypeId} {ps:String} {af:Array Edge} {g:Option (Nat×Bool)} (i:Nat) {c:Cond} {v:Value} (hi:nthL opl i=some ⟨d,op,ty,ps,af,g⟩) (hok:okTake opl listed i=true)
  (hw:wantL opl l g=some true) (hy:Yc P l c op v) (hc:HC w0 S0 S V c) (k:WA P w0 S0 opl (Exit.then K (bodyPost P fn (FR w0 S0 R))) fuel ((i,c) :: cs) (listed.setIfInBounds i true) (putn l d v) S V):WA P w0 S0 opl (Exit.then K (bodyPost P fn (FR w0 S0 R))) (fuel+1) cs listed l S V:=zY i hi hok (za zb) hw hy hc k
end Go.Pt
end
