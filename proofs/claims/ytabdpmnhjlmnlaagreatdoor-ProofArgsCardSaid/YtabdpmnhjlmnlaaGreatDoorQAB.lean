/- Texts of this work,joined by program (pack.py): PtF,PtG,PtH,PtY,PtZ,PtI,PtS. -/
import Derived.Test.YtabdpmnhjlmnlaaGreatDoorQAA
import Derived.ChangeKeysEq
import Derived.Test.YtabdpmnhjlmnlaaGreatDoorProg
set_option linter.unusedVariables false
section
namespace Go.Pt
open Go Go.RowKit
def lt {α:Type} (a:α) (K:α→Prop):Prop:=K a
theorem zdU {α:Type} {a:α} {K:α→Prop} (h:lt a K):∃ x,a=x∧K x:=⟨a,rfl,h⟩
theorem eqv {P:Program} {l:Fr} {c:Cond} {op:Op} {v v':Value} (h:Yc P l c op v) (e:v=v'):Yc P l c op v':=e ▸ h
theorem zbs {pl:Nat→Option (Nat×Nat)} {cs:List Value}:fillS pl cs []=some cs:=rfl
theorem xO {pl:Nat→Option (Nat×Nat)} {cs out:List Value} {i off size:Nat} {v:Value} {rest:List (Nat×Value)} (hp:pl i=some (off,size)) (hl:(cellsL v).length=size) (hb:off+size≤cs.length)
  (h:fillS pl (spl cs off (cellsL v)) rest=some out):fillS pl cs ((i,v) :: rest)=some out:=by
 simp only[fillS,hp]
 rw[if_pos]
 ·exact h
 ·simp only[Bool.and_eq_true,beq_iff_eq];exact⟨hl,Nat.ble_eq_true_of_le hb⟩
theorem kG {z a:List Value} {size:Nat} (hz:z.length=size) (h:a.length=size):fillS (fun i=>some (i*size,size)) (zrep 1 z) [(0,valL a)]=some a:=by
 have e:spl (zrep 1 z) (0*size) (cellsL (valL a))=a:=by
  have:cellsL (valL a)=a:=by simp[cellsL,valL]
  rw[this,Nat.zero_mul,zaz (by simp[zrep];omega)]
 have:=xO (pl:=fun i=>some (i*size,size)) (cs:=zrep 1 z) (out:=a) (i:=0) (off:=0*size) (size:=size) (v:=valL a) (rest:=[]) rfl (by simp[cellsL,valL,h]) (by simp[zrep];omega) (by rw[e];rfl)
 exact this
theorem kr {cs vs:List Value} {o n m:Nat} (h:cs.length=n) (hv:vs.length=m) (h2:o+m≤n):(spl cs o vs).length=n:=je h (by omega)
section
variable {P:Program} {w0:World} {S0:Mem} {Q:Exit→Act→World→Prop} {l:Fr} {S:Mem} {V:Hp}
end
end Go.Pt
end
section
namespace Go.Pt
open Go Go.RowKit
inductive CK where
 | i (k:IntKind)
 | b
 | s
def fit1:CK→Value→Bool
 | .i k,.int k' _=>decide (k=k')
 | .b,.bool _=>true
 | .s,.string _=>true
 | _,_=>false
def fits:List CK→List Value→Bool
 | [],[]=>true
 | k :: ks,v :: vs=>fit1 k v && fits ks vs
 | _,_=>false
def eq1:Value→Value→Bool
 | .int _ m,.int _ n=>m == n
 | .bool a,.bool b=>a == b
 | .string a,.string b=>a.toList == b.toList
 | _,_=>false
def eqL:List Value→List Value→Bool
 | [],[]=>true
 | x :: xs,y :: ys=>eq1 x y && eqL xs ys
 | _,_=>false
theorem wc:∀ {ks:List CK} {vs:List Value},fits ks vs=true→vs.length=ks.length
 | [],[],_=>rfl
 | [],_ :: _,h=>by simp[fits] at h
 | _ :: _,[],h=>by simp[fits] at h
 | k :: ks,v :: vs,h=>by simp only[fits,Bool.and_eq_true] at h;simp[wc h.2]
theorem xN:∀ {ks ks':List CK} {vs:List Value},fits (ks++ks') vs=true→fits ks (vs.take ks.length)=true∧fits ks' (vs.drop ks.length)=true
 | [],ks',vs,h=>by simpa [fits] using h
 | k :: ks,ks',[],h=>by simp[fits] at h
 | k :: ks,ks',v :: vs,h=>by
  simp only[List.cons_append,fits,Bool.and_eq_true] at h
  have:=xN h.2
  simp[fits,h.1,this]
theorem gb:∀ (n:Nat) (xs ys:List Value),xs.length=ys.length→eqL xs ys=(eqL (xs.take n) (ys.take n) && eqL (xs.drop n) (ys.drop n))
 | 0,xs,ys,_=>by simp[eqL]
 | n+1,[],[],_=>by simp[eqL]
 | n+1,[],_ :: _,h=>by simp at h
 | n+1,_ :: _,[],h=>by simp at h
 | n+1,x :: xs,y :: ys,h=>by
  simp only[eqL,List.take_succ_cons,List.drop_succ_cons]
  rw[gb n xs ys (by simpa using h),Bool.and_assoc]
theorem zeL {k:CK} {x y:Value} (hx:fit1 k x=true) (hy:fit1 k y=true):eq1 x y=true↔x=y:=by
 cases k <;> cases x <;> simp only[fit1,Bool.false_eq_true] at hx <;> cases y <;> simp only[fit1,Bool.false_eq_true] at hy
 ·simp only[decide_eq_true_eq] at hx hy;subst hx;subst hy;simp[eq1]
 ·simp[eq1]
 ·simp only[eq1,beq_iff_eq,Value.string.injEq]
  constructor
  ·intro h
   rw[ByteArray.toList_eq,ByteArray.toList_eq] at h
   rename_i a b
   cases a;cases b
   simp only[ByteArray.mk.injEq] at h ⊢
   exact Array.toList_inj.1 h
  ·rintro rfl;rfl
theorem zcZ:∀ {ks:List CK} {xs ys:List Value},fits ks xs=true→fits ks ys=true→(eqL xs ys=true↔xs=ys)
 | [],[],[],_,_=>by simp[eqL]
 | [],_ :: _,_,h,_=>by simp[fits] at h
 | [],[],_ :: _,_,h=>by simp[fits] at h
 | _ :: _,[],_,h,_=>by simp[fits] at h
 | _ :: _,_ :: _,[],_,h=>by simp[fits] at h
 | k :: ks,x :: xs,y :: ys,hx,hy=>by
  simp only[fits,Bool.and_eq_true] at hx hy
  simp only[eqL,Bool.and_eq_true,zeL hx.1 hy.1,zcZ hx.2 hy.2,List.cons.injEq]
def fieldsK (P:Program) (f:TypeId→Option (List CK)):List Field→Nat→Option (List CK)
 | [],_=>some []
 | g :: gs,o=>match f g.type with
  | none=>none
  | some ks => if g.name != "_" && Nat.beq g.offset o && ((P.info? g.type).map (·.size) == some ks.length) then (fieldsK P f gs (o + ks.length)).map (ks ++ ·) else none
def kindsOf (P:Program):Nat→TypeId→Option (List CK)
 | 0,_=>none
 | d+1,t=>match P.underlying t with
  | some .bool=>some [.b]
  | some (.int k)=>some [.i k]
  | some .string=>some [.s]
  | some (.array n e)=>match kindsOf P d e with
   | some ks=>if (P.info? e).map (·.size) == some ks.length then some (List.replicate n ks).flatten else none
   | none=>none
  | some (.struct fs)=>if P.stoodInHeld t then none else fieldsK P (kindsOf P d) fs.toList 0
  | _=>none
def aggT (P:Program) (t:TypeId):Bool:=match P.underlying t with
 | some (.array _ _)=>true
 | some (.struct _)=>true
 | _=>false
def vOf (a:Bool) (xs:List Value):Value:=match a with
 | true=>.agg xs.toArray
 | false=>xs.headD undef
section
variable {P:Program}
theorem zaf {d:Nat} {t:TypeId} {ks:List CK} (h:kindsOf P d t=some ks) (ha:aggT P t=false):ks.length=1:=by
 cases d with
 | zero=>simp[kindsOf] at h
 | succ d=>
  simp only[kindsOf] at h
  simp only[aggT] at ha
  split at h <;> simp_all <;> (cases h;rfl)
theorem zbO {t:TypeId} (hu:∃ u,P.underlying t=some u) (w:World):(isAgg t).run P w=.ok (aggT P t) w:=by
 obtain⟨u,hu⟩:=hu
 cases u <;> simp[isAgg,run_underlying hu,aggT,hu]
theorem zcS {d:Nat} {t:TypeId} {ks:List CK} (h:kindsOf P d t=some ks):∃ u,P.underlying t=some u:=by
 cases d with
 | zero=>simp[kindsOf] at h
 | succ d=>
  simp only[kindsOf] at h
  cases hu:P.underlying t with
  | none=>rw[hu] at h;simp at h
  | some u=>exact⟨u,rfl⟩
theorem ku {d:Nat} {t:TypeId} {ks:List CK} (h:kindsOf P d t=some ks) (hs:(P.info? t).map (·.size)=some ks.length) {cs:List Value} {o:Nat} (hf:fits ks ((cs.drop o).take ks.length)=true) (w:World) :
  (part t cs.toArray o).run P w=.ok (vOf (aggT P t) ((cs.drop o).take ks.length)) w:=by
 have hagg:=zbO (zcS h)
 cases ha:aggT P t with
 | true=>
  obtain⟨i,hi,hsz⟩:=Option.map_eq_some_iff.1 hs
  have hsize:(sizeOf t).run P w=.ok ks.length w:=by simp[sizeOf,typeInfo,hi,hsz]
  simp[part,hagg,ha,hsize,vOf,List.extract_eq_take_drop]
 | false=>
  have h1:=zaf h ha
  have hl:=wc hf
  rw[h1] at hl ⊢
  have:cs[o]? = ((cs.drop o).take 1)[0]?:=by simp
  cases hc:(cs.drop o).take 1 with
  | nil=>rw[hc] at hl;simp at hl
  | cons v r=>
   rw[hc] at this
   simp at this
   simp[part,hagg,ha,vOf,this]
theorem zal {d dd:Nat} (ih:∀ t ks,kindsOf P d t=some ks→∀ w xs ys,fits ks xs=true→fits ks ys=true→(Op.equalIn dd t (vOf (aggT P t) xs) (vOf (aggT P t) ys)).run P w=.ok (eqL xs ys) w) (cs ds:List Value) (hl:cs.length=ds.length) :
  ∀ (gs:List Field) (o:Nat) (ks:List CK),fieldsK P (kindsOf P d) gs o=some ks→fits ks (cs.drop o)=true→fits ks (ds.drop o)=true→∀ w,(Op.eqFields dd cs.toArray ds.toArray gs).run P w=.ok (eqL (cs.drop o) (ds.drop o)) w
 | [],o,ks,h,h1,h2,w=>by
  simp[fieldsK] at h;subst h
  have e1:=wc h1;have e2:=wc h2
  rw[List.length_eq_zero_iff.1 e1,List.length_eq_zero_iff.1 e2]
  simp[Op.eqFields,eqL]
 | g :: gs,o,ks,h,h1,h2,w=>by
  simp only[fieldsK] at h
  split at h
  ·cases h
  ·rename_i k1 hk
   split at h
   ·rename_i hc
    simp only[Bool.and_eq_true,bne_iff_ne,ne_eq,beq_iff_eq] at hc
    obtain⟨⟨hn,ho⟩,hsz⟩:=hc
    have ho:=Nat.eq_of_beq_eq_true ho
    obtain⟨k2,hk2,rfl⟩:=Option.map_eq_some_iff.1 h
    obtain⟨a1,a2⟩:=xN h1
    obtain⟨b1,b2⟩:=xN h2
    rw[List.drop_drop] at a2 b2
    have r1:=zal ih cs ds hl gs _ k2 hk2 a2 b2 w
    simp only[Op.eqFields,hn,ne_eq,not_false_eq_true,if_true,Sem.run_bind,ho,ku hk hsz a1,ku hk hsz b1,Result.andThen_ok,ih _ _ hk w _ _ a1 b1]
    rw[gb k1.length (cs.drop o) (ds.drop o) (by simp[hl]),List.drop_drop,List.drop_drop]
    cases hb:eqL ((cs.drop o).take k1.length) ((ds.drop o).take k1.length) with
    | true=>simpa using r1
    | false=>simp
   ·cases h
theorem zbt {d dd:Nat} {e:TypeId} {k1:List CK} (ih:∀ w xs ys,fits k1 xs=true→fits k1 ys=true→(Op.equalIn dd e (vOf (aggT P e) xs) (vOf (aggT P e) ys)).run P w=.ok (eqL xs ys) w) (hk:kindsOf P d e=some k1) (hsz:(P.info? e).map (·.size)=some k1.length)
  (cs ds:List Value) (hl:cs.length=ds.length):∀ (n i:Nat),fits (List.replicate n k1).flatten (cs.drop (i*k1.length))=true→fits (List.replicate n k1).flatten (ds.drop (i*k1.length))=true→∀ w,
   (Op.eqItems dd e k1.length cs.toArray ds.toArray (List.range' i n)).run P w=.ok (eqL (cs.drop (i*k1.length)) (ds.drop (i*k1.length))) w
 | 0,i,h1,h2,w=>by
  have e1:=wc h1;have e2:=wc h2
  simp only[List.replicate_zero,List.flatten_nil,List.length_nil] at e1 e2
  rw[List.length_eq_zero_iff.1 e1,List.length_eq_zero_iff.1 e2]
  simp[Op.eqItems,eqL]
 | n+1,i,h1,h2,w=>by
  simp only[List.replicate_succ,List.flatten_cons] at h1 h2
  obtain⟨a1,a2⟩:=xN h1
  obtain⟨b1,b2⟩:=xN h2
  rw[List.drop_drop,show i*k1.length+k1.length=(i+1)*k1.length by rw[Nat.add_mul];omega] at a2 b2
  have r1:=zbt ih hk hsz cs ds hl n (i+1) a2 b2 w
  simp only[List.range'_succ,Op.eqItems,Sem.run_bind,ku hk hsz a1,ku hk hsz b1,Result.andThen_ok,ih w _ _ a1 b1]
  rw[gb k1.length (cs.drop (i*k1.length)) (ds.drop (i*k1.length)) (by simp[hl]),List.drop_drop,List.drop_drop,show i*k1.length+k1.length=(i+1)*k1.length by rw[Nat.add_mul];omega]
  cases hb:eqL ((cs.drop (i*k1.length)).take k1.length) ((ds.drop (i*k1.length)).take k1.length) with
  | true=>simpa using r1
  | false=>simp
theorem zaO:∀ (d:Nat) (t:TypeId) (ks:List CK),kindsOf P d t=some ks→∀ dd w xs ys,fits ks xs=true→fits ks ys=true→(Op.equalIn (dd+d) t (vOf (aggT P t) xs) (vOf (aggT P t) ys)).run P w=.ok (eqL xs ys) w
 | 0,t,ks,h=>by simp[kindsOf] at h
 | d+1,t,ks,h=>by
  intro dd w xs ys fx fy
  have hl:xs.length=ys.length:=by rw[wc fx,wc fy]
  simp only[kindsOf] at h
  cases hu:P.underlying t with
  | none=>rw[hu] at h;simp at h
  | some u=>
   rw[hu] at h
   have scal:∀ k:CK,ks=[k]→∃ x y,xs=[x]∧ys=[y]∧fit1 k x=true∧fit1 k y=true:=by
    rintro k rfl
    match xs,ys,fx,fy with
    | [x],[y],fx,fy=>simp only[fits,Bool.and_true] at fx fy;exact⟨x,y,rfl,rfl,fx,fy⟩
    | [],_,fx,_=>simp[fits] at fx
    | [_],[],_,fy=>simp[fits] at fy
    | _ :: _ :: _,_,fx,_=>simp[fits] at fx
    | [_],_ :: _ :: _,_,fy=>simp[fits] at fy
   cases u <;> simp only[reduceCtorEq,Option.some.injEq] at h
   case bool=>
    obtain⟨x,y,rfl,rfl,h1,h2⟩:=scal _ h.symm
    cases x <;> simp only[fit1,Bool.false_eq_true] at h1
    cases y <;> simp only[fit1,Bool.false_eq_true] at h2
    simp[aggT,hu,vOf,Op.equalIn,run_underlying hu,eqL,eq1]
   case int=>
    obtain⟨x,y,rfl,rfl,h1,h2⟩:=scal _ h.symm
    cases x <;> simp only[fit1,Bool.false_eq_true] at h1
    cases y <;> simp only[fit1,Bool.false_eq_true] at h2
    simp only[decide_eq_true_eq] at h1 h2
    subst h1;subst h2
    simp[aggT,hu,vOf,Op.equalIn,run_underlying hu,eqL,eq1]
   case string=>
    obtain⟨x,y,rfl,rfl,h1,h2⟩:=scal _ h.symm
    cases x <;> simp only[fit1,Bool.false_eq_true] at h1
    cases y <;> simp only[fit1,Bool.false_eq_true] at h2
    simp[aggT,hu,vOf,Op.equalIn,run_underlying hu,eqL,eq1,beq_toListBytes]
   case array n e=>
    split at h
    ·rename_i k1 hk
     split at h
     ·rename_i hsz
      simp only[beq_iff_eq] at hsz
      obtain⟨i,hi,hi2⟩:=Option.map_eq_some_iff.1 hsz
      cases h
      have hc:P.cellsOf e=k1.length:=by simp[Program.cellsOf,hi,hi2]
      have:=zbt (dd:=dd+d) (zaO d e k1 hk dd) hk hsz xs ys hl n 0 (by simpa using fx) (by simpa using fy) w
      simp only[Nat.zero_mul,List.drop_zero] at this
      simp only[aggT,hu,vOf]
      rw[show dd+(d+1)=(dd+d)+1 from rfl,run_equalIn_array w (dd+d) xs.toArray ys.toArray hu hi,hc,List.range_eq_range']
      exact this
     ·cases h
    ·cases h
   case struct fs=>
    split at h
    ·cases h
    ·rename_i hst
     have hfs:P.fieldsOf t=fs:=by simp[Program.fieldsOf,hu]
     have:=zal (dd:=dd+d) (fun t ks hk w xs ys=>zaO d t ks hk dd w xs ys) xs ys hl fs.toList 0 ks h (by simpa using fx) (by simpa using fy) w
     simp only[List.drop_zero] at this
     simp only[aggT,hu,vOf]
     rw[show dd+(d+1)=(dd+d)+1 from rfl,run_equalIn_struct w (dd+d) t xs.toArray ys.toArray (by rw[hfs];exact hu) (by simpa using hst),hfs]
     exact this
class EqT (P:Program) (t:TypeId) (ks:outParam (List CK)):Prop where
 kinds:kindsOf P 8 t=some ks
 agg:aggT P t=true
 guard:P.eqGuardType P.depth t=false
variable {l:Fr} {c:Cond}
theorem zcm {t t2:TypeId} {x y:Operand} {ks:List CK} {xs ys:List Value} [h:EqT P t ks] (hx:ev l x=some (valL xs)) (hy:ev l y=some (valL ys)) (fx:fits ks xs=true) (fy:fits ks ys=true):Yc P l c (.binOp .neq t x y t2) (.bool (!eqL xs ys)):=by
 unfold Yc;intro a w ha _ d ty ps af g
 have hm:=zaO 8 t ks h.kinds 9992 w xs ys fx fy
 rw[h.agg] at hm
 simp only[vOf] at hm
 simp[execOp,ha.eval hx,ha.eval hy,valL,run_eqGuard_agg w .neq t x y xs.toArray ys.toArray h.guard,run_neq_struct,hm]
class BoolT (P:Program) (t:TypeId):Prop where
 run:P.underlying t=some .bool
theorem zeQ {t t2:TypeId} {x y:Operand} {a b:Bool} [h:BoolT P t] (hx:ev l x=some (.bool a)) (hy:ev l y=some (.bool b)):Yc P l c (.binOp .neq t x y t2) (.bool (decide (a≠b))):=by
 unfold Yc;intro ac w ha _ d ty ps af g
 have:=run_equal_bool (P:=P) w t a b h.run
 simp only[execOp,ha.eval hx,ha.eval hy,eqGuard,binOp]
 simp[this];cases a <;> cases b <;> rfl
end
end Go.Pt
end
section
namespace Go.Pt
open Go Go.RowKit
class BytesT (P:Program) (t:TypeId):Prop where
 run:∃ e,P.underlying t=some (.slice e)∧P.underlying e=some (.int .u8)
class StrT (P:Program) (t:TypeId):Prop where
 run:P.underlying t=some .string
def bs (S:Mem) (s:Sl) (K:ByteArray→Prop):Prop:=∃ xs:List Int,((s.p=none∧xs=[])∨∃ b o,s.p=some (b,o)∧xs.length=s.n∧S.part b o s.n=some (xs.map (.int .u8)))∧lt (strOfNums xs) K
def bcond (s:Sl) (xs:List Int):Cond:=match s.p with
 | none=>.tt
 | some (b,o)=>.cells b o (xs.map (.int .u8))
section
variable {P:Program} {w0:World} {S0 S:Mem} {V:Hp} {l:Fr}
end
def cpy (S:Mem) (size:Nat) (d s:Sl) (K:Int→Mem→Prop):Prop:=
 sp S ⟨s.p,min s.n d.n,0⟩ size fun vs=>(d.p=none∧vs=[]∧K ((min s.n d.n:Nat):Int) S)∨∃ b o,d.p=some (b,o)∧S.room b o (min s.n d.n*size)∧K ((min s.n d.n:Nat):Int) (S.put b o vs)
def clr (S:Mem) (size:Nat) (z:List Value) (s:Sl) (K:Mem→Prop):Prop:=
 (s.p=none∨s.n=0)∧K S∨∃ b o,s.p=some (b,o)∧S.room b o (s.n*size)∧K (S.put b o (zrep s.n z))
section
variable {P:Program} {w0:World} {S0:Mem} {opl:List Oper} {Q:Exit→Act→World→Prop} {rest:List Oper} {l:Fr} {S:Mem} {V:Hp}
variable {d:Option Tmp} {op:Op} {ty:TypeId} {ps:String} {af:Array Edge} {g:Option (Nat×Bool)}
theorem zfH {t e size bytes:Nat} {z:List Value} {x y:Operand} {sd ss:Sl} {K:Int→Mem→Prop} [h:ElemT P t e z size bytes] (hw:wantL opl l g=some true)
  (hx:ev l x=some (eL sd)) (hy:ev l y=some (eL ss)) (H:cpy S size sd ss K) (k:∀ r S',K r S'→WL P w0 S0 opl Q rest (putn l d (.int .i64 r)) S' V) :
  WL P w0 S0 opl Q (⟨d,.call { callee:=.builtin .copy,args:=#[x,y],argTypes:=#[t,t] },ty,ps,af,g⟩ :: rest) l S V:=by
 unfold WL at k ⊢
 intro a w ha hS
 refine wpList_step fun KK hKK=>?_
 rw[if_pos (qo (o:=⟨d,.call { callee:=.builtin .copy,args:=#[x,y],argTypes:=#[t,t] },ty,ps,af,g⟩) hw ha)]
 unfold Oper.wp
 obtain⟨i,v0,i1,i2,i3,i4,i5⟩:=h.info
 have hs:∀ w,(sizeOf e).run P w=.ok size w:=fun w=>by simp[sizeOf,typeInfo,i1,i4]
 obtain⟨vs,hvs,h1,hK⟩:=H
 obtain⟨pd,nd,cd⟩:=sd
 obtain⟨p2,n2,c2⟩:=ss
 simp only at hvs hK
 have hfc:=(zaN (P:=P) (w0:=w0) (S0:=S0) (S:=S) (V:=V) (s:=⟨p2,min n2 nd,0⟩) (size:=size) hvs).1 w hS
 have hfc2:(Builtin.firstCells size (min n2 nd) (.slice (adr p2) n2 c2)).run P w=.ok vs.toArray w:=by
  cases hp:p2 with
  | none=>rw[hp] at hfc;simpa [Builtin.firstCells,eL,adr] using hfc
  | some q=>rw[hp] at hfc;obtain⟨u,v⟩:=q;simpa [Builtin.firstCells,eL,adr] using hfc
 rcases hK with ⟨hp,hv,hK⟩ | ⟨b,o,hp,hpart,hK⟩
 ·subst hp;subst hv
  have:(execOp a.eval ⟨d,.call { callee:=.builtin .copy,args:=#[x,y],argTypes:=#[t,t] },ty,ps,af,g⟩).run P w=.ok (.value (.int .i64 ((min n2 nd:Nat):Int))) w:=by
   have hm:Nat.min n2 nd=min n2 nd:=rfl
   simp only[eL] at hx hy
   simp[execOp,resolve,invoke,builtin,ha.eval hx,ha.eval hy,adr_none,Builtin.copy_,run_underlying h.sl,hs,Builtin.lenOf,hm,hfc2,goInt]
  rw[this]
  exact hKK _ _ (k _ _ hK _ _ (ha.put d _) hS)
 ·subst hp
  obtain⟨kb,hkb,hfr,hlp⟩:=hpart
  have hm:=hS.mem b kb hkb
  rw[hfr] at hm
  have hlen:vs.length=min n2 nd*size:=(zaN (P:=P) (w0:=w0) (S0:=S0) (S:=S) (V:=V) (s:=⟨p2,min n2 nd,0⟩) (size:=size) hvs).2
  have hst:=run_storeCells_at (P:=P) b o kb.ty vs 0 kb.cs.toArray w hm (by simp;omega) (fun v hv=>List.all_eq_true.1 h1 v hv)
  simp only[Nat.add_zero] at hst
  rw[←xk kb.cs o vs (by omega)] at hst
  have:(execOp a.eval ⟨d,.call { callee:=.builtin .copy,args:=#[x,y],argTypes:=#[t,t] },ty,ps,af,g⟩).run P w=.ok (.value (.int .i64 ((min n2 nd:Nat):Int))) (w.setRow b (spl kb.cs o vs).toArray):=by
   have hm:Nat.min n2 nd=min n2 nd:=rfl
   simp only[eL] at hx hy
   simp[execOp,resolve,invoke,builtin,ha.eval hx,ha.eval hy,zbB,Builtin.copy_,run_underlying h.sl,hs,Builtin.lenOf,hm,hfc2,goInt,hst]
  rw[this]
  exact hKK _ _ (k _ _ hK _ _ (ha.put d _) (hS.putS hkb _))
where adr_none:adr none=none:=rfl
end
section
variable {P:Program} {l:Fr} {c:Cond}
end
/-! strings ranged over;a slice of one's own as a string -/
section
variable {P:Program} {w0 w:World} {S0 S:Mem} {V:Hp}
theorem St.allocE (h:St w0 S0 S V w) {cs:List Value} {o:Obj} (ho:(Ent.mk w.heap.size itT cs).obj=o):St w0 S0 S (V++[⟨w.heap.size,itT,cs⟩]) (w.alloc o):=by
 refine⟨h.os,h.tape,h.output,by have:=h.size;simp;omega,fun k hk hn=>?_,fun b k hb=>?_,fun e he=>?_,?_,h.own,h.keep⟩
 ·rw[heap_alloc_old w _ (show k<w.heap.size by have:=h.size;omega)];exact h.frame k hk hn
 ·rw[heap_alloc_old w _ (h.lt hb)];exact h.mem b k hb
 ·rcases List.mem_append.1 he with he | he
  ·rw[heap_alloc_old w _ (h.ltV he)];exact h.loc e he
  ·obtain rfl:e=_:=by simpa using he
   exact⟨by rw[ho];exact heap_alloc_new w _,h.fresh,h.size⟩
 ·refine List.pairwise_append.2 ⟨h.nodup,by simp,fun x hx y hy=>?_⟩
  obtain rfl:y=_:=by simpa using hy
  have:=h.ltV hx
  simp;omega
end
section
variable {P:Program} {w0:World} {S0:Mem} {opl:List Oper} {Q:Exit→Act→World→Prop} {rest:List Oper} {l:Fr} {S:Mem} {V:Hp}
variable {d:Option Tmp} {op:Op} {ty:TypeId} {ps:String} {af:Array Edge} {g:Option (Nat×Bool)}
end
/-! an interface value against nil -/
class IfaceT (P:Program) (t:TypeId):Prop where
 run:∃ ms,P.underlying t=some (.interface ms)
def ni (v:Value) (K:Bool→Prop):Prop:=∃ b,((v=.nilIface∧b=true)∨((∃ t u,v=.iface t u)∧b=false))∧K b
section
variable {P:Program} {l:Fr} {c:Cond}
end
end Go.Pt
end
section
namespace Go.Pt
open Go Go.RowKit
def isI (v:Value):Prop:=∃ t x,v=.iface t x
def asI (v:Value) (t:TypeId) (k:IntKind) (K:Int→Prop):Prop:=∃ n,v=.iface t (.int k n)∧K n
class MethS (P:Program) (t:TypeId) (name:String) (f:outParam FuncId):Prop where
 run:∀ cs w,(method (P.types.size+Made.depth) t (valL cs) name).run P w=.ok (f,valL cs) w
def fz (S:Mem) (b:Nat) (K:Mem→Prop):Prop:=∃ k,S b=some k∧k.fr=(0,0)∧K (S.set b ⟨k.ty,k.cs,(k.cs.length,k.cs.length+1)⟩)
section
variable {P:Program} {w0:World} {S0:Mem} {opl:List Oper} {Q:Exit→Act→World→Prop} {rest:List Oper} {l:Fr} {S:Mem} {V:Hp} {c:Cond}
variable {d:Option Tmp} {ty:TypeId} {ps:String} {af:Array Edge} {g:Option (Nat×Bool)}
end
/-! maps of one's own in which nothing is -/
class MapZ (P:Program) (t:TypeId) (n:outParam Nat) (z:outParam Value):Prop where
 und:∃ ke el,P.underlying t=some (.map ke el)
 look:∀ b w cs,cs.length=n→w.heap[b]? = some (.map #[] 0)→(Instr.lookup t (.map (some b)) (valL cs) false).run P w=.ok z w
theorem zfu {P:Program} {ie:TypeId} {k:IntKind} (hi:P.underlying ie=some (.int k)) (e:Bool) (n:Nat) (x:Value) (w:World):(Instr.checkKey e (n+1) ie x).run P w=.ok () w:=by
 rw[Instr.checkKey]
 simp[run_underlying hi]
theorem zft {P:Program} {ke ie:TypeId} {k:IntKind} (ha:P.underlying ke=some (.array 2 ie)) (hi:P.underlying ie=some (.int k)) (hs:∀ w,(sizeOf ie).run P w=.ok 1 w) (hg:∀ w,(isAgg ie).run P w=.ok false w) (e:Bool) (n:Nat) (x y:Value) (w:World) :
  (Instr.checkKey e (n+1+1) ke (.agg #[x,y])).run P w=.ok () w:=by
 rw[Instr.checkKey]
 simp[run_underlying ha,hs,part,hg,zfu hi,show List.range' 0 2=[0,1] from rfl]
theorem zeu {P:Program} {t ke el ie:TypeId} {k:IntKind} {z:Value} (hk:P.underlying t=some (.map ke el)) (ha:P.underlying ke=some (.array 2 ie)) (hi:P.underlying ie=some (.int k))
  (hs:∀ w,(sizeOf ie).run P w=.ok 1 w) (hg:∀ w,(isAgg ie).run P w=.ok false w) (hz:∀ w,(zeroValue el).run P w=.ok z w):MapZ P t 2 z:=by
 refine⟨⟨_,_,hk⟩,fun b w cs hl hb=>?_⟩
 match cs,hl with
 | [x,y],_=>
  have hc:=zft ha hi hs hg true 9998 x y w
  simp only[Nat.reduceAdd] at hc
  have hf:(Instr.findKey ke (.agg #[x,y]) []).run P w=.ok none w:=by simp[Instr.findKey,run_underlying ha,Instr.findNow]
  simp[Instr.lookup,run_underlying hk,getObj,Sem.run,hb,hz,valL] at hc hf ⊢
  simp[hc,hf]
  exact hz w
section
variable {P:Program} {w0 w:World} {S0 S:Mem} {V:Hp}
theorem zfL {b:Nat} (n:Nat) (hn:nthL V n=some ⟨b,itT,[]⟩):HC w0 S0 S V (.mp b):=fun w hS=>by
 have:=(hS.loc _ (qY hn)).1
 rwa [Ent.obj_map] at this
variable {opl:List Oper} {Q:Exit→Act→World→Prop} {rest:List Oper} {l:Fr}
variable {d:Option Tmp} {ty:TypeId} {ps:String} {af:Array Edge} {g:Option (Nat×Bool)}
theorem zfF {t:TypeId} (hw:wantL opl l g=some true)
  (k:∀ b,WL P w0 S0 opl Q rest (putn l d (.map (some b))) S (V++[⟨b,itT,[]⟩])):WL P w0 S0 opl Q (⟨d,.makeMap t none,ty,ps,af,g⟩ :: rest) l S V:=
 fun a w ha hS=>wpList_step fun K hK=>by
  rw[if_pos (qo (o:=⟨d,.makeMap t none,ty,ps,af,g⟩) hw ha)]
  unfold Oper.wp
  have:(execOp a.eval ⟨d,.makeMap t none,ty,ps,af,g⟩).run P w=.ok (.value (.map (some w.heap.size))) (w.alloc (.map #[] 0)):=by
   simp[execOp,Instr.makeMap,newObj,Sem.run]
  rw[this]
  exact hK _ _ (k w.heap.size _ _ (ha.put d _) (hS.allocE (cs:=[]) (Ent.obj_map _)))
theorem zco {t:TypeId} {x i:Operand} {b n:Nat} {vs:List Value} {z:Value} [h:MapZ P t n z] (hx:ev l x=some (.map (some b))) (hi:ev l i=some (valL vs)) (hl:vs.length=n):Yc P l (.mp b) (.lookup t x i false) z:=fun a w ha hc d ty ps af g=>by
 have:=h.look b w vs hl hc
 simp[execOp,ha.eval hx,ha.eval hi,this]
theorem zeR {t n:Nat} {z:Value} {x:Operand} {b:Nat} [h:MapZ P t n z] (hx:ev l x=some (.map (some b))):Yc P l (.mp b) (.call { callee:=.builtin .len,args:=#[x],argTypes:=#[t] }) (.int .i64 0):=fun a w ha hc d ty ps af g=>by
 obtain⟨ke,el,hu⟩:=h.und
 have hc:w.heap[b]? = some (.map #[] 0):=hc
 simp[execOp,ha.eval hx,resolve,invoke,builtin,Builtin.len_,run_underlying hu,goInt,getObj,Sem.run,hc]
end
end Go.Pt
end
section
namespace Go.Pt
open Go
theorem iteK {p A B R:Prop} [Decidable p] (h:if p then A else B) (h1:p→A→R) (h2:¬p→B→R):R:=by
 rcases zfJ h with ⟨a,b⟩ | ⟨a,b⟩
 ·exact h1 a b
 ·exact h2 a b
theorem an {p q R:Prop} (h:p∧q) (k:p→q→R):R:=k h.1 h.2
theorem an2 {p p2 q R:Prop} (h:p∧p2∧q) (k:p→p2→q→R):R:=k h.1 h.2.1 h.2.2
theorem an3 {p p2 p3 q R:Prop} (h:p∧p2∧p3∧q) (k:p→p2→p3→q→R):R:=k h.1 h.2.1 h.2.2.1 h.2.2.2
theorem gx {α:Type} {p q:α→Prop} {R:Prop} (h:∃ x,p x∧q x) (k:∀ x,p x→q x→R):R:=h.elim fun x hx=>k x hx.1 hx.2
section rules
variable {P:Program} {w0:World} {S0:Mem} {opl:List Oper} {Q:Exit→Act→World→Prop} {rest:List Oper} {l:Fr} {S:Mem} {V:Hp}
variable {d:Option Tmp} {ty:TypeId} {ps:String} {af:Array Edge} {g:Option (Nat×Bool)}
theorem mv {x:Operand} {v:Value} (hw:wantL opl l g=some true) (hx:ev l x=some v) (k:WL P w0 S0 opl Q rest (putn l d v) S V):WL P w0 S0 opl Q (⟨d,.move x,ty,ps,af,g⟩ :: rest) l S V:=s_p hw (zj hx) k
theorem gv {x:Operand} {v:Value} (hw:wantL opl l g=some true) (hx:ev l x=some v) (k:WL P w0 S0 opl Q rest (putn l d v) S V):WL P w0 S0 opl Q (⟨d,.assign x,ty,ps,af,g⟩ :: rest) l S V:=s_p hw (zW hx) k
theorem ceT {k:IntKind} {m n:Int} {x y:Operand} {t t2:TypeId} (hw:wantL opl l g=some true) (hx:ev l x=some (.int k m)) (hy:ev l y=some (.int k n)) (hp:m=n)
  (h:WL P w0 S0 opl Q rest (putn l d (.bool true)) S V):WL P w0 S0 opl Q (⟨d,.binOp .eql t x y t2,ty,ps,af,g⟩ :: rest) l S V:=s_p hw (yT (xV hx hy) hp) h
theorem ceF {k:IntKind} {m n:Int} {x y:Operand} {t t2:TypeId} (hw:wantL opl l g=some true) (hx:ev l x=some (.int k m)) (hy:ev l y=some (.int k n)) (hp:¬m=n)
  (h:WL P w0 S0 opl Q rest (putn l d (.bool false)) S V):WL P w0 S0 opl Q (⟨d,.binOp .eql t x y t2,ty,ps,af,g⟩ :: rest) l S V:=s_p hw (yF (xV hx hy) hp) h
theorem csr {i:Nat} {ol:List Oper} {y:Code} (h:WL P w0 S0 ol (Exit.then (y.wp P Q) Q) ol l S V):WC P w0 S0 (.seq (.region i ol.toArray false) y) Q l S V:=zx (zr h)
theorem nx {y:Code} (h:WC P w0 S0 y Q l S V):WL P w0 S0 opl (Exit.then (y.wp P Q) Q) [] l S V:=zu (zk h)
theorem nxr {i:Nat} {ol:List Oper} {y:Code} (h:WL P w0 S0 ol (Exit.then (y.wp P Q) Q) ol l S V):WL P w0 S0 opl (Exit.then ((Code.seq (.region i ol.toArray false) y).wp P Q) Q) [] l S V:=nx (csr h)
theorem ctr {i:Nat} {ol:List Oper} {c:Operand} {y:Code} {e:Bool} (hc:ev l c=some (.bool e)) (he:e=true) (h:WL P w0 S0 ol Q ol l S V):WC P w0 S0 (.cond c (.region i ol.toArray false) y) Q l S V:=c_t hc he (zr h)
theorem cfr {i:Nat} {ol:List Oper} {c:Operand} {x:Code} {e:Bool} (hc:ev l c=some (.bool e)) (he:e=false) (h:WL P w0 S0 ol Q ol l S V):WC P w0 S0 (.cond c x (.region i ol.toArray false)) Q l S V:=c_f hc he (zr h)
theorem cfs {c:Operand} {x:Code} {e:Bool} (hc:ev l c=some (.bool e)) (he:e=false) (h:WQ w0 S0 Q .normal l S V):WC P w0 S0 (.cond c x .skip) Q l S V:=c_f hc he (qg h)
theorem pk {q x y:Operand} {b:Bool} {v:Value} (hw:wantL opl l g=some true) (hc:ev l q=some (.bool b)) (hx:ev l (if b then x else y)=some v) (k:WL P w0 S0 opl Q rest (putn l d v) S V) :
  WL P w0 S0 opl Q (⟨d,.pick q x y,ty,ps,af,g⟩ :: rest) l S V:=s_p hw (zq hc hx) k
theorem sk2 {d0:Option Tmp} {op0:Op} {ty0:TypeId} {ps0:String} {af0:Array Edge} {g0:Option (Nat×Bool)} {d1:Option Tmp} {op1:Op} {ty1:TypeId} {ps1:String} {af1:Array Edge} {g1:Option (Nat×Bool)} (h0:wantL opl l g0=some false) (h1:wantL opl (putn l d0 undef) g1=some false)
  (k:WL P w0 S0 opl Q rest (putn (putn l d0 undef) d1 undef) S V):WL P w0 S0 opl Q (⟨d0,op0,ty0,ps0,af0,g0⟩ :: ⟨d1,op1,ty1,ps1,af1,g1⟩ :: rest) l S V:=zP h0 (zP h1 k)
theorem sk4 {d0:Option Tmp} {op0:Op} {ty0:TypeId} {ps0:String} {af0:Array Edge} {g0:Option (Nat×Bool)} {d1:Option Tmp} {op1:Op} {ty1:TypeId} {ps1:String} {af1:Array Edge} {g1:Option (Nat×Bool)} {d2:Option Tmp} {op2:Op} {ty2:TypeId} {ps2:String} {af2:Array Edge} {g2:Option (Nat×Bool)} {d3:Option Tmp} {op3:Op} {ty3:TypeId} {ps3:String} {af3:Array Edge} {g3:Option (Nat×Bool)} (h0:wantL opl l g0=some false) (h1:wantL opl (putn l d0 undef) g1=some false) (h2:wantL opl (putn (putn l d0 undef) d1 undef) g2=some false) (h3:wantL opl (putn (putn (putn l d0 undef) d1 undef) d2 undef) g3=some false)
  (k:WL P w0 S0 opl Q rest (putn (putn (putn (putn l d0 undef) d1 undef) d2 undef) d3 undef) S V):WL P w0 S0 opl Q (⟨d0,op0,ty0,ps0,af0,g0⟩ :: ⟨d1,op1,ty1,ps1,af1,g1⟩ :: ⟨d2,op2,ty2,ps2,af2,g2⟩ :: ⟨d3,op3,ty3,ps3,af3,g3⟩ :: rest) l S V:=zP h0 (zP h1 (zP h2 (zP h3 k)))
theorem sk8 {d0:Option Tmp} {op0:Op} {ty0:TypeId} {ps0:String} {af0:Array Edge} {g0:Option (Nat×Bool)} {d1:Option Tmp} {op1:Op} {ty1:TypeId} {ps1:String} {af1:Array Edge} {g1:Option (Nat×Bool)} {d2:Option Tmp} {op2:Op} {ty2:TypeId} {ps2:String} {af2:Array Edge} {g2:Option (Nat×Bool)} {d3:Option Tmp} {op3:Op} {ty3:TypeId} {ps3:String} {af3:Array Edge} {g3:Option (Nat×Bool)} {d4:Option Tmp} {op4:Op} {ty4:TypeId} {ps4:String} {af4:Array Edge} {g4:Option (Nat×Bool)} {d5:Option Tmp} {op5:Op} {ty5:TypeId} {ps5:String} {af5:Array Edge} {g5:Option (Nat×Bool)} {d6:Option Tmp} {op6:Op} {ty6:TypeId} {ps6:String} {af6:Array Edge} {g6:Option (Nat×Bool)} {d7:Option Tmp} {op7:Op} {ty7:TypeId} {ps7:String} {af7:Array Edge} {g7:Option (Nat×Bool)} (h0:wantL opl l g0=some false) (h1:wantL opl (putn l d0 undef) g1=some false) (h2:wantL opl (putn (putn l d0 undef) d1 undef) g2=some false) (h3:wantL opl (putn (putn (putn l d0 undef) d1 undef) d2 undef) g3=some false) (h4:wantL opl (putn (putn (putn (putn l d0 undef) d1 undef) d2 undef) d3 undef) g4=some false) (h5:wantL opl (putn (putn (putn (putn (putn l d0 undef) d1 undef) d2 undef) d3 undef) d4 undef) g5=some false) (h6:wantL opl (putn (putn (putn (putn (putn (putn l d0 undef) d1 undef) d2 undef) d3 undef) d4 undef) d5 undef) g6=some false) (h7:wantL opl (putn (putn (putn (putn (putn (putn (putn l d0 undef) d1 undef) d2 undef) d3 undef) d4 undef) d5 undef) d6 undef) g7=some false)
  (k:WL P w0 S0 opl Q rest (putn (putn (putn (putn (putn (putn (putn (putn l d0 undef) d1 undef) d2 undef) d3 undef) d4 undef) d5 undef) d6 undef) d7 undef) S V):WL P w0 S0 opl Q (⟨d0,op0,ty0,ps0,af0,g0⟩ :: ⟨d1,op1,ty1,ps1,af1,g1⟩ :: ⟨d2,op2,ty2,ps2,af2,g2⟩ :: ⟨d3,op3,ty3,ps3,af3,g3⟩ :: ⟨d4,op4,ty4,ps4,af4,g4⟩ :: ⟨d5,op5,ty5,ps5,af5,g5⟩ :: ⟨d6,op6,ty6,ps6,af6,g6⟩ :: ⟨d7,op7,ty7,ps7,af7,g7⟩ :: rest) l S V:=zP h0 (zP h1 (zP h2 (zP h3 (zP h4 (zP h5 (zP h6 (zP h7 k)))))))
section calls
variable {f:FuncId} {xs:List Operand} {ats:Array TypeId} {args:List Value} [hcall:CallT P f]
theorem zdR {u:Value} {K:Mem→Prop} (hw:wantL opl l g=some true) (hx:evs l xs=some args) (hc:Tr P f S args fun v S'=>v=u∧K S')
  (k:∀ S',K S'→WL P w0 S0 opl Q rest (putn l d u) S' V):WL P w0 S0 opl Q (⟨d,.call { callee:=.value (.func f),args:=xs.toArray,argTypes:=ats },ty,ps,af,g⟩ :: rest) l S V:=yG hw hx hc fun _ S' h=>by
 obtain⟨rfl,h⟩:=h;exact k S' h
theorem qW {α:Type} {e:α→Value} {K:α→Mem→Prop} (hw:wantL opl l g=some true) (hx:evs l xs=some args) (hc:Tr P f S args fun v S'=>∃ t,v=e t∧K t S')
  (k:∀ t S',K t S'→WL P w0 S0 opl Q rest (putn l d (e t)) S' V):WL P w0 S0 opl Q (⟨d,.call { callee:=.value (.func f),args:=xs.toArray,argTypes:=ats },ty,ps,af,g⟩ :: rest) l S V:=yG hw hx hc fun _ S' h=>by
 obtain⟨t,rfl,h⟩:=h;exact k t S' h
theorem zbe {α β:Type} {e:α→β→Value} {K:α→β→Mem→Prop} (hw:wantL opl l g=some true) (hx:evs l xs=some args) (hc:Tr P f S args fun v S'=>∃ t u,v=e t u∧K t u S')
  (k:∀ t u S',K t u S'→WL P w0 S0 opl Q rest (putn l d (e t u)) S' V):WL P w0 S0 opl Q (⟨d,.call { callee:=.value (.func f),args:=xs.toArray,argTypes:=ats },ty,ps,af,g⟩ :: rest) l S V:=yG hw hx hc fun _ S' h=>by
 obtain⟨t,u,rfl,h⟩:=h;exact k t u S' h
theorem zfN {α β γ:Type} {e:α→β→γ→Value} {K:α→β→γ→Mem→Prop} (hw:wantL opl l g=some true) (hx:evs l xs=some args) (hc:Tr P f S args fun v S'=>∃ t u z,v=e t u z∧K t u z S')
  (k:∀ t u z S',K t u z S'→WL P w0 S0 opl Q rest (putn l d (e t u z)) S' V):WL P w0 S0 opl Q (⟨d,.call { callee:=.value (.func f),args:=xs.toArray,argTypes:=ats },ty,ps,af,g⟩ :: rest) l S V:=yG hw hx hc fun _ S' h=>by
 obtain⟨t,u,z,rfl,h⟩:=h;exact k t u z S' h
end calls
end rules
end Go.Pt
namespace Go.Pt
theorem E {α:Sort _} {a:α}:a=a:=rfl
theorem aTP {P:Program} {fn:Func} {w0:World} {S0 S:Mem} {R:Value→Mem→Prop} {opl:List Oper} {K:Act→World→Prop} {fuel:Nat} {cs:List (Nat×Cond)} {listed:Array Bool} {l:Fr} {V:Hp} {d:Option Tmp} {op:Op} {ty:TypeId} {ps:String} {af:Array Edge} {g:Option (Nat×Bool)} (i:Nat) {v:Value} (hi:nthL opl i=some ⟨d,op,ty,ps,af,g⟩) (hok:okTake opl listed i=true)
  (hw:wantL opl l g=some true) (hy:Yc P l .tt op v) (k:WA P w0 S0 opl (Exit.then K (bodyPost P fn (FR w0 S0 R))) fuel cs (listed.setIfInBounds i true) (putn l d v) S V):WA P w0 S0 opl (Exit.then K (bodyPost P fn (FR w0 S0 R))) (fuel+1) cs listed l S V:=a_takeP i hi hok (za zb) hw hy k
theorem aT {P:Program} {fn:Func} {w0:World} {S0 S:Mem} {R:Value→Mem→Prop} {opl:List Oper} {K:Act→World→Prop} {fuel:Nat} {cs:List (Nat×Cond)} {listed:Array Bool} {l:Fr} {V:Hp} {d:Option Tmp} {op:Op} {ty:TypeId} {ps:String} {af:Array Edge} {g:Option (Nat×Bool)} (i:Nat) {c:Cond} {v:Value} (hi:nthL opl i=some ⟨d,op,ty,ps,af,g⟩) (hok:okTake opl listed i=true)
  (hw:wantL opl l g=some true) (hy:Yc P l c op v) (hc:HC w0 S0 S V c) (k:WA P w0 S0 opl (Exit.then K (bodyPost P fn (FR w0 S0 R))) fuel ((i,c) :: cs) (listed.setIfInBounds i true) (putn l d v) S V):WA P w0 S0 opl (Exit.then K (bodyPost P fn (FR w0 S0 R))) (fuel+1) cs listed l S V:=zA i hi hok (za zb) hw hy hc k
end Go.Pt
end
section
namespace Go.Proofs.YtabdpmnhjlmnlaaGreatDoor
open Go Go.Pt
instance:ScalarT Tryz.prog 3:=⟨fun _=>by kernel_rfl⟩
instance:SizeT Tryz.prog 3 1:=⟨fun _=>by kernel_rfl⟩
instance:ScalarT Tryz.prog 4:=⟨fun _=>by kernel_rfl⟩
instance:SizeT Tryz.prog 4 1:=⟨fun _=>by kernel_rfl⟩
instance:ScalarT Tryz.prog 5:=⟨fun _=>by kernel_rfl⟩
instance:SizeT Tryz.prog 5 1:=⟨fun _=>by kernel_rfl⟩
instance:ScalarT Tryz.prog 22:=⟨fun _=>by kernel_rfl⟩
instance:SizeT Tryz.prog 22 1:=⟨fun _=>by kernel_rfl⟩
instance:SliceT Tryz.prog 22 5 1:=⟨by kernel_rfl,fun _=>by kernel_rfl⟩
instance:ScalarT Tryz.prog 39:=⟨fun _=>by kernel_rfl⟩
instance:SizeT Tryz.prog 39 1:=⟨fun _=>by kernel_rfl⟩
instance:ScalarT Tryz.prog 41:=⟨fun _=>by kernel_rfl⟩
instance:AggT Tryz.prog 43 26:=⟨fun _=>by kernel_rfl⟩
instance:SizeT Tryz.prog 43 26:=⟨fun _=>by kernel_rfl⟩
def z43:List Value:=[.int .u64 0,.int .u64 0,.int .u64 0,.int .u64 0,.int .u64 0,.int .u64 0,.int .u64 0,.int .u64 0,.int .u64 0,.int .u64 0,.int .u64 0,.int .u64 0,.int .u64 0,.int .u64 0,.int .u64 0,.int .u64 0,.int .u64 0,.int .u64 0,.int .u64 0,.int .u64 0,.int .u64 0,.int .u64 0,.bool false,.int .u8 0,.int .u32 0,.int .u32 0]
theorem zdZ:z43.length=26:=by kernel_rfl
instance:ZeroT Tryz.prog 43 z43:=⟨fun _=>⟨valL z43,rfl,by kernel_rfl⟩⟩
instance:StructT Tryz.prog 43 (fun i=>(#[(0,16),(16,1),(17,1),(18,1),(19,1),(20,1),(21,1),(22,1),(23,1),(24,1),(25,1)]:Array (Nat×Nat))[i]?) z43:=qm Tryz.underlying43 (fun _=>by kernel_rfl)
instance:SizeT Tryz.prog 58 1:=⟨fun _=>by kernel_rfl⟩
instance:ScalarT Tryz.prog 60:=⟨fun _=>by kernel_rfl⟩
instance:SizeT Tryz.prog 60 1:=⟨fun _=>by kernel_rfl⟩
instance:SliceT Tryz.prog 60 43 26:=⟨by kernel_rfl,fun _=>by kernel_rfl⟩
instance:ScalarT Tryz.prog 61:=⟨fun _=>by kernel_rfl⟩
instance:SizeT Tryz.prog 61 1:=⟨fun _=>by kernel_rfl⟩
instance:SliceT Tryz.prog 61 3 1:=⟨by kernel_rfl,fun _=>by kernel_rfl⟩
instance:AggT Tryz.prog 63 2:=⟨fun _=>by kernel_rfl⟩
instance:SizeT Tryz.prog 63 2:=⟨fun _=>by kernel_rfl⟩
abbrev z63:List Value:=[.int .i64 0,.slice none 0 0]
instance:ZeroT Tryz.prog 63 [.int .i64 0,.slice none 0 0]:=⟨fun _=>⟨valL z63,rfl,by kernel_rfl⟩⟩
instance:FieldT Tryz.prog 63 0 0 3:=⟨⟨_,Tryz.underlying63,_,rfl,rfl,rfl⟩,⟨1,by decide,fun _=>by kernel_rfl⟩⟩
instance:FieldT Tryz.prog 63 1 1 61:=⟨⟨_,Tryz.underlying63,_,rfl,rfl,rfl⟩,⟨1,by decide,fun _=>by kernel_rfl⟩⟩
instance:StructT Tryz.prog 63 (fun i=>(#[(0,1),(1,1)]:Array (Nat×Nat))[i]?) [.int .i64 0,.slice none 0 0]:=qm Tryz.underlying63 (fun _=>by kernel_rfl)
instance:AggT Tryz.prog 64 4:=⟨fun _=>by kernel_rfl⟩
instance:SizeT Tryz.prog 64 4:=⟨fun _=>by kernel_rfl⟩
abbrev z64:List Value:=[.slice none 0 0,.slice none 0 0,.slice none 0 0,.slice none 0 0]
instance:ZeroT Tryz.prog 64 [.slice none 0 0,.slice none 0 0,.slice none 0 0,.slice none 0 0]:=⟨fun _=>⟨valL z64,rfl,by kernel_rfl⟩⟩
instance:ArrayT Tryz.prog 64 4 22 1:=⟨by kernel_rfl,fun _=>by kernel_rfl⟩
instance:AggT Tryz.prog 66 12:=⟨fun _=>by kernel_rfl⟩
instance:SizeT Tryz.prog 66 12:=⟨fun _=>by kernel_rfl⟩
abbrev z66:List Value:=[.bool false,.slice none 0 0,.int .i64 0,.slice none 0 0,.int .i64 0,.int .u64 0,.slice none 0 0,.slice none 0 0,.slice none 0 0,.slice none 0 0,.slice none 0 0,.int .u32 0]
instance:ZeroT Tryz.prog 66 [.bool false,.slice none 0 0,.int .i64 0,.slice none 0 0,.int .i64 0,.int .u64 0,.slice none 0 0,.slice none 0 0,.slice none 0 0,.slice none 0 0,.slice none 0 0,.int .u32 0]:=⟨fun _=>⟨valL z66,rfl,by kernel_rfl⟩⟩
instance:FieldT Tryz.prog 66 0 0 4:=⟨⟨_,Tryz.underlying66,_,rfl,rfl,rfl⟩,⟨1,by decide,fun _=>by kernel_rfl⟩⟩
instance:FieldT Tryz.prog 66 1 1 60:=⟨⟨_,Tryz.underlying66,_,rfl,rfl,rfl⟩,⟨1,by decide,fun _=>by kernel_rfl⟩⟩
instance:FieldT Tryz.prog 66 2 2 63:=⟨⟨_,Tryz.underlying66,_,rfl,rfl,rfl⟩,⟨2,by decide,fun _=>by kernel_rfl⟩⟩
instance:FieldT Tryz.prog 66 3 4 3:=⟨⟨_,Tryz.underlying66,_,rfl,rfl,rfl⟩,⟨1,by decide,fun _=>by kernel_rfl⟩⟩
instance:FieldT Tryz.prog 66 4 5 39:=⟨⟨_,Tryz.underlying66,_,rfl,rfl,rfl⟩,⟨1,by decide,fun _=>by kernel_rfl⟩⟩
instance:FieldT Tryz.prog 66 5 6 22:=⟨⟨_,Tryz.underlying66,_,rfl,rfl,rfl⟩,⟨1,by decide,fun _=>by kernel_rfl⟩⟩
instance:FieldT Tryz.prog 66 7 11 41:=⟨⟨_,Tryz.underlying66,_,rfl,rfl,rfl⟩,⟨1,by decide,fun _=>by kernel_rfl⟩⟩
instance:StructT Tryz.prog 66 (fun i=>(#[(0,1),(1,1),(2,2),(4,1),(5,1),(6,1),(7,4),(11,1)]:Array (Nat×Nat))[i]?) [.bool false,.slice none 0 0,.int .i64 0,.slice none 0 0,.int .i64 0,.int .u64 0,.slice none 0 0,.slice none 0 0,.slice none 0 0,.slice none 0 0,.slice none 0 0,.int .u32 0]:=qm Tryz.underlying66 (fun _=>by kernel_rfl)
instance:AggT Tryz.prog 67 72:=⟨fun _=>by kernel_rfl⟩
instance:SizeT Tryz.prog 67 72:=⟨fun _=>by kernel_rfl⟩
instance:ArrayT Tryz.prog 67 6 66 12:=⟨by kernel_rfl,fun _=>by kernel_rfl⟩
instance:ScalarT Tryz.prog 68:=⟨fun _=>by kernel_rfl⟩
instance:AggT Tryz.prog 70 6:=⟨fun _=>by kernel_rfl⟩
instance:SizeT Tryz.prog 70 6:=⟨fun _=>by kernel_rfl⟩
abbrev z70:List Value:=[.bool false,.int .i64 0,.int .i64 0,.int .i64 0,.bool false,.int .i64 0]
instance:ZeroT Tryz.prog 70 [.bool false,.int .i64 0,.int .i64 0,.int .i64 0,.bool false,.int .i64 0]:=⟨fun _=>⟨valL z70,rfl,by kernel_rfl⟩⟩
instance:FieldT Tryz.prog 70 0 0 4:=⟨⟨_,Tryz.underlying70,_,rfl,rfl,rfl⟩,⟨1,by decide,fun _=>by kernel_rfl⟩⟩
instance:FieldT Tryz.prog 70 1 1 3:=⟨⟨_,Tryz.underlying70,_,rfl,rfl,rfl⟩,⟨1,by decide,fun _=>by kernel_rfl⟩⟩
instance:FieldT Tryz.prog 70 2 2 3:=⟨⟨_,Tryz.underlying70,_,rfl,rfl,rfl⟩,⟨1,by decide,fun _=>by kernel_rfl⟩⟩
instance:FieldT Tryz.prog 70 3 3 3:=⟨⟨_,Tryz.underlying70,_,rfl,rfl,rfl⟩,⟨1,by decide,fun _=>by kernel_rfl⟩⟩
instance:FieldT Tryz.prog 70 5 5 3:=⟨⟨_,Tryz.underlying70,_,rfl,rfl,rfl⟩,⟨1,by decide,fun _=>by kernel_rfl⟩⟩
instance:AggT Tryz.prog 72 96:=⟨fun _=>by kernel_rfl⟩
instance:SizeT Tryz.prog 72 96:=⟨fun _=>by kernel_rfl⟩
instance:ArrayT Tryz.prog 72 16 70 6:=⟨by kernel_rfl,fun _=>by kernel_rfl⟩
def z77:List Value:=[.int .i64 0,.int .u64 0,.bool false,.slice none 0 0,.int .i64 0,.slice none 0 0,.int .i64 0,.int .u64 0,.slice none 0 0,.slice none 0 0,.slice none 0 0,.slice none 0 0,.slice none 0 0,.int .u32 0,.bool false,.slice none 0 0,.int .i64 0,.slice none 0 0,.int .i64 0,.int .u64 0,.slice none 0 0,.slice none 0 0,.slice none 0 0,.slice none 0 0,.slice none 0 0,.int .u32 0,.bool false,.slice none 0 0,.int .i64 0,.slice none 0 0,.int .i64 0,.int .u64 0,.slice none 0 0,.slice none 0 0,.slice none 0 0,.slice none 0 0,.slice none 0 0,.int .u32 0,.bool false,.slice none 0 0,.int .i64 0,.slice none 0 0,.int .i64 0,.int .u64 0,.slice none 0 0,.slice none 0 0,.slice none 0 0,.slice none 0 0,.slice none 0 0,.int .u32 0,.bool false,.slice none 0 0,.int .i64 0,.slice none 0 0,.int .i64 0,.int .u64 0,.slice none 0 0,.slice none 0 0,.slice none 0 0,.slice none 0 0,.slice none 0 0,.int .u32 0,.bool false,.slice none 0 0,.int .i64 0,.slice none 0 0,.int .i64 0,.int .u64 0,.slice none 0 0,.slice none 0 0,.slice none 0 0,.slice none 0 0,.slice none 0 0,.int .u32 0,.pointer none,.bool false,.int .i64 0,.int .i64 0,.int .i64 0,.bool false,.int .i64 0,.bool false,.int .i64 0,.int .i64 0,.int .i64 0,.bool false,.int .i64 0,.bool false,.int .i64 0,.int .i64 0,.int .i64 0,.bool false,.int .i64 0,.bool false,.int .i64 0,.int .i64 0,.int .i64 0,.bool false,.int .i64 0,.bool false,.int .i64 0,.int .i64 0,.int .i64 0,.bool false,.int .i64 0,.bool false,.int .i64 0,.int .i64 0,.int .i64 0,.bool false,.int .i64 0,.bool false,.int .i64 0,.int .i64 0,.int .i64 0,.bool false,.int .i64 0,.bool false,.int .i64 0,.int .i64 0,.int .i64 0,.bool false,.int .i64 0,.bool false,.int .i64 0,.int .i64 0,.int .i64 0,.bool false,.int .i64 0,.bool false,.int .i64 0,.int .i64 0,.int .i64 0,.bool false,.int .i64 0,.bool false,.int .i64 0,.int .i64 0,.int .i64 0,.bool false,.int .i64 0,.bool false,.int .i64 0,.int .i64 0,.int .i64 0,.bool false,.int .i64 0,.bool false,.int .i64 0,.int .i64 0,.int .i64 0,.bool false,.int .i64 0,.bool false,.int .i64 0,.int .i64 0,.int .i64 0,.bool false,.int .i64 0,.bool false,.int .i64 0,.int .i64 0,.int .i64 0,.bool false,.int .i64 0,.bool false,.int .i64 0,.int .i64 0,.int .i64 0,.bool false,.int .i64 0,.pointer none,.int .i64 0,.int .i64 0,.int .i64 0,.int .i64 0,.int .i64 0,.int .i64 0,.int .i64 0,.int .i64 0,.int .i64 0,.int .i64 0,.int .i64 0,.int .i64 0,.int .i64 0,.int .i64 0,.int .i64 0,.int .i64 0,.int .i64 0,.int .i64 0]
theorem zao:z77.length=190:=by kernel_rfl
instance:ZeroT Tryz.prog 77 z77:=⟨fun _=>⟨valL z77,rfl,by kernel_rfl⟩⟩
instance:FieldT Tryz.prog 77 0 0 3:=⟨⟨_,Tryz.underlying77,_,rfl,rfl,rfl⟩,⟨1,by decide,fun _=>by kernel_rfl⟩⟩
instance:FieldT Tryz.prog 77 1 1 39:=⟨⟨_,Tryz.underlying77,_,rfl,rfl,rfl⟩,⟨1,by decide,fun _=>by kernel_rfl⟩⟩
instance:FieldT Tryz.prog 77 2 2 67:=⟨⟨_,Tryz.underlying77,_,rfl,rfl,rfl⟩,⟨72,by decide,fun _=>by kernel_rfl⟩⟩
instance:FieldT Tryz.prog 77 3 74 68:=⟨⟨_,Tryz.underlying77,_,rfl,rfl,rfl⟩,⟨1,by decide,fun _=>by kernel_rfl⟩⟩
instance:FieldT Tryz.prog 77 4 75 72:=⟨⟨_,Tryz.underlying77,_,rfl,rfl,rfl⟩,⟨96,by decide,fun _=>by kernel_rfl⟩⟩
instance:StructT Tryz.prog 77 (fun i=>(#[(0,1),(1,1),(2,72),(74,1),(75,96),(171,1),(172,18)]:Array (Nat×Nat))[i]?) z77:=qm Tryz.underlying77 (fun _=>by kernel_rfl)
instance:ScalarT Tryz.prog 78:=⟨fun _=>by kernel_rfl⟩
instance:ScalarT Tryz.prog 79:=⟨fun _=>by kernel_rfl⟩
instance:ScalarT Tryz.prog 80:=⟨fun _=>by kernel_rfl⟩
instance:SizeT Tryz.prog 80 1:=⟨fun _=>by kernel_rfl⟩
instance:SliceT Tryz.prog 80 264 5:=⟨by kernel_rfl,fun _=>by kernel_rfl⟩
instance:FieldT Tryz.prog 82 0 0 80:=⟨⟨_,Tryz.underlying82,_,rfl,rfl,rfl⟩,⟨1,by decide,fun _=>by kernel_rfl⟩⟩
instance:ScalarT Tryz.prog 83:=⟨fun _=>by kernel_rfl⟩
instance:ArrayT Tryz.prog 84 6 58 1:=⟨by kernel_rfl,fun _=>by kernel_rfl⟩
abbrev z86:List Value:=[.pointer none,.pointer none,.slice none 0 0,.pointer none,.slice none 0 0,.slice none 0 0,.slice none 0 0,.slice none 0 0,.slice none 0 0,.slice none 0 0,.slice none 0 0]
instance:ZeroT Tryz.prog 86 [.pointer none,.pointer none,.slice none 0 0,.pointer none,.slice none 0 0,.slice none 0 0,.slice none 0 0,.slice none 0 0,.slice none 0 0,.slice none 0 0,.slice none 0 0]:=⟨fun _=>⟨valL z86,rfl,by kernel_rfl⟩⟩
instance:FieldT Tryz.prog 86 0 0 78:=⟨⟨_,Tryz.underlying86,_,rfl,rfl,rfl⟩,⟨1,by decide,fun _=>by kernel_rfl⟩⟩
instance:FieldT Tryz.prog 86 1 1 79:=⟨⟨_,Tryz.underlying86,_,rfl,rfl,rfl⟩,⟨1,by decide,fun _=>by kernel_rfl⟩⟩
instance:FieldT Tryz.prog 86 2 2 82:=⟨⟨_,Tryz.underlying86,_,rfl,rfl,rfl⟩,⟨1,by decide,fun _=>by kernel_rfl⟩⟩
instance:FieldT Tryz.prog 86 3 3 83:=⟨⟨_,Tryz.underlying86,_,rfl,rfl,rfl⟩,⟨1,by decide,fun _=>by kernel_rfl⟩⟩
instance:FieldT Tryz.prog 86 4 4 61:=⟨⟨_,Tryz.underlying86,_,rfl,rfl,rfl⟩,⟨1,by decide,fun _=>by kernel_rfl⟩⟩
instance:FieldT Tryz.prog 86 5 5 84:=⟨⟨_,Tryz.underlying86,_,rfl,rfl,rfl⟩,⟨6,by decide,fun _=>by kernel_rfl⟩⟩
instance:StructT Tryz.prog 86 (fun i=>(#[(0,1),(1,1),(2,1),(3,1),(4,1),(5,6)]:Array (Nat×Nat))[i]?) [.pointer none,.pointer none,.slice none 0 0,.pointer none,.slice none 0 0,.slice none 0 0,.slice none 0 0,.slice none 0 0,.slice none 0 0,.slice none 0 0,.slice none 0 0]:=qm Tryz.underlying86 (fun _=>by kernel_rfl)
instance:AggT Tryz.prog 91 4:=⟨fun _=>by kernel_rfl⟩
instance:SizeT Tryz.prog 91 4:=⟨fun _=>by kernel_rfl⟩
abbrev z91:List Value:=[.int .u8 0,.int .i64 0,.int .i64 0,.int .i64 0]
instance:ZeroT Tryz.prog 91 [.int .u8 0,.int .i64 0,.int .i64 0,.int .i64 0]:=⟨fun _=>⟨valL z91,rfl,by kernel_rfl⟩⟩
instance:FieldT Tryz.prog 91 0 0 5:=⟨⟨_,Tryz.underlying91,_,rfl,rfl,rfl⟩,⟨1,by decide,fun _=>by kernel_rfl⟩⟩
instance:FieldT Tryz.prog 91 1 1 3:=⟨⟨_,Tryz.underlying91,_,rfl,rfl,rfl⟩,⟨1,by decide,fun _=>by kernel_rfl⟩⟩
instance:FieldT Tryz.prog 91 2 2 3:=⟨⟨_,Tryz.underlying91,_,rfl,rfl,rfl⟩,⟨1,by decide,fun _=>by kernel_rfl⟩⟩
instance:FieldT Tryz.prog 91 3 3 3:=⟨⟨_,Tryz.underlying91,_,rfl,rfl,rfl⟩,⟨1,by decide,fun _=>by kernel_rfl⟩⟩
instance:StructT Tryz.prog 91 (fun i=>(#[(0,1),(1,1),(2,1),(3,1)]:Array (Nat×Nat))[i]?) [.int .u8 0,.int .i64 0,.int .i64 0,.int .i64 0]:=qm Tryz.underlying91 (fun _=>by kernel_rfl)
instance:AggT Tryz.prog 111 3:=⟨fun _=>by kernel_rfl⟩
instance:SizeT Tryz.prog 111 3:=⟨fun _=>by kernel_rfl⟩
abbrev z111:List Value:=[.bool false,.int .i64 0,.bool false]
instance:ZeroT Tryz.prog 111 [.bool false,.int .i64 0,.bool false]:=⟨fun _=>⟨valL z111,rfl,by kernel_rfl⟩⟩
instance:FieldT Tryz.prog 111 0 0 4:=⟨⟨_,Tryz.underlying111,_,rfl,rfl,rfl⟩,⟨1,by decide,fun _=>by kernel_rfl⟩⟩
instance:FieldT Tryz.prog 111 1 1 3:=⟨⟨_,Tryz.underlying111,_,rfl,rfl,rfl⟩,⟨1,by decide,fun _=>by kernel_rfl⟩⟩
instance:FieldT Tryz.prog 111 2 2 4:=⟨⟨_,Tryz.underlying111,_,rfl,rfl,rfl⟩,⟨1,by decide,fun _=>by kernel_rfl⟩⟩
instance:StructT Tryz.prog 111 (fun i=>(#[(0,1),(1,1),(2,1)]:Array (Nat×Nat))[i]?) [.bool false,.int .i64 0,.bool false]:=qm Tryz.underlying111 (fun _=>by kernel_rfl)
abbrev z127:List Value:=[.slice none 0 0]
instance:ZeroT Tryz.prog 127 [.slice none 0 0]:=⟨fun _=>⟨valL z127,rfl,by kernel_rfl⟩⟩
instance:StructT Tryz.prog 127 (fun i=>(#[(0,1)]:Array (Nat×Nat))[i]?) [.slice none 0 0]:=qm Tryz.underlying127 (fun _=>by kernel_rfl)
instance:ScalarT Tryz.prog 175:=⟨fun _=>by kernel_rfl⟩
instance:SizeT Tryz.prog 175 1:=⟨fun _=>by kernel_rfl⟩
instance:SliceT Tryz.prog 175 3 1:=⟨by kernel_rfl,fun _=>by kernel_rfl⟩
instance:ScalarT Tryz.prog 176:=⟨fun _=>by kernel_rfl⟩
instance:SizeT Tryz.prog 176 1:=⟨fun _=>by kernel_rfl⟩
instance:SliceT Tryz.prog 176 4 1:=⟨by kernel_rfl,fun _=>by kernel_rfl⟩
abbrev z178:List Value:=[.slice none 0 0,.slice none 0 0,.int .i64 0]
instance:ZeroT Tryz.prog 178 [.slice none 0 0,.slice none 0 0,.int .i64 0]:=⟨fun _=>⟨valL z178,rfl,by kernel_rfl⟩⟩
instance:FieldT Tryz.prog 178 0 0 175:=⟨⟨_,Tryz.underlying178,_,rfl,rfl,rfl⟩,⟨1,by decide,fun _=>by kernel_rfl⟩⟩
instance:FieldT Tryz.prog 178 1 1 176:=⟨⟨_,Tryz.underlying178,_,rfl,rfl,rfl⟩,⟨1,by decide,fun _=>by kernel_rfl⟩⟩
instance:FieldT Tryz.prog 178 2 2 3:=⟨⟨_,Tryz.underlying178,_,rfl,rfl,rfl⟩,⟨1,by decide,fun _=>by kernel_rfl⟩⟩
instance:StructT Tryz.prog 178 (fun i=>(#[(0,1),(1,1),(2,1)]:Array (Nat×Nat))[i]?) [.slice none 0 0,.slice none 0 0,.int .i64 0]:=qm Tryz.underlying178 (fun _=>by kernel_rfl)
abbrev z180:List Value:=[.slice none 0 0]
instance:ZeroT Tryz.prog 180 [.slice none 0 0]:=⟨fun _=>⟨valL z180,rfl,by kernel_rfl⟩⟩
instance:FieldT Tryz.prog 180 0 0 22:=⟨⟨_,Tryz.underlying180,_,rfl,rfl,rfl⟩,⟨1,by decide,fun _=>by kernel_rfl⟩⟩
instance:StructT Tryz.prog 180 (fun i=>(#[(0,1)]:Array (Nat×Nat))[i]?) [.slice none 0 0]:=qm Tryz.underlying180 (fun _=>by kernel_rfl)
instance:SliceT Tryz.prog 186 111 3:=⟨by kernel_rfl,fun _=>by kernel_rfl⟩
instance:ScalarT Tryz.prog 197:=⟨fun _=>by kernel_rfl⟩
instance:SliceT Tryz.prog 197 91 4:=⟨by kernel_rfl,fun _=>by kernel_rfl⟩
abbrev z199:List Value:=[.slice none 0 0]
instance:ZeroT Tryz.prog 199 [.slice none 0 0]:=⟨fun _=>⟨valL z199,rfl,by kernel_rfl⟩⟩
instance:FieldT Tryz.prog 199 0 0 197:=⟨⟨_,Tryz.underlying199,_,rfl,rfl,rfl⟩,⟨1,by decide,fun _=>by kernel_rfl⟩⟩
instance:StructT Tryz.prog 199 (fun i=>(#[(0,1)]:Array (Nat×Nat))[i]?) [.slice none 0 0]:=qm Tryz.underlying199 (fun _=>by kernel_rfl)
instance:AggT Tryz.prog 201 4:=⟨fun _=>by kernel_rfl⟩
instance:SizeT Tryz.prog 201 4:=⟨fun _=>by kernel_rfl⟩
abbrev z201:List Value:=[.pointer none,.pointer none,.slice none 0 0,.pointer none]
instance:ZeroT Tryz.prog 201 [.pointer none,.pointer none,.slice none 0 0,.pointer none]:=⟨fun _=>⟨valL z201,rfl,by kernel_rfl⟩⟩
instance:FieldT Tryz.prog 201 0 0 78:=⟨⟨_,Tryz.underlying201,_,rfl,rfl,rfl⟩,⟨1,by decide,fun _=>by kernel_rfl⟩⟩
instance:FieldT Tryz.prog 201 1 1 79:=⟨⟨_,Tryz.underlying201,_,rfl,rfl,rfl⟩,⟨1,by decide,fun _=>by kernel_rfl⟩⟩
instance:FieldT Tryz.prog 201 2 2 61:=⟨⟨_,Tryz.underlying201,_,rfl,rfl,rfl⟩,⟨1,by decide,fun _=>by kernel_rfl⟩⟩
instance:FieldT Tryz.prog 201 3 3 83:=⟨⟨_,Tryz.underlying201,_,rfl,rfl,rfl⟩,⟨1,by decide,fun _=>by kernel_rfl⟩⟩
instance:StructT Tryz.prog 201 (fun i=>(#[(0,1),(1,1),(2,1),(3,1)]:Array (Nat×Nat))[i]?) [.pointer none,.pointer none,.slice none 0 0,.pointer none]:=qm Tryz.underlying201 (fun _=>by kernel_rfl)
instance:ScalarT Tryz.prog 202:=⟨fun _=>by kernel_rfl⟩
instance:SliceT Tryz.prog 203 202 1:=⟨by kernel_rfl,fun _=>by kernel_rfl⟩
instance:AggT Tryz.prog 262 2:=⟨fun _=>by kernel_rfl⟩
instance:SizeT Tryz.prog 262 2:=⟨fun _=>by kernel_rfl⟩
abbrev z262:List Value:=[.int .i64 0,.int .i64 0]
instance:ZeroT Tryz.prog 262 [.int .i64 0,.int .i64 0]:=⟨fun _=>⟨valL z262,rfl,by kernel_rfl⟩⟩
instance:StructT Tryz.prog 262 (fun i=>(#[(0,1),(1,1)]:Array (Nat×Nat))[i]?) [.int .i64 0,.int .i64 0]:=qm Tryz.underlying262 (fun _=>by kernel_rfl)
instance:AggT Tryz.prog 264 5:=⟨fun _=>by kernel_rfl⟩
instance:SizeT Tryz.prog 264 5:=⟨fun _=>by kernel_rfl⟩
abbrev z264:List Value:=[.int .i64 0,.int .i64 0,.bool false,.int .i64 0,.bool false]
instance:ZeroT Tryz.prog 264 [.int .i64 0,.int .i64 0,.bool false,.int .i64 0,.bool false]:=⟨fun _=>⟨valL z264,rfl,by kernel_rfl⟩⟩
instance:FieldT Tryz.prog 264 0 0 262:=⟨⟨_,Tryz.underlying264,_,rfl,rfl,rfl⟩,⟨2,by decide,fun _=>by kernel_rfl⟩⟩
abbrev z275:List Value:=[.int .i64 0,.int .i64 0]
instance:ZeroT Tryz.prog 275 [.int .i64 0,.int .i64 0]:=⟨fun _=>⟨valL z275,rfl,by kernel_rfl⟩⟩
instance:StructT Tryz.prog 275 (fun i=>some (i*1,1)) [.int .i64 0,.int .i64 0]:=zdi (n:=2) (e:=3) (by kernel_rfl) (fun _=>by kernel_rfl)
instance:IntT Tryz.prog 3 .i64:=⟨by kernel_rfl⟩
instance:NotIface Tryz.prog 3:=⟨⟨.int .i64,by kernel_rfl,rfl⟩⟩
instance:IntT Tryz.prog 5 .u8:=⟨by kernel_rfl⟩
instance:IntT Tryz.prog 39 .u64:=⟨by kernel_rfl⟩
instance:IntT Tryz.prog 41 .u32:=⟨by kernel_rfl⟩
instance:PtrT Tryz.prog 51:=⟨⟨86,by kernel_rfl⟩⟩
instance:IntT Tryz.prog 54 .i16:=⟨by kernel_rfl⟩
instance:PtrT Tryz.prog 68:=⟨⟨199,by kernel_rfl⟩⟩
instance:PtrT Tryz.prog 78:=⟨⟨180,by kernel_rfl⟩⟩
instance:PtrT Tryz.prog 79:=⟨⟨178,by kernel_rfl⟩⟩
instance:PtrT Tryz.prog 83:=⟨⟨77,by kernel_rfl⟩⟩
instance:IntT Tryz.prog 166 .u16:=⟨by kernel_rfl⟩
instance:NotIface Tryz.prog 205:=⟨⟨.pointer 175,by kernel_rfl,rfl⟩⟩
instance : MethV Tryz.prog 205 "Len" 273 := fu (elem := 175) (by kernel_rfl) Tryz.typeInfo205 (by kernel_rfl) (by kernel_rfl)
instance : MethV Tryz.prog 205 "Less" 274 := fu (elem := 175) (by kernel_rfl) Tryz.typeInfo205 (by kernel_rfl) (by kernel_rfl)
instance : MethP Tryz.prog 205 "Pop" 276 := ⟨fun _ _ => by kernel_rfl⟩
instance : MethP Tryz.prog 205 "Push" 277 := ⟨fun _ _ => by kernel_rfl⟩
instance : MethV Tryz.prog 205 "Swap" 275 := fu (elem := 175) (by kernel_rfl) Tryz.typeInfo205 (by kernel_rfl) (by kernel_rfl)
instance:PtrT Tryz.prog 259:=⟨⟨82,by kernel_rfl⟩⟩
instance:ElemT Tryz.prog 22 5 [.int .u8 0] 1 1:=⟨by kernel_rfl,⟨Tryz.t5,.int .u8 0,by kernel_rfl,by kernel_rfl,rfl,by kernel_rfl,by kernel_rfl⟩,rfl,by decide⟩
instance:ElemT Tryz.prog 60 43 z43 26 192:=⟨by kernel_rfl,⟨Tryz.t43,valL z43,by kernel_rfl,by kernel_rfl,rfl,by kernel_rfl,by kernel_rfl⟩,rfl,by decide⟩
instance:ElemT Tryz.prog 61 3 [.int .i64 0] 1 8:=⟨by kernel_rfl,⟨Tryz.t3,.int .i64 0,by kernel_rfl,by kernel_rfl,rfl,by kernel_rfl,by kernel_rfl⟩,rfl,by decide⟩
instance:ElemT Tryz.prog 80 264 [.int .i64 0,.int .i64 0,.bool false,.int .i64 0,.bool false] 5 40:=⟨by kernel_rfl,⟨Tryz.t264,valL z264,by kernel_rfl,by kernel_rfl,rfl,by kernel_rfl,by kernel_rfl⟩,rfl,by decide⟩
instance:ElemT Tryz.prog 175 3 [.int .i64 0] 1 8:=⟨by kernel_rfl,⟨Tryz.t3,.int .i64 0,by kernel_rfl,by kernel_rfl,rfl,by kernel_rfl,by kernel_rfl⟩,rfl,by decide⟩
instance:ElemT Tryz.prog 176 4 [.bool false] 1 1:=⟨by kernel_rfl,⟨Tryz.t4,.bool false,by kernel_rfl,by kernel_rfl,rfl,by kernel_rfl,by kernel_rfl⟩,rfl,by decide⟩
instance:ElemT Tryz.prog 186 111 [.bool false,.int .i64 0,.bool false] 3 24:=⟨by kernel_rfl,⟨Tryz.t111,valL z111,by kernel_rfl,by kernel_rfl,rfl,by kernel_rfl,by kernel_rfl⟩,rfl,by decide⟩
instance:ElemT Tryz.prog 197 91 [.int .u8 0,.int .i64 0,.int .i64 0,.int .i64 0] 4 32:=⟨by kernel_rfl,⟨Tryz.t91,valL z91,by kernel_rfl,by kernel_rfl,rfl,by kernel_rfl,by kernel_rfl⟩,rfl,by decide⟩
instance:ElemT Tryz.prog 203 202 [.nilFunc] 1 8:=⟨by kernel_rfl,⟨Tryz.t202,.nilFunc,by kernel_rfl,by kernel_rfl,rfl,by kernel_rfl,by kernel_rfl⟩,rfl,by decide⟩
instance:CallT Tryz.prog 28:=⟨Tryz.call28⟩
instance:CallT Tryz.prog 29:=⟨Tryz.call29⟩
instance:CallT Tryz.prog 30:=⟨Tryz.call30⟩
instance:CallT Tryz.prog 31:=⟨Tryz.call31⟩
instance:CallT Tryz.prog 33:=⟨Tryz.call33⟩
instance:CallT Tryz.prog 35:=⟨Tryz.call35⟩
instance:CallT Tryz.prog 36:=⟨Tryz.call36⟩
instance:CallT Tryz.prog 38:=⟨Tryz.call38⟩
instance:CallT Tryz.prog 41:=⟨Tryz.call41⟩
instance:CallT Tryz.prog 42:=⟨Tryz.call42⟩
instance:CallT Tryz.prog 46:=⟨Tryz.call46⟩
instance:CallT Tryz.prog 47:=⟨Tryz.call47⟩
instance:CallT Tryz.prog 48:=⟨Tryz.call48⟩
instance:CallT Tryz.prog 49:=⟨Tryz.call49⟩
instance:CallT Tryz.prog 50:=⟨Tryz.call50⟩
instance:CallT Tryz.prog 51:=⟨Tryz.call51⟩
instance:CallT Tryz.prog 52:=⟨Tryz.call52⟩
instance:CallT Tryz.prog 53:=⟨Tryz.call53⟩
instance:CallT Tryz.prog 56:=⟨Tryz.call56⟩
instance:CallT Tryz.prog 70:=⟨Tryz.call70⟩
instance:CallT Tryz.prog 71:=⟨Tryz.call71⟩
instance:CallT Tryz.prog 72:=⟨Tryz.call72⟩
instance:CallT Tryz.prog 73:=⟨Tryz.call73⟩
instance:CallT Tryz.prog 74:=⟨Tryz.call74⟩
instance:CallT Tryz.prog 75:=⟨Tryz.call75⟩
instance:CallT Tryz.prog 76:=⟨Tryz.call76⟩
instance:CallT Tryz.prog 81:=⟨Tryz.call81⟩
instance:CallT Tryz.prog 82:=⟨Tryz.call82⟩
instance:CallT Tryz.prog 86:=⟨Tryz.call86⟩
instance:CallT Tryz.prog 88:=⟨Tryz.call88⟩
instance:CallT Tryz.prog 93:=⟨Tryz.call93⟩
instance:CallT Tryz.prog 98:=⟨Tryz.call98⟩
instance:CallT Tryz.prog 99:=⟨Tryz.call99⟩
instance:CallT Tryz.prog 100:=⟨Tryz.call100⟩
instance:CallT Tryz.prog 101:=⟨Tryz.call101⟩
instance:CallT Tryz.prog 102:=⟨Tryz.call102⟩
instance:CallT Tryz.prog 103:=⟨Tryz.call103⟩
instance:CallT Tryz.prog 104:=⟨Tryz.call104⟩
instance:CallT Tryz.prog 105:=⟨Tryz.call105⟩
instance:CallT Tryz.prog 106:=⟨Tryz.call106⟩
instance:CallT Tryz.prog 107:=⟨Tryz.call107⟩
instance:CallT Tryz.prog 108:=⟨Tryz.call108⟩
instance:CallT Tryz.prog 109:=⟨Tryz.call109⟩
instance:CallT Tryz.prog 110:=⟨Tryz.call110⟩
instance:CallT Tryz.prog 111:=⟨Tryz.call111⟩
instance:CallT Tryz.prog 115:=⟨Tryz.call115⟩
instance:CallT Tryz.prog 116:=⟨Tryz.call116⟩
instance:CallT Tryz.prog 138:=⟨Tryz.call138⟩
instance:CallT Tryz.prog 139:=⟨Tryz.call139⟩
instance:CallT Tryz.prog 140:=⟨Tryz.call140⟩
instance:CallT Tryz.prog 141:=⟨Tryz.call141⟩
instance:CallT Tryz.prog 142:=⟨Tryz.call142⟩
instance:CallT Tryz.prog 143:=⟨Tryz.call143⟩
instance:CallT Tryz.prog 150:=⟨Tryz.call150⟩
instance:CallT Tryz.prog 151:=⟨Tryz.call151⟩
instance:CallT Tryz.prog 155:=⟨Tryz.call155⟩
instance:CallT Tryz.prog 157:=⟨Tryz.call157⟩
instance:CallT Tryz.prog 158:=⟨Tryz.call158⟩
instance:CallT Tryz.prog 159:=⟨Tryz.call159⟩
instance:CallT Tryz.prog 160:=⟨Tryz.call160⟩
instance:CallT Tryz.prog 161:=⟨Tryz.call161⟩
instance:CallT Tryz.prog 162:=⟨Tryz.call162⟩
instance:CallT Tryz.prog 163:=⟨Tryz.call163⟩
instance:CallT Tryz.prog 164:=⟨Tryz.call164⟩
instance:CallT Tryz.prog 165:=⟨Tryz.call165⟩
instance:CallT Tryz.prog 166:=⟨Tryz.call166⟩
instance:CallT Tryz.prog 167:=⟨Tryz.call167⟩
instance:CallT Tryz.prog 202:=⟨Tryz.call202⟩
instance:CallT Tryz.prog 203:=⟨Tryz.call203⟩
instance:CallT Tryz.prog 215:=⟨Tryz.call215⟩
instance:CallT Tryz.prog 229:=⟨Tryz.call229⟩
instance:CallT Tryz.prog 273:=⟨Tryz.call273⟩
instance:CallT Tryz.prog 274:=⟨Tryz.call274⟩
instance:CallT Tryz.prog 275:=⟨Tryz.call275⟩
instance:CallT Tryz.prog 276:=⟨Tryz.call276⟩
instance:CallT Tryz.prog 277:=⟨Tryz.call277⟩
instance:MapZ Tryz.prog 274 2 (.int .i64 0):=zeu (ke:=275) (el:=3) (ie:=3) (k:=.i64) (by kernel_rfl) (by kernel_rfl) (by kernel_rfl) (fun _=>by kernel_rfl) (fun _=>by kernel_rfl) (fun _=>by kernel_rfl)
end Go.Proofs.YtabdpmnhjlmnlaaGreatDoor
end
section
namespace Go.Proofs.YtabdpmnhjlmnlaaGreatDoor
open Go Go.Pt
def wl (S:Mem) (x0:Int) (x1:Int) (Q:Bool→Mem→Prop):Prop:=
 Tr Tryz.prog 13 S [.int .u8 x0,.int .u8 x1] fun v S'=>∃ r0:Bool,v=.bool r0∧Q r0 S'
def jz (S:Mem) (x0:Int) (x1:Int) (x2:Int) (Q:Pt→Int→Mem→Prop):Prop:=
 Tr Tryz.prog 28 S [.int .i64 x0,.int .i64 x1,.int .i64 x2] fun v S'=>∃ r0:Pt,∃ r1:Int,v=.tuple #[eP r0,.int .i64 r1]∧Q r0 r1 S'
def xC (S:Mem) (x0:Int) (x1:Int) (x2:Int) (x3:Int) (x4:Int) (Q:Int→Mem→Prop):Prop:=
 Tr Tryz.prog 29 S [.int .u8 x0,.int .u8 x1,.int .u8 x2,.int .u8 x3,.int .i16 x4] fun v S'=>∃ r0:Int,v=.int .u32 r0∧Q r0 S'
def yt (S:Mem) (x0:Pt) (x1:Int) (x2:Int) (x3:Int) (x4:Sl) (Q:Int→Int→Mem→Prop):Prop:=
 Tr Tryz.prog 30 S [eP x0,.int .i64 x1,.int .i64 x2,.int .i64 x3,eL x4] fun v S'=>∃ r0:Int,∃ r1:Int,v=.tuple #[.int .i64 r0,.int .i64 r1]∧Q r0 r1 S'
def kH (S:Mem) (x0:Pt) (x1:Int) (x2:Int) (Q:Int→Mem→Prop):Prop:=
 Tr Tryz.prog 31 S [eP x0,.int .i64 x1,.int .i64 x2] fun v S'=>∃ r0:Int,v=.int .i64 r0∧Q r0 S'
def fI (S:Mem) (x0:Pt) (x1:Int) (x2:Int) (Q:Int→Mem→Prop):Prop:=
 Tr Tryz.prog 33 S [eP x0,.int .i64 x1,.int .u8 x2] fun v S'=>∃ r0:Int,v=.int .i64 r0∧Q r0 S'
def qj (S:Mem) (x0:Pt) (Q:Int→Mem→Prop):Prop:=
 Tr Tryz.prog 35 S [eP x0] fun v S'=>∃ r0:Int,v=.int .i64 r0∧Q r0 S'
def qQ (S:Mem) (x0:Pt) (x1:Int) (Q:List Value→Int→Mem→Prop):Prop:=
 Tr Tryz.prog 36 S [eP x0,.int .i64 x1] fun v S'=>∃ r0:List Value,∃ r1:Int,v=.tuple #[valL r0,.int .i64 r1]∧r0.length=4∧Q r0 r1 S'
def kW (S:Mem) (x0:Pt) (x1:Int) (Q:Int→Mem→Prop):Prop:=
 Tr Tryz.prog 38 S [eP x0,.int .i64 x1] fun v S'=>∃ r0:Int,v=.int .i64 r0∧Q r0 S'
def gz (S:Mem) (x0:Pt) (Q:Mem→Prop):Prop:=
 Tr Tryz.prog 41 S [eP x0] fun v S'=>v=.tuple #[]∧Q S'
def gC (S:Mem) (x0:Pt) (x1:Int) (x2:Int) (x3:Bool) (Q:Int→Mem→Prop):Prop:=
 Tr Tryz.prog 42 S [eP x0,.int .i64 x1,.int .i64 x2,.bool x3] fun v S'=>∃ r0:Int,v=.int .i64 r0∧Q r0 S'
def ya (S:Mem) (Q:Bool→Mem→Prop):Prop:=
 Tr Tryz.prog 46 S [] fun v S'=>∃ r0:Bool,v=.bool r0∧Q r0 S'
def qz (S:Mem) (x0:Int) (x1:Int) (x2:Int) (x3:Sl) (x4:Sl) (Q:Pt→Mem→Prop):Prop:=
 Tr Tryz.prog 47 S [.int .i64 x0,.int .i64 x1,.int .i64 x2,eL x3,eL x4] fun v S'=>∃ r0:Pt,v=eP r0∧Q r0 S'
def qx (S:Mem) (x0:Pt) (Q:Int→Mem→Prop):Prop:=
 Tr Tryz.prog 48 S [eP x0] fun v S'=>∃ r0:Int,v=.int .i64 r0∧Q r0 S'
def qc (S:Mem) (x0:Pt) (x1:Pt) (x2:Sl) (x3:Pt) (Q:Int→Mem→Prop):Prop:=
 Tr Tryz.prog 49 S [eP x0,eP x1,eL x2,eP x3] fun v S'=>∃ r0:Int,v=.int .i64 r0∧Q r0 S'
def wt (S:Mem) (x0:Int) (Q:Pt→Mem→Prop):Prop:=
 Tr Tryz.prog 50 S [.int .i64 x0] fun v S'=>∃ r0:Pt,v=eP r0∧Q r0 S'
def vi (S:Mem) (x0:Int) (Q:Pt→Mem→Prop):Prop:=
 Tr Tryz.prog 51 S [.int .i64 x0] fun v S'=>∃ r0:Pt,v=eP r0∧Q r0 S'
def qM (S:Mem) (x0:List Value) (x1:Pt) (x2:Int) (Q:List Value→Int→Mem→Prop):Prop:=
 Tr Tryz.prog 52 S [valL x0,eP x1,.int .i64 x2] fun v S'=>∃ r0:List Value,∃ r1:Int,v=.tuple #[valL r0,.int .i64 r1]∧r0.length=3∧Q r0 r1 S'
def xG (S:Mem) (x0:List Value) (x1:Pt) (x2:Int) (x3:Int) (x4:Bool) (Q:Int→Mem→Prop):Prop:=
 Tr Tryz.prog 53 S [valL x0,eP x1,.int .i64 x2,.int .i64 x3,.bool x4] fun v S'=>∃ r0:Int,v=.int .i64 r0∧Q r0 S'
def vk (S:Mem) (x0:Int) (x1:Int) (Q:List Value→Int→Mem→Prop):Prop:=
 Tr Tryz.prog 56 S [.int .i64 x0,.int .i64 x1] fun v S'=>∃ r0:List Value,∃ r1:Int,v=.tuple #[valL r0,.int .i64 r1]∧r0.length=12∧Q r0 r1 S'
def kE (S:Mem) (x0:Int) (x1:Int) (Q:Pt→Mem→Prop):Prop:=
 Tr Tryz.prog 70 S [.int .i64 x0,.int .i64 x1] fun v S'=>∃ r0:Pt,v=eP r0∧Q r0 S'
def ym (S:Mem) (x0:Pt) (x1:Int) (Q:Sl→Int→Mem→Prop):Prop:=
 Tr Tryz.prog 71 S [eP x0,.int .i64 x1] fun v S'=>∃ r0:Sl,∃ r1:Int,v=.tuple #[eL r0,.int .i64 r1]∧Q r0 r1 S'
def qB (S:Mem) (x0:Pt) (x1:Int) (x2:Int) (Q:Int→Mem→Prop):Prop:=
 Tr Tryz.prog 72 S [eP x0,.int .i64 x1,.int .i64 x2] fun v S'=>∃ r0:Int,v=.int .i64 r0∧Q r0 S'
def qR (S:Mem) (x0:Int) (Q:Int→Mem→Prop):Prop:=
 Tr Tryz.prog 73 S [.int .u8 x0] fun v S'=>∃ r0:Int,v=.int .i64 r0∧Q r0 S'
def vh (S:Mem) (x0:Pt) (x1:Int) (x2:Sl) (Q:List Value→Int→Mem→Prop):Prop:=
 Tr Tryz.prog 74 S [eP x0,.int .i64 x1,eL x2] fun v S'=>∃ r0:List Value,∃ r1:Int,v=.tuple #[valL r0,.int .i64 r1]∧r0.length=2∧Q r0 r1 S'
def crab_Crab_own (S:Mem) (x0:Pt) (x1:Int) (x2:Int) (x3:Int) (Q:Mem→Prop):Prop:=
 Tr Tryz.prog 75 S [eP x0,.int .i64 x1,.int .i64 x2,.int .i64 x3] fun v S'=>v=.tuple #[]∧Q S'
def zR (S:Mem) (x0:Pt) (x1:Int) (x2:Int) (x3:Sl) (Q:Int→Mem→Prop):Prop:=
 Tr Tryz.prog 76 S [eP x0,.int .i64 x1,.int .i64 x2,eL x3] fun v S'=>∃ r0:Int,v=.int .i64 r0∧Q r0 S'
def qe (S:Mem) (x0:Pt) (x1:Int) (Q:Bool→Mem→Prop):Prop:=
 Tr Tryz.prog 81 S [eP x0,.int .i64 x1] fun v S'=>∃ r0:Bool,v=.bool r0∧Q r0 S'
def yn (S:Mem) (x0:Pt) (x1:Int) (Q:Pt→Int→Mem→Prop):Prop:=
 Tr Tryz.prog 82 S [eP x0,.int .i64 x1] fun v S'=>∃ r0:Pt,∃ r1:Int,v=.tuple #[eP r0,.int .i64 r1]∧Q r0 r1 S'
def xH (S:Mem) (x0:List Value) (x1:Pt) (Q:Sl→Sl→Mem→Prop):Prop:=
 Tr Tryz.prog 86 S [valL x0,eP x1] fun v S'=>∃ r0:Sl,∃ r1:Sl,v=.tuple #[eL r0,eL r1]∧Q r0 r1 S'
def wh (S:Mem) (x0:Pt) (x1:Int) (Q:Int→Mem→Prop):Prop:=
 Tr Tryz.prog 88 S [eP x0,.int .i64 x1] fun v S'=>∃ r0:Int,v=.int .i64 r0∧Q r0 S'
def qP (S:Mem) (x0:Pt) (x1:Int) (x2:Int) (Q:Int→Mem→Prop):Prop:=
 Tr Tryz.prog 93 S [eP x0,.int .u8 x1,.int .i64 x2] fun v S'=>∃ r0:Int,v=.int .i64 r0∧Q r0 S'
def qZ (S:Mem) (x0:Sl) (Q:Sl→Mem→Prop):Prop:=
 Tr Tryz.prog 98 S [eL x0] fun v S'=>∃ r0:Sl,v=eL r0∧Q r0 S'
def yK (S:Mem) (x0:List Value) (Q:Int→Mem→Prop):Prop:=
 Tr Tryz.prog 99 S [valL x0] fun v S'=>∃ r0:Int,v=.int .i64 r0∧Q r0 S'
def xK (S:Mem) (x0:List Value) (Q:Int→Mem→Prop):Prop:=
 Tr Tryz.prog 100 S [valL x0] fun v S'=>∃ r0:Int,v=.int .i64 r0∧Q r0 S'
def yH (S:Mem) (x0:List Value) (Q:Int→Mem→Prop):Prop:=
 Tr Tryz.prog 101 S [valL x0] fun v S'=>∃ r0:Int,v=.int .i64 r0∧Q r0 S'
def yX (S:Mem) (x0:List Value) (Q:Int→Mem→Prop):Prop:=
 Tr Tryz.prog 102 S [valL x0] fun v S'=>∃ r0:Int,v=.int .i64 r0∧Q r0 S'
def yI (S:Mem) (x0:List Value) (Q:Int→Mem→Prop):Prop:=
 Tr Tryz.prog 103 S [valL x0] fun v S'=>∃ r0:Int,v=.int .i64 r0∧Q r0 S'
def yJ (S:Mem) (x0:List Value) (Q:Int→Mem→Prop):Prop:=
 Tr Tryz.prog 104 S [valL x0] fun v S'=>∃ r0:Int,v=.int .i64 r0∧Q r0 S'
def xJ (S:Mem) (x0:List Value) (Q:Int→Mem→Prop):Prop:=
 Tr Tryz.prog 105 S [valL x0] fun v S'=>∃ r0:Int,v=.int .i64 r0∧Q r0 S'
def jY (S:Mem) (x0:Value) (Q:Mem→Prop):Prop:=
 Tr Tryz.prog 106 S [x0] fun v S'=>v=.tuple #[]∧Q S'
def yq (S:Mem) (x0:List Value) (x1:Pt) (x2:Int) (Q:Int→Int→Int→Mem→Prop):Prop:=
 Tr Tryz.prog 107 S [valL x0,eP x1,.int .i64 x2] fun v S'=>∃ r0:Int,∃ r1:Int,∃ r2:Int,v=.tuple #[.int .i64 r0,.int .i64 r1,.int .i64 r2]∧Q r0 r1 r2 S'
def qO (S:Mem) (x0:Pt) (x1:Int) (x2:Int) (Q:Int→Int→Mem→Prop):Prop:=
 Tr Tryz.prog 108 S [eP x0,.int .i64 x1,.int .i64 x2] fun v S'=>∃ r0:Int,∃ r1:Int,v=.tuple #[.int .u64 r0,.int .i64 r1]∧Q r0 r1 S'
def xX (S:Mem) (x0:Int) (x1:Int) (Q:List Value→Bool→Mem→Prop):Prop:=
 Tr Tryz.prog 109 S [.int .i64 x0,.int .u64 x1] fun v S'=>∃ r0:List Value,∃ r1:Bool,v=.tuple #[valL r0,.bool r1]∧r0.length=3∧Q r0 r1 S'
def qN (S:Mem) (x0:Pt) (x1:Int) (x2:Int) (x3:Int) (Q:Int→Mem→Prop):Prop:=
 Tr Tryz.prog 110 S [eP x0,.int .i64 x1,.int .i64 x2,.int .u64 x3] fun v S'=>∃ r0:Int,v=.int .i64 r0∧Q r0 S'
def wq (S:Mem) (x0:Int) (x1:List Value) (Q:Int→Mem→Prop):Prop:=
 Tr Tryz.prog 111 S [.int .i64 x0,valL x1] fun v S'=>∃ r0:Int,v=.int .u64 r0∧Q r0 S'
def vP (S:Mem) (Q:List Value→Mem→Prop):Prop:=
 Tr Tryz.prog 115 S [] fun v S'=>∃ r0:List Value,v=valL r0∧r0.length=4∧Q r0 S'
def zbc (S:Mem) (Q:List Value→Mem→Prop):Prop:=
 Tr Tryz.prog 116 S [] fun v S'=>∃ r0:List Value,v=valL r0∧r0.length=26∧Q r0 S'
def jR (S:Mem) (x0:Int) (Q:Pt→Mem→Prop):Prop:=
 Tr Tryz.prog 138 S [.int .i64 x0] fun v S'=>∃ r0:Pt,v=eP r0∧Q r0 S'
def wg (S:Mem) (x0:Pt) (Q:Int→Int→Mem→Prop):Prop:=
 Tr Tryz.prog 139 S [eP x0] fun v S'=>∃ r0:Int,∃ r1:Int,v=.tuple #[.int .i64 r0,.int .i64 r1]∧Q r0 r1 S'
def qA (S:Mem) (x0:Pt) (x1:Int) (Q:Int→Mem→Prop):Prop:=
 Tr Tryz.prog 140 S [eP x0,.int .i64 x1] fun v S'=>∃ r0:Int,v=.int .i64 r0∧Q r0 S'
def yY (S:Mem) (x0:Pt) (x1:Int) (x2:Int) (x3:Int) (Q:Int→Mem→Prop):Prop:=
 Tr Tryz.prog 141 S [eP x0,.int .i64 x1,.int .i64 x2,.int .i64 x3] fun v S'=>∃ r0:Int,v=.int .i64 r0∧Q r0 S'
def wL (S:Mem) (x0:Pt) (x1:Int) (x2:Int) (x3:Int) (x4:Bool) (Q:Mem→Prop):Prop:=
 Tr Tryz.prog 142 S [eP x0,.int .i64 x1,.int .i64 x2,.int .i64 x3,.bool x4] fun v S'=>v=.tuple #[]∧Q S'
def xj (S:Mem) (x0:Pt) (x1:Int) (x2:Int) (x3:Int) (Q:Int→Int→Mem→Prop):Prop:=
 Tr Tryz.prog 143 S [eP x0,.int .i64 x1,.int .i64 x2,.int .i64 x3] fun v S'=>∃ r0:Int,∃ r1:Int,v=.tuple #[.int .i64 r0,.int .i64 r1]∧Q r0 r1 S'
def jX (S:Mem) (x0:Value) (x1:Value) (Q:Mem→Prop):Prop:=
 Tr Tryz.prog 150 S [x0,x1] fun v S'=>v=.tuple #[]∧Q S'
def xo (S:Mem) (x0:Pt) (x1:Value) (Q:Mem→Prop):Prop:=
 Tr Tryz.prog 151 S [eP x0,x1] fun v S'=>v=.tuple #[]∧Q S'
def fE (S:Mem) (x0:Value) (Q:Value→Mem→Prop):Prop:=
 Tr Tryz.prog 155 S [x0] fun v S'=>∃ r0:Value,v=r0∧Q r0 S'
def qd (S:Mem) (x0:Sl) (x1:Int) (x2:Int) (x3:Int) (x4:Int) (x5:Int) (Q:Sl→Mem→Prop):Prop:=
 Tr Tryz.prog 157 S [eL x0,.int .u8 x1,.int .u8 x2,.int .u8 x3,.int .u8 x4,.int .i16 x5] fun v S'=>∃ r0:Sl,v=eL r0∧Q r0 S'
def we (S:Mem) (x0:Pt) (x1:Int) (Q:Bool→Mem→Prop):Prop:=
 Tr Tryz.prog 158 S [eP x0,.int .i64 x1] fun v S'=>∃ r0:Bool,v=.bool r0∧Q r0 S'
def wE (S:Mem) (x0:List Value) (x1:Int) (x2:Int) (Q:Int→Mem→Prop):Prop:=
 Tr Tryz.prog 159 S [valL x0,.int .i64 x1,.int .i64 x2] fun v S'=>∃ r0:Int,v=.int .i64 r0∧Q r0 S'
def jt (S:Mem) (x0:List Value) (x1:Int) (x2:Int) (x3:List Value) (x4:List Value) (Q:Bool→Mem→Prop):Prop:=
 Tr Tryz.prog 160 S [valL x0,.int .i64 x1,.int .i64 x2,valL x3,valL x4] fun v S'=>∃ r0:Bool,v=.bool r0∧Q r0 S'
def yL (S:Mem) (x0:Pt) (x1:Int) (x2:Int) (Q:Bool→Mem→Prop):Prop:=
 Tr Tryz.prog 161 S [eP x0,.int .i64 x1,.int .i64 x2] fun v S'=>∃ r0:Bool,v=.bool r0∧Q r0 S'
def kD (S:Mem) (x0:Value) (x1:Int) (x2:Int) (Q:Bool→Mem→Prop):Prop:=
 Tr Tryz.prog 162 S [x0,.int .i64 x1,.int .i64 x2] fun v S'=>∃ r0:Bool,v=.bool r0∧Q r0 S'
def yr (S:Mem) (x0:Pt) (x1:Int) (x2:Int) (x3:Int) (Q:Sl→Int→Mem→Prop):Prop:=
 Tr Tryz.prog 163 S [eP x0,.int .i64 x1,.int .i64 x2,.int .i64 x3] fun v S'=>∃ r0:Sl,∃ r1:Int,v=.tuple #[eL r0,.int .i64 r1]∧Q r0 r1 S'
def zaq (S:Mem) (x0:Sl) (Q:Int→Mem→Prop):Prop:=
 Tr Tryz.prog 164 S [eL x0] fun v S'=>∃ r0:Int,v=.int .u64 r0∧Q r0 S'
def vg (S:Mem) (x0:Int) (x1:Int) (x2:Int) (Q:Int→Mem→Prop):Prop:=
 Tr Tryz.prog 165 S [.int .u64 x0,.int .i64 x1,.int .i64 x2] fun v S'=>∃ r0:Int,v=.int .u64 r0∧Q r0 S'
def kK (S:Mem) (x0:Int) (Q:Sl→Mem→Prop):Prop:=
 Tr Tryz.prog 166 S [.int .u64 x0] fun v S'=>∃ r0:Sl,v=eL r0∧Q r0 S'
def wS (S:Mem) (x0:Int) (x1:Int) (x2:Int) (x3:Int) (Q:Int→Mem→Prop):Prop:=
 Tr Tryz.prog 167 S [.int .u64 x0,.int .i64 x1,.int .i64 x2,.int .u64 x3] fun v S'=>∃ r0:Int,v=.int .u64 r0∧Q r0 S'
def fq (S:Mem) (x0:Int) (x1:Int) (Q:Bool→Mem→Prop):Prop:=
 Tr Tryz.prog 202 S [.int .i64 x0,.int .i64 x1] fun v S'=>∃ r0:Bool,v=.bool r0∧Q r0 S'
def xp (S:Mem) (x0:Pt) (x1:Int) (x2:Int) (Q:Mem→Prop):Prop:=
 Tr Tryz.prog 203 S [eP x0,.int .i64 x1,.int .i64 x2] fun v S'=>v=.tuple #[]∧Q S'
def zaK (S:Mem) (x0:Value) (x1:Int) (Q:Mem→Prop):Prop:=
 Tr Tryz.prog 215 S [x0,.int .i64 x1] fun v S'=>v=.tuple #[]∧Q S'
def vR (S:Mem) (x0:List Value) (x1:Pt) (x2:Pt) (Q:Bool→Mem→Prop):Prop:=
 Tr Tryz.prog 229 S [valL x0,eP x1,eP x2] fun v S'=>∃ r0:Bool,v=.bool r0∧Q r0 S'
def fo (S:Mem) (x0:Sl) (Q:Int→Mem→Prop):Prop:=
 Tr Tryz.prog 273 S [eL x0] fun v S'=>∃ r0:Int,v=.int .i64 r0∧Q r0 S'
def vB (S:Mem) (x0:Sl) (x1:Int) (x2:Int) (Q:Bool→Mem→Prop):Prop:=
 Tr Tryz.prog 274 S [eL x0,.int .i64 x1,.int .i64 x2] fun v S'=>∃ r0:Bool,v=.bool r0∧Q r0 S'
def vA (S:Mem) (x0:Sl) (x1:Int) (x2:Int) (Q:Mem→Prop):Prop:=
 Tr Tryz.prog 275 S [eL x0,.int .i64 x1,.int .i64 x2] fun v S'=>v=.tuple #[]∧Q S'
def fm (S:Mem) (x0:Pt) (Q:Value→Mem→Prop):Prop:=
 Tr Tryz.prog 276 S [eP x0] fun v S'=>∃ r0:Value,v=r0∧Q r0 S'
def gw (S:Mem) (x0:Pt) (x1:Value) (Q:Mem→Prop):Prop:=
 Tr Tryz.prog 277 S [eP x0,x1] fun v S'=>v=.tuple #[]∧Q S'
instance:EqT Tryz.prog 91 [.i .u8,.i .i64,.i .i64,.i .i64]:=⟨by kernel_rfl,by kernel_rfl,by kernel_rfl⟩
instance:EqT Tryz.prog 262 [.i .i64,.i .i64]:=⟨by kernel_rfl,by kernel_rfl,by kernel_rfl⟩
instance:BoolT Tryz.prog 4:=⟨by kernel_rfl⟩
end Go.Proofs.YtabdpmnhjlmnlaaGreatDoor
end
