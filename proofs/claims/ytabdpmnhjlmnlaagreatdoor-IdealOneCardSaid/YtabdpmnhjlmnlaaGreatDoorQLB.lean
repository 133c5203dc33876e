/- Texts of this work,joined by program (pack.py): PtF,PtG,PtH,PtY,PtZ,PtI. -/
import Derived.Test.YtabdpmnhjlmnlaaGreatDoorQLA
import Derived.ChangeKeysEq
import Derived.Test.YtabdpmnhjlmnlaaGreatDoorProg
set_option linter.unusedVariables false
section
namespace Go.Pt
open Go Go.RowKit
def lt {α:Type} (a:α) (K:α→Prop):Prop:=K a
theorem zje {α:Type} {a:α} {K:α→Prop} (h:lt a K):∃ x,a=x∧K x:=⟨a,rfl,h⟩
theorem eqv {P:Program} {l:Fr} {c:Cond} {op:Op} {v v':Value} (h:Yc P l c op v) (e:v=v'):Yc P l c op v':=e ▸ h
theorem ki {pl:Nat→Option (Nat×Nat)} {cs:List Value}:fillS pl cs []=some cs:=rfl
theorem yL {pl:Nat→Option (Nat×Nat)} {cs out:List Value} {i off size:Nat} {v:Value} {rest:List (Nat×Value)} (hp:pl i=some (off,size)) (hl:(cellsL v).length=size) (hb:off+size≤cs.length)
  (h:fillS pl (spl cs off (cellsL v)) rest=some out):fillS pl cs ((i,v) :: rest)=some out:=by
 simp only[fillS,hp]
 rw[if_pos]
 ·exact h
 ·simp only[Bool.and_eq_true,beq_iff_eq];exact⟨hl,Nat.ble_eq_true_of_le hb⟩
theorem zdr {z a:List Value} {size:Nat} (hz:z.length=size) (h:a.length=size):fillS (fun i=>some (i*size,size)) (zrep 1 z) [(0,valL a)]=some a:=by
 have e:spl (zrep 1 z) (0*size) (cellsL (valL a))=a:=by
  have:cellsL (valL a)=a:=by simp[cellsL,valL]
  rw[this,Nat.zero_mul,zbA (by simp[zrep];omega)]
 have:=yL (pl:=fun i=>some (i*size,size)) (cs:=zrep 1 z) (out:=a) (i:=0) (off:=0*size) (size:=size) (v:=valL a) (rest:=[]) rfl (by simp[cellsL,valL,h]) (by simp[zrep];omega) (by rw[e];rfl)
 exact this
theorem zag {cs vs:List Value} {o n m:Nat} (h:cs.length=n) (hv:vs.length=m) (h2:o+m≤n):(spl cs o vs).length=n:=zC h (by omega)
section
variable {P:Program} {w0:World} {S0:Mem} {Q:Exit→Act→World→Prop} {l:Fr} {S:Mem} {V:Hp}
end
end Go.Pt
end
section
namespace Go.Pt
open Go Go.RowKit
inductive CK where
 | i (k:IntKind)
 | b
 | s
def fit1:CK→Value→Bool
 | .i k,.int k' _=>decide (k=k')
 | .b,.bool _=>true
 | .s,.string _=>true
 | _,_=>false
def fits:List CK→List Value→Bool
 | [],[]=>true
 | k :: ks,v :: vs=>fit1 k v && fits ks vs
 | _,_=>false
def eq1:Value→Value→Bool
 | .int _ m,.int _ n=>m == n
 | .bool a,.bool b=>a == b
 | .string a,.string b=>a.toList == b.toList
 | _,_=>false
def eqL:List Value→List Value→Bool
 | [],[]=>true
 | x :: xs,y :: ys=>eq1 x y && eqL xs ys
 | _,_=>false
theorem kg:∀ {ks:List CK} {vs:List Value},fits ks vs=true→vs.length=ks.length
 | [],[],_=>rfl
 | [],_ :: _,h=>by simp[fits] at h
 | _ :: _,[],h=>by simp[fits] at h
 | k :: ks,v :: vs,h=>by simp only[fits,Bool.and_eq_true] at h;simp[kg h.2]
theorem vQ:∀ {ks ks':List CK} {vs:List Value},fits (ks++ks') vs=true→fits ks (vs.take ks.length)=true∧fits ks' (vs.drop ks.length)=true
 | [],ks',vs,h=>by simpa [fits] using h
 | k :: ks,ks',[],h=>by simp[fits] at h
 | k :: ks,ks',v :: vs,h=>by
  simp only[List.cons_append,fits,Bool.and_eq_true] at h
  have:=vQ h.2
  simp[fits,h.1,this]
theorem zbV:∀ (n:Nat) (xs ys:List Value),xs.length=ys.length→eqL xs ys=(eqL (xs.take n) (ys.take n) && eqL (xs.drop n) (ys.drop n))
 | 0,xs,ys,_=>by simp[eqL]
 | n+1,[],[],_=>by simp[eqL]
 | n+1,[],_ :: _,h=>by simp at h
 | n+1,_ :: _,[],h=>by simp at h
 | n+1,x :: xs,y :: ys,h=>by
  simp only[eqL,List.take_succ_cons,List.drop_succ_cons]
  rw[zbV n xs ys (by simpa using h),Bool.and_assoc]
theorem zjV {k:CK} {x y:Value} (hx:fit1 k x=true) (hy:fit1 k y=true):eq1 x y=true↔x=y:=by
 cases k <;> cases x <;> simp only[fit1,Bool.false_eq_true] at hx <;> cases y <;> simp only[fit1,Bool.false_eq_true] at hy
 ·simp only[decide_eq_true_eq] at hx hy;subst hx;subst hy;simp[eq1]
 ·simp[eq1]
 ·simp only[eq1,beq_iff_eq,Value.string.injEq]
  constructor
  ·intro h
   rw[ByteArray.toList_eq,ByteArray.toList_eq] at h
   rename_i a b
   cases a;cases b
   simp only[ByteArray.mk.injEq] at h ⊢
   exact Array.toList_inj.1 h
  ·rintro rfl;rfl
theorem zhO:∀ {ks:List CK} {xs ys:List Value},fits ks xs=true→fits ks ys=true→(eqL xs ys=true↔xs=ys)
 | [],[],[],_,_=>by simp[eqL]
 | [],_ :: _,_,h,_=>by simp[fits] at h
 | [],[],_ :: _,_,h=>by simp[fits] at h
 | _ :: _,[],_,h,_=>by simp[fits] at h
 | _ :: _,_ :: _,[],_,h=>by simp[fits] at h
 | k :: ks,x :: xs,y :: ys,hx,hy=>by
  simp only[fits,Bool.and_eq_true] at hx hy
  simp only[eqL,Bool.and_eq_true,zjV hx.1 hy.1,zhO hx.2 hy.2,List.cons.injEq]
def fieldsK (P:Program) (f:TypeId→Option (List CK)):List Field→Nat→Option (List CK)
 | [],_=>some []
 | g :: gs,o=>match f g.type with
  | none=>none
  | some ks => if g.name != "_" && Nat.beq g.offset o && ((P.info? g.type).map (·.size) == some ks.length) then (fieldsK P f gs (o + ks.length)).map (ks ++ ·) else none
def kindsOf (P:Program):Nat→TypeId→Option (List CK)
 | 0,_=>none
 | d+1,t=>match P.underlying t with
  | some .bool=>some [.b]
  | some (.int k)=>some [.i k]
  | some .string=>some [.s]
  | some (.array n e)=>match kindsOf P d e with
   | some ks=>if (P.info? e).map (·.size) == some ks.length then some (List.replicate n ks).flatten else none
   | none=>none
  | some (.struct fs)=>if P.stoodInHeld t then none else fieldsK P (kindsOf P d) fs.toList 0
  | _=>none
def aggT (P:Program) (t:TypeId):Bool:=match P.underlying t with
 | some (.array _ _)=>true
 | some (.struct _)=>true
 | _=>false
def vOf (a:Bool) (xs:List Value):Value:=match a with
 | true=>.agg xs.toArray
 | false=>xs.headD undef
section
variable {P:Program}
theorem zea {d:Nat} {t:TypeId} {ks:List CK} (h:kindsOf P d t=some ks) (ha:aggT P t=false):ks.length=1:=by
 cases d with
 | zero=>simp[kindsOf] at h
 | succ d=>
  simp only[kindsOf] at h
  simp only[aggT] at ha
  split at h <;> simp_all <;> (cases h;rfl)
theorem zfV {t:TypeId} (hu:∃ u,P.underlying t=some u) (w:World):(isAgg t).run P w=.ok (aggT P t) w:=by
 obtain⟨u,hu⟩:=hu
 cases u <;> simp[isAgg,run_underlying hu,aggT,hu]
theorem zhC {d:Nat} {t:TypeId} {ks:List CK} (h:kindsOf P d t=some ks):∃ u,P.underlying t=some u:=by
 cases d with
 | zero=>simp[kindsOf] at h
 | succ d=>
  simp only[kindsOf] at h
  cases hu:P.underlying t with
  | none=>rw[hu] at h;simp at h
  | some u=>exact⟨u,rfl⟩
theorem zal {d:Nat} {t:TypeId} {ks:List CK} (h:kindsOf P d t=some ks) (hs:(P.info? t).map (·.size)=some ks.length) {cs:List Value} {o:Nat} (hf:fits ks ((cs.drop o).take ks.length)=true) (w:World) :
  (part t cs.toArray o).run P w=.ok (vOf (aggT P t) ((cs.drop o).take ks.length)) w:=by
 have hagg:=zfV (zhC h)
 cases ha:aggT P t with
 | true=>
  obtain⟨i,hi,hsz⟩:=Option.map_eq_some_iff.1 hs
  have hsize:(sizeOf t).run P w=.ok ks.length w:=by simp[sizeOf,typeInfo,hi,hsz]
  simp[part,hagg,ha,hsize,vOf,List.extract_eq_take_drop]
 | false=>
  have h1:=zea h ha
  have hl:=kg hf
  rw[h1] at hl ⊢
  have:cs[o]? = ((cs.drop o).take 1)[0]?:=by simp
  cases hc:(cs.drop o).take 1 with
  | nil=>rw[hc] at hl;simp at hl
  | cons v r=>
   rw[hc] at this
   simp at this
   simp[part,hagg,ha,vOf,this]
theorem zei {d dd:Nat} (ih:∀ t ks,kindsOf P d t=some ks→∀ w xs ys,fits ks xs=true→fits ks ys=true→(Op.equalIn dd t (vOf (aggT P t) xs) (vOf (aggT P t) ys)).run P w=.ok (eqL xs ys) w) (cs ds:List Value) (hl:cs.length=ds.length) :
  ∀ (gs:List Field) (o:Nat) (ks:List CK),fieldsK P (kindsOf P d) gs o=some ks→fits ks (cs.drop o)=true→fits ks (ds.drop o)=true→∀ w,(Op.eqFields dd cs.toArray ds.toArray gs).run P w=.ok (eqL (cs.drop o) (ds.drop o)) w
 | [],o,ks,h,h1,h2,w=>by
  simp[fieldsK] at h;subst h
  have e1:=kg h1;have e2:=kg h2
  rw[List.length_eq_zero_iff.1 e1,List.length_eq_zero_iff.1 e2]
  simp[Op.eqFields,eqL]
 | g :: gs,o,ks,h,h1,h2,w=>by
  simp only[fieldsK] at h
  split at h
  ·cases h
  ·rename_i k1 hk
   split at h
   ·rename_i hc
    simp only[Bool.and_eq_true,bne_iff_ne,ne_eq,beq_iff_eq] at hc
    obtain⟨⟨hn,ho⟩,hsz⟩:=hc
    have ho:=Nat.eq_of_beq_eq_true ho
    obtain⟨k2,hk2,rfl⟩:=Option.map_eq_some_iff.1 h
    obtain⟨a1,a2⟩:=vQ h1
    obtain⟨b1,b2⟩:=vQ h2
    rw[List.drop_drop] at a2 b2
    have r1:=zei ih cs ds hl gs _ k2 hk2 a2 b2 w
    simp only[Op.eqFields,hn,ne_eq,not_false_eq_true,if_true,Sem.run_bind,ho,zal hk hsz a1,zal hk hsz b1,Result.andThen_ok,ih _ _ hk w _ _ a1 b1]
    rw[zbV k1.length (cs.drop o) (ds.drop o) (by simp[hl]),List.drop_drop,List.drop_drop]
    cases hb:eqL ((cs.drop o).take k1.length) ((ds.drop o).take k1.length) with
    | true=>simpa using r1
    | false=>simp
   ·cases h
theorem zfD {d dd:Nat} {e:TypeId} {k1:List CK} (ih:∀ w xs ys,fits k1 xs=true→fits k1 ys=true→(Op.equalIn dd e (vOf (aggT P e) xs) (vOf (aggT P e) ys)).run P w=.ok (eqL xs ys) w) (hk:kindsOf P d e=some k1) (hsz:(P.info? e).map (·.size)=some k1.length)
  (cs ds:List Value) (hl:cs.length=ds.length):∀ (n i:Nat),fits (List.replicate n k1).flatten (cs.drop (i*k1.length))=true→fits (List.replicate n k1).flatten (ds.drop (i*k1.length))=true→∀ w,
   (Op.eqItems dd e k1.length cs.toArray ds.toArray (List.range' i n)).run P w=.ok (eqL (cs.drop (i*k1.length)) (ds.drop (i*k1.length))) w
 | 0,i,h1,h2,w=>by
  have e1:=kg h1;have e2:=kg h2
  simp only[List.replicate_zero,List.flatten_nil,List.length_nil] at e1 e2
  rw[List.length_eq_zero_iff.1 e1,List.length_eq_zero_iff.1 e2]
  simp[Op.eqItems,eqL]
 | n+1,i,h1,h2,w=>by
  simp only[List.replicate_succ,List.flatten_cons] at h1 h2
  obtain⟨a1,a2⟩:=vQ h1
  obtain⟨b1,b2⟩:=vQ h2
  rw[List.drop_drop,show i*k1.length+k1.length=(i+1)*k1.length by rw[Nat.add_mul];omega] at a2 b2
  have r1:=zfD ih hk hsz cs ds hl n (i+1) a2 b2 w
  simp only[List.range'_succ,Op.eqItems,Sem.run_bind,zal hk hsz a1,zal hk hsz b1,Result.andThen_ok,ih w _ _ a1 b1]
  rw[zbV k1.length (cs.drop (i*k1.length)) (ds.drop (i*k1.length)) (by simp[hl]),List.drop_drop,List.drop_drop,show i*k1.length+k1.length=(i+1)*k1.length by rw[Nat.add_mul];omega]
  cases hb:eqL ((cs.drop (i*k1.length)).take k1.length) ((ds.drop (i*k1.length)).take k1.length) with
  | true=>simpa using r1
  | false=>simp
theorem zeX:∀ (d:Nat) (t:TypeId) (ks:List CK),kindsOf P d t=some ks→∀ dd w xs ys,fits ks xs=true→fits ks ys=true→(Op.equalIn (dd+d) t (vOf (aggT P t) xs) (vOf (aggT P t) ys)).run P w=.ok (eqL xs ys) w
 | 0,t,ks,h=>by simp[kindsOf] at h
 | d+1,t,ks,h=>by
  intro dd w xs ys fx fy
  have hl:xs.length=ys.length:=by rw[kg fx,kg fy]
  simp only[kindsOf] at h
  cases hu:P.underlying t with
  | none=>rw[hu] at h;simp at h
  | some u=>
   rw[hu] at h
   have scal:∀ k:CK,ks=[k]→∃ x y,xs=[x]∧ys=[y]∧fit1 k x=true∧fit1 k y=true:=by
    rintro k rfl
    match xs,ys,fx,fy with
    | [x],[y],fx,fy=>simp only[fits,Bool.and_true] at fx fy;exact⟨x,y,rfl,rfl,fx,fy⟩
    | [],_,fx,_=>simp[fits] at fx
    | [_],[],_,fy=>simp[fits] at fy
    | _ :: _ :: _,_,fx,_=>simp[fits] at fx
    | [_],_ :: _ :: _,_,fy=>simp[fits] at fy
   cases u <;> simp only[reduceCtorEq,Option.some.injEq] at h
   case bool=>
    obtain⟨x,y,rfl,rfl,h1,h2⟩:=scal _ h.symm
    cases x <;> simp only[fit1,Bool.false_eq_true] at h1
    cases y <;> simp only[fit1,Bool.false_eq_true] at h2
    simp[aggT,hu,vOf,Op.equalIn,run_underlying hu,eqL,eq1]
   case int=>
    obtain⟨x,y,rfl,rfl,h1,h2⟩:=scal _ h.symm
    cases x <;> simp only[fit1,Bool.false_eq_true] at h1
    cases y <;> simp only[fit1,Bool.false_eq_true] at h2
    simp only[decide_eq_true_eq] at h1 h2
    subst h1;subst h2
    simp[aggT,hu,vOf,Op.equalIn,run_underlying hu,eqL,eq1]
   case string=>
    obtain⟨x,y,rfl,rfl,h1,h2⟩:=scal _ h.symm
    cases x <;> simp only[fit1,Bool.false_eq_true] at h1
    cases y <;> simp only[fit1,Bool.false_eq_true] at h2
    simp[aggT,hu,vOf,Op.equalIn,run_underlying hu,eqL,eq1,beq_toListBytes]
   case array n e=>
    split at h
    ·rename_i k1 hk
     split at h
     ·rename_i hsz
      simp only[beq_iff_eq] at hsz
      obtain⟨i,hi,hi2⟩:=Option.map_eq_some_iff.1 hsz
      cases h
      have hc:P.cellsOf e=k1.length:=by simp[Program.cellsOf,hi,hi2]
      have:=zfD (dd:=dd+d) (zeX d e k1 hk dd) hk hsz xs ys hl n 0 (by simpa using fx) (by simpa using fy) w
      simp only[Nat.zero_mul,List.drop_zero] at this
      simp only[aggT,hu,vOf]
      rw[show dd+(d+1)=(dd+d)+1 from rfl,run_equalIn_array w (dd+d) xs.toArray ys.toArray hu hi,hc,List.range_eq_range']
      exact this
     ·cases h
    ·cases h
   case struct fs=>
    split at h
    ·cases h
    ·rename_i hst
     have hfs:P.fieldsOf t=fs:=by simp[Program.fieldsOf,hu]
     have:=zei (dd:=dd+d) (fun t ks hk w xs ys=>zeX d t ks hk dd w xs ys) xs ys hl fs.toList 0 ks h (by simpa using fx) (by simpa using fy) w
     simp only[List.drop_zero] at this
     simp only[aggT,hu,vOf]
     rw[show dd+(d+1)=(dd+d)+1 from rfl,run_equalIn_struct w (dd+d) t xs.toArray ys.toArray (by rw[hfs];exact hu) (by simpa using hst),hfs]
     exact this
class EqT (P:Program) (t:TypeId) (ks:outParam (List CK)):Prop where
 kinds:kindsOf P 8 t=some ks
 agg:aggT P t=true
 guard:P.eqGuardType P.depth t=false
variable {l:Fr} {c:Cond}
theorem zkn {t t2:TypeId} {x y:Operand} {ks:List CK} {xs ys:List Value} [h:EqT P t ks] (hx:ev l x=some (valL xs)) (hy:ev l y=some (valL ys)) (fx:fits ks xs=true) (fy:fits ks ys=true):Yc P l c (.binOp .neq t x y t2) (.bool (!eqL xs ys)):=by
 unfold Yc;intro a w ha _ d ty ps af g
 have hm:=zeX 8 t ks h.kinds 9992 w xs ys fx fy
 rw[h.agg] at hm
 simp only[vOf] at hm
 simp[execOp,ha.eval hx,ha.eval hy,valL,run_eqGuard_agg w .neq t x y xs.toArray ys.toArray h.guard,run_neq_struct,hm]
class BoolT (P:Program) (t:TypeId):Prop where
 run:P.underlying t=some .bool
end
end Go.Pt
end
section
namespace Go.Pt
open Go Go.RowKit
class BytesT (P:Program) (t:TypeId):Prop where
 run:∃ e,P.underlying t=some (.slice e)∧P.underlying e=some (.int .u8)
class StrT (P:Program) (t:TypeId):Prop where
 run:P.underlying t=some .string
def bs (S:Mem) (s:Sl) (K:ByteArray→Prop):Prop:=∃ xs:List Int,((s.p=none∧xs=[])∨∃ b o,s.p=some (b,o)∧xs.length=s.n∧S.part b o s.n=some (xs.map (.int .u8)))∧lt (strOfNums xs) K
def bcond (s:Sl) (xs:List Int):Cond:=match s.p with
 | none=>.tt
 | some (b,o)=>.cells b o (xs.map (.int .u8))
section
variable {P:Program} {w0:World} {S0 S:Mem} {V:Hp} {l:Fr}
end
def cpy (S:Mem) (size:Nat) (d s:Sl) (K:Int→Mem→Prop):Prop:=
 sp S ⟨s.p,min s.n d.n,0⟩ size fun vs=>(d.p=none∧vs=[]∧K ((min s.n d.n:Nat):Int) S)∨∃ b o,d.p=some (b,o)∧S.room b o (min s.n d.n*size)∧K ((min s.n d.n:Nat):Int) (S.put b o vs)
def clr (S:Mem) (size:Nat) (z:List Value) (s:Sl) (K:Mem→Prop):Prop:=
 (s.p=none∨s.n=0)∧K S∨∃ b o,s.p=some (b,o)∧S.room b o (s.n*size)∧K (S.put b o (zrep s.n z))
section
variable {P:Program} {w0:World} {S0:Mem} {opl:List Oper} {Q:Exit→Act→World→Prop} {rest:List Oper} {l:Fr} {S:Mem} {V:Hp}
variable {d:Option Tmp} {op:Op} {ty:TypeId} {ps:String} {af:Array Edge} {g:Option (Nat×Bool)}
theorem zkD {t e size bytes:Nat} {z:List Value} {x y:Operand} {sd ss:Sl} {K:Int→Mem→Prop} [h:ElemT P t e z size bytes] (hw:wantL opl l g=some true)
  (hx:ev l x=some (eL sd)) (hy:ev l y=some (eL ss)) (H:cpy S size sd ss K) (k:∀ r S',K r S'→WL P w0 S0 opl Q rest (putn l d (.int .i64 r)) S' V) :
  WL P w0 S0 opl Q (⟨d,.call { callee:=.builtin .copy,args:=#[x,y],argTypes:=#[t,t] },ty,ps,af,g⟩ :: rest) l S V:=by
 unfold WL at k ⊢
 intro a w ha hS
 refine wpList_step fun KK hKK=>?_
 rw[if_pos (qU (o:=⟨d,.call { callee:=.builtin .copy,args:=#[x,y],argTypes:=#[t,t] },ty,ps,af,g⟩) hw ha)]
 unfold Oper.wp
 obtain⟨i,v0,i1,i2,i3,i4,i5⟩:=h.info
 have hs:∀ w,(sizeOf e).run P w=.ok size w:=fun w=>by simp[sizeOf,typeInfo,i1,i4]
 obtain⟨vs,hvs,h1,hK⟩:=H
 obtain⟨pd,nd,cd⟩:=sd
 obtain⟨p2,n2,c2⟩:=ss
 simp only at hvs hK
 have hfc:=(zbU (P:=P) (w0:=w0) (S0:=S0) (S:=S) (V:=V) (s:=⟨p2,min n2 nd,0⟩) (size:=size) hvs).1 w hS
 have hfc2:(Builtin.firstCells size (min n2 nd) (.slice (adr p2) n2 c2)).run P w=.ok vs.toArray w:=by
  cases hp:p2 with
  | none=>rw[hp] at hfc;simpa [Builtin.firstCells,eL,adr] using hfc
  | some q=>rw[hp] at hfc;obtain⟨u,v⟩:=q;simpa [Builtin.firstCells,eL,adr] using hfc
 rcases hK with ⟨hp,hv,hK⟩ | ⟨b,o,hp,hpart,hK⟩
 ·subst hp;subst hv
  have:(execOp a.eval ⟨d,.call { callee:=.builtin .copy,args:=#[x,y],argTypes:=#[t,t] },ty,ps,af,g⟩).run P w=.ok (.value (.int .i64 ((min n2 nd:Nat):Int))) w:=by
   have hm:Nat.min n2 nd=min n2 nd:=rfl
   simp only[eL] at hx hy
   simp[execOp,resolve,invoke,builtin,ha.eval hx,ha.eval hy,adr_none,Builtin.copy_,run_underlying h.sl,hs,Builtin.lenOf,hm,hfc2,goInt]
  rw[this]
  exact hKK _ _ (k _ _ hK _ _ (ha.put d _) hS)
 ·subst hp
  obtain⟨kb,hkb,hfr,hlp⟩:=hpart
  have hm:=hS.mem b kb hkb
  rw[hfr] at hm
  have hlen:vs.length=min n2 nd*size:=(zbU (P:=P) (w0:=w0) (S0:=S0) (S:=S) (V:=V) (s:=⟨p2,min n2 nd,0⟩) (size:=size) hvs).2
  have hst:=run_storeCells_at (P:=P) b o kb.ty vs 0 kb.cs.toArray w hm (by simp;omega) (fun v hv=>List.all_eq_true.1 h1 v hv)
  simp only[Nat.add_zero] at hst
  rw[←xF kb.cs o vs (by omega)] at hst
  have:(execOp a.eval ⟨d,.call { callee:=.builtin .copy,args:=#[x,y],argTypes:=#[t,t] },ty,ps,af,g⟩).run P w=.ok (.value (.int .i64 ((min n2 nd:Nat):Int))) (w.setRow b (spl kb.cs o vs).toArray):=by
   have hm:Nat.min n2 nd=min n2 nd:=rfl
   simp only[eL] at hx hy
   simp[execOp,resolve,invoke,builtin,ha.eval hx,ha.eval hy,zfI,Builtin.copy_,run_underlying h.sl,hs,Builtin.lenOf,hm,hfc2,goInt,hst]
  rw[this]
  exact hKK _ _ (k _ _ hK _ _ (ha.put d _) (hS.putS hkb _))
where adr_none:adr none=none:=rfl
theorem zlt {t e size bytes:Nat} {z:List Value} {x:Operand} {s:Sl} {K:Mem→Prop} [h:ElemT P t e z size bytes] (hw:wantL opl l g=some true)
  (hx:ev l x=some (eL s)) (hz:z.all (·.oneCell')=true) (H:clr S size z s K) (k:∀ S',K S'→WL P w0 S0 opl Q rest (putn l d (.tuple #[])) S' V) :
  WL P w0 S0 opl Q (⟨d,.call { callee:=.builtin .clear,args:=#[x],argTypes:=#[t] },ty,ps,af,g⟩ :: rest) l S V:=by
 unfold WL at k ⊢
 intro a w ha hS
 refine wpList_step fun KK hKK=>?_
 rw[if_pos (qU (o:=⟨d,.call { callee:=.builtin .clear,args:=#[x],argTypes:=#[t] },ty,ps,af,g⟩) hw ha)]
 unfold Oper.wp
 obtain⟨i,v0,i1,i2,i3,i4,i5⟩:=h.info
 have hzv:∀ w,(zeroValue e).run P w=.ok v0 w:=fun w=>by simp[zeroValue,typeInfo,i1,i2]
 obtain⟨p,n,c⟩:=s
 simp only[eL] at hx
 have triv:p=none∨n=0→(execOp a.eval ⟨d,.call { callee:=.builtin .clear,args:=#[x],argTypes:=#[t] },ty,ps,af,g⟩).run P w=.ok (.value (.tuple #[])) w:=by
  intro hn
  rcases hn with hn | hn
  ·subst hn
   simp[execOp,resolve,invoke,builtin,ha.eval hx,adr,Builtin.clear_,run_underlying h.sl]
  ·subst hn
   cases p with
   | none=>simp[execOp,resolve,invoke,builtin,ha.eval hx,adr,Builtin.clear_,run_underlying h.sl]
   | some q=>obtain⟨u,v⟩:=q;simp[execOp,resolve,invoke,builtin,ha.eval hx,adr,Builtin.clear_,run_underlying h.sl]
 rcases H with ⟨hn,hK⟩ | ⟨b,o,hp,hpart,hK⟩
 ·rw[triv hn]
  exact hKK _ _ (k _ hK _ _ (ha.put d _) hS)
 ·simp only at hp hpart hK
  subst hp
  obtain⟨kb,hkb,hfr,hlp⟩:=hpart
  have hm:=hS.mem b kb hkb
  rw[hfr] at hm
  by_cases hn:n=0
  ·rw[triv (.inr hn)]
   subst hn
   have:S.put b o (zrep 0 z)=S:=by
    funext q
    unfold Mem.put
    by_cases hq:q=b
    ·subst hq
     rw[if_pos rfl,hkb]
     simp only[Option.map_some,zrep]
     rw[xF _ _ _ (by omega)]
     simp
    ·rw[if_neg hq]
   rw[this] at hK
   exact hKK _ _ (k _ hK _ _ (ha.put d _) hS)
  ·have hall:(zrep n z).all (·.oneCell')=true:=by
    have:∀ n,(zrep n z).all (·.oneCell')=true:=fun n=>by
     induction n with
     | zero=>rfl
     | succ n ih=>simp only[zrep,List.all_append,hz,ih,Bool.and_self]
    exact this n
   have hlen:(zrep n z).length=n*size:=by rw[vG,h.len]
   have hst:=run_storeCells_at (P:=P) b o kb.ty (zrep n z) 0 kb.cs.toArray w hm (by simp;omega) (fun v hv=>List.all_eq_true.1 hall v hv)
   simp only[Nat.add_zero] at hst
   rw[←xF kb.cs o (zrep n z) (by omega)] at hst
   have hzc:=gT z n (by rw[h.len];exact h.pos)
   obtain⟨m,rfl⟩:∃ m,n=m+1:=⟨n-1,by omega⟩
   have:(execOp a.eval ⟨d,.call { callee:=.builtin .clear,args:=#[x],argTypes:=#[t] },ty,ps,af,g⟩).run P w=.ok (.value (.tuple #[])) (w.setRow b (spl kb.cs o (zrep (m+1) z)).toArray):=by
    simp[execOp,resolve,invoke,builtin,ha.eval hx,adr,Builtin.clear_,run_underlying h.sl,hzv,i3,hzc,hst]
   rw[this]
   exact hKK _ _ (k _ hK _ _ (ha.put d _) (hS.putS hkb _))
end
section
variable {P:Program} {l:Fr} {c:Cond}
end
/-! strings ranged over;a slice of one's own as a string -/
section
variable {P:Program} {w0 w:World} {S0 S:Mem} {V:Hp}
end
section
variable {P:Program} {w0:World} {S0:Mem} {opl:List Oper} {Q:Exit→Act→World→Prop} {rest:List Oper} {l:Fr} {S:Mem} {V:Hp}
variable {d:Option Tmp} {op:Op} {ty:TypeId} {ps:String} {af:Array Edge} {g:Option (Nat×Bool)}
end
/-! an interface value against nil -/
class IfaceT (P:Program) (t:TypeId):Prop where
 run:∃ ms,P.underlying t=some (.interface ms)
def ni (v:Value) (K:Bool→Prop):Prop:=∃ b,((v=.nilIface∧b=true)∨((∃ t u,v=.iface t u)∧b=false))∧K b
theorem zis {P:Program} {t:TypeId} [h:IfaceT P t] {v:Value} {b:Bool} (hv:(v=.nilIface∧b=true)∨((∃ t u,v=.iface t u)∧b=false)) (w:World):(Op.equal t v .nilIface).run P w=.ok b w:=by
 obtain⟨ms,hu⟩:=h.run
 have e:Op.equal t v .nilIface=Op.equalIn (9999+1) t v .nilIface:=rfl
 rw[e,Op.equalIn]
 rcases hv with ⟨rfl,rfl⟩ | ⟨⟨tt,u,rfl⟩,rfl⟩ <;> simp[run_underlying hu]
section
variable {P:Program} {l:Fr} {c:Cond}
theorem zgF {t t2:TypeId} {x:Operand} {v:Value} {b:Bool} [h:IfaceT P t] (hx:ev l x=some v) (hv:(v=.nilIface∧b=true)∨((∃ t u,v=.iface t u)∧b=false)):Yc P l c (.binOp .eql t x (.const .nilIface) t2) (.bool b):=fun a w ha _ d ty ps af g=>by
 have hr:=zis (P:=P) (t:=t) hv w
 have e2:a.eval (.const .nilIface)=.nilIface:=rfl
 rcases hv with ⟨rfl,rfl⟩ | ⟨⟨tt,u,rfl⟩,rfl⟩ <;> simp[execOp,ha.eval hx,e2,eqGuard,binOp,hr]
end
end Go.Pt
end
section
namespace Go.Pt
open Go Go.RowKit
def isI (v:Value):Prop:=∃ t x,v=.iface t x
def asI (v:Value) (t:TypeId) (k:IntKind) (K:Int→Prop):Prop:=∃ n,v=.iface t (.int k n)∧K n
class MethS (P:Program) (t:TypeId) (name:String) (f:outParam FuncId):Prop where
 run:∀ cs w,(method (P.types.size+Made.depth) t (valL cs) name).run P w=.ok (f,valL cs) w
def fz (S:Mem) (b:Nat) (K:Mem→Prop):Prop:=∃ k,S b=some k∧k.fr=(0,0)∧K (S.set b ⟨k.ty,k.cs,(k.cs.length,k.cs.length+1)⟩)
theorem zcQ {v:Value} (h:v.oneCell'=true):cellsL v=[v]:=by cases v <;> simp_all [cellsL,Value.oneCell']
theorem zgu {pl:Nat→Option (Nat×Nat)} {cs out:List Value} {i off:Nat} {v:Value} {rest:List (Nat×Value)} (hp:pl i=some (off,1)) (hv:v.oneCell'=true) (hb:off+1≤cs.length)
  (h:fillS pl (spl cs off [v]) rest=some out):fillS pl cs ((i,v) :: rest)=some out:=by
 refine yL hp (by rw[zcQ hv];rfl) hb ?_
 rw[zcQ hv];exact h
section
variable {P:Program} {w0:World} {S0:Mem} {opl:List Oper} {Q:Exit→Act→World→Prop} {rest:List Oper} {l:Fr} {S:Mem} {V:Hp} {c:Cond}
variable {d:Option Tmp} {ty:TypeId} {ps:String} {af:Array Edge} {g:Option (Nat×Bool)}
theorem zll {x:Operand} {v:Value} (hv:isI v) (hx:ev l x=some v):Yc P l c (.nilCheck x) v:=fun a w ha _ d ty ps af g=>by
 obtain⟨t,u,rfl⟩:=hv
 simp[execOp,ha.eval hx]
theorem zeI {w:World} {ac:Act} {lo hi:Option Operand} {n k:Nat} {a b:Int} (ha:Ag l ac) (hlo:evB l lo 0=some a) (hhi:evB l hi n=some b) (h0:0≤a) (h1:a≤b) (h2:b≤k) :
  (Instr.sliceBounds false n k (lo.map ac.eval) (hi.map ac.eval) none).run P w=.ok (a.toNat,b.toNat,k) w:=by
 have hb0:0≤b:=by omega
 have hab:a≤(b.toNat:Int):=by omega
 rcases zds ha hlo with ⟨rfl,rfl⟩ | ⟨xl,kl,rfl,hl⟩ <;> rcases zds ha hhi with ⟨rfl,rfl⟩ | ⟨xh,kh,rfl,hh⟩
 ·simp[Instr.sliceBounds]
 ·simp[Instr.sliceBounds,hh,vi hb0 h2]
 ·simp only[Int.toNat_natCast] at hab
  simp[Instr.sliceBounds,hl,vi h0 hab]
 ·simp[Instr.sliceBounds,hl,hh,vi hb0 h2,vi h0 hab]
theorem zgE {t n e size b o:Nat} {x:Operand} {lo hi:Option Operand} {z y:Int} [h:ArrayT P t n e size] (hx:ev l x=some (.pointer (some ⟨b,o,none⟩))) (hlo:evB l lo 0=some z) (hhi:evB l hi n=some y)
  (h0:0≤z) (h1:z≤y) (h2:y≤n):Yc P l c (.slice t x lo hi none) (eL (slc size ⟨some (b,o),n,n⟩ z y)):=by
 unfold Yc;intro ac w ha _ d ty ps af g
 have e1:(y-z).toNat=y.toNat-z.toNat:=by omega
 have hb:=zeI (P:=P) (w:=w) ha hlo hhi h0 h1 h2
 have hadr:adr (if n=z.toNat then some (b,o) else (some (b,o)).map fun q=>(q.1,q.2+z.toNat*size))=some (if n=z.toNat then ⟨b,o,none⟩ else (⟨b,o,none⟩:Addr).add (z.toNat*size)):=by
  split
  ·rfl
  ·simp[adr,Addr.add_lit]
 simp only[execOp,ha.eval hx,Instr.sliceAt,Sem.run_bind,run_underlying h.run,Result.andThen_ok,hb,h.size,Sem.run_pure,slc,eL,hadr,e1,Option.map_none,Instr.sureAddr]
theorem xC {t:TypeId} {x i:Operand} {n e size b o m:Nat} {k:IntKind} {z:Int} [h:ArrayT P t n e size] (hx:ev l x=some (.pointer (some ⟨b,o,none⟩)))
  (hi:ev l i=some (.int k z)) (h0:0≤z) (h1:z<n) (hm:z.toNat*size=m):Yc P l c (.indexAddr t x i) (.pointer (some ⟨b,o+m,none⟩)):=zz hx hi h0 h1 (by rw[hm])
end
/-! maps of one's own in which nothing is -/
class MapZ (P:Program) (t:TypeId) (n:outParam Nat) (z:outParam Value):Prop where
 und:∃ ke el,P.underlying t=some (.map ke el)
 look:∀ b w cs,cs.length=n→w.heap[b]? = some (.map #[] 0)→(Instr.lookup t (.map (some b)) (valL cs) false).run P w=.ok z w
section
variable {P:Program} {w0 w:World} {S0 S:Mem} {V:Hp}
variable {opl:List Oper} {Q:Exit→Act→World→Prop} {rest:List Oper} {l:Fr}
variable {d:Option Tmp} {ty:TypeId} {ps:String} {af:Array Edge} {g:Option (Nat×Bool)}
end
end Go.Pt
end
section
namespace Go.Pt
open Go
theorem iteK {p A B R:Prop} [Decidable p] (h:if p then A else B) (h1:p→A→R) (h2:¬p→B→R):R:=by
 rcases zlx h with ⟨a,b⟩ | ⟨a,b⟩
 ·exact h1 a b
 ·exact h2 a b
theorem an {p q R:Prop} (h:p∧q) (k:p→q→R):R:=k h.1 h.2
theorem an2 {p p2 q R:Prop} (h:p∧p2∧q) (k:p→p2→q→R):R:=k h.1 h.2.1 h.2.2
theorem an3 {p p2 p3 q R:Prop} (h:p∧p2∧p3∧q) (k:p→p2→p3→q→R):R:=k h.1 h.2.1 h.2.2.1 h.2.2.2
theorem gx {α:Type} {p q:α→Prop} {R:Prop} (h:∃ x,p x∧q x) (k:∀ x,p x→q x→R):R:=h.elim fun x hx=>k x hx.1 hx.2
section rules
variable {P:Program} {w0:World} {S0:Mem} {opl:List Oper} {Q:Exit→Act→World→Prop} {rest:List Oper} {l:Fr} {S:Mem} {V:Hp}
variable {d:Option Tmp} {ty:TypeId} {ps:String} {af:Array Edge} {g:Option (Nat×Bool)}
theorem mv {x:Operand} {v:Value} (hw:wantL opl l g=some true) (hx:ev l x=some v) (k:WL P w0 S0 opl Q rest (putn l d v) S V):WL P w0 S0 opl Q (⟨d,.move x,ty,ps,af,g⟩ :: rest) l S V:=s_p hw (zk hx) k
theorem gv {x:Operand} {v:Value} (hw:wantL opl l g=some true) (hx:ev l x=some v) (k:WL P w0 S0 opl Q rest (putn l d v) S V):WL P w0 S0 opl Q (⟨d,.assign x,ty,ps,af,g⟩ :: rest) l S V:=s_p hw (zM hx) k
theorem ceT {k:IntKind} {m n:Int} {x y:Operand} {t t2:TypeId} (hw:wantL opl l g=some true) (hx:ev l x=some (.int k m)) (hy:ev l y=some (.int k n)) (hp:m=n)
  (h:WL P w0 S0 opl Q rest (putn l d (.bool true)) S V):WL P w0 S0 opl Q (⟨d,.binOp .eql t x y t2,ty,ps,af,g⟩ :: rest) l S V:=s_p hw (yT (jz hx hy) hp) h
theorem ceF {k:IntKind} {m n:Int} {x y:Operand} {t t2:TypeId} (hw:wantL opl l g=some true) (hx:ev l x=some (.int k m)) (hy:ev l y=some (.int k n)) (hp:¬m=n)
  (h:WL P w0 S0 opl Q rest (putn l d (.bool false)) S V):WL P w0 S0 opl Q (⟨d,.binOp .eql t x y t2,ty,ps,af,g⟩ :: rest) l S V:=s_p hw (yF (jz hx hy) hp) h
theorem csr {i:Nat} {ol:List Oper} {y:Code} (h:WL P w0 S0 ol (Exit.then (y.wp P Q) Q) ol l S V):WC P w0 S0 (.seq (.region i ol.toArray false) y) Q l S V:=zG (zx h)
theorem nx {y:Code} (h:WC P w0 S0 y Q l S V):WL P w0 S0 opl (Exit.then (y.wp P Q) Q) [] l S V:=zn (zr h)
theorem nxr {i:Nat} {ol:List Oper} {y:Code} (h:WL P w0 S0 ol (Exit.then (y.wp P Q) Q) ol l S V):WL P w0 S0 opl (Exit.then ((Code.seq (.region i ol.toArray false) y).wp P Q) Q) [] l S V:=nx (csr h)
theorem ctr {i:Nat} {ol:List Oper} {c:Operand} {y:Code} {e:Bool} (hc:ev l c=some (.bool e)) (he:e=true) (h:WL P w0 S0 ol Q ol l S V):WC P w0 S0 (.cond c (.region i ol.toArray false) y) Q l S V:=c_t hc he (zx h)
theorem cfr {i:Nat} {ol:List Oper} {c:Operand} {x:Code} {e:Bool} (hc:ev l c=some (.bool e)) (he:e=false) (h:WL P w0 S0 ol Q ol l S V):WC P w0 S0 (.cond c x (.region i ol.toArray false)) Q l S V:=c_f hc he (zx h)
theorem cfs {c:Operand} {x:Code} {e:Bool} (hc:ev l c=some (.bool e)) (he:e=false) (h:WQ w0 S0 Q .normal l S V):WC P w0 S0 (.cond c x .skip) Q l S V:=c_f hc he (qw h)
theorem pk {q x y:Operand} {b:Bool} {v:Value} (hw:wantL opl l g=some true) (hc:ev l q=some (.bool b)) (hx:ev l (if b then x else y)=some v) (k:WL P w0 S0 opl Q rest (putn l d v) S V) :
  WL P w0 S0 opl Q (⟨d,.pick q x y,ty,ps,af,g⟩ :: rest) l S V:=s_p hw (xS hc hx) k
theorem sk2 {d0:Option Tmp} {op0:Op} {ty0:TypeId} {ps0:String} {af0:Array Edge} {g0:Option (Nat×Bool)} {d1:Option Tmp} {op1:Op} {ty1:TypeId} {ps1:String} {af1:Array Edge} {g1:Option (Nat×Bool)} (h0:wantL opl l g0=some false) (h1:wantL opl (putn l d0 undef) g1=some false)
  (k:WL P w0 S0 opl Q rest (putn (putn l d0 undef) d1 undef) S V):WL P w0 S0 opl Q (⟨d0,op0,ty0,ps0,af0,g0⟩ :: ⟨d1,op1,ty1,ps1,af1,g1⟩ :: rest) l S V:=zK h0 (zK h1 k)
theorem sk4 {d0:Option Tmp} {op0:Op} {ty0:TypeId} {ps0:String} {af0:Array Edge} {g0:Option (Nat×Bool)} {d1:Option Tmp} {op1:Op} {ty1:TypeId} {ps1:String} {af1:Array Edge} {g1:Option (Nat×Bool)} {d2:Option Tmp} {op2:Op} {ty2:TypeId} {ps2:String} {af2:Array Edge} {g2:Option (Nat×Bool)} {d3:Option Tmp} {op3:Op} {ty3:TypeId} {ps3:String} {af3:Array Edge} {g3:Option (Nat×Bool)} (h0:wantL opl l g0=some false) (h1:wantL opl (putn l d0 undef) g1=some false) (h2:wantL opl (putn (putn l d0 undef) d1 undef) g2=some false) (h3:wantL opl (putn (putn (putn l d0 undef) d1 undef) d2 undef) g3=some false)
  (k:WL P w0 S0 opl Q rest (putn (putn (putn (putn l d0 undef) d1 undef) d2 undef) d3 undef) S V):WL P w0 S0 opl Q (⟨d0,op0,ty0,ps0,af0,g0⟩ :: ⟨d1,op1,ty1,ps1,af1,g1⟩ :: ⟨d2,op2,ty2,ps2,af2,g2⟩ :: ⟨d3,op3,ty3,ps3,af3,g3⟩ :: rest) l S V:=zK h0 (zK h1 (zK h2 (zK h3 k)))
theorem sk8 {d0:Option Tmp} {op0:Op} {ty0:TypeId} {ps0:String} {af0:Array Edge} {g0:Option (Nat×Bool)} {d1:Option Tmp} {op1:Op} {ty1:TypeId} {ps1:String} {af1:Array Edge} {g1:Option (Nat×Bool)} {d2:Option Tmp} {op2:Op} {ty2:TypeId} {ps2:String} {af2:Array Edge} {g2:Option (Nat×Bool)} {d3:Option Tmp} {op3:Op} {ty3:TypeId} {ps3:String} {af3:Array Edge} {g3:Option (Nat×Bool)} {d4:Option Tmp} {op4:Op} {ty4:TypeId} {ps4:String} {af4:Array Edge} {g4:Option (Nat×Bool)} {d5:Option Tmp} {op5:Op} {ty5:TypeId} {ps5:String} {af5:Array Edge} {g5:Option (Nat×Bool)} {d6:Option Tmp} {op6:Op} {ty6:TypeId} {ps6:String} {af6:Array Edge} {g6:Option (Nat×Bool)} {d7:Option Tmp} {op7:Op} {ty7:TypeId} {ps7:String} {af7:Array Edge} {g7:Option (Nat×Bool)} (h0:wantL opl l g0=some false) (h1:wantL opl (putn l d0 undef) g1=some false) (h2:wantL opl (putn (putn l d0 undef) d1 undef) g2=some false) (h3:wantL opl (putn (putn (putn l d0 undef) d1 undef) d2 undef) g3=some false) (h4:wantL opl (putn (putn (putn (putn l d0 undef) d1 undef) d2 undef) d3 undef) g4=some false) (h5:wantL opl (putn (putn (putn (putn (putn l d0 undef) d1 undef) d2 undef) d3 undef) d4 undef) g5=some false) (h6:wantL opl (putn (putn (putn (putn (putn (putn l d0 undef) d1 undef) d2 undef) d3 undef) d4 undef) d5 undef) g6=some false) (h7:wantL opl (putn (putn (putn (putn (putn (putn (putn l d0 undef) d1 undef) d2 undef) d3 undef) d4 undef) d5 undef) d6 undef) g7=some false)
  (k:WL P w0 S0 opl Q rest (putn (putn (putn (putn (putn (putn (putn (putn l d0 undef) d1 undef) d2 undef) d3 undef) d4 undef) d5 undef) d6 undef) d7 undef) S V):WL P w0 S0 opl Q (⟨d0,op0,ty0,ps0,af0,g0⟩ :: ⟨d1,op1,ty1,ps1,af1,g1⟩ :: ⟨d2,op2,ty2,ps2,af2,g2⟩ :: ⟨d3,op3,ty3,ps3,af3,g3⟩ :: ⟨d4,op4,ty4,ps4,af4,g4⟩ :: ⟨d5,op5,ty5,ps5,af5,g5⟩ :: ⟨d6,op6,ty6,ps6,af6,g6⟩ :: ⟨d7,op7,ty7,ps7,af7,g7⟩ :: rest) l S V:=zK h0 (zK h1 (zK h2 (zK h3 (zK h4 (zK h5 (zK h6 (zK h7 k)))))))
section calls
variable {f:FuncId} {xs:List Operand} {ats:Array TypeId} {args:List Value} [hcall:CallT P f]
theorem zaY {u:Value} {K:Mem→Prop} (hw:wantL opl l g=some true) (hx:evs l xs=some args) (hc:Tr P f S args fun v S'=>v=u∧K S')
  (k:∀ S',K S'→WL P w0 S0 opl Q rest (putn l d u) S' V):WL P w0 S0 opl Q (⟨d,.call { callee:=.value (.func f),args:=xs.toArray,argTypes:=ats },ty,ps,af,g⟩ :: rest) l S V:=qr hw hx hc fun _ S' h=>by
 obtain⟨rfl,h⟩:=h;exact k S' h
theorem qM {α:Type} {e:α→Value} {K:α→Mem→Prop} (hw:wantL opl l g=some true) (hx:evs l xs=some args) (hc:Tr P f S args fun v S'=>∃ t,v=e t∧K t S')
  (k:∀ t S',K t S'→WL P w0 S0 opl Q rest (putn l d (e t)) S' V):WL P w0 S0 opl Q (⟨d,.call { callee:=.value (.func f),args:=xs.toArray,argTypes:=ats },ty,ps,af,g⟩ :: rest) l S V:=qr hw hx hc fun _ S' h=>by
 obtain⟨t,rfl,h⟩:=h;exact k t S' h
theorem zcu {α β:Type} {e:α→β→Value} {K:α→β→Mem→Prop} (hw:wantL opl l g=some true) (hx:evs l xs=some args) (hc:Tr P f S args fun v S'=>∃ t u,v=e t u∧K t u S')
  (k:∀ t u S',K t u S'→WL P w0 S0 opl Q rest (putn l d (e t u)) S' V):WL P w0 S0 opl Q (⟨d,.call { callee:=.value (.func f),args:=xs.toArray,argTypes:=ats },ty,ps,af,g⟩ :: rest) l S V:=qr hw hx hc fun _ S' h=>by
 obtain⟨t,u,rfl,h⟩:=h;exact k t u S' h
theorem zlj {α β γ:Type} {e:α→β→γ→Value} {K:α→β→γ→Mem→Prop} (hw:wantL opl l g=some true) (hx:evs l xs=some args) (hc:Tr P f S args fun v S'=>∃ t u z,v=e t u z∧K t u z S')
  (k:∀ t u z S',K t u z S'→WL P w0 S0 opl Q rest (putn l d (e t u z)) S' V):WL P w0 S0 opl Q (⟨d,.call { callee:=.value (.func f),args:=xs.toArray,argTypes:=ats },ty,ps,af,g⟩ :: rest) l S V:=qr hw hx hc fun _ S' h=>by
 obtain⟨t,u,z,rfl,h⟩:=h;exact k t u z S' h
end calls
end rules
end Go.Pt
namespace Go.Pt
theorem E {α:Sort _} {a:α}:a=a:=rfl
theorem aTP {P:Program} {fn:Func} {w0:World} {S0 S:Mem} {R:Value→Mem→Prop} {opl:List Oper} {K:Act→World→Prop} {fuel:Nat} {cs:List (Nat×Cond)} {listed:Array Bool} {l:Fr} {V:Hp} {d:Option Tmp} {op:Op} {ty:TypeId} {ps:String} {af:Array Edge} {g:Option (Nat×Bool)} (i:Nat) {v:Value} (hi:nthL opl i=some ⟨d,op,ty,ps,af,g⟩) (hok:okTake opl listed i=true)
  (hw:wantL opl l g=some true) (hy:Yc P l .tt op v) (k:WA P w0 S0 opl (Exit.then K (bodyPost P fn (FR w0 S0 R))) fuel cs (listed.setIfInBounds i true) (putn l d v) S V):WA P w0 S0 opl (Exit.then K (bodyPost P fn (FR w0 S0 R))) (fuel+1) cs listed l S V:=a_takeP i hi hok (za zd) hw hy k
theorem aT {P:Program} {fn:Func} {w0:World} {S0 S:Mem} {R:Value→Mem→Prop} {opl:List Oper} {K:Act→World→Prop} {fuel:Nat} {cs:List (Nat×Cond)} {listed:Array Bool} {l:Fr} {V:Hp} {d:Option Tmp} {op:Op} {ty:TypeId} {ps:String} {af:Array Edge} {g:Option (Nat×Bool)} (i:Nat) {c:Cond} {v:Value} (hi:nthL opl i=some ⟨d,op,ty,ps,af,g⟩) (hok:okTake opl listed i=true)
  (hw:wantL opl l g=some true) (hy:Yc P l c op v) (hc:HC w0 S0 S V c) (k:WA P w0 S0 opl (Exit.then K (bodyPost P fn (FR w0 S0 R))) fuel ((i,c) :: cs) (listed.setIfInBounds i true) (putn l d v) S V):WA P w0 S0 opl (Exit.then K (bodyPost P fn (FR w0 S0 R))) (fuel+1) cs listed l S V:=qp i hi hok (za zd) hw hy hc k
end Go.Pt
end
section
namespace Go.Proofs.YtabdpmnhjlmnlaaGreatDoor
open Go Go.Pt
instance:ScalarT Tryz.prog 3:=⟨fun _=>by kernel_rfl⟩
instance:SizeT Tryz.prog 3 1:=⟨fun _=>by kernel_rfl⟩
instance:ScalarT Tryz.prog 4:=⟨fun _=>by kernel_rfl⟩
instance:SizeT Tryz.prog 4 1:=⟨fun _=>by kernel_rfl⟩
instance:ScalarT Tryz.prog 5:=⟨fun _=>by kernel_rfl⟩
instance:SizeT Tryz.prog 5 1:=⟨fun _=>by kernel_rfl⟩
instance:ScalarT Tryz.prog 22:=⟨fun _=>by kernel_rfl⟩
instance:SizeT Tryz.prog 22 1:=⟨fun _=>by kernel_rfl⟩
instance:SliceT Tryz.prog 22 5 1:=⟨by kernel_rfl,fun _=>by kernel_rfl⟩
instance:ScalarT Tryz.prog 39:=⟨fun _=>by kernel_rfl⟩
instance:SizeT Tryz.prog 39 1:=⟨fun _=>by kernel_rfl⟩
instance:ArrayT Tryz.prog 40 16 39 1:=⟨by kernel_rfl,fun _=>by kernel_rfl⟩
instance:ScalarT Tryz.prog 41:=⟨fun _=>by kernel_rfl⟩
instance:SizeT Tryz.prog 41 1:=⟨fun _=>by kernel_rfl⟩
instance:AggT Tryz.prog 43 26:=⟨fun _=>by kernel_rfl⟩
instance:SizeT Tryz.prog 43 26:=⟨fun _=>by kernel_rfl⟩
def z43:List Value:=[.int .u64 0,.int .u64 0,.int .u64 0,.int .u64 0,.int .u64 0,.int .u64 0,.int .u64 0,.int .u64 0,.int .u64 0,.int .u64 0,.int .u64 0,.int .u64 0,.int .u64 0,.int .u64 0,.int .u64 0,.int .u64 0,.int .u64 0,.int .u64 0,.int .u64 0,.int .u64 0,.int .u64 0,.int .u64 0,.bool false,.int .u8 0,.int .u32 0,.int .u32 0]
theorem wR:z43.length=26:=by kernel_rfl
instance:ZeroT Tryz.prog 43 z43:=⟨fun _=>⟨valL z43,rfl,by kernel_rfl⟩⟩
instance:FieldT Tryz.prog 43 0 0 40:=⟨⟨_,Tryz.underlying43,_,rfl,rfl,rfl⟩,⟨16,by decide,fun _=>by kernel_rfl⟩⟩
instance:FieldT Tryz.prog 43 1 16 39:=⟨⟨_,Tryz.underlying43,_,rfl,rfl,rfl⟩,⟨1,by decide,fun _=>by kernel_rfl⟩⟩
instance:FieldT Tryz.prog 43 2 17 39:=⟨⟨_,Tryz.underlying43,_,rfl,rfl,rfl⟩,⟨1,by decide,fun _=>by kernel_rfl⟩⟩
instance:FieldT Tryz.prog 43 3 18 39:=⟨⟨_,Tryz.underlying43,_,rfl,rfl,rfl⟩,⟨1,by decide,fun _=>by kernel_rfl⟩⟩
instance:FieldT Tryz.prog 43 4 19 39:=⟨⟨_,Tryz.underlying43,_,rfl,rfl,rfl⟩,⟨1,by decide,fun _=>by kernel_rfl⟩⟩
instance:FieldT Tryz.prog 43 5 20 39:=⟨⟨_,Tryz.underlying43,_,rfl,rfl,rfl⟩,⟨1,by decide,fun _=>by kernel_rfl⟩⟩
instance:FieldT Tryz.prog 43 6 21 39:=⟨⟨_,Tryz.underlying43,_,rfl,rfl,rfl⟩,⟨1,by decide,fun _=>by kernel_rfl⟩⟩
instance:FieldT Tryz.prog 43 7 22 4:=⟨⟨_,Tryz.underlying43,_,rfl,rfl,rfl⟩,⟨1,by decide,fun _=>by kernel_rfl⟩⟩
instance:FieldT Tryz.prog 43 8 23 5:=⟨⟨_,Tryz.underlying43,_,rfl,rfl,rfl⟩,⟨1,by decide,fun _=>by kernel_rfl⟩⟩
instance:FieldT Tryz.prog 43 9 24 41:=⟨⟨_,Tryz.underlying43,_,rfl,rfl,rfl⟩,⟨1,by decide,fun _=>by kernel_rfl⟩⟩
instance:FieldT Tryz.prog 43 10 25 41:=⟨⟨_,Tryz.underlying43,_,rfl,rfl,rfl⟩,⟨1,by decide,fun _=>by kernel_rfl⟩⟩
instance:StructT Tryz.prog 43 (fun i=>(#[(0,16),(16,1),(17,1),(18,1),(19,1),(20,1),(21,1),(22,1),(23,1),(24,1),(25,1)]:Array (Nat×Nat))[i]?) z43:=qC Tryz.underlying43 (fun _=>by kernel_rfl)
instance:AggT Tryz.prog 45 4:=⟨fun _=>by kernel_rfl⟩
instance:SizeT Tryz.prog 45 4:=⟨fun _=>by kernel_rfl⟩
abbrev z45:List Value:=[.int .u8 0,.int .i64 0,.int .u64 0,.int .u64 0]
instance:ZeroT Tryz.prog 45 [.int .u8 0,.int .i64 0,.int .u64 0,.int .u64 0]:=⟨fun _=>⟨valL z45,rfl,by kernel_rfl⟩⟩
instance:StructT Tryz.prog 45 (fun i=>(#[(0,1),(1,1),(2,1),(3,1)]:Array (Nat×Nat))[i]?) [.int .u8 0,.int .i64 0,.int .u64 0,.int .u64 0]:=qC Tryz.underlying45 (fun _=>by kernel_rfl)
instance:AggT Tryz.prog 48 2:=⟨fun _=>by kernel_rfl⟩
instance:SizeT Tryz.prog 48 2:=⟨fun _=>by kernel_rfl⟩
abbrev z48:List Value:=[.int .u8 0,.int .u64 0]
instance:ZeroT Tryz.prog 48 [.int .u8 0,.int .u64 0]:=⟨fun _=>⟨valL z48,rfl,by kernel_rfl⟩⟩
instance:FieldT Tryz.prog 48 0 0 5:=⟨⟨_,Tryz.underlying48,_,rfl,rfl,rfl⟩,⟨1,by decide,fun _=>by kernel_rfl⟩⟩
instance:FieldT Tryz.prog 48 1 1 39:=⟨⟨_,Tryz.underlying48,_,rfl,rfl,rfl⟩,⟨1,by decide,fun _=>by kernel_rfl⟩⟩
instance:StructT Tryz.prog 48 (fun i=>(#[(0,1),(1,1)]:Array (Nat×Nat))[i]?) [.int .u8 0,.int .u64 0]:=qC Tryz.underlying48 (fun _=>by kernel_rfl)
instance:ScalarT Tryz.prog 54:=⟨fun _=>by kernel_rfl⟩
instance:SizeT Tryz.prog 54 1:=⟨fun _=>by kernel_rfl⟩
instance:ScalarT Tryz.prog 58:=⟨fun _=>by kernel_rfl⟩
instance:SizeT Tryz.prog 58 1:=⟨fun _=>by kernel_rfl⟩
instance:SliceT Tryz.prog 58 45 4:=⟨by kernel_rfl,fun _=>by kernel_rfl⟩
instance:ScalarT Tryz.prog 60:=⟨fun _=>by kernel_rfl⟩
instance:SizeT Tryz.prog 60 1:=⟨fun _=>by kernel_rfl⟩
instance:SliceT Tryz.prog 60 43 26:=⟨by kernel_rfl,fun _=>by kernel_rfl⟩
instance:SliceT Tryz.prog 61 3 1:=⟨by kernel_rfl,fun _=>by kernel_rfl⟩
instance:AggT Tryz.prog 64 4:=⟨fun _=>by kernel_rfl⟩
instance:SizeT Tryz.prog 64 4:=⟨fun _=>by kernel_rfl⟩
abbrev z64:List Value:=[.slice none 0 0,.slice none 0 0,.slice none 0 0,.slice none 0 0]
instance:ZeroT Tryz.prog 64 [.slice none 0 0,.slice none 0 0,.slice none 0 0,.slice none 0 0]:=⟨fun _=>⟨valL z64,rfl,by kernel_rfl⟩⟩
instance:ArrayT Tryz.prog 64 4 22 1:=⟨by kernel_rfl,fun _=>by kernel_rfl⟩
instance:AggT Tryz.prog 66 12:=⟨fun _=>by kernel_rfl⟩
instance:SizeT Tryz.prog 66 12:=⟨fun _=>by kernel_rfl⟩
abbrev z66:List Value:=[.bool false,.slice none 0 0,.int .i64 0,.slice none 0 0,.int .i64 0,.int .u64 0,.slice none 0 0,.slice none 0 0,.slice none 0 0,.slice none 0 0,.slice none 0 0,.int .u32 0]
instance:ZeroT Tryz.prog 66 [.bool false,.slice none 0 0,.int .i64 0,.slice none 0 0,.int .i64 0,.int .u64 0,.slice none 0 0,.slice none 0 0,.slice none 0 0,.slice none 0 0,.slice none 0 0,.int .u32 0]:=⟨fun _=>⟨valL z66,rfl,by kernel_rfl⟩⟩
instance:FieldT Tryz.prog 66 0 0 4:=⟨⟨_,Tryz.underlying66,_,rfl,rfl,rfl⟩,⟨1,by decide,fun _=>by kernel_rfl⟩⟩
instance:FieldT Tryz.prog 66 1 1 60:=⟨⟨_,Tryz.underlying66,_,rfl,rfl,rfl⟩,⟨1,by decide,fun _=>by kernel_rfl⟩⟩
instance:FieldT Tryz.prog 66 3 4 3:=⟨⟨_,Tryz.underlying66,_,rfl,rfl,rfl⟩,⟨1,by decide,fun _=>by kernel_rfl⟩⟩
instance:FieldT Tryz.prog 66 5 6 22:=⟨⟨_,Tryz.underlying66,_,rfl,rfl,rfl⟩,⟨1,by decide,fun _=>by kernel_rfl⟩⟩
instance:FieldT Tryz.prog 66 6 7 64:=⟨⟨_,Tryz.underlying66,_,rfl,rfl,rfl⟩,⟨4,by decide,fun _=>by kernel_rfl⟩⟩
instance:FieldT Tryz.prog 66 7 11 41:=⟨⟨_,Tryz.underlying66,_,rfl,rfl,rfl⟩,⟨1,by decide,fun _=>by kernel_rfl⟩⟩
instance:StructT Tryz.prog 66 (fun i=>(#[(0,1),(1,1),(2,2),(4,1),(5,1),(6,1),(7,4),(11,1)]:Array (Nat×Nat))[i]?) [.bool false,.slice none 0 0,.int .i64 0,.slice none 0 0,.int .i64 0,.int .u64 0,.slice none 0 0,.slice none 0 0,.slice none 0 0,.slice none 0 0,.slice none 0 0,.int .u32 0]:=qC Tryz.underlying66 (fun _=>by kernel_rfl)
instance:AggT Tryz.prog 70 6:=⟨fun _=>by kernel_rfl⟩
instance:SizeT Tryz.prog 70 6:=⟨fun _=>by kernel_rfl⟩
abbrev z70:List Value:=[.bool false,.int .i64 0,.int .i64 0,.int .i64 0,.bool false,.int .i64 0]
instance:ZeroT Tryz.prog 70 [.bool false,.int .i64 0,.int .i64 0,.int .i64 0,.bool false,.int .i64 0]:=⟨fun _=>⟨valL z70,rfl,by kernel_rfl⟩⟩
instance:FieldT Tryz.prog 70 0 0 4:=⟨⟨_,Tryz.underlying70,_,rfl,rfl,rfl⟩,⟨1,by decide,fun _=>by kernel_rfl⟩⟩
instance:FieldT Tryz.prog 70 1 1 3:=⟨⟨_,Tryz.underlying70,_,rfl,rfl,rfl⟩,⟨1,by decide,fun _=>by kernel_rfl⟩⟩
instance:FieldT Tryz.prog 70 2 2 3:=⟨⟨_,Tryz.underlying70,_,rfl,rfl,rfl⟩,⟨1,by decide,fun _=>by kernel_rfl⟩⟩
instance:FieldT Tryz.prog 70 3 3 3:=⟨⟨_,Tryz.underlying70,_,rfl,rfl,rfl⟩,⟨1,by decide,fun _=>by kernel_rfl⟩⟩
instance:FieldT Tryz.prog 70 4 4 4:=⟨⟨_,Tryz.underlying70,_,rfl,rfl,rfl⟩,⟨1,by decide,fun _=>by kernel_rfl⟩⟩
instance:FieldT Tryz.prog 70 5 5 3:=⟨⟨_,Tryz.underlying70,_,rfl,rfl,rfl⟩,⟨1,by decide,fun _=>by kernel_rfl⟩⟩
instance:StructT Tryz.prog 70 (fun i=>(#[(0,1),(1,1),(2,1),(3,1),(4,1),(5,1)]:Array (Nat×Nat))[i]?) [.bool false,.int .i64 0,.int .i64 0,.int .i64 0,.bool false,.int .i64 0]:=qC Tryz.underlying70 (fun _=>by kernel_rfl)
instance:AggT Tryz.prog 72 96:=⟨fun _=>by kernel_rfl⟩
instance:SizeT Tryz.prog 72 96:=⟨fun _=>by kernel_rfl⟩
def z72:List Value:=[.bool false,.int .i64 0,.int .i64 0,.int .i64 0,.bool false,.int .i64 0,.bool false,.int .i64 0,.int .i64 0,.int .i64 0,.bool false,.int .i64 0,.bool false,.int .i64 0,.int .i64 0,.int .i64 0,.bool false,.int .i64 0,.bool false,.int .i64 0,.int .i64 0,.int .i64 0,.bool false,.int .i64 0,.bool false,.int .i64 0,.int .i64 0,.int .i64 0,.bool false,.int .i64 0,.bool false,.int .i64 0,.int .i64 0,.int .i64 0,.bool false,.int .i64 0,.bool false,.int .i64 0,.int .i64 0,.int .i64 0,.bool false,.int .i64 0,.bool false,.int .i64 0,.int .i64 0,.int .i64 0,.bool false,.int .i64 0,.bool false,.int .i64 0,.int .i64 0,.int .i64 0,.bool false,.int .i64 0,.bool false,.int .i64 0,.int .i64 0,.int .i64 0,.bool false,.int .i64 0,.bool false,.int .i64 0,.int .i64 0,.int .i64 0,.bool false,.int .i64 0,.bool false,.int .i64 0,.int .i64 0,.int .i64 0,.bool false,.int .i64 0,.bool false,.int .i64 0,.int .i64 0,.int .i64 0,.bool false,.int .i64 0,.bool false,.int .i64 0,.int .i64 0,.int .i64 0,.bool false,.int .i64 0,.bool false,.int .i64 0,.int .i64 0,.int .i64 0,.bool false,.int .i64 0,.bool false,.int .i64 0,.int .i64 0,.int .i64 0,.bool false,.int .i64 0]
theorem qD:z72.length=96:=by kernel_rfl
instance:ZeroT Tryz.prog 72 z72:=⟨fun _=>⟨valL z72,rfl,by kernel_rfl⟩⟩
instance:ArrayT Tryz.prog 72 16 70 6:=⟨by kernel_rfl,fun _=>by kernel_rfl⟩
instance:ArrayT Tryz.prog 84 6 58 1:=⟨by kernel_rfl,fun _=>by kernel_rfl⟩
instance:ScalarT Tryz.prog 117:=⟨fun _=>by kernel_rfl⟩
instance:AggT Tryz.prog 119 3:=⟨fun _=>by kernel_rfl⟩
instance:SizeT Tryz.prog 119 3:=⟨fun _=>by kernel_rfl⟩
abbrev z119:List Value:=[.pointer none,.bool false,.bool false]
instance:ZeroT Tryz.prog 119 [.pointer none,.bool false,.bool false]:=⟨fun _=>⟨valL z119,rfl,by kernel_rfl⟩⟩
instance:FieldT Tryz.prog 119 0 0 117:=⟨⟨_,Tryz.underlying119,_,rfl,rfl,rfl⟩,⟨1,by decide,fun _=>by kernel_rfl⟩⟩
instance:FieldT Tryz.prog 119 1 1 4:=⟨⟨_,Tryz.underlying119,_,rfl,rfl,rfl⟩,⟨1,by decide,fun _=>by kernel_rfl⟩⟩
instance:FieldT Tryz.prog 119 2 2 4:=⟨⟨_,Tryz.underlying119,_,rfl,rfl,rfl⟩,⟨1,by decide,fun _=>by kernel_rfl⟩⟩
instance:StructT Tryz.prog 119 (fun i=>(#[(0,1),(1,1),(2,1)]:Array (Nat×Nat))[i]?) [.pointer none,.bool false,.bool false]:=qC Tryz.underlying119 (fun _=>by kernel_rfl)
instance:AggT Tryz.prog 120 96:=⟨fun _=>by kernel_rfl⟩
instance:SizeT Tryz.prog 120 96:=⟨fun _=>by kernel_rfl⟩
instance:ArrayT Tryz.prog 120 32 119 3:=⟨by kernel_rfl,fun _=>by kernel_rfl⟩
instance:SizeT Tryz.prog 122 109:=⟨fun _=>by kernel_rfl⟩
def z122:List Value:=[.bool false,.slice none 0 0,.int .i64 0,.slice none 0 0,.int .i64 0,.int .u64 0,.slice none 0 0,.slice none 0 0,.slice none 0 0,.slice none 0 0,.slice none 0 0,.int .u32 0,.pointer none,.bool false,.bool false,.pointer none,.bool false,.bool false,.pointer none,.bool false,.bool false,.pointer none,.bool false,.bool false,.pointer none,.bool false,.bool false,.pointer none,.bool false,.bool false,.pointer none,.bool false,.bool false,.pointer none,.bool false,.bool false,.pointer none,.bool false,.bool false,.pointer none,.bool false,.bool false,.pointer none,.bool false,.bool false,.pointer none,.bool false,.bool false,.pointer none,.bool false,.bool false,.pointer none,.bool false,.bool false,.pointer none,.bool false,.bool false,.pointer none,.bool false,.bool false,.pointer none,.bool false,.bool false,.pointer none,.bool false,.bool false,.pointer none,.bool false,.bool false,.pointer none,.bool false,.bool false,.pointer none,.bool false,.bool false,.pointer none,.bool false,.bool false,.pointer none,.bool false,.bool false,.pointer none,.bool false,.bool false,.pointer none,.bool false,.bool false,.pointer none,.bool false,.bool false,.pointer none,.bool false,.bool false,.pointer none,.bool false,.bool false,.pointer none,.bool false,.bool false,.pointer none,.bool false,.bool false,.pointer none,.bool false,.bool false,.pointer none,.bool false,.bool false,.int .u64 0]
theorem zcR:z122.length=109:=by kernel_rfl
instance:ZeroT Tryz.prog 122 z122:=⟨fun _=>⟨valL z122,rfl,by kernel_rfl⟩⟩
instance:FieldT Tryz.prog 122 0 0 66:=⟨⟨_,Tryz.underlying122,_,rfl,rfl,rfl⟩,⟨12,by decide,fun _=>by kernel_rfl⟩⟩
instance:FieldT Tryz.prog 122 1 12 120:=⟨⟨_,Tryz.underlying122,_,rfl,rfl,rfl⟩,⟨96,by decide,fun _=>by kernel_rfl⟩⟩
instance:FieldT Tryz.prog 122 2 108 39:=⟨⟨_,Tryz.underlying122,_,rfl,rfl,rfl⟩,⟨1,by decide,fun _=>by kernel_rfl⟩⟩
instance:StructT Tryz.prog 122 (fun i=>(#[(0,12),(12,96),(108,1)]:Array (Nat×Nat))[i]?) z122:=qC Tryz.underlying122 (fun _=>by kernel_rfl)
instance:ArrayT Tryz.prog 123 6 122 109:=⟨by kernel_rfl,fun _=>by kernel_rfl⟩
instance:ScalarT Tryz.prog 125:=⟨fun _=>by kernel_rfl⟩
instance:SizeT Tryz.prog 125 1:=⟨fun _=>by kernel_rfl⟩
instance:SliceT Tryz.prog 125 193 3:=⟨by kernel_rfl,fun _=>by kernel_rfl⟩
instance:FieldT Tryz.prog 127 0 0 125:=⟨⟨_,Tryz.underlying127,_,rfl,rfl,rfl⟩,⟨1,by decide,fun _=>by kernel_rfl⟩⟩
def z129:List Value:=[.int .u64 0,.int .i64 0,.bool false,.slice none 0 0,.int .i64 0,.slice none 0 0,.int .i64 0,.int .u64 0,.slice none 0 0,.slice none 0 0,.slice none 0 0,.slice none 0 0,.slice none 0 0,.int .u32 0,.pointer none,.bool false,.bool false,.pointer none,.bool false,.bool false,.pointer none,.bool false,.bool false,.pointer none,.bool false,.bool false,.pointer none,.bool false,.bool false,.pointer none,.bool false,.bool false,.pointer none,.bool false,.bool false,.pointer none,.bool false,.bool false,.pointer none,.bool false,.bool false,.pointer none,.bool false,.bool false,.pointer none,.bool false,.bool false,.pointer none,.bool false,.bool false,.pointer none,.bool false,.bool false,.pointer none,.bool false,.bool false,.pointer none,.bool false,.bool false,.pointer none,.bool false,.bool false,.pointer none,.bool false,.bool false,.pointer none,.bool false,.bool false,.pointer none,.bool false,.bool false,.pointer none,.bool false,.bool false,.pointer none,.bool false,.bool false,.pointer none,.bool false,.bool false,.pointer none,.bool false,.bool false,.pointer none,.bool false,.bool false,.pointer none,.bool false,.bool false,.pointer none,.bool false,.bool false,.pointer none,.bool false,.bool false,.pointer none,.bool false,.bool false,.pointer none,.bool false,.bool false,.pointer none,.bool false,.bool false,.pointer none,.bool false,.bool false,.pointer none,.bool false,.bool false,.int .u64 0,.bool false,.slice none 0 0,.int .i64 0,.slice none 0 0,.int .i64 0,.int .u64 0,.slice none 0 0,.slice none 0 0,.slice none 0 0,.slice none 0 0,.slice none 0 0,.int .u32 0,.pointer none,.bool false,.bool false,.pointer none,.bool false,.bool false,.pointer none,.bool false,.bool false,.pointer none,.bool false,.bool false,.pointer none,.bool false,.bool false,.pointer none,.bool false,.bool false,.pointer none,.bool false,.bool false,.pointer none,.bool false,.bool false,.pointer none,.bool false,.bool false,.pointer none,.bool false,.bool false,.pointer none,.bool false,.bool false,.pointer none,.bool false,.bool false,.pointer none,.bool false,.bool false,.pointer none,.bool false,.bool false,.pointer none,.bool false,.bool false,.pointer none,.bool false,.bool false,.pointer none,.bool false,.bool false,.pointer none,.bool false,.bool false,.pointer none,.bool false,.bool false,.pointer none,.bool false,.bool false,.pointer none,.bool false,.bool false,.pointer none,.bool false,.bool false,.pointer none,.bool false,.bool false,.pointer none,.bool false,.bool false,.pointer none,.bool false,.bool false,.pointer none,.bool false,.bool false,.pointer none,.bool false,.bool false,.pointer none,.bool false,.bool false,.pointer none,.bool false,.bool false,.pointer none,.bool false,.bool false,.pointer none,.bool false,.bool false,.pointer none,.bool false,.bool false,.int .u64 0,.bool false,.slice none 0 0,.int .i64 0,.slice none 0 0,.int .i64 0,.int .u64 0,.slice none 0 0,.slice none 0 0,.slice none 0 0,.slice none 0 0,.slice none 0 0,.int .u32 0,.pointer none,.bool false,.bool false,.pointer none,.bool false,.bool false,.pointer none,.bool false,.bool false,.pointer none,.bool false,.bool false,.pointer none,.bool false,.bool false,.pointer none,.bool false,.bool false,.pointer none,.bool false,.bool false,.pointer none,.bool false,.bool false,.pointer none,.bool false,.bool false,.pointer none,.bool false,.bool false,.pointer none,.bool false,.bool false,.pointer none,.bool false,.bool false,.pointer none,.bool false,.bool false,.pointer none,.bool false,.bool false,.pointer none,.bool false,.bool false,.pointer none,.bool false,.bool false,.pointer none,.bool false,.bool false,.pointer none,.bool false,.bool false,.pointer none,.bool false,.bool false,.pointer none,.bool false,.bool false,.pointer none,.bool false,.bool false,.pointer none,.bool false,.bool false,.pointer none,.bool false,.bool false,.pointer none,.bool false,.bool false,.pointer none,.bool false,.bool false,.pointer none,.bool false,.bool false,.pointer none,.bool false,.bool false,.pointer none,.bool false,.bool false,.pointer none,.bool false,.bool false,.pointer none,.bool false,.bool false,.pointer none,.bool false,.bool false,.pointer none,.bool false,.bool false,.int .u64 0,.bool false,.slice none 0 0,.int .i64 0,.slice none 0 0,.int .i64 0,.int .u64 0,.slice none 0 0,.slice none 0 0,.slice none 0 0,.slice none 0 0,.slice none 0 0,.int .u32 0,.pointer none,.bool false,.bool false,.pointer none,.bool false,.bool false,.pointer none,.bool false,.bool false,.pointer none,.bool false,.bool false,.pointer none,.bool false,.bool false,.pointer none,.bool false,.bool false,.pointer none,.bool false,.bool false,.pointer none,.bool false,.bool false,.pointer none,.bool false,.bool false,.pointer none,.bool false,.bool false,.pointer none,.bool false,.bool false,.pointer none,.bool false,.bool false,.pointer none,.bool false,.bool false,.pointer none,.bool false,.bool false,.pointer none,.bool false,.bool false,.pointer none,.bool false,.bool false,.pointer none,.bool false,.bool false,.pointer none,.bool false,.bool false,.pointer none,.bool false,.bool false,.pointer none,.bool false,.bool false,.pointer none,.bool false,.bool false,.pointer none,.bool false,.bool false,.pointer none,.bool false,.bool false,.pointer none,.bool false,.bool false,.pointer none,.bool false,.bool false,.pointer none,.bool false,.bool false,.pointer none,.bool false,.bool false,.pointer none,.bool false,.bool false,.pointer none,.bool false,.bool false,.pointer none,.bool false,.bool false,.pointer none,.bool false,.bool false,.pointer none,.bool false,.bool false,.int .u64 0,.bool false,.slice none 0 0,.int .i64 0,.slice none 0 0,.int .i64 0,.int .u64 0,.slice none 0 0,.slice none 0 0,.slice none 0 0,.slice none 0 0,.slice none 0 0,.int .u32 0,.pointer none,.bool false,.bool false,.pointer none,.bool false,.bool false,.pointer none,.bool false,.bool false,.pointer none,.bool false,.bool false,.pointer none,.bool false,.bool false,.pointer none,.bool false,.bool false,.pointer none,.bool false,.bool false,.pointer none,.bool false,.bool false,.pointer none,.bool false,.bool false,.pointer none,.bool false,.bool false,.pointer none,.bool false,.bool false,.pointer none,.bool false,.bool false,.pointer none,.bool false,.bool false,.pointer none,.bool false,.bool false,.pointer none,.bool false,.bool false,.pointer none,.bool false,.bool false,.pointer none,.bool false,.bool false,.pointer none,.bool false,.bool false,.pointer none,.bool false,.bool false,.pointer none,.bool false,.bool false,.pointer none,.bool false,.bool false,.pointer none,.bool false,.bool false,.pointer none,.bool false,.bool false,.pointer none,.bool false,.bool false,.pointer none,.bool false,.bool false,.pointer none,.bool false,.bool false,.pointer none,.bool false,.bool false,.pointer none,.bool false,.bool false,.pointer none,.bool false,.bool false,.pointer none,.bool false,.bool false,.pointer none,.bool false,.bool false,.pointer none,.bool false,.bool false,.int .u64 0,.bool false,.slice none 0 0,.int .i64 0,.slice none 0 0,.int .i64 0,.int .u64 0,.slice none 0 0,.slice none 0 0,.slice none 0 0,.slice none 0 0,.slice none 0 0,.int .u32 0,.pointer none,.bool false,.bool false,.pointer none,.bool false,.bool false,.pointer none,.bool false,.bool false,.pointer none,.bool false,.bool false,.pointer none,.bool false,.bool false,.pointer none,.bool false,.bool false,.pointer none,.bool false,.bool false,.pointer none,.bool false,.bool false,.pointer none,.bool false,.bool false,.pointer none,.bool false,.bool false,.pointer none,.bool false,.bool false,.pointer none,.bool false,.bool false,.pointer none,.bool false,.bool false,.pointer none,.bool false,.bool false,.pointer none,.bool false,.bool false,.pointer none,.bool false,.bool false,.pointer none,.bool false,.bool false,.pointer none,.bool false,.bool false,.pointer none,.bool false,.bool false,.pointer none,.bool false,.bool false,.pointer none,.bool false,.bool false,.pointer none,.bool false,.bool false,.pointer none,.bool false,.bool false,.pointer none,.bool false,.bool false,.pointer none,.bool false,.bool false,.pointer none,.bool false,.bool false,.pointer none,.bool false,.bool false,.pointer none,.bool false,.bool false,.pointer none,.bool false,.bool false,.pointer none,.bool false,.bool false,.pointer none,.bool false,.bool false,.pointer none,.bool false,.bool false,.int .u64 0,.bool false,.int .i64 0,.int .i64 0,.int .i64 0,.bool false,.int .i64 0,.bool false,.int .i64 0,.int .i64 0,.int .i64 0,.bool false,.int .i64 0,.bool false,.int .i64 0,.int .i64 0,.int .i64 0,.bool false,.int .i64 0,.bool false,.int .i64 0,.int .i64 0,.int .i64 0,.bool false,.int .i64 0,.bool false,.int .i64 0,.int .i64 0,.int .i64 0,.bool false,.int .i64 0,.bool false,.int .i64 0,.int .i64 0,.int .i64 0,.bool false,.int .i64 0,.bool false,.int .i64 0,.int .i64 0,.int .i64 0,.bool false,.int .i64 0,.bool false,.int .i64 0,.int .i64 0,.int .i64 0,.bool false,.int .i64 0,.bool false,.int .i64 0,.int .i64 0,.int .i64 0,.bool false,.int .i64 0,.bool false,.int .i64 0,.int .i64 0,.int .i64 0,.bool false,.int .i64 0,.bool false,.int .i64 0,.int .i64 0,.int .i64 0,.bool false,.int .i64 0,.bool false,.int .i64 0,.int .i64 0,.int .i64 0,.bool false,.int .i64 0,.bool false,.int .i64 0,.int .i64 0,.int .i64 0,.bool false,.int .i64 0,.bool false,.int .i64 0,.int .i64 0,.int .i64 0,.bool false,.int .i64 0,.bool false,.int .i64 0,.int .i64 0,.int .i64 0,.bool false,.int .i64 0,.bool false,.int .i64 0,.int .i64 0,.int .i64 0,.bool false,.int .i64 0,.slice none 0 0,.slice none 0 0,.slice none 0 0,.slice none 0 0,.slice none 0 0,.slice none 0 0,.slice none 0 0]
theorem zih:z129.length=759:=by kernel_rfl
instance:ZeroT Tryz.prog 129 z129:=⟨fun _=>⟨valL z129,rfl,by kernel_rfl⟩⟩
instance:FieldT Tryz.prog 129 0 0 39:=⟨⟨_,Tryz.underlying129,_,rfl,rfl,rfl⟩,⟨1,by decide,fun _=>by kernel_rfl⟩⟩
instance:FieldT Tryz.prog 129 1 1 3:=⟨⟨_,Tryz.underlying129,_,rfl,rfl,rfl⟩,⟨1,by decide,fun _=>by kernel_rfl⟩⟩
instance:FieldT Tryz.prog 129 2 2 123:=⟨⟨_,Tryz.underlying129,_,rfl,rfl,rfl⟩,⟨654,by decide,fun _=>by kernel_rfl⟩⟩
instance:FieldT Tryz.prog 129 3 656 72:=⟨⟨_,Tryz.underlying129,_,rfl,rfl,rfl⟩,⟨96,by decide,fun _=>by kernel_rfl⟩⟩
instance:FieldT Tryz.prog 129 4 752 127:=⟨⟨_,Tryz.underlying129,_,rfl,rfl,rfl⟩,⟨1,by decide,fun _=>by kernel_rfl⟩⟩
instance:FieldT Tryz.prog 129 5 753 84:=⟨⟨_,Tryz.underlying129,_,rfl,rfl,rfl⟩,⟨6,by decide,fun _=>by kernel_rfl⟩⟩
instance:StructT Tryz.prog 129 (fun i=>(#[(0,1),(1,1),(2,654),(656,96),(752,1),(753,6)]:Array (Nat×Nat))[i]?) z129:=qC Tryz.underlying129 (fun _=>by kernel_rfl)
instance:ArrayT Tryz.prog 130 6 4 1:=⟨by kernel_rfl,fun _=>by kernel_rfl⟩
instance:ScalarT Tryz.prog 131:=⟨fun _=>by kernel_rfl⟩
instance:ArrayT Tryz.prog 132 32 4 1:=⟨by kernel_rfl,fun _=>by kernel_rfl⟩
instance:ArrayT Tryz.prog 133 3 4 1:=⟨by kernel_rfl,fun _=>by kernel_rfl⟩
instance:ArrayT Tryz.prog 134 3 39 1:=⟨by kernel_rfl,fun _=>by kernel_rfl⟩
instance:AggT Tryz.prog 136 54:=⟨fun _=>by kernel_rfl⟩
instance:SizeT Tryz.prog 136 54:=⟨fun _=>by kernel_rfl⟩
def z136:List Value:=[.bool false,.slice none 0 0,.int .i64 0,.int .u64 0,.slice none 0 0,.slice none 0 0,.slice none 0 0,.slice none 0 0,.slice none 0 0,.bool false,.bool false,.bool false,.bool false,.bool false,.bool false,.pointer none,.bool false,.bool false,.bool false,.bool false,.bool false,.bool false,.bool false,.bool false,.bool false,.bool false,.bool false,.bool false,.bool false,.bool false,.bool false,.bool false,.bool false,.bool false,.bool false,.bool false,.bool false,.bool false,.bool false,.bool false,.bool false,.bool false,.bool false,.bool false,.bool false,.bool false,.bool false,.bool false,.bool false,.bool false,.bool false,.int .u64 0,.int .u64 0,.int .u64 0]
theorem zfi:z136.length=54:=by kernel_rfl
instance:ZeroT Tryz.prog 136 z136:=⟨fun _=>⟨valL z136,rfl,by kernel_rfl⟩⟩
instance:FieldT Tryz.prog 136 0 0 4:=⟨⟨_,Tryz.underlying136,_,rfl,rfl,rfl⟩,⟨1,by decide,fun _=>by kernel_rfl⟩⟩
instance:FieldT Tryz.prog 136 1 1 60:=⟨⟨_,Tryz.underlying136,_,rfl,rfl,rfl⟩,⟨1,by decide,fun _=>by kernel_rfl⟩⟩
instance:FieldT Tryz.prog 136 2 2 3:=⟨⟨_,Tryz.underlying136,_,rfl,rfl,rfl⟩,⟨1,by decide,fun _=>by kernel_rfl⟩⟩
instance:FieldT Tryz.prog 136 3 3 39:=⟨⟨_,Tryz.underlying136,_,rfl,rfl,rfl⟩,⟨1,by decide,fun _=>by kernel_rfl⟩⟩
instance:FieldT Tryz.prog 136 4 4 22:=⟨⟨_,Tryz.underlying136,_,rfl,rfl,rfl⟩,⟨1,by decide,fun _=>by kernel_rfl⟩⟩
instance:FieldT Tryz.prog 136 5 5 64:=⟨⟨_,Tryz.underlying136,_,rfl,rfl,rfl⟩,⟨4,by decide,fun _=>by kernel_rfl⟩⟩
instance:FieldT Tryz.prog 136 6 9 130:=⟨⟨_,Tryz.underlying136,_,rfl,rfl,rfl⟩,⟨6,by decide,fun _=>by kernel_rfl⟩⟩
instance:FieldT Tryz.prog 136 7 15 131:=⟨⟨_,Tryz.underlying136,_,rfl,rfl,rfl⟩,⟨1,by decide,fun _=>by kernel_rfl⟩⟩
instance:FieldT Tryz.prog 136 8 16 132:=⟨⟨_,Tryz.underlying136,_,rfl,rfl,rfl⟩,⟨32,by decide,fun _=>by kernel_rfl⟩⟩
instance:FieldT Tryz.prog 136 9 48 133:=⟨⟨_,Tryz.underlying136,_,rfl,rfl,rfl⟩,⟨3,by decide,fun _=>by kernel_rfl⟩⟩
instance:FieldT Tryz.prog 136 10 51 134:=⟨⟨_,Tryz.underlying136,_,rfl,rfl,rfl⟩,⟨3,by decide,fun _=>by kernel_rfl⟩⟩
instance:StructT Tryz.prog 136 (fun i=>(#[(0,1),(1,1),(2,1),(3,1),(4,1),(5,4),(9,6),(15,1),(16,32),(48,3),(51,3)]:Array (Nat×Nat))[i]?) z136:=qC Tryz.underlying136 (fun _=>by kernel_rfl)
instance:ArrayT Tryz.prog 137 6 136 54:=⟨by kernel_rfl,fun _=>by kernel_rfl⟩
instance:AggT Tryz.prog 138 6:=⟨fun _=>by kernel_rfl⟩
instance:SizeT Tryz.prog 138 6:=⟨fun _=>by kernel_rfl⟩
abbrev z138:List Value:=[.bool false,.int .i64 0,.int .i64 0,.int .i64 0,.bool false,.int .i64 0]
instance:ZeroT Tryz.prog 138 [.bool false,.int .i64 0,.int .i64 0,.int .i64 0,.bool false,.int .i64 0]:=⟨fun _=>⟨valL z138,rfl,by kernel_rfl⟩⟩
instance:FieldT Tryz.prog 138 0 0 4:=⟨⟨_,Tryz.underlying138,_,rfl,rfl,rfl⟩,⟨1,by decide,fun _=>by kernel_rfl⟩⟩
instance:FieldT Tryz.prog 138 1 1 3:=⟨⟨_,Tryz.underlying138,_,rfl,rfl,rfl⟩,⟨1,by decide,fun _=>by kernel_rfl⟩⟩
instance:FieldT Tryz.prog 138 2 2 3:=⟨⟨_,Tryz.underlying138,_,rfl,rfl,rfl⟩,⟨1,by decide,fun _=>by kernel_rfl⟩⟩
instance:FieldT Tryz.prog 138 3 3 3:=⟨⟨_,Tryz.underlying138,_,rfl,rfl,rfl⟩,⟨1,by decide,fun _=>by kernel_rfl⟩⟩
instance:FieldT Tryz.prog 138 4 4 4:=⟨⟨_,Tryz.underlying138,_,rfl,rfl,rfl⟩,⟨1,by decide,fun _=>by kernel_rfl⟩⟩
instance:FieldT Tryz.prog 138 5 5 3:=⟨⟨_,Tryz.underlying138,_,rfl,rfl,rfl⟩,⟨1,by decide,fun _=>by kernel_rfl⟩⟩
instance:StructT Tryz.prog 138 (fun i=>(#[(0,1),(1,1),(2,1),(3,1),(4,1),(5,1)]:Array (Nat×Nat))[i]?) [.bool false,.int .i64 0,.int .i64 0,.int .i64 0,.bool false,.int .i64 0]:=qC Tryz.underlying138 (fun _=>by kernel_rfl)
instance:ArrayT Tryz.prog 139 16 138 6:=⟨by kernel_rfl,fun _=>by kernel_rfl⟩
def z141:List Value:=[.int .u64 0,.int .i64 0,.bool false,.slice none 0 0,.int .i64 0,.int .u64 0,.slice none 0 0,.slice none 0 0,.slice none 0 0,.slice none 0 0,.slice none 0 0,.bool false,.bool false,.bool false,.bool false,.bool false,.bool false,.pointer none,.bool false,.bool false,.bool false,.bool false,.bool false,.bool false,.bool false,.bool false,.bool false,.bool false,.bool false,.bool false,.bool false,.bool false,.bool false,.bool false,.bool false,.bool false,.bool false,.bool false,.bool false,.bool false,.bool false,.bool false,.bool false,.bool false,.bool false,.bool false,.bool false,.bool false,.bool false,.bool false,.bool false,.bool false,.bool false,.int .u64 0,.int .u64 0,.int .u64 0,.bool false,.slice none 0 0,.int .i64 0,.int .u64 0,.slice none 0 0,.slice none 0 0,.slice none 0 0,.slice none 0 0,.slice none 0 0,.bool false,.bool false,.bool false,.bool false,.bool false,.bool false,.pointer none,.bool false,.bool false,.bool false,.bool false,.bool false,.bool false,.bool false,.bool false,.bool false,.bool false,.bool false,.bool false,.bool false,.bool false,.bool false,.bool false,.bool false,.bool false,.bool false,.bool false,.bool false,.bool false,.bool false,.bool false,.bool false,.bool false,.bool false,.bool false,.bool false,.bool false,.bool false,.bool false,.bool false,.bool false,.bool false,.int .u64 0,.int .u64 0,.int .u64 0,.bool false,.slice none 0 0,.int .i64 0,.int .u64 0,.slice none 0 0,.slice none 0 0,.slice none 0 0,.slice none 0 0,.slice none 0 0,.bool false,.bool false,.bool false,.bool false,.bool false,.bool false,.pointer none,.bool false,.bool false,.bool false,.bool false,.bool false,.bool false,.bool false,.bool false,.bool false,.bool false,.bool false,.bool false,.bool false,.bool false,.bool false,.bool false,.bool false,.bool false,.bool false,.bool false,.bool false,.bool false,.bool false,.bool false,.bool false,.bool false,.bool false,.bool false,.bool false,.bool false,.bool false,.bool false,.bool false,.bool false,.bool false,.int .u64 0,.int .u64 0,.int .u64 0,.bool false,.slice none 0 0,.int .i64 0,.int .u64 0,.slice none 0 0,.slice none 0 0,.slice none 0 0,.slice none 0 0,.slice none 0 0,.bool false,.bool false,.bool false,.bool false,.bool false,.bool false,.pointer none,.bool false,.bool false,.bool false,.bool false,.bool false,.bool false,.bool false,.bool false,.bool false,.bool false,.bool false,.bool false,.bool false,.bool false,.bool false,.bool false,.bool false,.bool false,.bool false,.bool false,.bool false,.bool false,.bool false,.bool false,.bool false,.bool false,.bool false,.bool false,.bool false,.bool false,.bool false,.bool false,.bool false,.bool false,.bool false,.int .u64 0,.int .u64 0,.int .u64 0,.bool false,.slice none 0 0,.int .i64 0,.int .u64 0,.slice none 0 0,.slice none 0 0,.slice none 0 0,.slice none 0 0,.slice none 0 0,.bool false,.bool false,.bool false,.bool false,.bool false,.bool false,.pointer none,.bool false,.bool false,.bool false,.bool false,.bool false,.bool false,.bool false,.bool false,.bool false,.bool false,.bool false,.bool false,.bool false,.bool false,.bool false,.bool false,.bool false,.bool false,.bool false,.bool false,.bool false,.bool false,.bool false,.bool false,.bool false,.bool false,.bool false,.bool false,.bool false,.bool false,.bool false,.bool false,.bool false,.bool false,.bool false,.int .u64 0,.int .u64 0,.int .u64 0,.bool false,.slice none 0 0,.int .i64 0,.int .u64 0,.slice none 0 0,.slice none 0 0,.slice none 0 0,.slice none 0 0,.slice none 0 0,.bool false,.bool false,.bool false,.bool false,.bool false,.bool false,.pointer none,.bool false,.bool false,.bool false,.bool false,.bool false,.bool false,.bool false,.bool false,.bool false,.bool false,.bool false,.bool false,.bool false,.bool false,.bool false,.bool false,.bool false,.bool false,.bool false,.bool false,.bool false,.bool false,.bool false,.bool false,.bool false,.bool false,.bool false,.bool false,.bool false,.bool false,.bool false,.bool false,.bool false,.bool false,.bool false,.int .u64 0,.int .u64 0,.int .u64 0,.bool false,.int .i64 0,.int .i64 0,.int .i64 0,.bool false,.int .i64 0,.bool false,.int .i64 0,.int .i64 0,.int .i64 0,.bool false,.int .i64 0,.bool false,.int .i64 0,.int .i64 0,.int .i64 0,.bool false,.int .i64 0,.bool false,.int .i64 0,.int .i64 0,.int .i64 0,.bool false,.int .i64 0,.bool false,.int .i64 0,.int .i64 0,.int .i64 0,.bool false,.int .i64 0,.bool false,.int .i64 0,.int .i64 0,.int .i64 0,.bool false,.int .i64 0,.bool false,.int .i64 0,.int .i64 0,.int .i64 0,.bool false,.int .i64 0,.bool false,.int .i64 0,.int .i64 0,.int .i64 0,.bool false,.int .i64 0,.bool false,.int .i64 0,.int .i64 0,.int .i64 0,.bool false,.int .i64 0,.bool false,.int .i64 0,.int .i64 0,.int .i64 0,.bool false,.int .i64 0,.bool false,.int .i64 0,.int .i64 0,.int .i64 0,.bool false,.int .i64 0,.bool false,.int .i64 0,.int .i64 0,.int .i64 0,.bool false,.int .i64 0,.bool false,.int .i64 0,.int .i64 0,.int .i64 0,.bool false,.int .i64 0,.bool false,.int .i64 0,.int .i64 0,.int .i64 0,.bool false,.int .i64 0,.bool false,.int .i64 0,.int .i64 0,.int .i64 0,.bool false,.int .i64 0,.bool false,.int .i64 0,.int .i64 0,.int .i64 0,.bool false,.int .i64 0,.slice none 0 0,.slice none 0 0,.slice none 0 0,.slice none 0 0,.slice none 0 0,.slice none 0 0]
theorem zig:z141.length=428:=by kernel_rfl
instance:ZeroT Tryz.prog 141 z141:=⟨fun _=>⟨valL z141,rfl,by kernel_rfl⟩⟩
instance:FieldT Tryz.prog 141 0 0 39:=⟨⟨_,Tryz.underlying141,_,rfl,rfl,rfl⟩,⟨1,by decide,fun _=>by kernel_rfl⟩⟩
instance:FieldT Tryz.prog 141 1 1 3:=⟨⟨_,Tryz.underlying141,_,rfl,rfl,rfl⟩,⟨1,by decide,fun _=>by kernel_rfl⟩⟩
instance:FieldT Tryz.prog 141 2 2 137:=⟨⟨_,Tryz.underlying141,_,rfl,rfl,rfl⟩,⟨324,by decide,fun _=>by kernel_rfl⟩⟩
instance:FieldT Tryz.prog 141 3 326 139:=⟨⟨_,Tryz.underlying141,_,rfl,rfl,rfl⟩,⟨96,by decide,fun _=>by kernel_rfl⟩⟩
instance:FieldT Tryz.prog 141 4 422 84:=⟨⟨_,Tryz.underlying141,_,rfl,rfl,rfl⟩,⟨6,by decide,fun _=>by kernel_rfl⟩⟩
instance:StructT Tryz.prog 141 (fun i=>(#[(0,1),(1,1),(2,324),(326,96),(422,6)]:Array (Nat×Nat))[i]?) z141:=qC Tryz.underlying141 (fun _=>by kernel_rfl)
def z145:List Value:=[.int .u8 0,.int .u8 0,.int .u8 0,.int .u8 0,.int .u8 0,.int .u8 0,.int .u8 0,.int .u8 0,.int .u8 0,.int .u8 0,.int .u8 0,.int .u8 0,.int .u8 0,.int .u8 0,.int .u8 0,.int .u8 0,.int .u8 0,.int .u8 0,.int .u8 0,.int .u8 0,.int .u8 0,.int .u8 0,.int .u8 0,.int .u8 0,.int .u8 0,.int .u8 0,.int .u8 0,.int .u8 0,.int .u8 0,.int .u8 0,.int .u8 0,.int .u8 0,.int .u8 0,.int .u8 0,.int .u8 0,.int .u8 0,.int .u8 0,.int .u8 0,.int .u8 0,.int .u8 0,.int .u8 0,.int .u8 0,.int .u8 0,.int .u8 0,.int .u8 0,.int .u8 0,.int .u8 0,.int .u8 0,.int .u8 0,.int .u8 0,.int .u8 0,.int .u8 0,.int .u8 0,.int .u8 0,.int .u8 0,.int .u8 0,.int .u8 0,.int .u8 0,.int .u8 0,.int .u8 0,.int .u8 0,.int .u8 0,.int .u8 0,.int .u8 0,.int .u8 0,.int .u8 0,.int .u8 0,.int .u8 0,.int .u8 0,.int .u8 0,.int .u8 0,.int .u8 0,.int .u8 0,.int .u8 0,.int .u8 0,.int .u8 0,.int .u8 0,.int .u8 0,.int .u8 0,.int .u8 0,.int .u8 0,.int .u8 0,.int .u8 0,.int .u8 0,.int .u8 0,.int .u8 0,.int .u8 0,.int .u8 0,.int .u8 0,.int .u8 0,.int .u8 0,.int .u8 0,.int .u8 0,.int .u8 0,.int .u8 0,.int .u8 0,.int .u8 0,.int .u8 0,.int .u8 0,.int .u8 0,.int .u8 0,.int .u8 0,.int .u8 0,.int .u8 0,.int .u8 0,.int .u8 0,.int .u8 0,.int .u8 0,.int .u8 0,.int .u8 0,.int .u8 0,.int .u8 0,.int .u8 0,.int .u8 0,.int .u8 0,.int .u8 0,.int .u8 0,.int .u8 0,.int .u8 0,.int .u8 0,.int .u8 0,.int .u8 0,.int .u8 0,.int .u8 0,.int .u8 0,.int .u8 0,.int .u8 0,.int .u8 0,.int .u8 0,.int .u8 0,.int .u8 0,.int .u8 0,.int .u8 0,.int .u8 0,.int .u8 0,.int .u8 0,.int .u8 0,.int .u8 0,.int .u8 0,.int .u8 0,.int .u8 0,.int .u8 0,.int .u8 0,.int .u8 0,.int .u8 0,.int .u8 0,.int .u8 0,.int .u8 0,.int .u8 0,.int .u8 0,.int .u8 0,.int .u8 0,.int .u8 0,.int .u8 0,.int .u8 0,.int .u8 0,.int .u8 0,.int .u8 0,.int .u8 0,.int .u8 0,.int .u8 0,.int .u8 0,.int .u8 0,.int .u8 0,.int .u8 0,.int .u8 0,.int .u8 0,.int .u8 0,.int .u8 0,.int .u8 0,.int .u8 0,.int .u8 0,.int .u8 0,.int .u8 0,.int .u8 0,.int .u8 0,.int .u8 0,.int .u8 0,.int .u8 0,.int .u8 0,.int .u8 0,.int .u8 0,.int .u8 0,.int .u8 0,.int .u8 0,.int .u8 0,.int .u8 0,.int .u8 0,.int .u8 0,.int .u8 0,.int .u8 0,.int .u8 0,.int .u8 0,.int .u8 0,.int .u8 0,.int .u8 0,.int .u8 0,.int .u8 0,.int .u8 0,.int .u8 0,.int .u8 0,.int .u8 0,.int .u8 0,.int .u8 0,.int .u8 0,.int .u8 0,.int .u8 0,.int .u8 0,.int .u8 0,.int .u8 0,.int .u8 0,.int .u8 0,.int .u8 0,.int .u8 0,.int .u8 0,.int .u8 0,.int .u8 0,.int .u8 0,.int .u8 0,.int .u8 0,.int .u8 0,.int .u8 0,.int .u8 0,.int .u8 0,.int .u8 0,.int .u8 0,.int .u8 0,.int .u8 0,.int .u8 0,.int .u8 0,.int .u8 0,.int .u8 0,.int .u8 0,.int .u8 0,.int .u8 0,.int .u8 0,.int .u8 0,.int .u8 0,.int .u8 0,.int .u8 0,.int .u8 0,.int .u8 0,.int .u8 0,.int .u8 0,.int .u8 0,.int .u8 0,.int .u8 0,.int .u8 0,.int .u8 0,.int .u8 0,.int .u8 0,.int .u8 0,.int .u8 0,.int .u8 0,.int .u8 0,.int .u8 0]
instance:ZeroT Tryz.prog 145 z145:=⟨fun _=>⟨valL z145,rfl,by kernel_rfl⟩⟩
instance:ArrayT Tryz.prog 145 256 5 1:=⟨by kernel_rfl,fun _=>by kernel_rfl⟩
instance:StructT Tryz.prog 145 (fun i=>some (i*1,1)) z145:=zeo (n:=256) (e:=5) (by kernel_rfl) (fun _=>by kernel_rfl)
instance:ArrayT Tryz.prog 146 32 22 1:=⟨by kernel_rfl,fun _=>by kernel_rfl⟩
def z148:List Value:=[.slice none 0 0,.slice none 0 0,.slice none 0 0,.slice none 0 0,.slice none 0 0,.slice none 0 0,.slice none 0 0,.slice none 0 0,.slice none 0 0,.slice none 0 0,.slice none 0 0,.slice none 0 0,.slice none 0 0,.slice none 0 0,.slice none 0 0,.slice none 0 0,.slice none 0 0,.slice none 0 0,.slice none 0 0,.slice none 0 0,.slice none 0 0,.slice none 0 0,.slice none 0 0,.slice none 0 0,.slice none 0 0,.slice none 0 0,.slice none 0 0,.slice none 0 0,.slice none 0 0,.slice none 0 0,.slice none 0 0,.slice none 0 0,.bool false,.bool false,.bool false,.bool false,.bool false,.bool false,.bool false,.bool false,.bool false,.bool false,.bool false,.bool false,.bool false,.bool false,.bool false,.bool false,.bool false,.bool false,.bool false,.bool false,.bool false,.bool false,.bool false,.bool false,.bool false,.bool false,.bool false,.bool false,.bool false,.bool false,.bool false,.bool false]
instance:ZeroT Tryz.prog 148 z148:=⟨fun _=>⟨valL z148,rfl,by kernel_rfl⟩⟩
instance:FieldT Tryz.prog 148 0 0 146:=⟨⟨_,Tryz.underlying148,_,rfl,rfl,rfl⟩,⟨32,by decide,fun _=>by kernel_rfl⟩⟩
instance:FieldT Tryz.prog 148 1 32 132:=⟨⟨_,Tryz.underlying148,_,rfl,rfl,rfl⟩,⟨32,by decide,fun _=>by kernel_rfl⟩⟩
instance:StructT Tryz.prog 148 (fun i=>(#[(0,32),(32,32)]:Array (Nat×Nat))[i]?) z148:=qC Tryz.underlying148 (fun _=>by kernel_rfl)
instance:ScalarT Tryz.prog 150:=⟨fun _=>by kernel_rfl⟩
instance:AggT Tryz.prog 193 3:=⟨fun _=>by kernel_rfl⟩
instance:SizeT Tryz.prog 193 3:=⟨fun _=>by kernel_rfl⟩
abbrev z193:List Value:=[.int .u64 0,.int .i64 0,.int .i64 0]
instance:ZeroT Tryz.prog 193 [.int .u64 0,.int .i64 0,.int .i64 0]:=⟨fun _=>⟨valL z193,rfl,by kernel_rfl⟩⟩
instance:FieldT Tryz.prog 193 0 0 39:=⟨⟨_,Tryz.underlying193,_,rfl,rfl,rfl⟩,⟨1,by decide,fun _=>by kernel_rfl⟩⟩
instance:FieldT Tryz.prog 193 1 1 3:=⟨⟨_,Tryz.underlying193,_,rfl,rfl,rfl⟩,⟨1,by decide,fun _=>by kernel_rfl⟩⟩
instance:FieldT Tryz.prog 193 2 2 3:=⟨⟨_,Tryz.underlying193,_,rfl,rfl,rfl⟩,⟨1,by decide,fun _=>by kernel_rfl⟩⟩
instance:StructT Tryz.prog 193 (fun i=>(#[(0,1),(1,1),(2,1)]:Array (Nat×Nat))[i]?) [.int .u64 0,.int .i64 0,.int .i64 0]:=qC Tryz.underlying193 (fun _=>by kernel_rfl)
instance:ScalarT Tryz.prog 222:=⟨fun _=>by kernel_rfl⟩
instance:AggT Tryz.prog 224 4:=⟨fun _=>by kernel_rfl⟩
instance:SizeT Tryz.prog 224 4:=⟨fun _=>by kernel_rfl⟩
abbrev z224:List Value:=[.pointer none,.nilIface,.int .u64 0,.int .i64 0]
instance:ZeroT Tryz.prog 224 [.pointer none,.nilIface,.int .u64 0,.int .i64 0]:=⟨fun _=>⟨valL z224,rfl,by kernel_rfl⟩⟩
instance:FieldT Tryz.prog 224 0 0 150:=⟨⟨_,Tryz.underlying224,_,rfl,rfl,rfl⟩,⟨1,by decide,fun _=>by kernel_rfl⟩⟩
instance:FieldT Tryz.prog 224 1 1 222:=⟨⟨_,Tryz.underlying224,_,rfl,rfl,rfl⟩,⟨1,by decide,fun _=>by kernel_rfl⟩⟩
instance:FieldT Tryz.prog 224 2 2 39:=⟨⟨_,Tryz.underlying224,_,rfl,rfl,rfl⟩,⟨1,by decide,fun _=>by kernel_rfl⟩⟩
instance:FieldT Tryz.prog 224 3 3 3:=⟨⟨_,Tryz.underlying224,_,rfl,rfl,rfl⟩,⟨1,by decide,fun _=>by kernel_rfl⟩⟩
instance:StructT Tryz.prog 224 (fun i=>(#[(0,1),(1,1),(2,1),(3,1)]:Array (Nat×Nat))[i]?) [.pointer none,.nilIface,.int .u64 0,.int .i64 0]:=qC Tryz.underlying224 (fun _=>by kernel_rfl)
instance:AggT Tryz.prog 231 5:=⟨fun _=>by kernel_rfl⟩
instance:SizeT Tryz.prog 231 5:=⟨fun _=>by kernel_rfl⟩
abbrev z231:List Value:=[.int .u8 0,.int .u8 0,.int .u8 0,.int .u8 0,.int .i16 0]
instance:ZeroT Tryz.prog 231 [.int .u8 0,.int .u8 0,.int .u8 0,.int .u8 0,.int .i16 0]:=⟨fun _=>⟨valL z231,rfl,by kernel_rfl⟩⟩
instance:FieldT Tryz.prog 231 0 0 5:=⟨⟨_,Tryz.underlying231,_,rfl,rfl,rfl⟩,⟨1,by decide,fun _=>by kernel_rfl⟩⟩
instance:FieldT Tryz.prog 231 1 1 5:=⟨⟨_,Tryz.underlying231,_,rfl,rfl,rfl⟩,⟨1,by decide,fun _=>by kernel_rfl⟩⟩
instance:FieldT Tryz.prog 231 2 2 5:=⟨⟨_,Tryz.underlying231,_,rfl,rfl,rfl⟩,⟨1,by decide,fun _=>by kernel_rfl⟩⟩
instance:FieldT Tryz.prog 231 3 3 5:=⟨⟨_,Tryz.underlying231,_,rfl,rfl,rfl⟩,⟨1,by decide,fun _=>by kernel_rfl⟩⟩
instance:FieldT Tryz.prog 231 4 4 54:=⟨⟨_,Tryz.underlying231,_,rfl,rfl,rfl⟩,⟨1,by decide,fun _=>by kernel_rfl⟩⟩
instance:StructT Tryz.prog 231 (fun i=>(#[(0,1),(1,1),(2,1),(3,1),(4,1)]:Array (Nat×Nat))[i]?) [.int .u8 0,.int .u8 0,.int .u8 0,.int .u8 0,.int .i16 0]:=qC Tryz.underlying231 (fun _=>by kernel_rfl)
instance:ScalarT Tryz.prog 235:=⟨fun _=>by kernel_rfl⟩
instance:SliceT Tryz.prog 243 39 1:=⟨by kernel_rfl,fun _=>by kernel_rfl⟩
instance:AggT Tryz.prog 292 4:=⟨fun _=>by kernel_rfl⟩
instance:SizeT Tryz.prog 292 4:=⟨fun _=>by kernel_rfl⟩
abbrev z292:List Value:=[.bool false,.bool false,.bool false,.bool false]
instance:ZeroT Tryz.prog 292 [.bool false,.bool false,.bool false,.bool false]:=⟨fun _=>⟨valL z292,rfl,by kernel_rfl⟩⟩
instance:FieldT Tryz.prog 292 0 0 4:=⟨⟨_,Tryz.underlying292,_,rfl,rfl,rfl⟩,⟨1,by decide,fun _=>by kernel_rfl⟩⟩
instance:FieldT Tryz.prog 292 1 1 4:=⟨⟨_,Tryz.underlying292,_,rfl,rfl,rfl⟩,⟨1,by decide,fun _=>by kernel_rfl⟩⟩
instance:FieldT Tryz.prog 292 2 2 4:=⟨⟨_,Tryz.underlying292,_,rfl,rfl,rfl⟩,⟨1,by decide,fun _=>by kernel_rfl⟩⟩
instance:FieldT Tryz.prog 292 3 3 4:=⟨⟨_,Tryz.underlying292,_,rfl,rfl,rfl⟩,⟨1,by decide,fun _=>by kernel_rfl⟩⟩
instance:StructT Tryz.prog 292 (fun i=>(#[(0,1),(1,1),(2,1),(3,1)]:Array (Nat×Nat))[i]?) [.bool false,.bool false,.bool false,.bool false]:=qC Tryz.underlying292 (fun _=>by kernel_rfl)
instance:SizeT Tryz.prog 301 14:=⟨fun _=>by kernel_rfl⟩
abbrev z301:List Value:=[.nilFunc,.nilFunc,.nilFunc,.nilFunc,.nilFunc,.nilFunc,.nilFunc,.nilFunc,.nilFunc,.nilFunc,.nilFunc,.nilFunc,.nilFunc,.nilFunc]
instance:ZeroT Tryz.prog 301 [.nilFunc,.nilFunc,.nilFunc,.nilFunc,.nilFunc,.nilFunc,.nilFunc,.nilFunc,.nilFunc,.nilFunc,.nilFunc,.nilFunc,.nilFunc,.nilFunc]:=⟨fun _=>⟨valL z301,rfl,by kernel_rfl⟩⟩
instance:ArrayT Tryz.prog 301 14 235 1:=⟨by kernel_rfl,fun _=>by kernel_rfl⟩
instance:StructT Tryz.prog 301 (fun i=>some (i*1,1)) [.nilFunc,.nilFunc,.nilFunc,.nilFunc,.nilFunc,.nilFunc,.nilFunc,.nilFunc,.nilFunc,.nilFunc,.nilFunc,.nilFunc,.nilFunc,.nilFunc]:=zeo (n:=14) (e:=235) (by kernel_rfl) (fun _=>by kernel_rfl)
instance:ArrayT Tryz.prog 337 64 5 1:=⟨by kernel_rfl,fun _=>by kernel_rfl⟩
instance:IntT Tryz.prog 2 .i64:=⟨by kernel_rfl⟩
instance:IntT Tryz.prog 3 .i64:=⟨by kernel_rfl⟩
instance:IntT Tryz.prog 5 .u8:=⟨by kernel_rfl⟩
instance:PtrT Tryz.prog 24:=⟨⟨129,by kernel_rfl⟩⟩
instance:IntT Tryz.prog 39 .u64:=⟨by kernel_rfl⟩
instance:IntT Tryz.prog 41 .u32:=⟨by kernel_rfl⟩
instance:IntT Tryz.prog 54 .i16:=⟨by kernel_rfl⟩
instance:IntT Tryz.prog 57 .u64:=⟨by kernel_rfl⟩
instance:PtrT Tryz.prog 73:=⟨⟨127,by kernel_rfl⟩⟩
instance:PtrT Tryz.prog 117:=⟨⟨145,by kernel_rfl⟩⟩
instance:PtrT Tryz.prog 150:=⟨⟨43,by kernel_rfl⟩⟩
instance:NotIface Tryz.prog 154:=⟨⟨.pointer 122,by kernel_rfl,rfl⟩⟩
instance : MethP Tryz.prog 154 "Load" 228 := ⟨fun _ _ => by kernel_rfl⟩
instance : MethP Tryz.prog 154 "Save" 227 := ⟨fun _ _ => by kernel_rfl⟩
instance:IntT Tryz.prog 166 .u16:=⟨by kernel_rfl⟩
instance:NotIface Tryz.prog 193:=⟨⟨_,Tryz.underlying193,rfl⟩⟩
instance:NotIface Tryz.prog 269:=⟨⟨.pointer 125,by kernel_rfl,rfl⟩⟩
instance : MethV Tryz.prog 269 "Len" 269 := zdh (elem := 125) (by kernel_rfl) Tryz.typeInfo269 (by kernel_rfl) (by kernel_rfl)
instance : MethV Tryz.prog 269 "Less" 270 := zdh (elem := 125) (by kernel_rfl) Tryz.typeInfo269 (by kernel_rfl) (by kernel_rfl)
instance : MethP Tryz.prog 269 "Push" 281 := ⟨fun _ _ => by kernel_rfl⟩
instance : MethV Tryz.prog 269 "Swap" 271 := zdh (elem := 125) (by kernel_rfl) Tryz.typeInfo269 (by kernel_rfl) (by kernel_rfl)
instance:ElemT Tryz.prog 22 5 [.int .u8 0] 1 1:=⟨by kernel_rfl,⟨Tryz.t5,.int .u8 0,by kernel_rfl,by kernel_rfl,rfl,by kernel_rfl,by kernel_rfl⟩,rfl,by decide⟩
instance:ElemT Tryz.prog 58 45 [.int .u8 0,.int .i64 0,.int .u64 0,.int .u64 0] 4 32:=⟨by kernel_rfl,⟨Tryz.t45,valL z45,by kernel_rfl,by kernel_rfl,rfl,by kernel_rfl,by kernel_rfl⟩,rfl,by decide⟩
instance:ElemT Tryz.prog 60 43 z43 26 192:=⟨by kernel_rfl,⟨Tryz.t43,valL z43,by kernel_rfl,by kernel_rfl,rfl,by kernel_rfl,by kernel_rfl⟩,rfl,by decide⟩
instance:ElemT Tryz.prog 61 3 [.int .i64 0] 1 8:=⟨by kernel_rfl,⟨Tryz.t3,.int .i64 0,by kernel_rfl,by kernel_rfl,rfl,by kernel_rfl,by kernel_rfl⟩,rfl,by decide⟩
instance:ElemT Tryz.prog 125 193 [.int .u64 0,.int .i64 0,.int .i64 0] 3 24:=⟨by kernel_rfl,⟨Tryz.t193,valL z193,by kernel_rfl,by kernel_rfl,rfl,by kernel_rfl,by kernel_rfl⟩,rfl,by decide⟩
instance:ElemT Tryz.prog 243 39 [.int .u64 0] 1 8:=⟨by kernel_rfl,⟨Tryz.t39,.int .u64 0,by kernel_rfl,by kernel_rfl,rfl,by kernel_rfl,by kernel_rfl⟩,rfl,by decide⟩
instance:CallT Tryz.prog 15:=⟨Tryz.call15⟩
instance:CallT Tryz.prog 16:=⟨Tryz.call16⟩
instance:CallT Tryz.prog 17:=⟨Tryz.call17⟩
instance:CallT Tryz.prog 18:=⟨Tryz.call18⟩
instance:CallT Tryz.prog 19:=⟨Tryz.call19⟩
instance:CallT Tryz.prog 20:=⟨Tryz.call20⟩
instance:CallT Tryz.prog 21:=⟨Tryz.call21⟩
instance:CallT Tryz.prog 22:=⟨Tryz.call22⟩
instance:CallT Tryz.prog 23:=⟨Tryz.call23⟩
instance:CallT Tryz.prog 24:=⟨Tryz.call24⟩
instance:CallT Tryz.prog 25:=⟨Tryz.call25⟩
instance:CallT Tryz.prog 26:=⟨Tryz.call26⟩
instance:CallT Tryz.prog 29:=⟨Tryz.call29⟩
instance:CallT Tryz.prog 43:=⟨Tryz.call43⟩
instance:CallT Tryz.prog 55:=⟨Tryz.call55⟩
instance:CallT Tryz.prog 56:=⟨Tryz.call56⟩
instance:CallT Tryz.prog 57:=⟨Tryz.call57⟩
instance:CallT Tryz.prog 58:=⟨Tryz.call58⟩
instance:CallT Tryz.prog 59:=⟨Tryz.call59⟩
instance:CallT Tryz.prog 60:=⟨Tryz.call60⟩
instance:CallT Tryz.prog 61:=⟨Tryz.call61⟩
instance:CallT Tryz.prog 62:=⟨Tryz.call62⟩
instance:CallT Tryz.prog 63:=⟨Tryz.call63⟩
instance:CallT Tryz.prog 64:=⟨Tryz.call64⟩
instance:CallT Tryz.prog 65:=⟨Tryz.call65⟩
instance:CallT Tryz.prog 66:=⟨Tryz.call66⟩
instance:CallT Tryz.prog 67:=⟨Tryz.call67⟩
instance:CallT Tryz.prog 68:=⟨Tryz.call68⟩
instance:CallT Tryz.prog 69:=⟨Tryz.call69⟩
instance:CallT Tryz.prog 73:=⟨Tryz.call73⟩
instance:CallT Tryz.prog 83:=⟨Tryz.call83⟩
instance:CallT Tryz.prog 92:=⟨Tryz.call92⟩
instance:CallT Tryz.prog 106:=⟨Tryz.call106⟩
instance:CallT Tryz.prog 115:=⟨Tryz.call115⟩
instance:CallT Tryz.prog 116:=⟨Tryz.call116⟩
instance:CallT Tryz.prog 117:=⟨Tryz.call117⟩
instance:CallT Tryz.prog 118:=⟨Tryz.call118⟩
instance:CallT Tryz.prog 119:=⟨Tryz.call119⟩
instance:CallT Tryz.prog 120:=⟨Tryz.call120⟩
instance:CallT Tryz.prog 121:=⟨Tryz.call121⟩
instance:CallT Tryz.prog 122:=⟨Tryz.call122⟩
instance:CallT Tryz.prog 123:=⟨Tryz.call123⟩
instance:CallT Tryz.prog 124:=⟨Tryz.call124⟩
instance:CallT Tryz.prog 125:=⟨Tryz.call125⟩
instance:CallT Tryz.prog 126:=⟨Tryz.call126⟩
instance:CallT Tryz.prog 127:=⟨Tryz.call127⟩
instance:CallT Tryz.prog 128:=⟨Tryz.call128⟩
instance:CallT Tryz.prog 129:=⟨Tryz.call129⟩
instance:CallT Tryz.prog 130:=⟨Tryz.call130⟩
instance:CallT Tryz.prog 131:=⟨Tryz.call131⟩
instance:CallT Tryz.prog 132:=⟨Tryz.call132⟩
instance:CallT Tryz.prog 133:=⟨Tryz.call133⟩
instance:CallT Tryz.prog 134:=⟨Tryz.call134⟩
instance:CallT Tryz.prog 135:=⟨Tryz.call135⟩
instance:CallT Tryz.prog 136:=⟨Tryz.call136⟩
instance:CallT Tryz.prog 137:=⟨Tryz.call137⟩
instance:CallT Tryz.prog 145:=⟨Tryz.call145⟩
instance:CallT Tryz.prog 150:=⟨Tryz.call150⟩
instance:CallT Tryz.prog 153:=⟨Tryz.call153⟩
instance:CallT Tryz.prog 162:=⟨Tryz.call162⟩
instance:CallT Tryz.prog 164:=⟨Tryz.call164⟩
instance:CallT Tryz.prog 165:=⟨Tryz.call165⟩
instance:CallT Tryz.prog 166:=⟨Tryz.call166⟩
instance:CallT Tryz.prog 167:=⟨Tryz.call167⟩
instance:CallT Tryz.prog 170:=⟨Tryz.call170⟩
instance:CallT Tryz.prog 171:=⟨Tryz.call171⟩
instance:CallT Tryz.prog 172:=⟨Tryz.call172⟩
instance:CallT Tryz.prog 173:=⟨Tryz.call173⟩
instance:CallT Tryz.prog 174:=⟨Tryz.call174⟩
instance:CallT Tryz.prog 175:=⟨Tryz.call175⟩
instance:CallT Tryz.prog 176:=⟨Tryz.call176⟩
instance:CallT Tryz.prog 177:=⟨Tryz.call177⟩
instance:CallT Tryz.prog 178:=⟨Tryz.call178⟩
instance:CallT Tryz.prog 179:=⟨Tryz.call179⟩
instance:CallT Tryz.prog 180:=⟨Tryz.call180⟩
instance:CallT Tryz.prog 181:=⟨Tryz.call181⟩
instance:CallT Tryz.prog 182:=⟨Tryz.call182⟩
instance:CallT Tryz.prog 183:=⟨Tryz.call183⟩
instance:CallT Tryz.prog 184:=⟨Tryz.call184⟩
instance:CallT Tryz.prog 185:=⟨Tryz.call185⟩
instance:CallT Tryz.prog 186:=⟨Tryz.call186⟩
instance:CallT Tryz.prog 187:=⟨Tryz.call187⟩
instance:CallT Tryz.prog 188:=⟨Tryz.call188⟩
instance:CallT Tryz.prog 189:=⟨Tryz.call189⟩
instance:CallT Tryz.prog 190:=⟨Tryz.call190⟩
instance:CallT Tryz.prog 191:=⟨Tryz.call191⟩
instance:CallT Tryz.prog 192:=⟨Tryz.call192⟩
instance:CallT Tryz.prog 193:=⟨Tryz.call193⟩
instance:CallT Tryz.prog 194:=⟨Tryz.call194⟩
instance:CallT Tryz.prog 195:=⟨Tryz.call195⟩
instance:CallT Tryz.prog 196:=⟨Tryz.call196⟩
instance:CallT Tryz.prog 197:=⟨Tryz.call197⟩
instance:CallT Tryz.prog 198:=⟨Tryz.call198⟩
instance:CallT Tryz.prog 199:=⟨Tryz.call199⟩
instance:CallT Tryz.prog 200:=⟨Tryz.call200⟩
instance:CallT Tryz.prog 201:=⟨Tryz.call201⟩
instance:CallT Tryz.prog 205:=⟨Tryz.call205⟩
instance:CallT Tryz.prog 215:=⟨Tryz.call215⟩
instance:CallT Tryz.prog 216:=⟨Tryz.call216⟩
instance:CallT Tryz.prog 218:=⟨Tryz.call218⟩
instance:CallT Tryz.prog 219:=⟨Tryz.call219⟩
instance:CallT Tryz.prog 220:=⟨Tryz.call220⟩
instance:CallT Tryz.prog 221:=⟨Tryz.call221⟩
instance:CallT Tryz.prog 222:=⟨Tryz.call222⟩
instance:CallT Tryz.prog 223:=⟨Tryz.call223⟩
instance:CallT Tryz.prog 224:=⟨Tryz.call224⟩
instance:CallT Tryz.prog 225:=⟨Tryz.call225⟩
instance:CallT Tryz.prog 226:=⟨Tryz.call226⟩
instance:CallT Tryz.prog 227:=⟨Tryz.call227⟩
instance:CallT Tryz.prog 228:=⟨Tryz.call228⟩
instance:CallT Tryz.prog 230:=⟨Tryz.call230⟩
instance:CallT Tryz.prog 235:=⟨Tryz.call235⟩
instance:CallT Tryz.prog 239:=⟨Tryz.call239⟩
instance:CallT Tryz.prog 240:=⟨Tryz.call240⟩
instance:CallT Tryz.prog 241:=⟨Tryz.call241⟩
instance:CallT Tryz.prog 242:=⟨Tryz.call242⟩
instance:CallT Tryz.prog 269:=⟨Tryz.call269⟩
instance:CallT Tryz.prog 270:=⟨Tryz.call270⟩
instance:CallT Tryz.prog 271:=⟨Tryz.call271⟩
instance:CallT Tryz.prog 272:=⟨Tryz.call272⟩
instance:CallT Tryz.prog 281:=⟨Tryz.call281⟩
end Go.Proofs.YtabdpmnhjlmnlaaGreatDoor
end
