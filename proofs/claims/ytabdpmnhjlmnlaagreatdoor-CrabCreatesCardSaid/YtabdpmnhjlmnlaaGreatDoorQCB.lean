/- Texts of this work,joined by program (pack.py): PtF,PtG,PtH,PtY,PtZ,PtI. -/
import Derived.Test.YtabdpmnhjlmnlaaGreatDoorQCA
import Derived.ChangeKeysEq
import Derived.Test.YtabdpmnhjlmnlaaGreatDoorProg
set_option linter.unusedVariables false
section
namespace Go.Pt
open Go Go.RowKit
def lt {α:Type} (a:α) (K:α→Prop):Prop:=K a
theorem zjD {α:Type} {a:α} {K:α→Prop} (h:lt a K):∃ x,a=x∧K x:=⟨a,rfl,h⟩
theorem eqv {P:Program} {l:Fr} {c:Cond} {op:Op} {v v':Value} (h:Yc P l c op v) (e:v=v'):Yc P l c op v':=e ▸ h
theorem fQ {pl:Nat→Option (Nat×Nat)} {cs:List Value}:fillS pl cs []=some cs:=rfl
theorem yd {pl:Nat→Option (Nat×Nat)} {cs out:List Value} {i off size:Nat} {v:Value} {rest:List (Nat×Value)} (hp:pl i=some (off,size)) (hl:(cellsL v).length=size) (hb:off+size≤cs.length)
  (h:fillS pl (spl cs off (cellsL v)) rest=some out):fillS pl cs ((i,v) :: rest)=some out:=by
 simp only[fillS,hp]
 rw[if_pos]
 ·exact h
 ·simp only[Bool.and_eq_true,beq_iff_eq];exact⟨hl,Nat.ble_eq_true_of_le hb⟩
theorem jd {z a:List Value} {size:Nat} (hz:z.length=size) (h:a.length=size):fillS (fun i=>some (i*size,size)) (zrep 1 z) [(0,valL a)]=some a:=by
 have e:spl (zrep 1 z) (0*size) (cellsL (valL a))=a:=by
  have:cellsL (valL a)=a:=by simp[cellsL,valL]
  rw[this,Nat.zero_mul,zbZ (by simp[zrep];omega)]
 have:=yd (pl:=fun i=>some (i*size,size)) (cs:=zrep 1 z) (out:=a) (i:=0) (off:=0*size) (size:=size) (v:=valL a) (rest:=[]) rfl (by simp[cellsL,valL,h]) (by simp[zrep];omega) (by rw[e];rfl)
 exact this
theorem vT {cs vs:List Value} {o n m:Nat} (h:cs.length=n) (hv:vs.length=m) (h2:o+m≤n):(spl cs o vs).length=n:=qR h (by omega)
section
variable {P:Program} {w0:World} {S0:Mem} {Q:Exit→Act→World→Prop} {l:Fr} {S:Mem} {V:Hp}
end
end Go.Pt
end
section
namespace Go.Pt
open Go Go.RowKit
inductive CK where
 | i (k:IntKind)
 | b
 | s
def fit1:CK→Value→Bool
 | .i k,.int k' _=>decide (k=k')
 | .b,.bool _=>true
 | .s,.string _=>true
 | _,_=>false
def fits:List CK→List Value→Bool
 | [],[]=>true
 | k :: ks,v :: vs=>fit1 k v && fits ks vs
 | _,_=>false
def eq1:Value→Value→Bool
 | .int _ m,.int _ n=>m == n
 | .bool a,.bool b=>a == b
 | .string a,.string b=>a.toList == b.toList
 | _,_=>false
def eqL:List Value→List Value→Bool
 | [],[]=>true
 | x :: xs,y :: ys=>eq1 x y && eqL xs ys
 | _,_=>false
theorem jc:∀ {ks:List CK} {vs:List Value},fits ks vs=true→vs.length=ks.length
 | [],[],_=>rfl
 | [],_ :: _,h=>by simp[fits] at h
 | _ :: _,[],h=>by simp[fits] at h
 | k :: ks,v :: vs,h=>by simp only[fits,Bool.and_eq_true] at h;simp[jc h.2]
theorem kC:∀ {ks ks':List CK} {vs:List Value},fits (ks++ks') vs=true→fits ks (vs.take ks.length)=true∧fits ks' (vs.drop ks.length)=true
 | [],ks',vs,h=>by simpa [fits] using h
 | k :: ks,ks',[],h=>by simp[fits] at h
 | k :: ks,ks',v :: vs,h=>by
  simp only[List.cons_append,fits,Bool.and_eq_true] at h
  have:=kC h.2
  simp[fits,h.1,this]
theorem zed:∀ (n:Nat) (xs ys:List Value),xs.length=ys.length→eqL xs ys=(eqL (xs.take n) (ys.take n) && eqL (xs.drop n) (ys.drop n))
 | 0,xs,ys,_=>by simp[eqL]
 | n+1,[],[],_=>by simp[eqL]
 | n+1,[],_ :: _,h=>by simp at h
 | n+1,_ :: _,[],h=>by simp at h
 | n+1,x :: xs,y :: ys,h=>by
  simp only[eqL,List.take_succ_cons,List.drop_succ_cons]
  rw[zed n xs ys (by simpa using h),Bool.and_assoc]
theorem znB {k:CK} {x y:Value} (hx:fit1 k x=true) (hy:fit1 k y=true):eq1 x y=true↔x=y:=by
 cases k <;> cases x <;> simp only[fit1,Bool.false_eq_true] at hx <;> cases y <;> simp only[fit1,Bool.false_eq_true] at hy
 ·simp only[decide_eq_true_eq] at hx hy;subst hx;subst hy;simp[eq1]
 ·simp[eq1]
 ·simp only[eq1,beq_iff_eq,Value.string.injEq]
  constructor
  ·intro h
   rw[ByteArray.toList_eq,ByteArray.toList_eq] at h
   rename_i a b
   cases a;cases b
   simp only[ByteArray.mk.injEq] at h ⊢
   exact Array.toList_inj.1 h
  ·rintro rfl;rfl
theorem zee:∀ {ks:List CK} {xs ys:List Value},fits ks xs=true→fits ks ys=true→(eqL xs ys=true↔xs=ys)
 | [],[],[],_,_=>by simp[eqL]
 | [],_ :: _,_,h,_=>by simp[fits] at h
 | [],[],_ :: _,_,h=>by simp[fits] at h
 | _ :: _,[],_,h,_=>by simp[fits] at h
 | _ :: _,_ :: _,[],_,h=>by simp[fits] at h
 | k :: ks,x :: xs,y :: ys,hx,hy=>by
  simp only[fits,Bool.and_eq_true] at hx hy
  simp only[eqL,Bool.and_eq_true,znB hx.1 hy.1,zee hx.2 hy.2,List.cons.injEq]
def fieldsK (P:Program) (f:TypeId→Option (List CK)):List Field→Nat→Option (List CK)
 | [],_=>some []
 | g :: gs,o=>match f g.type with
  | none=>none
  | some ks => if g.name != "_" && Nat.beq g.offset o && ((P.info? g.type).map (·.size) == some ks.length) then (fieldsK P f gs (o + ks.length)).map (ks ++ ·) else none
def kindsOf (P:Program):Nat→TypeId→Option (List CK)
 | 0,_=>none
 | d+1,t=>match P.underlying t with
  | some .bool=>some [.b]
  | some (.int k)=>some [.i k]
  | some .string=>some [.s]
  | some (.array n e)=>match kindsOf P d e with
   | some ks=>if (P.info? e).map (·.size) == some ks.length then some (List.replicate n ks).flatten else none
   | none=>none
  | some (.struct fs)=>if P.stoodInHeld t then none else fieldsK P (kindsOf P d) fs.toList 0
  | _=>none
def aggT (P:Program) (t:TypeId):Bool:=match P.underlying t with
 | some (.array _ _)=>true
 | some (.struct _)=>true
 | _=>false
def vOf (a:Bool) (xs:List Value):Value:=match a with
 | true=>.agg xs.toArray
 | false=>xs.headD undef
section
variable {P:Program}
theorem zgI {d:Nat} {t:TypeId} {ks:List CK} (h:kindsOf P d t=some ks) (ha:aggT P t=false):ks.length=1:=by
 cases d with
 | zero=>simp[kindsOf] at h
 | succ d=>
  simp only[kindsOf] at h
  simp only[aggT] at ha
  split at h <;> simp_all <;> (cases h;rfl)
theorem ziU {t:TypeId} (hu:∃ u,P.underlying t=some u) (w:World):(isAgg t).run P w=.ok (aggT P t) w:=by
 obtain⟨u,hu⟩:=hu
 cases u <;> simp[isAgg,run_underlying hu,aggT,hu]
theorem zkN {d:Nat} {t:TypeId} {ks:List CK} (h:kindsOf P d t=some ks):∃ u,P.underlying t=some u:=by
 cases d with
 | zero=>simp[kindsOf] at h
 | succ d=>
  simp only[kindsOf] at h
  cases hu:P.underlying t with
  | none=>rw[hu] at h;simp at h
  | some u=>exact⟨u,rfl⟩
theorem zbv {d:Nat} {t:TypeId} {ks:List CK} (h:kindsOf P d t=some ks) (hs:(P.info? t).map (·.size)=some ks.length) {cs:List Value} {o:Nat} (hf:fits ks ((cs.drop o).take ks.length)=true) (w:World) :
  (part t cs.toArray o).run P w=.ok (vOf (aggT P t) ((cs.drop o).take ks.length)) w:=by
 have hagg:=ziU (zkN h)
 cases ha:aggT P t with
 | true=>
  obtain⟨i,hi,hsz⟩:=Option.map_eq_some_iff.1 hs
  have hsize:(sizeOf t).run P w=.ok ks.length w:=by simp[sizeOf,typeInfo,hi,hsz]
  simp[part,hagg,ha,hsize,vOf,List.extract_eq_take_drop]
 | false=>
  have h1:=zgI h ha
  have hl:=jc hf
  rw[h1] at hl ⊢
  have:cs[o]? = ((cs.drop o).take 1)[0]?:=by simp
  cases hc:(cs.drop o).take 1 with
  | nil=>rw[hc] at hl;simp at hl
  | cons v r=>
   rw[hc] at this
   simp at this
   simp[part,hagg,ha,vOf,this]
theorem zgQ {d dd:Nat} (ih:∀ t ks,kindsOf P d t=some ks→∀ w xs ys,fits ks xs=true→fits ks ys=true→(Op.equalIn dd t (vOf (aggT P t) xs) (vOf (aggT P t) ys)).run P w=.ok (eqL xs ys) w) (cs ds:List Value) (hl:cs.length=ds.length) :
  ∀ (gs:List Field) (o:Nat) (ks:List CK),fieldsK P (kindsOf P d) gs o=some ks→fits ks (cs.drop o)=true→fits ks (ds.drop o)=true→∀ w,(Op.eqFields dd cs.toArray ds.toArray gs).run P w=.ok (eqL (cs.drop o) (ds.drop o)) w
 | [],o,ks,h,h1,h2,w=>by
  simp[fieldsK] at h;subst h
  have e1:=jc h1;have e2:=jc h2
  rw[List.length_eq_zero_iff.1 e1,List.length_eq_zero_iff.1 e2]
  simp[Op.eqFields,eqL]
 | g :: gs,o,ks,h,h1,h2,w=>by
  simp only[fieldsK] at h
  split at h
  ·cases h
  ·rename_i k1 hk
   split at h
   ·rename_i hc
    simp only[Bool.and_eq_true,bne_iff_ne,ne_eq,beq_iff_eq] at hc
    obtain⟨⟨hn,ho⟩,hsz⟩:=hc
    have ho:=Nat.eq_of_beq_eq_true ho
    obtain⟨k2,hk2,rfl⟩:=Option.map_eq_some_iff.1 h
    obtain⟨a1,a2⟩:=kC h1
    obtain⟨b1,b2⟩:=kC h2
    rw[List.drop_drop] at a2 b2
    have r1:=zgQ ih cs ds hl gs _ k2 hk2 a2 b2 w
    simp only[Op.eqFields,hn,ne_eq,not_false_eq_true,if_true,Sem.run_bind,ho,zbv hk hsz a1,zbv hk hsz b1,Result.andThen_ok,ih _ _ hk w _ _ a1 b1]
    rw[zed k1.length (cs.drop o) (ds.drop o) (by simp[hl]),List.drop_drop,List.drop_drop]
    cases hb:eqL ((cs.drop o).take k1.length) ((ds.drop o).take k1.length) with
    | true=>simpa using r1
    | false=>simp
   ·cases h
theorem ziu {d dd:Nat} {e:TypeId} {k1:List CK} (ih:∀ w xs ys,fits k1 xs=true→fits k1 ys=true→(Op.equalIn dd e (vOf (aggT P e) xs) (vOf (aggT P e) ys)).run P w=.ok (eqL xs ys) w) (hk:kindsOf P d e=some k1) (hsz:(P.info? e).map (·.size)=some k1.length)
  (cs ds:List Value) (hl:cs.length=ds.length):∀ (n i:Nat),fits (List.replicate n k1).flatten (cs.drop (i*k1.length))=true→fits (List.replicate n k1).flatten (ds.drop (i*k1.length))=true→∀ w,
   (Op.eqItems dd e k1.length cs.toArray ds.toArray (List.range' i n)).run P w=.ok (eqL (cs.drop (i*k1.length)) (ds.drop (i*k1.length))) w
 | 0,i,h1,h2,w=>by
  have e1:=jc h1;have e2:=jc h2
  simp only[List.replicate_zero,List.flatten_nil,List.length_nil] at e1 e2
  rw[List.length_eq_zero_iff.1 e1,List.length_eq_zero_iff.1 e2]
  simp[Op.eqItems,eqL]
 | n+1,i,h1,h2,w=>by
  simp only[List.replicate_succ,List.flatten_cons] at h1 h2
  obtain⟨a1,a2⟩:=kC h1
  obtain⟨b1,b2⟩:=kC h2
  rw[List.drop_drop,show i*k1.length+k1.length=(i+1)*k1.length by rw[Nat.add_mul];omega] at a2 b2
  have r1:=ziu ih hk hsz cs ds hl n (i+1) a2 b2 w
  simp only[List.range'_succ,Op.eqItems,Sem.run_bind,zbv hk hsz a1,zbv hk hsz b1,Result.andThen_ok,ih w _ _ a1 b1]
  rw[zed k1.length (cs.drop (i*k1.length)) (ds.drop (i*k1.length)) (by simp[hl]),List.drop_drop,List.drop_drop,show i*k1.length+k1.length=(i+1)*k1.length by rw[Nat.add_mul];omega]
  cases hb:eqL ((cs.drop (i*k1.length)).take k1.length) ((ds.drop (i*k1.length)).take k1.length) with
  | true=>simpa using r1
  | false=>simp
theorem zfR:∀ (d:Nat) (t:TypeId) (ks:List CK),kindsOf P d t=some ks→∀ dd w xs ys,fits ks xs=true→fits ks ys=true→(Op.equalIn (dd+d) t (vOf (aggT P t) xs) (vOf (aggT P t) ys)).run P w=.ok (eqL xs ys) w
 | 0,t,ks,h=>by simp[kindsOf] at h
 | d+1,t,ks,h=>by
  intro dd w xs ys fx fy
  have hl:xs.length=ys.length:=by rw[jc fx,jc fy]
  simp only[kindsOf] at h
  cases hu:P.underlying t with
  | none=>rw[hu] at h;simp at h
  | some u=>
   rw[hu] at h
   have scal:∀ k:CK,ks=[k]→∃ x y,xs=[x]∧ys=[y]∧fit1 k x=true∧fit1 k y=true:=by
    rintro k rfl
    match xs,ys,fx,fy with
    | [x],[y],fx,fy=>simp only[fits,Bool.and_true] at fx fy;exact⟨x,y,rfl,rfl,fx,fy⟩
    | [],_,fx,_=>simp[fits] at fx
    | [_],[],_,fy=>simp[fits] at fy
    | _ :: _ :: _,_,fx,_=>simp[fits] at fx
    | [_],_ :: _ :: _,_,fy=>simp[fits] at fy
   cases u <;> simp only[reduceCtorEq,Option.some.injEq] at h
   case bool=>
    obtain⟨x,y,rfl,rfl,h1,h2⟩:=scal _ h.symm
    cases x <;> simp only[fit1,Bool.false_eq_true] at h1
    cases y <;> simp only[fit1,Bool.false_eq_true] at h2
    simp[aggT,hu,vOf,Op.equalIn,run_underlying hu,eqL,eq1]
   case int=>
    obtain⟨x,y,rfl,rfl,h1,h2⟩:=scal _ h.symm
    cases x <;> simp only[fit1,Bool.false_eq_true] at h1
    cases y <;> simp only[fit1,Bool.false_eq_true] at h2
    simp only[decide_eq_true_eq] at h1 h2
    subst h1;subst h2
    simp[aggT,hu,vOf,Op.equalIn,run_underlying hu,eqL,eq1]
   case string=>
    obtain⟨x,y,rfl,rfl,h1,h2⟩:=scal _ h.symm
    cases x <;> simp only[fit1,Bool.false_eq_true] at h1
    cases y <;> simp only[fit1,Bool.false_eq_true] at h2
    simp[aggT,hu,vOf,Op.equalIn,run_underlying hu,eqL,eq1,beq_toListBytes]
   case array n e=>
    split at h
    ·rename_i k1 hk
     split at h
     ·rename_i hsz
      simp only[beq_iff_eq] at hsz
      obtain⟨i,hi,hi2⟩:=Option.map_eq_some_iff.1 hsz
      cases h
      have hc:P.cellsOf e=k1.length:=by simp[Program.cellsOf,hi,hi2]
      have:=ziu (dd:=dd+d) (zfR d e k1 hk dd) hk hsz xs ys hl n 0 (by simpa using fx) (by simpa using fy) w
      simp only[Nat.zero_mul,List.drop_zero] at this
      simp only[aggT,hu,vOf]
      rw[show dd+(d+1)=(dd+d)+1 from rfl,run_equalIn_array w (dd+d) xs.toArray ys.toArray hu hi,hc,List.range_eq_range']
      exact this
     ·cases h
    ·cases h
   case struct fs=>
    split at h
    ·cases h
    ·rename_i hst
     have hfs:P.fieldsOf t=fs:=by simp[Program.fieldsOf,hu]
     have:=zgQ (dd:=dd+d) (fun t ks hk w xs ys=>zfR d t ks hk dd w xs ys) xs ys hl fs.toList 0 ks h (by simpa using fx) (by simpa using fy) w
     simp only[List.drop_zero] at this
     simp only[aggT,hu,vOf]
     rw[show dd+(d+1)=(dd+d)+1 from rfl,run_equalIn_struct w (dd+d) t xs.toArray ys.toArray (by rw[hfs];exact hu) (by simpa using hst),hfs]
     exact this
class EqT (P:Program) (t:TypeId) (ks:outParam (List CK)):Prop where
 kinds:kindsOf P 8 t=some ks
 agg:aggT P t=true
 guard:P.eqGuardType P.depth t=false
variable {l:Fr} {c:Cond}
theorem zjI {t t2:TypeId} {x y:Operand} {ks:List CK} {xs ys:List Value} [h:EqT P t ks] (hx:ev l x=some (valL xs)) (hy:ev l y=some (valL ys)) (fx:fits ks xs=true) (fy:fits ks ys=true):Yc P l c (.binOp .eql t x y t2) (.bool (eqL xs ys)):=by
 unfold Yc;intro a w ha _ d ty ps af g
 have hm:=zfR 8 t ks h.kinds 9992 w xs ys fx fy
 rw[h.agg] at hm
 simp only[vOf] at hm
 simp[execOp,ha.eval hx,ha.eval hy,valL,run_eqGuard_agg w .eql t x y xs.toArray ys.toArray h.guard,run_eql_struct,hm]
theorem zmJ {t t2:TypeId} {x y:Operand} {ks:List CK} {xs ys:List Value} [h:EqT P t ks] (hx:ev l x=some (valL xs)) (hy:ev l y=some (valL ys)) (fx:fits ks xs=true) (fy:fits ks ys=true):Yc P l c (.binOp .neq t x y t2) (.bool (!eqL xs ys)):=by
 unfold Yc;intro a w ha _ d ty ps af g
 have hm:=zfR 8 t ks h.kinds 9992 w xs ys fx fy
 rw[h.agg] at hm
 simp only[vOf] at hm
 simp[execOp,ha.eval hx,ha.eval hy,valL,run_eqGuard_agg w .neq t x y xs.toArray ys.toArray h.guard,run_neq_struct,hm]
class BoolT (P:Program) (t:TypeId):Prop where
 run:P.underlying t=some .bool
theorem znO {t t2:TypeId} {x y:Operand} {a b:Bool} [h:BoolT P t] (hx:ev l x=some (.bool a)) (hy:ev l y=some (.bool b)):Yc P l c (.binOp .neq t x y t2) (.bool (decide (a≠b))):=by
 unfold Yc;intro ac w ha _ d ty ps af g
 have:=run_equal_bool (P:=P) w t a b h.run
 simp only[execOp,ha.eval hx,ha.eval hy,eqGuard,binOp]
 simp[this];cases a <;> cases b <;> rfl
end
end Go.Pt
end
section
namespace Go.Pt
open Go Go.RowKit
class BytesT (P:Program) (t:TypeId):Prop where
 run:∃ e,P.underlying t=some (.slice e)∧P.underlying e=some (.int .u8)
class StrT (P:Program) (t:TypeId):Prop where
 run:P.underlying t=some .string
def bs (S:Mem) (s:Sl) (K:ByteArray→Prop):Prop:=∃ xs:List Int,((s.p=none∧xs=[])∨∃ b o,s.p=some (b,o)∧xs.length=s.n∧S.part b o s.n=some (xs.map (.int .u8)))∧lt (strOfNums xs) K
def bcond (s:Sl) (xs:List Int):Cond:=match s.p with
 | none=>.tt
 | some (b,o)=>.cells b o (xs.map (.int .u8))
section
variable {P:Program} {w0:World} {S0 S:Mem} {V:Hp} {l:Fr}
end
def cpy (S:Mem) (size:Nat) (d s:Sl) (K:Int→Mem→Prop):Prop:=
 sp S ⟨s.p,min s.n d.n,0⟩ size fun vs=>(d.p=none∧vs=[]∧K ((min s.n d.n:Nat):Int) S)∨∃ b o,d.p=some (b,o)∧S.room b o (min s.n d.n*size)∧K ((min s.n d.n:Nat):Int) (S.put b o vs)
def clr (S:Mem) (size:Nat) (z:List Value) (s:Sl) (K:Mem→Prop):Prop:=
 (s.p=none∨s.n=0)∧K S∨∃ b o,s.p=some (b,o)∧S.room b o (s.n*size)∧K (S.put b o (zrep s.n z))
section
variable {P:Program} {w0:World} {S0:Mem} {opl:List Oper} {Q:Exit→Act→World→Prop} {rest:List Oper} {l:Fr} {S:Mem} {V:Hp}
variable {d:Option Tmp} {op:Op} {ty:TypeId} {ps:String} {af:Array Edge} {g:Option (Nat×Bool)}
theorem zoQ {t e size bytes:Nat} {z:List Value} {x y:Operand} {sd ss:Sl} {K:Int→Mem→Prop} [h:ElemT P t e z size bytes] (hw:wantL opl l g=some true)
  (hx:ev l x=some (eL sd)) (hy:ev l y=some (eL ss)) (H:cpy S size sd ss K) (k:∀ r S',K r S'→WL P w0 S0 opl Q rest (putn l d (.int .i64 r)) S' V) :
  WL P w0 S0 opl Q (⟨d,.call { callee:=.builtin .copy,args:=#[x,y],argTypes:=#[t,t] },ty,ps,af,g⟩ :: rest) l S V:=by
 unfold WL at k ⊢
 intro a w ha hS
 refine wpList_step fun KK hKK=>?_
 rw[if_pos (qO (o:=⟨d,.call { callee:=.builtin .copy,args:=#[x,y],argTypes:=#[t,t] },ty,ps,af,g⟩) hw ha)]
 unfold Oper.wp
 obtain⟨i,v0,i1,i2,i3,i4,i5⟩:=h.info
 have hs:∀ w,(sizeOf e).run P w=.ok size w:=fun w=>by simp[sizeOf,typeInfo,i1,i4]
 obtain⟨vs,hvs,h1,hK⟩:=H
 obtain⟨pd,nd,cd⟩:=sd
 obtain⟨p2,n2,c2⟩:=ss
 simp only at hvs hK
 have hfc:=(zaH (P:=P) (w0:=w0) (S0:=S0) (S:=S) (V:=V) (s:=⟨p2,min n2 nd,0⟩) (size:=size) hvs).1 w hS
 have hfc2:(Builtin.firstCells size (min n2 nd) (.slice (adr p2) n2 c2)).run P w=.ok vs.toArray w:=by
  cases hp:p2 with
  | none=>rw[hp] at hfc;simpa [Builtin.firstCells,eL,adr] using hfc
  | some q=>rw[hp] at hfc;obtain⟨u,v⟩:=q;simpa [Builtin.firstCells,eL,adr] using hfc
 rcases hK with ⟨hp,hv,hK⟩ | ⟨b,o,hp,hpart,hK⟩
 ·subst hp;subst hv
  have:(execOp a.eval ⟨d,.call { callee:=.builtin .copy,args:=#[x,y],argTypes:=#[t,t] },ty,ps,af,g⟩).run P w=.ok (.value (.int .i64 ((min n2 nd:Nat):Int))) w:=by
   have hm:Nat.min n2 nd=min n2 nd:=rfl
   simp only[eL] at hx hy
   simp[execOp,resolve,invoke,builtin,ha.eval hx,ha.eval hy,adr_none,Builtin.copy_,run_underlying h.sl,hs,Builtin.lenOf,hm,hfc2,goInt]
  rw[this]
  exact hKK _ _ (k _ _ hK _ _ (ha.put d _) hS)
 ·subst hp
  obtain⟨kb,hkb,hfr,hlp⟩:=hpart
  have hm:=hS.mem b kb hkb
  rw[hfr] at hm
  have hlen:vs.length=min n2 nd*size:=(zaH (P:=P) (w0:=w0) (S0:=S0) (S:=S) (V:=V) (s:=⟨p2,min n2 nd,0⟩) (size:=size) hvs).2
  have hst:=run_storeCells_at (P:=P) b o kb.ty vs 0 kb.cs.toArray w hm (by simp;omega) (fun v hv=>List.all_eq_true.1 h1 v hv)
  simp only[Nat.add_zero] at hst
  rw[←xq kb.cs o vs (by omega)] at hst
  have:(execOp a.eval ⟨d,.call { callee:=.builtin .copy,args:=#[x,y],argTypes:=#[t,t] },ty,ps,af,g⟩).run P w=.ok (.value (.int .i64 ((min n2 nd:Nat):Int))) (w.setRow b (spl kb.cs o vs).toArray):=by
   have hm:Nat.min n2 nd=min n2 nd:=rfl
   simp only[eL] at hx hy
   simp[execOp,resolve,invoke,builtin,ha.eval hx,ha.eval hy,ziB,Builtin.copy_,run_underlying h.sl,hs,Builtin.lenOf,hm,hfc2,goInt,hst]
  rw[this]
  exact hKK _ _ (k _ _ hK _ _ (ha.put d _) (hS.putS hkb _))
where adr_none:adr none=none:=rfl
theorem zoR {t e size bytes:Nat} {z:List Value} {x:Operand} {s:Sl} {K:Mem→Prop} [h:ElemT P t e z size bytes] (hw:wantL opl l g=some true)
  (hx:ev l x=some (eL s)) (hz:z.all (·.oneCell')=true) (H:clr S size z s K) (k:∀ S',K S'→WL P w0 S0 opl Q rest (putn l d (.tuple #[])) S' V) :
  WL P w0 S0 opl Q (⟨d,.call { callee:=.builtin .clear,args:=#[x],argTypes:=#[t] },ty,ps,af,g⟩ :: rest) l S V:=by
 unfold WL at k ⊢
 intro a w ha hS
 refine wpList_step fun KK hKK=>?_
 rw[if_pos (qO (o:=⟨d,.call { callee:=.builtin .clear,args:=#[x],argTypes:=#[t] },ty,ps,af,g⟩) hw ha)]
 unfold Oper.wp
 obtain⟨i,v0,i1,i2,i3,i4,i5⟩:=h.info
 have hzv:∀ w,(zeroValue e).run P w=.ok v0 w:=fun w=>by simp[zeroValue,typeInfo,i1,i2]
 obtain⟨p,n,c⟩:=s
 simp only[eL] at hx
 have triv:p=none∨n=0→(execOp a.eval ⟨d,.call { callee:=.builtin .clear,args:=#[x],argTypes:=#[t] },ty,ps,af,g⟩).run P w=.ok (.value (.tuple #[])) w:=by
  intro hn
  rcases hn with hn | hn
  ·subst hn
   simp[execOp,resolve,invoke,builtin,ha.eval hx,adr,Builtin.clear_,run_underlying h.sl]
  ·subst hn
   cases p with
   | none=>simp[execOp,resolve,invoke,builtin,ha.eval hx,adr,Builtin.clear_,run_underlying h.sl]
   | some q=>obtain⟨u,v⟩:=q;simp[execOp,resolve,invoke,builtin,ha.eval hx,adr,Builtin.clear_,run_underlying h.sl]
 rcases H with ⟨hn,hK⟩ | ⟨b,o,hp,hpart,hK⟩
 ·rw[triv hn]
  exact hKK _ _ (k _ hK _ _ (ha.put d _) hS)
 ·simp only at hp hpart hK
  subst hp
  obtain⟨kb,hkb,hfr,hlp⟩:=hpart
  have hm:=hS.mem b kb hkb
  rw[hfr] at hm
  by_cases hn:n=0
  ·rw[triv (.inr hn)]
   subst hn
   have:S.put b o (zrep 0 z)=S:=by
    funext q
    unfold Mem.put
    by_cases hq:q=b
    ·subst hq
     rw[if_pos rfl,hkb]
     simp only[Option.map_some,zrep]
     rw[xq _ _ _ (by omega)]
     simp
    ·rw[if_neg hq]
   rw[this] at hK
   exact hKK _ _ (k _ hK _ _ (ha.put d _) hS)
  ·have hall:(zrep n z).all (·.oneCell')=true:=by
    have:∀ n,(zrep n z).all (·.oneCell')=true:=fun n=>by
     induction n with
     | zero=>rfl
     | succ n ih=>simp only[zrep,List.all_append,hz,ih,Bool.and_self]
    exact this n
   have hlen:(zrep n z).length=n*size:=by rw[ko,h.len]
   have hst:=run_storeCells_at (P:=P) b o kb.ty (zrep n z) 0 kb.cs.toArray w hm (by simp;omega) (fun v hv=>List.all_eq_true.1 hall v hv)
   simp only[Nat.add_zero] at hst
   rw[←xq kb.cs o (zrep n z) (by omega)] at hst
   have hzc:=zag z n (by rw[h.len];exact h.pos)
   obtain⟨m,rfl⟩:∃ m,n=m+1:=⟨n-1,by omega⟩
   have:(execOp a.eval ⟨d,.call { callee:=.builtin .clear,args:=#[x],argTypes:=#[t] },ty,ps,af,g⟩).run P w=.ok (.value (.tuple #[])) (w.setRow b (spl kb.cs o (zrep (m+1) z)).toArray):=by
    simp[execOp,resolve,invoke,builtin,ha.eval hx,adr,Builtin.clear_,run_underlying h.sl,hzv,i3,hzc,hst]
   rw[this]
   exact hKK _ _ (k _ hK _ _ (ha.put d _) (hS.putS hkb _))
end
section
variable {P:Program} {l:Fr} {c:Cond}
end
/-! strings ranged over;a slice of one's own as a string -/
section
variable {P:Program} {w0 w:World} {S0 S:Mem} {V:Hp}
end
section
variable {P:Program} {w0:World} {S0:Mem} {opl:List Oper} {Q:Exit→Act→World→Prop} {rest:List Oper} {l:Fr} {S:Mem} {V:Hp}
variable {d:Option Tmp} {op:Op} {ty:TypeId} {ps:String} {af:Array Edge} {g:Option (Nat×Bool)}
end
/-! an interface value against nil -/
class IfaceT (P:Program) (t:TypeId):Prop where
 run:∃ ms,P.underlying t=some (.interface ms)
def ni (v:Value) (K:Bool→Prop):Prop:=∃ b,((v=.nilIface∧b=true)∨((∃ t u,v=.iface t u)∧b=false))∧K b
theorem zlB {P:Program} {t:TypeId} [h:IfaceT P t] {v:Value} {b:Bool} (hv:(v=.nilIface∧b=true)∨((∃ t u,v=.iface t u)∧b=false)) (w:World):(Op.equal t v .nilIface).run P w=.ok b w:=by
 obtain⟨ms,hu⟩:=h.run
 have e:Op.equal t v .nilIface=Op.equalIn (9999+1) t v .nilIface:=rfl
 rw[e,Op.equalIn]
 rcases hv with ⟨rfl,rfl⟩ | ⟨⟨tt,u,rfl⟩,rfl⟩ <;> simp[run_underlying hu]
section
variable {P:Program} {l:Fr} {c:Cond}
theorem zjH {t t2:TypeId} {x:Operand} {v:Value} {b:Bool} [h:IfaceT P t] (hx:ev l x=some v) (hv:(v=.nilIface∧b=true)∨((∃ t u,v=.iface t u)∧b=false)):Yc P l c (.binOp .eql t x (.const .nilIface) t2) (.bool b):=fun a w ha _ d ty ps af g=>by
 have hr:=zlB (P:=P) (t:=t) hv w
 have e2:a.eval (.const .nilIface)=.nilIface:=rfl
 rcases hv with ⟨rfl,rfl⟩ | ⟨⟨tt,u,rfl⟩,rfl⟩ <;> simp[execOp,ha.eval hx,e2,eqGuard,binOp,hr]
end
end Go.Pt
end
section
namespace Go.Pt
open Go Go.RowKit
def isI (v:Value):Prop:=∃ t x,v=.iface t x
def asI (v:Value) (t:TypeId) (k:IntKind) (K:Int→Prop):Prop:=∃ n,v=.iface t (.int k n)∧K n
class MethS (P:Program) (t:TypeId) (name:String) (f:outParam FuncId):Prop where
 run:∀ cs w,(method (P.types.size+Made.depth) t (valL cs) name).run P w=.ok (f,valL cs) w
theorem zpg {P:Program} {S:Mem} {t f:Nat} {name:String} {args cs:List Value} {R:Value→Mem→Prop} [hm:MethS P t name f] [hcall:CallT P f] (h:Tr P f S (valL cs :: args) R):ci P S (.iface t (valL cs)) name args R:=
 ⟨f,_,fun w _=>by simp[callMethod,hm.run,hcall.run],h⟩
def fz (S:Mem) (b:Nat) (K:Mem→Prop):Prop:=∃ k,S b=some k∧k.fr=(0,0)∧K (S.set b ⟨k.ty,k.cs,(k.cs.length,k.cs.length+1)⟩)
theorem zfd {v:Value} (h:v.oneCell'=true):cellsL v=[v]:=by cases v <;> simp_all [cellsL,Value.oneCell']
theorem zjp {pl:Nat→Option (Nat×Nat)} {cs out:List Value} {i off:Nat} {v:Value} {rest:List (Nat×Value)} (hp:pl i=some (off,1)) (hv:v.oneCell'=true) (hb:off+1≤cs.length)
  (h:fillS pl (spl cs off [v]) rest=some out):fillS pl cs ((i,v) :: rest)=some out:=by
 refine yd hp (by rw[zfd hv];rfl) hb ?_
 rw[zfd hv];exact h
section
variable {P:Program} {w0:World} {S0:Mem} {opl:List Oper} {Q:Exit→Act→World→Prop} {rest:List Oper} {l:Fr} {S:Mem} {V:Hp} {c:Cond}
variable {d:Option Tmp} {ty:TypeId} {ps:String} {af:Array Edge} {g:Option (Nat×Bool)}
theorem zoN {x:Operand} {v:Value} (hv:isI v) (hx:ev l x=some v):Yc P l c (.nilCheck x) v:=fun a w ha _ d ty ps af g=>by
 obtain⟨t,u,rfl⟩:=hv
 simp[execOp,ha.eval hx]
theorem zjG {t:TypeId} {x i:Operand} {n e size b o m:Nat} {k:IntKind} {z:Int} [h:ArrayT P t n e size] (hx:ev l x=some (.pointer (some ⟨b,o,none⟩)))
  (hi:ev l i=some (.int k z)) (h0:0≤z) (h1:z<n) (hm:z.toNat*size=m):Yc P l c (.indexAddr t x i) (.pointer (some ⟨b,o+m,none⟩)):=qv hx hi h0 h1 (by rw[hm])
theorem zaD (w:World) (a:Addr) (n j:Nat) (h:j≠a.block):(w.freeze a n).heap[j]? = w.heap[j]?:=by
 unfold World.freeze
 split
 ·rfl
 ·simp only[Array.getElem?_modify]
  rw[if_neg (fun e=>h e.symm)]
theorem St.freeze {w:World} (h:St w0 S0 S V w) {b:Nat} {k:Blk} (hb:S b=some k) (hf:k.fr=(0,0)):St w0 S0 (S.set b ⟨k.ty,k.cs,(k.cs.length,k.cs.length+1)⟩) V (w.freeze { block:=b,off:=k.cs.length } 1):=by
 have hsz:(w.freeze { block:=b,off:=k.cs.length } 1).heap.size=w.heap.size:=by simp[World.freeze]
 refine⟨h.os,h.tape,h.output,by rw[hsz];exact h.size,fun j hj hn=>?_,fun x kx hx=>?_,fun e he=>?_,h.nodup,fun x hx h1=>?_,fun x hx=>?_⟩
 ·rw[zaD _ _ _ _ (fun hjb=>?_)]
  ·exact h.frame j hj hn
  ·simp only at hjb
   subst hjb
   have:=h.own j hn (by rw[hb];simp)
   omega
 ·by_cases hxb:x=b
  ·subst hxb
   simp only[Mem.set,if_true,Option.some.injEq] at hx
   subst hx
   have h1:=h.mem x k hb
   unfold World.freeze
   rw[if_neg (by decide)]
   show (w.heap.modify x _)[x]? = _
   rw[Array.getElem?_modify,if_pos rfl,h1,hf]
   rfl
  ·simp only[Mem.set,if_neg hxb] at hx
   rw[zaD _ _ _ _ hxb];exact h.mem x kx hx
 ·obtain⟨h1,h2,h3⟩:=h.loc e he
  have hne:e.b≠b:=fun hq=>by rw[hq] at h2;rw[h2] at hb;cases hb
  rw[zaD _ _ _ _ hne]
  exact⟨h1,by simp only[Mem.set,if_neg hne];exact h2,h3⟩
 ·by_cases hxb:x=b
  ·exact h.own x hx (by rw[hxb,hb];simp)
  ·simp only[Mem.set,if_neg hxb] at h1;exact h.own x hx h1
 ·by_cases hxb:x=b
  ·simp[Mem.set,hxb]
  ·simp only[Mem.set,if_neg hxb];exact h.keep x hx
theorem zph {t:TypeId} {x:Operand} {b o m n:Nat} {K:Mem→Prop} [ht:BytesT P t] (hw:wantL opl l g=some true) (hx:ev l x=some (.slice (some ⟨b,o,none⟩) m n)) (H:fz S b K)
  (k:∀ S',K S'→WL P w0 S0 opl Q rest (putn l d (.slice (some ⟨b,o,none⟩) m n)) S' V):WL P w0 S0 opl Q (⟨d,.convert t t x,ty,ps,af,g⟩ :: rest) l S V:=
 fun a w ha hS=>wpList_step fun K' hK=>by
  obtain⟨q,h1,h2,h3⟩:=H
  obtain⟨e,hs,he⟩:=ht.run
  rw[if_pos (qO (o:=⟨d,.convert t t x,ty,ps,af,g⟩) hw ha)]
  unfold Oper.wp
  have hsh:w.shape? b=some (q.ty,q.cs.length):=by simp[World.shape?,hS.mem b q h1]
  have:(execOp a.eval ⟨d,.convert t t x,ty,ps,af,g⟩).run P w=.ok (.value (.slice (some ⟨b,o,none⟩) m n)) (w.freeze { block:=b,off:=q.cs.length } 1):=by
   simp[execOp,ha.eval hx,convert,run_underlying hs,run_underlying he,markStringish,hsh]
  rw[this]
  exact hK _ _ (k _ h3 _ _ (ha.put d _) (hS.freeze h1 h2))
end
end Go.Pt
end
section
namespace Go.Pt
open Go
theorem iteK {p A B R:Prop} [Decidable p] (h:if p then A else B) (h1:p→A→R) (h2:¬p→B→R):R:=by
 rcases zoW h with ⟨a,b⟩ | ⟨a,b⟩
 ·exact h1 a b
 ·exact h2 a b
theorem an {p q R:Prop} (h:p∧q) (k:p→q→R):R:=k h.1 h.2
theorem an2 {p p2 q R:Prop} (h:p∧p2∧q) (k:p→p2→q→R):R:=k h.1 h.2.1 h.2.2
theorem an3 {p p2 p3 q R:Prop} (h:p∧p2∧p3∧q) (k:p→p2→p3→q→R):R:=k h.1 h.2.1 h.2.2.1 h.2.2.2
theorem gx {α:Type} {p q:α→Prop} {R:Prop} (h:∃ x,p x∧q x) (k:∀ x,p x→q x→R):R:=h.elim fun x hx=>k x hx.1 hx.2
section rules
variable {P:Program} {w0:World} {S0:Mem} {opl:List Oper} {Q:Exit→Act→World→Prop} {rest:List Oper} {l:Fr} {S:Mem} {V:Hp}
variable {d:Option Tmp} {ty:TypeId} {ps:String} {af:Array Edge} {g:Option (Nat×Bool)}
theorem mv {x:Operand} {v:Value} (hw:wantL opl l g=some true) (hx:ev l x=some v) (k:WL P w0 S0 opl Q rest (putn l d v) S V):WL P w0 S0 opl Q (⟨d,.move x,ty,ps,af,g⟩ :: rest) l S V:=s_p hw (zm hx) k
theorem gv {x:Operand} {v:Value} (hw:wantL opl l g=some true) (hx:ev l x=some v) (k:WL P w0 S0 opl Q rest (putn l d v) S V):WL P w0 S0 opl Q (⟨d,.assign x,ty,ps,af,g⟩ :: rest) l S V:=s_p hw (zS hx) k
theorem ceT {k:IntKind} {m n:Int} {x y:Operand} {t t2:TypeId} (hw:wantL opl l g=some true) (hx:ev l x=some (.int k m)) (hy:ev l y=some (.int k n)) (hp:m=n)
  (h:WL P w0 S0 opl Q rest (putn l d (.bool true)) S V):WL P w0 S0 opl Q (⟨d,.binOp .eql t x y t2,ty,ps,af,g⟩ :: rest) l S V:=s_p hw (yT (jA hx hy) hp) h
theorem ceF {k:IntKind} {m n:Int} {x y:Operand} {t t2:TypeId} (hw:wantL opl l g=some true) (hx:ev l x=some (.int k m)) (hy:ev l y=some (.int k n)) (hp:¬m=n)
  (h:WL P w0 S0 opl Q rest (putn l d (.bool false)) S V):WL P w0 S0 opl Q (⟨d,.binOp .eql t x y t2,ty,ps,af,g⟩ :: rest) l S V:=s_p hw (yF (jA hx hy) hp) h
theorem csr {i:Nat} {ol:List Oper} {y:Code} (h:WL P w0 S0 ol (Exit.then (y.wp P Q) Q) ol l S V):WC P w0 S0 (.seq (.region i ol.toArray false) y) Q l S V:=zC (zu h)
theorem nx {y:Code} (h:WC P w0 S0 y Q l S V):WL P w0 S0 opl (Exit.then (y.wp P Q) Q) [] l S V:=zr (zt h)
theorem nxr {i:Nat} {ol:List Oper} {y:Code} (h:WL P w0 S0 ol (Exit.then (y.wp P Q) Q) ol l S V):WL P w0 S0 opl (Exit.then ((Code.seq (.region i ol.toArray false) y).wp P Q) Q) [] l S V:=nx (csr h)
theorem ctr {i:Nat} {ol:List Oper} {c:Operand} {y:Code} {e:Bool} (hc:ev l c=some (.bool e)) (he:e=true) (h:WL P w0 S0 ol Q ol l S V):WC P w0 S0 (.cond c (.region i ol.toArray false) y) Q l S V:=c_t hc he (zu h)
theorem cfr {i:Nat} {ol:List Oper} {c:Operand} {x:Code} {e:Bool} (hc:ev l c=some (.bool e)) (he:e=false) (h:WL P w0 S0 ol Q ol l S V):WC P w0 S0 (.cond c x (.region i ol.toArray false)) Q l S V:=c_f hc he (zu h)
theorem cfs {c:Operand} {x:Code} {e:Bool} (hc:ev l c=some (.bool e)) (he:e=false) (h:WQ w0 S0 Q .normal l S V):WC P w0 S0 (.cond c x .skip) Q l S V:=c_f hc he (qg h)
theorem pk {q x y:Operand} {b:Bool} {v:Value} (hw:wantL opl l g=some true) (hc:ev l q=some (.bool b)) (hx:ev l (if b then x else y)=some v) (k:WL P w0 S0 opl Q rest (putn l d v) S V) :
  WL P w0 S0 opl Q (⟨d,.pick q x y,ty,ps,af,g⟩ :: rest) l S V:=s_p hw (yQ hc hx) k
theorem sk2 {d0:Option Tmp} {op0:Op} {ty0:TypeId} {ps0:String} {af0:Array Edge} {g0:Option (Nat×Bool)} {d1:Option Tmp} {op1:Op} {ty1:TypeId} {ps1:String} {af1:Array Edge} {g1:Option (Nat×Bool)} (h0:wantL opl l g0=some false) (h1:wantL opl (putn l d0 undef) g1=some false)
  (k:WL P w0 S0 opl Q rest (putn (putn l d0 undef) d1 undef) S V):WL P w0 S0 opl Q (⟨d0,op0,ty0,ps0,af0,g0⟩ :: ⟨d1,op1,ty1,ps1,af1,g1⟩ :: rest) l S V:=zP h0 (zP h1 k)
theorem sk4 {d0:Option Tmp} {op0:Op} {ty0:TypeId} {ps0:String} {af0:Array Edge} {g0:Option (Nat×Bool)} {d1:Option Tmp} {op1:Op} {ty1:TypeId} {ps1:String} {af1:Array Edge} {g1:Option (Nat×Bool)} {d2:Option Tmp} {op2:Op} {ty2:TypeId} {ps2:String} {af2:Array Edge} {g2:Option (Nat×Bool)} {d3:Option Tmp} {op3:Op} {ty3:TypeId} {ps3:String} {af3:Array Edge} {g3:Option (Nat×Bool)} (h0:wantL opl l g0=some false) (h1:wantL opl (putn l d0 undef) g1=some false) (h2:wantL opl (putn (putn l d0 undef) d1 undef) g2=some false) (h3:wantL opl (putn (putn (putn l d0 undef) d1 undef) d2 undef) g3=some false)
  (k:WL P w0 S0 opl Q rest (putn (putn (putn (putn l d0 undef) d1 undef) d2 undef) d3 undef) S V):WL P w0 S0 opl Q (⟨d0,op0,ty0,ps0,af0,g0⟩ :: ⟨d1,op1,ty1,ps1,af1,g1⟩ :: ⟨d2,op2,ty2,ps2,af2,g2⟩ :: ⟨d3,op3,ty3,ps3,af3,g3⟩ :: rest) l S V:=zP h0 (zP h1 (zP h2 (zP h3 k)))
theorem sk8 {d0:Option Tmp} {op0:Op} {ty0:TypeId} {ps0:String} {af0:Array Edge} {g0:Option (Nat×Bool)} {d1:Option Tmp} {op1:Op} {ty1:TypeId} {ps1:String} {af1:Array Edge} {g1:Option (Nat×Bool)} {d2:Option Tmp} {op2:Op} {ty2:TypeId} {ps2:String} {af2:Array Edge} {g2:Option (Nat×Bool)} {d3:Option Tmp} {op3:Op} {ty3:TypeId} {ps3:String} {af3:Array Edge} {g3:Option (Nat×Bool)} {d4:Option Tmp} {op4:Op} {ty4:TypeId} {ps4:String} {af4:Array Edge} {g4:Option (Nat×Bool)} {d5:Option Tmp} {op5:Op} {ty5:TypeId} {ps5:String} {af5:Array Edge} {g5:Option (Nat×Bool)} {d6:Option Tmp} {op6:Op} {ty6:TypeId} {ps6:String} {af6:Array Edge} {g6:Option (Nat×Bool)} {d7:Option Tmp} {op7:Op} {ty7:TypeId} {ps7:String} {af7:Array Edge} {g7:Option (Nat×Bool)} (h0:wantL opl l g0=some false) (h1:wantL opl (putn l d0 undef) g1=some false) (h2:wantL opl (putn (putn l d0 undef) d1 undef) g2=some false) (h3:wantL opl (putn (putn (putn l d0 undef) d1 undef) d2 undef) g3=some false) (h4:wantL opl (putn (putn (putn (putn l d0 undef) d1 undef) d2 undef) d3 undef) g4=some false) (h5:wantL opl (putn (putn (putn (putn (putn l d0 undef) d1 undef) d2 undef) d3 undef) d4 undef) g5=some false) (h6:wantL opl (putn (putn (putn (putn (putn (putn l d0 undef) d1 undef) d2 undef) d3 undef) d4 undef) d5 undef) g6=some false) (h7:wantL opl (putn (putn (putn (putn (putn (putn (putn l d0 undef) d1 undef) d2 undef) d3 undef) d4 undef) d5 undef) d6 undef) g7=some false)
  (k:WL P w0 S0 opl Q rest (putn (putn (putn (putn (putn (putn (putn (putn l d0 undef) d1 undef) d2 undef) d3 undef) d4 undef) d5 undef) d6 undef) d7 undef) S V):WL P w0 S0 opl Q (⟨d0,op0,ty0,ps0,af0,g0⟩ :: ⟨d1,op1,ty1,ps1,af1,g1⟩ :: ⟨d2,op2,ty2,ps2,af2,g2⟩ :: ⟨d3,op3,ty3,ps3,af3,g3⟩ :: ⟨d4,op4,ty4,ps4,af4,g4⟩ :: ⟨d5,op5,ty5,ps5,af5,g5⟩ :: ⟨d6,op6,ty6,ps6,af6,g6⟩ :: ⟨d7,op7,ty7,ps7,af7,g7⟩ :: rest) l S V:=zP h0 (zP h1 (zP h2 (zP h3 (zP h4 (zP h5 (zP h6 (zP h7 k)))))))
section calls
variable {f:FuncId} {xs:List Operand} {ats:Array TypeId} {args:List Value} [hcall:CallT P f]
theorem fK {u:Value} {K:Mem→Prop} (hw:wantL opl l g=some true) (hx:evs l xs=some args) (hc:Tr P f S args fun v S'=>v=u∧K S')
  (k:∀ S',K S'→WL P w0 S0 opl Q rest (putn l d u) S' V):WL P w0 S0 opl Q (⟨d,.call { callee:=.value (.func f),args:=xs.toArray,argTypes:=ats },ty,ps,af,g⟩ :: rest) l S V:=qr hw hx hc fun _ S' h=>by
 obtain⟨rfl,h⟩:=h;exact k S' h
theorem qC {α:Type} {e:α→Value} {K:α→Mem→Prop} (hw:wantL opl l g=some true) (hx:evs l xs=some args) (hc:Tr P f S args fun v S'=>∃ t,v=e t∧K t S')
  (k:∀ t S',K t S'→WL P w0 S0 opl Q rest (putn l d (e t)) S' V):WL P w0 S0 opl Q (⟨d,.call { callee:=.value (.func f),args:=xs.toArray,argTypes:=ats },ty,ps,af,g⟩ :: rest) l S V:=qr hw hx hc fun _ S' h=>by
 obtain⟨t,rfl,h⟩:=h;exact k t S' h
theorem gO {α β:Type} {e:α→β→Value} {K:α→β→Mem→Prop} (hw:wantL opl l g=some true) (hx:evs l xs=some args) (hc:Tr P f S args fun v S'=>∃ t u,v=e t u∧K t u S')
  (k:∀ t u S',K t u S'→WL P w0 S0 opl Q rest (putn l d (e t u)) S' V):WL P w0 S0 opl Q (⟨d,.call { callee:=.value (.func f),args:=xs.toArray,argTypes:=ats },ty,ps,af,g⟩ :: rest) l S V:=qr hw hx hc fun _ S' h=>by
 obtain⟨t,u,rfl,h⟩:=h;exact k t u S' h
theorem zof {α β γ:Type} {e:α→β→γ→Value} {K:α→β→γ→Mem→Prop} (hw:wantL opl l g=some true) (hx:evs l xs=some args) (hc:Tr P f S args fun v S'=>∃ t u z,v=e t u z∧K t u z S')
  (k:∀ t u z S',K t u z S'→WL P w0 S0 opl Q rest (putn l d (e t u z)) S' V):WL P w0 S0 opl Q (⟨d,.call { callee:=.value (.func f),args:=xs.toArray,argTypes:=ats },ty,ps,af,g⟩ :: rest) l S V:=qr hw hx hc fun _ S' h=>by
 obtain⟨t,u,z,rfl,h⟩:=h;exact k t u z S' h
end calls
end rules
end Go.Pt
namespace Go.Pt
theorem E {α:Sort _} {a:α}:a=a:=rfl
theorem aTP {P:Program} {fn:Func} {w0:World} {S0 S:Mem} {R:Value→Mem→Prop} {opl:List Oper} {K:Act→World→Prop} {fuel:Nat} {cs:List (Nat×Cond)} {listed:Array Bool} {l:Fr} {V:Hp} {d:Option Tmp} {op:Op} {ty:TypeId} {ps:String} {af:Array Edge} {g:Option (Nat×Bool)} (i:Nat) {v:Value} (hi:nthL opl i=some ⟨d,op,ty,ps,af,g⟩) (hok:okTake opl listed i=true)
  (hw:wantL opl l g=some true) (hy:Yc P l .tt op v) (k:WA P w0 S0 opl (Exit.then K (bodyPost P fn (FR w0 S0 R))) fuel cs (listed.setIfInBounds i true) (putn l d v) S V):WA P w0 S0 opl (Exit.then K (bodyPost P fn (FR w0 S0 R))) (fuel+1) cs listed l S V:=a_takeP i hi hok (za zc) hw hy k
theorem aT {P:Program} {fn:Func} {w0:World} {S0 S:Mem} {R:Value→Mem→Prop} {opl:List Oper} {K:Act→World→Prop} {fuel:Nat} {cs:List (Nat×Cond)} {listed:Array Bool} {l:Fr} {V:Hp} {d:Option Tmp} {op:Op} {ty:TypeId} {ps:String} {af:Array Edge} {g:Option (Nat×Bool)} (i:Nat) {c:Cond} {v:Value} (hi:nthL opl i=some ⟨d,op,ty,ps,af,g⟩) (hok:okTake opl listed i=true)
  (hw:wantL opl l g=some true) (hy:Yc P l c op v) (hc:HC w0 S0 S V c) (k:WA P w0 S0 opl (Exit.then K (bodyPost P fn (FR w0 S0 R))) fuel ((i,c) :: cs) (listed.setIfInBounds i true) (putn l d v) S V):WA P w0 S0 opl (Exit.then K (bodyPost P fn (FR w0 S0 R))) (fuel+1) cs listed l S V:=zV i hi hok (za zc) hw hy hc k
end Go.Pt
end
section
namespace Go.Proofs.YtabdpmnhjlmnlaaGreatDoor
open Go Go.Pt
instance:ScalarT Tryz.prog 3:=⟨fun _=>by kernel_rfl⟩
instance:SizeT Tryz.prog 3 1:=⟨fun _=>by kernel_rfl⟩
instance:ScalarT Tryz.prog 4:=⟨fun _=>by kernel_rfl⟩
instance:SizeT Tryz.prog 4 1:=⟨fun _=>by kernel_rfl⟩
instance:ScalarT Tryz.prog 5:=⟨fun _=>by kernel_rfl⟩
instance:SizeT Tryz.prog 5 1:=⟨fun _=>by kernel_rfl⟩
instance:ScalarT Tryz.prog 22:=⟨fun _=>by kernel_rfl⟩
instance:SizeT Tryz.prog 22 1:=⟨fun _=>by kernel_rfl⟩
instance:SliceT Tryz.prog 22 5 1:=⟨by kernel_rfl,fun _=>by kernel_rfl⟩
instance:ScalarT Tryz.prog 39:=⟨fun _=>by kernel_rfl⟩
instance:SizeT Tryz.prog 39 1:=⟨fun _=>by kernel_rfl⟩
instance:ArrayT Tryz.prog 40 16 39 1:=⟨by kernel_rfl,fun _=>by kernel_rfl⟩
instance:ScalarT Tryz.prog 41:=⟨fun _=>by kernel_rfl⟩
instance:SizeT Tryz.prog 41 1:=⟨fun _=>by kernel_rfl⟩
instance:AggT Tryz.prog 43 26:=⟨fun _=>by kernel_rfl⟩
instance:SizeT Tryz.prog 43 26:=⟨fun _=>by kernel_rfl⟩
def z43:List Value:=[.int .u64 0,.int .u64 0,.int .u64 0,.int .u64 0,.int .u64 0,.int .u64 0,.int .u64 0,.int .u64 0,.int .u64 0,.int .u64 0,.int .u64 0,.int .u64 0,.int .u64 0,.int .u64 0,.int .u64 0,.int .u64 0,.int .u64 0,.int .u64 0,.int .u64 0,.int .u64 0,.int .u64 0,.int .u64 0,.bool false,.int .u8 0,.int .u32 0,.int .u32 0]
theorem zmE:z43.length=26:=by kernel_rfl
instance:ZeroT Tryz.prog 43 z43:=⟨fun _=>⟨valL z43,rfl,by kernel_rfl⟩⟩
instance:FieldT Tryz.prog 43 0 0 40:=⟨⟨_,Tryz.underlying43,_,rfl,rfl,rfl⟩,⟨16,by decide,fun _=>by kernel_rfl⟩⟩
instance:FieldT Tryz.prog 43 1 16 39:=⟨⟨_,Tryz.underlying43,_,rfl,rfl,rfl⟩,⟨1,by decide,fun _=>by kernel_rfl⟩⟩
instance:FieldT Tryz.prog 43 2 17 39:=⟨⟨_,Tryz.underlying43,_,rfl,rfl,rfl⟩,⟨1,by decide,fun _=>by kernel_rfl⟩⟩
instance:FieldT Tryz.prog 43 3 18 39:=⟨⟨_,Tryz.underlying43,_,rfl,rfl,rfl⟩,⟨1,by decide,fun _=>by kernel_rfl⟩⟩
instance:FieldT Tryz.prog 43 4 19 39:=⟨⟨_,Tryz.underlying43,_,rfl,rfl,rfl⟩,⟨1,by decide,fun _=>by kernel_rfl⟩⟩
instance:FieldT Tryz.prog 43 5 20 39:=⟨⟨_,Tryz.underlying43,_,rfl,rfl,rfl⟩,⟨1,by decide,fun _=>by kernel_rfl⟩⟩
instance:FieldT Tryz.prog 43 6 21 39:=⟨⟨_,Tryz.underlying43,_,rfl,rfl,rfl⟩,⟨1,by decide,fun _=>by kernel_rfl⟩⟩
instance:FieldT Tryz.prog 43 7 22 4:=⟨⟨_,Tryz.underlying43,_,rfl,rfl,rfl⟩,⟨1,by decide,fun _=>by kernel_rfl⟩⟩
instance:FieldT Tryz.prog 43 8 23 5:=⟨⟨_,Tryz.underlying43,_,rfl,rfl,rfl⟩,⟨1,by decide,fun _=>by kernel_rfl⟩⟩
instance:FieldT Tryz.prog 43 9 24 41:=⟨⟨_,Tryz.underlying43,_,rfl,rfl,rfl⟩,⟨1,by decide,fun _=>by kernel_rfl⟩⟩
instance:FieldT Tryz.prog 43 10 25 41:=⟨⟨_,Tryz.underlying43,_,rfl,rfl,rfl⟩,⟨1,by decide,fun _=>by kernel_rfl⟩⟩
instance:StructT Tryz.prog 43 (fun i=>(#[(0,16),(16,1),(17,1),(18,1),(19,1),(20,1),(21,1),(22,1),(23,1),(24,1),(25,1)]:Array (Nat×Nat))[i]?) z43:=qd Tryz.underlying43 (fun _=>by kernel_rfl)
instance:AggT Tryz.prog 45 4:=⟨fun _=>by kernel_rfl⟩
instance:SizeT Tryz.prog 45 4:=⟨fun _=>by kernel_rfl⟩
abbrev z45:List Value:=[.int .u8 0,.int .i64 0,.int .u64 0,.int .u64 0]
instance:ZeroT Tryz.prog 45 [.int .u8 0,.int .i64 0,.int .u64 0,.int .u64 0]:=⟨fun _=>⟨valL z45,rfl,by kernel_rfl⟩⟩
instance:FieldT Tryz.prog 45 0 0 5:=⟨⟨_,Tryz.underlying45,_,rfl,rfl,rfl⟩,⟨1,by decide,fun _=>by kernel_rfl⟩⟩
instance:StructT Tryz.prog 45 (fun i=>(#[(0,1),(1,1),(2,1),(3,1)]:Array (Nat×Nat))[i]?) [.int .u8 0,.int .i64 0,.int .u64 0,.int .u64 0]:=qd Tryz.underlying45 (fun _=>by kernel_rfl)
instance:AggT Tryz.prog 48 2:=⟨fun _=>by kernel_rfl⟩
instance:SizeT Tryz.prog 48 2:=⟨fun _=>by kernel_rfl⟩
abbrev z48:List Value:=[.int .u8 0,.int .u64 0]
instance:ZeroT Tryz.prog 48 [.int .u8 0,.int .u64 0]:=⟨fun _=>⟨valL z48,rfl,by kernel_rfl⟩⟩
instance:FieldT Tryz.prog 48 0 0 5:=⟨⟨_,Tryz.underlying48,_,rfl,rfl,rfl⟩,⟨1,by decide,fun _=>by kernel_rfl⟩⟩
instance:FieldT Tryz.prog 48 1 1 39:=⟨⟨_,Tryz.underlying48,_,rfl,rfl,rfl⟩,⟨1,by decide,fun _=>by kernel_rfl⟩⟩
instance:StructT Tryz.prog 48 (fun i=>(#[(0,1),(1,1)]:Array (Nat×Nat))[i]?) [.int .u8 0,.int .u64 0]:=qd Tryz.underlying48 (fun _=>by kernel_rfl)
instance:ScalarT Tryz.prog 51:=⟨fun _=>by kernel_rfl⟩
instance:ScalarT Tryz.prog 54:=⟨fun _=>by kernel_rfl⟩
instance:SizeT Tryz.prog 54 1:=⟨fun _=>by kernel_rfl⟩
instance:ScalarT Tryz.prog 58:=⟨fun _=>by kernel_rfl⟩
instance:SizeT Tryz.prog 58 1:=⟨fun _=>by kernel_rfl⟩
instance:SliceT Tryz.prog 58 45 4:=⟨by kernel_rfl,fun _=>by kernel_rfl⟩
instance:ScalarT Tryz.prog 60:=⟨fun _=>by kernel_rfl⟩
instance:SizeT Tryz.prog 60 1:=⟨fun _=>by kernel_rfl⟩
instance:SliceT Tryz.prog 60 43 26:=⟨by kernel_rfl,fun _=>by kernel_rfl⟩
instance:ScalarT Tryz.prog 61:=⟨fun _=>by kernel_rfl⟩
instance:SizeT Tryz.prog 61 1:=⟨fun _=>by kernel_rfl⟩
instance:SliceT Tryz.prog 61 3 1:=⟨by kernel_rfl,fun _=>by kernel_rfl⟩
instance:AggT Tryz.prog 63 2:=⟨fun _=>by kernel_rfl⟩
instance:SizeT Tryz.prog 63 2:=⟨fun _=>by kernel_rfl⟩
abbrev z63:List Value:=[.int .i64 0,.slice none 0 0]
instance:ZeroT Tryz.prog 63 [.int .i64 0,.slice none 0 0]:=⟨fun _=>⟨valL z63,rfl,by kernel_rfl⟩⟩
instance:FieldT Tryz.prog 63 0 0 3:=⟨⟨_,Tryz.underlying63,_,rfl,rfl,rfl⟩,⟨1,by decide,fun _=>by kernel_rfl⟩⟩
instance:FieldT Tryz.prog 63 1 1 61:=⟨⟨_,Tryz.underlying63,_,rfl,rfl,rfl⟩,⟨1,by decide,fun _=>by kernel_rfl⟩⟩
instance:StructT Tryz.prog 63 (fun i=>(#[(0,1),(1,1)]:Array (Nat×Nat))[i]?) [.int .i64 0,.slice none 0 0]:=qd Tryz.underlying63 (fun _=>by kernel_rfl)
instance:AggT Tryz.prog 64 4:=⟨fun _=>by kernel_rfl⟩
instance:SizeT Tryz.prog 64 4:=⟨fun _=>by kernel_rfl⟩
abbrev z64:List Value:=[.slice none 0 0,.slice none 0 0,.slice none 0 0,.slice none 0 0]
instance:ZeroT Tryz.prog 64 [.slice none 0 0,.slice none 0 0,.slice none 0 0,.slice none 0 0]:=⟨fun _=>⟨valL z64,rfl,by kernel_rfl⟩⟩
instance:ArrayT Tryz.prog 64 4 22 1:=⟨by kernel_rfl,fun _=>by kernel_rfl⟩
instance:AggT Tryz.prog 66 12:=⟨fun _=>by kernel_rfl⟩
instance:SizeT Tryz.prog 66 12:=⟨fun _=>by kernel_rfl⟩
abbrev z66:List Value:=[.bool false,.slice none 0 0,.int .i64 0,.slice none 0 0,.int .i64 0,.int .u64 0,.slice none 0 0,.slice none 0 0,.slice none 0 0,.slice none 0 0,.slice none 0 0,.int .u32 0]
instance:ZeroT Tryz.prog 66 [.bool false,.slice none 0 0,.int .i64 0,.slice none 0 0,.int .i64 0,.int .u64 0,.slice none 0 0,.slice none 0 0,.slice none 0 0,.slice none 0 0,.slice none 0 0,.int .u32 0]:=⟨fun _=>⟨valL z66,rfl,by kernel_rfl⟩⟩
instance:FieldT Tryz.prog 66 0 0 4:=⟨⟨_,Tryz.underlying66,_,rfl,rfl,rfl⟩,⟨1,by decide,fun _=>by kernel_rfl⟩⟩
instance:FieldT Tryz.prog 66 1 1 60:=⟨⟨_,Tryz.underlying66,_,rfl,rfl,rfl⟩,⟨1,by decide,fun _=>by kernel_rfl⟩⟩
instance:FieldT Tryz.prog 66 2 2 63:=⟨⟨_,Tryz.underlying66,_,rfl,rfl,rfl⟩,⟨2,by decide,fun _=>by kernel_rfl⟩⟩
instance:FieldT Tryz.prog 66 3 4 3:=⟨⟨_,Tryz.underlying66,_,rfl,rfl,rfl⟩,⟨1,by decide,fun _=>by kernel_rfl⟩⟩
instance:FieldT Tryz.prog 66 4 5 39:=⟨⟨_,Tryz.underlying66,_,rfl,rfl,rfl⟩,⟨1,by decide,fun _=>by kernel_rfl⟩⟩
instance:FieldT Tryz.prog 66 5 6 22:=⟨⟨_,Tryz.underlying66,_,rfl,rfl,rfl⟩,⟨1,by decide,fun _=>by kernel_rfl⟩⟩
instance:FieldT Tryz.prog 66 6 7 64:=⟨⟨_,Tryz.underlying66,_,rfl,rfl,rfl⟩,⟨4,by decide,fun _=>by kernel_rfl⟩⟩
instance:FieldT Tryz.prog 66 7 11 41:=⟨⟨_,Tryz.underlying66,_,rfl,rfl,rfl⟩,⟨1,by decide,fun _=>by kernel_rfl⟩⟩
instance:StructT Tryz.prog 66 (fun i=>(#[(0,1),(1,1),(2,2),(4,1),(5,1),(6,1),(7,4),(11,1)]:Array (Nat×Nat))[i]?) [.bool false,.slice none 0 0,.int .i64 0,.slice none 0 0,.int .i64 0,.int .u64 0,.slice none 0 0,.slice none 0 0,.slice none 0 0,.slice none 0 0,.slice none 0 0,.int .u32 0]:=qd Tryz.underlying66 (fun _=>by kernel_rfl)
instance:ArrayT Tryz.prog 67 6 66 12:=⟨by kernel_rfl,fun _=>by kernel_rfl⟩
instance:ScalarT Tryz.prog 68:=⟨fun _=>by kernel_rfl⟩
instance:AggT Tryz.prog 70 6:=⟨fun _=>by kernel_rfl⟩
instance:SizeT Tryz.prog 70 6:=⟨fun _=>by kernel_rfl⟩
abbrev z70:List Value:=[.bool false,.int .i64 0,.int .i64 0,.int .i64 0,.bool false,.int .i64 0]
instance:ZeroT Tryz.prog 70 [.bool false,.int .i64 0,.int .i64 0,.int .i64 0,.bool false,.int .i64 0]:=⟨fun _=>⟨valL z70,rfl,by kernel_rfl⟩⟩
instance:FieldT Tryz.prog 70 0 0 4:=⟨⟨_,Tryz.underlying70,_,rfl,rfl,rfl⟩,⟨1,by decide,fun _=>by kernel_rfl⟩⟩
instance:FieldT Tryz.prog 70 1 1 3:=⟨⟨_,Tryz.underlying70,_,rfl,rfl,rfl⟩,⟨1,by decide,fun _=>by kernel_rfl⟩⟩
instance:FieldT Tryz.prog 70 2 2 3:=⟨⟨_,Tryz.underlying70,_,rfl,rfl,rfl⟩,⟨1,by decide,fun _=>by kernel_rfl⟩⟩
instance:FieldT Tryz.prog 70 3 3 3:=⟨⟨_,Tryz.underlying70,_,rfl,rfl,rfl⟩,⟨1,by decide,fun _=>by kernel_rfl⟩⟩
instance:FieldT Tryz.prog 70 4 4 4:=⟨⟨_,Tryz.underlying70,_,rfl,rfl,rfl⟩,⟨1,by decide,fun _=>by kernel_rfl⟩⟩
instance:FieldT Tryz.prog 70 5 5 3:=⟨⟨_,Tryz.underlying70,_,rfl,rfl,rfl⟩,⟨1,by decide,fun _=>by kernel_rfl⟩⟩
instance:StructT Tryz.prog 70 (fun i=>(#[(0,1),(1,1),(2,1),(3,1),(4,1),(5,1)]:Array (Nat×Nat))[i]?) [.bool false,.int .i64 0,.int .i64 0,.int .i64 0,.bool false,.int .i64 0]:=qd Tryz.underlying70 (fun _=>by kernel_rfl)
instance:AggT Tryz.prog 72 96:=⟨fun _=>by kernel_rfl⟩
instance:SizeT Tryz.prog 72 96:=⟨fun _=>by kernel_rfl⟩
def z72:List Value:=[.bool false,.int .i64 0,.int .i64 0,.int .i64 0,.bool false,.int .i64 0,.bool false,.int .i64 0,.int .i64 0,.int .i64 0,.bool false,.int .i64 0,.bool false,.int .i64 0,.int .i64 0,.int .i64 0,.bool false,.int .i64 0,.bool false,.int .i64 0,.int .i64 0,.int .i64 0,.bool false,.int .i64 0,.bool false,.int .i64 0,.int .i64 0,.int .i64 0,.bool false,.int .i64 0,.bool false,.int .i64 0,.int .i64 0,.int .i64 0,.bool false,.int .i64 0,.bool false,.int .i64 0,.int .i64 0,.int .i64 0,.bool false,.int .i64 0,.bool false,.int .i64 0,.int .i64 0,.int .i64 0,.bool false,.int .i64 0,.bool false,.int .i64 0,.int .i64 0,.int .i64 0,.bool false,.int .i64 0,.bool false,.int .i64 0,.int .i64 0,.int .i64 0,.bool false,.int .i64 0,.bool false,.int .i64 0,.int .i64 0,.int .i64 0,.bool false,.int .i64 0,.bool false,.int .i64 0,.int .i64 0,.int .i64 0,.bool false,.int .i64 0,.bool false,.int .i64 0,.int .i64 0,.int .i64 0,.bool false,.int .i64 0,.bool false,.int .i64 0,.int .i64 0,.int .i64 0,.bool false,.int .i64 0,.bool false,.int .i64 0,.int .i64 0,.int .i64 0,.bool false,.int .i64 0,.bool false,.int .i64 0,.int .i64 0,.int .i64 0,.bool false,.int .i64 0]
theorem yX:z72.length=96:=by kernel_rfl
instance:ZeroT Tryz.prog 72 z72:=⟨fun _=>⟨valL z72,rfl,by kernel_rfl⟩⟩
instance:ArrayT Tryz.prog 72 16 70 6:=⟨by kernel_rfl,fun _=>by kernel_rfl⟩
instance:ScalarT Tryz.prog 73:=⟨fun _=>by kernel_rfl⟩
def z77:List Value:=[.int .i64 0,.int .u64 0,.bool false,.slice none 0 0,.int .i64 0,.slice none 0 0,.int .i64 0,.int .u64 0,.slice none 0 0,.slice none 0 0,.slice none 0 0,.slice none 0 0,.slice none 0 0,.int .u32 0,.bool false,.slice none 0 0,.int .i64 0,.slice none 0 0,.int .i64 0,.int .u64 0,.slice none 0 0,.slice none 0 0,.slice none 0 0,.slice none 0 0,.slice none 0 0,.int .u32 0,.bool false,.slice none 0 0,.int .i64 0,.slice none 0 0,.int .i64 0,.int .u64 0,.slice none 0 0,.slice none 0 0,.slice none 0 0,.slice none 0 0,.slice none 0 0,.int .u32 0,.bool false,.slice none 0 0,.int .i64 0,.slice none 0 0,.int .i64 0,.int .u64 0,.slice none 0 0,.slice none 0 0,.slice none 0 0,.slice none 0 0,.slice none 0 0,.int .u32 0,.bool false,.slice none 0 0,.int .i64 0,.slice none 0 0,.int .i64 0,.int .u64 0,.slice none 0 0,.slice none 0 0,.slice none 0 0,.slice none 0 0,.slice none 0 0,.int .u32 0,.bool false,.slice none 0 0,.int .i64 0,.slice none 0 0,.int .i64 0,.int .u64 0,.slice none 0 0,.slice none 0 0,.slice none 0 0,.slice none 0 0,.slice none 0 0,.int .u32 0,.pointer none,.bool false,.int .i64 0,.int .i64 0,.int .i64 0,.bool false,.int .i64 0,.bool false,.int .i64 0,.int .i64 0,.int .i64 0,.bool false,.int .i64 0,.bool false,.int .i64 0,.int .i64 0,.int .i64 0,.bool false,.int .i64 0,.bool false,.int .i64 0,.int .i64 0,.int .i64 0,.bool false,.int .i64 0,.bool false,.int .i64 0,.int .i64 0,.int .i64 0,.bool false,.int .i64 0,.bool false,.int .i64 0,.int .i64 0,.int .i64 0,.bool false,.int .i64 0,.bool false,.int .i64 0,.int .i64 0,.int .i64 0,.bool false,.int .i64 0,.bool false,.int .i64 0,.int .i64 0,.int .i64 0,.bool false,.int .i64 0,.bool false,.int .i64 0,.int .i64 0,.int .i64 0,.bool false,.int .i64 0,.bool false,.int .i64 0,.int .i64 0,.int .i64 0,.bool false,.int .i64 0,.bool false,.int .i64 0,.int .i64 0,.int .i64 0,.bool false,.int .i64 0,.bool false,.int .i64 0,.int .i64 0,.int .i64 0,.bool false,.int .i64 0,.bool false,.int .i64 0,.int .i64 0,.int .i64 0,.bool false,.int .i64 0,.bool false,.int .i64 0,.int .i64 0,.int .i64 0,.bool false,.int .i64 0,.bool false,.int .i64 0,.int .i64 0,.int .i64 0,.bool false,.int .i64 0,.bool false,.int .i64 0,.int .i64 0,.int .i64 0,.bool false,.int .i64 0,.pointer none,.int .i64 0,.int .i64 0,.int .i64 0,.int .i64 0,.int .i64 0,.int .i64 0,.int .i64 0,.int .i64 0,.int .i64 0,.int .i64 0,.int .i64 0,.int .i64 0,.int .i64 0,.int .i64 0,.int .i64 0,.int .i64 0,.int .i64 0,.int .i64 0]
theorem zhb:z77.length=190:=by kernel_rfl
instance:ZeroT Tryz.prog 77 z77:=⟨fun _=>⟨valL z77,rfl,by kernel_rfl⟩⟩
instance:FieldT Tryz.prog 77 0 0 3:=⟨⟨_,Tryz.underlying77,_,rfl,rfl,rfl⟩,⟨1,by decide,fun _=>by kernel_rfl⟩⟩
instance:FieldT Tryz.prog 77 1 1 39:=⟨⟨_,Tryz.underlying77,_,rfl,rfl,rfl⟩,⟨1,by decide,fun _=>by kernel_rfl⟩⟩
instance:FieldT Tryz.prog 77 2 2 67:=⟨⟨_,Tryz.underlying77,_,rfl,rfl,rfl⟩,⟨72,by decide,fun _=>by kernel_rfl⟩⟩
instance:FieldT Tryz.prog 77 3 74 68:=⟨⟨_,Tryz.underlying77,_,rfl,rfl,rfl⟩,⟨1,by decide,fun _=>by kernel_rfl⟩⟩
instance:FieldT Tryz.prog 77 4 75 72:=⟨⟨_,Tryz.underlying77,_,rfl,rfl,rfl⟩,⟨96,by decide,fun _=>by kernel_rfl⟩⟩
instance:FieldT Tryz.prog 77 5 171 73:=⟨⟨_,Tryz.underlying77,_,rfl,rfl,rfl⟩,⟨1,by decide,fun _=>by kernel_rfl⟩⟩
instance:StructT Tryz.prog 77 (fun i=>(#[(0,1),(1,1),(2,72),(74,1),(75,96),(171,1),(172,18)]:Array (Nat×Nat))[i]?) z77:=qd Tryz.underlying77 (fun _=>by kernel_rfl)
instance:ScalarT Tryz.prog 78:=⟨fun _=>by kernel_rfl⟩
instance:ScalarT Tryz.prog 79:=⟨fun _=>by kernel_rfl⟩
instance:ScalarT Tryz.prog 80:=⟨fun _=>by kernel_rfl⟩
instance:SizeT Tryz.prog 80 1:=⟨fun _=>by kernel_rfl⟩
instance:SliceT Tryz.prog 80 264 5:=⟨by kernel_rfl,fun _=>by kernel_rfl⟩
instance:FieldT Tryz.prog 82 0 0 80:=⟨⟨_,Tryz.underlying82,_,rfl,rfl,rfl⟩,⟨1,by decide,fun _=>by kernel_rfl⟩⟩
instance:ScalarT Tryz.prog 83:=⟨fun _=>by kernel_rfl⟩
instance:ArrayT Tryz.prog 84 6 58 1:=⟨by kernel_rfl,fun _=>by kernel_rfl⟩
abbrev z86:List Value:=[.pointer none,.pointer none,.slice none 0 0,.pointer none,.slice none 0 0,.slice none 0 0,.slice none 0 0,.slice none 0 0,.slice none 0 0,.slice none 0 0,.slice none 0 0]
instance:ZeroT Tryz.prog 86 [.pointer none,.pointer none,.slice none 0 0,.pointer none,.slice none 0 0,.slice none 0 0,.slice none 0 0,.slice none 0 0,.slice none 0 0,.slice none 0 0,.slice none 0 0]:=⟨fun _=>⟨valL z86,rfl,by kernel_rfl⟩⟩
instance:FieldT Tryz.prog 86 0 0 78:=⟨⟨_,Tryz.underlying86,_,rfl,rfl,rfl⟩,⟨1,by decide,fun _=>by kernel_rfl⟩⟩
instance:FieldT Tryz.prog 86 1 1 79:=⟨⟨_,Tryz.underlying86,_,rfl,rfl,rfl⟩,⟨1,by decide,fun _=>by kernel_rfl⟩⟩
instance:FieldT Tryz.prog 86 2 2 82:=⟨⟨_,Tryz.underlying86,_,rfl,rfl,rfl⟩,⟨1,by decide,fun _=>by kernel_rfl⟩⟩
instance:FieldT Tryz.prog 86 3 3 83:=⟨⟨_,Tryz.underlying86,_,rfl,rfl,rfl⟩,⟨1,by decide,fun _=>by kernel_rfl⟩⟩
instance:FieldT Tryz.prog 86 4 4 61:=⟨⟨_,Tryz.underlying86,_,rfl,rfl,rfl⟩,⟨1,by decide,fun _=>by kernel_rfl⟩⟩
instance:FieldT Tryz.prog 86 5 5 84:=⟨⟨_,Tryz.underlying86,_,rfl,rfl,rfl⟩,⟨6,by decide,fun _=>by kernel_rfl⟩⟩
instance:StructT Tryz.prog 86 (fun i=>(#[(0,1),(1,1),(2,1),(3,1),(4,1),(5,6)]:Array (Nat×Nat))[i]?) [.pointer none,.pointer none,.slice none 0 0,.pointer none,.slice none 0 0,.slice none 0 0,.slice none 0 0,.slice none 0 0,.slice none 0 0,.slice none 0 0,.slice none 0 0]:=qd Tryz.underlying86 (fun _=>by kernel_rfl)
instance:AggT Tryz.prog 91 4:=⟨fun _=>by kernel_rfl⟩
instance:SizeT Tryz.prog 91 4:=⟨fun _=>by kernel_rfl⟩
abbrev z91:List Value:=[.int .u8 0,.int .i64 0,.int .i64 0,.int .i64 0]
instance:ZeroT Tryz.prog 91 [.int .u8 0,.int .i64 0,.int .i64 0,.int .i64 0]:=⟨fun _=>⟨valL z91,rfl,by kernel_rfl⟩⟩
instance:FieldT Tryz.prog 91 0 0 5:=⟨⟨_,Tryz.underlying91,_,rfl,rfl,rfl⟩,⟨1,by decide,fun _=>by kernel_rfl⟩⟩
instance:FieldT Tryz.prog 91 1 1 3:=⟨⟨_,Tryz.underlying91,_,rfl,rfl,rfl⟩,⟨1,by decide,fun _=>by kernel_rfl⟩⟩
instance:FieldT Tryz.prog 91 3 3 3:=⟨⟨_,Tryz.underlying91,_,rfl,rfl,rfl⟩,⟨1,by decide,fun _=>by kernel_rfl⟩⟩
instance:StructT Tryz.prog 91 (fun i=>(#[(0,1),(1,1),(2,1),(3,1)]:Array (Nat×Nat))[i]?) [.int .u8 0,.int .i64 0,.int .i64 0,.int .i64 0]:=qd Tryz.underlying91 (fun _=>by kernel_rfl)
instance:AggT Tryz.prog 111 3:=⟨fun _=>by kernel_rfl⟩
instance:SizeT Tryz.prog 111 3:=⟨fun _=>by kernel_rfl⟩
abbrev z111:List Value:=[.bool false,.int .i64 0,.bool false]
instance:ZeroT Tryz.prog 111 [.bool false,.int .i64 0,.bool false]:=⟨fun _=>⟨valL z111,rfl,by kernel_rfl⟩⟩
instance:FieldT Tryz.prog 111 0 0 4:=⟨⟨_,Tryz.underlying111,_,rfl,rfl,rfl⟩,⟨1,by decide,fun _=>by kernel_rfl⟩⟩
instance:FieldT Tryz.prog 111 1 1 3:=⟨⟨_,Tryz.underlying111,_,rfl,rfl,rfl⟩,⟨1,by decide,fun _=>by kernel_rfl⟩⟩
instance:FieldT Tryz.prog 111 2 2 4:=⟨⟨_,Tryz.underlying111,_,rfl,rfl,rfl⟩,⟨1,by decide,fun _=>by kernel_rfl⟩⟩
instance:StructT Tryz.prog 111 (fun i=>(#[(0,1),(1,1),(2,1)]:Array (Nat×Nat))[i]?) [.bool false,.int .i64 0,.bool false]:=qd Tryz.underlying111 (fun _=>by kernel_rfl)
instance:ScalarT Tryz.prog 125:=⟨fun _=>by kernel_rfl⟩
instance:SizeT Tryz.prog 125 1:=⟨fun _=>by kernel_rfl⟩
instance:SliceT Tryz.prog 125 193 3:=⟨by kernel_rfl,fun _=>by kernel_rfl⟩
abbrev z127:List Value:=[.slice none 0 0]
instance:ZeroT Tryz.prog 127 [.slice none 0 0]:=⟨fun _=>⟨valL z127,rfl,by kernel_rfl⟩⟩
instance:FieldT Tryz.prog 127 0 0 125:=⟨⟨_,Tryz.underlying127,_,rfl,rfl,rfl⟩,⟨1,by decide,fun _=>by kernel_rfl⟩⟩
instance:StructT Tryz.prog 127 (fun i=>(#[(0,1)]:Array (Nat×Nat))[i]?) [.slice none 0 0]:=qd Tryz.underlying127 (fun _=>by kernel_rfl)
instance:ArrayT Tryz.prog 130 6 4 1:=⟨by kernel_rfl,fun _=>by kernel_rfl⟩
instance:ScalarT Tryz.prog 131:=⟨fun _=>by kernel_rfl⟩
instance:ArrayT Tryz.prog 132 32 4 1:=⟨by kernel_rfl,fun _=>by kernel_rfl⟩
instance:AggT Tryz.prog 136 54:=⟨fun _=>by kernel_rfl⟩
instance:SizeT Tryz.prog 136 54:=⟨fun _=>by kernel_rfl⟩
def z136:List Value:=[.bool false,.slice none 0 0,.int .i64 0,.int .u64 0,.slice none 0 0,.slice none 0 0,.slice none 0 0,.slice none 0 0,.slice none 0 0,.bool false,.bool false,.bool false,.bool false,.bool false,.bool false,.pointer none,.bool false,.bool false,.bool false,.bool false,.bool false,.bool false,.bool false,.bool false,.bool false,.bool false,.bool false,.bool false,.bool false,.bool false,.bool false,.bool false,.bool false,.bool false,.bool false,.bool false,.bool false,.bool false,.bool false,.bool false,.bool false,.bool false,.bool false,.bool false,.bool false,.bool false,.bool false,.bool false,.bool false,.bool false,.bool false,.int .u64 0,.int .u64 0,.int .u64 0]
theorem zlp:z136.length=54:=by kernel_rfl
instance:ZeroT Tryz.prog 136 z136:=⟨fun _=>⟨valL z136,rfl,by kernel_rfl⟩⟩
instance:FieldT Tryz.prog 136 0 0 4:=⟨⟨_,Tryz.underlying136,_,rfl,rfl,rfl⟩,⟨1,by decide,fun _=>by kernel_rfl⟩⟩
instance:FieldT Tryz.prog 136 1 1 60:=⟨⟨_,Tryz.underlying136,_,rfl,rfl,rfl⟩,⟨1,by decide,fun _=>by kernel_rfl⟩⟩
instance:FieldT Tryz.prog 136 5 5 64:=⟨⟨_,Tryz.underlying136,_,rfl,rfl,rfl⟩,⟨4,by decide,fun _=>by kernel_rfl⟩⟩
instance:FieldT Tryz.prog 136 6 9 130:=⟨⟨_,Tryz.underlying136,_,rfl,rfl,rfl⟩,⟨6,by decide,fun _=>by kernel_rfl⟩⟩
instance:FieldT Tryz.prog 136 7 15 131:=⟨⟨_,Tryz.underlying136,_,rfl,rfl,rfl⟩,⟨1,by decide,fun _=>by kernel_rfl⟩⟩
instance:FieldT Tryz.prog 136 8 16 132:=⟨⟨_,Tryz.underlying136,_,rfl,rfl,rfl⟩,⟨32,by decide,fun _=>by kernel_rfl⟩⟩
instance:StructT Tryz.prog 136 (fun i=>(#[(0,1),(1,1),(2,1),(3,1),(4,1),(5,4),(9,6),(15,1),(16,32),(48,3),(51,3)]:Array (Nat×Nat))[i]?) z136:=qd Tryz.underlying136 (fun _=>by kernel_rfl)
instance:ArrayT Tryz.prog 137 6 136 54:=⟨by kernel_rfl,fun _=>by kernel_rfl⟩
instance:AggT Tryz.prog 138 6:=⟨fun _=>by kernel_rfl⟩
instance:SizeT Tryz.prog 138 6:=⟨fun _=>by kernel_rfl⟩
abbrev z138:List Value:=[.bool false,.int .i64 0,.int .i64 0,.int .i64 0,.bool false,.int .i64 0]
instance:ZeroT Tryz.prog 138 [.bool false,.int .i64 0,.int .i64 0,.int .i64 0,.bool false,.int .i64 0]:=⟨fun _=>⟨valL z138,rfl,by kernel_rfl⟩⟩
instance:FieldT Tryz.prog 138 0 0 4:=⟨⟨_,Tryz.underlying138,_,rfl,rfl,rfl⟩,⟨1,by decide,fun _=>by kernel_rfl⟩⟩
instance:FieldT Tryz.prog 138 1 1 3:=⟨⟨_,Tryz.underlying138,_,rfl,rfl,rfl⟩,⟨1,by decide,fun _=>by kernel_rfl⟩⟩
instance:FieldT Tryz.prog 138 3 3 3:=⟨⟨_,Tryz.underlying138,_,rfl,rfl,rfl⟩,⟨1,by decide,fun _=>by kernel_rfl⟩⟩
instance:FieldT Tryz.prog 138 5 5 3:=⟨⟨_,Tryz.underlying138,_,rfl,rfl,rfl⟩,⟨1,by decide,fun _=>by kernel_rfl⟩⟩
instance:StructT Tryz.prog 138 (fun i=>(#[(0,1),(1,1),(2,1),(3,1),(4,1),(5,1)]:Array (Nat×Nat))[i]?) [.bool false,.int .i64 0,.int .i64 0,.int .i64 0,.bool false,.int .i64 0]:=qd Tryz.underlying138 (fun _=>by kernel_rfl)
instance:ArrayT Tryz.prog 139 16 138 6:=⟨by kernel_rfl,fun _=>by kernel_rfl⟩
def z141:List Value:=[.int .u64 0,.int .i64 0,.bool false,.slice none 0 0,.int .i64 0,.int .u64 0,.slice none 0 0,.slice none 0 0,.slice none 0 0,.slice none 0 0,.slice none 0 0,.bool false,.bool false,.bool false,.bool false,.bool false,.bool false,.pointer none,.bool false,.bool false,.bool false,.bool false,.bool false,.bool false,.bool false,.bool false,.bool false,.bool false,.bool false,.bool false,.bool false,.bool false,.bool false,.bool false,.bool false,.bool false,.bool false,.bool false,.bool false,.bool false,.bool false,.bool false,.bool false,.bool false,.bool false,.bool false,.bool false,.bool false,.bool false,.bool false,.bool false,.bool false,.bool false,.int .u64 0,.int .u64 0,.int .u64 0,.bool false,.slice none 0 0,.int .i64 0,.int .u64 0,.slice none 0 0,.slice none 0 0,.slice none 0 0,.slice none 0 0,.slice none 0 0,.bool false,.bool false,.bool false,.bool false,.bool false,.bool false,.pointer none,.bool false,.bool false,.bool false,.bool false,.bool false,.bool false,.bool false,.bool false,.bool false,.bool false,.bool false,.bool false,.bool false,.bool false,.bool false,.bool false,.bool false,.bool false,.bool false,.bool false,.bool false,.bool false,.bool false,.bool false,.bool false,.bool false,.bool false,.bool false,.bool false,.bool false,.bool false,.bool false,.bool false,.bool false,.bool false,.int .u64 0,.int .u64 0,.int .u64 0,.bool false,.slice none 0 0,.int .i64 0,.int .u64 0,.slice none 0 0,.slice none 0 0,.slice none 0 0,.slice none 0 0,.slice none 0 0,.bool false,.bool false,.bool false,.bool false,.bool false,.bool false,.pointer none,.bool false,.bool false,.bool false,.bool false,.bool false,.bool false,.bool false,.bool false,.bool false,.bool false,.bool false,.bool false,.bool false,.bool false,.bool false,.bool false,.bool false,.bool false,.bool false,.bool false,.bool false,.bool false,.bool false,.bool false,.bool false,.bool false,.bool false,.bool false,.bool false,.bool false,.bool false,.bool false,.bool false,.bool false,.bool false,.int .u64 0,.int .u64 0,.int .u64 0,.bool false,.slice none 0 0,.int .i64 0,.int .u64 0,.slice none 0 0,.slice none 0 0,.slice none 0 0,.slice none 0 0,.slice none 0 0,.bool false,.bool false,.bool false,.bool false,.bool false,.bool false,.pointer none,.bool false,.bool false,.bool false,.bool false,.bool false,.bool false,.bool false,.bool false,.bool false,.bool false,.bool false,.bool false,.bool false,.bool false,.bool false,.bool false,.bool false,.bool false,.bool false,.bool false,.bool false,.bool false,.bool false,.bool false,.bool false,.bool false,.bool false,.bool false,.bool false,.bool false,.bool false,.bool false,.bool false,.bool false,.bool false,.int .u64 0,.int .u64 0,.int .u64 0,.bool false,.slice none 0 0,.int .i64 0,.int .u64 0,.slice none 0 0,.slice none 0 0,.slice none 0 0,.slice none 0 0,.slice none 0 0,.bool false,.bool false,.bool false,.bool false,.bool false,.bool false,.pointer none,.bool false,.bool false,.bool false,.bool false,.bool false,.bool false,.bool false,.bool false,.bool false,.bool false,.bool false,.bool false,.bool false,.bool false,.bool false,.bool false,.bool false,.bool false,.bool false,.bool false,.bool false,.bool false,.bool false,.bool false,.bool false,.bool false,.bool false,.bool false,.bool false,.bool false,.bool false,.bool false,.bool false,.bool false,.bool false,.int .u64 0,.int .u64 0,.int .u64 0,.bool false,.slice none 0 0,.int .i64 0,.int .u64 0,.slice none 0 0,.slice none 0 0,.slice none 0 0,.slice none 0 0,.slice none 0 0,.bool false,.bool false,.bool false,.bool false,.bool false,.bool false,.pointer none,.bool false,.bool false,.bool false,.bool false,.bool false,.bool false,.bool false,.bool false,.bool false,.bool false,.bool false,.bool false,.bool false,.bool false,.bool false,.bool false,.bool false,.bool false,.bool false,.bool false,.bool false,.bool false,.bool false,.bool false,.bool false,.bool false,.bool false,.bool false,.bool false,.bool false,.bool false,.bool false,.bool false,.bool false,.bool false,.int .u64 0,.int .u64 0,.int .u64 0,.bool false,.int .i64 0,.int .i64 0,.int .i64 0,.bool false,.int .i64 0,.bool false,.int .i64 0,.int .i64 0,.int .i64 0,.bool false,.int .i64 0,.bool false,.int .i64 0,.int .i64 0,.int .i64 0,.bool false,.int .i64 0,.bool false,.int .i64 0,.int .i64 0,.int .i64 0,.bool false,.int .i64 0,.bool false,.int .i64 0,.int .i64 0,.int .i64 0,.bool false,.int .i64 0,.bool false,.int .i64 0,.int .i64 0,.int .i64 0,.bool false,.int .i64 0,.bool false,.int .i64 0,.int .i64 0,.int .i64 0,.bool false,.int .i64 0,.bool false,.int .i64 0,.int .i64 0,.int .i64 0,.bool false,.int .i64 0,.bool false,.int .i64 0,.int .i64 0,.int .i64 0,.bool false,.int .i64 0,.bool false,.int .i64 0,.int .i64 0,.int .i64 0,.bool false,.int .i64 0,.bool false,.int .i64 0,.int .i64 0,.int .i64 0,.bool false,.int .i64 0,.bool false,.int .i64 0,.int .i64 0,.int .i64 0,.bool false,.int .i64 0,.bool false,.int .i64 0,.int .i64 0,.int .i64 0,.bool false,.int .i64 0,.bool false,.int .i64 0,.int .i64 0,.int .i64 0,.bool false,.int .i64 0,.bool false,.int .i64 0,.int .i64 0,.int .i64 0,.bool false,.int .i64 0,.bool false,.int .i64 0,.int .i64 0,.int .i64 0,.bool false,.int .i64 0,.slice none 0 0,.slice none 0 0,.slice none 0 0,.slice none 0 0,.slice none 0 0,.slice none 0 0]
theorem zlo:z141.length=428:=by kernel_rfl
instance:ZeroT Tryz.prog 141 z141:=⟨fun _=>⟨valL z141,rfl,by kernel_rfl⟩⟩
instance:FieldT Tryz.prog 141 0 0 39:=⟨⟨_,Tryz.underlying141,_,rfl,rfl,rfl⟩,⟨1,by decide,fun _=>by kernel_rfl⟩⟩
instance:FieldT Tryz.prog 141 1 1 3:=⟨⟨_,Tryz.underlying141,_,rfl,rfl,rfl⟩,⟨1,by decide,fun _=>by kernel_rfl⟩⟩
instance:FieldT Tryz.prog 141 2 2 137:=⟨⟨_,Tryz.underlying141,_,rfl,rfl,rfl⟩,⟨324,by decide,fun _=>by kernel_rfl⟩⟩
instance:FieldT Tryz.prog 141 3 326 139:=⟨⟨_,Tryz.underlying141,_,rfl,rfl,rfl⟩,⟨96,by decide,fun _=>by kernel_rfl⟩⟩
instance:FieldT Tryz.prog 141 4 422 84:=⟨⟨_,Tryz.underlying141,_,rfl,rfl,rfl⟩,⟨6,by decide,fun _=>by kernel_rfl⟩⟩
instance:StructT Tryz.prog 141 (fun i=>(#[(0,1),(1,1),(2,324),(326,96),(422,6)]:Array (Nat×Nat))[i]?) z141:=qd Tryz.underlying141 (fun _=>by kernel_rfl)
instance:ArrayT Tryz.prog 146 32 22 1:=⟨by kernel_rfl,fun _=>by kernel_rfl⟩
def z148:List Value:=[.slice none 0 0,.slice none 0 0,.slice none 0 0,.slice none 0 0,.slice none 0 0,.slice none 0 0,.slice none 0 0,.slice none 0 0,.slice none 0 0,.slice none 0 0,.slice none 0 0,.slice none 0 0,.slice none 0 0,.slice none 0 0,.slice none 0 0,.slice none 0 0,.slice none 0 0,.slice none 0 0,.slice none 0 0,.slice none 0 0,.slice none 0 0,.slice none 0 0,.slice none 0 0,.slice none 0 0,.slice none 0 0,.slice none 0 0,.slice none 0 0,.slice none 0 0,.slice none 0 0,.slice none 0 0,.slice none 0 0,.slice none 0 0,.bool false,.bool false,.bool false,.bool false,.bool false,.bool false,.bool false,.bool false,.bool false,.bool false,.bool false,.bool false,.bool false,.bool false,.bool false,.bool false,.bool false,.bool false,.bool false,.bool false,.bool false,.bool false,.bool false,.bool false,.bool false,.bool false,.bool false,.bool false,.bool false,.bool false,.bool false,.bool false]
instance:ZeroT Tryz.prog 148 z148:=⟨fun _=>⟨valL z148,rfl,by kernel_rfl⟩⟩
instance:FieldT Tryz.prog 148 0 0 146:=⟨⟨_,Tryz.underlying148,_,rfl,rfl,rfl⟩,⟨32,by decide,fun _=>by kernel_rfl⟩⟩
instance:FieldT Tryz.prog 148 1 32 132:=⟨⟨_,Tryz.underlying148,_,rfl,rfl,rfl⟩,⟨32,by decide,fun _=>by kernel_rfl⟩⟩
instance:StructT Tryz.prog 148 (fun i=>(#[(0,32),(32,32)]:Array (Nat×Nat))[i]?) z148:=qd Tryz.underlying148 (fun _=>by kernel_rfl)
instance:ScalarT Tryz.prog 150:=⟨fun _=>by kernel_rfl⟩
instance:AggT Tryz.prog 173 2:=⟨fun _=>by kernel_rfl⟩
instance:SizeT Tryz.prog 173 2:=⟨fun _=>by kernel_rfl⟩
abbrev z173:List Value:=[.pointer none,.int .i64 0]
instance:ZeroT Tryz.prog 173 [.pointer none,.int .i64 0]:=⟨fun _=>⟨valL z173,rfl,by kernel_rfl⟩⟩
instance:FieldT Tryz.prog 173 0 0 51:=⟨⟨_,Tryz.underlying173,_,rfl,rfl,rfl⟩,⟨1,by decide,fun _=>by kernel_rfl⟩⟩
instance:FieldT Tryz.prog 173 1 1 3:=⟨⟨_,Tryz.underlying173,_,rfl,rfl,rfl⟩,⟨1,by decide,fun _=>by kernel_rfl⟩⟩
instance:StructT Tryz.prog 173 (fun i=>(#[(0,1),(1,1)]:Array (Nat×Nat))[i]?) [.pointer none,.int .i64 0]:=qd Tryz.underlying173 (fun _=>by kernel_rfl)
instance:ScalarT Tryz.prog 175:=⟨fun _=>by kernel_rfl⟩
instance:SizeT Tryz.prog 175 1:=⟨fun _=>by kernel_rfl⟩
instance:SliceT Tryz.prog 175 3 1:=⟨by kernel_rfl,fun _=>by kernel_rfl⟩
instance:ScalarT Tryz.prog 176:=⟨fun _=>by kernel_rfl⟩
instance:SizeT Tryz.prog 176 1:=⟨fun _=>by kernel_rfl⟩
instance:SliceT Tryz.prog 176 4 1:=⟨by kernel_rfl,fun _=>by kernel_rfl⟩
abbrev z178:List Value:=[.slice none 0 0,.slice none 0 0,.int .i64 0]
instance:ZeroT Tryz.prog 178 [.slice none 0 0,.slice none 0 0,.int .i64 0]:=⟨fun _=>⟨valL z178,rfl,by kernel_rfl⟩⟩
instance:FieldT Tryz.prog 178 0 0 175:=⟨⟨_,Tryz.underlying178,_,rfl,rfl,rfl⟩,⟨1,by decide,fun _=>by kernel_rfl⟩⟩
instance:FieldT Tryz.prog 178 1 1 176:=⟨⟨_,Tryz.underlying178,_,rfl,rfl,rfl⟩,⟨1,by decide,fun _=>by kernel_rfl⟩⟩
instance:FieldT Tryz.prog 178 2 2 3:=⟨⟨_,Tryz.underlying178,_,rfl,rfl,rfl⟩,⟨1,by decide,fun _=>by kernel_rfl⟩⟩
instance:StructT Tryz.prog 178 (fun i=>(#[(0,1),(1,1),(2,1)]:Array (Nat×Nat))[i]?) [.slice none 0 0,.slice none 0 0,.int .i64 0]:=qd Tryz.underlying178 (fun _=>by kernel_rfl)
abbrev z180:List Value:=[.slice none 0 0]
instance:ZeroT Tryz.prog 180 [.slice none 0 0]:=⟨fun _=>⟨valL z180,rfl,by kernel_rfl⟩⟩
instance:FieldT Tryz.prog 180 0 0 22:=⟨⟨_,Tryz.underlying180,_,rfl,rfl,rfl⟩,⟨1,by decide,fun _=>by kernel_rfl⟩⟩
instance:StructT Tryz.prog 180 (fun i=>(#[(0,1)]:Array (Nat×Nat))[i]?) [.slice none 0 0]:=qd Tryz.underlying180 (fun _=>by kernel_rfl)
instance:SliceT Tryz.prog 186 111 3:=⟨by kernel_rfl,fun _=>by kernel_rfl⟩
instance:AggT Tryz.prog 193 3:=⟨fun _=>by kernel_rfl⟩
instance:SizeT Tryz.prog 193 3:=⟨fun _=>by kernel_rfl⟩
abbrev z193:List Value:=[.int .u64 0,.int .i64 0,.int .i64 0]
instance:ZeroT Tryz.prog 193 [.int .u64 0,.int .i64 0,.int .i64 0]:=⟨fun _=>⟨valL z193,rfl,by kernel_rfl⟩⟩
instance:FieldT Tryz.prog 193 0 0 39:=⟨⟨_,Tryz.underlying193,_,rfl,rfl,rfl⟩,⟨1,by decide,fun _=>by kernel_rfl⟩⟩
instance:FieldT Tryz.prog 193 1 1 3:=⟨⟨_,Tryz.underlying193,_,rfl,rfl,rfl⟩,⟨1,by decide,fun _=>by kernel_rfl⟩⟩
instance:FieldT Tryz.prog 193 2 2 3:=⟨⟨_,Tryz.underlying193,_,rfl,rfl,rfl⟩,⟨1,by decide,fun _=>by kernel_rfl⟩⟩
instance:StructT Tryz.prog 193 (fun i=>(#[(0,1),(1,1),(2,1)]:Array (Nat×Nat))[i]?) [.int .u64 0,.int .i64 0,.int .i64 0]:=qd Tryz.underlying193 (fun _=>by kernel_rfl)
instance:ScalarT Tryz.prog 197:=⟨fun _=>by kernel_rfl⟩
instance:SliceT Tryz.prog 197 91 4:=⟨by kernel_rfl,fun _=>by kernel_rfl⟩
abbrev z199:List Value:=[.slice none 0 0]
instance:ZeroT Tryz.prog 199 [.slice none 0 0]:=⟨fun _=>⟨valL z199,rfl,by kernel_rfl⟩⟩
instance:FieldT Tryz.prog 199 0 0 197:=⟨⟨_,Tryz.underlying199,_,rfl,rfl,rfl⟩,⟨1,by decide,fun _=>by kernel_rfl⟩⟩
instance:StructT Tryz.prog 199 (fun i=>(#[(0,1)]:Array (Nat×Nat))[i]?) [.slice none 0 0]:=qd Tryz.underlying199 (fun _=>by kernel_rfl)
instance:ScalarT Tryz.prog 222:=⟨fun _=>by kernel_rfl⟩
instance:AggT Tryz.prog 224 4:=⟨fun _=>by kernel_rfl⟩
instance:SizeT Tryz.prog 224 4:=⟨fun _=>by kernel_rfl⟩
abbrev z224:List Value:=[.pointer none,.nilIface,.int .u64 0,.int .i64 0]
instance:ZeroT Tryz.prog 224 [.pointer none,.nilIface,.int .u64 0,.int .i64 0]:=⟨fun _=>⟨valL z224,rfl,by kernel_rfl⟩⟩
instance:FieldT Tryz.prog 224 0 0 150:=⟨⟨_,Tryz.underlying224,_,rfl,rfl,rfl⟩,⟨1,by decide,fun _=>by kernel_rfl⟩⟩
instance:FieldT Tryz.prog 224 1 1 222:=⟨⟨_,Tryz.underlying224,_,rfl,rfl,rfl⟩,⟨1,by decide,fun _=>by kernel_rfl⟩⟩
instance:FieldT Tryz.prog 224 2 2 39:=⟨⟨_,Tryz.underlying224,_,rfl,rfl,rfl⟩,⟨1,by decide,fun _=>by kernel_rfl⟩⟩
instance:FieldT Tryz.prog 224 3 3 3:=⟨⟨_,Tryz.underlying224,_,rfl,rfl,rfl⟩,⟨1,by decide,fun _=>by kernel_rfl⟩⟩
instance:StructT Tryz.prog 224 (fun i=>(#[(0,1),(1,1),(2,1),(3,1)]:Array (Nat×Nat))[i]?) [.pointer none,.nilIface,.int .u64 0,.int .i64 0]:=qd Tryz.underlying224 (fun _=>by kernel_rfl)
instance:AggT Tryz.prog 231 5:=⟨fun _=>by kernel_rfl⟩
instance:SizeT Tryz.prog 231 5:=⟨fun _=>by kernel_rfl⟩
abbrev z231:List Value:=[.int .u8 0,.int .u8 0,.int .u8 0,.int .u8 0,.int .i16 0]
instance:ZeroT Tryz.prog 231 [.int .u8 0,.int .u8 0,.int .u8 0,.int .u8 0,.int .i16 0]:=⟨fun _=>⟨valL z231,rfl,by kernel_rfl⟩⟩
instance:FieldT Tryz.prog 231 0 0 5:=⟨⟨_,Tryz.underlying231,_,rfl,rfl,rfl⟩,⟨1,by decide,fun _=>by kernel_rfl⟩⟩
instance:FieldT Tryz.prog 231 1 1 5:=⟨⟨_,Tryz.underlying231,_,rfl,rfl,rfl⟩,⟨1,by decide,fun _=>by kernel_rfl⟩⟩
instance:FieldT Tryz.prog 231 2 2 5:=⟨⟨_,Tryz.underlying231,_,rfl,rfl,rfl⟩,⟨1,by decide,fun _=>by kernel_rfl⟩⟩
instance:FieldT Tryz.prog 231 3 3 5:=⟨⟨_,Tryz.underlying231,_,rfl,rfl,rfl⟩,⟨1,by decide,fun _=>by kernel_rfl⟩⟩
instance:FieldT Tryz.prog 231 4 4 54:=⟨⟨_,Tryz.underlying231,_,rfl,rfl,rfl⟩,⟨1,by decide,fun _=>by kernel_rfl⟩⟩
instance:StructT Tryz.prog 231 (fun i=>(#[(0,1),(1,1),(2,1),(3,1),(4,1)]:Array (Nat×Nat))[i]?) [.int .u8 0,.int .u8 0,.int .u8 0,.int .u8 0,.int .i16 0]:=qd Tryz.underlying231 (fun _=>by kernel_rfl)
instance:SliceT Tryz.prog 243 39 1:=⟨by kernel_rfl,fun _=>by kernel_rfl⟩
instance:AggT Tryz.prog 262 2:=⟨fun _=>by kernel_rfl⟩
instance:SizeT Tryz.prog 262 2:=⟨fun _=>by kernel_rfl⟩
abbrev z262:List Value:=[.int .i64 0,.int .i64 0]
instance:ZeroT Tryz.prog 262 [.int .i64 0,.int .i64 0]:=⟨fun _=>⟨valL z262,rfl,by kernel_rfl⟩⟩
instance:FieldT Tryz.prog 262 0 0 3:=⟨⟨_,Tryz.underlying262,_,rfl,rfl,rfl⟩,⟨1,by decide,fun _=>by kernel_rfl⟩⟩
instance:StructT Tryz.prog 262 (fun i=>(#[(0,1),(1,1)]:Array (Nat×Nat))[i]?) [.int .i64 0,.int .i64 0]:=qd Tryz.underlying262 (fun _=>by kernel_rfl)
instance:AggT Tryz.prog 264 5:=⟨fun _=>by kernel_rfl⟩
instance:SizeT Tryz.prog 264 5:=⟨fun _=>by kernel_rfl⟩
abbrev z264:List Value:=[.int .i64 0,.int .i64 0,.bool false,.int .i64 0,.bool false]
instance:ZeroT Tryz.prog 264 [.int .i64 0,.int .i64 0,.bool false,.int .i64 0,.bool false]:=⟨fun _=>⟨valL z264,rfl,by kernel_rfl⟩⟩
instance:FieldT Tryz.prog 264 0 0 262:=⟨⟨_,Tryz.underlying264,_,rfl,rfl,rfl⟩,⟨2,by decide,fun _=>by kernel_rfl⟩⟩
instance:FieldT Tryz.prog 264 1 2 111:=⟨⟨_,Tryz.underlying264,_,rfl,rfl,rfl⟩,⟨3,by decide,fun _=>by kernel_rfl⟩⟩
instance:StructT Tryz.prog 264 (fun i=>(#[(0,2),(2,3)]:Array (Nat×Nat))[i]?) [.int .i64 0,.int .i64 0,.bool false,.int .i64 0,.bool false]:=qd Tryz.underlying264 (fun _=>by kernel_rfl)
instance:AggT Tryz.prog 292 4:=⟨fun _=>by kernel_rfl⟩
instance:SizeT Tryz.prog 292 4:=⟨fun _=>by kernel_rfl⟩
abbrev z292:List Value:=[.bool false,.bool false,.bool false,.bool false]
instance:ZeroT Tryz.prog 292 [.bool false,.bool false,.bool false,.bool false]:=⟨fun _=>⟨valL z292,rfl,by kernel_rfl⟩⟩
instance:FieldT Tryz.prog 292 0 0 4:=⟨⟨_,Tryz.underlying292,_,rfl,rfl,rfl⟩,⟨1,by decide,fun _=>by kernel_rfl⟩⟩
instance:FieldT Tryz.prog 292 1 1 4:=⟨⟨_,Tryz.underlying292,_,rfl,rfl,rfl⟩,⟨1,by decide,fun _=>by kernel_rfl⟩⟩
instance:FieldT Tryz.prog 292 2 2 4:=⟨⟨_,Tryz.underlying292,_,rfl,rfl,rfl⟩,⟨1,by decide,fun _=>by kernel_rfl⟩⟩
instance:FieldT Tryz.prog 292 3 3 4:=⟨⟨_,Tryz.underlying292,_,rfl,rfl,rfl⟩,⟨1,by decide,fun _=>by kernel_rfl⟩⟩
instance:StructT Tryz.prog 292 (fun i=>(#[(0,1),(1,1),(2,1),(3,1)]:Array (Nat×Nat))[i]?) [.bool false,.bool false,.bool false,.bool false]:=qd Tryz.underlying292 (fun _=>by kernel_rfl)
instance:ArrayT Tryz.prog 337 64 5 1:=⟨by kernel_rfl,fun _=>by kernel_rfl⟩
instance:IntT Tryz.prog 2 .i64:=⟨by kernel_rfl⟩
instance:IntT Tryz.prog 3 .i64:=⟨by kernel_rfl⟩
instance:NotIface Tryz.prog 3:=⟨⟨.int .i64,by kernel_rfl,rfl⟩⟩
instance:IntT Tryz.prog 5 .u8:=⟨by kernel_rfl⟩
instance:IntT Tryz.prog 39 .u64:=⟨by kernel_rfl⟩
instance:IntT Tryz.prog 41 .u32:=⟨by kernel_rfl⟩
instance:PtrT Tryz.prog 51:=⟨⟨86,by kernel_rfl⟩⟩
instance:IntT Tryz.prog 54 .i16:=⟨by kernel_rfl⟩
instance:IntT Tryz.prog 57 .u64:=⟨by kernel_rfl⟩
instance:PtrT Tryz.prog 68:=⟨⟨199,by kernel_rfl⟩⟩
instance:PtrT Tryz.prog 73:=⟨⟨127,by kernel_rfl⟩⟩
instance:PtrT Tryz.prog 78:=⟨⟨180,by kernel_rfl⟩⟩
instance:PtrT Tryz.prog 79:=⟨⟨178,by kernel_rfl⟩⟩
instance:PtrT Tryz.prog 83:=⟨⟨77,by kernel_rfl⟩⟩
instance:PtrT Tryz.prog 150:=⟨⟨43,by kernel_rfl⟩⟩
instance:IntT Tryz.prog 166 .u16:=⟨by kernel_rfl⟩
instance:NotIface Tryz.prog 173:=⟨⟨_,Tryz.underlying173,rfl⟩⟩
instance : MethS Tryz.prog 173 "Load" 234 := ⟨fun _ _ => by kernel_rfl⟩
instance : MethS Tryz.prog 173 "Save" 233 := ⟨fun _ _ => by kernel_rfl⟩
instance:NotIface Tryz.prog 193:=⟨⟨_,Tryz.underlying193,rfl⟩⟩
instance:NotIface Tryz.prog 205:=⟨⟨.pointer 175,by kernel_rfl,rfl⟩⟩
instance : MethV Tryz.prog 205 "Len" 273 := fM (elem := 175) (by kernel_rfl) Tryz.typeInfo205 (by kernel_rfl) (by kernel_rfl)
instance : MethV Tryz.prog 205 "Less" 274 := fM (elem := 175) (by kernel_rfl) Tryz.typeInfo205 (by kernel_rfl) (by kernel_rfl)
instance : MethP Tryz.prog 205 "Pop" 276 := ⟨fun _ _ => by kernel_rfl⟩
instance : MethP Tryz.prog 205 "Push" 277 := ⟨fun _ _ => by kernel_rfl⟩
instance : MethV Tryz.prog 205 "Swap" 275 := fM (elem := 175) (by kernel_rfl) Tryz.typeInfo205 (by kernel_rfl) (by kernel_rfl)
instance:PtrT Tryz.prog 259:=⟨⟨82,by kernel_rfl⟩⟩
instance:NotIface Tryz.prog 269:=⟨⟨.pointer 125,by kernel_rfl,rfl⟩⟩
instance : MethV Tryz.prog 269 "Len" 269 := fM (elem := 125) (by kernel_rfl) Tryz.typeInfo269 (by kernel_rfl) (by kernel_rfl)
instance : MethV Tryz.prog 269 "Less" 270 := fM (elem := 125) (by kernel_rfl) Tryz.typeInfo269 (by kernel_rfl) (by kernel_rfl)
instance : MethP Tryz.prog 269 "Push" 281 := ⟨fun _ _ => by kernel_rfl⟩
instance : MethV Tryz.prog 269 "Swap" 271 := fM (elem := 125) (by kernel_rfl) Tryz.typeInfo269 (by kernel_rfl) (by kernel_rfl)
instance:ElemT Tryz.prog 22 5 [.int .u8 0] 1 1:=⟨by kernel_rfl,⟨Tryz.t5,.int .u8 0,by kernel_rfl,by kernel_rfl,rfl,by kernel_rfl,by kernel_rfl⟩,rfl,by decide⟩
instance:ElemT Tryz.prog 58 45 [.int .u8 0,.int .i64 0,.int .u64 0,.int .u64 0] 4 32:=⟨by kernel_rfl,⟨Tryz.t45,valL z45,by kernel_rfl,by kernel_rfl,rfl,by kernel_rfl,by kernel_rfl⟩,rfl,by decide⟩
instance:ElemT Tryz.prog 60 43 z43 26 192:=⟨by kernel_rfl,⟨Tryz.t43,valL z43,by kernel_rfl,by kernel_rfl,rfl,by kernel_rfl,by kernel_rfl⟩,rfl,by decide⟩
instance:ElemT Tryz.prog 61 3 [.int .i64 0] 1 8:=⟨by kernel_rfl,⟨Tryz.t3,.int .i64 0,by kernel_rfl,by kernel_rfl,rfl,by kernel_rfl,by kernel_rfl⟩,rfl,by decide⟩
instance:ElemT Tryz.prog 80 264 [.int .i64 0,.int .i64 0,.bool false,.int .i64 0,.bool false] 5 40:=⟨by kernel_rfl,⟨Tryz.t264,valL z264,by kernel_rfl,by kernel_rfl,rfl,by kernel_rfl,by kernel_rfl⟩,rfl,by decide⟩
instance:ElemT Tryz.prog 125 193 [.int .u64 0,.int .i64 0,.int .i64 0] 3 24:=⟨by kernel_rfl,⟨Tryz.t193,valL z193,by kernel_rfl,by kernel_rfl,rfl,by kernel_rfl,by kernel_rfl⟩,rfl,by decide⟩
instance:ElemT Tryz.prog 175 3 [.int .i64 0] 1 8:=⟨by kernel_rfl,⟨Tryz.t3,.int .i64 0,by kernel_rfl,by kernel_rfl,rfl,by kernel_rfl,by kernel_rfl⟩,rfl,by decide⟩
instance:ElemT Tryz.prog 176 4 [.bool false] 1 1:=⟨by kernel_rfl,⟨Tryz.t4,.bool false,by kernel_rfl,by kernel_rfl,rfl,by kernel_rfl,by kernel_rfl⟩,rfl,by decide⟩
instance:ElemT Tryz.prog 186 111 [.bool false,.int .i64 0,.bool false] 3 24:=⟨by kernel_rfl,⟨Tryz.t111,valL z111,by kernel_rfl,by kernel_rfl,rfl,by kernel_rfl,by kernel_rfl⟩,rfl,by decide⟩
instance:ElemT Tryz.prog 197 91 [.int .u8 0,.int .i64 0,.int .i64 0,.int .i64 0] 4 32:=⟨by kernel_rfl,⟨Tryz.t91,valL z91,by kernel_rfl,by kernel_rfl,rfl,by kernel_rfl,by kernel_rfl⟩,rfl,by decide⟩
instance:ElemT Tryz.prog 243 39 [.int .u64 0] 1 8:=⟨by kernel_rfl,⟨Tryz.t39,.int .u64 0,by kernel_rfl,by kernel_rfl,rfl,by kernel_rfl,by kernel_rfl⟩,rfl,by decide⟩
instance:CallT Tryz.prog 17:=⟨Tryz.call17⟩
instance:CallT Tryz.prog 19:=⟨Tryz.call19⟩
instance:CallT Tryz.prog 25:=⟨Tryz.call25⟩
instance:CallT Tryz.prog 27:=⟨Tryz.call27⟩
instance:CallT Tryz.prog 28:=⟨Tryz.call28⟩
instance:CallT Tryz.prog 30:=⟨Tryz.call30⟩
instance:CallT Tryz.prog 31:=⟨Tryz.call31⟩
instance:CallT Tryz.prog 32:=⟨Tryz.call32⟩
instance:CallT Tryz.prog 34:=⟨Tryz.call34⟩
instance:CallT Tryz.prog 35:=⟨Tryz.call35⟩
instance:CallT Tryz.prog 37:=⟨Tryz.call37⟩
instance:CallT Tryz.prog 38:=⟨Tryz.call38⟩
instance:CallT Tryz.prog 39:=⟨Tryz.call39⟩
instance:CallT Tryz.prog 40:=⟨Tryz.call40⟩
instance:CallT Tryz.prog 43:=⟨Tryz.call43⟩
instance:CallT Tryz.prog 50:=⟨Tryz.call50⟩
instance:CallT Tryz.prog 51:=⟨Tryz.call51⟩
instance:CallT Tryz.prog 52:=⟨Tryz.call52⟩
instance:CallT Tryz.prog 53:=⟨Tryz.call53⟩
instance:CallT Tryz.prog 56:=⟨Tryz.call56⟩
instance:CallT Tryz.prog 58:=⟨Tryz.call58⟩
instance:CallT Tryz.prog 59:=⟨Tryz.call59⟩
instance:CallT Tryz.prog 61:=⟨Tryz.call61⟩
instance:CallT Tryz.prog 68:=⟨Tryz.call68⟩
instance:CallT Tryz.prog 70:=⟨Tryz.call70⟩
instance:CallT Tryz.prog 71:=⟨Tryz.call71⟩
instance:CallT Tryz.prog 72:=⟨Tryz.call72⟩
instance:CallT Tryz.prog 74:=⟨Tryz.call74⟩
instance:CallT Tryz.prog 75:=⟨Tryz.call75⟩
instance:CallT Tryz.prog 76:=⟨Tryz.call76⟩
instance:CallT Tryz.prog 77:=⟨Tryz.call77⟩
instance:CallT Tryz.prog 78:=⟨Tryz.call78⟩
instance:CallT Tryz.prog 79:=⟨Tryz.call79⟩
instance:CallT Tryz.prog 80:=⟨Tryz.call80⟩
instance:CallT Tryz.prog 81:=⟨Tryz.call81⟩
instance:CallT Tryz.prog 82:=⟨Tryz.call82⟩
instance:CallT Tryz.prog 83:=⟨Tryz.call83⟩
instance:CallT Tryz.prog 84:=⟨Tryz.call84⟩
instance:CallT Tryz.prog 85:=⟨Tryz.call85⟩
instance:CallT Tryz.prog 86:=⟨Tryz.call86⟩
instance:CallT Tryz.prog 87:=⟨Tryz.call87⟩
instance:CallT Tryz.prog 88:=⟨Tryz.call88⟩
instance:CallT Tryz.prog 89:=⟨Tryz.call89⟩
instance:CallT Tryz.prog 90:=⟨Tryz.call90⟩
instance:CallT Tryz.prog 91:=⟨Tryz.call91⟩
instance:CallT Tryz.prog 92:=⟨Tryz.call92⟩
instance:CallT Tryz.prog 93:=⟨Tryz.call93⟩
instance:CallT Tryz.prog 106:=⟨Tryz.call106⟩
instance:CallT Tryz.prog 107:=⟨Tryz.call107⟩
instance:CallT Tryz.prog 108:=⟨Tryz.call108⟩
instance:CallT Tryz.prog 109:=⟨Tryz.call109⟩
instance:CallT Tryz.prog 110:=⟨Tryz.call110⟩
instance:CallT Tryz.prog 111:=⟨Tryz.call111⟩
instance:CallT Tryz.prog 115:=⟨Tryz.call115⟩
instance:CallT Tryz.prog 116:=⟨Tryz.call116⟩
instance:CallT Tryz.prog 117:=⟨Tryz.call117⟩
instance:CallT Tryz.prog 118:=⟨Tryz.call118⟩
instance:CallT Tryz.prog 120:=⟨Tryz.call120⟩
instance:CallT Tryz.prog 121:=⟨Tryz.call121⟩
instance:CallT Tryz.prog 122:=⟨Tryz.call122⟩
instance:CallT Tryz.prog 123:=⟨Tryz.call123⟩
instance:CallT Tryz.prog 124:=⟨Tryz.call124⟩
instance:CallT Tryz.prog 134:=⟨Tryz.call134⟩
instance:CallT Tryz.prog 135:=⟨Tryz.call135⟩
instance:CallT Tryz.prog 138:=⟨Tryz.call138⟩
instance:CallT Tryz.prog 139:=⟨Tryz.call139⟩
instance:CallT Tryz.prog 140:=⟨Tryz.call140⟩
instance:CallT Tryz.prog 141:=⟨Tryz.call141⟩
instance:CallT Tryz.prog 142:=⟨Tryz.call142⟩
instance:CallT Tryz.prog 143:=⟨Tryz.call143⟩
instance:CallT Tryz.prog 144:=⟨Tryz.call144⟩
instance:CallT Tryz.prog 145:=⟨Tryz.call145⟩
instance:CallT Tryz.prog 146:=⟨Tryz.call146⟩
instance:CallT Tryz.prog 147:=⟨Tryz.call147⟩
instance:CallT Tryz.prog 149:=⟨Tryz.call149⟩
instance:CallT Tryz.prog 150:=⟨Tryz.call150⟩
instance:CallT Tryz.prog 151:=⟨Tryz.call151⟩
instance:CallT Tryz.prog 152:=⟨Tryz.call152⟩
instance:CallT Tryz.prog 153:=⟨Tryz.call153⟩
instance:CallT Tryz.prog 154:=⟨Tryz.call154⟩
instance:CallT Tryz.prog 155:=⟨Tryz.call155⟩
instance:CallT Tryz.prog 159:=⟨Tryz.call159⟩
instance:CallT Tryz.prog 161:=⟨Tryz.call161⟩
instance:CallT Tryz.prog 162:=⟨Tryz.call162⟩
instance:CallT Tryz.prog 163:=⟨Tryz.call163⟩
instance:CallT Tryz.prog 164:=⟨Tryz.call164⟩
instance:CallT Tryz.prog 165:=⟨Tryz.call165⟩
instance:CallT Tryz.prog 166:=⟨Tryz.call166⟩
instance:CallT Tryz.prog 167:=⟨Tryz.call167⟩
instance:CallT Tryz.prog 170:=⟨Tryz.call170⟩
instance:CallT Tryz.prog 171:=⟨Tryz.call171⟩
instance:CallT Tryz.prog 172:=⟨Tryz.call172⟩
instance:CallT Tryz.prog 173:=⟨Tryz.call173⟩
instance:CallT Tryz.prog 174:=⟨Tryz.call174⟩
instance:CallT Tryz.prog 175:=⟨Tryz.call175⟩
instance:CallT Tryz.prog 176:=⟨Tryz.call176⟩
instance:CallT Tryz.prog 177:=⟨Tryz.call177⟩
instance:CallT Tryz.prog 178:=⟨Tryz.call178⟩
instance:CallT Tryz.prog 179:=⟨Tryz.call179⟩
instance:CallT Tryz.prog 180:=⟨Tryz.call180⟩
instance:CallT Tryz.prog 199:=⟨Tryz.call199⟩
instance:CallT Tryz.prog 200:=⟨Tryz.call200⟩
instance:CallT Tryz.prog 201:=⟨Tryz.call201⟩
instance:CallT Tryz.prog 202:=⟨Tryz.call202⟩
instance:CallT Tryz.prog 203:=⟨Tryz.call203⟩
instance:CallT Tryz.prog 204:=⟨Tryz.call204⟩
instance:CallT Tryz.prog 205:=⟨Tryz.call205⟩
instance:CallT Tryz.prog 206:=⟨Tryz.call206⟩
instance:CallT Tryz.prog 207:=⟨Tryz.call207⟩
instance:CallT Tryz.prog 208:=⟨Tryz.call208⟩
instance:CallT Tryz.prog 209:=⟨Tryz.call209⟩
instance:CallT Tryz.prog 210:=⟨Tryz.call210⟩
instance:CallT Tryz.prog 211:=⟨Tryz.call211⟩
instance:CallT Tryz.prog 212:=⟨Tryz.call212⟩
instance:CallT Tryz.prog 213:=⟨Tryz.call213⟩
instance:CallT Tryz.prog 214:=⟨Tryz.call214⟩
instance:CallT Tryz.prog 215:=⟨Tryz.call215⟩
instance:CallT Tryz.prog 216:=⟨Tryz.call216⟩
instance:CallT Tryz.prog 218:=⟨Tryz.call218⟩
instance:CallT Tryz.prog 219:=⟨Tryz.call219⟩
instance:CallT Tryz.prog 221:=⟨Tryz.call221⟩
instance:CallT Tryz.prog 222:=⟨Tryz.call222⟩
instance:CallT Tryz.prog 223:=⟨Tryz.call223⟩
instance:CallT Tryz.prog 224:=⟨Tryz.call224⟩
instance:CallT Tryz.prog 225:=⟨Tryz.call225⟩
instance:CallT Tryz.prog 229:=⟨Tryz.call229⟩
instance:CallT Tryz.prog 230:=⟨Tryz.call230⟩
instance:CallT Tryz.prog 231:=⟨Tryz.call231⟩
instance:CallT Tryz.prog 232:=⟨Tryz.call232⟩
instance:CallT Tryz.prog 233:=⟨Tryz.call233⟩
instance:CallT Tryz.prog 234:=⟨Tryz.call234⟩
instance:CallT Tryz.prog 235:=⟨Tryz.call235⟩
instance:CallT Tryz.prog 239:=⟨Tryz.call239⟩
instance:CallT Tryz.prog 240:=⟨Tryz.call240⟩
instance:CallT Tryz.prog 241:=⟨Tryz.call241⟩
instance:CallT Tryz.prog 242:=⟨Tryz.call242⟩
instance:CallT Tryz.prog 243:=⟨Tryz.call243⟩
instance:CallT Tryz.prog 248:=⟨Tryz.call248⟩
instance:CallT Tryz.prog 249:=⟨Tryz.call249⟩
instance:CallT Tryz.prog 269:=⟨Tryz.call269⟩
instance:CallT Tryz.prog 270:=⟨Tryz.call270⟩
instance:CallT Tryz.prog 271:=⟨Tryz.call271⟩
instance:CallT Tryz.prog 272:=⟨Tryz.call272⟩
instance:CallT Tryz.prog 273:=⟨Tryz.call273⟩
instance:CallT Tryz.prog 274:=⟨Tryz.call274⟩
instance:CallT Tryz.prog 275:=⟨Tryz.call275⟩
instance:CallT Tryz.prog 276:=⟨Tryz.call276⟩
instance:CallT Tryz.prog 277:=⟨Tryz.call277⟩
instance:CallT Tryz.prog 281:=⟨Tryz.call281⟩
end Go.Proofs.YtabdpmnhjlmnlaaGreatDoor
end
