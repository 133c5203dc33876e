/- Texts of this work,joined by program (pack.py). -/
import Derived.WalkKit
import Derived.Deep.RegionHeld
import Derived.Deep.AppendLies
import Derived.KernelRfl
set_option linter.unusedVariables false
namespace Go.Pt
section
open Go Go.RowKit
/-! ### Lists read and written by place -/
def nthL {α:Type}:List α→Nat→Option α
 | [],_=>none
 | v :: _,0=>some v
 | _ :: l,n+1=>nthL l n
def setL {α:Type}:List α→Nat→α→List α
 | [],_,_=>[]
 | _ :: l,0,v=>v :: l
 | x :: l,n+1,v=>x :: setL l n v
theorem zI {α:Type}:∀ (l:List α) (n:Nat),nthL l n=l[n]?
 | [],_=>by simp[nthL]
 | _ :: _,0=>by simp[nthL]
 | _ :: l,n+1=>by simp[nthL,zI l n]
theorem qv {α:Type} {l:List α} {n:Nat} {v:α} (h:nthL l n=some v):v∈l:=by
 rw[zI] at h;exact List.mem_of_getElem? h
/-! ### Frames -/
structure Fr where
 n:Nat
 kv:List (Nat×Value)
def look:List (Nat×Value)→Nat→Option Value
 | [],_=>none
 | (d,v) :: r,i=>match Nat.beq d i with
  | true=>some v
  | false=>look r i
def nth (l:Fr) (i:Nat):Option Value:=match Nat.blt i l.n with
 | true=>look l.kv i
 | false=>none
def setn (l:Fr) (d:Nat) (v:Value):Fr:=⟨l.n,(d,v) :: l.kv⟩
def putn (l:Fr):Option Tmp→Value→Fr
 | some d,v=>setn l d v
 | none,_=>l
theorem zeZ (d:Nat) (v:Value) (r:List (Nat×Value)) (i:Nat):look ((d,v) :: r) i=if d=i then some v else look r i:=by
 simp only[look]
 by_cases h:d=i
 ·subst h;simp
 ·have:Nat.beq d i=false:=by rw[Bool.eq_false_iff];intro hb;exact h (Nat.eq_of_beq_eq_true hb)
  simp[this,h]
theorem zjC (l:Fr) (i:Nat):nth l i=if i<l.n then look l.kv i else none:=by
 unfold nth
 by_cases h:i<l.n
 ·have:Nat.blt i l.n=true:=by simpa [Nat.blt_eq] using h
  simp[this,h]
 ·have:Nat.blt i l.n=false:=by rw[Bool.eq_false_iff];intro hb;exact h (by simpa [Nat.blt_eq] using hb)
  simp[this,h]
structure Ag (l:Fr) (a:Act):Prop where
 defers:a.defers=[]
 size:a.tmps.size=l.n
 slots:∀ i v,nth l i=some v→a.tmps[i]? = some v
def ev (l:Fr):Operand→Option Value
 | .tmp t=>nth l t
 | .const v=>some v
 | .global g=>some (.pointer (some ⟨g,0,none⟩))
 | .func f=>some (.func (.func f) #[] #[])
theorem Ag.eval {l:Fr} {a:Act} {x:Operand} {v:Value} (h:Ag l a) (hx:ev l x=some v):a.eval x=v:=by
 cases x with
 | tmp t=>simp only[ev] at hx;simp[Act.eval,h.slots t v hx]
 | const u=>simpa [ev,Act.eval] using hx
 | global g=>simpa [ev,Act.eval] using hx
 | func f=>simpa [ev,Act.eval] using hx
def evs (l:Fr):List Operand→Option (List Value)
 | []=>some []
 | x :: xs=>match ev l x,evs l xs with
  | some v,some vs=>some (v :: vs)
  | _,_=>none
theorem Ag.evals {l:Fr} {a:Act} (h:Ag l a):∀ {xs:List Operand} {vs:List Value},evs l xs=some vs→xs.map a.eval=vs
 | [],vs,hx=>by simp[evs] at hx;simp[←hx]
 | x :: xs,vs,hx=>by
  simp only[evs] at hx
  split at hx
  ·rename_i v us h1 h2
   cases hx
   simp[h.eval h1,h.evals h2]
  ·cases hx
theorem Ag.put {l:Fr} {a:Act} (h:Ag l a) (d:Option Tmp) (v:Value):Ag (putn l d v) (a.put d v):=by
 cases d with
 | none=>exact h
 | some d=>
  refine⟨h.defers,by simp[Act.put,putn,setn,h.size],fun i u hu=>?_⟩
  rw[zjC] at hu
  simp only[putn,setn,zeZ] at hu
  simp only[Act.put,Array.getElem?_setIfInBounds]
  split at hu
  ·rename_i hlt
   split at hu
   ·rename_i hd
    subst hd
    cases hu
    simp[h.size,hlt]
   ·rename_i hd
    rw[if_neg hd]
    exact h.slots i u (by rw[zjC,if_pos hlt];exact hu)
  ·cases hu
/-! ### Types -/
class ScalarT (P:Program) (t:TypeId):Prop where
 run:∀ w,(isAgg t).run P w=.ok false w
class AggT (P:Program) (t:TypeId) (n:outParam Nat):Prop where
 run:∀ w,(isAgg t).run P w=.ok true w
class SizeT (P:Program) (t:TypeId) (n:outParam Nat):Prop where
 run:∀ w,(sizeOf t).run P w=.ok n w
class ZeroT (P:Program) (t:TypeId) (z:outParam (List Value)):Prop where
 run:∀ w,∃ v:Value,v.cells=z.toArray∧(zeroValue t).run P w=.ok v w
class FieldT (P:Program) (s:TypeId) (i:Nat) (off:outParam Nat) (ft:outParam TypeId):Prop where
 run:∃ fs:Array Field,P.underlying s=some (.struct fs)∧∃ f,fs[i]? = some f∧f.offset=off∧f.type=ft
 size:∃ k,k≠0∧∀ w,(sizeOf ft).run P w=.ok k w
class ArrayT (P:Program) (t:TypeId) (n:outParam Nat) (e:outParam TypeId) (size:outParam Nat):Prop where
 run:P.underlying t=some (.array n e)
 size:∀ w,(sizeOf e).run P w=.ok size w
class SliceT (P:Program) (t:TypeId) (e:outParam TypeId) (size:outParam Nat):Prop where
 run:P.underlying t=some (.slice e)
 size:∀ w,(sizeOf e).run P w=.ok size w
class CallT (P:Program) (f:FuncId):Prop where
 run:∀ args w,(callFunc f args).run P w=.ok (.enter f args) w
def valL:List Value→Value:=fun cs=>.agg cs.toArray
def inK (k:IntKind) (x:Int):Prop:=match k with
 | .i8=>-128≤x∧x≤127 | .i16=>-32768≤x∧x≤32767 | .i32=>-2147483648≤x∧x≤2147483647 | .i64=>-9223372036854775808≤x∧x≤9223372036854775807
 | .u8=>0≤x∧x≤255 | .u16=>0≤x∧x≤65535 | .u32=>0≤x∧x≤4294967295 | .u64=>0≤x∧x≤18446744073709551615
theorem zgm {k:IntKind} {x:Int} (h:inK k x):k.wrap x=x:=by
 cases k <;> simp only[inK] at h <;> simp[IntKind.wrap,IntKind.bits,IntKind.signed] <;> omega
/-! structs and arrays as values -/
def spl:List Value→Nat→List Value→List Value
 | cs,0,vs=>vs++cs.drop vs.length
 | [],_+1,_=>[]
 | c :: cs,n+1,vs=>c :: spl cs n vs
theorem xi:∀ (cs:List Value) (o:Nat) (vs:List Value),o≤cs.length→spl cs o vs=cs.take o++vs++cs.drop (o+vs.length)
 | cs,0,vs,_=>by simp[spl]
 | [],_+1,_,h=>by simp at h
 | c :: cs,n+1,vs,h=>by simp[spl,xi cs n vs (by simpa using h),Nat.add_right_comm]
def cellsL:Value→List Value
 | .agg cs=>cs.toList
 | v=>[v]
theorem zcu (v:Value):v.cells=(cellsL v).toArray:=by cases v <;> simp[Value.cells,cellsL]
def fillS:(Nat→Option (Nat×Nat))→List Value→List (Nat×Value)→Option (List Value)
 | _,cs,[]=>some cs
 | pl,cs,(i,v) :: rest=>match pl i with
  | none=>none
  | some (off,size)=>if ((cellsL v).length == size && Nat.ble (off+size) cs.length)=true then fillS pl (spl cs off (cellsL v)) rest else none
theorem zhO (off:Nat):∀ (vs:List Value) (j:Nat) (cs:List Value),off+j+vs.length≤cs.length →
  ((vs.zipIdx j).foldl (fun (acc:Array Value) (x:Value×Nat)=>acc.setIfInBounds (off+x.2) x.1) cs.toArray).toList=spl cs (off+j) vs
 | [],j,cs,h=>by
  simp only[List.zipIdx_nil,List.foldl_nil]
  rw[xi cs (off+j) [] (by simpa using h)]
  simp
 | v :: vs,j,cs,h=>by
  simp only[List.zipIdx_cons,List.foldl_cons,List.setIfInBounds_toArray]
  have hl:off+(j+1)+vs.length≤(cs.set (off+j) v).length:=by simp at h ⊢;omega
  rw[zhO off vs (j+1) _ hl,xi _ _ _ (by simp at h ⊢;omega),xi _ _ _ (by simp at h;omega)]
  apply List.ext_getElem?
  intro k
  simp only[List.length_cons] at h
  simp only[List.getElem?_append,List.length_append,List.length_take,List.length_set,List.getElem?_take,List.getElem?_set,List.getElem?_drop,List.length_cons]
  rcases Nat.lt_trichotomy k (off+j) with hk | hk | hk
  ·simp[show k<min (off+(j+1)) cs.length+vs.length by omega,show k<min (off+(j+1)) cs.length by omega,show k<off+(j+1) by omega,show ¬off+j=k by omega,
    show k<min (off+j) cs.length+(vs.length+1) by omega,show k<min (off+j) cs.length by omega,hk]
  ·subst hk
   simp[show off+j<min (off+(j+1)) cs.length+vs.length by omega,show off+j<min (off+(j+1)) cs.length by omega,show off+j<off+(j+1) by omega,show off+j<cs.length by omega,
    show off+j<min (off+j) cs.length+(vs.length+1) by omega,show ¬off+j<min (off+j) cs.length by omega,show off+j-min (off+j) cs.length=0 by omega]
  ·by_cases h2:k<off+j+1+vs.length
   ·have e:k-min (off+j) cs.length=(k-min (off+(j+1)) cs.length)+1:=by omega
    simp[show k<min (off+(j+1)) cs.length+vs.length by omega,show ¬k<min (off+(j+1)) cs.length by omega,show k<min (off+j) cs.length+(vs.length+1) by omega,show ¬k<min (off+j) cs.length by omega,e]
   ·simp[show ¬k<min (off+(j+1)) cs.length+vs.length by omega,show ¬k<min (off+j) cs.length+(vs.length+1) by omega,show ¬off+j=off+(j+1)+vs.length+(k-(min (off+(j+1)) cs.length+vs.length)) by omega]
    congr 1;omega
theorem gO (pl:Nat→Option (Nat×Nat)):∀ (ps:List (Nat×Value)) (cs out:List Value),fillS pl cs ps=some out→Instr.fill pl cs.toArray ps=some out.toArray
 | [],cs,out,h=>by simp[fillS] at h;simp[Instr.fill,h]
 | (i,v) :: rest,cs,out,h=>by
  simp only[fillS] at h
  cases hp:pl i with
  | none=>simp[hp] at h
  | some q=>
   obtain⟨off,size⟩:=q
   simp only[hp] at h
   split at h
   ·rename_i hc
    simp only[Bool.and_eq_true,beq_iff_eq,Nat.ble_eq] at hc
    have ih:=gO pl rest _ out h
    have hf:=zhO off (cellsL v) 0 cs (by omega)
    simp only[Nat.add_zero] at hf
    have hsz:v.cells.size=size:=by rw[zcu];simp[hc.1]
    simp only[Instr.fill,hp,hsz,List.size_toArray]
    rw[if_neg (by simp;omega)]
    rw[←ih]
    congr 1
    apply Array.toList_inj.1
    rw[←hf,zcu]
    simp[Array.zipIdx_toArray]
   ·cases h
class StructT (P:Program) (t:TypeId) (pl:outParam (Nat→Option (Nat×Nat))) (z:outParam (List Value)):Prop where
 run:∀ w (parts:Array (Nat×Value)) (cs:Array Value),Instr.fill pl z.toArray parts.toList=some cs→(Instr.build t parts).run P w=.ok (.agg cs) w
theorem qc {P:Program} {t:TypeId} {z:List Value} {fs:Array Field} {pl:Array (Nat×Nat)} [hz:ZeroT P t z] (hu:P.underlying t=some (.struct fs))
  (hp:∀ w,(fs.mapM fun f=>do pure (f.offset,←sizeOf f.type):Sem (Array (Nat×Nat))).run P w=.ok pl w):StructT P t (fun i=>pl[i]?) z where
 run w parts cs h:=by
  obtain⟨v,hv,hz⟩:=hz.run w
  have hp':=hp w
  simp only[Instr.build,Sem.run_bind,hz,Result.andThen_ok,run_underlying hu,hv] at hp' ⊢
  rw[hp']
  simp only[Result.andThen_ok,h,Sem.run_pure]
theorem zmC {P:Program} {t:TypeId} {z:List Value} {n e size:Nat} [hz:ZeroT P t z] (hu:P.underlying t=some (.array n e)) (hs:∀ w,(sizeOf e).run P w=.ok size w):StructT P t (fun i=>some (i*size,size)) z where
 run w parts cs h:=by
  obtain⟨v,hv,hz⟩:=hz.run w
  simp only[Instr.build,Sem.run_bind,hz,Result.andThen_ok,run_underlying hu,hv,Sem.run_pure,hs,h]
def evp (l:Fr):List (Nat×Operand)→Option (List (Nat×Value))
 | []=>some []
 | (i,x) :: xs=>match ev l x,evp l xs with
  | some v,some vs=>some ((i,v) :: vs)
  | _,_=>none
theorem Ag.evalp {l:Fr} {a:Act} (h:Ag l a):∀ {xs:List (Nat×Operand)} {vs:List (Nat×Value)},evp l xs=some vs→xs.map (fun (i,x)=>(i,a.eval x))=vs
 | [],vs,hx=>by simp[evp] at hx;simp[←hx]
 | (i,x) :: xs,vs,hx=>by
  simp only[evp] at hx
  split at hx
  ·rename_i v us h1 h2
   cases hx
   simp[h.eval h1,h.evalp h2]
  ·cases hx
def wantL (opl:List Oper) (l:Fr):Option (Nat×Bool)→Option Bool
 | none=>some true
 | some (j,b)=>match nthL opl j with
  | none=>none
  | some o=>match o.dst with
   | none=>none
   | some d=>match nth l d with
    | some (.bool b')=>some (b' == b)
    | some (.tuple _)=>some false
    | _=>none
theorem qu {opl:List Oper} {l:Fr} {o:Oper} {b:Bool} {a:Act} (h:wantL opl l o.guard=some b) (ha:Ag l a):Region.wanted o (yielded opl.toArray a.tmps)=b:=by
 unfold Region.wanted
 cases hg:o.guard with
 | none=>rw[hg] at h;simpa [wantL] using h
 | some q=>
  obtain⟨j,want⟩:=q
  rw[hg] at h
  simp only[wantL,zI] at h
  simp only[yielded]
  cases hj:opl[j]? with
  | none=>simp[hj] at h
  | some oj=>
   simp only[hj] at h
   cases hd:oj.dst with
   | none=>simp[hd] at h
   | some d=>
    simp only[hd] at h
    cases hn:nth l d with
    | none=>simp[hn] at h
    | some v=>
     have:=ha.slots d v hn
     simp only[hn] at h
     cases v <;> simp_all
def leF (l:Fr):List (Nat×Value)→Prop
 | []=>True
 | (d,v) :: r=>nth l d=some v∧leF l r
theorem zlX {l:Fr}:∀ {m:List (Nat×Value)},leF l m→∀ i v,look m i=some v→nth l i=some v
 | [],_,i,v,hv=>by simp[look] at hv
 | (d,u) :: r,h,i,v,hv=>by
  rw[zeZ] at hv
  split at hv
  ·rename_i hd;subst hd;cases hv;exact h.1
  ·exact zlX h.2 i v hv
theorem Ag.forget {l m:Fr} {a:Act} (h:Ag l a) (hl:m.n=l.n) (hf:leF l m.kv):Ag m a:=⟨h.defers,by rw[h.size,hl],fun i v hv=>by
 rw[zjC] at hv
 split at hv
 ·exact h.slots i v (zlX hf i v hv)
 ·cases hv⟩
def argsF:Nat→List Value→List (Nat×Value)
 | _,[]=>[]
 | i,v :: vs=>(i,v) :: argsF (i+1) vs
theorem zfX:∀ (vs:List Value) (i j:Nat) (u:Value),look (argsF i vs) j=some u→i≤j∧vs[j-i]? = some u
 | [],i,j,u,h=>by simp[argsF,look] at h
 | v :: vs,i,j,u,h=>by
  rw[argsF,zeZ] at h
  split at h
  ·rename_i hij;subst hij;cases h;simp
  ·obtain⟨h1,h2⟩:=zfX vs (i+1) j u h
   refine⟨by omega,?_⟩
   rw[show j-i=(j-(i+1))+1 by omega]
   simpa using h2
def mkFr (vs:List Value) (n:Nat):Fr:=⟨n,argsF 0 vs⟩
section
variable {P:Program}
def rvF (a:Act):ResultVar→Sem Value
 | .tmp t=>pure (a.tmps.getD t undef)
 | .cell p t=>do loadVar t (←asAddr (a.tmps.getD p undef))
theorem ziJ {a:Act} {w:World} {r:ResultVar} {v:Value} {rs:List ResultVar} {vs:List Value} (h1:(rvF a r).run P w=.ok v w) (h2:(rs.mapM (rvF a)).run P w=.ok vs w):((r :: rs).mapM (rvF a)).run P w=.ok (v :: vs) w:=by
 rw[List.mapM_cons,Sem.run_bind,h1,Result.andThen_ok,Sem.run_bind,h2,Result.andThen_ok,Sem.run_pure]
end
def retVal:List Value→Value
 | [v]=>v
 | vs=>.tuple vs.toArray
theorem zkl (fn:Func) (a:Act):results fn a.tmps=(do let vs ←fn.results.mapM (rvF a);pure (if h:vs.size=1 then vs[0] else .tuple vs)):=by
 unfold results
 congr 1
class ElemT (P:Program) (t:TypeId) (e:outParam TypeId) (z:outParam (List Value)) (size bytes:outParam Nat):Prop where
 sl:P.underlying t=some (.slice e)
 info:∃ i v,P.info? e=some i∧i.zero=some v∧v.cells=z.toArray∧i.size=size∧i.bytes=bytes
 len:z.length=size
 pos:0<size
def zrep:Nat→List Value→List Value
 | 0,_=>[]
 | n+1,z=>z++zrep n z
theorem zjg (z:List Value):∀ (n i:Nat),i<n*z.length→(zrep n z)[i]? = z[i%z.length]?
 | 0,i,h=>by simp at h
 | n+1,i,h=>by
  simp only[zrep]
  by_cases hi:i<z.length
  ·rw[List.getElem?_append_left hi,Nat.mod_eq_of_lt hi]
  ·rw[List.getElem?_append_right (by omega),zjg z n (i-z.length) (by rw[Nat.add_mul] at h;omega)]
   congr 1
   exact (Nat.mod_eq_sub_mod (by omega)).symm
theorem kK (z:List Value):∀ n,(zrep n z).length=n*z.length
 | 0=>by simp[zrep]
 | n+1=>by simp[zrep,kK z n,Nat.add_mul];omega
theorem jO (z:List Value) (n:Nat) (h:0<z.length):madeCells z.toArray (n*z.length)=(zrep n z).toArray:=by
 apply Array.ext_getElem?
 intro i
 by_cases hi:i<n*z.length
 ·have hm:i%z.length<z.length:=Nat.mod_lt _ h
  simp only[madeCells,Array.getElem?_map,List.getElem?_toArray,zjg z n i hi]
  rw[Array.getElem?_eq_getElem (by simpa using hi)]
  simp[hm]
 ·rw[Array.getElem?_eq_none (by simp[size_madeCells];omega),Array.getElem?_eq_none (by simp[kK];omega)]
section
variable {P:Program}
class NotIface (P:Program) (t:TypeId):Prop where
 run:∃ u,P.underlying t=some u∧(match u with | .interface _=>false | _=>true)=true
class PtrT (P:Program) (t:TypeId):Prop where
 run:∃ e,P.underlying t=some (.pointer e)
theorem zeO {t e:TypeId} (he:P.underlying t=some (.pointer e)) (p:Option Addr) (w:World):(Op.equal t (.pointer p) (.pointer none)).run P w=.ok p.isNone w:=by
 have h:Op.equal t (.pointer p) (.pointer none)=Op.equalIn (9999+1) t (.pointer p) (.pointer none):=rfl
 rw[h,Op.equalIn]
 cases p <;> simp[run_underlying he]
class MethP (P:Program) (t:TypeId) (name:String) (f:outParam FuncId):Prop where
 run:∀ a w,(method (P.types.size+Made.depth) t (.pointer (some a)) name).run P w=.ok (f,.pointer (some a)) w
class MethV (P:Program) (t:TypeId) (name:String) (f:outParam FuncId):Prop where
 run:∀ a w v,w.cell? a=some v→(method (P.types.size+Made.depth) t (.pointer (some a)) name).run P w=.ok (f,v) w
theorem ziA {P : Program} (xt : TypeId) (a : Addr) (name : String) (w : World) : (Builtin.ssaWrapNilChk_ #[xt] xt #[.pointer (some a), strVal "", strVal name]).run P w = .ok (.pointer (some a)) w := rfl
theorem zar {t f elem:Nat} {name:String} {info:TypeInfo} (hn:(P.types.size+Made.depth == (P.types.size+Made.depth-1)+1)=true) (hi:∀ w,(typeInfo t).run P w=.ok info w) (hm:((info.methods.find? (·.name == name)).any fun m=>m.path == #[] && m.func == some (f,false))=true)
  (hu:P.underlying t=some (.pointer elem)) [hs:ScalarT P elem]:MethV P t name f where
 run a w v hc:=by
  have hn:=eq_of_beq hn
  cases hq:info.methods.find? (·.name == name) with
  | none=>rw[hq] at hm;simp at hm
  | some m=>
   rw[hq] at hm
   simp only[Option.any_some,Bool.and_eq_true,beq_iff_eq] at hm
   obtain⟨hp,hf⟩:=hm
   rw[hn,method]
   simp[hi,hq,hp,hf,follow,receiverAt,run_underlying hu,Place.get,ziA,asAddr,loadVar,hs.run,hc]
end
end
section
open Go Go.RowKit
/-! ### Memory -/
structure Blk where
 ty:TypeId
 cs:List Value
 fr:Nat×Nat
abbrev bw (t:TypeId) (cs:List Value):Blk:=⟨t,cs,(0,0)⟩
abbrev Mem:=Nat→Option Blk
structure Ent where
 b:Nat
 ty:TypeId
 cs:List Value
abbrev Hp:=List Ent
def itT:TypeId:=4294967291
def itS:List Value→ByteArray
 | .string s :: _=>s
 | _=>⟨#[]⟩
def itP:List Value→Nat
 | _ :: .int _ p :: _=>p.toNat
 | _=>0
def mapE:List Value→Nat→List MapEntry
 | k :: v :: r,i=>⟨k,v,i⟩ :: mapE r (i+1)
 | _,_=>[]
def itO:List Value→Obj
 | [.agg es]=>.map (mapE es.toList 0).toArray (es.size/2)
 | cs=>.stringIter (itS cs) (itP cs)
def Ent.obj (e:Ent):Obj:=match Nat.beq e.ty itT with
 | true=>itO e.cs
 | false=>.cells e.cs.toArray e.ty (0,0)
theorem Ent.obj_cells {e:Ent} (h:Nat.beq e.ty itT=false):e.obj=.cells e.cs.toArray e.ty (0,0):=by unfold Ent.obj;rw[h]
theorem Ent.obj_one (b:Nat) (es:Array Value):(Ent.mk b itT [.agg es]).obj=.map (mapE es.toList 0).toArray (es.size/2):=by unfold Ent.obj;rw[show Nat.beq (Ent.mk b itT [.agg es]).ty itT=true from Nat.beq_refl _];rfl
def Mem.cell (S:Mem) (b o:Nat):Option Value:=match S b with
 | some k=>nthL k.cs o
 | none=>none
def lpart (l:List Value) (o n:Nat):Option (List Value):=match Nat.ble (o+n) l.length with
 | true=>some ((l.drop o).take n)
 | false=>none
def Mem.part (S:Mem) (b o n:Nat):Option (List Value):=match S b with
 | some k=>lpart k.cs o n
 | none=>none
def Mem.set (S:Mem) (b:Nat) (k:Blk):Mem:=fun x=>if x=b then some k else S x
def Mem.put (S:Mem) (b o:Nat) (vs:List Value):Mem:=fun x=>if x=b then (S b).map fun k=>⟨k.ty,spl k.cs o vs,k.fr⟩ else S x
def Mem.room (S:Mem) (b o n:Nat):Prop:=∃ k,S b=some k∧k.fr=(0,0)∧o+n≤k.cs.length
theorem qE {l vs:List Value} {o n:Nat} (h:lpart l o n=some vs):o+n≤l.length∧(l.drop o).take n=vs∧vs.length=n:=by
 unfold lpart at h
 split at h
 ·rename_i hb
  have:=Nat.le_of_ble_eq_true hb
  cases h
  exact⟨this,rfl,by simp;omega⟩
 ·cases h
theorem qA {l:List Value} {o n:Nat} (h:o+n≤l.length):lpart l o n=some ((l.drop o).take n):=by
 unfold lpart
 rw[Nat.ble_eq_true_of_le h]
theorem wg {l vs:List Value} {o n:Nat} (h:lpart l o n=some vs) (j:Nat) (hj:j<n):vs[j]? = l[o+j]?:=by
 obtain⟨_,h2,_⟩:=qE h
 rw[←h2,List.getElem?_take,if_pos hj,List.getElem?_drop]
theorem zhy {S:Mem} {b o n:Nat} {vs:List Value} (h:S.part b o n=some vs):∃ k,S b=some k∧lpart k.cs o n=some vs:=by
 unfold Mem.part at h
 split at h
 ·rename_i k hk;exact⟨k,hk,h⟩
 ·cases h
theorem qL {S:Mem} {b o n:Nat} {vs:List Value} (h:S.part b o n=some vs):vs.length=n:=by
 obtain⟨k,_,h2⟩:=zhy h;exact (qE h2).2.2
theorem zgj {S:Mem} {b o:Nat} {v:Value} (h:S.cell b o=some v):∃ k,S b=some k∧nthL k.cs o=some v:=by
 unfold Mem.cell at h
 split at h
 ·rename_i k hk;exact⟨k,hk,h⟩
 ·cases h
theorem xJ {α:Type} {l:List α} {o:Nat} {v:α} (h:nthL l o=some v):o<l.length:=by
 rw[zI] at h;exact (List.getElem?_eq_some_iff.1 h).1
theorem qK {cs vs:List Value} {o:Nat} (h:o+vs.length≤cs.length):(spl cs o vs).length=cs.length:=by
 rw[xi _ _ _ (by omega)];simp;omega
theorem qn {cs vs:List Value} {o n:Nat} (h:cs.length=n) (h2:o+vs.length≤n):(spl cs o vs).length=n:=by rw[qK (by omega),h]
theorem jL {cs vs:List Value} {o:Nat} (h:o+vs.length≤cs.length) (j:Nat):(spl cs o vs)[j]? = if o≤j∧j<o+vs.length then vs[j-o]? else cs[j]?:=by
 rw[xi _ _ _ (by omega)]
 simp only[List.getElem?_append,List.length_append,List.length_take,List.getElem?_take,List.getElem?_drop]
 rw[Nat.min_eq_left (by omega)]
 by_cases h1:j<o
 ·rw[if_pos (by omega),if_pos h1,if_pos h1,if_neg (by omega)]
 ·by_cases h2:j<o+vs.length
  ·rw[if_pos h2,if_neg h1,if_pos ⟨by omega,h2⟩]
  ·rw[if_neg h2,if_neg (by omega)]
   congr 1;omega
structure St (w0:World) (S0 S:Mem) (V:Hp) (w:World):Prop where
 os:w.os=w0.os
 tape:w.tape=w0.tape
 output:w.output=w0.output
 size:w0.heap.size≤w.heap.size
 frame:∀ k,k<w0.heap.size→S0 k=none→w.heap[k]? = w0.heap[k]?
 mem:∀ b k,S b=some k→w.heap[b]? = some (.cells k.cs.toArray k.ty k.fr)
 loc:∀ e∈V,w.heap[e.b]? = some e.obj∧S e.b=none∧w0.heap.size≤e.b
 nodup:V.Pairwise (fun x y=>x.b≠y.b)
 own:∀ b,S0 b=none→S b≠none→w0.heap.size≤b
 keep:∀ b,S0 b≠none→S b≠none
def setE:Hp→Nat→List Value→Hp
 | [],_,_=>[]
 | e :: L,0,cs=>⟨e.b,e.ty,cs⟩ :: L
 | e :: L,n+1,cs=>e :: setE L n cs
def dropE:Hp→Nat→Hp
 | [],_=>[]
 | _ :: L,0=>L
 | e :: L,n+1=>e :: dropE L n
theorem zjn {L:Hp} {n:Nat} {e:Ent} {cs:List Value} (h:nthL L n=some e):∀ x∈setE L n cs,(x=⟨e.b,e.ty,cs⟩)∨(∃ m,m≠n∧nthL L m=some x):=by
 induction L generalizing n with
 | nil=>intro x hx;cases n <;> simp[setE] at hx
 | cons y L ih=>
  intro x hx
  cases n with
  | zero=>
   simp only[nthL,Option.some.injEq] at h;subst h
   rcases List.mem_cons.1 hx with rfl | hx
   ·exact .inl rfl
   ·obtain⟨m,hm⟩:=List.getElem?_of_mem hx
    exact .inr ⟨m+1,by omega,by simpa [nthL,zI] using hm⟩
  | succ n=>
   rcases List.mem_cons.1 hx with rfl | hx
   ·exact .inr ⟨0,by omega,rfl⟩
   ·rcases ih h x hx with h1 | ⟨m,hm,h2⟩
    ·exact .inl h1
    ·exact .inr ⟨m+1,by omega,h2⟩
theorem zeJ:∀ (L:Hp) (n:Nat) (cs:List Value),(setE L n cs).map (·.b)=L.map (·.b)
 | [],n,cs=>by cases n <;> rfl
 | e :: L,0,cs=>rfl
 | e :: L,n+1,cs=>by simp[setE,zeJ L n cs]
theorem zaq {L:Hp}:L.Pairwise (fun x y=>x.b≠y.b)↔(L.map (·.b)).Nodup:=by
 rw[List.Nodup,List.pairwise_map]
theorem zdA {L:Hp} (h:L.Pairwise (fun x y=>x.b≠y.b)) {n m:Nat} {x y:Ent} (hx:nthL L n=some x) (hy:nthL L m=some y) (hnm:m≠n):y.b≠x.b:=by
 rw[zI] at hx hy
 obtain⟨hn,rfl⟩:=List.getElem?_eq_some_iff.1 hx
 obtain⟨hm,rfl⟩:=List.getElem?_eq_some_iff.1 hy
 have hp:=List.pairwise_iff_getElem.1 h
 rcases Nat.lt_or_gt_of_ne hnm with hlt | hlt
 ·exact hp m n hm hn hlt
 ·exact (hp n m hn hm hlt).symm
theorem vc (w:World) (g:Nat) (cs:Array Value) (k:Nat) (h:k≠g):(w.setRow g cs).heap[k]? = w.heap[k]?:=by
 simp only[World.setRow,Array.getElem?_modify];rw[if_neg (by omega)]
theorem zhU:∀ (L:Hp) (n:Nat),(dropE L n).Sublist L
 | [],n=>by cases n <;> exact List.Sublist.refl _
 | e :: L,0=>List.sublist_cons_self e L
 | e :: L,n+1=>(zhU L n).cons_cons e
theorem zgg {L:Hp} {n:Nat} {e:Ent} (h:nthL L n=some e):L.Perm (e :: dropE L n):=by
 induction L generalizing n with
 | nil=>simp[nthL] at h
 | cons x L ih=>
  cases n with
  | zero=>simp only[nthL,Option.some.injEq] at h;subst h;exact List.Perm.refl _
  | succ n=>exact ((ih h).cons x).trans (List.Perm.swap _ _ _)
def selE:List Nat→Hp→Option (Hp×Hp)
 | [],L=>some ([],L)
 | i :: is,L=>match nthL L i with
  | none=>none
  | some e=>match selE is (dropE L i) with
   | none=>none
   | some (A,B)=>some (e :: A,B)
theorem zhp:∀ {idx:List Nat} {L A B:Hp},selE idx L=some (A,B)→L.Perm (A++B)
 | [],L,A,B,h=>by simp only[selE,Option.some.injEq,Prod.mk.injEq] at h;obtain⟨rfl,rfl⟩:=h;exact List.Perm.refl _
 | i :: is,L,A,B,h=>by
  simp only[selE] at h
  cases hn:nthL L i with
  | none=>simp[hn] at h
  | some e=>
   simp only[hn] at h
   cases hs:selE is (dropE L i) with
   | none=>simp[hs] at h
   | some q=>
    obtain⟨A',B'⟩:=q
    simp only[hs,Option.some.injEq,Prod.mk.injEq] at h
    obtain⟨rfl,rfl⟩:=h
    exact (zgg hn).trans ((zhp hs).cons e)
section
variable {w0 w:World} {S0 S:Mem} {V:Hp}
theorem St.lt (h:St w0 S0 S V w) {b:Nat} {k:Blk} (hb:S b=some k):b<w.heap.size:=(Array.getElem?_eq_some_iff.1 (h.mem b k hb)).1
theorem St.ltV (h:St w0 S0 S V w) {e:Ent} (he:e∈V):e.b<w.heap.size:=(Array.getElem?_eq_some_iff.1 (h.loc e he).1).1
theorem St.fresh (h:St w0 S0 S V w):S w.heap.size=none:=by
 cases hs:S w.heap.size with
 | none=>rfl
 | some k=>have:=h.lt hs;omega
theorem St.drew (h:St w0 S0 S V w):St w0 S0 S V w.drew:=⟨h.os,h.tape,h.output,h.size,h.frame,h.mem,h.loc,h.nodup,h.own,h.keep⟩
theorem St.drawn (h:St w0 S0 S V w):St w0 S0 S V { w with drawn:=w.drawn+1 }:=h.drew
theorem St.cellS (h:St w0 S0 S V w) {b o:Nat} {v:Value} (hc:S.cell b o=some v):w.cell? ⟨b,o,none⟩=some v:=by
 obtain⟨k,hk,hv⟩:=zgj hc
 rw[cell_of_row w b o k.cs.toArray k.ty k.fr (h.mem b k hk)]
 rw[zI] at hv;simpa using hv
theorem St.cellV (h:St w0 S0 S V w) {e:Ent} (he:e∈V) (hty:Nat.beq e.ty itT=false) {o:Nat} {v:Value} (hv:nthL e.cs o=some v):w.cell? ⟨e.b,o,none⟩=some v:=by
 rw[cell_of_row w e.b o e.cs.toArray e.ty (0,0) (by rw[(h.loc e he).1,Ent.obj_cells hty])]
 rw[zI] at hv;simpa using hv
theorem St.selV (h:St w0 S0 S V w) {idx:List Nat} {A B:Hp} (hs:selE idx V=some (A,B)):St w0 S0 S A w:=by
 have hp:=zhp hs
 refine⟨h.os,h.tape,h.output,h.size,h.frame,h.mem,fun e he=>h.loc e (hp.mem_iff.2 (List.mem_append_left _ he)),?_,h.own,h.keep⟩
 exact ((hp.pairwise_iff (fun h=>Ne.symm h)).1 h.nodup).sublist (List.sublist_append_left A B)
theorem St.alloc (h:St w0 S0 S V w) (cs:List Value) (t:TypeId) (hty:Nat.beq t itT=false):St w0 S0 S (V++[⟨w.heap.size,t,cs⟩]) (w.alloc (.cells cs.toArray t)):=by
 refine⟨h.os,h.tape,h.output,by have:=h.size;simp;omega,fun k hk hn=>?_,fun b k hb=>?_,fun e he=>?_,?_,h.own,h.keep⟩
 ·rw[heap_alloc_old w _ (show k<w.heap.size by have:=h.size;omega)];exact h.frame k hk hn
 ·rw[heap_alloc_old w _ (h.lt hb)];exact h.mem b k hb
 ·rcases List.mem_append.1 he with he | he
  ·rw[heap_alloc_old w _ (h.ltV he)];exact h.loc e he
  ·obtain rfl:e=_:=by simpa using he
   exact⟨by rw[Ent.obj_cells hty];exact heap_alloc_new w _,h.fresh,h.size⟩
 ·refine List.pairwise_append.2 ⟨h.nodup,by simp,fun x hx y hy=>?_⟩
  obtain rfl:y=_:=by simpa using hy
  have:=h.ltV hx
  simp;omega
theorem St.setV (h:St w0 S0 S V w) {n:Nat} {e:Ent} (hn:nthL V n=some e) (cs:List Value) (hty:Nat.beq e.ty itT=false):St w0 S0 S (setE V n cs) (w.setRow e.b cs.toArray):=by
 have he:=qv hn
 obtain⟨h1,h2,h3⟩:=h.loc e he
 refine⟨h.os,h.tape,h.output,by simpa using h.size,fun k hk hnot=>?_,fun b k hb=>?_,fun x hx=>?_,?_,h.own,h.keep⟩
 ·rw[vc _ _ _ _ (by omega)];exact h.frame k hk hnot
 ·rw[vc _ _ _ _ (fun hbe=>by rw[hbe] at hb;rw[h2] at hb;cases hb)];exact h.mem b k hb
 ·rcases zjn hn x hx with rfl | ⟨m,hm,hx'⟩
  ·refine⟨?_,h2,h3⟩
   rw[Ent.obj_cells (e:=⟨e.b,e.ty,cs⟩) hty]
   rw[Ent.obj_cells hty] at h1
   exact setRow_heap w e.b _ _ e.ty _ h1
  ·rw[vc _ _ _ _ (zdA h.nodup hn hx' hm)];exact h.loc x (qv hx')
 ·rw[zaq,zeJ,←zaq];exact h.nodup
theorem St.putS (h:St w0 S0 S V w) {b o:Nat} {k:Blk} (hb:S b=some k) (vs:List Value):St w0 S0 (S.put b o vs) V (w.setRow b (spl k.cs o vs).toArray):=by
 have hput:∀ x,S.put b o vs x=none↔S x=none:=fun x=>by
  unfold Mem.put
  by_cases hx:x=b
  ·subst hx;simp[hb]
  ·simp[hx]
 refine⟨h.os,h.tape,h.output,by simpa using h.size,fun j hj hn=>?_,fun x kx hx=>?_,fun e he=>?_,h.nodup,fun x hx h1=>h.own x hx (fun hq=>h1 ((hput x).2 hq)),fun x hx hq=>h.keep x hx ((hput x).1 hq)⟩
 ·rw[vc _ _ _ _ (fun hjb=>?_)]
  ·exact h.frame j hj hn
  ·subst hjb
   have:=h.own j hn (by rw[hb];simp)
   omega
 ·unfold Mem.put at hx
  by_cases hxb:x=b
  ·subst hxb
   rw[if_pos rfl,hb] at hx
   simp only[Option.map_some,Option.some.injEq] at hx
   subst hx
   exact setRow_heap w x _ _ k.ty _ (h.mem x k hb)
  ·rw[if_neg hxb] at hx
   rw[vc _ _ _ _ hxb];exact h.mem x kx hx
 ·obtain⟨h1,h2,h3⟩:=h.loc e he
  have hne:e.b≠b:=fun hq=>by rw[hq] at h2;rw[h2] at hb;cases hb
  rw[vc _ _ _ _ hne]
  exact⟨h1,(hput e.b).2 h2,h3⟩
theorem St.publish (h:St w0 S0 S V w) {n:Nat} {e:Ent} (hn:nthL V n=some e) (hty:Nat.beq e.ty itT=false):St w0 S0 (S.set e.b (bw e.ty e.cs)) (dropE V n) w:=by
 have he:=qv hn
 obtain⟨h1,h2,h3⟩:=h.loc e he
 have hp:=zgg hn
 have hpw:=List.pairwise_cons.1 ((hp.pairwise_iff (fun h=>Ne.symm h)).1 h.nodup)
 refine⟨h.os,h.tape,h.output,h.size,h.frame,fun b k hb=>?_,fun x hx=>?_,hpw.2,fun b hb h4=>?_,fun b hb=>?_⟩
 ·unfold Mem.set at hb
  by_cases hbe:b=e.b
  ·rw[if_pos hbe] at hb;cases hb;rw[hbe,h1,Ent.obj_cells hty]
  ·rw[if_neg hbe] at hb;exact h.mem b k hb
 ·obtain⟨g1,g2,g3⟩:=h.loc x ((zhU V n).subset hx)
  refine⟨g1,?_,g3⟩
  unfold Mem.set
  rw[if_neg (fun hq=>hpw.1 x hx hq.symm)];exact g2
 ·unfold Mem.set at h4
  by_cases hbe:b=e.b
  ·rw[hbe];exact h3
  ·rw[if_neg hbe] at h4;exact h.own b hb h4
 ·unfold Mem.set
  by_cases hbe:b=e.b
  ·rw[if_pos hbe];simp
  ·rw[if_neg hbe];exact h.keep b hb
theorem St.called {w':World} {S':Mem} (h:St w0 S0 S V w) (h':St w S S' [] w'):St w0 S0 S' V w':=by
 refine⟨h'.os.trans h.os,h'.tape.trans h.tape,h'.output.trans h.output,Nat.le_trans h.size h'.size,fun k hk hn=>?_,h'.mem,fun e he=>?_,h.nodup,fun b hb h4=>?_,fun b hb=>h'.keep b (h.keep b hb)⟩
 ·have hS:S k=none:=by
   cases hs:S k with
   | none=>rfl
   | some x=>have:=h.own k hn (by rw[hs];simp);omega
  rw[h'.frame k (Nat.lt_of_lt_of_le hk h.size) hS];exact h.frame k hk hn
 ·obtain⟨h1,h2,h3⟩:=h.loc e he
  have hlt:=h.ltV he
  refine⟨by rw[h'.frame e.b hlt h2];exact h1,?_,h3⟩
  cases hs:S' e.b with
  | none=>rfl
  | some x=>have:=h'.own e.b h2 (by rw[hs];simp);omega
 ·cases hs:S b with
  | none=>exact Nat.le_trans h.size (h'.own b hs h4)
  | some x=>exact h.own b hb (by rw[hs];simp)
theorem St.self (h:St w0 S0 S V w):St w S S [] w:=
 ⟨rfl,rfl,rfl,Nat.le_refl _,fun _ _ _=>rfl,h.mem,(fun e he=>by cases he),List.Pairwise.nil,fun b h1 h2=>(h2 h1).elim,fun _ h=>h⟩
end
/-! ### What an operation yields -/
inductive Cond where
 | tt
 | cell (b o:Nat) (v:Value)
 | cells (b o:Nat) (vs:List Value)
 | mp (p:World→Prop)
def Cond.ok:Cond→World→Prop
 | .tt,_=>True
 | .cell b o v,w=>w.cell? ⟨b,o,none⟩=some v
 | .cells b o vs,w=>∀ j v,vs[j]? = some v→w.cell? ⟨b,o+j,none⟩=some v
 | .mp p,w=>p w
def Yc (P:Program) (l:Fr) (c:Cond) (op:Op) (v:Value):Prop:=
 ∀ a w,Ag l a→c.ok w→∀ d ty ps af g,(execOp a.eval ⟨d,op,ty,ps,af,g⟩).run P w=.ok (.value v) w
def HC (w0:World) (S0 S:Mem) (V:Hp) (c:Cond):Prop:=∀ w,St w0 S0 S V w→c.ok w
section
variable {w0:World} {S0 S:Mem} {V:Hp}
theorem zrm:HC w0 S0 S V .tt:=fun _ _=>True.intro
theorem qh {b o:Nat} {v:Value} (h:S.cell b o=some v):HC w0 S0 S V (.cell b o v):=fun _ hS=>hS.cellS h
theorem zR {b o:Nat} {v:Value} (n:Nat) {ty:TypeId} {cs:List Value} (hn:nthL V n=some ⟨b,ty,cs⟩) (hv:nthL cs o=some v) (hty:Nat.beq ty itT=false:=by rfl):HC w0 S0 S V (.cell b o v):=fun _ hS=>hS.cellV (qv hn) hty hv
theorem jw {b o n:Nat} {vs:List Value} (h:S.part b o n=some vs):HC w0 S0 S V (.cells b o vs):=fun w hS j v hj=>by
 obtain⟨k,hk,hp⟩:=zhy h
 have hjn:j<n:=by have:=(List.getElem?_eq_some_iff.1 hj).1;have:=(qE hp).2.2;omega
 rw[wg hp j hjn] at hj
 refine hS.cellS ?_
 unfold Mem.cell;rw[hk];simp only[zI];exact hj
theorem zD {b o k:Nat} {vs:List Value} (n:Nat) {ty:TypeId} {cs:List Value} (hn:nthL V n=some ⟨b,ty,cs⟩) (hv:lpart cs o k=some vs) (hty:Nat.beq ty itT=false:=by rfl):HC w0 S0 S V (.cells b o vs):=fun w hS j v hj=>by
 have hjn:j<k:=by have:=(List.getElem?_eq_some_iff.1 hj).1;have:=(qE hv).2.2;omega
 rw[wg hv j hjn] at hj
 exact hS.cellV (qv hn) hty (by rw[zI];exact hj)
end
abbrev Pt:=Option (Nat×Nat)
def adr:Pt→Option Addr
 | none=>none
 | some (b,o)=>some ⟨b,o,none⟩
def eP (p:Pt):Value:=.pointer (adr p)
structure Sl where
 p:Pt
 n:Nat
 c:Nat
def eL (s:Sl):Value:=.slice (adr s.p) s.n s.c
section yields
variable {P:Program} {l:Fr} {c:Cond}
theorem zp {x:Operand} {v:Value} (hx:ev l x=some v):Yc P l c (.move x) v:=fun a w ha _ d ty ps af g=>by
 simp[execOp,ha.eval hx]
theorem zT {x:Operand} {v:Value} (hx:ev l x=some v):Yc P l c (.assign x) v:=fun a w ha _ d ty ps af g=>by
 simp[execOp,ha.eval hx]
theorem zel {x:Operand} {e b:Bool} (hx:ev l x=some (.bool e)) (he:e=b):Yc P l c (.move x) (.bool b):=by subst he;exact zp hx
theorem fp {q x y:Operand} {b:Bool} {v:Value} (hc:ev l q=some (.bool b)) (hx:ev l (if b then x else y)=some v):Yc P l c (.pick q x y) v:=fun a w ha _ d ty ps af g=>by
 have h:=ha.eval hx
 cases b <;> simp_all [execOp,ha.eval hc,asBool]
theorem zk {x:Operand} {i:Nat} {vs:List Value} {v:Value} (hx:ev l x=some (.tuple vs.toArray)) (hv:nthL vs i=some v):Yc P l c (.extract x i) v:=fun a w ha _ d ty ps af g=>by
 rw[zI] at hv
 simp[execOp,ha.eval hx,Instr.extract,hv]
theorem zA {s:TypeId} {x:Operand} {i off ft b o:Nat} [h:FieldT P s i off ft] (hx:ev l x=some (.pointer (some ⟨b,o,none⟩))) {oo:Nat} (ho:o+off=oo) :
  Yc P l c (.fieldAddr s x i) (.pointer (some ⟨b,oo,none⟩)):=fun a w ha _ d ty ps af g=>by
 obtain⟨fs,hfs,f,hf,rfl,rfl⟩:=h.run
 obtain⟨k,hk,hsz⟩:=h.size
 subst ho
 simp[execOp,ha.eval hx,Instr.fieldAt,run_underlying hfs,hf,Instr.sureAddr,fieldPlace,hsz,hk,Addr.add_lit]
theorem zG {t:TypeId} {x:Operand} {b o:Nat} {v:Value} [ht:ScalarT P t] (hx:ev l x=some (.pointer (some ⟨b,o,none⟩))):Yc P l (.cell b o v) (.load t x) v:=fun a w ha hc d ty ps af g=>by
 have hc:w.cell? ⟨b,o,none⟩=some v:=hc
 simp[execOp,ha.eval hx,Instr.loadAt,Instr.sureAddr,loadVar,ht.run,hc]
theorem zci {w:World} {b o k:Nat} {vs:List Value} (hc:(Cond.cells b o vs).ok w) (hl:vs.length=k):(loadCells ⟨b,o,none⟩ k).run P w=.ok vs.toArray w:=by
 subst hl
 refine run_loadCells_list (P:=P) w ⟨b,o,none⟩ vs (fun j v hj=>?_)
 rw[Addr.add_lit];exact hc j v hj
theorem qk {t:TypeId} {x:Operand} {b o k:Nat} {vs:List Value} [ht:AggT P t k] [hk:SizeT P t k] (hx:ev l x=some (.pointer (some ⟨b,o,none⟩))) (hl:vs.length=k):Yc P l (.cells b o vs) (.load t x) (valL vs):=fun a w ha hc d ty ps af g=>by
 have:=zci (P:=P) hc hl
 simp[execOp,ha.eval hx,Instr.loadAt,Instr.sureAddr,loadVar,ht.run,hk.run,this,valL]
section ints
variable {t t2:TypeId} {x y:Operand} {k:IntKind} {m n:Int}
theorem qZ (hx:ev l x=some (.int k m)) (hy:ev l y=some (.int k n)):Yc P l c (.binOp .add t x y t2) (.int k (k.wrap (m+n))):=fun a w ha _ d ty ps af g=>by
 simp[execOp,ha.eval hx,ha.eval hy,eqGuard,binOp,Op.intArith]
theorem zkU (hx:ev l x=some (.int k m)) (hy:ev l y=some (.int k n)):Yc P l c (.binOp .sub t x y t2) (.int k (k.wrap (m-n))):=fun a w ha _ d ty ps af g=>by
 simp[execOp,ha.eval hx,ha.eval hy,eqGuard,binOp,Op.intArith]
theorem zkV (hx:ev l x=some (.int k m)) (hy:ev l y=some (.int k n)):Yc P l c (.binOp .mul t x y t2) (.int k (k.wrap (m*n))):=fun a w ha _ d ty ps af g=>by
 simp[execOp,ha.eval hx,ha.eval hy,eqGuard,binOp,Op.intArith]
theorem zoa (hx:ev l x=some (.int k m)) (hy:ev l y=some (.int k n)) (h:n≠0):Yc P l c (.binOp .quo t x y t2) (.int k (k.wrap (m.tdiv n))):=fun a w ha _ d ty ps af g=>by
 simp[execOp,ha.eval hx,ha.eval hy,eqGuard,binOp,Op.intDiv,h]
theorem zid (hx:ev l x=some (.int k m)) (hy:ev l y=some (.int k n)) (h:n≠0):Yc P l c (.binOp .rem t x y t2) (.int k (m.tmod n)):=fun a w ha _ d ty ps af g=>by
 simp[execOp,ha.eval hx,ha.eval hy,eqGuard,binOp,Op.intDiv,h]
def iand (k:IntKind) (x y:Int):Int:=k.wrap (BitVec.ofInt k.bits x &&& BitVec.ofInt k.bits y).toNat
def ior (k:IntKind) (x y:Int):Int:=k.wrap (BitVec.ofInt k.bits x ||| BitVec.ofInt k.bits y).toNat
def ixor (k:IntKind) (x y:Int):Int:=k.wrap (BitVec.ofInt k.bits x ^^^ BitVec.ofInt k.bits y).toNat
def iandn (k:IntKind) (x y:Int):Int:=k.wrap (BitVec.ofInt k.bits x &&& ~~~ BitVec.ofInt k.bits y).toNat
def ishl (k:IntKind) (x y:Int):Int:=k.wrap (x*2 ^ min y.toNat k.bits)
def ishr (k:IntKind) (x y:Int):Int:=x.fdiv (2 ^ min y.toNat k.bits)
theorem zom (hx:ev l x=some (.int k m)) (hy:ev l y=some (.int k n)):Yc P l c (.binOp .and t x y t2) (.int k (iand k m n)):=fun a w ha _ d ty ps af g=>by
 simp[execOp,ha.eval hx,ha.eval hy,eqGuard,binOp,Op.intBits,iand]
theorem zrA (hx:ev l x=some (.int k m)) (hy:ev l y=some (.int k n)):Yc P l c (.binOp .or t x y t2) (.int k (ior k m n)):=fun a w ha _ d ty ps af g=>by
 simp[execOp,ha.eval hx,ha.eval hy,eqGuard,binOp,Op.intBits,ior]
theorem zqU (hx:ev l x=some (.int k m)) (hy:ev l y=some (.int k n)):Yc P l c (.binOp .xor t x y t2) (.int k (ixor k m n)):=fun a w ha _ d ty ps af g=>by
 simp[execOp,ha.eval hx,ha.eval hy,eqGuard,binOp,Op.intBits,ixor]
theorem zpV (hx:ev l x=some (.int k m)) (hy:ev l y=some (.int k n)):Yc P l c (.binOp .andNot t x y t2) (.int k (iandn k m n)):=fun a w ha _ d ty ps af g=>by
 simp[execOp,ha.eval hx,ha.eval hy,eqGuard,binOp,Op.intBits,iandn]
theorem zqW {k2:IntKind} (hx:ev l x=some (.int k m)) (hy:ev l y=some (.int k2 n)) (h:0≤n):Yc P l c (.binOp .shl t x y t2) (.int k (ishl k m n)):=fun a w ha _ d ty ps af g=>by
 have h':¬n<0:=by omega
 simp[execOp,ha.eval hx,ha.eval hy,eqGuard,binOp,Op.shift,ishl,h']
theorem zqV {k2:IntKind} (hx:ev l x=some (.int k m)) (hy:ev l y=some (.int k2 n)) (h:0≤n):Yc P l c (.binOp .shr t x y t2) (.int k (ishr k m n)):=fun a w ha _ d ty ps af g=>by
 have h':¬n<0:=by omega
 simp[execOp,ha.eval hx,ha.eval hy,eqGuard,binOp,Op.shift,ishr,h']
theorem qq (hx:ev l x=some (.int k m)) (hy:ev l y=some (.int k n)):Yc P l c (.binOp .lss t x y t2) (.bool (decide (m<n))):=fun a w ha _ d ty ps af g=>by
 simp[execOp,ha.eval hx,ha.eval hy,eqGuard,binOp,Op.intCmp]
theorem zkX (hx:ev l x=some (.int k m)) (hy:ev l y=some (.int k n)):Yc P l c (.binOp .leq t x y t2) (.bool (decide (m≤n))):=fun a w ha _ d ty ps af g=>by
 simp[execOp,ha.eval hx,ha.eval hy,eqGuard,binOp,Op.intCmp]
theorem jZ (hx:ev l x=some (.int k m)) (hy:ev l y=some (.int k n)):Yc P l c (.binOp .gtr t x y t2) (.bool (decide (n<m))):=fun a w ha _ d ty ps af g=>by
 simp[execOp,ha.eval hx,ha.eval hy,eqGuard,binOp,Op.intCmp]
theorem wT (hx:ev l x=some (.int k m)) (hy:ev l y=some (.int k n)):Yc P l c (.binOp .geq t x y t2) (.bool (decide (n≤m))):=fun a w ha _ d ty ps af g=>by
 simp[execOp,ha.eval hx,ha.eval hy,eqGuard,binOp,Op.intCmp]
theorem zdE (hx:ev l x=some (.int k m)) (hy:ev l y=some (.int k n)):Yc P l c (.binOp .eql t x y t2) (.bool (decide (m=n))):=fun a w ha _ d ty ps af g=>by
 simp only[execOp,ha.eval hx,ha.eval hy,eqGuard,binOp,Op.intCmp];simp;by_cases h:m=n <;> simp[h]
theorem qt (hx:ev l x=some (.int k m)) (hy:ev l y=some (.int k n)):Yc P l c (.binOp .neq t x y t2) (.bool (decide (m≠n))):=fun a w ha _ d ty ps af g=>by
 simp only[execOp,ha.eval hx,ha.eval hy,eqGuard,binOp,Op.intCmp];simp[bne];by_cases h:m=n <;> simp[h]
theorem zqX (hx:ev l x=some (.int k m)):Yc P l c (.unOp .neg t x) (.int k (k.wrap (0-m))):=fun a w ha _ d ty ps af g=>by
 simp[execOp,ha.eval hx,Op.unary,Op.intArith]
def ineg (k:IntKind) (x:Int):Int:=ixor k (if k.signed then -1 else k.max) x
theorem zpU (hx:ev l x=some (.int k m)):Yc P l c (.unOp .xor t x) (.int k (ineg k m)):=fun a w ha _ d ty ps af g=>by
 simp[execOp,ha.eval hx,Op.unary,Op.intBits,ineg,ixor]
theorem ym {b:Bool} (hx:ev l x=some (.bool b)):Yc P l c (.unOp .not t x) (.bool !b):=fun a w ha _ d ty ps af g=>by
 simp[execOp,ha.eval hx,Op.unary]
class IntT (P:Program) (t:TypeId) (k:outParam IntKind):Prop where
 run:P.underlying t=some (.int k)
theorem jy {k2:IntKind} [h:IntT P t2 k2] (ht:∃ u,P.underlying t=some u) (hx:ev l x=some (.int k m)):Yc P l c (.convert t t2 x) (.int k2 (k2.wrap m)):=fun a w ha _ d ty ps af g=>by
 obtain⟨u,hu⟩:=ht
 simp[execOp,ha.eval hx,convert,run_underlying hu,run_underlying h.run,Conv.intToInt]
end ints
theorem yT {op:Op} {p:Prop} [Decidable p] (h:Yc P l c op (.bool (decide p))) (hp:p):Yc P l c op (.bool true):=by rwa [decide_eq_true hp] at h
theorem yF {op:Op} {p:Prop} [Decidable p] (h:Yc P l c op (.bool (decide p))) (hp:¬p):Yc P l c op (.bool false):=by rwa [decide_eq_false hp] at h
theorem yB {op:Op} {e b:Bool} (h:Yc P l c op (.bool e)) (hp:e=b):Yc P l c op (.bool b):=hp ▸ h
theorem qx {x:Operand} {p:Addr} (hx:ev l x=some (.pointer (some p))):Yc P l c (.nilCheck x) (.pointer (some p)):=fun a w ha _ d ty ps af g=>by
 simp[execOp,ha.eval hx]
theorem wO {t:TypeId} {x i:Operand} {n e size b o:Nat} {k:IntKind} {z:Int} [h:ArrayT P t n e size] (hx:ev l x=some (.pointer (some ⟨b,o,none⟩)))
  (hi:ev l i=some (.int k z)) (h0:0≤z) (h1:z<n) {oo:Nat} (ho:o+z.toNat*size=oo):Yc P l c (.indexAddr t x i) (.pointer (some ⟨b,oo,none⟩)):=fun a w ha _ d ty ps af g=>by
 subst ho
 simp[execOp,ha.eval hx,ha.eval hi,Instr.indexAt,asIntOf,run_underlying h.run,Instr.sureAddr,h0,h1,h.size,Addr.add_lit]
theorem gn {t:TypeId} {x i:Operand} {e size b o len cap:Nat} {k:IntKind} {z:Int} [h:SliceT P t e size] (hx:ev l x=some (.slice (some ⟨b,o,none⟩) len cap))
  (hi:ev l i=some (.int k z)) (h0:0≤z) (h1:z<len) {oo:Nat} (ho:o+z.toNat*size=oo):Yc P l c (.indexAddr t x i) (.pointer (some ⟨b,oo,none⟩)):=fun a w ha _ d ty ps af g=>by
 subst ho
 simp[execOp,ha.eval hx,ha.eval hi,Instr.indexAt,asIntOf,run_underlying h.run,h0,h1,h.size,Addr.add_lit]
theorem jJ {t e size:Nat} {x:Operand} {p:Option Addr} {len cap:Nat} [h:SliceT P t e size] (hx:ev l x=some (.slice p len cap)) :
  Yc P l c (.call { callee:=.builtin .len,args:=#[x],argTypes:=#[t] }) (.int .i64 len):=fun a w ha _ d ty ps af g=>by
 simp[execOp,ha.eval hx,resolve,invoke,builtin,Builtin.len_,run_underlying h.run,goInt]
theorem ql {t:TypeId} {ps:List (Nat×Operand)} {pl:Nat→Option (Nat×Nat)} {z cs:List Value} {vs:List (Nat×Value)} [h:StructT P t pl z] (hx:evp l ps=some vs) (hf:fillS pl z vs=some cs) :
  Yc P l c (.build t ps.toArray) (valL cs):=fun a w ha _ d ty p af g=>by
 have he:=ha.evalp hx
 have:=gO _ _ _ _ hf
 have hm:(ps.toArray.map fun x=>(x.1,a.eval x.2))=vs.toArray:=by rw[←he];simp
 simp only[execOp,hm,Sem.run_bind,h.run w vs.toArray _ (by simpa using this)]
 rfl
theorem zol {t:TypeId} {x:Operand} {i off ft:Nat} {cs:List Value} {v:Value} [h:FieldT P t i off ft] [hs:ScalarT P ft] (hx:ev l x=some (.agg cs.toArray)) (hv:nthL cs off=some v) :
  Yc P l c (.field t x i) v:=fun a w ha _ d ty p af g=>by
 obtain⟨fs,hfs,f,hf,rfl,rfl⟩:=h.run
 rw[zI] at hv
 simp[execOp,ha.eval hx,Instr.field,run_underlying hfs,hf,asAgg,part,hs.run,hv]
theorem zmI {t:TypeId} {x:Operand} {i off ft k:Nat} {cs vs:List Value} [h:FieldT P t i off ft] [hs:AggT P ft k] [hk:SizeT P ft k] (hx:ev l x=some (.agg cs.toArray)) (hv:lpart cs off k=some vs) :
  Yc P l c (.field t x i) (valL vs):=fun a w ha _ d ty p af g=>by
 obtain⟨fs,hfs,f,hf,rfl,rfl⟩:=h.run
 obtain⟨h1,h2,_⟩:=qE hv
 simp[execOp,ha.eval hx,Instr.field,run_underlying hfs,hf,asAgg,part,hs.run,hk.run,valL,List.extract_eq_take_drop,h2]
theorem zkY {t:TypeId} {x i:Operand} {n e size sz:Nat} {k:IntKind} {z:Int} {cs vs:List Value} [h:ArrayT P t n e size] [ha:AggT P e sz] (hx:ev l x=some (.agg cs.toArray))
  (hi:ev l i=some (.int k z)) (h0:0≤z) (h1:z<n) (hv:lpart cs (z.toNat*size) size=some vs):Yc P l c (.index t x i) (valL vs):=fun a w hag _ d ty ps af g=>by
 obtain⟨_,h2,_⟩:=qE hv
 simp[execOp,hag.eval hx,hag.eval hi,valL,Instr.index,asIntOf,run_underlying h.run,h0,h1,h.size,part,ha.run,List.extract_eq_take_drop,h2]
theorem zra {t:TypeId} {x i:Operand} {n e size:Nat} {k:IntKind} {z:Int} {cs:List Value} {v:Value} [h:ArrayT P t n e size] [hs:ScalarT P e] (hx:ev l x=some (.agg cs.toArray))
  (hi:ev l i=some (.int k z)) (h0:0≤z) (h1:z<n) (hv:nthL cs (z.toNat*size)=some v):Yc P l c (.index t x i) v:=fun a w hag _ d ty ps af g=>by
 rw[zI] at hv
 simp[execOp,hag.eval hx,hag.eval hi,Instr.index,asIntOf,run_underlying h.run,h0,h1,h.size,part,hs.run,hv]
theorem zif {t:TypeId} {x:Operand} {v:Value} [h:NotIface P t] (hx:ev l x=some v):Yc P l c (.makeInterface t x) (.iface t v):=fun a w ha _ d ty ps af g=>by
 obtain⟨u,hu,hn⟩:=h.run
 cases u <;> simp_all [execOp,ha.eval hx,Instr.makeInterface,run_underlying hu]
theorem zqY {f:FuncId} {xs:List Operand} {vs:List Value} (hx:evs l xs=some vs):Yc P l c (.makeFunc (.func f) #[] xs.toArray) (.func (.func f) #[] vs.toArray):=fun a w ha _ d ty ps af g=>by
 have he:=ha.evals hx
 simp[execOp,Instr.makeFunc,←he]
theorem zpz {f:FuncId} {xs ys:List Operand} {vs us:List Value} (hy:evs l ys=some us) (hx:evs l xs=some vs):Yc P l c (.makeFunc (.func f) ys.toArray xs.toArray) (.func (.func f) us.toArray vs.toArray):=fun a w ha _ d ty ps af g=>by
 have he:=ha.evals hx
 have hf:=ha.evals hy
 simp[execOp,Instr.makeFunc,←he,←hf]
theorem zeb {t t2:TypeId} {x:Operand} {v:Value} [h:NotIface P t] (hx:ev l x=some (.iface t v)):Yc P l c (.typeAssert x t2 t false) v:=fun a w ha _ d ty ps af g=>by
 obtain⟨u,hu,hn⟩:=h.run
 cases u <;> simp_all [execOp,ha.eval hx,Instr.typeAssert,run_underlying hu]
theorem zau (p:Pt):(adr p).isNone=decide (p=none):=by cases p <;> rfl
theorem wP {t t2:TypeId} {x y:Operand} {p:Pt} [h:PtrT P t] (hx:ev l x=some (.pointer (adr p))) (hy:ev l y=some (.pointer none)):Yc P l c (.binOp .eql t x y t2) (.bool (decide (p=none))):=fun a w ha _ d ty ps af g=>by
 obtain⟨e,he⟩:=h.run
 have hr:=zeO he (adr p) w
 rw[zau] at hr
 simp[execOp,ha.eval hx,ha.eval hy,eqGuard,binOp,hr]
theorem zha {t t2:TypeId} {x y:Operand} {p:Pt} [h:PtrT P t] (hx:ev l x=some (.pointer (adr p))) (hy:ev l y=some (.pointer none)):Yc P l c (.binOp .neq t x y t2) (.bool (decide (p≠none))):=fun a w ha _ d ty ps af g=>by
 obtain⟨e,he⟩:=h.run
 have hr:=zeO he (adr p) w
 rw[zau] at hr
 simp[execOp,ha.eval hx,ha.eval hy,eqGuard,binOp,hr]
end yields
/-! ### Lists of operations,code -/
def WL (P:Program) (w0:World) (S0:Mem) (opl:List Oper) (Q:Exit→Act→World→Prop) (rest:List Oper) (l:Fr) (S:Mem) (V:Hp):Prop:=
 ∀ a w,Ag l a→St w0 S0 S V w→wpList P opl.toArray Q rest a w
def WC (P:Program) (w0:World) (S0:Mem) (c:Code) (Q:Exit→Act→World→Prop) (l:Fr) (S:Mem) (V:Hp):Prop:=
 ∀ a w,Ag l a→St w0 S0 S V w→c.wp P Q a w
def WQ (w0:World) (S0:Mem) (Q:Exit→Act→World→Prop) (e:Exit) (l:Fr) (S:Mem) (V:Hp):Prop:=
 ∀ a w,Ag l a→St w0 S0 S V w→Q e a w
section rules
variable {P:Program} {w0:World} {S0:Mem} {opl:List Oper} {Q:Exit→Act→World→Prop} {rest:List Oper} {l:Fr} {S:Mem} {V:Hp}
variable {d:Option Tmp} {op:Op} {ty:TypeId} {ps:String} {af:Array Edge} {g:Option (Nat×Bool)}
theorem s_v {c:Cond} {v:Value} (hw:wantL opl l g=some true) (hy:Yc P l c op v) (hc:HC w0 S0 S V c) (k:WL P w0 S0 opl Q rest (putn l d v) S V):WL P w0 S0 opl Q (⟨d,op,ty,ps,af,g⟩ :: rest) l S V:=
 fun a w ha hS=>wpList_step fun K hK=>by
  rw[if_pos (qu (o:=⟨d,op,ty,ps,af,g⟩) hw ha)]
  unfold Oper.wp
  rw[hy a w ha (hc w hS)]
  exact hK _ _ (k _ _ (ha.put d v) hS)
theorem s_p {v:Value} (hw:wantL opl l g=some true) (hy:Yc P l .tt op v) (k:WL P w0 S0 opl Q rest (putn l d v) S V):WL P w0 S0 opl Q (⟨d,op,ty,ps,af,g⟩ :: rest) l S V:=s_v hw hy zrm k
theorem zF (hw:wantL opl l g=some false) (k:WL P w0 S0 opl Q rest (putn l d undef) S V):WL P w0 S0 opl Q (⟨d,op,ty,ps,af,g⟩ :: rest) l S V:=
 fun a w ha hS=>wpList_step fun K hK=>by
  rw[if_neg (by rw[qu (o:=⟨d,op,ty,ps,af,g⟩) hw ha];simp)]
  exact hK _ _ (k _ _ (ha.put d undef) hS)
theorem zr (k:WQ w0 S0 Q .normal l S V):WL P w0 S0 opl Q [] l S V:=fun a w ha hS=>k a w ha hS
theorem zX {t:TypeId} {z:List Value} [h:ZeroT P t z] (hw:wantL opl l g=some true)
  (k:∀ b,WL P w0 S0 opl Q rest (putn l d (.pointer (some ⟨b,0,none⟩))) S (V++[⟨b,t,z⟩])) (hty:Nat.beq t itT=false:=by rfl):WL P w0 S0 opl Q (⟨d,.alloc t,ty,ps,af,g⟩ :: rest) l S V:=
 fun a w ha hS=>wpList_step fun K hK=>by
  rw[if_pos (qu (o:=⟨d,.alloc t,ty,ps,af,g⟩) hw ha)]
  unfold Oper.wp
  obtain⟨v,hv,hz⟩:=h.run w
  have:(execOp a.eval ⟨d,.alloc t,ty,ps,af,g⟩).run P w=.ok (.value (.pointer (some ⟨w.heap.size,0,none⟩))) (w.alloc (.cells z.toArray t)):=by
   simp[execOp,Instr.alloc,hz,newVar,newRow,newObj,hv,Sem.run]
  rw[this]
  exact hK _ _ (k w.heap.size _ _ (ha.put d _) (hS.alloc z t hty))
theorem jM {t:TypeId} {x:Operand} {v:Value} {cs:List Value} (hw:wantL opl l g=some true) (hx:ev l x=some v) (hv:cellsL v=cs)
  (k:∀ b,WL P w0 S0 opl Q rest (putn l d (.pointer (some ⟨b,0,none⟩))) S (V++[⟨b,t,cs⟩])) (hty:Nat.beq t itT=false:=by rfl):WL P w0 S0 opl Q (⟨d,.box t x,ty,ps,af,g⟩ :: rest) l S V:=
 fun a w ha hS=>wpList_step fun K hK=>by
  subst hv
  rw[if_pos (qu (o:=⟨d,.box t x,ty,ps,af,g⟩) hw ha)]
  unfold Oper.wp
  have:(execOp a.eval ⟨d,.box t x,ty,ps,af,g⟩).run P w=.ok (.value (.pointer (some ⟨w.heap.size,0,none⟩))) (w.alloc (.cells (cellsL v).toArray t)):=by
   simp[execOp,Instr.box,ha.eval hx,newVar,newRow,newObj,zcu,Sem.run]
  rw[this]
  exact hK _ _ (k w.heap.size _ _ (ha.put d _) (hS.alloc _ t hty))
theorem zhq {w:World} {t:TypeId} {b o sz:Nat} {et:TypeId} {cs vs:List Value} {v:Value} [hk:SizeT P t sz] (hh:w.heap[b]? = some (.cells cs.toArray et (0,0))) (hv:cellsL v=vs) (hsz:vs.length=sz) (hfit:o+sz≤cs.length)
  (h1:vs.all (·.oneCell')=true):(Instr.storeAt t (.pointer (some ⟨b,o,none⟩)) v).run P w=.ok () (w.setRow b (spl cs o vs).toArray):=by
 have hst:=run_storeCells_at (P:=P) b o et vs 0 cs.toArray w hh (by simp;omega) (fun v hv=>List.all_eq_true.1 h1 v hv)
 simp only[Nat.add_zero] at hst
 rw[←xi cs o vs (by omega)] at hst
 simp[Instr.storeAt,Instr.sureAddr,storeVar,hk.run,zcu,hv,hsz,hst]
theorem wX {t:TypeId} {x y:Operand} {b o sz:Nat} (n:Nat) {et:TypeId} {cs vs:List Value} {v:Value} [hk:SizeT P t sz] (hw:wantL opl l g=some true) (hx:ev l x=some (.pointer (some ⟨b,o,none⟩)))
  (hy:ev l y=some v) (hv:cellsL v=vs) (hn:nthL V n=some ⟨b,et,cs⟩) (hsz:vs.length=sz) (hfit:o+sz≤cs.length) (h1:vs.all (·.oneCell')=true)
  (k:WL P w0 S0 opl Q rest (putn l d undef) S (setE V n (spl cs o vs))) (hty:Nat.beq et itT=false:=by rfl):WL P w0 S0 opl Q (⟨d,.store t x y,ty,ps,af,g⟩ :: rest) l S V:=
 fun a w ha hS=>wpList_step fun K hK=>by
  rw[if_pos (qu (o:=⟨d,.store t x y,ty,ps,af,g⟩) hw ha)]
  unfold Oper.wp
  have hst:=zhq (P:=P) (t:=t) (by rw[(hS.loc _ (qv hn)).1,Ent.obj_cells hty]) hv hsz hfit h1
  have:(execOp a.eval ⟨d,.store t x y,ty,ps,af,g⟩).run P w=.ok .skip (w.setRow b (spl cs o vs).toArray):=by
   simp[execOp,ha.eval hx,ha.eval hy,hst]
  rw[this]
  exact hK _ _ (k _ _ (ha.put d _) (hS.setV hn _ hty))
theorem vD {t:TypeId} {x y:Operand} {b o sz:Nat} {vs:List Value} {v:Value} [hk:SizeT P t sz] (hw:wantL opl l g=some true) (hx:ev l x=some (.pointer (some ⟨b,o,none⟩)))
  (hy:ev l y=some v) (hv:cellsL v=vs) (hsz:vs.length=sz) (hp:S.room b o sz) (h1:vs.all (·.oneCell')=true)
  (k:WL P w0 S0 opl Q rest (putn l d undef) (S.put b o vs) V):WL P w0 S0 opl Q (⟨d,.store t x y,ty,ps,af,g⟩ :: rest) l S V:=
 fun a w ha hS=>wpList_step fun K hK=>by
  rw[if_pos (qu (o:=⟨d,.store t x y,ty,ps,af,g⟩) hw ha)]
  unfold Oper.wp
  obtain⟨kb,hkb,hfr,hl⟩:=hp
  have hm:=hS.mem b kb hkb
  rw[hfr] at hm
  have hst:=zhq (P:=P) (t:=t) hm hv hsz hl h1
  have:(execOp a.eval ⟨d,.store t x y,ty,ps,af,g⟩).run P w=.ok .skip (w.setRow b (spl kb.cs o vs).toArray):=by
   simp[execOp,ha.eval hx,ha.eval hy,hst]
  rw[this]
  exact hK _ _ (k _ _ (ha.put d _) (hS.putS hkb _))
theorem zmR (n:Nat) {b:Nat} {t:TypeId} {cs:List Value} (hn:nthL V n=some ⟨b,t,cs⟩) (k:S b=none→WL P w0 S0 opl Q rest l (S.set b (bw t cs)) (dropE V n)) (hty:Nat.beq t itT=false:=by rfl):WL P w0 S0 opl Q rest l S V:=
 fun a w ha hS=>k (hS.loc _ (qv hn)).2.1 a w ha (hS.publish hn hty)
/-! code -/
theorem qb {x y:Code} (h:WC P w0 S0 x (Exit.then (y.wp P Q) Q) l S V):WC P w0 S0 (.seq x y) Q l S V:=fun a w ha hS=>wp_seq (h a w ha hS)
theorem yV (h:WQ w0 S0 Q .normal l S V):WC P w0 S0 .skip Q l S V:=fun a w ha hS=>wp_skip (h a w ha hS)
theorem qY {i:Nat} (h:WQ w0 S0 Q (.exit i) l S V):WC P w0 S0 (.exit i) Q l S V:=fun a w ha hS=>wp_exit (h a w ha hS)
theorem zu (h:WQ w0 S0 Q .ret l S V):WC P w0 S0 .ret Q l S V:=fun a w ha hS=>wp_ret (h a w ha hS)
theorem zK {i:Nat} {c:Code} (h:WC P w0 S0 c (Exit.inBlock i Q) l S V):WC P w0 S0 (.block i c) Q l S V:=fun a w ha hS=>wp_block (h a w ha hS)
theorem zE {i:Nat} {opl:List Oper} (h:WL P w0 S0 opl Q opl l S V):WC P w0 S0 (.region i opl.toArray false) Q l S V:=fun a w ha hS=>wp_region_lit (h a w ha hS)
theorem c_t {c:Operand} {x y:Code} {e:Bool} (hc:ev l c=some (.bool e)) (he:e=true) (h:WC P w0 S0 x Q l S V):WC P w0 S0 (.cond c x y) Q l S V:=fun a w ha hS=>wp_cond_true (he ▸ ha.eval hc) (h a w ha hS)
theorem c_f {c:Operand} {x y:Code} {e:Bool} (hc:ev l c=some (.bool e)) (he:e=false) (h:WC P w0 S0 y Q l S V):WC P w0 S0 (.cond c x y) Q l S V:=fun a w ha hS=>wp_cond_false (he ▸ ha.eval hc) (h a w ha hS)
theorem zB {y:Code} (h:WC P w0 S0 y Q l S V):WQ w0 S0 (Exit.then (y.wp P Q) Q) .normal l S V:=fun a w ha hS=>h a w ha hS
theorem zd {K:Act→World→Prop} (h:WQ w0 S0 Q .ret l S V):WQ w0 S0 (Exit.then K Q) .ret l S V:=fun a w ha hS=>h a w ha hS
theorem zm {K:Act→World→Prop} {i:Nat} (h:WQ w0 S0 Q (.exit i) l S V):WQ w0 S0 (Exit.then K Q) (.exit i) l S V:=fun a w ha hS=>h a w ha hS
theorem qr {i:Nat} (h:WQ w0 S0 Q .normal l S V):WQ w0 S0 (Exit.inBlock i Q) .normal l S V:=fun a w ha hS=>h a w ha hS
theorem zo {i:Nat} (h:WQ w0 S0 Q .ret l S V):WQ w0 S0 (Exit.inBlock i Q) .ret l S V:=fun a w ha hS=>h a w ha hS
theorem zV {i:Nat} (h:WQ w0 S0 Q .normal l S V):WQ w0 S0 (Exit.inBlock i Q) (.exit i) l S V:=fun a w ha hS=>by simp only[Exit.inBlock,if_true];exact h a w ha hS
theorem zao {i j:Nat} (hij:(j == i)=false) (h:WQ w0 S0 Q (.exit j) l S V):WQ w0 S0 (Exit.inBlock i Q) (.exit j) l S V:=fun a w ha hS=>by
 simp only[Exit.inBlock];rw[if_neg (by simpa using hij)];exact h a w ha hS
theorem zqM {c:Code} {m:Fr} {idx:List Nat} {A B:Hp} (hl:m.n=l.n) (hf:leF l m.kv) (hs:selE idx V=some (A,B)) (h:WC P w0 S0 c Q m S A):WC P w0 S0 c Q l S V:=
 fun a w ha hS=>h a w (ha.forget hl hf) (hS.selV hs)
theorem zqN {α:Type} (J:α→Mem→Prop) (lf:α→Fr) (Vf:α→Hp) {x y:Code} (h2:∀ z S,J z S→WC P w0 S0 y Q (lf z) S (Vf z))
  (h1:(∀ (z:α) (l:Fr) (S:Mem) (V B:Hp) (idx:List Nat),J z S→(lf z).n=l.n→leF l (lf z).kv→selE idx V=some (Vf z,B)→WQ w0 S0 (Exit.then (y.wp P Q) Q) .normal l S V) →
   WC P w0 S0 x (Exit.then (y.wp P Q) Q) l S V):WC P w0 S0 (.seq x y) Q l S V:=
 qb (h1 fun z _ _ _ _ _ hJ hl hf hs=>zB (zqM hl hf hs (h2 z _ hJ)))
/-! loops -/
def lp {α:Type} (F:(α→Mem→Prop)→α→Mem→Prop) (z:α) (S:Mem):Prop:=∀ X:α→Mem→Prop,(∀ y S,F X y S→X y S)→X z S
theorem zC {α:Type} {F:(α→Mem→Prop)→α→Mem→Prop} (I:α→Mem→Prop) (m:α→Nat) (h:∀ X y S,I y S→(∀ y' S',I y' S'→m y'<m y→X y' S')→F X y S) {z:α} {S:Mem} (h0:I z S):lp F z S:=by
 intro X hX
 have key:∀ n y S,m y=n→I y S→X y S:=by
  intro n
  induction n using Nat.strongRecOn with
  | _ n ih=>intro y S hn hI;exact hX y S (h X y S hI fun y' S' hI' hlt=>ih (m y') (hn ▸ hlt) y' S' rfl hI')
 exact key _ z S rfl h0
theorem zfu {c:Code} {X:Act→World→Prop} (hX:∀ a w,X a w→∀ (b:Frame) (k:List Item) (cs:List Frame),∃ e a' w',Q e a' w'∧Arrives P (lone (b.at a (.code c :: .inLoop c :: k)) cs w) b k cs e a' w') {a:Act} {w:World}
  (h:c.wp P (Exit.then X Q) a w):∀ (b:Frame) (k:List Item) (cs:List Frame),∃ e a' w',Q e a' w'∧Arrives P (lone (b.at a (.code c :: .inLoop c :: k)) cs w) b k cs e a' w':=by
 intro b k cs
 obtain⟨e,a₁,w₁,hq,harr⟩:=h b (.inLoop c :: k) cs
 cases e with
 | normal=>
  obtain⟨e₂,a₂,w₂,hq₂,harr₂⟩:=hX a₁ w₁ hq b k cs
  exact⟨e₂,a₂,w₂,hq₂,.of_steps (Steps.trans harr (.one step_inLoop)) harr₂⟩
 | exit id=>exact⟨_,a₁,w₁,hq,.pass (x:=.inLoop c) rfl (fun _ _=>.inl (by simp)) harr⟩
 | goto l=>exact⟨_,a₁,w₁,hq,.pass (x:=.inLoop c) rfl (fun _ _=>.inl (by simp)) harr⟩
 | ret=>exact⟨_,a₁,w₁,hq,.pass (x:=.inLoop c) rfl (fun _ _=>.inl (by simp)) harr⟩
 | panic ch=>exact⟨_,a₁,w₁,hq,.pass (x:=.inLoop c) rfl (fun _ _=>.inl (by simp)) harr⟩
 | outgrown=>exact⟨_,a₁,w₁,hq,.pass (x:=.inLoop c) rfl (fun _ _=>.inl (by simp)) harr⟩
def Back (P:Program) (c:Code) (Q:Exit→Act→World→Prop) (a:Act) (w:World):Prop:=
 ∀ (b:Frame) (k:List Item) (cs:List Frame),∃ e a' w',Q e a' w'∧Arrives P (lone (b.at a (.code c :: .inLoop c :: k)) cs w) b k cs e a' w'
theorem xC {α:Type} {F:(α→Mem→Prop)→α→Mem→Prop} (lf:α→Fr) (Vf:α→Hp) {c:Code} (z:α) {idx:List Nat} {B:Hp} (H:lp F z S) (hl:(lf z).n=l.n) (hf:leF l (lf z).kv) (hs:selE idx V=some (Vf z,B))
  (round:∀ (X:α→Mem→Prop),(∀ (z:α) (l:Fr) (S:Mem) (V B:Hp) (idx:List Nat),X z S→(lf z).n=l.n→leF l (lf z).kv→selE idx V=some (Vf z,B)→WQ w0 S0 (Exit.then (Back P c Q) Q) .normal l S V) →
   ∀ z S,F X z S→WC P w0 S0 c (Exit.then (Back P c Q) Q) (lf z) S (Vf z)):WC P w0 S0 (.loop c) Q l S V:=by
 have key:=H (fun z S=>∀ a w,Ag (lf z) a→St w0 S0 S (Vf z) w→Back P c Q a w) (fun y S hF a w ha hS=>by
  refine zfu (X:=Back P c Q) (fun _ _ h=>h) (round _ ?_ y S hF a w ha hS)
  intro z l S V B idx hX hl hf hs a w ha hS
  exact hX a w (ha.forget hl hf) (hS.selV hs))
 intro a w ha hS b k cs
 obtain⟨e,a',w',hq,harr⟩:=key a w (ha.forget hl hf) (hS.selV hs) b k cs
 exact⟨e,a',w',hq,.of_steps (.one step_loop) harr⟩
/-! ### Functions -/
def Tr (P:Program) (f:FuncId) (S:Mem) (args:List Value) (Q:Value→Mem→Prop):Prop:=
 ∀ w,St w S S [] w→Calls P f args.toArray w (fun e w'=>∃ v S',e=.returned v∧Q v S'∧St w S S' [] w')
theorem Tr.mono {f:FuncId} {args:List Value} {Q Q':Value→Mem→Prop} (h:Tr P f S args Q) (hq:∀ v S',Q v S'→Q' v S'):Tr P f S args Q':=
 fun w hS=>(h w hS).mono fun _ _ ⟨v,S',h1,h2,h3⟩=>⟨v,S',h1,hq _ _ h2,h3⟩
def FR (w0:World) (S0:Mem) (Q:Value→Mem→Prop) (e:Ending) (w':World):Prop:=∃ v S',e=.returned v∧Q v S'∧St w0 S0 S' [] w'
theorem Tr.intro {f:FuncId} {args:List Value} {R:Value→Mem→Prop} {fn:Func} {c:Code} {n:Nat} (hf:P.funcs[f]? = some fn) (hb:fn.body=some c) (hn:fn.ntmps=n) (hle:Nat.ble args.length n=true)
  (h:∀ w0,WC P w0 S c (bodyPost P fn (FR w0 S R)) (mkFr args n) S []):Tr P f S args R:=fun w hS=>by
 refine calls_of_wp hf hb (h w _ w ⟨rfl,?_,?_⟩ hS)
 ·have:=Nat.le_of_ble_eq_true hle
  simp[mkFr,hn];omega
 ·intro i v hv
  rw[zjC] at hv
  split at hv
  ·obtain⟨_,h2⟩:=zfX args 0 i v hv
   have h2:args[i]? = some v:=by simpa using h2
   have hlt:i<args.length:=(List.getElem?_eq_some_iff.1 h2).1
   rw[Array.getElem?_append_left (by simpa using hlt)]
   simpa using h2
  ·cases hv
def RV (P:Program) (w0:World) (S0:Mem) (l:Fr) (S:Mem) (V:Hp) (rs:List ResultVar) (vs:List Value):Prop:=
 ∀ a w,Ag l a→St w0 S0 S V w→(rs.mapM (rvF a)).run P w=.ok vs w
theorem zi:RV P w0 S0 l S V [] []:=fun a w _ _=>by simp
theorem zf {i:Nat} {v:Value} {rs:List ResultVar} {vs:List Value} (h:nth l i=some v) (hr:RV P w0 S0 l S V rs vs):RV P w0 S0 l S V (.tmp i :: rs) (v :: vs):=fun a w ha hS=>by
 have h1:=ha.slots i v h
 exact ziJ (by simp[rvF,h1]) (hr a w ha hS)
theorem zoB {i t b o:Nat} {v:Value} {rs:List ResultVar} {vs:List Value} [ht:ScalarT P t] (h:nth l i=some (.pointer (some ⟨b,o,none⟩)))
  (hc:HC w0 S0 S V (.cell b o v)) (hr:RV P w0 S0 l S V rs vs):RV P w0 S0 l S V (.cell i t :: rs) (v :: vs):=fun a w ha hS=>by
 have h1:=ha.slots i _ h
 have hc:w.cell? ⟨b,o,none⟩=some v:=hc w hS
 exact ziJ (by simp[rvF,h1,asAddr,loadVar,ht.run,hc]) (hr a w ha hS)
theorem zv {i t b o k:Nat} {rs:List ResultVar} {vs us:List Value} [ht:AggT P t k] [hk:SizeT P t k] (h:nth l i=some (.pointer (some ⟨b,o,none⟩)))
  (hc:HC w0 S0 S V (.cells b o us)) (hl:us.length=k) (hr:RV P w0 S0 l S V rs vs):RV P w0 S0 l S V (.cell i t :: rs) (valL us :: vs):=fun a w ha hS=>by
 have h1:=ha.slots i _ h
 have hl:=zci (P:=P) (hc w hS) hl
 exact ziJ (by simp[rvF,h1,asAddr,loadVar,ht.run,hk.run,hl,valL]) (hr a w ha hS)
theorem zfQ {fn:Func} {rs:List ResultVar} {vs:List Value} {a:Act} {w:World} (hr:fn.results=rs.toArray) (hv:RV P w0 S0 l S V rs vs) (ha:Ag l a) (hS:St w0 S0 S V w):(results fn a.tmps).run P w=.ok (retVal vs) w:=by
 have h:=hv a w ha hS
 rw[zkl fn a,hr,List.mapM_toArray]
 simp only[Sem.run_bind,map_eq_pure_bind,h,Result.andThen_ok,Sem.run_pure]
 match vs with
 | []=>rfl
 | [v]=>rfl
 | v :: u :: vs=>simp[retVal]
theorem zt {fn:Func} {rs:List ResultVar} {vs:List Value} {R:Value→Mem→Prop} (hr:fn.results=rs.toArray) (hv:RV P w0 S0 l S V rs vs)
  (hR:R (retVal vs) S):WQ w0 S0 (bodyPost P fn (FR w0 S0 R)) .ret l S V:=
 fun _ _ ha hS=>⟨ha.defers,_,zfQ hr hv ha hS,_,_,rfl,hR,hS.selV (idx:=[]) (A:=[]) (B:=V) rfl⟩
theorem zgz {fn:Func} {rs:List ResultVar} {vs:List Value} {R:Value→Mem→Prop} (hr:fn.results=rs.toArray) (hv:RV P w0 S0 l S V rs vs)
  (hR:R (retVal vs) S):WQ w0 S0 (bodyPost P fn (FR w0 S0 R)) .normal l S V:=
 fun _ _ ha hS=>⟨ha.defers,_,zfQ hr hv ha hS,_,_,rfl,hR,hS.selV (idx:=[]) (A:=[]) (B:=V) rfl⟩
/-! calls -/
def En (P:Program) (w0:World) (S0:Mem) (l:Fr) (S:Mem) (V:Hp) (op:Op) (f:FuncId) (args:List Value):Prop:=
 ∀ a w,Ag l a→St w0 S0 S V w→∀ d ty ps af g,(execOp a.eval ⟨d,op,ty,ps,af,g⟩).run P w=.ok (.enter f args.toArray) w
theorem zqG {f:FuncId} {xs:List Operand} {ats:Array TypeId} {args:List Value} [hcall:CallT P f] (hx:evs l xs=some args):En P w0 S0 l S V (.call { callee:=.value (.func f),args:=xs.toArray,argTypes:=ats }) f args:=fun a w ha _ d ty ps af g=>by
 have he:=ha.evals hx
 have e1:xs.toArray.map a.eval=args.toArray:=by rw[←he];simp
 simp[execOp,resolve,Act.eval,Deferred.ofValue,invoke,e1,hcall.run]
def cv (P:Program) (S:Mem) (fv:Value) (args:List Value) (Q:Value→Mem→Prop):Prop:=
 ∃ f fst caps,fv=.func (.func f) (List.toArray fst) (List.toArray caps)∧CallT P f∧Tr P f S (fst++args++caps) Q
def ci (P:Program) (S:Mem) (rv:Value) (name:String) (args:List Value) (Q:Value→Mem→Prop):Prop:=
 ∃ f as,(∀ w,St w S S [] w→(callMethod rv name args.toArray).run P w=.ok (.enter f (List.toArray as)) w)∧Tr P f S as Q
theorem zre {f:FuncId} {args:List Value} {R:Value→Mem→Prop} (he:En P w0 S0 l S V op f args) (hc:Tr P f S args R) (hw:wantL opl l g=some true)
  (k:∀ v S',R v S'→WL P w0 S0 opl Q rest (putn l d v) S' V):WL P w0 S0 opl Q (⟨d,op,ty,ps,af,g⟩ :: rest) l S V:=
 fun a w ha hS=>wpList_step fun K hK=>by
  rw[if_pos (qu (o:=⟨d,op,ty,ps,af,g⟩) hw ha)]
  unfold Oper.wp
  rw[he a w ha hS,Oper.upon_enter]
  refine (hc w hS.self).mono ?_
  rintro e w' ⟨v,S',rfl,hR,hS'⟩
  exact hK _ _ (k v S' hR _ _ (ha.put d v) (hS.called hS'))
theorem qz {f:FuncId} {xs:List Operand} {ats:Array TypeId} {args:List Value} {R:Value→Mem→Prop} [hcall:CallT P f] (hw:wantL opl l g=some true) (hx:evs l xs=some args) (hc:Tr P f S args R)
  (k:∀ v S',R v S'→WL P w0 S0 opl Q rest (putn l d v) S' V):WL P w0 S0 opl Q (⟨d,.call { callee:=.value (.func f),args:=xs.toArray,argTypes:=ats },ty,ps,af,g⟩ :: rest) l S V:=zre (zqG hx) hc hw k
theorem zqR {xs:List Operand} {cc:Operand} {ats:Array TypeId} {args:List Value} {fv:Value} {R:Value→Mem→Prop} (hw:wantL opl l g=some true) (hf:ev l cc=some fv) (hx:evs l xs=some args) (hc:cv P S fv args R)
  (k:∀ v S',R v S'→WL P w0 S0 opl Q rest (putn l d v) S' V):WL P w0 S0 opl Q (⟨d,.call { callee:=.value cc,args:=xs.toArray,argTypes:=ats },ty,ps,af,g⟩ :: rest) l S V:=by
 obtain⟨f,fst,caps,rfl,hcall,hT⟩:=hc
 refine zre (f:=f) (args:=fst++args++caps) (fun a w ha _ d ty ps af g=>?_) hT hw k
 have he:=ha.evals hx
 have e1:xs.toArray.map a.eval=args.toArray:=by rw[←he];simp
 simp[execOp,resolve,ha.eval hf,Deferred.ofValue,invoke,e1,hcall.run]
theorem zkS {xs:List Operand} {r:Operand} {name:String} {ats:Array TypeId} {args:List Value} {rv:Value} {R:Value→Mem→Prop} (hw:wantL opl l g=some true) (hr:ev l r=some rv) (hx:evs l xs=some args) (hc:ci P S rv name args R)
  (k:∀ v S',R v S'→WL P w0 S0 opl Q rest (putn l d v) S' V):WL P w0 S0 opl Q (⟨d,.call { callee:=.invoke r name,args:=xs.toArray,argTypes:=ats },ty,ps,af,g⟩ :: rest) l S V:=by
 obtain⟨f,as,hm,hT⟩:=hc
 refine zre (f:=f) (args:=as) (fun a w ha hS d ty ps af g=>?_) hT hw k
 have he:=ha.evals hx
 have e1:xs.toArray.map a.eval=args.toArray:=by rw[←he];simp
 have:=hm w hS.self
 simp[execOp,resolve,ha.eval hr,invoke,e1,this]
theorem zqT {t f:Nat} {name:String} {args:List Value} {p:Addr} {R:Value→Mem→Prop} [hm:MethP P t name f] [hcall:CallT P f] (h:Tr P f S (.pointer (some p) :: args) R):ci P S (.iface t (.pointer (some p))) name args R:=
 ⟨f,_,fun w _=>by simp[callMethod,hm.run,hcall.run],h⟩
theorem zpj {t f b o:Nat} {name:String} {args:List Value} {v:Value} {R:Value→Mem→Prop} [hm:MethV P t name f] [hcall:CallT P f] (hv:S.cell b o=some v) (h:Tr P f S (v :: args) R):ci P S (.iface t (.pointer (some ⟨b,o,none⟩))) name args R:=
 ⟨f,_,fun w hS=>by simp[callMethod,hm.run _ _ v (hS.cellS hv),hcall.run],h⟩
end rules
end
section
open Go Go.RowKit
/-! ### Words of the printed texts -/
def gI (c:Option Value) (k:IntKind) (K:Int→Prop):Prop:=∃ n,c=some (.int k n)∧K n
def gB (c:Option Value) (K:Bool→Prop):Prop:=∃ n,c=some (.bool n)∧K n
def gS (c:Option Value) (K:ByteArray→Prop):Prop:=∃ n,c=some (.string n)∧K n
def gP (c:Option Value) (K:Pt→Prop):Prop:=∃ n,c=some (eP n)∧K n
def gL (c:Option Value) (K:Sl→Prop):Prop:=∃ n,c=some (eL n)∧K n
def gV (c:Option Value) (K:Value→Prop):Prop:=∃ n,c=some n∧K n
def gA (c:Option (List Value)) (K:List Value→Prop):Prop:=∃ n,c=some n∧K n
def gU (l:List UInt8) (i:Nat) (K:UInt8→Prop):Prop:=∃ b,l[i]? = some b∧K b
def nn (p:Pt) (K:Nat→Nat→Prop):Prop:=∃ b o,p=some (b,o)∧K b o
def sl (s:Sl) (K:Nat→Nat→Nat→Nat→Prop):Prop:=∃ b o n c,s=⟨some (b,o),n,c⟩∧K b o n c
def jn {β:Type} (J:β) (B:β→Prop):Prop:=B J
def al (S:Mem) (t:TypeId) (z:List Value) (K:Nat→Mem→Prop):Prop:=∀ b,S b=none→K b (S.set b (bw t z))
def pt (S:Mem) (b o n:Nat) (vs:List Value) (K:Mem→Prop):Prop:=S.room b o n∧K (S.put b o vs)
def asA (v:Value) (t:TypeId) (n:Nat) (K:List Value→Prop):Prop:=∃ a,v=.iface t (valL a)∧a.length=n∧K a
theorem zmE {p q:Pt} (h:adr p=adr q):p=q:=by
 cases p with
 | none=>cases q with
  | none=>rfl
  | some y=>obtain⟨c,d⟩:=y;simp[adr] at h
 | some x=>cases q with
  | none=>obtain⟨c,d⟩:=x;simp[adr] at h
  | some y=>obtain⟨c,d⟩:=x;obtain⟨e,f⟩:=y;simp[adr] at h;simp[h]
theorem zqH {p q:Pt} (h:eP p=eP q):p=q:=by simp only[eP,Value.pointer.injEq] at h;exact zmE h
theorem zmk {p q:Sl} (h:eL p=eL q):p=q:=by
 simp only[eL,Value.slice.injEq] at h
 obtain⟨h1,h2,h3⟩:=h
 have h4:=zmE h1
 cases p;cases q;simp_all
theorem zx {c:Option Value} {k:IntKind} {n:Int} (h:c=some (.int k n)) (K:Int→Prop):gI c k K=K n:=by
 subst h;exact propext ⟨fun⟨m,hm,hK⟩=>by simp at hm;subst hm;exact hK,fun hK=>⟨n,rfl,hK⟩⟩
theorem fo {c:Option Value} {n:Bool} (h:c=some (.bool n)) (K:Bool→Prop):gB c K=K n:=by
 subst h;exact propext ⟨fun⟨m,hm,hK⟩=>by simp at hm;subst hm;exact hK,fun hK=>⟨n,rfl,hK⟩⟩
theorem zS {c:Option Value} {n:Pt} (h:c=some (eP n)) (K:Pt→Prop):gP c K=K n:=by
 subst h;exact propext ⟨fun⟨m,hm,hK⟩=>by rw[zqH (Option.some.inj hm)];exact hK,fun hK=>⟨n,rfl,hK⟩⟩
theorem wj {c:Option Value} {n:Sl} (h:c=some (eL n)) (K:Sl→Prop):gL c K=K n:=by
 subst h;exact propext ⟨fun⟨m,hm,hK⟩=>by rw[zmk (Option.some.inj hm)];exact hK,fun hK=>⟨n,rfl,hK⟩⟩
theorem zqS {c:Option Value} {n:Value} (h:c=some n) (K:Value→Prop):gV c K=K n:=by
 subst h;exact propext ⟨fun⟨m,hm,hK⟩=>by rw[Option.some.inj hm];exact hK,fun hK=>⟨n,rfl,hK⟩⟩
theorem xa {c:Option (List Value)} {n:List Value} (h:c=some n) (K:List Value→Prop):gA c K=K n:=by
 subst h;exact propext ⟨fun⟨m,hm,hK⟩=>by rw[Option.some.inj hm];exact hK,fun hK=>⟨n,rfl,hK⟩⟩
theorem zL (b o:Nat) (K:Nat→Nat→Prop):nn (some (b,o)) K=K b o:=
 propext ⟨fun⟨b',o',h,hK⟩=>by simp at h;obtain⟨rfl,rfl⟩:=h;exact hK,fun hK=>⟨b,o,rfl,hK⟩⟩
theorem fi (b o n c:Nat) (K:Nat→Nat→Nat→Nat→Prop):sl ⟨some (b,o),n,c⟩ K=K b o n c:=
 propext ⟨fun⟨b',o',n',c',h,hK⟩=>by simp at h;obtain⟨⟨rfl,rfl⟩,rfl,rfl⟩:=h;exact hK,fun hK=>⟨b,o,n,c,rfl,hK⟩⟩
theorem ze {a:List Value} {n:Nat} (h:a.length=n):lpart a 0 n=some a:=by
 rw[qA (by omega)];simp[←h]
theorem zrl {p A B:Prop} [Decidable p] (h:if p then A else B):(p∧A)∨(¬p∧B):=by
 by_cases hp:p
 ·rw[if_pos hp] at h;exact .inl ⟨hp,h⟩
 ·rw[if_neg hp] at h;exact .inr ⟨hp,h⟩
theorem zfs {e:Bool} {A B:Prop} (h:if e=true then A else B):(e=true∧A)∨(e=false∧B):=by
 cases e
 ·exact .inr ⟨rfl,by simpa using h⟩
 ·exact .inl ⟨rfl,by simpa using h⟩
theorem zfp {b:Bool} (h:¬b=true):b=false:=by cases b <;> simp_all
theorem wR {a:List Value} {n o m:Nat} (h:a.length=n) (h2:o+m≤n):o+m≤a.length:=by omega
theorem zgu {cs vs:List Value} (h:cs.length=vs.length):spl cs 0 vs=vs:=by
 cases cs <;> simp[spl,h] <;> simp_all
section
variable {P:Program} {w0:World} {S0:Mem} {opl:List Oper} {Q:Exit→Act→World→Prop} {rest:List Oper} {l:Fr} {S:Mem} {V:Hp}
variable {d:Option Tmp} {op:Op} {ty:TypeId} {ps:String} {af:Array Edge} {g:Option (Nat×Bool)}
theorem zn {t:TypeId} {x y:Operand} {b sz:Nat} (n:Nat) {et:TypeId} {cs vs:List Value} {v:Value} [hk:SizeT P t sz] (hw:wantL opl l g=some true) (hx:ev l x=some (.pointer (some ⟨b,0,none⟩)))
  (hy:ev l y=some v) (hv:cellsL v=vs) (hn:nthL V n=some ⟨b,et,cs⟩) (hsz:vs.length=sz) (hc:cs.length=sz) (h1:vs.all (·.oneCell')=true)
  (k:WL P w0 S0 opl Q rest (putn l d undef) S (setE V n vs)) (hty:Nat.beq et itT=false:=by rfl):WL P w0 S0 opl Q (⟨d,.store t x y,ty,ps,af,g⟩ :: rest) l S V:=
 wX n hw hx hy hv hn hsz (by omega) h1 (by rw[zgu (by omega)];exact k) hty
theorem zy {α β:Type} {J:β} {B:β→Prop} (H:jn J B) (ap:β→α→Mem→Prop) (lf:α→Fr) (Vf:α→Hp) {x y:Code} (h2:∀ z S,ap J z S→WC P w0 S0 y Q (lf z) S (Vf z))
  (h1:∀ J:β,(∀ (z:α) (l:Fr) (S:Mem) (V B:Hp) (idx:List Nat),ap J z S→(lf z).n=l.n→leF l (lf z).kv→selE idx V=some (Vf z,B)→WQ w0 S0 (Exit.then (y.wp P Q) Q) .normal l S V)→B J →
   WC P w0 S0 x (Exit.then (y.wp P Q) Q) l S V):WC P w0 S0 (.seq x y) Q l S V:=
 zqN (ap J) lf Vf h2 fun h=>h1 J h H
end
end
section
open Go Go.RowKit
def waits (o:Oper) (i:Nat):Bool:=o.after.toList.any fun e=>Region.binds .any e && Nat.beq e.on i
def waitsL (opl:List Oper) (j i:Nat):Bool:=match nthL opl j with
 | some o=>waits o i
 | none=>false
def keepc (opl:List Oper) (j:Nat):List (Nat×Cond)→List (Nat×Cond)
 | []=>[]
 | ic :: r=>match waitsL opl j ic.1 with
  | true=>keepc opl j r
  | false=>ic :: keepc opl j r
theorem fM {opl:List Oper} {j:Nat}:∀ {cs:List (Nat×Cond)},∀ x∈keepc opl j cs,x∈cs
 | [],x,h=>by simp[keepc] at h
 | ic :: r,x,h=>by
  simp only[keepc] at h
  split at h
  ·exact List.mem_cons_of_mem _ (fM x h)
  ·rcases List.mem_cons.1 h with rfl | h
   ·simp
   ·exact List.mem_cons_of_mem _ (fM x h)
theorem zgb {opl:List Oper} {j:Nat}:∀ {cs cs':List (Nat×Cond)},(∀ x∈cs',x∈cs)→∀ x∈keepc opl j cs',x∈keepc opl j cs:=by
 have key:∀ (cs:List (Nat×Cond)) x,x∈keepc opl j cs↔x∈cs∧waitsL opl j x.1=false:=by
  intro cs
  induction cs with
  | nil=>intro x;simp[keepc]
  | cons ic r ih=>
   intro x
   simp only[keepc]
   split
   ·rename_i hw
    rw[ih,List.mem_cons]
    constructor
    ·rintro⟨h1,h2⟩;exact⟨.inr h1,h2⟩
    ·rintro⟨rfl | h1,h2⟩
     ·rw[h2] at hw;cases hw
     ·exact⟨h1,h2⟩
   ·rename_i hw
    rw[List.mem_cons,ih,List.mem_cons]
    constructor
    ·rintro (rfl | ⟨h1,h2⟩)
     ·exact⟨.inl rfl,hw⟩
     ·exact⟨.inr h1,h2⟩
    ·rintro⟨rfl | h1,h2⟩
     ·exact .inl rfl
     ·exact .inr ⟨h1,h2⟩
 intro cs cs' h x hx
 rw[key] at *
 exact⟨h x hx.1,hx.2⟩
def allok (cs:List (Nat×Cond)) (w:World):Prop:=∀ ic∈cs,ic.2.ok w
section
variable {P:Program} {opl:List Oper} {Q:Exit→Act→World→Prop}
def wpAnyC (P:Program) (opl:List Oper) (Q:Exit→Act→World→Prop):Nat→List (Nat×Cond)→Array Bool→Act→World→Prop
 | 0,_,listed,a,w=>Region.ready .any opl.toArray listed=[]∧Q .normal a w
 | fuel+1,cs,listed,a,w=>
  (Region.ready .any opl.toArray listed=[]→Q .normal a w) ∧
  ∀ i∈Region.ready .any opl.toArray listed,wpOp P opl.toArray Q i (fun a' w'=>allok (keepc opl i cs) w'∧wpAnyC P opl Q fuel (keepc opl i cs) (listed.setIfInBounds i true) a' w') a w
theorem zfH:∀ (fuel:Nat) (cs:List (Nat×Cond)) (listed:Array Bool) (a:Act) (w:World),wpAnyC P opl Q fuel cs listed a w→wpAny P .any opl.toArray Q fuel listed a w
 | 0,_,_,_,_,h=>h
 | fuel+1,_,_,_,_,h=>⟨h.1,fun i hi=>wpOp_mono (fun a' w' h'=>zfH fuel _ _ a' w' h'.2) (h.2 i hi)⟩
theorem zem:∀ (fuel:Nat) (cs cs':List (Nat×Cond)) (listed:Array Bool) (a:Act) (w:World),(∀ x∈cs',x∈cs)→wpAnyC P opl Q fuel cs listed a w→wpAnyC P opl Q fuel cs' listed a w
 | 0,_,_,_,_,_,_,h=>h
 | fuel+1,_,_,_,_,_,hs,h=>⟨h.1,fun i hi=>wpOp_mono (fun a' w' h'=>⟨fun x hx=>h'.1 x (zgb hs x hx),zem fuel _ _ _ a' w' (zgb hs) h'.2⟩) (h.2 i hi)⟩
theorem fu {i:Nat} {oi:Oper} {v:Value} {c:Cond} (hi:opl.toArray[i]? = some oi) (hsel:∀ (j:Nat) (o:Oper) cs b,opl.toArray[j]? = some o→o.op≠.select cs b)
  (hQ:∀ c a w,¬Q (.panic c) a w) :
  ∀ (fuel:Nat) (cs:List (Nat×Cond)) (listed:Array Bool) (a:Act) (w:World),
   (∀ j oj,opl.toArray[j]? = some oj→j≠i→listed.getD j true=false→(∀ e∈oj.after,Region.binds .any e=true→e.on≠i)→oi.apart opl.toArray oj=true) →
   i∈Region.ready .any opl.toArray listed→YieldsIf P opl.toArray c.ok oi v a→c.ok w→allok cs w →
   wpAnyC P opl Q fuel ((i,c) :: cs) (listed.setIfInBounds i true) (a.put oi.dst v) w→wpAnyC P opl Q (fuel+1) cs listed a w:=by
 intro fuel
 induction fuel with
 | zero=>
  intro cs listed a w _ hr hy hc hcs H
  refine⟨fun h=>(by rw[h] at hr;cases hr),fun j hj=>?_⟩
  by_cases hji:j=i
  ·subst hji;exact hy.wpOp hi hc ⟨fun x hx=>hcs x (fM x hx),H⟩
  ·have:=ready_mono hj hji
   rw[H.1] at this
   cases this
 | succ fuel ih=>
  intro cs listed a w hfree hr hy hc hcs H
  refine⟨fun h=>(by rw[h] at hr;cases hr),fun j hj=>?_⟩
  by_cases hji:j=i
  ·subst hji
   exact hy.wpOp hi hc ⟨fun x hx=>hcs x (fM x hx),zem _ _ _ _ _ _ (fun x hx=>List.mem_cons_of_mem _ (fM x hx)) H⟩
  ·have h1:=H.2 j (ready_mono hj hji)
   obtain⟨hjun,oj,hoj,hall⟩:=mem_ready.1 hj
   have hnot:∀ e∈oj.after,Region.binds .any e=true→e.on≠i:=fun e he hb heq=>by
    have h1:=hall e he hb
    have h0:=(mem_ready.1 hr).1
    rw[heq] at h1
    rcases Nat.lt_or_ge i listed.size with h' | h'
    ·simp[h'] at h0 h1;rw[h0] at h1;cases h1
    ·simp[Array.getElem?_eq_none h'] at h1
   have hk:keepc opl j ((i,c) :: cs)=(i,c) :: keepc opl j cs:=by
    have hw:waitsL opl j i=false:=by
     unfold waitsL
     rw[zI,show opl[j]? = some oj by simpa using hoj]
     simp only[waits]
     rw[List.any_eq_false]
     intro e he
     simp only[Bool.and_eq_true,not_and]
     intro hb hbe
     exact hnot e (by simpa using he) hb (Nat.eq_of_beq_eq_true hbe)
    simp only[keepc,hw]
   rw[hk] at h1
   have h2:=wpOp_putIf (S:=c.ok) hoj (hfree j oj hoj hji hjun hnot) (fun cs b=>hsel i oi cs b hi) (fun cs b=>hsel j oj cs b hoj) (fun c a w h=>(hQ c _ w h).elim) hy h1
   have hfree':∀ k ok,opl.toArray[k]? = some ok→k≠i→(listed.setIfInBounds j true).getD k true=false →
     (∀ e∈ok.after,Region.binds .any e=true→e.on≠i)→oi.apart opl.toArray ok=true:=fun k ok hk hki hun hno=>by
    refine hfree k ok hk hki ?_ hno
    by_cases hjk:j=k
    ·subst hjk;exact hjun
    ·rw[getD_set_ne true hjk] at hun;exact hun
   refine wpOp_mono (fun a' w' h3=>?_) h2
   obtain⟨h4,h5,h6⟩:=h3
   have h7:allok (keepc opl j cs) w':=fun x hx=>h5 x (List.mem_cons_of_mem _ hx)
   refine⟨h7,ih (keepc opl j cs) (listed.setIfInBounds j true) a' w' hfree' (ready_mono hr (Ne.symm hji)) h4 (h5 (i,c) (by simp)) h7 ?_⟩
   rw[Array.setIfInBounds_comm _ _ hji]
   exact h6
end
def NP (Q:Exit→Act→World→Prop):Prop:=∀ c a w,¬Q (.panic c) a w
theorem zb {P:Program} {fn:Func} {w0:World} {S0:Mem} {R:Value→Mem→Prop}:NP (bodyPost P fn (FR w0 S0 R)):=fun _ _ _ h=>by
 obtain⟨_,v,Lo,h1,_⟩:=h
 cases h1
theorem za {K:Act→World→Prop} {Q:Exit→Act→World→Prop} (h:NP Q):NP (Exit.then K Q):=fun c a w hq=>h c a w hq
theorem zc {i:Nat} {Q:Exit→Act→World→Prop} (h:NP Q):NP (Exit.inBlock i Q):=fun c a w hq=>h c a w hq
def WA (P:Program) (w0:World) (S0:Mem) (opl:List Oper) (Q:Exit→Act→World→Prop) (fuel:Nat) (cs:List (Nat×Cond)) (listed:Array Bool) (l:Fr) (S:Mem) (V:Hp):Prop:=
 ∀ a w,Ag l a→St w0 S0 S V w→allok cs w→wpAnyC P opl Q fuel cs listed a w
def AW (P:Program) (opl:List Oper) (Q:Exit→Act→World→Prop) (fuel:Nat) (cs:List (Nat×Cond)) (listed:Array Bool) (a:Act) (w:World):Prop:=
 allok cs w∧wpAnyC P opl Q fuel cs listed a w
def AllC (w0:World) (S0 S:Mem) (V:Hp) (cs:List (Nat×Cond)):Prop:=∀ w,St w0 S0 S V w→allok cs w
def okTake (opl:List Oper) (listed:Array Bool) (i:Nat):Bool:=Region.noSelect opl.toArray && Region.free .any opl.toArray listed i && (Region.ready .any opl.toArray listed).contains i
section
variable {P:Program} {w0:World} {S0:Mem} {opl:List Oper} {Q:Exit→Act→World→Prop} {l:Fr} {S:Mem} {V:Hp} {fuel:Nat} {listed:Array Bool} {cs:List (Nat×Cond)}
variable {d:Option Tmp} {op:Op} {ty:TypeId} {ps:String} {af:Array Edge} {g:Option (Nat×Bool)}
theorem zq:AllC w0 S0 S V []:=fun _ _ x hx=>by cases hx
theorem zj {i:Nat} {c:Cond} (h:HC w0 S0 S V c) (hr:AllC w0 S0 S V cs):AllC w0 S0 S V ((i,c) :: cs):=fun w hS x hx=>by
 rcases List.mem_cons.1 hx with rfl | hx
 ·exact h w hS
 ·exact hr w hS x hx
theorem qa {id:Nat} (hm:P.follows .mixedOrders=true) (h:WA P w0 S0 opl Q opl.length [] (Array.replicate opl.length false) l S V):WC P w0 S0 (.region id opl.toArray true) Q l S V:=
 fun a _ ha hS=>wp_region_any hm (zfH _ _ _ _ _ (by
  have:=h a _ ha hS.drawn (fun x hx=>by cases hx)
  simpa using this))
theorem zY (i:Nat) {v:Value} {c:Cond} (hi:nthL opl i=some ⟨d,op,ty,ps,af,g⟩) (hok:okTake opl listed i=true)
  (hQ:NP Q) (hw:wantL opl l g=some true) (hy:Yc P l c op v) (hc:HC w0 S0 S V c) (k:WA P w0 S0 opl Q fuel ((i,c) :: cs) (listed.setIfInBounds i true) (putn l d v) S V):WA P w0 S0 opl Q (fuel+1) cs listed l S V:=
 fun a w ha hS hcs=>by
  simp only[okTake,Bool.and_eq_true] at hok
  have hi':opl.toArray[i]? = some ⟨d,op,ty,ps,af,g⟩:=by rw[zI] at hi;simpa using hi
  exact fu hi' (Region.noSelect_spec hok.1.1) hQ fuel cs listed a w (Region.free_spec hi' hok.1.2) (by simpa using hok.2)
   (.inl ⟨qu (o:=⟨d,op,ty,ps,af,g⟩) hw ha,fun w hw=>hy a w ha hw d ty ps af g⟩) (hc w hS) hcs
   (k _ _ (ha.put d v) hS (fun x hx=>by
    rcases List.mem_cons.1 hx with rfl | hx
    ·exact hc w hS
    ·exact hcs x hx))
theorem a_takeP (i:Nat) {v:Value} (hi:nthL opl i=some ⟨d,op,ty,ps,af,g⟩) (hok:okTake opl listed i=true)
  (hQ:NP Q) (hw:wantL opl l g=some true) (hy:Yc P l .tt op v) (k:WA P w0 S0 opl Q fuel cs (listed.setIfInBounds i true) (putn l d v) S V):WA P w0 S0 opl Q (fuel+1) cs listed l S V:=by
 intro a w ha hS hcs
 simp only[okTake,Bool.and_eq_true] at hok
 have hi':opl.toArray[i]? = some ⟨d,op,ty,ps,af,g⟩:=by rw[zI] at hi;simpa using hi
 refine fu (c:=.tt) hi' (Region.noSelect_spec hok.1.1) hQ fuel cs listed a w (Region.free_spec hi' hok.1.2) (by simpa using hok.2)
   (.inl ⟨qu (o:=⟨d,op,ty,ps,af,g⟩) hw ha,fun w hw=>hy a w ha hw d ty ps af g⟩) True.intro hcs ?_
 have:=k _ _ (ha.put d v) hS hcs
 refine wpAnyC_add this
where wpAnyC_add {i:Nat}:∀ {fuel:Nat} {cs:List (Nat×Cond)} {listed:Array Bool} {a:Act} {w:World},wpAnyC P opl Q fuel cs listed a w→wpAnyC P opl Q fuel ((i,.tt) :: cs) listed a w
 | 0,_,_,_,_,h=>h
 | fuel+1,cs,_,_,_,h=>⟨h.1,fun j hj=>wpOp_mono (fun a' w' h'=>by
   simp only[keepc]
   split
   ·exact h'
   ·refine⟨fun x hx=>?_,wpAnyC_add h'.2⟩
    rcases List.mem_cons.1 hx with rfl | hx
    ·exact True.intro
    ·exact h'.1 x hx) (h.2 j hj)⟩
theorem qH (i:Nat) (hi:nthL opl i=some ⟨d,op,ty,ps,af,g⟩) (hok:okTake opl listed i=true)
  (hQ:NP Q) (hw:wantL opl l g=some false) (k:WA P w0 S0 opl Q fuel cs (listed.setIfInBounds i true) (putn l d undef) S V):WA P w0 S0 opl Q (fuel+1) cs listed l S V:=by
 intro a w ha hS hcs
 simp only[okTake,Bool.and_eq_true] at hok
 have hi':opl.toArray[i]? = some ⟨d,op,ty,ps,af,g⟩:=by rw[zI] at hi;simpa using hi
 refine fu (c:=.tt) hi' (Region.noSelect_spec hok.1.1) hQ fuel cs listed a w (Region.free_spec hi' hok.1.2) (by simpa using hok.2)
   (.inr ⟨qu (o:=⟨d,op,ty,ps,af,g⟩) hw ha,rfl⟩) True.intro hcs ?_
 exact a_takeP.wpAnyC_add (k _ _ (ha.put d undef) hS hcs)
theorem fq {i:Nat} {o:Oper} {K:Act→World→Prop} {a:Act} {w:World} (hi:nthL opl i=some o) (h:wpList P opl.toArray (Exit.then K Q) [o] a w):wpOp P opl.toArray Q i K a w:=by
 have hi':opl.toArray[i]? = some o:=by rw[zI] at hi;simpa using hi
 unfold wpOp
 simp only[hi']
 unfold wpList at h
 split at h
 ·rename_i hw
  rw[if_pos hw]
  rcases h with h | ⟨h1,h2⟩
  ·left
   revert h
   unfold Oper.wp Oper.upon
   split <;> intro h <;> exact h
  ·right;exact⟨h1,h2⟩
 ·rename_i hw
  rw[if_neg hw];exact h
theorem zw (i:Nat) {o:Oper} (hr:Region.ready .any opl.toArray listed=[i]) (hi:nthL opl i=some o) (h:WL P w0 S0 opl (Exit.then (AW P opl Q fuel (keepc opl i cs) (listed.setIfInBounds i true)) Q) [o] l S V):WA P w0 S0 opl Q (fuel+1) cs listed l S V:=
 fun a w ha hS _=>⟨fun h0=>(by rw[hr] at h0;cases h0),fun j hj=>by
  obtain rfl:j=i:=by rw[hr] at hj;simpa using hj
  exact fq hi (h a w ha hS)⟩
theorem ff (i i2:Nat) {o o2:Oper} (hr:Region.ready .any opl.toArray listed=[i,i2]) (hi:nthL opl i=some o) (hi2:nthL opl i2=some o2)
  (h:WL P w0 S0 opl (Exit.then (AW P opl Q fuel (keepc opl i cs) (listed.setIfInBounds i true)) Q) [o] l S V) (h2:WL P w0 S0 opl (Exit.then (AW P opl Q fuel (keepc opl i2 cs) (listed.setIfInBounds i2 true)) Q) [o2] l S V):WA P w0 S0 opl Q (fuel+1) cs listed l S V:=
 fun a w ha hS _=>⟨fun h0=>(by rw[hr] at h0;cases h0),fun j hj=>by
  have:j=i∨j=i2:=by rw[hr] at hj;simpa using hj
  rcases this with rfl | rfl
  ·exact fq hi (h a w ha hS)
  ·exact fq hi2 (h2 a w ha hS)⟩
theorem zH (hall:AllC w0 S0 S V cs) (k:WA P w0 S0 opl Q fuel cs listed l S V):WQ w0 S0 (Exit.then (AW P opl Q fuel cs listed) Q) .normal l S V:=
 fun a w ha hS=>⟨hall w hS,k a w ha hS (hall w hS)⟩
theorem zW (hr:Region.ready .any opl.toArray listed=[]) (k:WQ w0 S0 Q .normal l S V):WA P w0 S0 opl Q fuel cs listed l S V:=
 fun a w ha hS _=>by
  cases fuel with
  | zero=>exact⟨hr,k a w ha hS⟩
  | succ n=>exact⟨fun _=>k a w ha hS,by rw[hr];simp⟩
theorem zru (n:Nat) {b:Nat} {t:TypeId} {zs:List Value} (hn:nthL V n=some ⟨b,t,zs⟩) (k:S b=none→WA P w0 S0 opl Q fuel cs listed l (S.set b (bw t zs)) (dropE V n)) (hty:Nat.beq t itT=false:=by rfl):WA P w0 S0 opl Q fuel cs listed l S V:=
 fun a w ha hS hcs=>k (hS.loc _ (qv hn)).2.1 a w ha (hS.publish hn hty) hcs
end
end
end Go.Pt
