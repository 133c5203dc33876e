/- Texts of this work,joined by program (pack.py). -/
import Derived.Test.YtabdpmnhjlmnlaaGreatDoorQBB
import Derived.Test.YtabdpmnhjlmnlaaGreatDoorQBC
set_option linter.unusedVariables false
set_option maxRecDepth 20000
set_option maxHeartbeats 4000000
namespace Go.Pt
section
open Go
def fstR:Code→Nat
 | .region i _ _=>i+1
 | .seq x y=>match fstR x with
  | 0=>fstR y
  | n+1=>n+1
 | .block _ x=>fstR x
 | .loop x=>fstR x
 | .cond _ x y=>match fstR x with
  | 0=>fstR y
  | n+1=>n+1
 | _=>0
def keepL (l:Fr):List Nat→List (Nat×Value)
 | []=>[]
 | k :: r=>(k,(look l.kv k).getD undef) :: keepL l r
def keepF (l:Fr) (ks:List Nat) (ch:List (Nat×Value)):Fr:=⟨l.n,ch++keepL l ks⟩
def entV (V:Hp) (i:Nat):Ent:=(nthL V i).getD ⟨0,0,[]⟩
def pkV (V:Hp):List (Nat×Option (List Value))→Hp
 | []=>[]
 | (i,c) :: r=>⟨(entV V i).b,(entV V i).ty,c.getD (entV V i).cs⟩ :: pkV V r
def popsOf:List Nat→List Nat→List Nat
 | [],_=>[]
 | i :: r,d=>(i-(d.filter fun j=>Nat.blt j i).length) :: popsOf r (i :: d)
inductive Dj {α:Type} (n:Nat) (ks:List Nat) (ch:α→List (Nat×Value)) (vs:α→List (Nat×Option (List Value))):Prop where
 | mk:Dj n ks ch vs
theorem dj {α:Type} (n:Nat) (ks:List Nat) (ch:α→List (Nat×Value)) (vs:α→List (Nat×Option (List Value))):Dj n ks ch vs:=.mk
theorem dj0 {α:Type} (n:Nat) (ks:List Nat) (ch:α→List (Nat×Value)):Dj n ks ch (fun _=>[]):=.mk
theorem dj1 (n:Nat) (ks:List Nat):Dj (α:=Unit) n ks (fun _=>[]) (fun _=>[]):=.mk
class Ap (β:Type) (α:outParam Type) where
 ap:β→α→Mem→Prop
instance:Ap (Mem→Prop) Unit:=⟨fun J _ S=>J S⟩
instance {a γ α:Type} [h:Ap γ α]:Ap (a→γ) (a×α):=⟨fun J z S=>h.ap (J z.1) z.2 S⟩
def JH {α:Type} (w0:World) (S0:Mem) (K:Exit→Act→World→Prop) (ap:α→Mem→Prop) (lf:α→Fr) (Vf:α→Hp):Prop:=
 ∀ (z:α) (l:Fr) (S:Mem) (V B:Hp) (idx:List Nat),ap z S→(lf z).n=l.n→leF l (lf z).kv→selE idx V=some (Vf z,B)→WQ w0 S0 K .normal l S V
theorem iteB {b:Bool} {A B R:Prop} (h:if b=true then A else B) (h1:b=true→A→R) (h2:b=false→B→R):R:=by
 rcases zbG h with ⟨a,b⟩ | ⟨a,b⟩
 ·exact h1 a b
 ·exact h2 a b
section
variable {P:Program} {w0:World} {S0:Mem} {opl:List Oper} {Q:Exit→Act→World→Prop} {rest:List Oper} {l:Fr} {S:Mem} {V:Hp}
theorem jgo {α:Type} {K:Exit→Act→World→Prop} {ap:α→Mem→Prop} {lf:α→Fr} {Vf:α→Hp} {z:α} {B:Hp} {idx:List Nat} (h:JH w0 S0 K ap lf Vf) (H:ap z S) (hl:(lf z).n=l.n) (hf:leF l (lf z).kv) (hs:selE idx V=some (Vf z,B)):WQ w0 S0 K .normal l S V:=h z l S V B idx H hl hf hs
theorem jo {α β:Type} [h:Ap β α] {J:β} {B:β→Prop} (H:jn J B) {n:Nat} {ks:List Nat} {ch:α→List (Nat×Value)} {vs:α→List (Nat×Option (List Value))} {x y:Code} (hn:fstR y=n) (_d:Dj n ks ch vs)
  (h2:∀ z S',h.ap J z S'→WC P w0 S0 y Q (keepF l ks (ch z)) S' (pkV V (vs z)))
  (h1:∀ J':β,JH w0 S0 (Exit.then (y.wp P Q) Q) (h.ap J') (fun z=>keepF l ks (ch z)) (fun z=>pkV V (vs z))→B J'→WC P w0 S0 x (Exit.then (y.wp P Q) Q) l S V):WC P w0 S0 (.seq x y) Q l S V:=
 zp H h.ap _ _ h2 fun J' hJ=>h1 J' hJ
theorem lo {α:Type} {F:(α→Mem→Prop)→α→Mem→Prop} {z0:α} (H:lp F z0 S) {n:Nat} {ks:List Nat} {ch:α→List (Nat×Value)} {vs:α→List (Nat×Option (List Value))} {c:Code} (hn:fstR c=n) (_d:Dj n ks ch vs) {B:Hp}
  (hf:leF l (keepF l ks (ch z0)).kv) (hs:selE (popsOf ((vs z0).map (·.1)) []) V=some (pkV V (vs z0),B))
  (round:∀ X:α→Mem→Prop,JH w0 S0 (Exit.then (Back P c Q) Q) X (fun z=>keepF l ks (ch z)) (fun z=>pkV V (vs z))→∀ z S',F X z S'→WC P w0 S0 c (Exit.then (Back P c Q) Q) (keepF l ks (ch z)) S' (pkV V (vs z))):WC P w0 S0 (.loop c) Q l S V:=
 xM (fun z=>keepF l ks (ch z)) (fun z=>pkV V (vs z)) z0 H rfl hf hs fun X hX=>round X hX
end
theorem lnA {p:Prop} (h:p:=by first
 | exact rfl
 | assumption
 | exact qZ (by assumption)
 | exact (qL (by assumption)).2.2
 | (refine zq (by first | assumption | exact qZ (by assumption) | exact (qL (by assumption)).2.2 | exact rfl) ?_;simp only[List.length_cons,List.length_nil];omega)
 | (refine zq (zq (by first | assumption | exact rfl) ?_) ?_ <;> (simp only[List.length_cons,List.length_nil];omega))):p:=h
section
variable {P:Program} {w0:World} {S0 S:Mem} {V:Hp} {b o k:Nat} {v:Value} {vs cs:List Value} {ty:TypeId}
theorem hcV0 (hn:nthL V 0=some ⟨b,ty,cs⟩) (hv:nthL cs o=some v) (hty:Nat.beq ty itT=false):HC w0 S0 S V (.cell b o v):=qm 0 hn hv hty
theorem hcV1 (hn:nthL V 1=some ⟨b,ty,cs⟩) (hv:nthL cs o=some v) (hty:Nat.beq ty itT=false):HC w0 S0 S V (.cell b o v):=qm 1 hn hv hty
theorem hcV2 (hn:nthL V 2=some ⟨b,ty,cs⟩) (hv:nthL cs o=some v) (hty:Nat.beq ty itT=false):HC w0 S0 S V (.cell b o v):=qm 2 hn hv hty
theorem hcV3 (hn:nthL V 3=some ⟨b,ty,cs⟩) (hv:nthL cs o=some v) (hty:Nat.beq ty itT=false):HC w0 S0 S V (.cell b o v):=qm 3 hn hv hty
theorem hcW0 (hn:nthL V 0=some ⟨b,ty,cs⟩) (hv:lpart cs o k=some vs) (hty:Nat.beq ty itT=false):HC w0 S0 S V (.cells b o vs):=zx 0 hn hv hty
theorem hcW1 (hn:nthL V 1=some ⟨b,ty,cs⟩) (hv:lpart cs o k=some vs) (hty:Nat.beq ty itT=false):HC w0 S0 S V (.cells b o vs):=zx 1 hn hv hty
theorem hcW2 (hn:nthL V 2=some ⟨b,ty,cs⟩) (hv:lpart cs o k=some vs) (hty:Nat.beq ty itT=false):HC w0 S0 S V (.cells b o vs):=zx 2 hn hv hty
end
theorem hcA {p:Prop} (h:p:=by first
 | (apply qh;assumption)
 | (apply zfN;assumption)
 | (apply hcV0;exact rfl;(first | exact rfl | assumption);exact rfl)
 | (apply hcV1;exact rfl;(first | exact rfl | assumption);exact rfl)
 | (apply hcV2;exact rfl;(first | exact rfl | assumption);exact rfl)
 | (apply hcV3;exact rfl;(first | exact rfl | assumption);exact rfl)
 | (apply hcW0;exact rfl;(first | exact ze lnA | assumption | exact rfl);exact rfl)
 | (apply hcW1;exact rfl;(first | exact ze lnA | assumption | exact rfl);exact rfl)
 | (apply hcW2;exact rfl;(first | exact ze lnA | assumption | exact rfl);exact rfl)
 | exact zrF 0 rfl | exact zrF 1 rfl):p:=h
section
variable {P:Program} {l:Fr} {c:Cond} {t t2:TypeId} {x y:Operand} {k:IntKind} {m n:Int} {p:Pt}
theorem zpP (hx:ev l x=some (.int k m)) (hy:ev l y=some (.int k n)) (h:m=n):Yc P l c (.binOp .eql t x y t2) (.bool true):=yT (zeu hx hy) h
theorem zpQ (hx:ev l x=some (.int k m)) (hy:ev l y=some (.int k n)) (h:¬(m=n)):Yc P l c (.binOp .eql t x y t2) (.bool false):=yF (zeu hx hy) h
theorem zpu (hx:ev l x=some (.int k m)) (hy:ev l y=some (.int k n)) (h:m≠n):Yc P l c (.binOp .neq t x y t2) (.bool true):=yT (qw hx hy) h
theorem zpv (hx:ev l x=some (.int k m)) (hy:ev l y=some (.int k n)) (h:¬(m≠n)):Yc P l c (.binOp .neq t x y t2) (.bool false):=yF (qw hx hy) h
theorem zpD (hx:ev l x=some (.int k m)) (hy:ev l y=some (.int k n)) (h:m<n):Yc P l c (.binOp .lss t x y t2) (.bool true):=yT (zQ hx hy) h
theorem zpE (hx:ev l x=some (.int k m)) (hy:ev l y=some (.int k n)) (h:¬(m<n)):Yc P l c (.binOp .lss t x y t2) (.bool false):=yF (zQ hx hy) h
theorem zpI (hx:ev l x=some (.int k m)) (hy:ev l y=some (.int k n)) (h:m≤n):Yc P l c (.binOp .leq t x y t2) (.bool true):=yT (zoh hx hy) h
theorem zpJ (hx:ev l x=some (.int k m)) (hy:ev l y=some (.int k n)) (h:¬(m≤n)):Yc P l c (.binOp .leq t x y t2) (.bool false):=yF (zoh hx hy) h
theorem zpL (hx:ev l x=some (.int k m)) (hy:ev l y=some (.int k n)) (h:n<m):Yc P l c (.binOp .gtr t x y t2) (.bool true):=yT (qT hx hy) h
theorem zpM (hx:ev l x=some (.int k m)) (hy:ev l y=some (.int k n)) (h:¬(n<m)):Yc P l c (.binOp .gtr t x y t2) (.bool false):=yF (qT hx hy) h
theorem zpN (hx:ev l x=some (.int k m)) (hy:ev l y=some (.int k n)) (h:n≤m):Yc P l c (.binOp .geq t x y t2) (.bool true):=yT (wP hx hy) h
theorem zpO (hx:ev l x=some (.int k m)) (hy:ev l y=some (.int k n)) (h:¬(n≤m)):Yc P l c (.binOp .geq t x y t2) (.bool false):=yF (wP hx hy) h
theorem znY [PtrT P t] (hx:ev l x=some (.pointer (adr p))) (hy:ev l y=some (.pointer none)) (h:p=none):Yc P l c (.binOp .eql t x y t2) (.bool true):=yT (wb hx hy) h
theorem znZ [PtrT P t] (hx:ev l x=some (.pointer (adr p))) (hy:ev l y=some (.pointer none)) (h:¬(p=none)):Yc P l c (.binOp .eql t x y t2) (.bool false):=yF (wb hx hy) h
theorem zpq [PtrT P t] (hx:ev l x=some (.pointer (adr p))) (hy:ev l y=some (.pointer none)) (h:p≠none):Yc P l c (.binOp .neq t x y t2) (.bool true):=yT (zjK hx hy) h
theorem zpr [PtrT P t] (hx:ev l x=some (.pointer (adr p))) (hy:ev l y=some (.pointer none)) (h:¬(p≠none)):Yc P l c (.binOp .neq t x y t2) (.bool false):=yF (zjK hx hy) h
theorem zof {p:Pt} {n c':Nat} {e z:Nat} [SliceT P t e z] (hx:ev l x=some (.slice (adr p) n c')) (hy:ev l y=some (.slice none 0 0)) (h:p=none):Yc P l c (.binOp .eql t x y t2) (.bool true):=yT (znG hx hy) h
theorem zog {p:Pt} {n c':Nat} {e z:Nat} [SliceT P t e z] (hx:ev l x=some (.slice (adr p) n c')) (hy:ev l y=some (.slice none 0 0)) (h:¬(p=none)):Yc P l c (.binOp .eql t x y t2) (.bool false):=yF (znG hx hy) h
theorem zpF {p:Pt} {n c':Nat} {e z:Nat} [SliceT P t e z] (hx:ev l x=some (.slice (adr p) n c')) (hy:ev l y=some (.slice none 0 0)) (h:p≠none):Yc P l c (.binOp .neq t x y t2) (.bool true):=yT (zpH hx hy) h
theorem zpG {p:Pt} {n c':Nat} {e z:Nat} [SliceT P t e z] (hx:ev l x=some (.slice (adr p) n c')) (hy:ev l y=some (.slice none 0 0)) (h:¬(p≠none)):Yc P l c (.binOp .neq t x y t2) (.bool false):=yF (zpH hx hy) h
theorem zpo {e size:Nat} {lo hi:Option Operand} {p:Pt} {n k:Nat} {a b:Int} {r:Sl} [SliceT P t e size] (hx:ev l x=some (.slice (adr p) n k)) (hlo:evB l lo 0=some a) (hhi:evB l hi n=some b)
  (h0:0≤a) (h1:a≤b) (h2:b≤k) (he:slc size ⟨p,n,k⟩ a b=r):Yc P l c (.slice t x lo hi none) (eL r):=eqv (zdP hx hlo hhi h0 h1 h2) (congrArg eL he)
theorem zpn {n e size b o:Nat} {lo hi:Option Operand} {z y:Int} {r:Sl} [ArrayT P t n e size] (hx:ev l x=some (.pointer (some ⟨b,o,none⟩))) (hlo:evB l lo 0=some z) (hhi:evB l hi n=some y)
  (h0:0≤z) (h1:z≤y) (h2:y≤n) (he:slc size ⟨some (b,o),n,n⟩ z y=r):Yc P l c (.slice t x lo hi none) (eL r):=eqv (znX hx hlo hhi h0 h1 h2) (congrArg eL he)
theorem zpz {a b:Bool} [BoolT P t] (hx:ev l x=some (.bool a)) (hy:ev l y=some (.bool b)) (h:a≠b):Yc P l c (.binOp .neq t x y t2) (.bool true):=yT (zmF hx hy) h
theorem zpA {a b:Bool} [BoolT P t] (hx:ev l x=some (.bool a)) (hy:ev l y=some (.bool b)) (h:¬(a≠b)):Yc P l c (.binOp .neq t x y t2) (.bool false):=yF (zmF hx hy) h
theorem zpU {a b:Bool} [BoolT P t] (hx:ev l x=some (.bool a)) (hy:ev l y=some (.bool b)) (h:a=b):Yc P l c (.binOp .eql t x y t2) (.bool true):=yT (zmH hx hy) h
theorem zpV {a b:Bool} [BoolT P t] (hx:ev l x=some (.bool a)) (hy:ev l y=some (.bool b)) (h:¬(a=b)):Yc P l c (.binOp .eql t x y t2) (.bool false):=yF (zmH hx hy) h
theorem zpw {a b:ByteArray} (hx:ev l x=some (.string a)) (hy:ev l y=some (.string b)) (h:a≠b):Yc P l c (.binOp .neq t x y t2) (.bool true):=yT (zpy hx hy) h
theorem zpx {a b:ByteArray} (hx:ev l x=some (.string a)) (hy:ev l y=some (.string b)) (h:¬(a≠b)):Yc P l c (.binOp .neq t x y t2) (.bool false):=yF (zpy hx hy) h
theorem zpR {a b:ByteArray} (hx:ev l x=some (.string a)) (hy:ev l y=some (.string b)) (h:a=b):Yc P l c (.binOp .eql t x y t2) (.bool true):=yT (zpT hx hy) h
theorem zpS {a b:ByteArray} (hx:ev l x=some (.string a)) (hy:ev l y=some (.string b)) (h:¬(a=b)):Yc P l c (.binOp .eql t x y t2) (.bool false):=yF (zpT hx hy) h
theorem zob [PtrT P t] (hx:ev l x=some (.pointer none)) (hy:ev l y=some (.pointer none)):Yc P l c (.binOp .eql t x y t2) (.bool true):=yT (wb (p:=none) hx hy) rfl
theorem zoa [PtrT P t] {b o:Nat} (hx:ev l x=some (.pointer (some ⟨b,o,none⟩))) (hy:ev l y=some (.pointer none)):Yc P l c (.binOp .eql t x y t2) (.bool false):=yF (wb (p:=some (b,o)) hx hy) (by simp)
theorem zpt [PtrT P t] (hx:ev l x=some (.pointer none)) (hy:ev l y=some (.pointer none)):Yc P l c (.binOp .neq t x y t2) (.bool false):=yF (zjK (p:=none) hx hy) (by simp)
theorem zps [PtrT P t] {b o:Nat} (hx:ev l x=some (.pointer (some ⟨b,o,none⟩))) (hy:ev l y=some (.pointer none)):Yc P l c (.binOp .neq t x y t2) (.bool true):=yT (zjK (p:=some (b,o)) hx hy) (by simp)
end
/-! drawn lists -/
def ixs:List Nat:=[0,1,2,3,4,5,6,7,8,9,10,11,12,13,14,15,16,17,18,19,20,21,22,23,24,25,26,27,28,29,30,31,32,33,34,35,36,37,38,39,40,41,42,43,44,45,46,47,48,49,50,51,52,53,54,55,56,57,58,59,60,61,62,63,64,65,66,67,68,69,70,71,72,73,74,75,76,77,78,79,80,81,82,83,84,85,86,87,88,89,90,91,92,93,94,95,96,97,98,99,100,101,102,103,104,105,106,107,108,109,110,111,112,113,114,115,116,117,118,119,120,121,122,123,124,125,126,127,128,129]
def quiet:Builtin→Bool
 | .len=>true
 | .cap=>true
 | .max=>true
 | .min=>true
 | _=>false
def isEff:Op→Bool
 | .alloc _=>true
 | .box _ _=>true
 | .store _ _ _=>true
 | .makeSlice _ _ _=>true
 | .buildSlice _ _ _=>true
 | .call c=>match c.callee with
  | .builtin b=>!(quiet b)
  | _=>true
 | _=>false
def inD (i:Nat):List Nat→Bool
 | []=>false
 | j :: r=>match Nat.beq i j with
  | true=>true
  | false=>inD i r
def rdyE (dn:List Nat):List Edge→Bool
 | []=>true
 | e :: r=>match Region.binds .any e with
  | false=>rdyE dn r
  | true=>match inD e.on dn with
   | true=>rdyE dn r
   | false=>false
def nxt (opl:List Oper) (dn:List Nat) (l:Fr):List Nat→Option Nat
 | []=>none
 | i :: r=>match inD i dn with
  | true=>nxt opl dn l r
  | false=>match nthL opl i with
   | none=>none
   | some o=>match rdyE dn o.after.toList with
    | false=>nxt opl dn l r
    | true=>match isEff o.op with
     | false=>some i
     | true=>match wantL opl l o.guard with
      | some false=>some i
      | _=>nxt opl dn l r
def nxtE (opl:List Oper) (dn:List Nat):List Nat→Option Nat
 | []=>none
 | i :: r=>match inD i dn with
  | true=>nxtE opl dn r
  | false=>match nthL opl i with
   | none=>none
   | some o=>match rdyE dn o.after.toList with
    | false=>nxtE opl dn r
    | true=>some i
def mkL (n:Nat):List Nat→Array Bool
 | []=>Array.replicate n false
 | i :: r=>(mkL n r).setIfInBounds i true
def WD (P:Program) (w0:World) (S0:Mem) (opl:List Oper) (Q:Exit→Act→World→Prop) (fuel:Nat) (cs:List (Nat×Cond)) (dn:List Nat) (l:Fr) (S:Mem) (V:Hp):Prop:=WA P w0 S0 opl Q fuel cs (mkL opl.length dn) l S V
section
variable {P:Program} {w0:World} {S0:Mem} {opl:List Oper} {Q:Exit→Act→World→Prop} {l:Fr} {S:Mem} {V:Hp} {fuel:Nat} {dn:List Nat} {cs:List (Nat×Cond)}
variable {d:Option Tmp} {op:Op} {ty:TypeId} {ps:String} {af:Array Edge} {g:Option (Nat×Bool)}
theorem zrM {id:Nat} (hm:P.follows .mixedOrders=true) (h:WD P w0 S0 opl Q opl.length [] [] l S V):WC P w0 S0 (.region id opl.toArray true) Q l S V:=qc hm h
def WN (P:Program) (w0:World) (S0:Mem) (opl:List Oper) (Q:Exit→Act→World→Prop) (fuel:Nat) (cs:List (Nat×Cond)) (dn:List Nat) (i:Nat) (o:Oper) (l:Fr) (S:Mem) (V:Hp):Prop:=
 nthL opl i=some o→okTake opl (mkL opl.length dn) i=true→NP Q→WD P w0 S0 opl Q (fuel+1) cs dn l S V
theorem zrv {i:Nat} {o:Oper} (hn:nxt opl dn l ixs=some i) (hi:nthL opl i=some o) (hok:okTake opl (mkL opl.length dn) i=true) (hQ:NP Q) (k:WN P w0 S0 opl Q fuel cs dn i o l S V):WD P w0 S0 opl Q (fuel+1) cs dn l S V:=k hi hok hQ
theorem zlN {i:Nat} {v:Value} (hw:wantL opl l g=some true) (hy:Yc P l .tt op v) (k:WD P w0 S0 opl Q fuel cs (i :: dn) (putn l d v) S V):WN P w0 S0 opl Q fuel cs dn i ⟨d,op,ty,ps,af,g⟩ l S V:=fun hi hok hQ=>a_takeP i hi hok hQ hw hy k
theorem zrK {i b o:Nat} {t:TypeId} {x:Operand} {v:Value} [ScalarT P t] (hw:wantL opl l g=some true) (hx:ev l x=some (.pointer (some ⟨b,o,none⟩))) (hc:HC w0 S0 S V (.cell b o v))
  (k:WD P w0 S0 opl Q fuel ((i,.cell b o v) :: cs) (i :: dn) (putn l d v) S V):WN P w0 S0 opl Q fuel cs dn i ⟨d,.load t x,ty,ps,af,g⟩ l S V:=fun hi hok hQ=>qp i hi hok hQ hw (zF hx) hc k
theorem zrn {i b o m:Nat} {t:TypeId} {x:Operand} {vs:List Value} [AggT P t m] [SizeT P t m] (hw:wantL opl l g=some true) (hx:ev l x=some (.pointer (some ⟨b,o,none⟩))) (hc:HC w0 S0 S V (.cells b o vs)) (hl:vs.length=m)
  (k:WD P w0 S0 opl Q fuel ((i,.cells b o vs) :: cs) (i :: dn) (putn l d (valL vs)) S V):WN P w0 S0 opl Q fuel cs dn i ⟨d,.load t x,ty,ps,af,g⟩ l S V:=fun hi hok hQ=>qp i hi hok hQ hw (qa hx hl) hc k
theorem zqx {i:Nat} (hw:wantL opl l g=some false) (k:WD P w0 S0 opl Q fuel cs (i :: dn) (putn l d undef) S V):WN P w0 S0 opl Q fuel cs dn i ⟨d,op,ty,ps,af,g⟩ l S V:=fun hi hok hQ=>xA i hi hok hQ hw k
theorem zqN {i:Nat} {o:Oper} (hn:nxt opl dn l ixs=none) (he:nxtE opl dn ixs=some i) (hi:nthL opl i=some o) (hr:Region.ready .any opl.toArray (mkL opl.length dn)=[i])
  (h:WL P w0 S0 opl (Exit.then (AW P opl Q fuel (keepc opl i cs) (mkL opl.length (i :: dn))) Q) [o] l S V):WD P w0 S0 opl Q (fuel+1) cs dn l S V:=zH i hr hi h
theorem zoZ {i i2:Nat} {o o2:Oper} (hn:nxt opl dn l ixs=none) (he:nxtE opl dn ixs=some i) (he2:nxtE opl dn (ixs.drop (i+1))=some i2) (hi:nthL opl i=some o) (hi2:nthL opl i2=some o2) (hr:Region.ready .any opl.toArray (mkL opl.length dn)=[i,i2])
  (h:WL P w0 S0 opl (Exit.then (AW P opl Q fuel (keepc opl i cs) (mkL opl.length (i :: dn))) Q) [o] l S V) (h2:WL P w0 S0 opl (Exit.then (AW P opl Q fuel (keepc opl i2 cs) (mkL opl.length (i2 :: dn))) Q) [o2] l S V):WD P w0 S0 opl Q (fuel+1) cs dn l S V:=zjf i i2 hr hi hi2 h h2
theorem zrx (hall:AllC w0 S0 S V cs) (k:WD P w0 S0 opl Q fuel cs dn l S V):WQ w0 S0 (Exit.then (AW P opl Q fuel cs (mkL opl.length dn)) Q) .normal l S V:=qf hall k
theorem zqO (he:nxtE opl dn ixs=none) (hr:Region.ready .any opl.toArray (mkL opl.length dn)=[]) (k:WQ w0 S0 Q .normal l S V):WD P w0 S0 opl Q fuel cs dn l S V:=qi hr k
theorem zru {n b:Nat} {t:TypeId} {z:List Value} {K:Nat→Mem→Prop} (H:al S t z K) (hn:V.length=n+1) (he:nthL V n=some ⟨b,t,z⟩) (hty:Nat.beq t itT=false) (k:K b (S.set b (bw t z))→WD P w0 S0 opl Q fuel cs dn l (S.set b (bw t z)) (dropE V n)):WD P w0 S0 opl Q fuel cs dn l S V:=
 zqY n he (fun hb=>k (H b hb)) hty
variable {rest:List Oper}
theorem zqm {n b:Nat} {t:TypeId} {z:List Value} {K:Nat→Mem→Prop} (H:al S t z K) (hn:V.length=n+1) (he:nthL V n=some ⟨b,t,z⟩) (hty:Nat.beq t itT=false) (k:K b (S.set b (bw t z))→WL P w0 S0 opl Q rest l (S.set b (bw t z)) (dropE V n)):WL P w0 S0 opl Q rest l S V:=
 zgJ n he (fun hb=>k (H b hb)) hty
theorem zrI {b o:Nat} {t:TypeId} {x:Operand} {v:Value} [ScalarT P t] (hw:wantL opl l g=some true) (hx:ev l x=some (.pointer (some ⟨b,o,none⟩))) (hc:HC w0 S0 S V (.cell b o v)) (k:WL P w0 S0 opl Q rest (putn l d v) S V):WL P w0 S0 opl Q (⟨d,.load t x,ty,ps,af,g⟩ :: rest) l S V:=s_v hw (zF hx) hc k
theorem zri {b o m:Nat} {t:TypeId} {x:Operand} {vs:List Value} [AggT P t m] [SizeT P t m] (hw:wantL opl l g=some true) (hx:ev l x=some (.pointer (some ⟨b,o,none⟩))) (hc:HC w0 S0 S V (.cells b o vs)) (hl:vs.length=m) (k:WL P w0 S0 opl Q rest (putn l d (valL vs)) S V):WL P w0 S0 opl Q (⟨d,.load t x,ty,ps,af,g⟩ :: rest) l S V:=s_v hw (qa hx hl) hc k
theorem yconv {P:Program} {l:Fr} {c:Cond} {t t2:TypeId} {x:Operand} {k k2:IntKind} {m:Int} [h:IntT P t2 k2] [h1:IntT P t k] (hx:ev l x=some (.int k m)):Yc P l c (.convert t t2 x) (.int k2 (k2.wrap m)):=qJ ⟨_,h1.run⟩ hx
end
theorem ya {p:Prop} (h:p:=by first
 | (apply zv;exact rfl;exact rfl) | (apply qt;exact rfl) | (apply zdF;exact rfl;exact rfl) | (apply zj;exact rfl;exact rfl) | (apply qH;exact rfl)
 | (apply yconv;exact rfl) | (apply vX;exact rfl)
 | (apply vx;exact rfl;exact rfl;(first | assumption | decide);(first | assumption | decide);exact rfl)
 | (apply zpo;exact rfl;exact rfl;exact rfl;(first | assumption | decide);(first | assumption | decide);(first | assumption | decide);assumption)
 | (apply zpn;exact rfl;exact rfl;exact rfl;(first | assumption | decide);(first | assumption | decide);(first | assumption | decide);assumption)
 | (apply zpm;exact rfl;exact rfl;exact rfl;(first | assumption | decide);assumption;assumption)
 | (apply qb;exact rfl;exact rfl;assumption;assumption;exact rfl)
 | (apply zrd;exact rfl;exact rfl;decide;decide;exact rfl)
 | (apply qj;exact rfl;exact rfl)
 | (apply qj;exact rfl;(repeat' (first | exact zcG | (apply yY;exact rfl;exact rfl;exact Nat.le_of_ble_eq_true rfl) | (apply zgo;exact rfl;assumption;exact Nat.le_of_ble_eq_true rfl) | (apply yY;exact rfl;exact lnA;(first | exact Nat.le_of_ble_eq_true rfl | exact zY lnA (by decide)))));done)
 | (apply qy;exact rfl;exact rfl) | (apply zgv;exact rfl;exact rfl)
 | (apply zof;exact rfl;exact rfl;assumption) | (apply zog;exact rfl;exact rfl;assumption) | (apply zpF;exact rfl;exact rfl;assumption) | (apply zpG;exact rfl;exact rfl;assumption)
 | (apply zpP;exact rfl;exact rfl;assumption) | (apply zpQ;exact rfl;exact rfl;assumption) | (apply zpu;exact rfl;exact rfl;assumption) | (apply zpv;exact rfl;exact rfl;assumption) | (apply zpD;exact rfl;exact rfl;assumption) | (apply zpE;exact rfl;exact rfl;assumption) | (apply zpI;exact rfl;exact rfl;assumption) | (apply zpJ;exact rfl;exact rfl;assumption) | (apply zpL;exact rfl;exact rfl;assumption) | (apply zpM;exact rfl;exact rfl;assumption) | (apply zpN;exact rfl;exact rfl;assumption) | (apply zpO;exact rfl;exact rfl;assumption) | (apply znY;exact rfl;exact rfl;assumption) | (apply znZ;exact rfl;exact rfl;assumption) | (apply zpq;exact rfl;exact rfl;assumption) | (apply zpr;exact rfl;exact rfl;assumption)
 | (apply zob;exact rfl;exact rfl) | (apply zoa;exact rfl;exact rfl) | (apply zpt;exact rfl;exact rfl) | (apply zps;exact rfl;exact rfl)
 | (apply zca;exact rfl;exact rfl) | (apply zcN;exact rfl;exact rfl;(first | assumption | decide)) | (apply zbc;exact rfl;exact rfl;(first | assumption | decide))
 | (apply zjL;exact rfl;exact rfl) | (apply zra;exact rfl;exact rfl) | (apply zpl;exact rfl;exact rfl) | (apply zpX;exact rfl;exact rfl)
 | (apply zmE;exact rfl;exact rfl;(first | assumption | decide)) | (apply zpp;exact rfl;exact rfl;(first | assumption | decide))
 | (apply zrb;exact rfl) | (apply zpW;exact rfl)
 | (apply zoj;exact rfl;(first | exact rfl | assumption)) | (apply zmG;exact rfl;(first | exact rfl | assumption))
 | (apply zre;exact rfl;exact rfl;assumption;assumption;assumption) | (apply znH;exact rfl;exact rfl;assumption;assumption;assumption)
 | (apply zkV;exact rfl) | (apply zrc;exact rfl) | (apply zpC;exact rfl;exact rfl) | (apply znF;exact rfl) | (apply zrf;exact rfl)
 | (apply zoe;exact rfl;exact rfl) | (apply zod;exact rfl;exact rfl) | (apply zpB;assumption;exact rfl) | (apply zpK;exact rfl)
 | (apply yB;(first | (apply zmF;exact rfl;exact rfl) | (apply zmH;exact rfl;exact rfl) | (apply zoc;exact rfl;exact rfl;(first | exact rfl | assumption);(first | exact rfl | assumption)) | (apply zif;exact rfl;exact rfl;(first | exact rfl | assumption);(first | exact rfl | assumption)) | (apply qC;exact rfl) | (apply zj;exact rfl;exact rfl));assumption)
 | (apply zpz;exact rfl;exact rfl;assumption) | (apply zpA;exact rfl;exact rfl;assumption) | (apply zpU;exact rfl;exact rfl;assumption) | (apply zpV;exact rfl;exact rfl;assumption) | (apply zpw;exact rfl;exact rfl;assumption) | (apply zpx;exact rfl;exact rfl;assumption) | (apply zpR;exact rfl;exact rfl;assumption) | (apply zpS;exact rfl;exact rfl;assumption)
 | (apply zie;exact rfl;assumption) | (apply zoi;exact rfl;assumption)
 | (apply jb;exact rfl;assumption) | (apply zt;exact rfl)):p:=h
theorem yd {p:Prop} (h:p:=by first
 | (apply zeu;exact rfl;exact rfl) | (apply qw;exact rfl;exact rfl) | (apply zQ;exact rfl;exact rfl) | (apply zoh;exact rfl;exact rfl) | (apply qT;exact rfl;exact rfl) | (apply wP;exact rfl;exact rfl)
 | (apply qC;exact rfl) | (apply zmH;exact rfl;exact rfl) | (apply zmF;exact rfl;exact rfl) | (apply zif;exact rfl;exact rfl;(first | exact rfl | assumption);(first | exact rfl | assumption)) | (apply zoc;exact rfl;exact rfl;(first | exact rfl | assumption);(first | exact rfl | assumption))):p:=h
section
variable {P:Program} {w0:World} {S0:Mem} {opl:List Oper} {Q:Exit→Act→World→Prop} {rest:List Oper} {l:Fr} {S:Mem} {V:Hp} {fuel:Nat} {dn:List Nat} {cs:List (Nat×Cond)} {i:Nat} {o:Oper} {c:Code} {e:Exit}
theorem isWL (k:WL P w0 S0 opl Q rest l S V):WL P w0 S0 opl Q rest l S V:=k
theorem isWN (k:WN P w0 S0 opl Q fuel cs dn i o l S V):WN P w0 S0 opl Q fuel cs dn i o l S V:=k
theorem isWD (k:WD P w0 S0 opl Q fuel cs dn l S V):WD P w0 S0 opl Q fuel cs dn l S V:=k
theorem isWC (k:WC P w0 S0 c Q l S V):WC P w0 S0 c Q l S V:=k
theorem isWQ (k:WQ w0 S0 Q e l S V):WQ w0 S0 Q e l S V:=k
end
theorem tup2 {a a' b b':Value} (h:a=a') (k:b=b'):Value.tuple #[a,b]=.tuple #[a',b']:=by rw[h,k]
theorem tup3 {a a' b b' c c':Value} (h:a=a') (k:b=b') (m:c=c'):Value.tuple #[a,b,c]=.tuple #[a',b',c']:=by rw[h,k,m]
theorem pe1 {b o:Nat}:Value.pointer (some ⟨b,o,none⟩)=eP (some (b,o)):=rfl
theorem pe0:Value.pointer none=eP none:=rfl
theorem le1 {b o n c:Nat}:Value.slice (some ⟨b,o,none⟩) n c=eL ⟨some (b,o),n,c⟩:=rfl
theorem le0 {n c:Nat}:Value.slice none n c=eL ⟨none,n,c⟩:=rfl
theorem rv1 {v w:Value} (h:v=w):retVal [v]=w:=h
theorem rv2 {a b w:Value} (h:Value.tuple #[a,b]=w):retVal [a,b]=w:=h
theorem rv3 {a b c w:Value} (h:Value.tuple #[a,b,c]=w):retVal [a,b,c]=w:=h
section
variable {a b c d e f:Type} {S:Mem} {x:a} {y:b} {z:c} {u:d} {v:e} {w:f}
theorem ap1 {J:a→Mem→Prop} (H:J x S):Ap.ap J (x,()) S:=H
theorem ap2 {J:a→b→Mem→Prop} (H:J x y S):Ap.ap J (x,y,()) S:=H
theorem ap3 {J:a→b→c→Mem→Prop} (H:J x y z S):Ap.ap J (x,y,z,()) S:=H
theorem ap4 {J:a→b→c→d→Mem→Prop} (H:J x y z u S):Ap.ap J (x,y,z,u,()) S:=H
theorem ap5 {J:a→b→c→d→e→Mem→Prop} (H:J x y z u v S):Ap.ap J (x,y,z,u,v,()) S:=H
theorem ap6 {J:a→b→c→d→e→f→Mem→Prop} (H:J x y z u v w S):Ap.ap J (x,y,z,u,v,w,()) S:=H
end
theorem zrH {b o n c:Nat} {K:Nat→Nat→Nat→Nat→Prop} (H:sl ⟨some (b,o),n,c⟩ K):K b o n c:=by rwa [jH] at H
theorem zrJ {b o:Nat} {K:Nat→Nat→Prop} (H:nn (some (b,o)) K):K b o:=by rwa [zV] at H
theorem go {r q p:Prop} (R:r) (H:q) (t:r→q→p:=by
 (try clear H)
 intro R H
 repeat' (first
  | (apply isWL;first
   | (apply zqm H;exact rfl;exact rfl;exact rfl;clear H;intro H)
   | (apply mv;exact rfl;exact rfl)
   | (apply gv;exact rfl;exact rfl)
   | apply zu
   | (apply zG;exact rfl)
   | (refine gx H ?_;clear H;intro t ht H)
   | (apply zrI;exact rfl;exact rfl;exact hcA)
   | (apply zri;exact rfl;exact rfl;exact hcA;exact lnA)
   | (apply s_p;exact rfl;exact ya))
  | (apply isWN;first
   | (apply zqx;exact rfl)
   | (refine gx H ?_;clear H;intro t ht H)
   | (apply zrK;exact rfl;exact rfl;exact hcA)
   | (apply zrn;exact rfl;exact rfl;exact hcA;exact lnA)
   | (apply zlN;exact rfl;exact ya))
  | (apply isWD;first
   | (apply zru H;exact rfl;exact rfl;exact rfl;clear H;intro H)
   | (apply zrv;exact rfl;exact rfl;decide +kernel;focus ((repeat' (first | exact zc | apply za | apply zf));done))
   | (apply zqN;exact rfl;exact rfl;exact rfl;decide +kernel)
   | (apply zoZ;exact rfl;exact rfl;exact rfl;exact rfl;exact rfl;decide +kernel)
   | (apply zqO;exact rfl;decide +kernel))
  | (apply isWQ;first
   | (apply jgo;assumption;(first | exact H | exact ap1 H | exact ap2 H | exact ap3 H | exact ap4 H | exact ap5 H | exact ap6 H);exact rfl;(focus (repeat' (first | exact True.intro | refine⟨rfl,?_⟩)));(first | (show selE [] _=_;exact rfl) | (show selE [0] _=_;exact rfl) | (show selE [0,0] _=_;exact rfl) | (show selE [1] _=_;exact rfl) | (show selE [2] _=_;exact rfl) | (show selE [0,0,0] _=_;exact rfl) | (show selE [1,1] _=_;exact rfl)))
   | (apply zrx;focus ((repeat' (first | exact zD | (apply zA;exact hcA)));done))
   | apply zC
   | apply zb
   | apply zm
   | apply zX
   | apply zh
   | apply zU
   | (apply zaV;exact rfl)
   | ((first | apply zn R | apply ziG R);(focus (repeat' (first | exact zg | (apply zd;exact rfl) | (apply zov;exact rfl;exact hcA) | (apply zr;exact rfl;exact hcA;exact lnA))));(repeat' (first | exact H | exact rfl | exact lnA | exact pe1 | exact pe0 | exact le1 | exact le0 | apply And.intro | apply Exists.intro | apply rv1 | apply rv2 | apply rv3 | apply tup2 | apply tup3))))
  | (apply isWC;first
   | (apply jo H;exact rfl;assumption;(clear H;intro z S H;repeat obtain⟨_,z⟩:_×_:=z);rotate_left;(clear H;intro J hJ H))
   | (apply lo H;exact rfl;assumption;(focus (repeat' (first | exact True.intro | refine⟨rfl,?_⟩)));exact rfl;(clear H;intro X hX z S H;repeat obtain⟨_,z⟩:_×_:=z))
   | apply zO
   | apply zw
   | (apply zrM;kernel_rfl)
   | apply yu
   | apply yg
   | apply zo
   | apply zE
   | (apply c_t;exact rfl;(first | exact rfl | assumption))
   | (apply c_f;exact rfl;(first | exact rfl | assumption)))
  | (apply isWL;first
   | (apply vv;exact rfl;exact rfl;exact H;(clear H;intro t S H))
   | (apply zls;exact rfl;exact rfl;exact H;(clear H;intro S H))
   | (apply zhi;exact rfl;exact rfl;exact H;(clear H;intro t u S H))
   | (apply zrC;exact rfl;exact rfl;exact H;(clear H;intro t u v S H))
   | (apply qP;exact rfl;exact rfl;exact H;(clear H;intro rv S H;first | (obtain⟨t,rfl,h,H⟩:=H) | (obtain⟨t,u,rfl,h,H⟩:=H) | (obtain⟨t,u,rfl,h,h2,H⟩:=H) | (obtain⟨t,u,v,rfl,h,H⟩:=H) | (obtain⟨t,u,v,w,rfl,H⟩:=H)))
   | (apply qk;exact rfl;intro b)
   | (apply gu;exact rfl;exact rfl;exact rfl;intro b)
   | (apply zrh;exact rfl;intro b)
   | (apply zrD (H:=H);exact rfl;exact rfl;(clear H;intro S H))
   | (apply zkR;exact rfl;exact rfl;decide;(first | exact rfl | exact zes rfl lnA);intro b)
   | (apply zqn;exact rfl;exact rfl;exact rfl;(first | assumption | decide);(first | assumption | decide);(first | assumption | decide);(first | assumption | decide);intro b)
   | refine zl 0 rfl rfl rfl rfl rfl lnA lnA (by first | exact rfl | assumption) ?_
   | refine zl 1 rfl rfl rfl rfl rfl lnA lnA (by first | exact rfl | assumption) ?_
   | refine zl 2 rfl rfl rfl rfl rfl lnA lnA (by first | exact rfl | assumption) ?_
   | refine qu 0 rfl rfl rfl rfl rfl lnA (by first | exact Nat.le_of_ble_eq_true rfl | exact zY lnA (by omega)) (by first | exact rfl | assumption) ?_
   | refine qu 1 rfl rfl rfl rfl rfl lnA (by first | exact Nat.le_of_ble_eq_true rfl | exact zY lnA (by omega)) (by first | exact rfl | assumption) ?_
   | refine qu 2 rfl rfl rfl rfl rfl lnA (by first | exact Nat.le_of_ble_eq_true rfl | exact zY lnA (by omega)) (by first | exact rfl | assumption) ?_
   | (apply qY;exact rfl;exact rfl;exact rfl;(first | exact zds (by assumption) | exact rfl);exact lnA;assumption;(first | exact rfl | assumption | exact zpi (by assumption)))
   | (apply zau (H:=H);exact rfl;exact rfl;exact rfl;(first | exact zjE 0 rfl rfl | exact zjE 1 rfl rfl | exact zjE 2 rfl rfl | exact znP | exact (fj (by assumption)).1 | exact zjE 0 rfl (ze lnA) | exact zjE 1 rfl (ze lnA));(first | exact lnA | exact (fj (by assumption)).2);(first | exact rfl | assumption);decide;(clear H;intro r S H))
   | (apply zqo (H:=H);exact rfl;exact rfl;exact rfl;(clear H;intro r S H))
   | (apply zrk (H:=H);exact rfl;exact rfl;exact rfl;(clear H;intro S H))
   | (apply zqZ (hc:=H);exact rfl;exact rfl;exact rfl;(clear H;intro rv S H;first | (obtain⟨t,rfl,H⟩:=H) | (obtain⟨t,u,rfl,H⟩:=H)))
   | (apply zkQ (hc:=H);exact rfl;exact rfl;exact rfl;(clear H;intro rv S H;first | (obtain⟨t,rfl,H⟩:=H) | (obtain⟨t,u,rfl,H⟩:=H))))
  | (refine iteB H ?_ ?_ <;> (clear H;intro c H;try subst c))
  | (refine iteK H ?_ ?_ <;> (clear H;intro c H))
  | (refine an H ?_;clear H;intro c H)
  | (replace H:=zrJ H)
  | (replace H:=zrH H)
  | (obtain⟨b,o,rfl,H⟩:=H)
  | (obtain⟨b,o,n,c,rfl,H⟩:=H)
  | (obtain⟨t,rfl,h,H⟩:=H)
  | (obtain⟨t,rfl,H⟩:=H)
  | (refine gx H ?_;clear H;intro t ht H)
  | (apply s_p;exact rfl;exact yd)
  | (apply zlN;exact rfl;exact yd)
  | (obtain⟨r,e,H⟩:=zkT H)
  | exact rfl
  | exact ()
  | exact H)):p:=t R H
end
end Go.Pt
namespace Go.Proofs.YtabdpmnhjlmnlaaGreatDoor
section
open Go Go.Pt Go.Proofs.Tryz
attribute [local irreducible] lt WD WN Code.wp Back bodyPost wpList FR WL WC WQ WA AW Tr Yc HC AllC
def vj (S:Mem) (h:Pt) (seats:Int) (quota:Int) (pages:Int) (image:Sl) (Q:Int→Int→Mem→Prop):Prop:=
 zaZ S seats quota fun t t_1 Sx=>
 t.all (·.oneCell')=true ∧
 jn (fun (Sx_1:Mem)=>
 jn (fun (n:Int) (Sx_2:Mem)=>
 jn (fun (Sx_3:Mem)=>
 nn h fun b_1 o=>
 gP (Sx_3.cell b_1 (o+1)) fun t_2=>
 wz Sx_3 t_2 (IntKind.i64.wrap (5+pages)) fun t_3 t_4 Sx_4=>
 jn (fun (Sx_5:Mem)=>
 jn (fun (Sx_6:Mem)=>
 gP (Sx_6.cell b_1 o) fun t_5=>
 gP (Sx_6.cell b_1 (o+3)) fun t_6=>
 nn t_6 fun b_2 o_1=>
 gI (Sx_6.cell b_2 o_1) .i64 fun t_7=>
 (0:Int)≤5∧5≤(t_3.c:Int) ∧
 lt (slc 1 t_3 0 5) fun t_8=>
 zaT Sx_6 t_5 t_7 t_8 fun t_9 t_10 Sx_7=>
 Sx_7.cell b_1 (o+3)=some (.pointer (some ⟨b_2,o_1,none⟩)) ∧
 t_9.all (·.oneCell')=true ∧
 gP (Sx_7.cell b_1 (o+3)) fun t_11=>
 nn t_11 fun b_3 o_2=>
 gI (Sx_7.cell b_3 (o_2+1)) .u64 fun t_12=>
 gP (Sx_7.cell b_1 (o+3)) fun t_13=>
 nn t_13 fun b_4 o_3=>
 0≤n∧n<6 ∧
 (spl (spl t 2 t_9) 5 ([.int .u64 t_12])).all (·.oneCell')=true ∧
 pt Sx_7 b_4 (o_3+2+n.toNat*12) 12 (spl (spl t 2 t_9) 5 ([.int .u64 t_12])) fun Sx_8=>
 0≤n∧n<6 ∧
 pt Sx_8 b_1 (o+5+n.toNat*1) 1 ([.slice (none) 0 0]) fun Sx_9=>
 jn (fun (Sx_10:Mem)=>
 Q n 0 Sx_10) fun Jx=>
 (0:Int)≤5∧(5:Int)≤(t_3.n:Int)∧(t_3.n:Int)≤(t_3.c:Int) ∧
 lt (slc 1 t_3 5 (t_3.n:Int)) fun t_14=>
 lp (fun Xx (t_15:Int) (Sx_11:Mem)=>
 if t_15<(t_14.n:Int) then
 sl t_14 fun b_5 o_4 n_1 n_2=>
 0≤t_15∧t_15<((n_1:Nat):Int) ∧
 gI (Sx_11.cell b_5 (o_4+t_15.toNat*1)) .i64 fun t_16=>
 crab_Crab_own Sx_11 (some (b_1,o)) n t_15 t_16 fun Sx_12=>
 if IntKind.i64.wrap (256*t_15)<(image.n:Int) then
 gP (Sx_12.cell b_1 o) fun t_17=>
 (0:Int)≤IntKind.i64.wrap (256*t_15)∧(IntKind.i64.wrap (256*t_15):Int)≤(if (image.n:Int)<IntKind.i64.wrap ((IntKind.i64.wrap (256*t_15))+256) then (image.n:Int) else IntKind.i64.wrap ((IntKind.i64.wrap (256*t_15))+256))∧(if (image.n:Int)<IntKind.i64.wrap ((IntKind.i64.wrap (256*t_15))+256) then (image.n:Int) else IntKind.i64.wrap ((IntKind.i64.wrap (256*t_15))+256))≤(image.c:Int) ∧
 lt (slc 1 image (IntKind.i64.wrap (256*t_15)) (if (image.n:Int)<IntKind.i64.wrap ((IntKind.i64.wrap (256*t_15))+256) then (image.n:Int) else IntKind.i64.wrap ((IntKind.i64.wrap (256*t_15))+256))) fun t_18=>
 qg Sx_12 t_17 t_16 0 t_18 fun t_19 Sx_13=>
 Xx (IntKind.i64.wrap (t_15+1)) Sx_13
 else
 Xx (IntKind.i64.wrap (t_15+1)) Sx_12
 else
 Jx Sx_11) 0 Sx_9) fun Jx_1=>
 (0:Int)≤5∧5≤(t_3.c:Int) ∧
 lt (slc 1 t_3 0 5) fun t_20=>
 lp (fun Xx_1 (t_21:Int) (Sx_14:Mem)=>
 if t_21<(t_20.n:Int) then
 sl t_20 fun b_6 o_5 n_3 n_4=>
 0≤t_21∧t_21<((n_3:Nat):Int) ∧
 gI (Sx_14.cell b_6 (o_5+t_21.toNat*1)) .i64 fun t_22=>
 gP (Sx_14.cell b_1 (o+3)) fun t_23=>
 nn t_23 fun b_7 o_6=>
 gP (Sx_14.cell b_7 (o_6+74)) fun t_24=>
 yr Sx_14 t_24 t_22 n fun t_25 Sx_15=>
 Xx_1 (IntKind.i64.wrap (t_21+1)) Sx_15
 else
 Jx_1 Sx_14) 0 Sx_5) fun Jx_2=>
 if t_4≠0 then
 Q 0 t_4 Sx_4
 else
 Jx_2 Sx_4) fun Jx_3=>
 if n=6 then
 Q 0 2 Sx_2
 else
 Jx_3 Sx_2) fun Jx_4=>
 lp (fun Xx_2 (n_5:Int) (Sx_16:Mem)=>
 if n_5<6 then
 nn h fun b_8 o_7=>
 gP (Sx_16.cell b_8 (o_7+3)) fun t_26=>
 nn t_26 fun b_9 o_8=>
 0≤n_5∧n_5<6 ∧
 gB (Sx_16.cell b_9 (o_8+2+n_5.toNat*12)) fun t_27=>
 if t_27=true then
 Xx_2 (IntKind.i64.wrap (n_5+1)) Sx_16
 else
 Jx_4 n_5 Sx_16
 else
 Jx_4 n_5 Sx_16) 0 Sx_1) fun Jx_5=>
 if h=none then
 Q 0 2 Sx
 else
 if t_1≠0 then
 Q 0 t_1 Sx
 else
 if pages<1 then
 Q 0 1 Sx
 else
 if quota<pages then
 Q 0 1 Sx
 else
 if IntKind.i64.wrap (256*pages)<(image.n:Int) then
 Q 0 6 Sx
 else
 Jx_5 Sx
theorem zco {S:Mem} {h:Pt} {seats:Int} {quota:Int} {pages:Int} {image:Sl} {Q:Int→Int→Mem→Prop} (H:vj S h seats quota pages image Q):xa S h seats quota pages image Q:=by
 unfold vj at H
 exact Tr.intro func30 E ntmps30 E fun w0=>csr<|gv E E<|gv E E<|nxr<|mv E E<|mv E E<|qP E E H fun rv Sx H1=>by obtain⟨t,t_1,rfl,ht,H2⟩:=H1;exact mv E E<|s_p E (zj E E)<|s_p E (zj E E)<|by refine qk E fun b=>?_;exact an H2 fun c H3=>zl 0 E E E E E ht E c<|gv E E<|nx<|zp H3 (fun (J:Mem→Prop) (z:Unit) S=>J S) (fun z=>⟨172,[(0,eP h),(3,.int .i64 pages),(4,eL image),(12,.pointer (some ⟨b,0,none⟩))]⟩) (fun z=>[⟨b,66,t⟩]) (fun _ Sx_1 H4=>csr<|gv E E<|nx<|zp H4 (fun (J:Int→Mem→Prop) (z:Int) S=>J z S) (fun z=>⟨172,[(0,eP h),(3,.int .i64 pages),(4,eL image),(12,.pointer (some ⟨b,0,none⟩)),(14,.int .i64 z)]⟩) (fun z=>[⟨b,66,t⟩]) (fun n Sx_2 H5=>zp H5 (fun (J:Mem→Prop) (z:Unit) S=>J S) (fun z=>⟨172,[(0,eP h),(3,.int .i64 pages),(4,eL image),(12,.pointer (some ⟨b,0,none⟩)),(14,.int .i64 n)]⟩) (fun z=>[⟨b,66,t⟩]) (fun _ Sx_3 H6=>csr<|mv E E<|by obtain⟨b_1,o,rfl,H7⟩:=H6;exact s_p E (qt E)<|s_p E (zv E E)<|gx H7 fun t_2 ht_2 H8=>s_v E (zF E) (qh ht_2)<|mv E E<|s_p E (qy E E)<|zhi E E H8 fun t_3 t_4 Sx_4 H9=>mv E E<|s_p E (zj E E)<|s_p E (zj E E)<|gv E E<|gv E E<|nx<|zp H9 (fun (J:Mem→Prop) (z:Unit) S=>J S) (fun z=>⟨172,[(0,.pointer (some ⟨b_1,o,none⟩)),(4,eL image),(12,.pointer (some ⟨b,0,none⟩)),(14,.int .i64 n),(15,eL t_3)]⟩) (fun z=>[⟨b,66,t⟩]) (fun _ Sx_5 H10=>zp H10 (fun (J:Mem→Prop) (z:Unit) S=>J S) (fun z=>⟨172,[(0,.pointer (some ⟨b_1,o,none⟩)),(4,eL image),(12,.pointer (some ⟨b,0,none⟩)),(14,.int .i64 n),(15,eL t_3)]⟩) (fun z=>[⟨b,66,t⟩]) (fun _ Sx_6 H11=>zO<|qc (by kernel_rfl)<|aTP 0 E (by decide +kernel) E (zt E)<|by exact aTP 1 E (by decide +kernel) E (qt E)<|by exact aTP 2 E (by decide +kernel) E (zv E E)<|by exact gx H11 fun t_5 ht_5 H12=>aT 3 E (by decide +kernel) E (zF E) (qh ht_5)<|by exact aTP 4 E (by decide +kernel) E (zt E)<|by exact aTP 5 E (by decide +kernel) E (qt E)<|by exact aTP 6 E (by decide +kernel) E (zv E E)<|by exact gx H12 fun t_6 ht_6 H13=>aT 7 E (by decide +kernel) E (zF E) (qh ht_6)<|by exact by obtain⟨b_2,o_1,rfl,H14⟩:=H13;exact aTP 8 E (by decide +kernel) E (qt E)<|by exact aTP 9 E (by decide +kernel) E (zv E E)<|by exact gx H14 fun t_7 ht_7 H15=>aT 10 E (by decide +kernel) E (zF E) (qh ht_7)<|by exact aTP 11 E (by decide +kernel) E (zt E)<|by exact an2 H15 fun c_2 c_3 H16=>by obtain⟨t_8,et_8,H17⟩:=zkT H16;exact aTP 12 E (by decide +kernel) E (eqv (zdP (a:=0) (b:=5) E E E (by decide) c_2 c_3) (congrArg eL et_8))<|by exact zH 13 (by decide +kernel) E<|by exact qP E E H17 fun rv Sx_7 H18=>by obtain⟨t_9,t_10,rfl,ht_9,H19⟩:=H18;exact by obtain⟨k,H20⟩:=H19;exact zu<|qf (zA (qh k) zD)<|aTP 14 E (by decide +kernel) E (zt E)<|by exact aTP 15 E (by decide +kernel) E (zj E E)<|by exact aTP 16 E (by decide +kernel) E (zj E E)<|by exact aTP 17 E (by decide +kernel) E (zv E E)<|by exact zH 18 (by decide +kernel) E<|by exact an H20 fun c_4 H21=>qu (sz:=2) (vs:=t_9) 0 E E E E E ht_9 (zY ht (by omega)) c_4<|zu<|qf zD<|qi (by decide +kernel)<|by exact zC<|csr<|mv E E<|s_p E (qt E)<|s_p E (zv E E)<|gx H21 fun t_11 ht_11 H22=>s_v E (zF E) (qh ht_11)<|by obtain⟨b_3,o_2,rfl,H23⟩:=H22;exact s_p E (qt E)<|s_p E (zv E E)<|gx H23 fun t_12 ht_12 H24=>s_v E (zF E) (qh ht_12)<|s_p E (zv E E)<|qu (sz:=1) (vs:=[.int .u64 t_12]) 0 E E E E E E (zY (zq ht (by have:=ht_9;(try simp only[List.length_cons,List.length_nil]);omega)) (by omega)) E<|nx<|zO<|qc (by kernel_rfl)<|aTP 0 E (by decide +kernel) E (zt E)<|by exact aTP 1 E (by decide +kernel) E (qt E)<|by exact aTP 2 E (by decide +kernel) E (zv E E)<|by exact gx H24 fun t_13 ht_13 H25=>aT 3 E (by decide +kernel) E (zF E) (qh ht_13)<|by exact aTP 4 E (by decide +kernel) E (zt E)<|by exact aTP 5 E (by decide +kernel) E (zt E)<|by exact aTP 6 E (by decide +kernel) E (zt E)<|by exact by refine aT 7 E (by decide +kernel) E (qa E (zq (zq ht (by have:=ht_9;(try simp only[List.length_cons,List.length_nil]);omega)) (by have:=True.intro;(try simp only[List.length_cons,List.length_nil]);omega))) (zx (k:=12) 0 E (ze (zq (zq ht (by have:=ht_9;(try simp only[List.length_cons,List.length_nil]);omega)) (by have:=True.intro;(try simp only[List.length_cons,List.length_nil]);omega)))) ?_;exact by obtain⟨b_4,o_3,rfl,H26⟩:=H25;exact aTP 8 E (by decide +kernel) E (qt E)<|by exact aTP 9 E (by decide +kernel) E (zv E E)<|by exact an2 H26 fun c_5 c_6 H27=>aTP 10 E (by decide +kernel) E (qb E E c_5 c_6 E)<|by exact aTP 12 E (by decide +kernel) E (qt E)<|by exact aTP 13 E (by decide +kernel) E (zv E E)<|by exact zH 11 (by decide +kernel) E<|by exact an H27 fun c_7 H28=>an H28 fun c_8 H29=>qY E E E E (zq (zq ht (by have:=ht_9;(try simp only[List.length_cons,List.length_nil]);omega)) (by have:=True.intro;(try simp only[List.length_cons,List.length_nil]);omega)) c_8 c_7<|zu<|qf zD<|an2 H29 fun c_9 c_10 H30=>aTP 14 E (by decide +kernel) E (qb E E c_9 c_10 E)<|by exact zH 15 (by decide +kernel) E<|by exact an H30 fun c_11 H31=>qY E E E E E c_11 E<|zu<|qf zD<|qi (by decide +kernel)<|by exact zC<|zp H31 (fun (J:Mem→Prop) (z:Unit) S=>J S) (fun z=>⟨172,[(14,.int .i64 n)]⟩) (fun z=>[]) (fun _ Sx_10 H32=>csr<|mv E E<|gv E E<|gv E E<|nx<|zo<|zn results30 (zd E (zd E zg)) ⟨_,_,E,H32⟩) (fun Jx hJx H33=>csr<|mv E E<|an3 H33 fun c_12 c_13 c_14 H34=>by obtain⟨t_14,et_14,H35⟩:=zkT H34;exact s_p E (eqv (zdP (a:=5) (b:=(t_3.n:Int)) E E E c_12 c_13 c_14) (congrArg eL et_14))<|s_p E (vX E)<|mv E E<|nx<|zE<|xM (fun z=>⟨172,[(0,.pointer (some ⟨b_1,o,none⟩)),(4,eL image),(14,.int .i64 n),(138,eL t_14),(139,.int .i64 (t_14.n:Int)),(140,.int .i64 z)]⟩) (fun z=>[]) 0 (idx:=[]) H35 E ⟨E,E,E,E,E,E,True.intro⟩ E<|fun Xx hXx t_15 Sx_11 H36=>csr<|iteK H36 (fun c_15 H37=>s_p E (yT (zQ E E) c_15)<|nx<|zO<|c_t E E<|yu<|zC<|zO<|zE<|csr<|mv E E<|by obtain⟨b_5,o_4,n_1,n_2,rfl,H38⟩:=H37;exact an2 H38 fun c_16 c_17 H39=>s_p E (vx E E c_16 c_17 E)<|gx H39 fun t_16 ht_16 H40=>s_v E (zF E) (qh ht_16)<|gv E E<|gv E E<|nxr<|mv E E<|mv E E<|mv E E<|mv E E<|zls E E H40 fun Sx_12 H41=>nxr<|mv E E<|s_p E (zca E E)<|gv E E<|nxr<|mv E E<|mv E E<|s_p E (vX E)<|iteK H41 (fun c_18 H42=>s_p E (yT (zQ E E) c_18)<|nx<|c_t E E<|qc (by kernel_rfl)<|a_takeP 0 E (by decide +kernel) (zf (za (za (zf (za zc))))) E (zt E)<|by exact a_takeP 1 E (by decide +kernel) (zf (za (za (zf (za zc))))) E (qt E)<|by exact a_takeP 2 E (by decide +kernel) (zf (za (za (zf (za zc))))) E (zv E E)<|by exact gx H42 fun t_17 ht_17 H43=>qp 3 E (by decide +kernel) (zf (za (za (zf (za zc))))) E (zF E) (qh ht_17)<|by exact a_takeP 4 E (by decide +kernel) (zf (za (za (zf (za zc))))) E (zt E)<|by exact a_takeP 5 E (by decide +kernel) (zf (za (za (zf (za zc))))) E (zt E)<|by exact a_takeP 6 E (by decide +kernel) (zf (za (za (zf (za zc))))) E (zt E)<|by exact a_takeP 7 E (by decide +kernel) (zf (za (za (zf (za zc))))) E (zt E)<|by exact a_takeP 8 E (by decide +kernel) (zf (za (za (zf (za zc))))) E (qy E E)<|by exact a_takeP 9 E (by decide +kernel) (zf (za (za (zf (za zc))))) E (zt E)<|by exact a_takeP 10 E (by decide +kernel) (zf (za (za (zf (za zc))))) E (vX E)<|by exact a_takeP 11 E (by decide +kernel) (zf (za (za (zf (za zc))))) E (zod E E)<|by exact an3 H43 fun c_19 c_20 c_21 H44=>by obtain⟨t_18,et_18,H45⟩:=zkT H44;exact a_takeP 12 E (by decide +kernel) (zf (za (za (zf (za zc))))) E (eqv (zdP (a:=IntKind.i64.wrap (256*t_15)) (b:=(if (image.n:Int)<IntKind.i64.wrap ((IntKind.i64.wrap (256*t_15))+256) then (image.n:Int) else IntKind.i64.wrap ((IntKind.i64.wrap (256*t_15))+256))) E E E c_19 c_20 c_21) (congrArg eL et_18))<|by exact zH 13 (by decide +kernel) E<|by exact vv E E H45 fun t_19 Sx_13 H46=>zu<|qf zD<|qi (by decide +kernel)<|by exact zX<|zC<|zw<|s_p E (qy E E)<|mv E E<|zu<|hXx (IntKind.i64.wrap (t_15+1)) _ _ _ _ [] H46 E ⟨E,E,E,E,E,E,True.intro⟩ E) fun c_18 H42=>s_p E (yF (zQ E E) c_18)<|nx<|cfs E E<|zX<|zC<|zw<|s_p E (qy E E)<|mv E E<|zu<|hXx (IntKind.i64.wrap (t_15+1)) _ _ _ _ [] H42 E ⟨E,E,E,E,E,E,True.intro⟩ E) fun c_15 H37=>s_p E (yF (zQ E E) c_15)<|nx<|zO<|c_f E E<|yg<|zm<|zm<|zU<|hJx () _ _ _ _ [] H37 E ⟨E,True.intro⟩ E)) (fun Jx_1 hJx_1 H47=>csr<|mv E E<|an2 H47 fun c_23 c_24 H48=>by obtain⟨t_20,et_20,H49⟩:=zkT H48;exact s_p E (eqv (zdP (a:=0) (b:=5) E E E (by decide) c_23 c_24) (congrArg eL et_20))<|s_p E (vX E)<|mv E E<|nx<|zE<|xM (fun z=>⟨172,[(0,.pointer (some ⟨b_1,o,none⟩)),(4,eL image),(12,.pointer (some ⟨b,0,none⟩)),(14,.int .i64 n),(15,eL t_3),(80,eL t_20),(81,.int .i64 (t_20.n:Int)),(82,.int .i64 z)]⟩) (fun z=>[⟨b,66,t⟩]) 0 (idx:=[0]) H49 E ⟨E,E,E,E,E,E,E,E,True.intro⟩ E<|fun Xx_1 hXx_1 t_21 Sx_14 H50=>csr<|iteK H50 (fun c_25 H51=>s_p E (yT (zQ E E) c_25)<|nx<|zO<|c_t E E<|yu<|zC<|zO<|zE<|csr<|by obtain⟨b_6,o_5,n_3,n_4,rfl,H52⟩:=H51;exact an2 H52 fun c_26 c_27 H53=>s_p E (vx E E c_26 c_27 E)<|gx H53 fun t_22 ht_22 H54=>s_v E (zF E) (qh ht_22)<|gv E E<|nx<|zw<|mv E E<|s_p E (qt E)<|s_p E (zv E E)<|gx H54 fun t_23 ht_23 H55=>s_v E (zF E) (qh ht_23)<|by obtain⟨b_7,o_6,rfl,H56⟩:=H55;exact s_p E (qt E)<|s_p E (zv E E)<|gx H56 fun t_24 ht_24 H57=>s_v E (zF E) (qh ht_24)<|mv E E<|mv E E<|vv E E H57 fun t_25 Sx_15 H58=>zu<|zX<|zC<|zw<|s_p E (qy E E)<|mv E E<|zu<|hXx_1 (IntKind.i64.wrap (t_21+1)) _ _ _ _ [0] H58 E ⟨E,E,E,E,E,E,E,E,True.intro⟩ E) fun c_25 H51=>s_p E (yF (zQ E E) c_25)<|nx<|zO<|c_f E E<|yg<|zm<|zm<|zU<|hJx_1 () _ _ _ _ [0] H51 E ⟨E,E,E,E,E,True.intro⟩ E)) (fun Jx_2 hJx_2 H59=>csr<|mv E E<|iteK H59 (fun c_28 H60=>s_p E (yT (qw E E) c_28)<|nx<|c_t E E<|csr<|mv E E<|gv E E<|gv E E<|nx<|zo<|zb<|zn results30 (zd E (zd E zg)) ⟨_,_,E,H60⟩) fun c_28 H60=>s_p E (yF (qw E E) c_28)<|nx<|cfs E E<|hJx_2 () _ _ _ _ [0] H60 E ⟨E,E,E,E,E,True.intro⟩ E)) (fun Jx_3 hJx_3 H61=>csr<|mv E E<|iteK H61 (fun c_29 H62=>ceT E E E (c_29)<|nx<|c_t E E<|csr<|gv E E<|gv E E<|nx<|zo<|zb<|zn results30 (zd E (zd E zg)) ⟨_,_,E,H62⟩) fun c_29 H62=>ceF E E E (c_29)<|nx<|cfs E E<|hJx_3 () _ _ _ _ [0] H62 E ⟨E,E,E,E,E,True.intro⟩ E)) (fun Jx_4 hJx_4 H63=>zE<|xM (fun z=>⟨172,[(0,eP h),(3,.int .i64 pages),(4,eL image),(12,.pointer (some ⟨b,0,none⟩)),(14,.int .i64 z)]⟩) (fun z=>[⟨b,66,t⟩]) 0 (idx:=[0]) H63 E ⟨E,E,E,E,E,True.intro⟩ E<|fun Xx_2 hXx_2 n_5 Sx_16 H64=>zO<|csr<|mv E E<|iteK H64 (fun c_30 H65=>s_p E (yT (zQ E E) c_30)<|mv E E<|mv E E<|by obtain⟨b_8,o_7,rfl,H66⟩:=H65;exact s_p E (qt E)<|s_p E (zv E E)<|gx H66 fun t_26 ht_26 H67=>s_v E (zF E) (qh ht_26)<|mv E E<|by obtain⟨b_9,o_8,rfl,H68⟩:=H67;exact s_p E (qt E)<|s_p E (zv E E)<|an2 H68 fun c_31 c_32 H69=>s_p E (qb E E c_31 c_32 E)<|s_p E (zv E E)<|gx H69 fun t_27 ht_27 H70=>by have H71:=zbG H70;rcases H71 with ⟨rfl,H72⟩ | ⟨rfl,H72⟩;exact (s_v E (zF E) (qh ht_27)<|pk E E E<|nx<|c_t E E<|yu<|zC<|zE<|zw<|mv E E<|s_p E (qy E E)<|gv E E<|zu<|zX<|hXx_2 (IntKind.i64.wrap (n_5+1)) _ _ _ _ [0] H72 E ⟨E,E,E,E,E,True.intro⟩ E);exact (s_v E (zF E) (qh ht_27)<|pk E E E<|nx<|c_f E E<|yg<|zm<|zm<|zU<|hJx_4 n_5 _ _ _ _ [0] H72 E ⟨E,E,E,E,E,True.intro⟩ E)) fun c_30 H65=>s_p E (yF (zQ E E) c_30)<|mv E E<|sk8 E E E E E E E E<|sk2 E E<|pk E E E<|nx<|c_f E E<|yg<|zm<|zm<|zU<|hJx_4 n_5 _ _ _ _ [0] H65 E ⟨E,E,E,E,E,True.intro⟩ E)) (fun Jx_5 hJx_5 H73=>zE<|csr<|mv E E<|iteK H73 (fun c_33 H74=>s_p E (yT (wb (p:=h) E E) c_33)<|gv E E<|nx<|c_t E E<|csr<|gv E E<|gv E E<|nx<|zo<|zh<|zb<|zn results30 (zd E (zd E zg)) ⟨_,_,E,H74⟩) fun c_33 H74=>s_p E (yF (wb (p:=h) E E) c_33)<|gv E E<|nx<|c_f E E<|csr<|mv E E<|iteK H74 (fun c_34 H75=>s_p E (yT (qw E E) c_34)<|gv E E<|nx<|c_t E E<|csr<|mv E E<|gv E E<|gv E E<|nx<|zo<|zh<|zb<|zn results30 (zd E (zd E zg)) ⟨_,_,E,H75⟩) fun c_34 H75=>s_p E (yF (qw E E) c_34)<|gv E E<|nx<|c_f E E<|csr<|mv E E<|iteK H75 (fun c_35 H76=>s_p E (yT (zQ E E) c_35)<|mv E E<|sk2 E E<|zG E<|pk E E E<|gv E E<|nx<|c_t E E<|csr<|gv E E<|gv E E<|nx<|zo<|zh<|zb<|zn results30 (zd E (zd E zg)) ⟨_,_,E,H76⟩) fun c_35 H76=>s_p E (yF (zQ E E) c_35)<|mv E E<|mv E E<|mv E E<|iteK H76 (fun c_36 H77=>s_p E (yT (qT E E) c_36)<|pk E E E<|gv E E<|nx<|c_t E E<|csr<|gv E E<|gv E E<|nx<|zo<|zh<|zb<|zn results30 (zd E (zd E zg)) ⟨_,_,E,H77⟩) fun c_36 H77=>s_p E (yF (qT E E) c_36)<|pk E E E<|gv E E<|nx<|c_f E E<|csr<|mv E E<|s_p E (vX E)<|mv E E<|s_p E (zca E E)<|iteK H77 (fun c_37 H78=>s_p E (yT (qT E E) c_37)<|gv E E<|nx<|c_t E E<|zO<|by exact zw<|gv E E<|gv E E<|nx<|zo<|zh<|zb<|zn results30 (zd E (zd E zg)) ⟨_,_,E,H78⟩) fun c_37 H78=>s_p E (yF (qT E E) c_37)<|gv E E<|nx<|cfs E E<|zX<|by exact hJx_5 () _ _ _ _ [0] H78 E ⟨E,E,E,E,True.intro⟩ E)
def zdD (S:Mem) (form:Int) (frames:Int) (region:Int) (Q:Pt→Int→Mem→Prop):Prop:=
 jn (fun (Sx:Mem)=>
 zat Sx frames fun t Sx_1=>
 zcA Sx_1 frames fun t_1 Sx_2=>
 zcF Sx_2 form frames fun t_2 Sx_3=>
 al Sx_3 86 ([eP t,eP t_1,.slice (none) 0 0,eP t_2,.slice (none) 0 0,.slice (none) 0 0,.slice (none) 0 0,.slice (none) 0 0,.slice (none) 0 0,.slice (none) 0 0,.slice (none) 0 0]) fun b Sx_4=>
 gP (Sx_4.cell b 1) fun t_3=>
 wz Sx_4 t_3 region fun t_4 t_5 Sx_5=>
 pt Sx_5 b 4 1 ([eL t_4]) fun Sx_6=>
 jn (fun (Sx_7:Mem)=>
 Q (some (b,0)) 0 Sx_7) fun Jx=>
 gL (Sx_6.cell b 4) fun t_6=>
 lp (fun Xx (t_7:Int) (Sx_8:Mem)=>
 if t_7<(t_6.n:Int) then
 sl t_6 fun b_1 o n n_1=>
 0≤t_7∧t_7<((n:Nat):Int) ∧
 gI (Sx_8.cell b_1 (o+t_7.toNat*1)) .i64 fun t_8=>
 gP (Sx_8.cell b 3) fun t_9=>
 nn t_9 fun b_2 o_1=>
 gP (Sx_8.cell b_2 (o_1+74)) fun t_10=>
 yr Sx_8 t_10 t_8 (-1) fun t_11 Sx_9=>
 Xx (IntKind.i64.wrap (t_7+1)) Sx_9
 else
 Jx Sx_8) 0 Sx_6) fun Jx_1=>
 if frames<1 then
 Q none 1 S
 else
 if 512<frames then
 Q none 1 S
 else
 if region<1 then
 Q none 1 S
 else
 if frames<region then
 Q none 1 S
 else
 if form≠1 then
 if form≠2 then
 Q none 1 S
 else
 Jx_1 S
 else
 Jx_1 S
theorem zjW {S:Mem} {form:Int} {frames:Int} {region:Int} {Q:Pt→Int→Mem→Prop} (H:zdD S form frames region Q):zcI S form frames region Q:=by
 unfold zdD at H
 exact Tr.intro func28 E ntmps28 E fun w0=>csr<|gv E E<|gv E E<|nx<|zp H (fun (J:Mem→Prop) (z:Unit) S=>J S) (fun z=>⟨75,[(0,.int .i64 form),(1,.int .i64 frames),(2,.int .i64 region)]⟩) (fun z=>[]) (fun _ Sx H1=>csr<|mv E E<|vv E E H1 fun t Sx_1 H2=>mv E E<|vv E E H2 fun t_1 Sx_2 H3=>mv E E<|mv E E<|vv E E H3 fun t_2 Sx_3 H4=>s_p E (qj E E)<|by exact gu E E E fun b=>zgJ 0 E fun hb=>have H5:=H4 b hb;gv E E<|nxr<|mv E E<|mv E E<|s_p E (qt E)<|s_p E (zv E E)<|gx H5 fun t_3 ht_3 H6=>s_v E (zF E) (qh ht_3)<|mv E E<|zhi E E H6 fun t_4 t_5 Sx_5 H7=>mv E E<|s_p E (zj E E)<|s_p E (zj E E)<|s_p E (qt E)<|s_p E (zv E E)<|an H7 fun c H8=>qY E E E E E c E<|nx<|zp H8 (fun (J:Mem→Prop) (z:Unit) S=>J S) (fun z=>⟨75,[(8,.pointer (some ⟨b,0,none⟩))]⟩) (fun z=>[]) (fun _ Sx_7 H9=>csr<|mv E E<|gv E E<|gv E E<|nx<|zo<|zn results28 (zd E (zd E zg)) ⟨_,_,E,H9⟩) (fun Jx hJx H10=>csr<|mv E E<|s_p E (qt E)<|s_p E (zv E E)<|gx H10 fun t_6 ht_6 H11=>s_v E (zF E) (qh ht_6)<|s_p E (vX E)<|mv E E<|nx<|zE<|xM (fun z=>⟨75,[(8,.pointer (some ⟨b,0,none⟩)),(58,eL t_6),(59,.int .i64 (t_6.n:Int)),(60,.int .i64 z)]⟩) (fun z=>[]) 0 (idx:=[]) H11 E ⟨E,E,E,E,True.intro⟩ E<|fun Xx hXx t_7 Sx_8 H12=>csr<|iteK H12 (fun c_1 H13=>s_p E (yT (zQ E E) c_1)<|nx<|zO<|c_t E E<|yu<|zC<|zO<|zE<|zO<|by exact zw<|by obtain⟨b_1,o,n,n_1,rfl,H14⟩:=H13;exact an2 H14 fun c_2 c_3 H15=>s_p E (vx E E c_2 c_3 E)<|gx H15 fun t_8 ht_8 H16=>s_v E (zF E) (qh ht_8)<|gv E E<|nx<|zw<|mv E E<|s_p E (qt E)<|s_p E (zv E E)<|gx H16 fun t_9 ht_9 H17=>s_v E (zF E) (qh ht_9)<|by obtain⟨b_2,o_1,rfl,H18⟩:=H17;exact s_p E (qt E)<|s_p E (zv E E)<|gx H18 fun t_10 ht_10 H19=>s_v E (zF E) (qh ht_10)<|mv E E<|vv E E H19 fun t_11 Sx_9 H20=>zu<|zX<|zC<|zw<|s_p E (qy E E)<|mv E E<|zu<|hXx (IntKind.i64.wrap (t_7+1)) _ _ _ _ [] H20 E ⟨E,E,E,E,True.intro⟩ E) fun c_1 H13=>s_p E (yF (zQ E E) c_1)<|nx<|zO<|c_f E E<|yg<|zm<|zm<|zU<|hJx () _ _ _ _ [] H13 E ⟨E,True.intro⟩ E)) (fun Jx_1 hJx_1 H21=>csr<|mv E E<|iteK H21 (fun c_4 H22=>s_p E (yT (zQ E E) c_4)<|mv E E<|sk2 E E<|pk E E E<|mv E E<|sk2 E E<|pk E E E<|mv E E<|sk2 E E<|zG E<|pk E E E<|mv E E<|sk4 E E E E<|sk2 E E<|pk E E E<|nx<|c_t E E<|csr<|gv E E<|gv E E<|nx<|zo<|zb<|zn results28 (zd E (zd E zg)) ⟨_,_,E,H22⟩) fun c_4 H22=>s_p E (yF (zQ E E) c_4)<|mv E E<|mv E E<|iteK H22 (fun c_5 H23=>s_p E (yT (qT E E) c_5)<|pk E E E<|mv E E<|sk2 E E<|pk E E E<|mv E E<|sk2 E E<|zG E<|pk E E E<|mv E E<|sk4 E E E E<|sk2 E E<|pk E E E<|nx<|c_t E E<|csr<|gv E E<|gv E E<|nx<|zo<|zb<|zn results28 (zd E (zd E zg)) ⟨_,_,E,H23⟩) fun c_5 H23=>s_p E (yF (qT E E) c_5)<|pk E E E<|mv E E<|mv E E<|iteK H23 (fun c_6 H24=>s_p E (yT (zQ E E) c_6)<|pk E E E<|mv E E<|sk2 E E<|zG E<|pk E E E<|mv E E<|sk4 E E E E<|sk2 E E<|pk E E E<|nx<|c_t E E<|csr<|gv E E<|gv E E<|nx<|zo<|zb<|zn results28 (zd E (zd E zg)) ⟨_,_,E,H24⟩) fun c_6 H24=>s_p E (yF (zQ E E) c_6)<|pk E E E<|mv E E<|mv E E<|mv E E<|iteK H24 (fun c_7 H25=>s_p E (yT (qT E E) c_7)<|pk E E E<|mv E E<|sk4 E E E E<|sk2 E E<|pk E E E<|nx<|c_t E E<|csr<|gv E E<|gv E E<|nx<|zo<|zb<|zn results28 (zd E (zd E zg)) ⟨_,_,E,H25⟩) fun c_7 H25=>s_p E (yF (qT E E) c_7)<|pk E E E<|mv E E<|mv E E<|iteK H25 (fun c_8 H26=>s_p E (yT (qw E E) c_8)<|mv E E<|mv E E<|iteK H26 (fun c_9 H27=>s_p E (yT (qw E E) c_9)<|pk E E E<|pk E E E<|nx<|c_t E E<|csr<|gv E E<|gv E E<|nx<|zo<|zb<|zn results28 (zd E (zd E zg)) ⟨_,_,E,H27⟩) fun c_9 H27=>s_p E (yF (qw E E) c_9)<|pk E E E<|pk E E E<|nx<|cfs E E<|hJx_1 () _ _ _ _ [] H27 E ⟨E,E,E,True.intro⟩ E) fun c_8 H26=>s_p E (yF (qw E E) c_8)<|mv E E<|sk2 E E<|pk E E E<|pk E E E<|nx<|cfs E E<|hJx_1 () _ _ _ _ [] H26 E ⟨E,E,E,True.intro⟩ E)
def fH (S:Mem) (Q:List Value→Mem→Prop):Prop:=
 jn (fun (d:List Value) (Sx:Mem)=>
 d.length=4 ∧
 d.all (·.oneCell')=true ∧
 Q d Sx) fun Jx=>
 lp (fun Xx (z:Int×List Value) (Sx_1:Mem)=>
 match z with
 | (t,d_1)=>
 d_1.length=4 ∧
 if t<4 then
 al Sx_1 5 (zrep 256 [.int .u8 0]) fun b_2 Sx_2=>
 0≤t∧t<4 ∧
 Xx (IntKind.i64.wrap (t+1),spl d_1 (0+t.toNat*1) ([.slice (some ⟨b_2,0,none⟩) 256 256])) Sx_2
 else
 Jx d_1 Sx_1) (0,[.slice (none) 0 0,.slice (none) 0 0,.slice (none) 0 0,.slice (none) 0 0]) S
theorem zgz {S:Mem} {Q:List Value→Mem→Prop} (H:fH S Q):zbI S Q:=by
 unfold fH at H
 exact Tr.intro func115 E ntmps115 E fun w0=>csr<|by refine qk E fun b=>?_;exact nxr<|by refine qk E fun b_1=>?_;exact nx<|zp H (fun (J:List Value→Mem→Prop) (z:List Value) S=>J z S) (fun z=>⟨11,[(0,.pointer (some ⟨b,0,none⟩)),(1,.pointer (some ⟨b_1,0,none⟩))]⟩) (fun z=>[⟨b,64,[.slice (none) 0 0,.slice (none) 0 0,.slice (none) 0 0,.slice (none) 0 0]⟩,⟨b_1,64,z⟩]) (fun d Sx H1=>an H1 fun hd H2=>csr<|by refine s_v E (qa E hd) (zx (k:=4) 1 E (ze hd)) ?_;exact an H2 fun c H3=>zl 0 E E E E E hd E c<|nx<|zo<|zn results115 (zr E (zx (k:=4) 0 E (ze hd)) hd zg) ⟨_,E,hd,H3⟩) (fun Jx hJx H4=>csr<|mv E E<|nx<|zE<|xM (fun z=>⟨11,[(0,.pointer (some ⟨b,0,none⟩)),(1,.pointer (some ⟨b_1,0,none⟩)),(3,.int .i64 z.1)]⟩) (fun z=>[⟨b,64,[.slice (none) 0 0,.slice (none) 0 0,.slice (none) 0 0,.slice (none) 0 0]⟩,⟨b_1,64,z.2⟩]) (0,[.slice (none) 0 0,.slice (none) 0 0,.slice (none) 0 0,.slice (none) 0 0]) (idx:=[0,0]) H4 E ⟨E,E,E,True.intro⟩ E<|by rintro Xx hXx ⟨t,d_1⟩ Sx_1 H5;exact an H5 fun hd_1 H6=>csr<|iteK H6 (fun c_1 H7=>s_p E (yT (zQ E E) c_1)<|nx<|zO<|c_t E E<|yu<|zC<|zO<|zE<|csr<|mv E E<|gv E E<|nx<|zw<|mv E E<|zqn E E E (by decide) (by decide) (by decide) (by decide) fun b_2=>zgJ 2 E fun hb_2=>have H8:=H7 b_2 hb_2;an2 H8 fun c_2 c_3 H9=>s_p E (qb E E c_2 c_3 E)<|qu (sz:=1) (vs:=[.slice (some ⟨b_2,0,none⟩) 256 256]) 1 E E E E E E (zY hd_1 (by omega)) E<|zu<|zX<|zC<|zw<|s_p E (qy E E)<|mv E E<|zu<|hXx (IntKind.i64.wrap (t+1),spl d_1 (0+t.toNat*1) ([.slice (some ⟨b_2,0,none⟩) 256 256])) _ _ _ _ [0,0] H9 E ⟨E,E,E,True.intro⟩ E) fun c_1 H7=>s_p E (yF (zQ E E) c_1)<|nx<|zO<|c_f E E<|yg<|zm<|zm<|zU<|hJx d_1 _ _ _ _ [0,0] H7 E ⟨E,E,True.intro⟩ E)
def jQ (S:Mem) (seats:Int) (quota:Int) (Q:List Value→Int→Mem→Prop):Prop:=
 jn (fun (v:List Value) (Sx:Mem)=>
 v.length=12 ∧
 zbI Sx fun t Sx_1=>
 (spl (spl (spl ([.bool false,.slice (none) 0 0,.int .i64 0,.slice (none) 0 0,.int .i64 0,.int .u64 0,.slice (none) 0 0,.slice (none) 0 0,.slice (none) 0 0,.slice (none) 0 0,.slice (none) 0 0,.int .u32 0]) 0 [.bool true]) 4 [.int .i64 quota]) 7 t).all (·.oneCell')=true ∧
 jn (fun (v_1:List Value) (Sx_2:Mem)=>
 v_1.length=12 ∧
 v_1.all (·.oneCell')=true ∧
 Q v_1 0 Sx_2) fun Jx=>
 lp (fun Xx (z:Int×List Value) (Sx_3:Mem)=>
 match z with
 | (t_1,v_2)=>
 v_2.length=12 ∧
 if t_1<seats then
 gL (nthL v_2 1) fun t_2=>
 zjm Sx_3 fun t_3 Sx_4=>
 t_3.all (·.oneCell')=true ∧
 ap Sx_4 43 26 192 z43 t_2 1 t_3 fun t_4 Sx_5=>
 Xx (IntKind.i64.wrap (t_1+1),spl v_2 1 ([eL t_4])) Sx_5
 else
 Jx v_2 Sx_3) (0,spl (spl (spl ([.bool false,.slice (none) 0 0,.int .i64 0,.slice (none) 0 0,.int .i64 0,.int .u64 0,.slice (none) 0 0,.slice (none) 0 0,.slice (none) 0 0,.slice (none) 0 0,.slice (none) 0 0,.int .u32 0]) 0 [.bool true]) 4 [.int .i64 quota]) 7 t) Sx_1) fun Jx_1=>
 if seats<1 then
 Q ([.bool false,.slice (none) 0 0,.int .i64 0,.slice (none) 0 0,.int .i64 0,.int .u64 0,.slice (none) 0 0,.slice (none) 0 0,.slice (none) 0 0,.slice (none) 0 0,.slice (none) 0 0,.int .u32 0]) 1 S
 else
 if 3<seats then
 Q ([.bool false,.slice (none) 0 0,.int .i64 0,.slice (none) 0 0,.int .i64 0,.int .u64 0,.slice (none) 0 0,.slice (none) 0 0,.slice (none) 0 0,.slice (none) 0 0,.slice (none) 0 0,.int .u32 0]) 1 S
 else
 if quota<1 then
 Q ([.bool false,.slice (none) 0 0,.int .i64 0,.slice (none) 0 0,.int .i64 0,.int .u64 0,.slice (none) 0 0,.slice (none) 0 0,.slice (none) 0 0,.slice (none) 0 0,.slice (none) 0 0,.int .u32 0]) 1 S
 else
 if 32<quota then
 Q ([.bool false,.slice (none) 0 0,.int .i64 0,.slice (none) 0 0,.int .i64 0,.int .u64 0,.slice (none) 0 0,.slice (none) 0 0,.slice (none) 0 0,.slice (none) 0 0,.slice (none) 0 0,.int .u32 0]) 1 S
 else
 Jx_1 ([.bool false,.slice (none) 0 0,.int .i64 0,.slice (none) 0 0,.int .i64 0,.int .u64 0,.slice (none) 0 0,.slice (none) 0 0,.slice (none) 0 0,.slice (none) 0 0,.slice (none) 0 0,.int .u32 0]) S
theorem zdI {S:Mem} {seats:Int} {quota:Int} {Q:List Value→Int→Mem→Prop} (H:jQ S seats quota Q):zaZ S seats quota Q:=by
 unfold jQ at H
 exact Tr.intro func56 E ntmps56 E fun w0=>csr<|by refine qk E fun b=>?_;exact gv E E<|nx<|zp H (fun (J:List Value→Mem→Prop) (z:List Value) S=>J z S) (fun z=>⟨36,[(0,.int .i64 seats),(1,.int .i64 quota),(4,.pointer (some ⟨b,0,none⟩))]⟩) (fun z=>[⟨b,66,z⟩]) (fun v Sx H1=>an H1 fun hv H2=>csr<|mv E E<|qP E E H2 fun rv Sx_1 H3=>by obtain⟨t,rfl,ht,H4⟩:=H3;exact s_p E (qj E (yY (off:=0) (size:=1) E E (zY (n:=12) E (by decide)) (yY (off:=4) (size:=1) E E (zY (n:=12) (gr (m:=1) E E (by decide)) (by decide)) (yY (off:=7) (size:=4) E ht (zY (n:=12) (gr (m:=1) (gr (m:=1) E E (by decide)) E (by decide)) (by decide)) zcG))))<|by exact by refine qk E fun b_1=>?_;exact an H4 fun c H5=>zl 1 E E E E E (gr (m:=4) (gr (m:=1) (gr (m:=1) E E (by decide)) E (by decide)) ht (by decide)) E c<|nx<|zp H5 (fun (J:List Value→Mem→Prop) (z:List Value) S=>J z S) (fun z=>⟨36,[(4,.pointer (some ⟨b,0,none⟩)),(6,.pointer (some ⟨b_1,0,none⟩))]⟩) (fun z=>[⟨b,66,v⟩,⟨b_1,66,z⟩]) (fun v_1 Sx_2 H6=>an H6 fun hv_1 H7=>csr<|by refine s_v E (qa E hv_1) (zx (k:=12) 1 E (ze hv_1)) ?_;exact an H7 fun c_1 H8=>zl 0 E E E E E hv_1 hv c_1<|gv E E<|nx<|zo<|zn results56 (zr E (zx (k:=12) 0 E (ze hv_1)) hv_1 (zd E zg)) ⟨_,_,E,hv_1,H8⟩) (fun Jx hJx H9=>csr<|mv E E<|mv E E<|nx<|zE<|xM (fun z=>⟨36,[(4,.pointer (some ⟨b,0,none⟩)),(6,.pointer (some ⟨b_1,0,none⟩)),(25,.int .i64 seats),(26,.int .i64 z.1)]⟩) (fun z=>[⟨b,66,v⟩,⟨b_1,66,z.2⟩]) (0,spl (spl (spl ([.bool false,.slice (none) 0 0,.int .i64 0,.slice (none) 0 0,.int .i64 0,.int .u64 0,.slice (none) 0 0,.slice (none) 0 0,.slice (none) 0 0,.slice (none) 0 0,.slice (none) 0 0,.int .u32 0]) 0 [.bool true]) 4 [.int .i64 quota]) 7 t) (idx:=[0,0]) H9 E ⟨E,E,E,E,True.intro⟩ E<|by rintro Xx hXx ⟨t_1,v_2⟩ Sx_3 H10;exact an H10 fun hv_2 H11=>csr<|iteK H11 (fun c_2 H12=>s_p E (yT (zQ E E) c_2)<|nx<|zO<|c_t E E<|yu<|zC<|zO<|zE<|qc (by kernel_rfl)<|a_takeP 0 E (by decide +kernel) (zf (za (za (zf (za zc))))) E (zv E E)<|by exact gx H12 fun t_2 ht_2 H13=>qp 1 E (by decide +kernel) (zf (za (za (zf (za zc))))) E (zF E) (qm 1 E ht_2)<|by exact zH 2 (by decide +kernel) E<|by exact qP E E H13 fun rv Sx_4 H14=>by obtain⟨t_3,rfl,ht_3,H15⟩:=H14;exact zu<|qf (zA (qm 1 E ht_2) zD)<|zH 3 (by decide +kernel) E<|by exact zkR E E (by decide) (zes (size:=26) E ht_3) fun b_2=>zu<|qf (zA (qm 1 E ht_2) zD)<|zH 4 (by decide +kernel) E<|by exact an H15 fun c_3 H16=>zau (sx:=t_2) (vs:=t_3) E E E (zjE 2 E (ze ht_3)) ht_3 c_3 (by decide) H16 fun t_4 Sx_5 H17=>zu<|qf zD<|a_takeP 5 E (by decide +kernel) (zf (za (za (zf (za zc))))) E (zv E E)<|by exact zH 6 (by decide +kernel) E<|by exact qu (sz:=1) (vs:=[eL t_4]) 1 E E E E E E (zY hv_2 (by omega)) E<|zu<|qf zD<|qi (by decide +kernel)<|by exact zX<|zC<|zw<|s_p E (qy E E)<|mv E E<|zu<|hXx (IntKind.i64.wrap (t_1+1),spl v_2 1 ([eL t_4])) _ _ _ _ [0,0] H17 E ⟨E,E,E,E,True.intro⟩ E) fun c_2 H12=>s_p E (yF (zQ E E) c_2)<|nx<|zO<|c_f E E<|yg<|zm<|zm<|zU<|hJx v_2 _ _ _ _ [0,0] H12 E ⟨E,E,True.intro⟩ E)) (fun Jx_1 hJx_1 H18=>csr<|mv E E<|iteK H18 (fun c_4 H19=>s_p E (yT (zQ E E) c_4)<|mv E E<|sk2 E E<|pk E E E<|mv E E<|sk2 E E<|pk E E E<|mv E E<|sk2 E E<|pk E E E<|nx<|c_t E E<|csr<|s_p E (qj E E)<|by exact qu (sz:=12) (vs:=[.bool false,.slice (none) 0 0,.int .i64 0,.slice (none) 0 0,.int .i64 0,.int .u64 0,.slice (none) 0 0,.slice (none) 0 0,.slice (none) 0 0,.slice (none) 0 0,.slice (none) 0 0,.int .u32 0]) 0 E E E E E E (Nat.le_of_ble_eq_true E) E<|gv E E<|nx<|zo<|zb<|zn results56 (zr E (zx (k:=12) 0 E E) E (zd E zg)) ⟨_,_,E,E,H19⟩) fun c_4 H19=>s_p E (yF (zQ E E) c_4)<|mv E E<|mv E E<|iteK H19 (fun c_5 H20=>s_p E (yT (qT E E) c_5)<|pk E E E<|mv E E<|sk2 E E<|pk E E E<|mv E E<|sk2 E E<|pk E E E<|nx<|c_t E E<|csr<|s_p E (qj E E)<|by exact qu (sz:=12) (vs:=[.bool false,.slice (none) 0 0,.int .i64 0,.slice (none) 0 0,.int .i64 0,.int .u64 0,.slice (none) 0 0,.slice (none) 0 0,.slice (none) 0 0,.slice (none) 0 0,.slice (none) 0 0,.int .u32 0]) 0 E E E E E E (Nat.le_of_ble_eq_true E) E<|gv E E<|nx<|zo<|zb<|zn results56 (zr E (zx (k:=12) 0 E E) E (zd E zg)) ⟨_,_,E,E,H20⟩) fun c_5 H20=>s_p E (yF (qT E E) c_5)<|pk E E E<|mv E E<|mv E E<|iteK H20 (fun c_6 H21=>s_p E (yT (zQ E E) c_6)<|pk E E E<|mv E E<|sk2 E E<|pk E E E<|nx<|c_t E E<|csr<|s_p E (qj E E)<|by exact qu (sz:=12) (vs:=[.bool false,.slice (none) 0 0,.int .i64 0,.slice (none) 0 0,.int .i64 0,.int .u64 0,.slice (none) 0 0,.slice (none) 0 0,.slice (none) 0 0,.slice (none) 0 0,.slice (none) 0 0,.int .u32 0]) 0 E E E E E E (Nat.le_of_ble_eq_true E) E<|gv E E<|nx<|zo<|zb<|zn results56 (zr E (zx (k:=12) 0 E E) E (zd E zg)) ⟨_,_,E,E,H21⟩) fun c_6 H21=>s_p E (yF (zQ E E) c_6)<|pk E E E<|mv E E<|mv E E<|iteK H21 (fun c_7 H22=>s_p E (yT (qT E E) c_7)<|pk E E E<|nx<|c_t E E<|csr<|s_p E (qj E E)<|by exact qu (sz:=12) (vs:=[.bool false,.slice (none) 0 0,.int .i64 0,.slice (none) 0 0,.int .i64 0,.int .u64 0,.slice (none) 0 0,.slice (none) 0 0,.slice (none) 0 0,.slice (none) 0 0,.slice (none) 0 0,.int .u32 0]) 0 E E E E E E (Nat.le_of_ble_eq_true E) E<|gv E E<|nx<|zo<|zb<|zn results56 (zr E (zx (k:=12) 0 E E) E (zd E zg)) ⟨_,_,E,E,H22⟩) fun c_7 H22=>s_p E (yF (qT E E) c_7)<|pk E E E<|nx<|cfs E E<|hJx_1 ([.bool false,.slice (none) 0 0,.int .i64 0,.slice (none) 0 0,.int .i64 0,.int .u64 0,.slice (none) 0 0,.slice (none) 0 0,.slice (none) 0 0,.slice (none) 0 0,.slice (none) 0 0,.int .u32 0]) _ _ _ _ [0] H22 E ⟨E,E,E,True.intro⟩ E)
def zbX (S:Mem) (form:Int) (frames:Int) (Q:Pt→Mem→Prop):Prop:=
 zfe S frames fun t Sx=>
 al Sx 127 ([.slice (none) 0 0]) fun b Sx_1=>
 al Sx_1 77 (spl (spl (spl z77 0 [.int .i64 form]) 74 [eP t]) 171 [.pointer (some ⟨b,0,none⟩)]) fun b_1 Sx_2=>
 Q (some (b_1,0)) Sx_2
theorem zis {S:Mem} {form:Int} {frames:Int} {Q:Pt→Mem→Prop} (H:zbX S form frames Q):zcF S form frames Q:=by
 unfold zbX at H
 exact Tr.intro func70 E ntmps70 E fun w0=>go results70 H
def zdy (S:Mem) (Q:List Value→Mem→Prop):Prop:=
 Q ([.int .u64 0,.int .u64 0,.int .u64 0,.int .u64 0,.int .u64 0,.int .u64 0,.int .u64 0,.int .u64 0,.int .u64 0,.int .u64 0,.int .u64 0,.int .u64 0,.int .u64 0,.int .u64 0,.int .u64 0,.int .u64 0,.int .u64 0,.int .u64 0,.int .u64 0,.int .u64 0,.int .u64 0,.int .u64 0,.bool false,.int .u8 0,.int .u32 0,.int .u32 0]) S
theorem zjR {S:Mem} {Q:List Value→Mem→Prop} (H:zdy S Q):zjm S Q:=by
 unfold zdy at H
 exact Tr.intro func116 E ntmps116 E fun w0=>go results116 H
end
section
open Go Go.Pt Go.Proofs.Tryz
attribute [local irreducible] lt WD WN Code.wp Back bodyPost wpList FR WL WC WQ WA AW Tr Yc HC AllC
def jD (S:Mem) (h:Pt) (vm:Int) (b:Int) (Q:Int→Mem→Prop):Prop:=
 jn (fun (Sx:Mem)=>
 nn h fun b_1 o=>
 gP (Sx.cell b_1 (o+3)) fun t=>
 gP (Sx.cell b_1 (o+3)) fun t_1=>
 nn t_1 fun b_2 o_1=>
 0≤vm∧vm<6 ∧
 gL (Sx.cell b_2 (o_1+2+vm.toNat*12+6)) fun t_2=>
 nn t fun b_3 o_2=>
 ap Sx 5 1 1 [.int .u8 0] t_2 1 ([.int .u8 b]) fun t_3 Sx_1=>
 Sx_1.cell b_1 (o+3)=some (.pointer (some ⟨b_2,o_1,none⟩)) ∧
 Sx_1.cell b_1 (o+3)=some (.pointer (some ⟨b_3,o_2,none⟩)) ∧
 0≤vm∧vm<6 ∧
 pt Sx_1 b_3 (o_2+2+vm.toNat*12+6) 1 ([eL t_3]) fun Sx_2=>
 gP (Sx_2.cell b_1 (o+3)) fun t_4=>
 qB Sx_2 t_4 vm 0 fun t_5 Sx_3=>
 gz Sx_3 t_5 6 fun t_6 Sx_4=>
 Q 0 Sx_4) fun Jx=>
 if h=none then
 Q 2 S
 else
 nn h fun b_5 o_3=>
 gP (S.cell b_5 (o_3+3)) fun t_7=>
 qq S t_7 vm fun t_8 Sx_5=>
 if t_8=true then
 gP (Sx_5.cell b_5 (o_3+3)) fun t_9=>
 nn t_9 fun b_6 o_4=>
 0≤vm∧vm<6 ∧
 gL (Sx_5.cell b_6 (o_4+2+vm.toNat*12+6)) fun t_10=>
 if 64≤(t_10.n:Int) then
 Q 3 Sx_5
 else
 Jx Sx_5
 else
 Q 2 Sx_5
theorem zeL {S:Mem} {h:Pt} {vm:Int} {b:Int} {Q:Int→Mem→Prop} (H:jD S h vm b Q):kU S h vm b Q:=by
 unfold jD at H
 exact Tr.intro func33 E ntmps33 E fun w0=>csr<|gv E E<|nx<|zp H (fun (J:Mem→Prop) (z:Unit) S=>J S) (fun z=>⟨61,[(0,eP h),(1,.int .i64 vm),(2,.int .u8 b)]⟩) (fun z=>[]) (fun _ Sx H1=>zO<|qc (by kernel_rfl)<|aTP 0 E (by decide +kernel) E (zt E)<|by exact by obtain⟨b_1,o,rfl,H2⟩:=H1;exact aTP 1 E (by decide +kernel) E (qt E)<|by exact aTP 2 E (by decide +kernel) E (zv E E)<|by exact gx H2 fun t ht H3=>aT 3 E (by decide +kernel) E (zF E) (qh ht)<|by exact aTP 4 E (by decide +kernel) E (zt E)<|by exact aTP 5 E (by decide +kernel) E (zt E)<|by exact aTP 6 E (by decide +kernel) E (qt E)<|by exact aTP 7 E (by decide +kernel) E (zv E E)<|by exact gx H3 fun t_1 ht_1 H4=>aT 8 E (by decide +kernel) E (zF E) (qh ht_1)<|by exact aTP 9 E (by decide +kernel) E (zt E)<|by exact by obtain⟨b_2,o_1,rfl,H5⟩:=H4;exact aTP 10 E (by decide +kernel) E (qt E)<|by exact aTP 11 E (by decide +kernel) E (zv E E)<|by exact an2 H5 fun c c_1 H6=>aTP 12 E (by decide +kernel) E (qb E E c c_1 E)<|by exact aTP 13 E (by decide +kernel) E (zv E E)<|by exact gx H6 fun t_2 ht_2 H7=>aT 14 E (by decide +kernel) E (zF E) (qh ht_2)<|by exact aTP 15 E (by decide +kernel) E (zt E)<|by exact by obtain⟨b_3,o_2,rfl,H8⟩:=H7;exact aTP 18 E (by decide +kernel) E (qt E)<|by exact aTP 19 E (by decide +kernel) E (zv E E)<|by exact zH 16 (by decide +kernel) E<|by exact zkR E E (by decide) E fun b_4=>zu<|qf (zA (qh ht_2) (zA (qh ht_1) (zA (qh ht) zD)))<|zH 17 (by decide +kernel) E<|by exact zau (sx:=t_2) (vs:=[.int .u8 b]) E E E (zjE 0 E E) E E (by decide) H8 fun t_3 Sx_1 H9=>by obtain⟨k,H10⟩:=H9;exact by obtain⟨k_1,H11⟩:=H10;exact zu<|qf (zA (qh k) (zA (qh k_1) zD))<|an2 H11 fun c_2 c_3 H12=>aTP 20 E (by decide +kernel) E (qb E E c_2 c_3 E)<|by exact aTP 21 E (by decide +kernel) E (zv E E)<|by exact zH 22 (by decide +kernel) E<|by exact an H12 fun c_4 H13=>qY E E E E E c_4 E<|zu<|qf zD<|qi (by decide +kernel)<|by exact zC<|csr<|mv E E<|s_p E (qt E)<|s_p E (zv E E)<|gx H13 fun t_4 ht_4 H14=>s_v E (zF E) (qh ht_4)<|mv E E<|vv E E H14 fun t_5 Sx_3 H15=>vv E E H15 fun t_6 Sx_4 H16=>nxr<|gv E E<|nx<|zo<|zn results33 (zd E zg) ⟨_,E,H16⟩) (fun Jx hJx H17=>zE<|csr<|mv E E<|iteK H17 (fun c_5 H18=>s_p E (yT (wb (p:=h) E E) c_5)<|mv E E<|sk4 E E E E<|sk2 E E<|zG E<|pk E E E<|gv E E<|nx<|c_t E E<|csr<|gv E E<|nx<|zo<|zh<|zb<|zn results33 (zd E zg) ⟨_,E,H18⟩) fun c_5 H18=>s_p E (yF (wb (p:=h) E E) c_5)<|mv E E<|mv E E<|by obtain⟨b_5,o_3,rfl,H19⟩:=H18;exact s_p E (qt E)<|s_p E (zv E E)<|gx H19 fun t_7 ht_7 H20=>s_v E (zF E) (qh ht_7)<|mv E E<|vv E E H20 fun t_8 Sx_5 H21=>by have H22:=zbG H21;rcases H22 with ⟨rfl,H23⟩ | ⟨rfl,H23⟩;exact (s_p E (yB (qC E) E)<|pk E E E<|gv E E<|nx<|c_f E E<|csr<|mv E E<|s_p E (qt E)<|s_p E (zv E E)<|gx H23 fun t_9 ht_9 H24=>s_v E (zF E) (qh ht_9)<|mv E E<|by obtain⟨b_6,o_4,rfl,H25⟩:=H24;exact s_p E (qt E)<|s_p E (zv E E)<|an2 H25 fun c_6 c_7 H26=>s_p E (qb E E c_6 c_7 E)<|s_p E (zv E E)<|gx H26 fun t_10 ht_10 H27=>s_v E (zF E) (qh ht_10)<|s_p E (vX E)<|iteK H27 (fun c_8 H28=>s_p E (yT (wP E E) c_8)<|gv E E<|nx<|c_t E E<|csr<|gv E E<|nx<|zo<|zh<|zb<|zn results33 (zd E zg) ⟨_,E,H28⟩) fun c_8 H28=>s_p E (yF (wP E E) c_8)<|gv E E<|nx<|cfs E E<|zX<|hJx () _ _ _ _ [] H28 E ⟨E,E,E,True.intro⟩ E);exact (s_p E (yB (qC E) E)<|pk E E E<|gv E E<|nx<|c_t E E<|csr<|gv E E<|nx<|zo<|zh<|zb<|zn results33 (zd E zg) ⟨_,E,H23⟩))
def jC (S:Mem) (h:Pt) (vm:Int) (n:Int) (Q:Int→Mem→Prop):Prop:=
 jn (fun (Sx:Mem)=>
 nn h fun b o=>
 gP (Sx.cell b (o+3)) fun t=>
 qB Sx t vm n fun t_1 Sx_1=>
 nn t_1 fun b_1 o_1=>
 gI (Sx_1.cell b_1 (o_1+16)) .u64 fun t_2=>
 gP (Sx_1.cell b (o+3)) fun t_3=>
 km Sx_1 t_3 vm fun t_4 Sx_2=>
 zhd Sx_2 (some (b_1,o_1)) (.iface 173 (valL ([.pointer (some ⟨b,o,none⟩),.int .i64 vm]))) t_4 n fun t_5 Sx_3=>
 t_5.all (·.oneCell')=true ∧
 jn (fun (Sx_4:Mem)=>
 gA (Sx_4.part b_1 o_1 26) fun t_6=>
 zfx Sx_4 t_5 n t_2 t_6 fun t_7 Sx_5=>
 xd Sx_5 (some (b,o)) vm t_7 fun Sx_6=>
 gI (nthL t_5 0) .u8 fun t_8=>
 if t_8=2 then
 gI (nthL t_5 1) .u64 fun t_9=>
 gc Sx_6 (some (b,o)) vm n t_9 fun Sx_7=>
 Q 0 Sx_7
 else
 Q 0 Sx_6) fun Jx=>
 gI (nthL t_5 0) .u8 fun t_10=>
 if t_10=5 then
 Q 10 Sx_3
 else
 Jx Sx_3) fun Jx_1=>
 if h=none then
 Q 2 S
 else
 nn h fun b_3 o_2=>
 gP (S.cell b_3 (o_2+3)) fun t_11=>
 qB S t_11 vm n fun t_12 Sx_8=>
 if t_12=none then
 Q 2 Sx_8
 else
 Jx_1 Sx_8
theorem zeK {S:Mem} {h:Pt} {vm:Int} {n:Int} {Q:Int→Mem→Prop} (H:jC S h vm n Q):yK S h vm n Q:=by
 unfold jC at H
 have:=dj (α:=Unit) 9 [0,1,2,7,8,9] (fun _=>[]) (fun _=>[(0,none)])
 have:=dj1 4 [0,1,2]
 exact Tr.intro func31 E ntmps31 E fun w0=>go results31 H
def vh (S:Mem) (h:Pt) (vm:Int) (n:Int) (atx:Int) (Q:Int→Mem→Prop):Prop:=
 nn h fun b o=>
 gP (S.cell b (o+3)) fun t=>
 nn t fun b_1 o_1=>
 gA (S.part b_1 (o_1+75) 96) fun t_1=>
 vC S t_1 n vm atx fun t_2 t_3 Sx=>
 t_2.all (·.oneCell')=true ∧
 jn (fun (Sx_1:Mem)=>
 jn (fun (Sx_2:Mem)=>
 gP (Sx_2.cell b (o+3)) fun t_4=>
 0≤n∧n<16 ∧
 gI (nthL t_2 (0+n.toNat*6+1)) .i64 fun t_5=>
 nn t_4 fun b_3 o_2=>
 0≤t_5∧t_5<6 ∧
 gA (Sx_2.part b_3 (o_2+2+t_5.toNat*12+2) 2) fun t_6=>
 gP (Sx_2.cell b o) fun t_7=>
 0≤n∧n<16 ∧
 gI (nthL t_2 (0+n.toNat*6+2)) .i64 fun t_8=>
 qv Sx_2 t_6 t_7 t_8 fun t_9 t_10 Sx_3=>
 Sx_3.cell b (o+3)=some (.pointer (some ⟨b_3,o_2,none⟩)) ∧
 t_9.all (·.oneCell')=true ∧
 gP (Sx_3.cell b (o+3)) fun t_11=>
 nn t_11 fun b_5 o_3=>
 t_2.all (·.oneCell')=true ∧
 pt Sx_3 b_5 (o_3+75) 96 t_2 fun Sx_4=>
 gI (nthL t_9 1) .i64 fun t_12=>
 0≤n∧n<16 ∧
 gB (nthL t_2 (0+n.toNat*6+4)) fun t_13=>
 wX Sx_4 (some (b,o)) vm atx t_12 t_13 fun Sx_5=>
 Q 0 Sx_5) fun Jx=>
 gP (Sx_1.cell b (o+3)) fun t_14=>
 nn t_14 fun b_6 o_4=>
 0≤vm∧vm<6 ∧
 gA (Sx_1.part b_6 (o_4+2+vm.toNat*12+2) 2) fun t_15=>
 gP (Sx_1.cell b o) fun t_16=>
 qv Sx_1 t_15 t_16 atx fun t_17 t_18 Sx_6=>
 Sx_6.cell b (o+3)=some (.pointer (some ⟨b_6,o_4,none⟩)) ∧
 t_17.all (·.oneCell')=true ∧
 if t_18=0 then
 Q 8 Sx_6
 else
 Jx Sx_6) fun Jx_1=>
 if t_3≠0 then
 Q t_3 Sx
 else
 Jx_1 Sx
theorem zcm {S:Mem} {h:Pt} {vm:Int} {n:Int} {atx:Int} {Q:Int→Mem→Prop} (H:vh S h vm n atx Q):kn S h vm n atx Q:=by
 unfold vh at H
 have:=dj (α:=Unit) 8 [0,1,2,3,9] (fun _=>[]) (fun _=>[(0,none)])
 have:=dj (α:=Unit) 5 [0,1,2,3,9] (fun _=>[]) (fun _=>[(0,none)])
 exact Tr.intro func207 E ntmps207 E fun w0=>go results207 H
def kL (S:Mem) (h:Pt) (vm:Int) (n:Int) (k:Int) (Q:Mem→Prop):Prop:=
 nn h fun b o=>
 gP (S.cell b (o+3)) fun t=>
 qB S t vm n fun t_1 Sx=>
 nn t_1 fun b_1 o_1=>
 gI (Sx.cell b_1 (o_1+1)) .u64 fun t_2=>
 gI (Sx.cell b_1 (o_1+2)) .u64 fun t_3=>
 gI (Sx.cell b_1 (o_1+3)) .u64 fun t_4=>
 zba Sx t_3 fun t_5 Sx_1=>
 Sx_1.cell b_1 (o_1+3)=some (.int .u64 t_4) ∧
 Sx_1.cell b_1 (o_1+1)=some (.int .u64 t_2) ∧
 zaC Sx_1 (some (b,o)) vm n k t_2 t_5 (decide (t_4≠0)) fun t_6 t_7 Sx_2=>
 pt Sx_2 b_1 o_1 1 ([.int .u64 (IntKind.u64.wrap t_7)]) fun Sx_3=>
 pt Sx_3 b_1 (o_1+1) 1 ([.int .u64 t_6]) fun Sx_4=>
 xd Sx_4 (some (b,o)) vm ([.int .u8 2,.int .i64 n,.int .u64 (ior .u64 (ishl .u64 k 8) (IntKind.u64.wrap t_7)),.int .u64 t_6]) fun Sx_5=>
 Q Sx_5
theorem zeg {S:Mem} {h:Pt} {vm:Int} {n:Int} {k:Int} {Q:Mem→Prop} (H:kL S h vm n k Q):gc S h vm n k Q:=by
 unfold kL at H
 exact Tr.intro func80 E ntmps80 E fun w0=>go results80 H
def ge (S:Mem) (h:Pt) (vm:Int) (n:Int) (k:Int) (w:Int) (b:Int) (write:Bool) (Q:Int→Int→Mem→Prop):Prop:=
 zba S w fun t Sx=>
 nn h fun b_1 o=>
 gP (Sx.cell b_1 (o+3)) fun t_1=>
 nn t_1 fun b_2 o_1=>
 0≤vm∧vm<6 ∧
 jn (fun (Sx_1:Mem)=>
 Q 0 0 Sx_1) fun Jx=>
 if k=0 then
 xd Sx (some (b_1,o)) vm ([.int .u8 3,.int .i64 n,.int .u64 (iand .u64 w 255),.int .u64 0]) fun Sx_2=>
 Jx Sx_2
 else
 if k=1 then
 jn (fun (Sx_3:Mem)=>
 gL (Sx_3.cell b_2 (o_1+2+vm.toNat*12+6)) fun t_2=>
 sl t_2 fun b_3 o_2 n_1 n_2=>
 (0:Int)<(n_1:Nat) ∧
 gI (Sx_3.cell b_3 o_2) .u8 fun t_3=>
 gL (Sx_3.cell b_2 (o_1+2+vm.toNat*12+6)) fun t_4=>
 (0:Int)≤1∧(1:Int)≤(t_4.n:Int)∧(t_4.n:Int)≤(t_4.c:Int) ∧
 lt (slc 1 t_4 1 (t_4.n:Int)) fun t_5=>
 sp Sx_3 t_5 1 fun vs=>
 ap Sx_3 5 1 1 [.int .u8 0] (⟨none,0,0⟩) t_5.n vs fun t_6 Sx_4=>
 pt Sx_4 b_2 (o_1+2+vm.toNat*12+6) 1 ([eL t_6]) fun Sx_5=>
 Q (IntKind.u64.wrap t_3) 0 Sx_5) fun Jx_1=>
 gL (Sx.cell b_2 (o_1+2+vm.toNat*12+6)) fun t_7=>
 if (t_7.n:Int)=0 then
 Q 0 2 Sx
 else
 Jx_1 Sx
 else
 if k=2 then
 jZ Sx (some (b_1,o)) vm t b fun t_8 Sx_6=>
 Q 0 t_8 Sx_6
 else
 if k=3 then
 gP (Sx.cell b_1 (o+3)) fun t_9=>
 nn t_9 fun b_4 o_3=>
 gP (Sx.cell b_4 (o_3+171)) fun t_10=>
 gI (Sx.cell b_2 (o_1+2+vm.toNat*12+5)) .u64 fun t_11=>
 vt Sx t_10 vm n (IntKind.u64.wrap (w+(if ineg .u64 w<t_11 then ineg .u64 w else t_11))) fun t_12 Sx_7=>
 Sx_7.cell b_2 (o_1+2+vm.toNat*12+5)=some (.int .u64 t_11) ∧
 Sx_7.cell b_1 (o+3)=some (.pointer (some ⟨b_4,o_3,none⟩)) ∧
 Jx Sx_7
 else
 if k=4 then
 jm Sx (some (b_1,o)) vm t b write fun t_13 t_14 Sx_8=>
 Q t_13 t_14 Sx_8
 else
 if k=5 then
 kn Sx (some (b_1,o)) vm t b fun t_15 Sx_9=>
 Q 0 t_15 Sx_9
 else
 if k=6 then
 jp Sx (some (b_1,o)) vm t fun t_16 Sx_10=>
 Q 0 t_16 Sx_10
 else
 if k=7 then
 wW Sx (some (b_1,o)) vm t fun t_17 Sx_11=>
 Q 0 t_17 Sx_11
 else
 if k=8 then
 gb Sx (some (b_1,o)) vm t fun t_18 Sx_12=>
 Q 0 t_18 Sx_12
 else
 if k=9 then
 fo Sx (some (b_1,o)) vm t fun t_19 Sx_13=>
 Q 0 t_19 Sx_13
 else
 if k=10 then
 ga Sx (some (b_1,o)) vm t b fun t_20 Sx_14=>
 Q 0 t_20 Sx_14
 else
 if k=11 then
 jY Sx (some (b_1,o)) vm t b fun t_21 Sx_15=>
 Q 0 t_21 Sx_15
 else
 if k=12 then
 Q (IntKind.u64.wrap vm) 0 Sx
 else
 if k=13 then
 gP (Sx.cell b_1 (o+3)) fun t_22=>
 qB Sx t_22 vm n fun t_23 Sx_16=>
 nn t_23 fun b_5 o_4=>
 pt Sx_16 b_5 (o_4+23) 1 ([.int .u8 2]) fun Sx_17=>
 Jx Sx_17
 else
 Q 0 1 Sx
theorem zfH {S:Mem} {h:Pt} {vm:Int} {n:Int} {k:Int} {w:Int} {b:Int} {write:Bool} {Q:Int→Int→Mem→Prop} (H:ge S h vm n k w b write Q):zaC S h vm n k w b write Q:=by
 unfold ge at H
 exact Tr.intro func144 E ntmps144 E fun w0=>csr<|gv E E<|gv E E<|nxr<|mv E E<|vv E E H fun t Sx H1=>gv E E<|nxr<|mv E E<|by obtain⟨b_1,o,rfl,H2⟩:=H1;exact s_p E (qt E)<|s_p E (zv E E)<|gx H2 fun t_1 ht_1 H3=>s_v E (zF E) (qh ht_1)<|mv E E<|by obtain⟨b_2,o_1,rfl,H4⟩:=H3;exact s_p E (qt E)<|s_p E (zv E E)<|an2 H4 fun c c_1 H5=>s_p E (qb E E c c_1 E)<|gv E E<|nx<|zp H5 (fun (J:Mem→Prop) (z:Unit) S=>J S) (fun z=>⟨162,[]⟩) (fun z=>[]) (fun _ Sx_1 H6=>csr<|gv E E<|gv E E<|nx<|zo<|zn results144 (zd E (zd E zg)) ⟨_,_,E,H6⟩) (fun Jx hJx H7=>csr<|mv E E<|nx<|zE<|csr<|iteK H7 (fun c_2 H8=>ceT E E E (c_2)<|gv E E<|nx<|ctr E E<|mv E E<|mv E E<|mv E E<|mv E E<|s_p E (zjL E E)<|s_p E (qj E E)<|by exact zls E E H8 fun Sx_2 H9=>zu<|zX<|hJx () _ _ _ _ [] H9 E True.intro E) fun c_2 H8=>ceF E E E (c_2)<|gv E E<|nx<|c_f E E<|csr<|iteK H8 (fun c_3 H10=>ceT E E E (c_3)<|gv E E<|nx<|c_t E E<|zp H10 (fun (J:Mem→Prop) (z:Unit) S=>J S) (fun z=>⟨162,[(17,.pointer (some ⟨b_2,o_1+2+vm.toNat*12,none⟩))]⟩) (fun z=>[]) (fun _ Sx_3 H11=>csr<|mv E E<|s_p E (qt E)<|s_p E (zv E E)<|gx H11 fun t_2 ht_2 H12=>s_v E (zF E) (qh ht_2)<|by obtain⟨b_3,o_2,n_1,n_2,rfl,H13⟩:=H12;exact an H13 fun c_5 H14=>s_p E (vx E E (by decide) c_5 E)<|gx H14 fun t_3 ht_3 H15=>s_v E (zF E) (qh ht_3)<|gv E E<|nxr<|mv E E<|mv E E<|s_p E (qt E)<|s_p E (zv E E)<|gx H15 fun t_4 ht_4 H16=>s_v E (zF E) (qh ht_4)<|an3 H16 fun c_6 c_7 c_8 H17=>by obtain⟨t_5,et_5,H18⟩:=zkT H17;exact s_p E (eqv (zdP (a:=1) (b:=(t_4.n:Int)) E E E c_6 c_7 c_8) (congrArg eL et_5))<|by obtain⟨vs,h_1,c_9,H19⟩:=H18;exact zau (sx:=⟨none,0,0⟩) (vs:=vs) E E E ((fj h_1).1) ((fj (P:=prog) (w0:=w0) (S0:=S) (V:=[]) h_1).2) c_9 (by decide) H19 fun t_6 Sx_4 H20=>s_p E (qt E)<|s_p E (zv E E)<|an H20 fun c_10 H21=>qY E E E E E c_10 E<|nxr<|mv E E<|s_p E (qJ ⟨_,underlying5⟩ E)<|gv E E<|gv E E<|nx<|zo<|zh<|zb<|zn results144 (zd E (zd E zg)) ⟨_,_,E,H21⟩) (fun Jx_1 hJx_1 H22=>csr<|mv E E<|s_p E (qt E)<|s_p E (zv E E)<|gx H22 fun t_7 ht_7 H23=>s_v E (zF E) (qh ht_7)<|s_p E (vX E)<|iteK H23 (fun c_11 H24=>ceT E E E (c_11)<|nx<|c_t E E<|csr<|gv E E<|gv E E<|nx<|zo<|zb<|zh<|zb<|zn results144 (zd E (zd E zg)) ⟨_,_,E,H24⟩) fun c_11 H24=>ceF E E E (c_11)<|nx<|cfs E E<|hJx_1 () _ _ _ _ [] H24 E ⟨E,True.intro⟩ E)) fun c_3 H10=>ceF E E E (c_3)<|gv E E<|nx<|c_f E E<|csr<|iteK H10 (fun c_12 H25=>ceT E E E (c_12)<|gv E E<|nx<|c_t E E<|csr<|mv E E<|mv E E<|mv E E<|mv E E<|vv E E H25 fun t_8 Sx_6 H26=>gv E E<|gv E E<|nx<|zo<|zh<|zb<|zn results144 (zd E (zd E zg)) ⟨_,_,E,H26⟩) fun c_12 H25=>ceF E E E (c_12)<|gv E E<|nx<|c_f E E<|csr<|iteK H25 (fun c_13 H27=>ceT E E E (c_13)<|gv E E<|nx<|c_t E E<|qc (by kernel_rfl)<|a_takeP 0 E (by decide +kernel) (zf (za zc)) E (zt E)<|by exact a_takeP 1 E (by decide +kernel) (zf (za zc)) E (qt E)<|by exact a_takeP 2 E (by decide +kernel) (zf (za zc)) E (zv E E)<|by exact gx H27 fun t_9 ht_9 H28=>qp 3 E (by decide +kernel) (zf (za zc)) E (zF E) (qh ht_9)<|by exact by obtain⟨b_4,o_3,rfl,H29⟩:=H28;exact a_takeP 4 E (by decide +kernel) (zf (za zc)) E (qt E)<|by exact a_takeP 5 E (by decide +kernel) (zf (za zc)) E (zv E E)<|by exact gx H29 fun t_10 ht_10 H30=>qp 6 E (by decide +kernel) (zf (za zc)) E (zF E) (qh ht_10)<|by exact a_takeP 7 E (by decide +kernel) (zf (za zc)) E (zt E)<|by exact a_takeP 8 E (by decide +kernel) (zf (za zc)) E (zt E)<|by exact a_takeP 9 E (by decide +kernel) (zf (za zc)) E (zt E)<|by exact a_takeP 10 E (by decide +kernel) (zf (za zc)) E (zt E)<|by exact a_takeP 11 E (by decide +kernel) (zf (za zc)) E (qt E)<|by exact a_takeP 12 E (by decide +kernel) (zf (za zc)) E (zv E E)<|by exact gx H30 fun t_11 ht_11 H31=>qp 13 E (by decide +kernel) (zf (za zc)) E (zF E) (qh ht_11)<|by exact a_takeP 14 E (by decide +kernel) (zf (za zc)) E (zt E)<|by exact a_takeP 15 E (by decide +kernel) (zf (za zc)) E (zpW E)<|by exact a_takeP 16 E (by decide +kernel) (zf (za zc)) E (zod E E)<|by exact a_takeP 17 E (by decide +kernel) (zf (za zc)) E (qy E E)<|by exact zH 18 (by decide +kernel) E<|by exact vv E E H31 fun t_12 Sx_7 H32=>by obtain⟨k_1,H33⟩:=H32;exact by obtain⟨k_2,H34⟩:=H33;exact zu<|qf (zA (qh k_1) (zA (qh k_2) zD))<|qi (by decide +kernel)<|by exact zX<|hJx () _ _ _ _ [] H34 E True.intro E) fun c_13 H27=>ceF E E E (c_13)<|gv E E<|nx<|c_f E E<|csr<|iteK H27 (fun c_14 H35=>ceT E E E (c_14)<|gv E E<|nx<|c_t E E<|zO<|by exact zw<|mv E E<|mv E E<|mv E E<|mv E E<|mv E E<|zhi E E H35 fun t_13 t_14 Sx_8 H36=>s_p E (zj E E)<|s_p E (zj E E)<|gv E E<|gv E E<|nx<|zo<|zh<|zb<|zn results144 (zd E (zd E zg)) ⟨_,_,E,H36⟩) fun c_14 H35=>ceF E E E (c_14)<|gv E E<|nx<|c_f E E<|zO<|by exact zw<|iteK H35 (fun c_15 H37=>ceT E E E (c_15)<|gv E E<|nx<|c_t E E<|csr<|mv E E<|mv E E<|mv E E<|mv E E<|vv E E H37 fun t_15 Sx_9 H38=>gv E E<|gv E E<|nx<|zo<|zh<|zb<|zn results144 (zd E (zd E zg)) ⟨_,_,E,H38⟩) fun c_15 H37=>ceF E E E (c_15)<|gv E E<|nx<|c_f E E<|csr<|iteK H37 (fun c_16 H39=>ceT E E E (c_16)<|gv E E<|nx<|c_t E E<|csr<|mv E E<|mv E E<|mv E E<|vv E E H39 fun t_16 Sx_10 H40=>gv E E<|gv E E<|nx<|zo<|zh<|zb<|zn results144 (zd E (zd E zg)) ⟨_,_,E,H40⟩) fun c_16 H39=>ceF E E E (c_16)<|gv E E<|nx<|c_f E E<|csr<|iteK H39 (fun c_17 H41=>ceT E E E (c_17)<|gv E E<|nx<|c_t E E<|csr<|mv E E<|mv E E<|mv E E<|vv E E H41 fun t_17 Sx_11 H42=>gv E E<|gv E E<|nx<|zo<|zh<|zb<|zn results144 (zd E (zd E zg)) ⟨_,_,E,H42⟩) fun c_17 H41=>ceF E E E (c_17)<|gv E E<|nx<|c_f E E<|csr<|iteK H41 (fun c_18 H43=>ceT E E E (c_18)<|gv E E<|nx<|c_t E E<|csr<|mv E E<|mv E E<|mv E E<|vv E E H43 fun t_18 Sx_12 H44=>gv E E<|gv E E<|nx<|zo<|zh<|zb<|zn results144 (zd E (zd E zg)) ⟨_,_,E,H44⟩) fun c_18 H43=>ceF E E E (c_18)<|gv E E<|nx<|c_f E E<|csr<|iteK H43 (fun c_19 H45=>ceT E E E (c_19)<|gv E E<|nx<|c_t E E<|csr<|mv E E<|mv E E<|mv E E<|vv E E H45 fun t_19 Sx_13 H46=>gv E E<|gv E E<|nx<|zo<|zh<|zb<|zn results144 (zd E (zd E zg)) ⟨_,_,E,H46⟩) fun c_19 H45=>ceF E E E (c_19)<|gv E E<|nx<|c_f E E<|csr<|iteK H45 (fun c_20 H47=>ceT E E E (c_20)<|gv E E<|nx<|c_t E E<|csr<|mv E E<|mv E E<|mv E E<|mv E E<|vv E E H47 fun t_20 Sx_14 H48=>gv E E<|by exact gv E E<|nx<|zo<|zh<|zb<|zn results144 (zd E (zd E zg)) ⟨_,_,E,H48⟩) fun c_20 H47=>ceF E E E (c_20)<|gv E E<|nx<|c_f E E<|csr<|iteK H47 (fun c_21 H49=>ceT E E E (c_21)<|gv E E<|nx<|c_t E E<|zO<|by exact zw<|mv E E<|mv E E<|mv E E<|mv E E<|vv E E H49 fun t_21 Sx_15 H50=>gv E E<|gv E E<|nx<|zo<|zh<|zb<|zn results144 (zd E (zd E zg)) ⟨_,_,E,H50⟩) fun c_21 H49=>ceF E E E (c_21)<|gv E E<|nx<|c_f E E<|zO<|by exact zw<|iteK H49 (fun c_22 H51=>ceT E E E (c_22)<|gv E E<|nx<|c_t E E<|csr<|mv E E<|s_p E (qJ ⟨_,underlying3⟩ E)<|gv E E<|gv E E<|nx<|zo<|zh<|zb<|zn results144 (zd E (zd E zg)) ⟨_,_,E,H51⟩) fun c_22 H51=>ceF E E E (c_22)<|gv E E<|nx<|c_f E E<|csr<|iteK H51 (fun c_23 H52=>ceT E E E (c_23)<|gv E E<|nx<|ctr E E<|mv E E<|s_p E (qt E)<|s_p E (zv E E)<|gx H52 fun t_22 ht_22 H53=>s_v E (zF E) (qh ht_22)<|mv E E<|mv E E<|vv E E H53 fun t_23 Sx_16 H54=>by obtain⟨b_5,o_4,rfl,H55⟩:=H54;exact s_p E (qt E)<|s_p E (zv E E)<|an H55 fun c_24 H56=>qY E E E E E c_24 E<|zu<|zX<|hJx () _ _ _ _ [] H56 E True.intro E) fun c_23 H52=>ceF E E E (c_23)<|gv E E<|nx<|c_f E E<|csr<|gv E E<|gv E E<|nx<|zo<|zh<|zb<|zn results144 (zd E (zd E zg)) ⟨_,_,E,H52⟩)
def jB (S:Mem) (h:Pt) (vm:Int) (page:Int) (Q:Int→Mem→Prop):Prop:=
 jn (fun (Sx:Mem)=>
 jn (fun (Sx_1:Mem)=>
 jn (fun (Sx_2:Mem)=>
 nn h fun b o=>
 gP (Sx_2.cell b (o+1)) fun t=>
 vT Sx_2 t fun t_1 t_2 Sx_3=>
 if t_2≠0 then
 Q t_2 Sx_3
 else
 crab_Crab_own Sx_3 (some (b,o)) vm page t_1 fun Sx_4=>
 Q 0 Sx_4) fun Jx=>
 nn h fun b_1 o_1=>
 gP (Sx_1.cell b_1 (o_1+3)) fun t_3=>
 nn t_3 fun b_2 o_2=>
 0≤vm∧vm<6 ∧
 gI (Sx_1.cell b_2 (o_2+2+vm.toNat*12+4)) .i64 fun t_4=>
 xK Sx_1 (some (b_1,o_1)) vm fun t_5 Sx_5=>
 Sx_5.cell b_2 (o_2+2+vm.toNat*12+4)=some (.int .i64 t_4) ∧
 Sx_5.cell b_1 (o_1+3)=some (.pointer (some ⟨b_2,o_2,none⟩)) ∧
 if t_4≤t_5 then
 Q 9 Sx_5
 else
 Jx Sx_5) fun Jx_1=>
 nn h fun b_3 o_3=>
 gP (Sx.cell b_3 (o_3+3)) fun t_6=>
 nn t_6 fun b_4 o_4=>
 0≤vm∧vm<6 ∧
 gA (Sx.part b_4 (o_4+2+vm.toNat*12+2) 2) fun t_7=>
 gP (Sx.cell b_3 o_3) fun t_8=>
 qv Sx t_7 t_8 page fun t_9 t_10 Sx_6=>
 Sx_6.cell b_3 (o_3+3)=some (.pointer (some ⟨b_4,o_4,none⟩)) ∧
 t_9.all (·.oneCell')=true ∧
 if t_10=0 then
 Q 8 Sx_6
 else
 Jx_1 Sx_6) fun Jx_2=>
 if page<0 then
 Q 1 S
 else
 if 32≤page then
 Q 1 S
 else
 Jx_2 S
theorem zeJ {S:Mem} {h:Pt} {vm:Int} {page:Int} {Q:Int→Mem→Prop} (H:jB S h vm page Q):fo S h vm page Q:=by
 unfold jB at H
 have:=dj1 9 [0,1,2]
 have:=dj1 7 [0,1,2]
 have:=dj1 4 [0,1,2]
 exact Tr.intro func211 E ntmps211 E fun w0=>go results211 H
def kK (S:Mem) (h:Pt) (vm:Int) (page:Int) (Q:Int→Mem→Prop):Prop:=
 vW S h vm page fun t t_1 Sx=>
 jn (fun (Sx_1:Mem)=>
 xJ Sx_1 h vm page fun Sx_2=>
 nn h fun b o=>
 gP (Sx_2.cell b (o+3)) fun t_2=>
 nn t_2 fun b_1 o_1=>
 gP (Sx_2.cell b_1 (o_1+74)) fun t_3=>
 wR Sx_2 t_3 t vm fun t_4 Sx_3=>
 gP (Sx_3.cell b (o+1)) fun t_5=>
 vU Sx_3 t_5 t fun t_6 Sx_4=>
 Q t_6 Sx_4) fun Jx=>
 if t_1≠0 then
 Q t_1 Sx
 else
 nn h fun b_2 o_2=>
 gP (Sx.cell b_2 (o_2+3)) fun t_7=>
 nn t_7 fun b_3 o_3=>
 gA (Sx.part b_3 (o_3+75) 96) fun t_8=>
 jf Sx t_8 vm page fun t_9 Sx_5=>
 if t_9=true then
 Q 8 Sx_5
 else
 Jx Sx_5
theorem zef {S:Mem} {h:Pt} {vm:Int} {page:Int} {Q:Int→Mem→Prop} (H:kK S h vm page Q):gb S h vm page Q:=by
 unfold kK at H
 have:=dj1 7 [0,1,2,7]
 exact Tr.intro func210 E ntmps210 E fun w0=>go results210 H
def vO (S:Mem) (h:Pt) (vm:Int) (n:Int) (Q:Int→Mem→Prop):Prop:=
 nn h fun b o=>
 gP (S.cell b (o+3)) fun t=>
 nn t fun b_1 o_1=>
 gA (S.part b_1 (o_1+75) 96) fun t_1=>
 yi S t_1 n fun t_2 t_3 Sx=>
 t_2.all (·.oneCell')=true ∧
 gP (Sx.cell b (o+3)) fun t_4=>
 nn t_4 fun b_3 o_2=>
 gA (Sx.part b_3 (o_2+75) 96) fun t_5=>
 wC Sx t_5 n vm fun t_6 t_7 Sx_1=>
 t_6.all (·.oneCell')=true ∧
 jn (fun (Sx_2:Mem)=>
 gP (Sx_2.cell b (o+3)) fun t_8=>
 nn t_8 fun b_5 o_3=>
 t_6.all (·.oneCell')=true ∧
 pt Sx_2 b_5 (o_3+75) 96 t_6 fun Sx_3=>
 gI (nthL t_2 5) .i64 fun t_9=>
 xJ Sx_3 (some (b,o)) vm t_9 fun Sx_4=>
 Q 0 Sx_4) fun Jx=>
 if t_7≠0 then
 Q t_7 Sx_1
 else
 Jx Sx_1
theorem zcX {S:Mem} {h:Pt} {vm:Int} {n:Int} {Q:Int→Mem→Prop} (H:vO S h vm n Q):jp S h vm n Q:=by
 unfold vO at H
 have:=dj (α:=Unit) 6 [0,1,7,9] (fun _=>[]) (fun _=>[(0,none),(1,none)])
 exact Tr.intro func208 E ntmps208 E fun w0=>go results208 H
def kJ (S:Mem) (h:Pt) (vm:Int) (sector:Int) (page:Int) (Q:Int→Mem→Prop):Prop:=
 jn (fun (Sx:Mem)=>
 nn h fun b o=>
 gP (Sx.cell b (o+3)) fun t=>
 nn t fun b_1 o_1=>
 0≤vm∧vm<6 ∧
 0≤sector∧sector<4 ∧
 gL (Sx.cell b_1 (o_1+2+vm.toNat*12+7+sector.toNat*1)) fun t_1=>
 fk Sx ([.pointer (some ⟨b,o,none⟩),.int .i64 vm]) page 0 t_1 fun t_2 Sx_1=>
 if t_2≠0 then
 Q 11 Sx_1
 else
 Q 0 Sx_1) fun Jx=>
 if sector<0 then
 Q 1 S
 else
 if 4≤sector then
 Q 1 S
 else
 Jx S
theorem zee {S:Mem} {h:Pt} {vm:Int} {sector:Int} {page:Int} {Q:Int→Mem→Prop} (H:kJ S h vm sector page Q):ga S h vm sector page Q:=by
 unfold kJ at H
 have:=dj1 4 [0,1,2,3]
 exact Tr.intro func212 E ntmps212 E fun w0=>go results212 H
def vN (S:Mem) (h:Pt) (vm:Int) (page:Int) (to:Int) (write:Bool) (Q:Int→Int→Mem→Prop):Prop:=
 vW S h vm page fun t t_1 Sx=>
 jn (fun (Sx_1:Mem)=>
 nn h fun b o=>
 gP (Sx_1.cell b (o+3)) fun t_2=>
 nn t_2 fun b_1 o_1=>
 gA (Sx_1.part b_1 (o_1+75) 96) fun t_3=>
 kj Sx_1 t_3 vm page to write fun t_4 t_5 t_6 Sx_2=>
 t_4.all (·.oneCell')=true ∧
 jn (fun (Sx_3:Mem)=>
 gP (Sx_3.cell b (o+3)) fun t_7=>
 nn t_7 fun b_3 o_2=>
 t_4.all (·.oneCell')=true ∧
 pt Sx_3 b_3 (o_2+75) 96 t_4 fun Sx_4=>
 gP (Sx_4.cell b (o+3)) fun t_8=>
 nn t_8 fun b_4 o_3=>
 gP (Sx_4.cell b_4 (o_3+74)) fun t_9=>
 kg Sx_4 t_9 t vm fun t_10 Sx_5=>
 Q (IntKind.u64.wrap t_5) 0 Sx_5) fun Jx=>
 if t_6≠0 then
 Q 0 t_6 Sx_2
 else
 Jx Sx_2) fun Jx_1=>
 if t_1≠0 then
 Q 0 t_1 Sx
 else
 nn h fun b_5 o_4=>
 gP (Sx.cell b_5 (o_4+3)) fun t_11=>
 qq Sx t_11 to fun t_12 Sx_6=>
 if t_12=true then
 Jx_1 Sx_6
 else
 Q 0 2 Sx_6
theorem zcW {S:Mem} {h:Pt} {vm:Int} {page:Int} {to:Int} {write:Bool} {Q:Int→Int→Mem→Prop} (H:vN S h vm page to write Q):jm S h vm page to write Q:=by
 unfold vN at H
 have:=dj (α:=Unit) 10 [0,1,12,14,15] (fun _=>[]) (fun _=>[(0,none)])
 have:=dj1 7 [0,1,2,3,4,12]
 exact Tr.intro func206 E ntmps206 E fun w0=>go results206 H
def kH (S:Mem) (h:Pt) (vm:Int) (to:Int) (n:Int) (Q:Int→Mem→Prop):Prop:=
 jn (fun (Sx:Mem)=>
 nn h fun b o=>
 gP (Sx.cell b (o+3)) fun t=>
 qB Sx t to 0 fun t_1 Sx_1=>
 gz Sx_1 t_1 n fun t_2 Sx_2=>
 Q t_2 Sx_2) fun Jx=>
 nn h fun b_1 o_1=>
 gP (S.cell b_1 (o_1+3)) fun t_3=>
 wT S t_3 vm to fun t_4 Sx_3=>
 if t_4=true then
 zdi Sx_3 n fun t_5 Sx_4=>
 if t_5=true then
 Jx Sx_4
 else
 Q 1 Sx_4
 else
 Q 2 Sx_3
theorem zec {S:Mem} {h:Pt} {vm:Int} {to:Int} {n:Int} {Q:Int→Mem→Prop} (H:kH S h vm to n Q):jZ S h vm to n Q:=by
 unfold kH at H
 have:=dj1 6 [0,2,3]
 exact Tr.intro func204 E ntmps204 E fun w0=>go results204 H
def kG (S:Mem) (h:Pt) (vm:Int) (sector:Int) (page:Int) (Q:Int→Mem→Prop):Prop:=
 jn (fun (Sx:Mem)=>
 fm Sx ([eP h,.int .i64 vm]) page 0 256 fun t t_1 Sx_1=>
 jn (fun (Sx_2:Mem)=>
 nn h fun b o=>
 gP (Sx_2.cell b (o+3)) fun t_2=>
 nn t_2 fun b_1 o_1=>
 0≤vm∧vm<6 ∧
 0≤sector∧sector<4 ∧
 pt Sx_2 b_1 (o_1+2+vm.toNat*12+7+sector.toNat*1) 1 ([eL t]) fun Sx_3=>
 Q 0 Sx_3) fun Jx=>
 if t_1≠0 then
 Q 11 Sx_1
 else
 Jx Sx_1) fun Jx_1=>
 if sector<0 then
 Q 1 S
 else
 if 4≤sector then
 Q 1 S
 else
 Jx_1 S
theorem zeb {S:Mem} {h:Pt} {vm:Int} {sector:Int} {page:Int} {Q:Int→Mem→Prop} (H:kG S h vm sector page Q):jY S h vm sector page Q:=by
 unfold kG at H
 have:=dj1 7 [0,1,2,9]
 have:=dj1 4 [0,1,2,3]
 exact Tr.intro func213 E ntmps213 E fun w0=>go results213 H
def wx (S:Mem) (h:Pt) (vm:Int) (n:Int) (Q:Int→Mem→Prop):Prop:=
 nn h fun b o=>
 gP (S.cell b (o+3)) fun t=>
 nn t fun b_1 o_1=>
 gA (S.part b_1 (o_1+75) 96) fun t_1=>
 yi S t_1 n fun t_2 t_3 Sx=>
 t_2.all (·.oneCell')=true ∧
 gP (Sx.cell b (o+3)) fun t_4=>
 nn t_4 fun b_3 o_2=>
 gA (Sx.part b_3 (o_2+75) 96) fun t_5=>
 yD Sx t_5 n vm fun t_6 t_7 Sx_1=>
 t_6.all (·.oneCell')=true ∧
 jn (fun (Sx_2:Mem)=>
 gP (Sx_2.cell b (o+3)) fun t_8=>
 nn t_8 fun b_5 o_3=>
 t_6.all (·.oneCell')=true ∧
 pt Sx_2 b_5 (o_3+75) 96 t_6 fun Sx_3=>
 gP (Sx_3.cell b (o+3)) fun t_9=>
 nn t_9 fun b_6 o_4=>
 0≤vm∧vm<6 ∧
 gA (Sx_3.part b_6 (o_4+2+vm.toNat*12+2) 2) fun t_10=>
 gP (Sx_3.cell b o) fun t_11=>
 gI (nthL t_2 2) .i64 fun t_12=>
 qv Sx_3 t_10 t_11 t_12 fun t_13 t_14 Sx_4=>
 Sx_4.cell b (o+3)=some (.pointer (some ⟨b_6,o_4,none⟩)) ∧
 t_13.all (·.oneCell')=true ∧
 gP (Sx_4.cell b (o+3)) fun t_15=>
 nn t_15 fun b_8 o_5=>
 gP (Sx_4.cell b_8 (o_5+74)) fun t_16=>
 gI (nthL t_13 1) .i64 fun t_17=>
 xx Sx_4 t_16 t_17 vm fun t_18 Sx_5=>
 Sx_5.cell b (o+3)=some (.pointer (some ⟨b_8,o_5,none⟩)) ∧
 Q t_18 Sx_5) fun Jx=>
 if t_7≠0 then
 Q t_7 Sx_1
 else
 Jx Sx_1
theorem zbh {S:Mem} {h:Pt} {vm:Int} {n:Int} {Q:Int→Mem→Prop} (H:wx S h vm n Q):wW S h vm n Q:=by
 unfold wx at H
 have:=dj (α:=Unit) 6 [0,1,7,9] (fun _=>[]) (fun _=>[(0,none),(1,none)])
 exact Tr.intro func209 E ntmps209 E fun w0=>go results209 H
end
end Go.Proofs.YtabdpmnhjlmnlaaGreatDoor
