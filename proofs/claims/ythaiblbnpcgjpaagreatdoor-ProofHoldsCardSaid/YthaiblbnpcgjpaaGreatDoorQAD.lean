/- Texts of this work,joined by program (pack.py). -/
import Derived.Test.YthaiblbnpcgjpaaGreatDoorQAB
import Derived.Test.YthaiblbnpcgjpaaGreatDoorQAC
set_option linter.unusedVariables false
set_option maxRecDepth 20000
set_option maxHeartbeats 4000000
namespace Go.Pt
section
open Go
def fstR:Code→Nat
 | .region i _ _=>i+1
 | .seq x y=>match fstR x with
  | 0=>fstR y
  | n+1=>n+1
 | .block _ x=>fstR x
 | .loop x=>fstR x
 | .cond _ x y=>match fstR x with
  | 0=>fstR y
  | n+1=>n+1
 | _=>0
def keepL (l:Fr):List Nat→List (Nat×Value)
 | []=>[]
 | k :: r=>(k,(look l.kv k).getD undef) :: keepL l r
def keepF (l:Fr) (ks:List Nat) (ch:List (Nat×Value)):Fr:=⟨l.n,ch++keepL l ks⟩
def entV (V:Hp) (i:Nat):Ent:=(nthL V i).getD ⟨0,0,[]⟩
def pkV (V:Hp):List (Nat×Option (List Value))→Hp
 | []=>[]
 | (i,c) :: r=>⟨(entV V i).b,(entV V i).ty,c.getD (entV V i).cs⟩ :: pkV V r
def popsOf:List Nat→List Nat→List Nat
 | [],_=>[]
 | i :: r,d=>(i-(d.filter fun j=>Nat.blt j i).length) :: popsOf r (i :: d)
inductive Dj {α:Type} (n:Nat) (ks:List Nat) (ch:α→List (Nat×Value)) (vs:α→List (Nat×Option (List Value))):Prop where
 | mk:Dj n ks ch vs
theorem dj {α:Type} (n:Nat) (ks:List Nat) (ch:α→List (Nat×Value)) (vs:α→List (Nat×Option (List Value))):Dj n ks ch vs:=.mk
theorem dj0 {α:Type} (n:Nat) (ks:List Nat) (ch:α→List (Nat×Value)):Dj n ks ch (fun _=>[]):=.mk
theorem dj1 (n:Nat) (ks:List Nat):Dj (α:=Unit) n ks (fun _=>[]) (fun _=>[]):=.mk
class Ap (β:Type) (α:outParam Type) where
 ap:β→α→Mem→Prop
instance:Ap (Mem→Prop) Unit:=⟨fun J _ S=>J S⟩
instance {a γ α:Type} [h:Ap γ α]:Ap (a→γ) (a×α):=⟨fun J z S=>h.ap (J z.1) z.2 S⟩
def JH {α:Type} (w0:World) (S0:Mem) (K:Exit→Act→World→Prop) (ap:α→Mem→Prop) (lf:α→Fr) (Vf:α→Hp):Prop:=
 ∀ (z:α) (l:Fr) (S:Mem) (V B:Hp) (idx:List Nat),ap z S→(lf z).n=l.n→leF l (lf z).kv→selE idx V=some (Vf z,B)→WQ w0 S0 K .normal l S V
theorem iteB {b:Bool} {A B R:Prop} (h:if b=true then A else B) (h1:b=true→A→R) (h2:b=false→B→R):R:=by
 rcases zfs h with ⟨a,b⟩ | ⟨a,b⟩
 ·exact h1 a b
 ·exact h2 a b
section
variable {P:Program} {w0:World} {S0:Mem} {opl:List Oper} {Q:Exit→Act→World→Prop} {rest:List Oper} {l:Fr} {S:Mem} {V:Hp}
theorem jgo {α:Type} {K:Exit→Act→World→Prop} {ap:α→Mem→Prop} {lf:α→Fr} {Vf:α→Hp} {z:α} {B:Hp} {idx:List Nat} (h:JH w0 S0 K ap lf Vf) (H:ap z S) (hl:(lf z).n=l.n) (hf:leF l (lf z).kv) (hs:selE idx V=some (Vf z,B)):WQ w0 S0 K .normal l S V:=h z l S V B idx H hl hf hs
theorem jo {α β:Type} [h:Ap β α] {J:β} {B:β→Prop} (H:jn J B) {n:Nat} {ks:List Nat} {ch:α→List (Nat×Value)} {vs:α→List (Nat×Option (List Value))} {x y:Code} (hn:fstR y=n) (_d:Dj n ks ch vs)
  (h2:∀ z S',h.ap J z S'→WC P w0 S0 y Q (keepF l ks (ch z)) S' (pkV V (vs z)))
  (h1:∀ J':β,JH w0 S0 (Exit.then (y.wp P Q) Q) (h.ap J') (fun z=>keepF l ks (ch z)) (fun z=>pkV V (vs z))→B J'→WC P w0 S0 x (Exit.then (y.wp P Q) Q) l S V):WC P w0 S0 (.seq x y) Q l S V:=
 zy H h.ap _ _ h2 fun J' hJ=>h1 J' hJ
theorem lo {α:Type} {F:(α→Mem→Prop)→α→Mem→Prop} {z0:α} (H:lp F z0 S) {n:Nat} {ks:List Nat} {ch:α→List (Nat×Value)} {vs:α→List (Nat×Option (List Value))} {c:Code} (hn:fstR c=n) (_d:Dj n ks ch vs) {B:Hp}
  (hf:leF l (keepF l ks (ch z0)).kv) (hs:selE (popsOf ((vs z0).map (·.1)) []) V=some (pkV V (vs z0),B))
  (round:∀ X:α→Mem→Prop,JH w0 S0 (Exit.then (Back P c Q) Q) X (fun z=>keepF l ks (ch z)) (fun z=>pkV V (vs z))→∀ z S',F X z S'→WC P w0 S0 c (Exit.then (Back P c Q) Q) (keepF l ks (ch z)) S' (pkV V (vs z))):WC P w0 S0 (.loop c) Q l S V:=
 xC (fun z=>keepF l ks (ch z)) (fun z=>pkV V (vs z)) z0 H rfl hf hs fun X hX=>round X hX
end
theorem lnA {p:Prop} (h:p:=by first
 | exact rfl
 | assumption
 | exact qL (by assumption)
 | exact (qE (by assumption)).2.2
 | (refine qn (by first | assumption | exact qL (by assumption) | exact (qE (by assumption)).2.2 | exact rfl) ?_;simp only[List.length_cons,List.length_nil];omega)
 | (refine qn (qn (by first | assumption | exact rfl) ?_) ?_ <;> (simp only[List.length_cons,List.length_nil];omega))):p:=h
section
variable {P:Program} {w0:World} {S0 S:Mem} {V:Hp} {b o k:Nat} {v:Value} {vs cs:List Value} {ty:TypeId}
theorem hcV0 (hn:nthL V 0=some ⟨b,ty,cs⟩) (hv:nthL cs o=some v) (hty:Nat.beq ty itT=false):HC w0 S0 S V (.cell b o v):=zR 0 hn hv hty
theorem hcV1 (hn:nthL V 1=some ⟨b,ty,cs⟩) (hv:nthL cs o=some v) (hty:Nat.beq ty itT=false):HC w0 S0 S V (.cell b o v):=zR 1 hn hv hty
theorem hcV2 (hn:nthL V 2=some ⟨b,ty,cs⟩) (hv:nthL cs o=some v) (hty:Nat.beq ty itT=false):HC w0 S0 S V (.cell b o v):=zR 2 hn hv hty
theorem hcV3 (hn:nthL V 3=some ⟨b,ty,cs⟩) (hv:nthL cs o=some v) (hty:Nat.beq ty itT=false):HC w0 S0 S V (.cell b o v):=zR 3 hn hv hty
theorem hcW0 (hn:nthL V 0=some ⟨b,ty,cs⟩) (hv:lpart cs o k=some vs) (hty:Nat.beq ty itT=false):HC w0 S0 S V (.cells b o vs):=zD 0 hn hv hty
theorem hcW1 (hn:nthL V 1=some ⟨b,ty,cs⟩) (hv:lpart cs o k=some vs) (hty:Nat.beq ty itT=false):HC w0 S0 S V (.cells b o vs):=zD 1 hn hv hty
theorem hcW2 (hn:nthL V 2=some ⟨b,ty,cs⟩) (hv:lpart cs o k=some vs) (hty:Nat.beq ty itT=false):HC w0 S0 S V (.cells b o vs):=zD 2 hn hv hty
end
theorem hcA {p:Prop} (h:p:=by first
 | (apply qh;assumption)
 | (apply jw;assumption)
 | (apply hcV0;exact rfl;(first | exact rfl | assumption);exact rfl)
 | (apply hcV1;exact rfl;(first | exact rfl | assumption);exact rfl)
 | (apply hcV2;exact rfl;(first | exact rfl | assumption);exact rfl)
 | (apply hcV3;exact rfl;(first | exact rfl | assumption);exact rfl)
 | (apply hcW0;exact rfl;(first | exact ze lnA | assumption | exact rfl);exact rfl)
 | (apply hcW1;exact rfl;(first | exact ze lnA | assumption | exact rfl);exact rfl)
 | (apply hcW2;exact rfl;(first | exact ze lnA | assumption | exact rfl);exact rfl)
 | exact zqC 0 rfl | exact zqC 1 rfl):p:=h
section
variable {P:Program} {l:Fr} {c:Cond} {t t2:TypeId} {x y:Operand} {k:IntKind} {m n:Int} {p:Pt}
theorem zpN (hx:ev l x=some (.int k m)) (hy:ev l y=some (.int k n)) (h:m=n):Yc P l c (.binOp .eql t x y t2) (.bool true):=yT (zdE hx hy) h
theorem zpO (hx:ev l x=some (.int k m)) (hy:ev l y=some (.int k n)) (h:¬(m=n)):Yc P l c (.binOp .eql t x y t2) (.bool false):=yF (zdE hx hy) h
theorem zpr (hx:ev l x=some (.int k m)) (hy:ev l y=some (.int k n)) (h:m≠n):Yc P l c (.binOp .neq t x y t2) (.bool true):=yT (qt hx hy) h
theorem zps (hx:ev l x=some (.int k m)) (hy:ev l y=some (.int k n)) (h:¬(m≠n)):Yc P l c (.binOp .neq t x y t2) (.bool false):=yF (qt hx hy) h
theorem zpA (hx:ev l x=some (.int k m)) (hy:ev l y=some (.int k n)) (h:m<n):Yc P l c (.binOp .lss t x y t2) (.bool true):=yT (qq hx hy) h
theorem zpB (hx:ev l x=some (.int k m)) (hy:ev l y=some (.int k n)) (h:¬(m<n)):Yc P l c (.binOp .lss t x y t2) (.bool false):=yF (qq hx hy) h
theorem zpF (hx:ev l x=some (.int k m)) (hy:ev l y=some (.int k n)) (h:m≤n):Yc P l c (.binOp .leq t x y t2) (.bool true):=yT (zkX hx hy) h
theorem zpG (hx:ev l x=some (.int k m)) (hy:ev l y=some (.int k n)) (h:¬(m≤n)):Yc P l c (.binOp .leq t x y t2) (.bool false):=yF (zkX hx hy) h
theorem zpJ (hx:ev l x=some (.int k m)) (hy:ev l y=some (.int k n)) (h:n<m):Yc P l c (.binOp .gtr t x y t2) (.bool true):=yT (jZ hx hy) h
theorem zpK (hx:ev l x=some (.int k m)) (hy:ev l y=some (.int k n)) (h:¬(n<m)):Yc P l c (.binOp .gtr t x y t2) (.bool false):=yF (jZ hx hy) h
theorem zpL (hx:ev l x=some (.int k m)) (hy:ev l y=some (.int k n)) (h:n≤m):Yc P l c (.binOp .geq t x y t2) (.bool true):=yT (wT hx hy) h
theorem zpM (hx:ev l x=some (.int k m)) (hy:ev l y=some (.int k n)) (h:¬(n≤m)):Yc P l c (.binOp .geq t x y t2) (.bool false):=yF (wT hx hy) h
theorem zob [PtrT P t] (hx:ev l x=some (.pointer (adr p))) (hy:ev l y=some (.pointer none)) (h:p=none):Yc P l c (.binOp .eql t x y t2) (.bool true):=yT (wP hx hy) h
theorem zoc [PtrT P t] (hx:ev l x=some (.pointer (adr p))) (hy:ev l y=some (.pointer none)) (h:¬(p=none)):Yc P l c (.binOp .eql t x y t2) (.bool false):=yF (wP hx hy) h
theorem zpn [PtrT P t] (hx:ev l x=some (.pointer (adr p))) (hy:ev l y=some (.pointer none)) (h:p≠none):Yc P l c (.binOp .neq t x y t2) (.bool true):=yT (zha hx hy) h
theorem zpo [PtrT P t] (hx:ev l x=some (.pointer (adr p))) (hy:ev l y=some (.pointer none)) (h:¬(p≠none)):Yc P l c (.binOp .neq t x y t2) (.bool false):=yF (zha hx hy) h
theorem zoi {p:Pt} {n c':Nat} {e z:Nat} [SliceT P t e z] (hx:ev l x=some (.slice (adr p) n c')) (hy:ev l y=some (.slice none 0 0)) (h:p=none):Yc P l c (.binOp .eql t x y t2) (.bool true):=yT (znL hx hy) h
theorem zoj {p:Pt} {n c':Nat} {e z:Nat} [SliceT P t e z] (hx:ev l x=some (.slice (adr p) n c')) (hy:ev l y=some (.slice none 0 0)) (h:¬(p=none)):Yc P l c (.binOp .eql t x y t2) (.bool false):=yF (znL hx hy) h
theorem zpC {p:Pt} {n c':Nat} {e z:Nat} [SliceT P t e z] (hx:ev l x=some (.slice (adr p) n c')) (hy:ev l y=some (.slice none 0 0)) (h:p≠none):Yc P l c (.binOp .neq t x y t2) (.bool true):=yT (zpE hx hy) h
theorem zpD {p:Pt} {n c':Nat} {e z:Nat} [SliceT P t e z] (hx:ev l x=some (.slice (adr p) n c')) (hy:ev l y=some (.slice none 0 0)) (h:¬(p≠none)):Yc P l c (.binOp .neq t x y t2) (.bool false):=yF (zpE hx hy) h
theorem zpm {e size:Nat} {lo hi:Option Operand} {p:Pt} {n k:Nat} {a b:Int} {r:Sl} [SliceT P t e size] (hx:ev l x=some (.slice (adr p) n k)) (hlo:evB l lo 0=some a) (hhi:evB l hi n=some b)
  (h0:0≤a) (h1:a≤b) (h2:b≤k) (he:slc size ⟨p,n,k⟩ a b=r):Yc P l c (.slice t x lo hi none) (eL r):=eqv (zft hx hlo hhi h0 h1 h2) (congrArg eL he)
theorem zpl {n e size b o:Nat} {lo hi:Option Operand} {z y:Int} {r:Sl} [ArrayT P t n e size] (hx:ev l x=some (.pointer (some ⟨b,o,none⟩))) (hlo:evB l lo 0=some z) (hhi:evB l hi n=some y)
  (h0:0≤z) (h1:z≤y) (h2:y≤n) (he:slc size ⟨some (b,o),n,n⟩ z y=r):Yc P l c (.slice t x lo hi none) (eL r):=eqv (znZ hx hlo hhi h0 h1 h2) (congrArg eL he)
theorem zpw {a b:Bool} [BoolT P t] (hx:ev l x=some (.bool a)) (hy:ev l y=some (.bool b)) (h:a≠b):Yc P l c (.binOp .neq t x y t2) (.bool true):=yT (zmH hx hy) h
theorem zpx {a b:Bool} [BoolT P t] (hx:ev l x=some (.bool a)) (hy:ev l y=some (.bool b)) (h:¬(a≠b)):Yc P l c (.binOp .neq t x y t2) (.bool false):=yF (zmH hx hy) h
theorem zpS {a b:Bool} [BoolT P t] (hx:ev l x=some (.bool a)) (hy:ev l y=some (.bool b)) (h:a=b):Yc P l c (.binOp .eql t x y t2) (.bool true):=yT (zig hx hy) h
theorem zpT {a b:Bool} [BoolT P t] (hx:ev l x=some (.bool a)) (hy:ev l y=some (.bool b)) (h:¬(a=b)):Yc P l c (.binOp .eql t x y t2) (.bool false):=yF (zig hx hy) h
theorem zpt {a b:ByteArray} (hx:ev l x=some (.string a)) (hy:ev l y=some (.string b)) (h:a≠b):Yc P l c (.binOp .neq t x y t2) (.bool true):=yT (zpv hx hy) h
theorem zpu {a b:ByteArray} (hx:ev l x=some (.string a)) (hy:ev l y=some (.string b)) (h:¬(a≠b)):Yc P l c (.binOp .neq t x y t2) (.bool false):=yF (zpv hx hy) h
theorem zpP {a b:ByteArray} (hx:ev l x=some (.string a)) (hy:ev l y=some (.string b)) (h:a=b):Yc P l c (.binOp .eql t x y t2) (.bool true):=yT (zpR hx hy) h
theorem zpQ {a b:ByteArray} (hx:ev l x=some (.string a)) (hy:ev l y=some (.string b)) (h:¬(a=b)):Yc P l c (.binOp .eql t x y t2) (.bool false):=yF (zpR hx hy) h
theorem zoe [PtrT P t] (hx:ev l x=some (.pointer none)) (hy:ev l y=some (.pointer none)):Yc P l c (.binOp .eql t x y t2) (.bool true):=yT (wP (p:=none) hx hy) rfl
theorem zod [PtrT P t] {b o:Nat} (hx:ev l x=some (.pointer (some ⟨b,o,none⟩))) (hy:ev l y=some (.pointer none)):Yc P l c (.binOp .eql t x y t2) (.bool false):=yF (wP (p:=some (b,o)) hx hy) (by simp)
theorem zpq [PtrT P t] (hx:ev l x=some (.pointer none)) (hy:ev l y=some (.pointer none)):Yc P l c (.binOp .neq t x y t2) (.bool false):=yF (zha (p:=none) hx hy) (by simp)
theorem zpp [PtrT P t] {b o:Nat} (hx:ev l x=some (.pointer (some ⟨b,o,none⟩))) (hy:ev l y=some (.pointer none)):Yc P l c (.binOp .neq t x y t2) (.bool true):=yT (zha (p:=some (b,o)) hx hy) (by simp)
end
/-! drawn lists -/
def ixs:List Nat:=[0,1,2,3,4,5,6,7,8,9,10,11,12,13,14,15,16,17,18,19,20,21,22,23,24,25,26,27,28,29,30,31,32,33,34,35,36,37,38,39,40,41,42,43,44,45,46,47,48,49,50,51,52,53,54,55,56,57,58,59,60,61,62,63,64,65,66,67,68,69,70,71,72,73,74,75,76,77,78,79,80,81,82,83,84,85,86,87,88,89,90,91,92,93,94,95,96,97,98,99,100,101,102,103,104,105,106,107,108,109,110,111,112,113,114,115,116,117,118,119,120,121,122,123,124,125,126,127,128,129]
def quiet:Builtin→Bool
 | .len=>true
 | .cap=>true
 | .max=>true
 | .min=>true
 | _=>false
def isEff:Op→Bool
 | .alloc _=>true
 | .box _ _=>true
 | .store _ _ _=>true
 | .makeSlice _ _ _=>true
 | .buildSlice _ _ _=>true
 | .call c=>match c.callee with
  | .builtin b=>!(quiet b)
  | _=>true
 | _=>false
def inD (i:Nat):List Nat→Bool
 | []=>false
 | j :: r=>match Nat.beq i j with
  | true=>true
  | false=>inD i r
def rdyE (dn:List Nat):List Edge→Bool
 | []=>true
 | e :: r=>match Region.binds .any e with
  | false=>rdyE dn r
  | true=>match inD e.on dn with
   | true=>rdyE dn r
   | false=>false
def nxt (opl:List Oper) (dn:List Nat) (l:Fr):List Nat→Option Nat
 | []=>none
 | i :: r=>match inD i dn with
  | true=>nxt opl dn l r
  | false=>match nthL opl i with
   | none=>none
   | some o=>match rdyE dn o.after.toList with
    | false=>nxt opl dn l r
    | true=>match isEff o.op with
     | false=>some i
     | true=>match wantL opl l o.guard with
      | some false=>some i
      | _=>nxt opl dn l r
def nxtE (opl:List Oper) (dn:List Nat):List Nat→Option Nat
 | []=>none
 | i :: r=>match inD i dn with
  | true=>nxtE opl dn r
  | false=>match nthL opl i with
   | none=>none
   | some o=>match rdyE dn o.after.toList with
    | false=>nxtE opl dn r
    | true=>some i
def mkL (n:Nat):List Nat→Array Bool
 | []=>Array.replicate n false
 | i :: r=>(mkL n r).setIfInBounds i true
def WD (P:Program) (w0:World) (S0:Mem) (opl:List Oper) (Q:Exit→Act→World→Prop) (fuel:Nat) (cs:List (Nat×Cond)) (dn:List Nat) (l:Fr) (S:Mem) (V:Hp):Prop:=WA P w0 S0 opl Q fuel cs (mkL opl.length dn) l S V
section
variable {P:Program} {w0:World} {S0:Mem} {opl:List Oper} {Q:Exit→Act→World→Prop} {l:Fr} {S:Mem} {V:Hp} {fuel:Nat} {dn:List Nat} {cs:List (Nat×Cond)}
variable {d:Option Tmp} {op:Op} {ty:TypeId} {ps:String} {af:Array Edge} {g:Option (Nat×Bool)}
theorem zrI {id:Nat} (hm:P.follows .mixedOrders=true) (h:WD P w0 S0 opl Q opl.length [] [] l S V):WC P w0 S0 (.region id opl.toArray true) Q l S V:=qa hm h
def WN (P:Program) (w0:World) (S0:Mem) (opl:List Oper) (Q:Exit→Act→World→Prop) (fuel:Nat) (cs:List (Nat×Cond)) (dn:List Nat) (i:Nat) (o:Oper) (l:Fr) (S:Mem) (V:Hp):Prop:=
 nthL opl i=some o→okTake opl (mkL opl.length dn) i=true→NP Q→WD P w0 S0 opl Q (fuel+1) cs dn l S V
theorem zrr {i:Nat} {o:Oper} (hn:nxt opl dn l ixs=some i) (hi:nthL opl i=some o) (hok:okTake opl (mkL opl.length dn) i=true) (hQ:NP Q) (k:WN P w0 S0 opl Q fuel cs dn i o l S V):WD P w0 S0 opl Q (fuel+1) cs dn l S V:=k hi hok hQ
theorem zlM {i:Nat} {v:Value} (hw:wantL opl l g=some true) (hy:Yc P l .tt op v) (k:WD P w0 S0 opl Q fuel cs (i :: dn) (putn l d v) S V):WN P w0 S0 opl Q fuel cs dn i ⟨d,op,ty,ps,af,g⟩ l S V:=fun hi hok hQ=>a_takeP i hi hok hQ hw hy k
theorem zrF {i b o:Nat} {t:TypeId} {x:Operand} {v:Value} [ScalarT P t] (hw:wantL opl l g=some true) (hx:ev l x=some (.pointer (some ⟨b,o,none⟩))) (hc:HC w0 S0 S V (.cell b o v))
  (k:WD P w0 S0 opl Q fuel ((i,.cell b o v) :: cs) (i :: dn) (putn l d v) S V):WN P w0 S0 opl Q fuel cs dn i ⟨d,.load t x,ty,ps,af,g⟩ l S V:=fun hi hok hQ=>zY i hi hok hQ hw (zG hx) hc k
theorem zri {i b o m:Nat} {t:TypeId} {x:Operand} {vs:List Value} [AggT P t m] [SizeT P t m] (hw:wantL opl l g=some true) (hx:ev l x=some (.pointer (some ⟨b,o,none⟩))) (hc:HC w0 S0 S V (.cells b o vs)) (hl:vs.length=m)
  (k:WD P w0 S0 opl Q fuel ((i,.cells b o vs) :: cs) (i :: dn) (putn l d (valL vs)) S V):WN P w0 S0 opl Q fuel cs dn i ⟨d,.load t x,ty,ps,af,g⟩ l S V:=fun hi hok hQ=>zY i hi hok hQ hw (qk hx hl) hc k
theorem zqo {i:Nat} (hw:wantL opl l g=some false) (k:WD P w0 S0 opl Q fuel cs (i :: dn) (putn l d undef) S V):WN P w0 S0 opl Q fuel cs dn i ⟨d,op,ty,ps,af,g⟩ l S V:=fun hi hok hQ=>qH i hi hok hQ hw k
theorem zqI {i:Nat} {o:Oper} (hn:nxt opl dn l ixs=none) (he:nxtE opl dn ixs=some i) (hi:nthL opl i=some o) (hr:Region.ready .any opl.toArray (mkL opl.length dn)=[i])
  (h:WL P w0 S0 opl (Exit.then (AW P opl Q fuel (keepc opl i cs) (mkL opl.length (i :: dn))) Q) [o] l S V):WD P w0 S0 opl Q (fuel+1) cs dn l S V:=zw i hr hi h
theorem zpc {i i2:Nat} {o o2:Oper} (hn:nxt opl dn l ixs=none) (he:nxtE opl dn ixs=some i) (he2:nxtE opl dn (ixs.drop (i+1))=some i2) (hi:nthL opl i=some o) (hi2:nthL opl i2=some o2) (hr:Region.ready .any opl.toArray (mkL opl.length dn)=[i,i2])
  (h:WL P w0 S0 opl (Exit.then (AW P opl Q fuel (keepc opl i cs) (mkL opl.length (i :: dn))) Q) [o] l S V) (h2:WL P w0 S0 opl (Exit.then (AW P opl Q fuel (keepc opl i2 cs) (mkL opl.length (i2 :: dn))) Q) [o2] l S V):WD P w0 S0 opl Q (fuel+1) cs dn l S V:=ff i i2 hr hi hi2 h h2
theorem zrs (hall:AllC w0 S0 S V cs) (k:WD P w0 S0 opl Q fuel cs dn l S V):WQ w0 S0 (Exit.then (AW P opl Q fuel cs (mkL opl.length dn)) Q) .normal l S V:=zH hall k
theorem zqJ (he:nxtE opl dn ixs=none) (hr:Region.ready .any opl.toArray (mkL opl.length dn)=[]) (k:WQ w0 S0 Q .normal l S V):WD P w0 S0 opl Q fuel cs dn l S V:=zW hr k
theorem zrq {n b:Nat} {t:TypeId} {z:List Value} {K:Nat→Mem→Prop} (H:al S t z K) (hn:V.length=n+1) (he:nthL V n=some ⟨b,t,z⟩) (hty:Nat.beq t itT=false) (k:K b (S.set b (bw t z))→WD P w0 S0 opl Q fuel cs dn l (S.set b (bw t z)) (dropE V n)):WD P w0 S0 opl Q fuel cs dn l S V:=
 zru n he (fun hb=>k (H b hb)) hty
variable {rest:List Oper}
theorem zqh {n b:Nat} {t:TypeId} {z:List Value} {K:Nat→Mem→Prop} (H:al S t z K) (hn:V.length=n+1) (he:nthL V n=some ⟨b,t,z⟩) (hty:Nat.beq t itT=false) (k:K b (S.set b (bw t z))→WL P w0 S0 opl Q rest l (S.set b (bw t z)) (dropE V n)):WL P w0 S0 opl Q rest l S V:=
 zmR n he (fun hb=>k (H b hb)) hty
theorem zrC {b o:Nat} {t:TypeId} {x:Operand} {v:Value} [ScalarT P t] (hw:wantL opl l g=some true) (hx:ev l x=some (.pointer (some ⟨b,o,none⟩))) (hc:HC w0 S0 S V (.cell b o v)) (k:WL P w0 S0 opl Q rest (putn l d v) S V):WL P w0 S0 opl Q (⟨d,.load t x,ty,ps,af,g⟩ :: rest) l S V:=s_v hw (zG hx) hc k
theorem zrd {b o m:Nat} {t:TypeId} {x:Operand} {vs:List Value} [AggT P t m] [SizeT P t m] (hw:wantL opl l g=some true) (hx:ev l x=some (.pointer (some ⟨b,o,none⟩))) (hc:HC w0 S0 S V (.cells b o vs)) (hl:vs.length=m) (k:WL P w0 S0 opl Q rest (putn l d (valL vs)) S V):WL P w0 S0 opl Q (⟨d,.load t x,ty,ps,af,g⟩ :: rest) l S V:=s_v hw (qk hx hl) hc k
theorem yconv {P:Program} {l:Fr} {c:Cond} {t t2:TypeId} {x:Operand} {k k2:IntKind} {m:Int} [h:IntT P t2 k2] [h1:IntT P t k] (hx:ev l x=some (.int k m)):Yc P l c (.convert t t2 x) (.int k2 (k2.wrap m)):=jy ⟨_,h1.run⟩ hx
end
theorem ya {p:Prop} (h:p:=by first
 | (apply zA;exact rfl;exact rfl) | (apply qx;exact rfl) | (apply fp;exact rfl;exact rfl) | (apply zk;exact rfl;exact rfl) | (apply zT;exact rfl)
 | (apply yconv;exact rfl) | (apply jJ;exact rfl)
 | (apply gn;exact rfl;exact rfl;(first | assumption | decide);(first | assumption | decide);exact rfl)
 | (apply zpm;exact rfl;exact rfl;exact rfl;(first | assumption | decide);(first | assumption | decide);(first | assumption | decide);assumption)
 | (apply zpl;exact rfl;exact rfl;exact rfl;(first | assumption | decide);(first | assumption | decide);(first | assumption | decide);assumption)
 | (apply zpk;exact rfl;exact rfl;exact rfl;(first | assumption | decide);assumption;assumption)
 | (apply wO;exact rfl;exact rfl;assumption;assumption;exact rfl)
 | (apply zqZ;exact rfl;exact rfl;decide;decide;exact rfl)
 | (apply ql;exact rfl;exact rfl)
 | (apply ql;exact rfl;(repeat' (first | exact zei | (apply yC;exact rfl;exact rfl;exact Nat.le_of_ble_eq_true rfl) | (apply zgf;exact rfl;assumption;exact Nat.le_of_ble_eq_true rfl) | (apply yC;exact rfl;exact lnA;(first | exact Nat.le_of_ble_eq_true rfl | exact wR lnA (by decide)))));done)
 | (apply qZ;exact rfl;exact rfl) | (apply zkU;exact rfl;exact rfl)
 | (apply zoi;exact rfl;exact rfl;assumption) | (apply zoj;exact rfl;exact rfl;assumption) | (apply zpC;exact rfl;exact rfl;assumption) | (apply zpD;exact rfl;exact rfl;assumption)
 | (apply zpN;exact rfl;exact rfl;assumption) | (apply zpO;exact rfl;exact rfl;assumption) | (apply zpr;exact rfl;exact rfl;assumption) | (apply zps;exact rfl;exact rfl;assumption) | (apply zpA;exact rfl;exact rfl;assumption) | (apply zpB;exact rfl;exact rfl;assumption) | (apply zpF;exact rfl;exact rfl;assumption) | (apply zpG;exact rfl;exact rfl;assumption) | (apply zpJ;exact rfl;exact rfl;assumption) | (apply zpK;exact rfl;exact rfl;assumption) | (apply zpL;exact rfl;exact rfl;assumption) | (apply zpM;exact rfl;exact rfl;assumption) | (apply zob;exact rfl;exact rfl;assumption) | (apply zoc;exact rfl;exact rfl;assumption) | (apply zpn;exact rfl;exact rfl;assumption) | (apply zpo;exact rfl;exact rfl;assumption)
 | (apply zoe;exact rfl;exact rfl) | (apply zod;exact rfl;exact rfl) | (apply zpq;exact rfl;exact rfl) | (apply zpp;exact rfl;exact rfl)
 | (apply zkV;exact rfl;exact rfl) | (apply zoa;exact rfl;exact rfl;(first | assumption | decide)) | (apply zid;exact rfl;exact rfl;(first | assumption | decide))
 | (apply zom;exact rfl;exact rfl) | (apply zrA;exact rfl;exact rfl) | (apply zqU;exact rfl;exact rfl) | (apply zpV;exact rfl;exact rfl)
 | (apply zqW;exact rfl;exact rfl;(first | assumption | decide)) | (apply zqV;exact rfl;exact rfl;(first | assumption | decide))
 | (apply zqX;exact rfl) | (apply zpU;exact rfl)
 | (apply zol;exact rfl;(first | exact rfl | assumption)) | (apply zmI;exact rfl;(first | exact rfl | assumption))
 | (apply zra;exact rfl;exact rfl;assumption;assumption;assumption) | (apply zkY;exact rfl;exact rfl;assumption;assumption;assumption)
 | (apply zif;exact rfl) | (apply zqY;exact rfl) | (apply zpz;exact rfl;exact rfl) | (apply znK;exact rfl) | (apply zrb;exact rfl)
 | (apply zoh;exact rfl;exact rfl) | (apply zog;exact rfl;exact rfl) | (apply zpy;assumption;exact rfl) | (apply zpH;exact rfl)
 | (apply yB;(first | (apply zmH;exact rfl;exact rfl) | (apply zig;exact rfl;exact rfl) | (apply zof;exact rfl;exact rfl;(first | exact rfl | assumption);(first | exact rfl | assumption)) | (apply zmJ;exact rfl;exact rfl;(first | exact rfl | assumption);(first | exact rfl | assumption)) | (apply ym;exact rfl) | (apply zk;exact rfl;exact rfl));assumption)
 | (apply zpw;exact rfl;exact rfl;assumption) | (apply zpx;exact rfl;exact rfl;assumption) | (apply zpS;exact rfl;exact rfl;assumption) | (apply zpT;exact rfl;exact rfl;assumption) | (apply zpt;exact rfl;exact rfl;assumption) | (apply zpu;exact rfl;exact rfl;assumption) | (apply zpP;exact rfl;exact rfl;assumption) | (apply zpQ;exact rfl;exact rfl;assumption)
 | (apply zie;exact rfl;assumption) | (apply zok;exact rfl;assumption)
 | (apply zel;exact rfl;assumption) | (apply zp;exact rfl)):p:=h
theorem yd {p:Prop} (h:p:=by first
 | (apply zdE;exact rfl;exact rfl) | (apply qt;exact rfl;exact rfl) | (apply qq;exact rfl;exact rfl) | (apply zkX;exact rfl;exact rfl) | (apply jZ;exact rfl;exact rfl) | (apply wT;exact rfl;exact rfl)
 | (apply ym;exact rfl) | (apply zig;exact rfl;exact rfl) | (apply zmH;exact rfl;exact rfl) | (apply zmJ;exact rfl;exact rfl;(first | exact rfl | assumption);(first | exact rfl | assumption)) | (apply zof;exact rfl;exact rfl;(first | exact rfl | assumption);(first | exact rfl | assumption))):p:=h
section
variable {P:Program} {w0:World} {S0:Mem} {opl:List Oper} {Q:Exit→Act→World→Prop} {rest:List Oper} {l:Fr} {S:Mem} {V:Hp} {fuel:Nat} {dn:List Nat} {cs:List (Nat×Cond)} {i:Nat} {o:Oper} {c:Code} {e:Exit}
theorem isWL (k:WL P w0 S0 opl Q rest l S V):WL P w0 S0 opl Q rest l S V:=k
theorem isWN (k:WN P w0 S0 opl Q fuel cs dn i o l S V):WN P w0 S0 opl Q fuel cs dn i o l S V:=k
theorem isWD (k:WD P w0 S0 opl Q fuel cs dn l S V):WD P w0 S0 opl Q fuel cs dn l S V:=k
theorem isWC (k:WC P w0 S0 c Q l S V):WC P w0 S0 c Q l S V:=k
theorem isWQ (k:WQ w0 S0 Q e l S V):WQ w0 S0 Q e l S V:=k
end
theorem tup2 {a a' b b':Value} (h:a=a') (k:b=b'):Value.tuple #[a,b]=.tuple #[a',b']:=by rw[h,k]
theorem tup3 {a a' b b' c c':Value} (h:a=a') (k:b=b') (m:c=c'):Value.tuple #[a,b,c]=.tuple #[a',b',c']:=by rw[h,k,m]
theorem pe1 {b o:Nat}:Value.pointer (some ⟨b,o,none⟩)=eP (some (b,o)):=rfl
theorem pe0:Value.pointer none=eP none:=rfl
theorem le1 {b o n c:Nat}:Value.slice (some ⟨b,o,none⟩) n c=eL ⟨some (b,o),n,c⟩:=rfl
theorem le0 {n c:Nat}:Value.slice none n c=eL ⟨none,n,c⟩:=rfl
theorem rv1 {v w:Value} (h:v=w):retVal [v]=w:=h
theorem rv2 {a b w:Value} (h:Value.tuple #[a,b]=w):retVal [a,b]=w:=h
theorem rv3 {a b c w:Value} (h:Value.tuple #[a,b,c]=w):retVal [a,b,c]=w:=h
section
variable {a b c d e f:Type} {S:Mem} {x:a} {y:b} {z:c} {u:d} {v:e} {w:f}
theorem ap1 {J:a→Mem→Prop} (H:J x S):Ap.ap J (x,()) S:=H
theorem ap2 {J:a→b→Mem→Prop} (H:J x y S):Ap.ap J (x,y,()) S:=H
theorem ap3 {J:a→b→c→Mem→Prop} (H:J x y z S):Ap.ap J (x,y,z,()) S:=H
theorem ap4 {J:a→b→c→d→Mem→Prop} (H:J x y z u S):Ap.ap J (x,y,z,u,()) S:=H
theorem ap5 {J:a→b→c→d→e→Mem→Prop} (H:J x y z u v S):Ap.ap J (x,y,z,u,v,()) S:=H
theorem ap6 {J:a→b→c→d→e→f→Mem→Prop} (H:J x y z u v w S):Ap.ap J (x,y,z,u,v,w,()) S:=H
end
theorem zrB {b o n c:Nat} {K:Nat→Nat→Nat→Nat→Prop} (H:sl ⟨some (b,o),n,c⟩ K):K b o n c:=by rwa [fi] at H
theorem zrE {b o:Nat} {K:Nat→Nat→Prop} (H:nn (some (b,o)) K):K b o:=by rwa [zL] at H
theorem go {r q p:Prop} (R:r) (H:q) (t:r→q→p:=by
 (try clear H)
 intro R H
 repeat' (first
  | (apply isWL;first
   | (apply zqh H;exact rfl;exact rfl;exact rfl;clear H;intro H)
   | (apply mv;exact rfl;exact rfl)
   | (apply gv;exact rfl;exact rfl)
   | apply zr
   | (apply zF;exact rfl)
   | (refine gx H ?_;clear H;intro t ht H)
   | (apply zrC;exact rfl;exact rfl;exact hcA)
   | (apply zrd;exact rfl;exact rfl;exact hcA;exact lnA)
   | (apply s_p;exact rfl;exact ya))
  | (apply isWN;first
   | (apply zqo;exact rfl)
   | (refine gx H ?_;clear H;intro t ht H)
   | (apply zrF;exact rfl;exact rfl;exact hcA)
   | (apply zri;exact rfl;exact rfl;exact hcA;exact lnA)
   | (apply zlM;exact rfl;exact ya))
  | (apply isWD;first
   | (apply zrq H;exact rfl;exact rfl;exact rfl;clear H;intro H)
   | (apply zrr;exact rfl;exact rfl;decide +kernel;focus ((repeat' (first | exact zb | apply za | apply zc));done))
   | (apply zqI;exact rfl;exact rfl;exact rfl;decide +kernel)
   | (apply zpc;exact rfl;exact rfl;exact rfl;exact rfl;exact rfl;decide +kernel)
   | (apply zqJ;exact rfl;decide +kernel))
  | (apply isWQ;first
   | (apply jgo;assumption;(first | exact H | exact ap1 H | exact ap2 H | exact ap3 H | exact ap4 H | exact ap5 H | exact ap6 H);exact rfl;(focus (repeat' (first | exact True.intro | refine⟨rfl,?_⟩)));(first | (show selE [] _=_;exact rfl) | (show selE [0] _=_;exact rfl) | (show selE [0,0] _=_;exact rfl) | (show selE [1] _=_;exact rfl) | (show selE [2] _=_;exact rfl) | (show selE [0,0,0] _=_;exact rfl) | (show selE [1,1] _=_;exact rfl)))
   | (apply zrs;focus ((repeat' (first | exact zq | (apply zj;exact hcA)));done))
   | apply zB
   | apply zd
   | apply zm
   | apply qr
   | apply zo
   | apply zV
   | (apply zao;exact rfl)
   | ((first | apply zt R | apply zgz R);(focus (repeat' (first | exact zi | (apply zf;exact rfl) | (apply zoB;exact rfl;exact hcA) | (apply zv;exact rfl;exact hcA;exact lnA))));(repeat' (first | exact H | exact rfl | exact lnA | exact pe1 | exact pe0 | exact le1 | exact le0 | apply And.intro | apply Exists.intro | apply rv1 | apply rv2 | apply rv3 | apply tup2 | apply tup3))))
  | (apply isWC;first
   | (apply jo H;exact rfl;assumption;(clear H;intro z S H;repeat obtain⟨_,z⟩:_×_:=z);rotate_left;(clear H;intro J hJ H))
   | (apply lo H;exact rfl;assumption;(focus (repeat' (first | exact True.intro | refine⟨rfl,?_⟩)));exact rfl;(clear H;intro X hX z S H;repeat obtain⟨_,z⟩:_×_:=z))
   | apply qb
   | apply zE
   | (apply zrI;kernel_rfl)
   | apply yV
   | apply qY
   | apply zu
   | apply zK
   | (apply c_t;exact rfl;(first | exact rfl | assumption))
   | (apply c_f;exact rfl;(first | exact rfl | assumption)))
  | (apply isWL;first
   | (apply kq;exact rfl;exact rfl;exact H;(clear H;intro t S H))
   | (apply zlu;exact rfl;exact rfl;exact H;(clear H;intro S H))
   | (apply ziz;exact rfl;exact rfl;exact H;(clear H;intro t u S H))
   | (apply zrw;exact rfl;exact rfl;exact H;(clear H;intro t u v S H))
   | (apply qz;exact rfl;exact rfl;exact H;(clear H;intro rv S H;first | (obtain⟨t,rfl,h,H⟩:=H) | (obtain⟨t,u,rfl,h,H⟩:=H) | (obtain⟨t,u,rfl,h,h2,H⟩:=H) | (obtain⟨t,u,v,rfl,h,H⟩:=H) | (obtain⟨t,u,v,w,rfl,H⟩:=H)))
   | (apply zX;exact rfl;intro b)
   | (apply jM;exact rfl;exact rfl;exact rfl;intro b)
   | (apply zqi;exact rfl;intro b)
   | (apply zrD (H:=H);exact rfl;exact rfl;(clear H;intro S H))
   | (apply zjr;exact rfl;exact rfl;decide;(first | exact rfl | exact jD rfl lnA);intro b)
   | (apply zrv;exact rfl;exact rfl;exact rfl;(first | assumption | decide);(first | assumption | decide);(first | assumption | decide);(first | assumption | decide);intro b)
   | refine zn 0 rfl rfl rfl rfl rfl lnA lnA (by first | exact rfl | assumption) ?_
   | refine zn 1 rfl rfl rfl rfl rfl lnA lnA (by first | exact rfl | assumption) ?_
   | refine zn 2 rfl rfl rfl rfl rfl lnA lnA (by first | exact rfl | assumption) ?_
   | refine wX 0 rfl rfl rfl rfl rfl lnA (by first | exact Nat.le_of_ble_eq_true rfl | exact wR lnA (by omega)) (by first | exact rfl | assumption) ?_
   | refine wX 1 rfl rfl rfl rfl rfl lnA (by first | exact Nat.le_of_ble_eq_true rfl | exact wR lnA (by omega)) (by first | exact rfl | assumption) ?_
   | refine wX 2 rfl rfl rfl rfl rfl lnA (by first | exact Nat.le_of_ble_eq_true rfl | exact wR lnA (by omega)) (by first | exact rfl | assumption) ?_
   | (apply vD;exact rfl;exact rfl;exact rfl;(first | exact zdg (by assumption) | exact rfl);exact lnA;assumption;(first | exact rfl | assumption | exact zph (by assumption)))
   | (apply gf (H:=H);exact rfl;exact rfl;exact rfl;(first | exact zgS 0 rfl rfl | exact zgS 1 rfl rfl | exact zgS 2 rfl rfl | exact znT | exact (zbq (by assumption)).1 | exact zgS 0 rfl (ze lnA) | exact zgS 1 rfl (ze lnA));(first | exact lnA | exact (zbq (by assumption)).2);(first | exact rfl | assumption);decide;(clear H;intro r S H))
   | (apply zqj (H:=H);exact rfl;exact rfl;exact rfl;(clear H;intro r S H))
   | (apply zrf (H:=H);exact rfl;exact rfl;exact rfl;(clear H;intro S H))
   | (apply zqR (hc:=H);exact rfl;exact rfl;exact rfl;(clear H;intro rv S H;first | (obtain⟨t,rfl,H⟩:=H) | (obtain⟨t,u,rfl,H⟩:=H)))
   | (apply zkS (hc:=H);exact rfl;exact rfl;exact rfl;(clear H;intro rv S H;first | (obtain⟨t,rfl,H⟩:=H) | (obtain⟨t,u,rfl,H⟩:=H))))
  | (refine iteB H ?_ ?_ <;> (clear H;intro c H;try subst c))
  | (refine iteK H ?_ ?_ <;> (clear H;intro c H))
  | (refine an H ?_;clear H;intro c H)
  | (replace H:=zrE H)
  | (replace H:=zrB H)
  | (obtain⟨b,o,rfl,H⟩:=H)
  | (obtain⟨b,o,n,c,rfl,H⟩:=H)
  | (obtain⟨t,rfl,h,H⟩:=H)
  | (obtain⟨t,rfl,H⟩:=H)
  | (refine gx H ?_;clear H;intro t ht H)
  | (apply s_p;exact rfl;exact yd)
  | (apply zlM;exact rfl;exact yd)
  | (obtain⟨r,e,H⟩:=zmG H)
  | exact rfl
  | exact ()
  | exact H)):p:=t R H
end
end Go.Pt
namespace Go.Proofs.YthaiblbnpcgjpaaGreatDoor
section
open Go Go.Pt Go.Proofs.Tryz
attribute [local irreducible] lt WD WN Code.wp Back bodyPost wpList FR WL WC WQ WA AW Tr Yc HC AllC
def zdr (S:Mem) (s:Pt) (bus:Value) (time:Int) (me:Int) (Q:List Value→Mem→Prop):Prop:=
 bus.oneCell'=true ∧
 ([eP s,bus,.int .u64 time,.int .i64 me]).all (·.oneCell')=true ∧
 jn (fun (v:List Value) (Sx:Mem)=>
 v.length=2 ∧
 jn (fun (v_1:List Value) (Sx_1:Mem)=>
 v_1.length=2 ∧
 jn (fun (w:Int) (ok:Bool) (Sx_2:Mem)=>
 if ok=true then
 zbu Sx_2 (IntKind.u32.wrap w) fun t t_1 Sx_3=>
 if t_1=true then
 t.all (·.oneCell')=true ∧
 zdd Sx_3 ([eP s,bus,.int .u64 time,.int .i64 me]) t fun t_2 Sx_4=>
 t_2.all (·.oneCell')=true ∧
 Q t_2 Sx_4
 else
 t.all (·.oneCell')=true ∧
 yn Sx_3 ([eP s,bus,.int .u64 time,.int .i64 me]) 1 w fun t_3 Sx_5=>
 t_3.all (·.oneCell')=true ∧
 Q t_3 Sx_5
 else
 nn s fun b_4 o=>
 gI (Sx_2.cell b_4 (o+16)) .u64 fun t_4=>
 yn Sx_2 ([.pointer (some ⟨b_4,o,none⟩),bus,.int .u64 time,.int .i64 me]) 2 t_4 fun t_5 Sx_6=>
 t_5.all (·.oneCell')=true ∧
 Q t_5 Sx_6) fun Jx=>
 nn s fun b_5 o_1=>
 gI (Sx_1.cell b_5 (o_1+16)) .u64 fun t_6=>
 jE Sx_1 ([.pointer (some ⟨b_5,o_1,none⟩),bus,.int .u64 time,.int .i64 me]) t_6 4 fun t_7 t_8 Sx_7=>
 if t_8=true then
 Jx t_7 true Sx_7
 else
 Jx t_7 false Sx_7) fun Jx_1=>
 zfa Sx s fun t_9 t_10 Sx_8=>
 if t_10=true then
 yn Sx_8 ([eP s,bus,.int .u64 time,.int .i64 me]) (IntKind.u64.wrap (16+(IntKind.u64.wrap t_9))) 0 fun t_11 Sx_9=>
 t_11.all (·.oneCell')=true ∧
 Q t_11 Sx_9
 else
 Jx_1 v Sx_8) fun Jx_2=>
 if s=none then
 Q ([.int .u8 5,.int .u64 0]) S
 else
 ni bus fun i=>
 if i=true then
 Q ([.int .u8 5,.int .u64 0]) S
 else
 nn s fun b_6 o_2=>
 gI (S.cell b_6 (o_2+23)) .u8 fun t_12=>
 if t_12≠0 then
 Q ([.int .u8 5,.int .u64 0]) S
 else
 Jx_2 ([.int .u8 0,.int .u64 0]) S
theorem zkc {S:Mem} {s:Pt} {bus:Value} {time:Int} {me:Int} {Q:List Value→Mem→Prop} (H:zdr S s bus time me Q):zgW S s bus time me Q:=by
 unfold zdr at H
 exact Tr.intro func107 E ntmps107 E fun w0=>csr<|by refine zX E fun b=>?_;exact nxr<|mv E E<|mv E E<|mv E E<|mv E E<|an H fun c H1=>s_p E (ql (cs:=[eP s,bus,.int .u64 time,.int .i64 me]) E (yC (off:=0) (size:=1) E E (Nat.le_of_ble_eq_true E) (zgf (off:=1) E c (Nat.le_of_ble_eq_true E) (yC (off:=2) (size:=1) E E (Nat.le_of_ble_eq_true E) (yC (off:=3) (size:=1) E E (Nat.le_of_ble_eq_true E) (zei))))))<|by exact by refine zX E fun b_1=>?_;exact an H1 fun c_1 H2=>wX (sz:=4) (vs:=[eP s,bus,.int .u64 time,.int .i64 me]) 1 E E E E E E (Nat.le_of_ble_eq_true E) c_1<|nx<|zy H2 (fun (J:List Value→Mem→Prop) (z:List Value) S=>J z S) (fun z=>⟨76,[(0,eP s),(8,.pointer (some ⟨b,0,none⟩)),(9,.pointer (some ⟨b_1,0,none⟩))]⟩) (fun z=>[⟨b,181,z⟩,⟨b_1,249,[eP s,bus,.int .u64 time,.int .i64 me]⟩]) (fun v Sx H3=>an H3 fun hv H4=>zy H4 (fun (J:List Value→Mem→Prop) (z:List Value) S=>J z S) (fun z=>⟨76,[(0,eP s),(8,.pointer (some ⟨b,0,none⟩)),(9,.pointer (some ⟨b_1,0,none⟩))]⟩) (fun z=>[⟨b,181,z⟩,⟨b_1,249,[eP s,bus,.int .u64 time,.int .i64 me]⟩]) (fun v_1 Sx_1 H5=>an H5 fun hv_1 H6=>zy H6 (fun (J:Int→Bool→Mem→Prop) (z:Int×Bool) S=>J z.1 z.2 S) (fun z=>⟨76,[(0,eP s),(8,.pointer (some ⟨b,0,none⟩)),(9,.pointer (some ⟨b_1,0,none⟩)),(12,.int .u64 z.1),(13,.bool z.2)]⟩) (fun z=>[⟨b,181,v_1⟩,⟨b_1,249,[eP s,bus,.int .u64 time,.int .i64 me]⟩]) (by rintro⟨w,ok⟩ Sx_2 H7;exact qb<|csr<|iteK H7 (fun c_2 H8=>s_p E (zel E c_2)<|s_p E (yB (ym E) E)<|nx<|cfs E E<|zB<|csr<|mv E E<|s_p E (jy ⟨_,underlying43⟩ E)<|qz E E H8 fun rv Sx_3 H9=>by obtain⟨t,t_1,rfl,ht,H10⟩:=H9;exact mv E E<|s_p E (zk E E)<|iteK H10 (fun c_3 H11=>s_p E (yB (zk E E) c_3)<|by refine zX E fun b_2=>?_;exact an H11 fun c_4 H12=>zn 2 E E E E E ht E c_4<|gv E E<|nx<|qb<|csr<|mv E E<|s_p E (yB (ym E) E)<|nx<|cfs E E<|zB<|csr<|by refine s_v E (qk (vs:=[eP s,bus,.int .u64 time,.int .i64 me]) E E) (zD (k:=4) 1 E E) ?_;exact by refine s_v E (qk E ht) (zD (k:=5) 2 E (ze ht)) ?_;exact qz E E H12 fun rv Sx_4 H13=>by obtain⟨t_2,rfl,ht_2,H14⟩:=H13;exact an H14 fun c_5 H15=>zn 0 E E E E E ht_2 hv_1 c_5<|nx<|zu<|zt results107 (zv E (zD (k:=2) 0 E (ze ht_2)) ht_2 zi) ⟨_,E,ht_2,H15⟩) fun c_3 H11=>s_p E (yB (zk E E) (zfp c_3))<|by refine zX E fun b_3=>?_;exact an H11 fun c_6 H16=>zn 2 E E E E E ht E c_6<|gv E E<|nx<|qb<|csr<|mv E E<|s_p E (yB (ym E) E)<|nx<|c_t E E<|csr<|by refine s_v E (qk (vs:=[eP s,bus,.int .u64 time,.int .i64 me]) E E) (zD (k:=4) 1 E E) ?_;exact mv E E<|qz E E H16 fun rv Sx_5 H17=>by obtain⟨t_3,rfl,ht_3,H18⟩:=H17;exact an H18 fun c_7 H19=>zn 0 E E E E E ht_3 hv_1 c_7<|nx<|zu<|zd<|zt results107 (zv E (zD (k:=2) 0 E (ze ht_3)) ht_3 zi) ⟨_,E,ht_3,H19⟩) fun c_2 H8=>s_p E (zel E (zfp c_2))<|s_p E (yB (ym E) E)<|nx<|c_t E E<|qb<|qa (by kernel_rfl)<|by refine zY 0 E (by decide +kernel) (za (za zb)) E (qk (vs:=[eP s,bus,.int .u64 time,.int .i64 me]) E E) (zD (k:=4) 1 E E) ?_;exact a_takeP 1 E (by decide +kernel) (za (za zb)) E (zp E)<|by exact by obtain⟨b_4,o,rfl,H20⟩:=H8;exact a_takeP 2 E (by decide +kernel) (za (za zb)) E (qx E)<|by exact a_takeP 3 E (by decide +kernel) (za (za zb)) E (zA E E)<|by exact gx H20 fun t_4 ht_4 H21=>zY 4 E (by decide +kernel) (za (za zb)) E (zG E) (qh ht_4)<|by exact zw 5 (by decide +kernel) E<|by exact qz E E H21 fun rv Sx_6 H22=>by obtain⟨t_5,rfl,ht_5,H23⟩:=H22;exact zr<|zH zq<|zw 6 (by decide +kernel) E<|by exact an H23 fun c_8 H24=>zn 0 E E E E E ht_5 hv_1 c_8<|zr<|zH zq<|zW (by decide +kernel)<|by exact zB<|zu<|zd<|zt results107 (zv E (zD (k:=2) 0 E (ze ht_5)) ht_5 zi) ⟨_,E,ht_5,H24⟩) (fun Jx hJx H25=>qa (by kernel_rfl)<|by refine aT 0 E (by decide +kernel) E (qk (vs:=[eP s,bus,.int .u64 time,.int .i64 me]) E E) (zD (k:=4) 1 E E) ?_;exact aTP 1 E (by decide +kernel) E (zp E)<|by exact by obtain⟨b_5,o_1,rfl,H26⟩:=H25;exact aTP 2 E (by decide +kernel) E (qx E)<|by exact aTP 3 E (by decide +kernel) E (zA E E)<|by exact gx H26 fun t_6 ht_6 H27=>aT 4 E (by decide +kernel) E (zG E) (qh ht_6)<|by exact zw 5 (by decide +kernel) E<|by exact ziz E E H27 fun t_7 t_8 Sx_7 H28=>zr<|zH zq<|aTP 6 E (by decide +kernel) E (zp E)<|by exact aTP 7 E (by decide +kernel) E (zk E E)<|by exact iteK H28 (fun c_9 H29=>aTP 8 E (by decide +kernel) E (yB (zk E E) c_9)<|by exact aTP 9 E (by decide +kernel) E (zT E)<|by exact aTP 10 E (by decide +kernel) E (zT E)<|by exact zW (by decide +kernel)<|by exact hJx (t_7,true) _ _ _ _ [0,0] H29 E ⟨E,E,E,E,E,True.intro⟩ E) fun c_9 H29=>aTP 8 E (by decide +kernel) E (yB (zk E E) (zfp c_9))<|by exact aTP 9 E (by decide +kernel) E (zT E)<|by exact aTP 10 E (by decide +kernel) E (zT E)<|by exact zW (by decide +kernel)<|by exact hJx (t_7,false) _ _ _ _ [0,0] H29 E ⟨E,E,E,E,E,True.intro⟩ E)) (fun Jx_1 hJx_1 H30=>csr<|mv E E<|ziz E E H30 fun t_9 t_10 Sx_8 H31=>mv E E<|s_p E (zk E E)<|iteK H31 (fun c_10 H32=>s_p E (yB (zk E E) c_10)<|gv E E<|gv E E<|nxr<|mv E E<|nx<|c_t E E<|csr<|by refine s_v E (qk (vs:=[eP s,bus,.int .u64 time,.int .i64 me]) E E) (zD (k:=4) 1 E E) ?_;exact mv E E<|s_p E (jy ⟨_,underlying3⟩ E)<|s_p E (qZ E E)<|qz E E H32 fun rv Sx_9 H33=>by obtain⟨t_11,rfl,ht_11,H34⟩:=H33;exact an H34 fun c_11 H35=>zn 0 E E E E E ht_11 hv c_11<|nx<|zu<|zd<|zt results107 (zv E (zD (k:=2) 0 E (ze ht_11)) ht_11 zi) ⟨_,E,ht_11,H35⟩) fun c_10 H32=>s_p E (yB (zk E E) (zfp c_10))<|gv E E<|gv E E<|nxr<|mv E E<|nx<|cfs E E<|hJx_1 v _ _ _ _ [0,0] H32 E ⟨E,E,E,True.intro⟩ E)) (fun Jx_2 hJx_2 H36=>csr<|mv E E<|iteK H36 (fun c_12 H37=>s_p E (yT (wP (p:=s) E E) c_12)<|mv E E<|sk2 E E<|pk E E E<|mv E E<|sk4 E E E E<|zF E<|pk E E E<|nx<|c_t E E<|csr<|s_p E (ql E E)<|by exact wX (sz:=2) (vs:=[.int .u8 5,.int .u64 0]) 0 E E E E E E (Nat.le_of_ble_eq_true E) E<|nx<|zu<|zd<|zt results107 (zv E (zD (k:=2) 0 E E) E zi) ⟨_,E,E,H37⟩) fun c_12 H37=>s_p E (yF (wP (p:=s) E E) c_12)<|mv E E<|mv E E<|gx H37 fun i hi H38=>iteK H38 (fun c_13 H39=>s_p E (yB (zie E hi) c_13)<|pk E E E<|mv E E<|sk4 E E E E<|zF E<|pk E E E<|nx<|c_t E E<|csr<|s_p E (ql E E)<|by exact wX (sz:=2) (vs:=[.int .u8 5,.int .u64 0]) 0 E E E E E E (Nat.le_of_ble_eq_true E) E<|nx<|zu<|zd<|zt results107 (zv E (zD (k:=2) 0 E E) E zi) ⟨_,E,E,H39⟩) fun c_13 H39=>s_p E (yB (zie E hi) (zfp c_13))<|pk E E E<|mv E E<|mv E E<|by obtain⟨b_6,o_2,rfl,H40⟩:=H39;exact s_p E (qx E)<|s_p E (zA E E)<|gx H40 fun t_12 ht_12 H41=>s_v E (zG E) (qh ht_12)<|iteK H41 (fun c_14 H42=>s_p E (yT (qt E E) c_14)<|pk E E E<|nx<|c_t E E<|csr<|s_p E (ql E E)<|by exact wX (sz:=2) (vs:=[.int .u8 5,.int .u64 0]) 0 E E E E E E (Nat.le_of_ble_eq_true E) E<|nx<|zu<|zd<|zt results107 (zv E (zD (k:=2) 0 E E) E zi) ⟨_,E,E,H42⟩) fun c_14 H42=>s_p E (yF (qt E E) c_14)<|pk E E E<|nx<|cfs E E<|hJx_2 ([.int .u8 0,.int .u64 0]) _ _ _ _ [0,0] H42 E ⟨E,E,E,True.intro⟩ E)
def jW (S:Mem) (c:List Value) (cause:Int) (addr:Int) (Q:List Value→Mem→Prop):Prop:=
 c.length=4 ∧
 gP (nthL c 0) fun t=>
 zeL S t cause addr fun Sx=>
 gP (nthL c 0) fun t_1=>
 nn t_1 fun b_2 o=>
 gI (Sx.cell b_2 (o+23)) .u8 fun t_2=>
 if t_2=2 then
 Q ([.int .u8 4,.int .u64 cause]) Sx
 else
 Q ([.int .u8 1,.int .u64 cause]) Sx
theorem zfx {S:Mem} {c:List Value} {cause:Int} {addr:Int} {Q:List Value→Mem→Prop} (H:jW S c cause addr Q):yn S c cause addr Q:=by
 unfold jW at H
 exact Tr.intro func161 E ntmps161 E fun w0=>go results161 H
def jY (S:Mem) (c:List Value) (addr:Int) (n:Int) (Q:Int→Bool→Mem→Prop):Prop:=
 c.length=4 ∧
 jn (fun (page:Int) (off:Int) (ok:Bool) (Sx:Mem)=>
 jn (fun (Sx_1:Mem)=>
 gV (nthL c 1) fun t=>
 ci prog Sx_1 t "Load" [.int .i64 page, .int .i64 off, .int .i64 n] fun rv Sx_2 => ∃ t_1 : Sl, ∃ t_2 : Int, rv = .tuple #[eL t_1, .int .i64 t_2] ∧ 
 zen Sx_2 t_1 fun t_3 Sx_3=>
 Q t_3 (decide (t_2=0)) Sx_3) fun Jx=>
 if ok=true then
 IntKind.u64.wrap n≠0 ∧
 if Int.tmod addr (IntKind.u64.wrap n)≠0 then
 Q 0 false Sx
 else
 Jx Sx
 else
 Q 0 false Sx) fun Jx_1=>
 kC S c addr false fun t_4 t_5 t_6 Sx_4=>
 if t_6=true then
 Jx_1 t_4 t_5 true Sx_4
 else
 Jx_1 t_4 t_5 false Sx_4
theorem zfz {S:Mem} {c:List Value} {addr:Int} {n:Int} {Q:Int→Bool→Mem→Prop} (H:jY S c addr n Q):jE S c addr n Q:=by
 unfold jY at H
 have:=dj (α:=Unit) 5 [2,3,8,9] (fun _=>[]) (fun _=>[(0,none)])
 have:=dj (α:=Int×Int×Bool×Unit) 3 [1,2,3] (fun z=>[(8,.int .i64 z.1),(9,.int .i64 z.2.1),(10,.bool z.2.2.1)]) (fun _=>[(0,none)])
 exact Tr.intro func162 E ntmps162 E fun w0=>go results162 H
def zaf (S:Mem) (c:List Value) (o:List Value) (Q:List Value→Mem→Prop):Prop:=
 c.length=4 ∧
 o.length=5 ∧
 gP (nthL c 0) fun t=>
 gI (nthL o 4) .i16 fun t_1=>
 nn t fun b_3 o_1=>
 gI (S.cell b_3 (o_1+16)) .u64 fun t_2=>
 gI (nthL o 1) .u8 fun t_3=>
 0≤t_3∧t_3<16 ∧
 gI (S.cell b_3 (o_1+t_3.toNat*1)) .u64 fun t_4=>
 gI (nthL o 2) .u8 fun t_5=>
 0≤t_5∧t_5<16 ∧
 gI (S.cell b_3 (o_1+t_5.toNat*1)) .u64 fun t_6=>
 jn (fun (next:Int) (v:List Value) (Sx:Mem)=>
 v.length=2 ∧
 pt Sx b_3 (o_1+16) 1 ([.int .u64 next]) fun Sx_1=>
 Q ([.int .u8 0,.int .u64 0]) Sx_1) fun Jx=>
 gI (nthL o 0) .u8 fun t_7=>
 if t_7=1 then
 gI (nthL o 1) .u8 fun t_8=>
 0≤t_8∧t_8<16 ∧
 pt S b_3 (o_1+t_8.toNat*1) 1 ([.int .u64 (IntKind.u64.wrap (IntKind.i64.wrap t_1))]) fun Sx_2=>
 Jx (IntKind.u64.wrap (t_2+4)) ([.int .u8 0,.int .u64 0]) Sx_2
 else
 if t_7=2 then
 gI (nthL o 1) .u8 fun t_9=>
 yc S t_4 16 48 (IntKind.u64.wrap (IntKind.i64.wrap t_1)) fun t_10 Sx_3=>
 0≤t_9∧t_9<16 ∧
 pt Sx_3 b_3 (o_1+t_9.toNat*1) 1 ([.int .u64 t_10]) fun Sx_4=>
 Jx (IntKind.u64.wrap (t_2+4)) ([.int .u8 0,.int .u64 0]) Sx_4
 else
 if t_7=11 then
 gI (nthL o 1) .u8 fun t_11=>
 0≤t_11∧t_11<16 ∧
 pt S b_3 (o_1+t_11.toNat*1) 1 ([.int .u64 (IntKind.u64.wrap (t_6+(IntKind.u64.wrap (IntKind.i64.wrap t_1))))]) fun Sx_5=>
 Jx (IntKind.u64.wrap (t_2+4)) ([.int .u8 0,.int .u64 0]) Sx_5
 else
 if t_7=12 then
 jE S c (IntKind.u64.wrap (t_6+(IntKind.u64.wrap (IntKind.i64.wrap t_1)))) 8 fun t_12 t_13 Sx_6=>
 if t_13=true then
 gI (nthL o 1) .u8 fun t_14=>
 0≤t_14∧t_14<16 ∧
 pt Sx_6 b_3 (o_1+t_14.toNat*1) 1 ([.int .u64 t_12]) fun Sx_7=>
 Jx (IntKind.u64.wrap (t_2+4)) ([.int .u8 0,.int .u64 0]) Sx_7
 else
 yn Sx_6 c 3 (IntKind.u64.wrap (t_6+(IntKind.u64.wrap (IntKind.i64.wrap t_1)))) fun t_15 Sx_8=>
 t_15.all (·.oneCell')=true ∧
 Q t_15 Sx_8
 else
 if t_7=13 then
 fV S c (IntKind.u64.wrap (t_6+(IntKind.u64.wrap (IntKind.i64.wrap t_1)))) t_4 fun t_16 Sx_9=>
 if t_16=true then
 Jx (IntKind.u64.wrap (t_2+4)) ([.int .u8 0,.int .u64 0]) Sx_9
 else
 yn Sx_9 c 4 (IntKind.u64.wrap (t_6+(IntKind.u64.wrap (IntKind.i64.wrap t_1)))) fun t_17 Sx_10=>
 t_17.all (·.oneCell')=true ∧
 Q t_17 Sx_10
 else
 jn (fun (t_18:Bool) (Sx_11:Mem)=>
 if t_18=true then
 gI (nthL o 0) .u8 fun t_19=>
 fU Sx_11 t_19 t_4 t_6 fun t_20 Sx_12=>
 if t_20=true then
 gI (Sx_12.cell b_3 (o_1+16)) .u64 fun t_21=>
 Jx (IntKind.u64.wrap (t_21+(IntKind.u64.wrap (4*(IntKind.u64.wrap (IntKind.i64.wrap t_1)))))) ([.int .u8 0,.int .u64 0]) Sx_12
 else
 Jx (IntKind.u64.wrap (t_2+4)) ([.int .u8 0,.int .u64 0]) Sx_12
 else
 if t_7=17 then
 gI (nthL o 1) .u8 fun t_22=>
 0≤t_22∧t_22<16 ∧
 pt Sx_11 b_3 (o_1+t_22.toNat*1) 1 ([.int .u64 (IntKind.u64.wrap (t_2+4))]) fun Sx_13=>
 Jx (IntKind.u64.wrap (t_6+(IntKind.u64.wrap (IntKind.i64.wrap t_1)))) ([.int .u8 0,.int .u64 0]) Sx_13
 else
 if t_7=18 then
 gI (nthL o 1) .u8 fun t_23=>
 gA (Sx_11.part b_3 o_1 26) fun t_24=>
 gI (nthL o 4) .i16 fun t_25=>
 gI (nthL c 2) .u64 fun t_26=>
 gI (nthL c 3) .i64 fun t_27=>
 zgy Sx_11 t_24 (IntKind.i64.wrap t_25) t_26 t_27 fun t_28 t_29 Sx_14=>
 0≤t_23∧t_23<16 ∧
 pt Sx_14 b_3 (o_1+t_23.toNat*1) 1 ([.int .u64 t_28]) fun Sx_15=>
 Jx (IntKind.u64.wrap (t_2+4)) ([.int .u8 0,.int .u64 0]) Sx_15
 else
 if t_7=19 then
 gI (nthL o 4) .i16 fun t_30=>
 zgx Sx_11 (some (b_3,o_1)) (IntKind.i64.wrap t_30) t_4 fun t_31 Sx_16=>
 if t_31=true then
 zcn Sx_16 (some (b_3,o_1)) fun Sx_17=>
 Jx (IntKind.u64.wrap (t_2+4)) ([.int .u8 0,.int .u64 0]) Sx_17
 else
 gI (Sx_16.cell b_3 (o_1+16)) .u64 fun t_32=>
 yn Sx_16 c 1 t_32 fun t_33 Sx_18=>
 t_33.all (·.oneCell')=true ∧
 Q t_33 Sx_18
 else
 if t_7=20 then
 pt Sx_11 b_3 (o_1+16) 1 ([.int .u64 (IntKind.u64.wrap (t_2+4))]) fun Sx_19=>
 Q ([.int .u8 2,.int .u64 (IntKind.u64.wrap (IntKind.i64.wrap t_1))]) Sx_19
 else
 if t_7=21 then
 pt Sx_11 b_3 (o_1+16) 1 ([.int .u64 (IntKind.u64.wrap (t_2+4))]) fun Sx_20=>
 gI (Sx_20.cell b_3 (o_1+24)) .u32 fun t_34=>
 gI (Sx_20.cell b_3 (o_1+25)) .u32 fun t_35=>
 if iand .u32 t_34 t_35=0 then
 pt Sx_20 b_3 (o_1+23) 1 ([.int .u8 1]) fun Sx_21=>
 Q ([.int .u8 3,.int .u64 0]) Sx_21
 else
 Q ([.int .u8 0,.int .u64 0]) Sx_20
 else
 if t_7=22 then
 zeN Sx_11 (some (b_3,o_1)) fun Sx_22=>
 Q ([.int .u8 0,.int .u64 0]) Sx_22
 else
 gI (nthL o 0) .u8 fun t_36=>
 if 3≤t_36 then
 gI (nthL o 1) .u8 fun t_37=>
 gI (nthL o 0) .u8 fun t_38=>
 gI (nthL o 3) .u8 fun t_39=>
 0≤t_39∧t_39<16 ∧
 gI (Sx_11.cell b_3 (o_1+t_39.toNat*1)) .u64 fun t_40=>
 zgV Sx_11 t_38 t_6 t_40 fun t_41 Sx_23=>
 0≤t_37∧t_37<16 ∧
 pt Sx_23 b_3 (o_1+t_37.toNat*1) 1 ([.int .u64 t_41]) fun Sx_24=>
 Jx (IntKind.u64.wrap (t_2+4)) ([.int .u8 0,.int .u64 0]) Sx_24
 else
 Jx (IntKind.u64.wrap (t_2+4)) ([.int .u8 0,.int .u64 0]) Sx_11) fun Jx_1=>
 if t_7=14 then
 Jx_1 true S
 else
 if t_7=15 then
 Jx_1 true S
 else
 if t_7=16 then
 Jx_1 true S
 else
 Jx_1 false S
theorem zhk {S:Mem} {c:List Value} {o:List Value} {Q:List Value→Mem→Prop} (H:zaf S c o Q):zdd S c o Q:=by
 unfold zaf at H
 exact Tr.intro func164 E ntmps164 E fun w0=>an H fun hc H1=>an H1 fun ho H2=>csr<|jM E E E fun b=>jM E E E fun b_1=>by refine zX E fun b_2=>?_;exact nxr<|s_p E (zA E E)<|gx H2 fun t ht H3=>s_v E (zG E) (zR 0 E ht)<|gv E E<|nxr<|s_p E (zA E E)<|gx H3 fun t_1 ht_1 H4=>s_v E (zG E) (zR 1 E ht_1)<|s_p E (jy ⟨_,underlying170⟩ E)<|s_p E (jy ⟨_,underlying2⟩ E)<|gv E E<|nxr<|mv E E<|by obtain⟨b_3,o_1,rfl,H5⟩:=H4;exact s_p E (qx E)<|s_p E (zA E E)<|gx H5 fun t_2 ht_2 H6=>s_v E (zG E) (qh ht_2)<|s_p E (qZ E E)<|gv E E<|nx<|qb<|qa (by kernel_rfl)<|aTP 0 E (by decide +kernel) E (zp E)<|by exact aTP 1 E (by decide +kernel) E (zA E E)<|by exact gx H6 fun t_3 ht_3 H7=>aT 2 E (by decide +kernel) E (zG E) (zR 1 E ht_3)<|by exact aTP 3 E (by decide +kernel) E (qx E)<|by exact aTP 4 E (by decide +kernel) E (zA E E)<|by exact an2 H7 fun c_1 c_2 H8=>aTP 5 E (by decide +kernel) E (wO E E c_1 c_2 E)<|by exact gx H8 fun t_4 ht_4 H9=>aT 6 E (by decide +kernel) E (zG E) (qh ht_4)<|by exact aTP 7 E (by decide +kernel) E (zp E)<|by exact aTP 8 E (by decide +kernel) E (zA E E)<|by exact gx H9 fun t_5 ht_5 H10=>aT 9 E (by decide +kernel) E (zG E) (zR 1 E ht_5)<|by exact aTP 10 E (by decide +kernel) E (qx E)<|by exact aTP 11 E (by decide +kernel) E (zA E E)<|by exact an2 H10 fun c_3 c_4 H11=>aTP 12 E (by decide +kernel) E (wO E E c_3 c_4 E)<|by exact gx H11 fun t_6 ht_6 H12=>aT 13 E (by decide +kernel) E (zG E) (qh ht_6)<|by exact aTP 14 E (by decide +kernel) E (zT E)<|by exact aTP 15 E (by decide +kernel) E (zT E)<|by exact zW (by decide +kernel)<|by exact zB<|zy H12 (fun (J:Int→List Value→Mem→Prop) (z:Int×List Value) S=>J z.1 z.2 S) (fun z=>⟨234,[(4,.pointer (some ⟨b_2,0,none⟩)),(5,.pointer (some ⟨b_3,o_1,none⟩)),(7,.int .u64 z.1)]⟩) (fun z=>[⟨b_2,181,z.2⟩]) (by rintro⟨next,v⟩ Sx H13;exact an H13 fun hv H14=>csr<|mv E E<|mv E E<|s_p E (qx E)<|s_p E (zA E E)<|an H14 fun c_5 H15=>vD E E E E E c_5 E<|nxr<|s_p E (ql E E)<|by exact zn 0 E E E E E E hv E<|nx<|zu<|zt results164 (zv E (zD (k:=2) 0 E E) E zi) ⟨_,E,E,H15⟩) (fun Jx hJx H16=>csr<|s_p E (zA E E)<|gx H16 fun t_7 ht_7 H17=>s_v E (zG E) (zR 1 E ht_7)<|nx<|zK<|csr<|iteK H17 (fun c_6 H18=>ceT E E E (c_6)<|gv E E<|nx<|c_t E E<|qa (by kernel_rfl)<|a_takeP 0 E (by decide +kernel) (zc (za zb)) E (zp E)<|by exact a_takeP 1 E (by decide +kernel) (zc (za zb)) E (zA E E)<|by exact gx H18 fun t_8 ht_8 H19=>zY 2 E (by decide +kernel) (zc (za zb)) E (zG E) (zR 1 E ht_8)<|by exact a_takeP 3 E (by decide +kernel) (zc (za zb)) E (zp E)<|by exact a_takeP 4 E (by decide +kernel) (zc (za zb)) E (qx E)<|by exact a_takeP 5 E (by decide +kernel) (zc (za zb)) E (zA E E)<|by exact an2 H19 fun c_7 c_8 H20=>a_takeP 6 E (by decide +kernel) (zc (za zb)) E (wO E E c_7 c_8 E)<|by exact zw 7 (by decide +kernel) E<|by exact an H20 fun c_9 H21=>vD E E E E E c_9 E<|zr<|zH zq<|zW (by decide +kernel)<|by exact qr<|hJx (IntKind.u64.wrap (t_2+4),[.int .u8 0,.int .u64 0]) _ _ _ _ [2] H21 E ⟨E,E,E,True.intro⟩ E) fun c_6 H18=>ceF E E E (c_6)<|gv E E<|nx<|c_f E E<|csr<|iteK H18 (fun c_10 H22=>ceT E E E (c_10)<|gv E E<|nx<|c_t E E<|qa (by kernel_rfl)<|a_takeP 0 E (by decide +kernel) (zc (za zb)) E (zp E)<|by exact a_takeP 1 E (by decide +kernel) (zc (za zb)) E (zA E E)<|by exact gx H22 fun t_9 ht_9 H23=>zY 2 E (by decide +kernel) (zc (za zb)) E (zG E) (zR 1 E ht_9)<|by exact a_takeP 3 E (by decide +kernel) (zc (za zb)) E (zp E)<|by exact a_takeP 4 E (by decide +kernel) (zc (za zb)) E (zp E)<|by exact a_takeP 6 E (by decide +kernel) (zc (za zb)) E (qx E)<|by exact a_takeP 7 E (by decide +kernel) (zc (za zb)) E (zA E E)<|by exact zw 5 (by decide +kernel) E<|by exact kq E E H23 fun t_10 Sx_3 H24=>zr<|zH (zj (zR 1 E ht_9) zq)<|an2 H24 fun c_11 c_12 H25=>a_takeP 8 E (by decide +kernel) (zc (za zb)) E (wO E E c_11 c_12 E)<|by exact zw 9 (by decide +kernel) E<|by exact an H25 fun c_13 H26=>vD E E E E E c_13 E<|zr<|zH zq<|zW (by decide +kernel)<|by exact qr<|hJx (IntKind.u64.wrap (t_2+4),[.int .u8 0,.int .u64 0]) _ _ _ _ [2] H26 E ⟨E,E,E,True.intro⟩ E) fun c_10 H22=>ceF E E E (c_10)<|gv E E<|nx<|c_f E E<|csr<|iteK H22 (fun c_14 H27=>ceT E E E (c_14)<|gv E E<|nx<|c_t E E<|qa (by kernel_rfl)<|a_takeP 0 E (by decide +kernel) (zc (za zb)) E (zp E)<|by exact a_takeP 1 E (by decide +kernel) (zc (za zb)) E (zA E E)<|by exact gx H27 fun t_11 ht_11 H28=>zY 2 E (by decide +kernel) (zc (za zb)) E (zG E) (zR 1 E ht_11)<|by exact a_takeP 3 E (by decide +kernel) (zc (za zb)) E (zp E)<|by exact a_takeP 4 E (by decide +kernel) (zc (za zb)) E (zp E)<|by exact a_takeP 5 E (by decide +kernel) (zc (za zb)) E (qZ E E)<|by exact a_takeP 6 E (by decide +kernel) (zc (za zb)) E (qx E)<|by exact a_takeP 7 E (by decide +kernel) (zc (za zb)) E (zA E E)<|by exact an2 H28 fun c_15 c_16 H29=>a_takeP 8 E (by decide +kernel) (zc (za zb)) E (wO E E c_15 c_16 E)<|by exact zw 9 (by decide +kernel) E<|by exact an H29 fun c_17 H30=>vD E E E E E c_17 E<|zr<|zH zq<|zW (by decide +kernel)<|by exact qr<|hJx (IntKind.u64.wrap (t_2+4),[.int .u8 0,.int .u64 0]) _ _ _ _ [2] H30 E ⟨E,E,E,True.intro⟩ E) fun c_14 H27=>ceF E E E (c_14)<|gv E E<|nx<|c_f E E<|csr<|iteK H27 (fun c_18 H31=>ceT E E E (c_18)<|gv E E<|nx<|c_t E E<|csr<|by refine s_v E (qk E hc) (zD (k:=4) 0 E (ze hc)) ?_;exact mv E E<|mv E E<|s_p E (qZ E E)<|ziz E E H31 fun t_12 t_13 Sx_6 H32=>mv E E<|s_p E (zk E E)<|iteK H32 (fun c_19 H33=>s_p E (yB (zk E E) c_19)<|gv E E<|gv E E<|nx<|qb<|csr<|mv E E<|s_p E (yB (ym E) E)<|nx<|cfs E E<|zB<|qa (by kernel_rfl)<|a_takeP 0 E (by decide +kernel) (zc (za zb)) E (zp E)<|by exact a_takeP 1 E (by decide +kernel) (zc (za zb)) E (zA E E)<|by exact gx H33 fun t_14 ht_14 H34=>zY 2 E (by decide +kernel) (zc (za zb)) E (zG E) (zR 1 E ht_14)<|by exact a_takeP 3 E (by decide +kernel) (zc (za zb)) E (zp E)<|by exact a_takeP 4 E (by decide +kernel) (zc (za zb)) E (qx E)<|by exact a_takeP 5 E (by decide +kernel) (zc (za zb)) E (zA E E)<|by exact an2 H34 fun c_20 c_21 H35=>a_takeP 6 E (by decide +kernel) (zc (za zb)) E (wO E E c_20 c_21 E)<|by exact zw 7 (by decide +kernel) E<|by exact an H35 fun c_22 H36=>vD E E E E E c_22 E<|zr<|zH zq<|zW (by decide +kernel)<|by exact qr<|hJx (IntKind.u64.wrap (t_2+4),[.int .u8 0,.int .u64 0]) _ _ _ _ [2] H36 E ⟨E,E,E,True.intro⟩ E) fun c_19 H33=>s_p E (yB (zk E E) (zfp c_19))<|gv E E<|gv E E<|nx<|qb<|csr<|mv E E<|s_p E (yB (ym E) E)<|nx<|c_t E E<|csr<|by refine s_v E (qk E hc) (zD (k:=4) 0 E (ze hc)) ?_;exact mv E E<|mv E E<|s_p E (qZ E E)<|qz E E H33 fun rv Sx_8 H37=>by obtain⟨t_15,rfl,ht_15,H38⟩:=H37;exact an H38 fun c_23 H39=>zn 2 E E E E E ht_15 E c_23<|nx<|zu<|zd<|zo<|zd<|zt results164 (zv E (zD (k:=2) 2 E (ze ht_15)) ht_15 zi) ⟨_,E,ht_15,H39⟩) fun c_18 H31=>ceF E E E (c_18)<|gv E E<|nx<|c_f E E<|csr<|iteK H31 (fun c_24 H40=>ceT E E E (c_24)<|gv E E<|nx<|c_t E E<|csr<|by refine s_v E (qk E hc) (zD (k:=4) 0 E (ze hc)) ?_;exact mv E E<|mv E E<|s_p E (qZ E E)<|mv E E<|kq E E H40 fun t_16 Sx_9 H41=>by have H42:=zfs H41;rcases H42 with ⟨rfl,H43⟩ | ⟨rfl,H43⟩;exact (s_p E (yB (ym E) E)<|nx<|cfs E E<|qr<|hJx (IntKind.u64.wrap (t_2+4),[.int .u8 0,.int .u64 0]) _ _ _ _ [2] H43 E ⟨E,E,E,True.intro⟩ E);exact (s_p E (yB (ym E) E)<|nx<|c_t E E<|csr<|by refine s_v E (qk E hc) (zD (k:=4) 0 E (ze hc)) ?_;exact mv E E<|mv E E<|s_p E (qZ E E)<|qz E E H43 fun rv Sx_10 H44=>by obtain⟨t_17,rfl,ht_17,H45⟩:=H44;exact an H45 fun c_25 H46=>zn 2 E E E E E ht_17 E c_25<|nx<|zu<|zo<|zd<|zt results164 (zv E (zD (k:=2) 2 E (ze ht_17)) ht_17 zi) ⟨_,E,ht_17,H46⟩)) fun c_24 H40=>ceF E E E (c_24)<|gv E E<|nx<|c_f E E<|zy H40 (fun (J:Bool→Mem→Prop) (z:Bool) S=>J z S) (fun z=>⟨234,[(2,.pointer (some ⟨b,0,none⟩)),(3,.pointer (some ⟨b_1,0,none⟩)),(4,.pointer (some ⟨b_2,0,none⟩)),(5,.pointer (some ⟨b_3,o_1,none⟩)),(6,.int .u64 (IntKind.u64.wrap (IntKind.i64.wrap t_1))),(7,.int .u64 (IntKind.u64.wrap (t_2+4))),(8,.int .u64 t_4),(9,.int .u64 t_6),(38,.int .u8 t_7),(128,.bool z)]⟩) (fun z=>[⟨b,249,c⟩,⟨b_1,256,o⟩,⟨b_2,181,[.int .u8 0,.int .u64 0]⟩]) (fun t_18 Sx_11 H47=>by have H48:=zfs H47;rcases H48 with ⟨c_26,H49⟩ | ⟨c_26,H49⟩;exact (c_t E c_26<|csr<|s_p E (zA E E)<|gx H49 fun t_19 ht_19 H50=>s_v E (zG E) (zR 1 E ht_19)<|mv E E<|mv E E<|kq E E H50 fun t_20 Sx_12 H51=>by have H52:=zfs H51;rcases H52 with ⟨rfl,H53⟩ | ⟨rfl,H53⟩;exact (nx<|ctr E E<|mv E E<|s_p E (qx E)<|s_p E (zA E E)<|gx H53 fun t_21 ht_21 H54=>s_v E (zG E) (qh ht_21)<|mv E E<|s_p E (zkV E E)<|s_p E (qZ E E)<|gv E E<|zr<|qr<|hJx (IntKind.u64.wrap (t_21+(IntKind.u64.wrap (4*(IntKind.u64.wrap (IntKind.i64.wrap t_1))))),[.int .u8 0,.int .u64 0]) _ _ _ _ [2] H54 E ⟨E,E,E,True.intro⟩ E);exact (nx<|cfs E E<|qr<|hJx (IntKind.u64.wrap (t_2+4),[.int .u8 0,.int .u64 0]) _ _ _ _ [2] H53 E ⟨E,E,E,True.intro⟩ E));exact (c_f E c_26<|csr<|iteK H49 (fun c_27 H55=>ceT E E E (c_27)<|gv E E<|nx<|c_t E E<|qa (by kernel_rfl)<|a_takeP 0 E (by decide +kernel) (zc (za zb)) E (zp E)<|by exact a_takeP 1 E (by decide +kernel) (zc (za zb)) E (zA E E)<|by exact gx H55 fun t_22 ht_22 H56=>zY 2 E (by decide +kernel) (zc (za zb)) E (zG E) (zR 1 E ht_22)<|by exact a_takeP 3 E (by decide +kernel) (zc (za zb)) E (zp E)<|by exact a_takeP 4 E (by decide +kernel) (zc (za zb)) E (zp E)<|by exact a_takeP 5 E (by decide +kernel) (zc (za zb)) E (zp E)<|by exact a_takeP 6 E (by decide +kernel) (zc (za zb)) E (qZ E E)<|by exact a_takeP 7 E (by decide +kernel) (zc (za zb)) E (qx E)<|by exact a_takeP 8 E (by decide +kernel) (zc (za zb)) E (zA E E)<|by exact an2 H56 fun c_28 c_29 H57=>a_takeP 9 E (by decide +kernel) (zc (za zb)) E (wO E E c_28 c_29 E)<|by exact zw 10 (by decide +kernel) E<|by exact an H57 fun c_30 H58=>vD E E E E E c_30 E<|zr<|zH zq<|a_takeP 11 E (by decide +kernel) (zc (za zb)) E (zT E)<|by exact zW (by decide +kernel)<|by exact qr<|hJx (IntKind.u64.wrap (t_6+(IntKind.u64.wrap (IntKind.i64.wrap t_1))),[.int .u8 0,.int .u64 0]) _ _ _ _ [2] H58 E ⟨E,E,E,True.intro⟩ E) fun c_27 H55=>ceF E E E (c_27)<|gv E E<|nx<|c_f E E<|csr<|iteK H55 (fun c_31 H59=>ceT E E E (c_31)<|gv E E<|nx<|c_t E E<|qa (by kernel_rfl)<|a_takeP 0 E (by decide +kernel) (zc (za zb)) E (zp E)<|by exact a_takeP 1 E (by decide +kernel) (zc (za zb)) E (zA E E)<|by exact gx H59 fun t_23 ht_23 H60=>zY 2 E (by decide +kernel) (zc (za zb)) E (zG E) (zR 1 E ht_23)<|by exact a_takeP 3 E (by decide +kernel) (zc (za zb)) E (zp E)<|by exact a_takeP 4 E (by decide +kernel) (zc (za zb)) E (qx E)<|by exact gx H60 fun t_24 ht_24 H61=>by refine zY 5 E (by decide +kernel) (zc (za zb)) E (qk E (qL ht_24)) (jw ht_24) ?_;exact a_takeP 6 E (by decide +kernel) (zc (za zb)) E (zA E E)<|by exact gx H61 fun t_25 ht_25 H62=>zY 7 E (by decide +kernel) (zc (za zb)) E (zG E) (zR 1 E ht_25)<|by exact a_takeP 8 E (by decide +kernel) (zc (za zb)) E (jy ⟨_,underlying170⟩ E)<|by exact a_takeP 9 E (by decide +kernel) (zc (za zb)) E (zA E E)<|by exact gx H62 fun t_26 ht_26 H63=>zY 10 E (by decide +kernel) (zc (za zb)) E (zG E) (zR 0 E ht_26)<|by exact a_takeP 11 E (by decide +kernel) (zc (za zb)) E (zA E E)<|by exact gx H63 fun t_27 ht_27 H64=>zY 12 E (by decide +kernel) (zc (za zb)) E (zG E) (zR 0 E ht_27)<|by exact a_takeP 17 E (by decide +kernel) (zc (za zb)) E (qx E)<|by exact a_takeP 18 E (by decide +kernel) (zc (za zb)) E (zA E E)<|by exact zw 13 (by decide +kernel) E<|by exact ziz E E H64 fun t_28 t_29 Sx_14 H65=>zr<|zH (zj (zR 1 E ht_25) (zj (zR 1 E ht_23) zq))<|a_takeP 14 E (by decide +kernel) (zc (za zb)) E (zp E)<|by exact a_takeP 15 E (by decide +kernel) (zc (za zb)) E (zk E E)<|by exact a_takeP 16 E (by decide +kernel) (zc (za zb)) E (zk E E)<|by exact an2 H65 fun c_32 c_33 H66=>a_takeP 19 E (by decide +kernel) (zc (za zb)) E (wO E E c_32 c_33 E)<|by exact zw 20 (by decide +kernel) E<|by exact an H66 fun c_34 H67=>vD E E E E E c_34 E<|zr<|zH zq<|zW (by decide +kernel)<|by exact qr<|hJx (IntKind.u64.wrap (t_2+4),[.int .u8 0,.int .u64 0]) _ _ _ _ [2] H67 E ⟨E,E,E,True.intro⟩ E) fun c_31 H59=>ceF E E E (c_31)<|gv E E<|nx<|c_f E E<|csr<|iteK H59 (fun c_35 H68=>ceT E E E (c_35)<|gv E E<|nx<|c_t E E<|qb<|csr<|mv E E<|s_p E (zA E E)<|gx H68 fun t_30 ht_30 H69=>s_v E (zG E) (zR 1 E ht_30)<|s_p E (jy ⟨_,underlying170⟩ E)<|mv E E<|kq E E H69 fun t_31 Sx_16 H70=>by have H71:=zfs H70;rcases H71 with ⟨rfl,H72⟩ | ⟨rfl,H72⟩;exact (s_p E (yB (ym E) E)<|nx<|cfs E E<|zB<|zE<|mv E E<|zlu E E H72 fun Sx_17 H73=>zr<|qr<|hJx (IntKind.u64.wrap (t_2+4),[.int .u8 0,.int .u64 0]) _ _ _ _ [2] H73 E ⟨E,E,E,True.intro⟩ E);exact (s_p E (yB (ym E) E)<|nx<|c_t E E<|qb<|qa (by kernel_rfl)<|by refine zY 0 E (by decide +kernel) (za (za (zc (za zb)))) E (qk E hc) (zD (k:=4) 0 E (ze hc)) ?_;exact a_takeP 1 E (by decide +kernel) (za (za (zc (za zb)))) E (zp E)<|by exact a_takeP 2 E (by decide +kernel) (za (za (zc (za zb)))) E (qx E)<|by exact a_takeP 3 E (by decide +kernel) (za (za (zc (za zb)))) E (zA E E)<|by exact gx H72 fun t_32 ht_32 H74=>zY 4 E (by decide +kernel) (za (za (zc (za zb)))) E (zG E) (qh ht_32)<|by exact zw 5 (by decide +kernel) E<|by exact qz E E H74 fun rv Sx_18 H75=>by obtain⟨t_33,rfl,ht_33,H76⟩:=H75;exact zr<|zH zq<|zw 6 (by decide +kernel) E<|by exact an H76 fun c_36 H77=>zn 2 E E E E E ht_33 E c_36<|zr<|zH zq<|zW (by decide +kernel)<|by exact zB<|zu<|zd<|zo<|zd<|zt results164 (zv E (zD (k:=2) 2 E (ze ht_33)) ht_33 zi) ⟨_,E,ht_33,H77⟩)) fun c_35 H68=>ceF E E E (c_35)<|gv E E<|nx<|c_f E E<|csr<|iteK H68 (fun c_37 H78=>ceT E E E (c_37)<|gv E E<|nx<|c_t E E<|csr<|mv E E<|mv E E<|s_p E (qx E)<|s_p E (zA E E)<|an H78 fun c_38 H79=>vD E E E E E c_38 E<|nxr<|mv E E<|s_p E (ql E E)<|by exact wX (sz:=2) (vs:=[.int .u8 2,.int .u64 (IntKind.u64.wrap (IntKind.i64.wrap t_1))]) 2 E E E E E E (Nat.le_of_ble_eq_true E) E<|nx<|zu<|zo<|zd<|zt results164 (zv E (zD (k:=2) 2 E E) E zi) ⟨_,E,E,H79⟩) fun c_37 H78=>ceF E E E (c_37)<|gv E E<|nx<|c_f E E<|csr<|iteK H78 (fun c_39 H80=>ceT E E E (c_39)<|gv E E<|nx<|c_t E E<|csr<|mv E E<|mv E E<|s_p E (qx E)<|s_p E (zA E E)<|an H80 fun c_40 H81=>vD E E E E E c_40 E<|nx<|qb<|qb<|qa (by kernel_rfl)<|a_takeP 0 E (by decide +kernel) (za (za (zc (za zb)))) E (zp E)<|by exact a_takeP 1 E (by decide +kernel) (za (za (zc (za zb)))) E (qx E)<|by exact a_takeP 2 E (by decide +kernel) (za (za (zc (za zb)))) E (zA E E)<|by exact gx H81 fun t_34 ht_34 H82=>zY 3 E (by decide +kernel) (za (za (zc (za zb)))) E (zG E) (qh ht_34)<|by exact a_takeP 4 E (by decide +kernel) (za (za (zc (za zb)))) E (zp E)<|by exact a_takeP 5 E (by decide +kernel) (za (za (zc (za zb)))) E (qx E)<|by exact a_takeP 6 E (by decide +kernel) (za (za (zc (za zb)))) E (zA E E)<|by exact gx H82 fun t_35 ht_35 H83=>zY 7 E (by decide +kernel) (za (za (zc (za zb)))) E (zG E) (qh ht_35)<|by exact a_takeP 8 E (by decide +kernel) (za (za (zc (za zb)))) E (zom E E)<|by exact iteK H83 (fun c_41 H84=>a_takeP 9 E (by decide +kernel) (za (za (zc (za zb)))) E (yT (zdE E E) c_41)<|by exact zW (by decide +kernel)<|by exact zB<|c_t E E<|csr<|mv E E<|s_p E (qx E)<|s_p E (zA E E)<|an H84 fun c_42 H85=>vD E E E E E c_42 E<|nxr<|s_p E (ql E E)<|by exact wX (sz:=2) (vs:=[.int .u8 3,.int .u64 0]) 2 E E E E E E (Nat.le_of_ble_eq_true E) E<|nx<|zu<|zd<|zo<|zd<|zt results164 (zv E (zD (k:=2) 2 E E) E zi) ⟨_,E,E,H85⟩) fun c_41 H84=>a_takeP 9 E (by decide +kernel) (za (za (zc (za zb)))) E (yF (zdE E E) c_41)<|by exact zW (by decide +kernel)<|by exact zB<|cfs E E<|zB<|csr<|s_p E (ql E E)<|by exact wX (sz:=2) (vs:=[.int .u8 0,.int .u64 0]) 2 E E E E E E (Nat.le_of_ble_eq_true E) E<|nx<|zu<|zo<|zd<|zt results164 (zv E (zD (k:=2) 2 E E) E zi) ⟨_,E,E,H84⟩) fun c_39 H80=>ceF E E E (c_39)<|gv E E<|nx<|c_f E E<|csr<|iteK H80 (fun c_43 H86=>ceT E E E (c_43)<|gv E E<|nx<|c_t E E<|csr<|mv E E<|zlu E E H86 fun Sx_22 H87=>nx<|qb<|by exact zE<|s_p E (ql E E)<|by exact wX (sz:=2) (vs:=[.int .u8 0,.int .u64 0]) 2 E E E E E E (Nat.le_of_ble_eq_true E) E<|nx<|zu<|zo<|zd<|zt results164 (zv E (zD (k:=2) 2 E E) E zi) ⟨_,E,E,H87⟩) fun c_43 H86=>ceF E E E (c_43)<|gv E E<|nx<|c_f E E<|csr<|s_p E (zA E E)<|gx H86 fun t_36 ht_36 H88=>s_v E (zG E) (zR 1 E ht_36)<|iteK H88 (fun c_44 H89=>by exact s_p E (yT (wT E E) c_44)<|nx<|c_t E E<|qa (by kernel_rfl)<|a_takeP 0 E (by decide +kernel) (zc (za zb)) E (zp E)<|by exact a_takeP 1 E (by decide +kernel) (zc (za zb)) E (zA E E)<|by exact gx H89 fun t_37 ht_37 H90=>zY 2 E (by decide +kernel) (zc (za zb)) E (zG E) (zR 1 E ht_37)<|by exact a_takeP 3 E (by decide +kernel) (zc (za zb)) E (zA E E)<|by exact gx H90 fun t_38 ht_38 H91=>zY 4 E (by decide +kernel) (zc (za zb)) E (zG E) (zR 1 E ht_38)<|by exact a_takeP 5 E (by decide +kernel) (zc (za zb)) E (zp E)<|by exact a_takeP 6 E (by decide +kernel) (zc (za zb)) E (zp E)<|by exact a_takeP 7 E (by decide +kernel) (zc (za zb)) E (zA E E)<|by exact gx H91 fun t_39 ht_39 H92=>zY 8 E (by decide +kernel) (zc (za zb)) E (zG E) (zR 1 E ht_39)<|by exact a_takeP 9 E (by decide +kernel) (zc (za zb)) E (qx E)<|by exact a_takeP 10 E (by decide +kernel) (zc (za zb)) E (zA E E)<|by exact an2 H92 fun c_45 c_46 H93=>a_takeP 11 E (by decide +kernel) (zc (za zb)) E (wO E E c_45 c_46 E)<|by exact gx H93 fun t_40 ht_40 H94=>zY 12 E (by decide +kernel) (zc (za zb)) E (zG E) (qh ht_40)<|by exact a_takeP 14 E (by decide +kernel) (zc (za zb)) E (qx E)<|by exact a_takeP 15 E (by decide +kernel) (zc (za zb)) E (zA E E)<|by exact zw 13 (by decide +kernel) E<|by exact kq E E H94 fun t_41 Sx_23 H95=>zr<|zH (zj (zR 1 E ht_39) (zj (zR 1 E ht_37) zq))<|an2 H95 fun c_47 c_48 H96=>a_takeP 16 E (by decide +kernel) (zc (za zb)) E (wO E E c_47 c_48 E)<|by exact zw 17 (by decide +kernel) E<|by exact an H96 fun c_49 H97=>vD E E E E E c_49 E<|zr<|zH zq<|zW (by decide +kernel)<|by exact qr<|hJx (IntKind.u64.wrap (t_2+4),[.int .u8 0,.int .u64 0]) _ _ _ _ [2] H97 E ⟨E,E,E,True.intro⟩ E) fun c_44 H89=>by exact s_p E (yF (wT E E) c_44)<|nx<|cfs E E<|qr<|hJx (IntKind.u64.wrap (t_2+4),[.int .u8 0,.int .u64 0]) _ _ _ _ [2] H89 E ⟨E,E,E,True.intro⟩ E)) (fun Jx_1 hJx_1 H98=>csr<|by exact iteK H98 (fun c_50 H99=>ceT E E E (c_50)<|gv E E<|nx<|c_t E E<|yV<|hJx_1 true _ _ _ _ [0,0,0] H99 E ⟨E,E,E,E,E,E,E,E,E,E,True.intro⟩ E) fun c_50 H99=>ceF E E E (c_50)<|gv E E<|nx<|c_f E E<|csr<|iteK H99 (fun c_51 H100=>ceT E E E (c_51)<|gv E E<|nx<|c_t E E<|yV<|hJx_1 true _ _ _ _ [0,0,0] H100 E ⟨E,E,E,E,E,E,E,E,E,E,True.intro⟩ E) fun c_51 H100=>ceF E E E (c_51)<|gv E E<|nx<|cfr E E<|iteK H100 (fun c_52 H101=>ceT E E E (c_52)<|gv E E<|zr<|hJx_1 true _ _ _ _ [0,0,0] H101 E ⟨E,E,E,E,E,E,E,E,E,E,True.intro⟩ E) fun c_52 H101=>ceF E E E (c_52)<|gv E E<|zr<|hJx_1 false _ _ _ _ [0,0,0] H101 E ⟨E,E,E,E,E,E,E,E,E,E,True.intro⟩ E))
def js (S:Mem) (c:List Value) (addr:Int) (write:Bool) (Q:Int→Int→Bool→Mem→Prop):Prop:=
 c.length=4 ∧
 jn (fun (Sx:Mem)=>
 jn (fun (Sx_1:Mem)=>
 gP (nthL c 0) fun t=>
 nn t fun b_1 o=>
 gI (Sx_1.cell b_1 (o+17)) .u64 fun t_1=>
 jn (fun (Sx_2:Mem)=>
 gV (nthL c 1) fun t_2=>
 ci prog Sx_2 t_2 "Load" [.int .i64 (IntKind.i64.wrap (IntKind.u64.wrap (Int.tdiv t_1 256))), .int .i64 (IntKind.i64.wrap (IntKind.u64.wrap (8 * (IntKind.u64.wrap (Int.tdiv addr 256))))), .int .i64 8] fun rv Sx_3 => ∃ t_3 : Sl, ∃ t_4 : Int, rv = .tuple #[eL t_3, .int .i64 t_4] ∧ 
 zen Sx_3 t_3 fun t_5 Sx_4=>
 jn (fun (Sx_5:Mem)=>
 Q (IntKind.i64.wrap (ishr .u64 t_5 8)) (IntKind.i64.wrap (Int.tmod addr 256)) true Sx_5) fun Jx=>
 if t_4≠0 then
 Q 0 0 false Sx_4
 else
 if iand .u64 t_5 1=0 then
 Q 0 0 false Sx_4
 else
 if write=true then
 if iand .u64 t_5 2=0 then
 Q 0 0 false Sx_4
 else
 if 32≤ishr .u64 t_5 8 then
 Q 0 0 false Sx_4
 else
 Jx Sx_4
 else
 if 32≤ishr .u64 t_5 8 then
 Q 0 0 false Sx_4
 else
 Jx Sx_4) fun Jx_1=>
 if 32≤IntKind.u64.wrap (Int.tdiv t_1 256) then
 Q 0 0 false Sx_1
 else
 Jx_1 Sx_1) fun Jx_2=>
 gP (nthL c 0) fun t_6=>
 nn t_6 fun b_2 o_1=>
 gI (Sx.cell b_2 (o_1+17)) .u64 fun t_7=>
 if t_7=0 then
 Q (IntKind.i64.wrap (IntKind.u64.wrap (Int.tdiv addr 256))) (IntKind.i64.wrap (Int.tmod addr 256)) true Sx
 else
 Jx_2 Sx) fun Jx_3=>
 if 32≤IntKind.u64.wrap (Int.tdiv addr 256) then
 Q 0 0 false S
 else
 Jx_3 S
theorem zeE {S:Mem} {c:List Value} {addr:Int} {write:Bool} {Q:Int→Int→Bool→Mem→Prop} (H:js S c addr write Q):kC S c addr write Q:=by
 unfold js at H
 have:=dj1 14 [10,14]
 have:=dj (α:=Unit) 10 [2,3,9,10,11] (fun _=>[]) (fun _=>[(0,none)])
 have:=dj (α:=Unit) 7 [2,3,9,10] (fun _=>[]) (fun _=>[(0,none)])
 have:=dj (α:=Unit) 5 [2,3,9,10] (fun _=>[]) (fun _=>[(0,none)])
 exact Tr.intro func198 E ntmps198 E fun w0=>go results198 H
def jX (S:Mem) (c:List Value) (addr:Int) (w:Int) (Q:Bool→Mem→Prop):Prop:=
 c.length=4 ∧
 jn (fun (page:Int) (off:Int) (ok:Bool) (Sx:Mem)=>
 if ok=true then
 if Int.tmod addr 8=0 then
 gV (nthL c 1) fun t=>
 isI t ∧
 zal Sx w fun t_1 Sx_1=>
 ci prog Sx_1 t "Save" [.int .i64 page, .int .i64 off, eL t_1] fun rv Sx_2 => ∃ t_2 : Int, rv = .int .i64 t_2 ∧ 
 Q (decide (t_2=0)) Sx_2
 else
 Q false Sx
 else
 Q false Sx) fun Jx=>
 kC S c addr true fun t_3 t_4 t_5 Sx_3=>
 if t_5=true then
 Jx t_3 t_4 true Sx_3
 else
 Jx t_3 t_4 false Sx_3
theorem zfy {S:Mem} {c:List Value} {addr:Int} {w:Int} {Q:Bool→Mem→Prop} (H:jX S c addr w Q):fV S c addr w Q:=by
 unfold jX at H
 exact Tr.intro func201 E ntmps201 E fun w0=>an H fun hc H1=>csr<|jM E E E fun b=>gv E E<|nx<|zy H1 (fun (J:Int→Int→Bool→Mem→Prop) (z:Int×Int×Bool) S=>J z.1 z.2.1 z.2.2 S) (fun z=>⟨35,[(1,.int .u64 addr),(2,.int .u64 w),(3,.pointer (some ⟨b,0,none⟩)),(7,.int .i64 z.1),(8,.int .i64 z.2.1),(9,.bool z.2.2)]⟩) (fun z=>[⟨b,249,c⟩]) (by rintro⟨page,off,ok⟩ Sx H2;exact qb<|qa (by kernel_rfl)<|iteK H2 (fun c_1 H3=>aTP 0 E (by decide +kernel) E (zel E c_1)<|by exact aTP 1 E (by decide +kernel) E (zp E)<|by exact aTP 2 E (by decide +kernel) E (zp E)<|by exact aTP 3 E (by decide +kernel) E (zid E E (by decide))<|by exact iteK H3 (fun c_2 H4=>aTP 4 E (by decide +kernel) E (yT (zdE E E) c_2)<|by exact aTP 5 E (by decide +kernel) E (fp E E)<|by exact aTP 6 E (by decide +kernel) E (zp E)<|by exact aTP 7 E (by decide +kernel) E (zA E E)<|by exact gx H4 fun t ht H5=>aT 8 E (by decide +kernel) E (zG E) (zR 0 E ht)<|by exact aTP 9 E (by decide +kernel) E (zp E)<|by exact aTP 10 E (by decide +kernel) E (zp E)<|by exact aTP 11 E (by decide +kernel) E (zp E)<|by exact an H5 fun c_3 H6=>aTP 13 E (by decide +kernel) E (zpy c_3 E)<|by exact aTP 14 E (by decide +kernel) E (zp E)<|by exact zw 12 (by decide +kernel) E<|by exact kq E E H6 fun t_1 Sx_1 H7=>zr<|zH (zj (zR 0 E ht) zq)<|zw 15 (by decide +kernel) E<|by exact zkS E E E H7 fun rv Sx_2 H8=>by obtain⟨t_2,rfl,H9⟩:=H8;exact zr<|zH (zj (zR 0 E ht) zq)<|aTP 16 E (by decide +kernel) E (zdE E E)<|by exact aTP 17 E (by decide +kernel) E (fp E E)<|by exact aTP 18 E (by decide +kernel) E (zT E)<|by exact zW (by decide +kernel)<|by exact zB<|zu<|zt results201 (zf E zi) ⟨_,E,H9⟩) fun c_2 H4=>aTP 4 E (by decide +kernel) E (yF (zdE E E) c_2)<|by exact aTP 5 E (by decide +kernel) E (fp E E)<|by exact aTP 6 E (by decide +kernel) E (zp E)<|by exact qH 7 E (by decide +kernel) (za zb) E<|by exact qH 8 E (by decide +kernel) (za zb) E<|by exact qH 9 E (by decide +kernel) (za zb) E<|by exact qH 10 E (by decide +kernel) (za zb) E<|by exact qH 11 E (by decide +kernel) (za zb) E<|by exact qH 12 E (by decide +kernel) (za zb) E<|by exact qH 13 E (by decide +kernel) (za zb) E<|by exact qH 14 E (by decide +kernel) (za zb) E<|by exact qH 15 E (by decide +kernel) (za zb) E<|by exact qH 16 E (by decide +kernel) (za zb) E<|by exact aTP 17 E (by decide +kernel) E (fp E E)<|by exact aTP 18 E (by decide +kernel) E (zT E)<|by exact zW (by decide +kernel)<|by exact zB<|zu<|zt results201 (zf E zi) ⟨_,E,H4⟩) fun c_1 H3=>aTP 0 E (by decide +kernel) E (zel E (zfp c_1))<|by exact aTP 1 E (by decide +kernel) E (zp E)<|by exact qH 2 E (by decide +kernel) (za zb) E<|by exact qH 3 E (by decide +kernel) (za zb) E<|by exact qH 4 E (by decide +kernel) (za zb) E<|by exact aTP 5 E (by decide +kernel) E (fp E E)<|by exact aTP 6 E (by decide +kernel) E (zp E)<|by exact qH 7 E (by decide +kernel) (za zb) E<|by exact qH 8 E (by decide +kernel) (za zb) E<|by exact qH 9 E (by decide +kernel) (za zb) E<|by exact qH 10 E (by decide +kernel) (za zb) E<|by exact qH 11 E (by decide +kernel) (za zb) E<|by exact qH 12 E (by decide +kernel) (za zb) E<|by exact qH 13 E (by decide +kernel) (za zb) E<|by exact qH 14 E (by decide +kernel) (za zb) E<|by exact qH 15 E (by decide +kernel) (za zb) E<|by exact qH 16 E (by decide +kernel) (za zb) E<|by exact aTP 17 E (by decide +kernel) E (fp E E)<|by exact aTP 18 E (by decide +kernel) E (zT E)<|by exact zW (by decide +kernel)<|by exact zB<|zu<|zt results201 (zf E zi) ⟨_,E,H3⟩) (fun Jx hJx H10=>zE<|by refine s_v E (qk E hc) (zD (k:=4) 0 E (ze hc)) ?_;exact mv E E<|zrw E E H10 fun t_3 t_4 t_5 Sx_3 H11=>mv E E<|s_p E (zk E E)<|s_p E (zk E E)<|iteK H11 (fun c_4 H12=>s_p E (yB (zk E E) c_4)<|gv E E<|gv E E<|gv E E<|zr<|hJx (t_3,t_4,true) _ _ _ _ [0] H12 E ⟨E,E,E,E,E,E,True.intro⟩ E) fun c_4 H12=>s_p E (yB (zk E E) (zfp c_4))<|gv E E<|gv E E<|gv E E<|zr<|hJx (t_3,t_4,false) _ _ _ _ [0] H12 E ⟨E,E,E,E,E,E,True.intro⟩ E)
def jr (S:Mem) (k:Int) (a:Int) (b:Int) (Q:Bool→Mem→Prop):Prop:=
 jn (fun (Sx:Mem)=>
 Q (decide (IntKind.i64.wrap a<IntKind.i64.wrap b)) Sx) fun Jx=>
 if k=14 then
 Q (decide (a=b)) S
 else
 if k=15 then
 Q (decide (a≠b)) S
 else
 Jx S
theorem zbi {S:Mem} {k:Int} {a:Int} {b:Int} {Q:Bool→Mem→Prop} (H:jr S k a b Q):fU S k a b Q:=by
 unfold jr at H
 have:=dj1 7 [1,2]
 exact Tr.intro func202 E ntmps202 E fun w0=>go results202 H
def zfr (S:Mem) (k:Int) (b:Int) (c:Int) (Q:Int→Mem→Prop):Prop:=
 jn (fun (Sx:Mem)=>
 0≤iand .u64 c 63 ∧
 Q (ishr .u64 b (iand .u64 c 63)) Sx) fun Jx=>
 if k=3 then
 Q (IntKind.u64.wrap (b+c)) S
 else
 if k=4 then
 Q (IntKind.u64.wrap (b-c)) S
 else
 if k=5 then
 Q (IntKind.u64.wrap (b*c)) S
 else
 if k=6 then
 Q (iand .u64 b c) S
 else
 if k=7 then
 Q (ior .u64 b c) S
 else
 if k=8 then
 Q (ixor .u64 b c) S
 else
 if k=9 then
 0≤iand .u64 c 63 ∧
 Q (ishl .u64 b (iand .u64 c 63)) S
 else
 Jx S
theorem zlj {S:Mem} {k:Int} {b:Int} {c:Int} {Q:Int→Mem→Prop} (H:zfr S k b c Q):zgV S k b c Q:=by
 unfold zfr at H
 have:=dj1 17 [1,2]
 exact Tr.intro func206 E ntmps206 E fun w0=>go results206 H
end
section
open Go Go.Pt Go.Proofs.Tryz
attribute [local irreducible] lt WD WN Code.wp Back bodyPost wpList FR WL WC WQ WA AW Tr Yc HC AllC
def fe (S:Mem) (w:Int) (Q:List Value→Bool→Mem→Prop):Prop:=
 yG S (IntKind.u64.wrap w) 26 6 fun t Sx=>
 yG Sx (IntKind.u64.wrap w) 22 4 fun t_1 Sx_1=>
 yG Sx_1 (IntKind.u64.wrap w) 18 4 fun t_2 Sx_2=>
 jn (fun (o:List Value) (Sx_3:Mem)=>
 o.length=5 ∧
 zbt Sx_3 o fun t_3 t_4 Sx_4=>
 if t_4=true then
 if t_3≠w then
 Q ([.int .u8 0,.int .u8 0,.int .u8 0,.int .u8 0,.int .i16 0]) false Sx_4
 else
 o.all (·.oneCell')=true ∧
 Q o true Sx_4
 else
 Q ([.int .u8 0,.int .u8 0,.int .u8 0,.int .u8 0,.int .i16 0]) false Sx_4) fun Jx=>
 jb Sx_2 (IntKind.u8.wrap t) fun t_5 Sx_5=>
 gB (nthL t_5 2) fun t_6=>
 if t_6=true then
 yG Sx_5 (IntKind.u64.wrap w) 0 4 fun t_7 Sx_6=>
 Jx ([.int .u8 (IntKind.u8.wrap t),.int .u8 (IntKind.u8.wrap t_1),.int .u8 (IntKind.u8.wrap t_2),.int .u8 (IntKind.u8.wrap t_7),.int .i16 0]) Sx_6
 else
 yG Sx_5 (IntKind.u64.wrap w) 0 16 fun t_8 Sx_7=>
 Jx ([.int .u8 (IntKind.u8.wrap t),.int .u8 (IntKind.u8.wrap t_1),.int .u8 (IntKind.u8.wrap t_2),.int .u8 0,.int .i16 (IntKind.i16.wrap t_8)]) Sx_7
theorem zgr {S:Mem} {w:Int} {Q:List Value→Bool→Mem→Prop} (H:fe S w Q):zbu S w Q:=by
 unfold fe at H
 have:=dj (α:=List Value×Unit) 7 [0,2,5] (fun _=>[]) (fun z=>[(0,none),(1,some z.1)])
 exact Tr.intro func163 E ntmps163 E fun w0=>go results163 H
def fc (S:Mem) (code:Int) (Q:List Value→Mem→Prop):Prop:=
 jn (fun (v:List Value) (Sx:Mem)=>
 v.length=4 ∧
 Q ([.bool true,.bool true,.bool true,.bool false]) Sx) fun Jx=>
 jn (fun (t:Bool) (Sx_1:Mem)=>
 if t=true then
 Q ([.bool false,.bool false,.bool false,.bool false]) Sx_1
 else
 jn (fun (t_1:Bool) (Sx_2:Mem)=>
 if t_1=true then
 Q ([.bool true,.bool false,.bool false,.bool true]) Sx_2
 else
 if code=20 then
 Q ([.bool false,.bool false,.bool false,.bool true]) Sx_2
 else
 jn (fun (t_2:Bool) (Sx_3:Mem)=>
 if t_2=true then
 Q ([.bool true,.bool true,.bool false,.bool true]) Sx_3
 else
 Jx ([.bool false,.bool false,.bool false,.bool false]) Sx_3) fun Jx_1=>
 if code=11 then
 Jx_1 true Sx_2
 else
 if code=12 then
 Jx_1 true Sx_2
 else
 if code=13 then
 Jx_1 true Sx_2
 else
 if code=14 then
 Jx_1 true Sx_2
 else
 if code=15 then
 Jx_1 true Sx_2
 else
 if code=16 then
 Jx_1 true Sx_2
 else
 if code=17 then
 Jx_1 true Sx_2
 else
 Jx_1 false Sx_2) fun Jx_2=>
 if code=1 then
 Jx_2 true Sx_1
 else
 if code=2 then
 Jx_2 true Sx_1
 else
 if code=18 then
 Jx_2 true Sx_1
 else
 if code=19 then
 Jx_2 true Sx_1
 else
 Jx_2 false Sx_1) fun Jx_3=>
 if code=0 then
 Jx_3 true S
 else
 if code=21 then
 Jx_3 true S
 else
 if code=22 then
 Jx_3 true S
 else
 Jx_3 false S
theorem zgp {S:Mem} {code:Int} {Q:List Value→Mem→Prop} (H:fc S code Q):jb S code Q:=by
 unfold fc at H
 have:=dj (α:=List Value×Unit) 22 [2] (fun _=>[]) (fun z=>[(0,some z.1)])
 have:=dj (α:=Bool×Unit) 21 [2] (fun z=>[(18,.bool z.1)]) (fun _=>[(0,none)])
 have:=dj (α:=Bool×Unit) 11 [2,3] (fun z=>[(9,.bool z.1)]) (fun _=>[(0,none)])
 have:=dj (α:=Bool×Unit) 6 [2,3] (fun z=>[(4,.bool z.1)]) (fun _=>[(0,none)])
 exact Tr.intro func199 E ntmps199 E fun w0=>go results199 H
def fd (S:Mem) (o:List Value) (Q:Int→Bool→Mem→Prop):Prop:=
 o.length=5 ∧
 jn (fun (Sx:Mem)=>
 gI (nthL o 0) .u8 fun t=>
 yc Sx 0 26 6 (IntKind.u64.wrap t) fun t_1 Sx_1=>
 gI (nthL o 1) .u8 fun t_2=>
 yc Sx_1 t_1 22 4 (IntKind.u64.wrap t_2) fun t_3 Sx_2=>
 gI (nthL o 2) .u8 fun t_4=>
 yc Sx_2 t_3 18 4 (IntKind.u64.wrap t_4) fun t_5 Sx_3=>
 jn (fun (Sx_4:Mem)=>
 gI (nthL o 4) .i16 fun t_6=>
 yc Sx_4 t_5 0 16 (IntKind.u64.wrap (IntKind.u16.wrap t_6)) fun t_7 Sx_5=>
 Q (IntKind.u32.wrap t_7) true Sx_5) fun Jx=>
 gI (nthL o 0) .u8 fun t_8=>
 jb Sx_3 t_8 fun t_9 Sx_6=>
 gB (nthL t_9 2) fun t_10=>
 if t_10=true then
 gI (nthL o 3) .u8 fun t_11=>
 yc Sx_6 t_5 0 4 (IntKind.u64.wrap t_11) fun t_12 Sx_7=>
 Q (IntKind.u32.wrap t_12) true Sx_7
 else
 Jx Sx_6) fun Jx_1=>
 zdf S o fun t_13 Sx_8=>
 if t_13=true then
 Jx_1 Sx_8
 else
 Q 0 false Sx_8
theorem zgq {S:Mem} {o:List Value} {Q:Int→Bool→Mem→Prop} (H:fd S o Q):zbt S o Q:=by
 unfold fd at H
 have:=dj (α:=Unit) 9 [1,4] (fun _=>[]) (fun _=>[(0,none)])
 have:=dj (α:=Unit) 4 [1] (fun _=>[]) (fun _=>[(0,none)])
 exact Tr.intro func200 E ntmps200 E fun w0=>go results200 H
def zag (S:Mem) (o:List Value) (Q:Bool→Mem→Prop):Prop:=
 o.length=5 ∧
 gI (nthL o 0) .u8 fun t=>
 jb S t fun t_1 Sx=>
 t_1.all (·.oneCell')=true ∧
 jn (fun (Sx_1:Mem)=>
 gI (nthL o 0) .u8 fun t_2=>
 if t_2=18 then
 gI (nthL o 4) .i16 fun t_3=>
 if 0≤t_3 then
 gI (nthL o 4) .i16 fun t_4=>
 Q (decide (t_4<9)) Sx_1
 else
 Q false Sx_1
 else
 gI (nthL o 0) .u8 fun t_5=>
 if t_5=19 then
 gI (nthL o 4) .i16 fun t_6=>
 if 0≤t_6 then
 gI (nthL o 4) .i16 fun t_7=>
 Q (decide (t_7<9)) Sx_1
 else
 Q false Sx_1
 else
 Q true Sx_1) fun Jx=>
 gI (nthL o 0) .u8 fun t_8=>
 if 23≤t_8 then
 Q false Sx
 else
 gB (nthL t_1 0) fun t_9=>
 gI (nthL o 1) .u8 fun t_10=>
 cv prog Sx (.func (.func 245) #[] #[]) [.bool t_9,.int .u8 t_10] fun rv Sx_2=>∃ t_11:Bool,rv=.bool t_11∧
 if t_11=true then
 gB (nthL t_1 1) fun t_12=>
 gI (nthL o 2) .u8 fun t_13=>
 cv prog Sx_2 (.func (.func 245) #[] #[]) [.bool t_12,.int .u8 t_13] fun rv Sx_3=>∃ t_14:Bool,rv=.bool t_14∧
 if t_14=true then
 gB (nthL t_1 2) fun t_15=>
 gI (nthL o 3) .u8 fun t_16=>
 cv prog Sx_3 (.func (.func 245) #[] #[]) [.bool t_15,.int .u8 t_16] fun rv Sx_4=>∃ t_17:Bool,rv=.bool t_17∧
 if t_17=true then
 gB (nthL t_1 3) fun t_18=>
 if t_18=true then
 Jx Sx_4
 else
 gI (nthL o 4) .i16 fun t_19=>
 if t_19≠0 then
 Q false Sx_4
 else
 Jx Sx_4
 else
 Q false Sx_4
 else
 Q false Sx_3
 else
 Q false Sx_2
theorem zhl {S:Mem} {o:List Value} {Q:Bool→Mem→Prop} (H:zag S o Q):zdf S o Q:=by
 unfold zag at H
 exact Tr.intro func230 E ntmps230 E fun w0=>an H fun ho H1=>csr<|jM E E E fun b=>gv E E<|nxr<|s_p E (zA E E)<|gx H1 fun t ht H2=>s_v E (zG E) (zR 0 E ht)<|qz E E H2 fun rv Sx H3=>by obtain⟨t_1,rfl,ht_1,H4⟩:=H3;exact by refine zX E fun b_1=>?_;exact an H4 fun c H5=>zn 1 E E E E E ht_1 E c<|nxr<|gv E E<|nx<|zy H5 (fun (J:Mem→Prop) (z:Unit) S=>J S) (fun z=>⟨64,[(1,.pointer (some ⟨b,0,none⟩))]⟩) (fun z=>[⟨b,256,o⟩]) (fun _ Sx_1 H6=>qb<|csr<|s_p E (zA E E)<|gx H6 fun t_2 ht_2 H7=>s_v E (zG E) (zR 0 E ht_2)<|iteK H7 (fun c_1 H8=>ceT E E E (c_1)<|mv E E<|sk2 E E<|zF E<|pk E E E<|nx<|c_t E E<|csr<|s_p E (zA E E)<|gx H8 fun t_3 ht_3 H9=>s_v E (zG E) (zR 0 E ht_3)<|iteK H9 (fun c_2 H10=>s_p E (yT (wT E E) c_2)<|mv E E<|s_p E (zA E E)<|gx H10 fun t_4 ht_4 H11=>s_v E (zG E) (zR 0 E ht_4)<|s_p E (qq E E)<|pk E E E<|gv E E<|nx<|zu<|zd<|zt results230 (zf E zi) ⟨_,E,H11⟩) fun c_2 H10=>s_p E (yF (wT E E) c_2)<|mv E E<|sk2 E E<|zF E<|pk E E E<|gv E E<|nx<|zu<|zd<|zt results230 (zf E zi) ⟨_,E,H10⟩) fun c_1 H8=>ceF E E E (c_1)<|mv E E<|s_p E (zA E E)<|gx H8 fun t_5 ht_5 H12=>s_v E (zG E) (zR 0 E ht_5)<|iteK H12 (fun c_3 H13=>ceT E E E (c_3)<|pk E E E<|nx<|c_t E E<|csr<|s_p E (zA E E)<|gx H13 fun t_6 ht_6 H14=>s_v E (zG E) (zR 0 E ht_6)<|iteK H14 (fun c_4 H15=>s_p E (yT (wT E E) c_4)<|mv E E<|s_p E (zA E E)<|gx H15 fun t_7 ht_7 H16=>s_v E (zG E) (zR 0 E ht_7)<|s_p E (qq E E)<|pk E E E<|gv E E<|nx<|zu<|zd<|zt results230 (zf E zi) ⟨_,E,H16⟩) fun c_4 H15=>s_p E (yF (wT E E) c_4)<|mv E E<|sk2 E E<|zF E<|pk E E E<|gv E E<|nx<|zu<|zd<|zt results230 (zf E zi) ⟨_,E,H15⟩) fun c_3 H13=>ceF E E E (c_3)<|pk E E E<|nx<|cfs E E<|zB<|csr<|gv E E<|nx<|zu<|zt results230 (zf E zi) ⟨_,E,H13⟩) (fun Jx hJx H17=>csr<|s_p E (zA E E)<|gx H17 fun t_8 ht_8 H18=>s_v E (zG E) (zR 0 E ht_8)<|iteK H18 (fun c_5 H19=>s_p E (yT (wT E E) c_5)<|mv E E<|sk4 E E E E<|sk2 E E<|zF E<|pk E E E<|mv E E<|sk4 E E E E<|sk2 E E<|zF E<|pk E E E<|mv E E<|sk4 E E E E<|sk2 E E<|zF E<|pk E E E<|mv E E<|sk4 E E E E<|zF E<|by exact sk2 E E<|zF E<|pk E E E<|nx<|c_t E E<|csr<|gv E E<|nx<|zu<|zd<|zt results230 (zf E zi) ⟨_,E,H19⟩) fun c_5 H19=>s_p E (yF (wT E E) c_5)<|mv E E<|mv E E<|s_p E (zA E E)<|gx H19 fun t_9 ht_9 H20=>s_v E (zG E) (zR 1 E ht_9)<|s_p E (zA E E)<|gx H20 fun t_10 ht_10 H21=>s_v E (zG E) (zR 0 E ht_10)<|zqR E E E H21 fun rv Sx_2 H22=>by obtain⟨t_11,rfl,H23⟩:=H22;exact by have H24:=zfs H23;rcases H24 with ⟨rfl,H25⟩ | ⟨rfl,H25⟩;exact (s_p E (yB (ym E) E)<|pk E E E<|mv E E<|mv E E<|s_p E (zA E E)<|gx H25 fun t_12 ht_12 H26=>s_v E (zG E) (zR 1 E ht_12)<|s_p E (zA E E)<|gx H26 fun t_13 ht_13 H27=>s_v E (zG E) (zR 0 E ht_13)<|zqR E E E H27 fun rv Sx_3 H28=>by obtain⟨t_14,rfl,H29⟩:=H28;exact by have H30:=zfs H29;rcases H30 with ⟨rfl,H31⟩ | ⟨rfl,H31⟩;exact (s_p E (yB (ym E) E)<|pk E E E<|mv E E<|mv E E<|s_p E (zA E E)<|gx H31 fun t_15 ht_15 H32=>s_v E (zG E) (zR 1 E ht_15)<|s_p E (zA E E)<|gx H32 fun t_16 ht_16 H33=>s_v E (zG E) (zR 0 E ht_16)<|zqR E E E H33 fun rv Sx_4 H34=>by obtain⟨t_17,rfl,H35⟩:=H34;exact by have H36:=zfs H35;rcases H36 with ⟨rfl,H37⟩ | ⟨rfl,H37⟩;exact (s_p E (yB (ym E) E)<|pk E E E<|mv E E<|s_p E (zA E E)<|gx H37 fun t_18 ht_18 H38=>by have H39:=zfs H38;rcases H39 with ⟨rfl,H40⟩ | ⟨rfl,H40⟩;exact (s_v E (zG E) (zR 1 E ht_18)<|s_p E (yB (ym E) E)<|mv E E<|sk2 E E<|zF E<|pk E E E<|pk E E E<|nx<|cfs E E<|hJx () _ _ _ _ [0] H40 E ⟨E,True.intro⟩ E);exact (s_v E (zG E) (zR 1 E ht_18)<|s_p E (yB (ym E) E)<|mv E E<|s_p E (zA E E)<|gx H40 fun t_19 ht_19 H41=>s_v E (zG E) (zR 0 E ht_19)<|iteK H41 (fun c_6 H42=>s_p E (yT (qt E E) c_6)<|pk E E E<|pk E E E<|nx<|c_t E E<|csr<|gv E E<|nx<|zu<|zd<|zt results230 (zf E zi) ⟨_,E,H42⟩) fun c_6 H42=>s_p E (yF (qt E E) c_6)<|pk E E E<|pk E E E<|nx<|cfs E E<|hJx () _ _ _ _ [0] H42 E ⟨E,True.intro⟩ E));exact (s_p E (yB (ym E) E)<|pk E E E<|mv E E<|sk8 E E E E E E E E<|pk E E E<|nx<|c_t E E<|csr<|gv E E<|nx<|zu<|zd<|zt results230 (zf E zi) ⟨_,E,H37⟩));exact (s_p E (yB (ym E) E)<|pk E E E<|mv E E<|sk4 E E E E<|sk2 E E<|zF E<|pk E E E<|mv E E<|sk8 E E E E E E E E<|pk E E E<|nx<|c_t E E<|csr<|gv E E<|nx<|zu<|zd<|zt results230 (zf E zi) ⟨_,E,H31⟩));exact (s_p E (yB (ym E) E)<|pk E E E<|mv E E<|sk4 E E E E<|sk2 E E<|zF E<|pk E E E<|mv E E<|sk4 E E E E<|sk2 E E<|zF E<|pk E E E<|mv E E<|sk8 E E E E E E E E<|pk E E E<|nx<|c_t E E<|csr<|gv E E<|nx<|zu<|zd<|zt results230 (zf E zi) ⟨_,E,H25⟩))
def jt (S:Mem) (isx:Bool) (r:Int) (Q:Bool→Mem→Prop):Prop:=
 if r=0 then
 Q true S
 else
 if isx=true then
 Q (decide (r<16)) S
 else
 Q false S
theorem zeF {S:Mem} {isx:Bool} {r:Int} {Q:Bool→Mem→Prop} (H:jt S isx r Q):gX S isx r Q:=by
 unfold jt at H
 exact Tr.intro func245 E ntmps245 E fun w0=>go results245 H
def jG (S:Mem) (w:Int) (atx:Int) (n:Int) (Q:Int→Mem→Prop):Prop:=
 jn (fun (Sx:Mem)=>
 0≤atx ∧
 if n<64 then
 0≤n ∧
 Q (iand .u64 (ishr .u64 w atx) (IntKind.u64.wrap ((ishl .u64 1 n)-1))) Sx
 else
 Q (ishr .u64 w atx) Sx) fun Jx=>
 if atx<0 then
 Q 0 S
 else
 if 63<atx then
 Q 0 S
 else
 if n≤0 then
 Q 0 S
 else
 Jx S
theorem zdt {S:Mem} {w:Int} {atx:Int} {n:Int} {Q:Int→Mem→Prop} (H:jG S w atx n Q):yG S w atx n Q:=by
 unfold jG at H
 have:=dj1 4 [0,1,2]
 exact Tr.intro func135 E ntmps135 E fun w0=>go results135 H
def ve (S:Mem) (w:Int) (atx:Int) (n:Int) (v:Int) (Q:Int→Mem→Prop):Prop:=
 jn (fun (Sx:Mem)=>
 jn (fun (mask:Int) (Sx_1:Mem)=>
 0≤atx ∧
 0≤atx ∧
 Q (ior .u64 (iandn .u64 w (ishl .u64 mask atx)) (ishl .u64 (iand .u64 v mask) atx)) Sx_1) fun Jx=>
 if n<64 then
 0≤n ∧
 Jx (IntKind.u64.wrap ((ishl .u64 1 n)-1)) Sx
 else
 Jx 18446744073709551615 Sx) fun Jx_1=>
 if atx<0 then
 Q w S
 else
 if 63<atx then
 Q w S
 else
 if n≤0 then
 Q w S
 else
 Jx_1 S
theorem gu {S:Mem} {w:Int} {atx:Int} {n:Int} {v:Int} {Q:Int→Mem→Prop} (H:ve S w atx n v Q):yc S w atx n v Q:=by
 unfold ve at H
 have:=dj0 (α:=Int×Unit) 7 [0,1,3] (fun z=>[(9,.int .u64 z.1)])
 have:=dj1 4 [0,1,2,3]
 exact Tr.intro func187 E ntmps187 E fun w0=>go results187 H
def yl (S:Mem) (code:Int) (Q:Int→Mem→Prop):Prop:=
 al S 3 ([.int .i64 0,.int .i64 9,.int .i64 9,.int .i64 7,.int .i64 7,.int .i64 7,.int .i64 7,.int .i64 7,.int .i64 7,.int .i64 7,.int .i64 7,.int .i64 11,.int .i64 11,.int .i64 11,.int .i64 11,.int .i64 11,.int .i64 11,.int .i64 11,.int .i64 9,.int .i64 9,.int .i64 8,.int .i64 0,.int .i64 0]) fun b Sx=>
 0≤code∧code<23 ∧
 gI (Sx.cell b (0+code.toNat*1)) .i64 fun t=>
 Q t Sx
theorem gd {S:Mem} {code:Int} {Q:Int→Mem→Prop} (H:yl S code Q):yI S code Q:=by
 unfold yl at H
 exact Tr.intro func192 E ntmps192 E fun w0=>go results192 H
def yJ (S:Mem) (code:Int) (a:Int) (b:Int) (c:Int) (n:Int) (Q:Int→Mem→Prop):Prop:=
 yI S code fun t Sx=>
 if Int.tmod (IntKind.i64.wrap (Int.tdiv t 4)) 2=1 then
 Q (IntKind.u32.wrap ((IntKind.u32.wrap ((IntKind.u32.wrap ((IntKind.u32.wrap ((IntKind.u32.wrap code)*67108864))+(IntKind.u32.wrap ((IntKind.u32.wrap a)*4194304))))+(IntKind.u32.wrap ((IntKind.u32.wrap b)*262144))))+(IntKind.u32.wrap c))) Sx
 else
 Q (IntKind.u32.wrap ((IntKind.u32.wrap ((IntKind.u32.wrap ((IntKind.u32.wrap ((IntKind.u32.wrap code)*67108864))+(IntKind.u32.wrap ((IntKind.u32.wrap a)*4194304))))+(IntKind.u32.wrap ((IntKind.u32.wrap b)*262144))))+(IntKind.u32.wrap (IntKind.u16.wrap n)))) Sx
theorem fk {S:Mem} {code:Int} {a:Int} {b:Int} {c:Int} {n:Int} {Q:Int→Mem→Prop} (H:yJ S code a b c n Q):kr S code a b c n Q:=by
 unfold yJ at H
 exact Tr.intro func146 E ntmps146 E fun w0=>go results146 H
end
end Go.Proofs.YthaiblbnpcgjpaaGreatDoor
