/- Texts of this work,joined by program (pack.py). -/
import Derived.Test.YthaiblbnpcgjpaaGreatDoorQAE
import Derived.Test.YthaiblbnpcgjpaaGreatDoorQAC
import Derived.Test.YthaiblbnpcgjpaaGreatDoorQAN
import Derived.Test.YthaiblbnpcgjpaaGreatDoorQAP
import Derived.ProofKit
import Derived.OpenShut
import Derived.Test.YthaiblbnpcgjpaaGreatDoorRows
import Derived.LaidMore
import Derived.Lay
import Derived.Lib.LaidU8
import Derived.Deep.Slices
import Derived.Stop.Joined
set_option linter.unusedVariables false
namespace Go.Pt
section
open Go Go.RowKit Go.ChangeShapes
def memOf (W:World):Mem:=fun b=>match W.heap[b]? with
 | some (.cells c t fr)=>some ⟨t,c.toList,fr⟩
 | _=>none
theorem zjH (W:World):St W (memOf W) (memOf W) [] W:=by
 refine⟨rfl,rfl,rfl,Nat.le_refl _,fun _ _ _=>rfl,fun b k h=>?_,by simp,by simp,fun b h1 h2=>(h2 h1).elim,fun _ h=>h⟩
 unfold memOf at h
 split at h
 ·rename_i c t fr hh
  cases h
  simpa using hh
 ·cases h
theorem zkt {W:World} {b o:Nat} {v:Value} (h:W.cell? ⟨b,o,none⟩=some v):(memOf W).cell b o=some v:=by
 unfold World.cell? at h
 unfold Mem.cell memOf
 split at h
 ·rename_i c t fr hh
  simp only at hh
  simp only[Option.isSome_none,Bool.false_eq_true,if_false] at h
  rw[hh]
  simp only[zI]
  simpa using h
 ·cases h
theorem zjd {P:Program} {f:FuncId} {args:List Value} {W:World} {u:Value} (h:Tr P f (memOf W) args (fun v S'=>v=u∧Keeps (memOf W) S' [])) :
  Calls P f args.toArray W fun e W'=>e=.returned u∧Below W.heap.size W W':=by
 refine (h W (zjH W)).mono ?_
 rintro e W' ⟨v,S',rfl,⟨rfl,hk⟩,hS⟩
 refine⟨rfl,hS.os,hS.tape,hS.output,hS.size,fun k hlt=>?_⟩
 cases hm:memOf W k with
 | none=>exact hS.frame k hlt hm
 | some q=>
  have e1:=hS.mem k q (hk.get hm (by simp))
  have e2:=(zjH W).mem k q hm
  rw[e1,e2]
def BytesIn (S:Mem) (l:Sl):Prop:=∀ i:Nat,i<l.n→∃ b o z,l.p=some (b,o)∧S.cell b (o+i)=some (.int .u8 z)∧0≤z∧z≤255
theorem BytesIn.keep {S S':Mem} {l:Sl} (h:BytesIn S l) (hk:Keeps S S' []):BytesIn S' l:=fun i hi=>by
 obtain⟨b,o,z,h1,h2,h3⟩:=h i hi
 obtain⟨k,h4,h5⟩:=zgj h2
 exact⟨b,o,z,h1,by rw[qj (hk.get h4 (by simp))];exact h5,h3⟩
end
section
open Go Go.RowKit Go.ChangeShapes
def NumsIn (S:Mem) (l:Sl):Prop:=∀ i:Nat,i<l.n→∃ b o z,l.p=some (b,o)∧S.cell b (o+i)=some (.int .u64 z)∧0≤z∧z≤18446744073709551615
theorem NumsIn.keep {S S':Mem} {l:Sl} (h:NumsIn S l) (hk:Keeps S S' []):NumsIn S' l:=fun i hi=>by
 obtain⟨b,o,z,h1,h2,h3⟩:=h i hi
 obtain⟨k,h4,h5⟩:=zgj h2
 exact⟨b,o,z,h1,by rw[qj (hk.get h4 (by simp))];exact h5,h3⟩
end
end Go.Pt
section
namespace Go.Pt
open Go Go.RowKit Go.ChangeShapes Go.WideShapes Go.ChangeAt Go.Lib
theorem ziO {H:Type} {enc:TypeId×Value→H} {a:Assume} {C:Checked} {os:Os} {f:FuncId} {fn:Func} {s:ChangeSpec} {conds:List PathCond} {apart fresh handsOn again:Bool} {X:World→Array Value→Prop}
  (hX:∀ (w w':World) (args:Array Value),w.heap=w'.heap→X w args→X w' args) (own:ownKnob C.prog.godebug=none) (started:os.Started) (noInit:C.prog.inits.idxOf? f=none) (hfn:C.prog.funcs[f]? = some fn)
  (witness:∃ (w:World) (tape:Tape) (i:Input),w.os=os∧(w.forCall tape i).Shaped C.prog∧i.vars=[]∧Input.okWide C.prog (w.forCall tape i) .any w.heap.size f i ∧
   ((s.pre enc C.prog fn conds apart (w.forCall tape i).memory i.args∧X (w.forCall tape i).memory i.args)∧sizedMet enc C.prog fn (OpenSpec.ofChange s) apart (w.forCall tape i).memory i.args)∧a.holds C.prog (lone (Frame.enter C.prog f i.args .normal) [] (w.forCall tape i)))
  (law:∀ (W:World) (base:Nat) (args:Array Value) (ds gs:List (DataW H)) (before:List MemPlace),(∀ (j:Nat) t v,fn.params[j]? = some t→args[j]? = some v→Value.okWide C.prog W .any base t v) →
   DataW.Whole enc C.prog fn.params.toList s.vars apart W args.toList ds gs before→X W args→W.ShapedOpen C.prog →
   Calls C.prog f args W fun e W'=>∃ v,e=.returned v∧s.post enc C.prog fn apart fresh handsOn again W args v W') :
  ReturnsInHanded a C os f .any (fun w args=>(s.pre enc C.prog fn conds apart w args∧X w args)∧sizedMet enc C.prog fn (OpenSpec.ofChange s) apart w args) (s.post enc C.prog fn apart fresh handsOn again):=
 returnsInHanded_of_calls own started noInit witness fun w tape i _ hsh _ hok hpre _=>by
  obtain⟨_,_,_,g,hg,_,_,_,_,hval⟩:=hok
  obtain rfl:g=fn:=Option.some.inj (hg.symm.trans hfn)
  obtain⟨⟨⟨ds,gs,before,hw,_⟩,hx⟩,_⟩:=hpre
  refine (law (w.forCall tape i) w.heap.size i.args ds gs before hval (DataW.Whole.of_heap (w':=w.forCall tape i) (by rfl) hw) (hX _ _ _ (by rfl) hx) hsh).mono fun e W' h=>?_
  obtain⟨v,rfl,hp⟩:=h
  exact ChangeSpec.post_blind hp
theorem xT {a b:Bool} (h:a=true) (k:b=true):(a && b)=true:=by rw[h,k];rfl
end Go.Pt
namespace Go.Proofs.YthaiblbnpcgjpaaGreatDoor
open Go Go.Pt Go.RowKit Go.Lib Go.Cr Go.ChangeShapes Go.WideShapes
set_option maxRecDepth 10000
theorem znE {W:World} {P:Program} {n:String} {g:Nat} {cs:Array Value} (hg:P.globalNamed n=some g) (h:W.var? P n=some cs):∃ t fr,memOf W g=some ⟨t,cs.toList,fr⟩:=by
 unfold World.var? at h
 rw[hg] at h
 simp only[Option.bind_some] at h
 split at h
 ·rename_i c t fr hh
  cases h
  exact⟨t,fr,by unfold memOf;rw[hh]⟩
 ·cases h
theorem gl_of_laid {W:World} (h:laidMetH Tryz.prog Rows.crossMovesRow.laid W):Gl (memOf W):=by
 rw[MakeChecks.laidMetH_plain _ _ _ (by kernel_rfl)] at h
 have hp : VarReads Tryz.prog W "math/bits.deBruijn64tab" Rows.laid_math_bits_deBruijn64tab := laidMet.reads h (by simp [Rows.crossMovesRow])
 obtain⟨g,t,cs,fuel,p,hg,ht,hv,hd⟩:=hp
 obtain rfl := Option.some.inj ((show Tryz.prog.globalNamed "math/bits.deBruijn64tab" = some 0 by kernel_rfl).symm.trans hg)
 obtain rfl:=Option.some.inj ((show (Tryz.prog.globals[0]?).map (·.type)=some 332 by kernel_rfl).symm.trans ht)
 obtain⟨t',fr,hm⟩:=znE hg hv
 have e:(Rows.laid_math_bits_deBruijn64tab:DataW Unit)=tabData .u8 (deBruijn64tab.map fun (n:Nat)=>(n:Int)):=by kernel_rfl
 rw[e] at hd
 have hcs:=cells_of_tab Tryz.underlying332 Tryz.underlying5 (by kernel_rfl) (by kernel_rfl) hd
 rw[hcs,List.map_map] at hm
 exact⟨t',fr,hm⟩
end Go.Proofs.YthaiblbnpcgjpaaGreatDoor
end
namespace Go.Proofs.YthaiblbnpcgjpaaGreatDoor
section
open Go Go.Pt Go.RowKit Go.Lib Go.Cr Go.ChangeShapes Go.WideShapes
structure By (S:Mem) (l:Sl) (xs:List Int):Prop where
 len:xs.length=l.n
 cap:l.n≤l.c
 byt:Byt xs
 lie:xs=[]∨∃ b o,l.p=some (b,o)∧S b≠none∧S.part b o xs.length=some (bL xs)
theorem By.keep {S S':Mem} {l:Sl} {xs:List Int} (h:By S l xs) (hk:Keeps S S' []):By S' l xs:=
 ⟨h.len,h.cap,h.byt,h.lie.imp id fun⟨b,o,h1,h2,h3⟩=>by
  have e:=hk b h2 (by simp)
  obtain⟨k,hk⟩:=Option.ne_none_iff_exists'.1 h2
  exact⟨b,o,h1,by rw[e];exact h2,by rw[yp hk] at h3;rw[yp (e.trans hk)];exact h3⟩⟩
theorem By.img {S:Mem} {ρ:Rho} {l:Sl} {xs:List Int} (h:By S l xs) (hr:∀ b o,l.p=some (b,o)→ρ b=none):ImgAt S ρ l xs:=
 ⟨h.len,h.cap,h.byt,h.lie.imp id fun⟨b,o,h1,h2,h3⟩=>⟨b,o,h1,h3,hr b o h1,h2⟩⟩
theorem zlI {H:Type} {enc:TypeId×Value→H} {P:Program} {W:World} {base bs:Nat} {spare:Nat→Bool} {held:Bool} {r:Reach} {t e:TypeId} {v:Value} {d:DataW H} {ps:List MemPlace}
  (ht:P.underlying t=some (.slice e)) (he:P.underlying e=some (.int .u8)) (hc:P.cellsOf e=1) (hval:Value.okWide P W r bs t v) (h:DataW.Trod enc P W base spare held t v d ps):∃ (l:Sl) (xs:List Int),v=eL l∧By (memOf W) l xs:=by
 obtain⟨fuel,hf⟩:=h
 rcases open_ints ht he hc hf with ⟨h0,_⟩ | ⟨a,len,cap,zs,h0,_,hl,hm,hz,_,hcell,hw⟩
 ·refine⟨⟨none,0,0⟩,[],?_,⟨rfl,Nat.le_refl _,fun x hx=>(by cases hx),.inl rfl⟩⟩
  cases v <;> simp_all [Value.cells,eL,adr,Value.okWide,Cell.okWide,Cell.ok]
 ·have hv:v=.slice (some a) len cap:=by
   cases v <;> simp_all [Value.cells,Value.okWide,Cell.okWide,Cell.ok]
  subst hv
  have hval':a.spot=none∧len≤cap:=by
   simp only[Value.okWide,ht,Cell.okWide,Cell.ok] at hval
   exact⟨hval.2.2.2.1,hval.1⟩
  obtain⟨b,o,sp⟩:=a
  simp only at hval'
  obtain⟨hsp,hcap⟩:=hval'
  subst hsp
  have hln:len≤zs.length:=by rw[hz];split <;> omega
  refine⟨⟨some (b,o),len,cap⟩,zs.take len,rfl,⟨?_,hcap,fun x hx=>bounds_u8 (hw _ (List.mem_of_mem_take hx)),?_⟩⟩
  ·simp only[List.length_take];omega
  ·by_cases h0:len=0
   ·left;rw[h0];rfl
   right
   have key:∀ i,i<len→(memOf W).cell b (o+i)=some (.int .u8 (zs.getD i 0)):=fun i hi=>by
    have:=hcell i (by omega)
    have e:(⟨b,o,none⟩:Addr).add i=⟨b,o+i,none⟩:=by unfold Addr.add;split <;> simp_all
    rw[e] at this
    exact zkt this
   obtain⟨k,hk,_⟩:=zgj (key 0 (by omega))
   have hlt:∀ i,i<len→k.cs[o+i]? = some (.int .u8 (zs.getD i 0)):=fun i hi=>by
    have:=key i hi
    rw[qj hk,zI] at this
    exact this
   have hb:o+(len-1)<k.cs.length:=by
    have:=hlt (len-1) (by omega)
    exact (List.getElem?_eq_some_iff.1 this).1
   have hll:(zs.take len).length=len:=by rw[List.length_take];omega
   refine⟨b,o,rfl,by rw[hk];simp,?_⟩
   rw[hll,yp hk,qA (by omega)]
   congr 1
   apply List.ext_getElem?
   intro i
   rw[List.getElem?_take,List.getElem?_drop]
   unfold bL
   rw[List.getElem?_map,List.getElem?_take]
   by_cases hi:i<len
   ·rw[if_pos hi,if_pos hi,hlt i hi,List.getElem?_eq_getElem (by omega),List.getD_eq_getElem?_getD,List.getElem?_eq_getElem (by omega)];rfl
   ·rw[if_neg hi,if_neg hi];rfl
end
section
open Go Go.Pt Go.Cr Go.Hp
theorem byz {S:Mem} {l:Sl} {xs:List Int} (h:By S l xs):Byz S l xs:=⟨h.len.symm,fun h0=>by
 rcases h.lie with h1 | ⟨b,o,h1,h2,h3⟩
 ·exact absurd h1 h0
 refine⟨b,o,by rw[←h1],fun i hi=>?_⟩
 obtain⟨k,hk⟩:=Option.ne_none_iff_exists'.1 h2
 rw[yp hk] at h3
 have e:=wg h3 i hi
 refine⟨xs.getD i 0,h.byt _ ?_,?_⟩
 ·rw[List.getD_eq_getElem?_getD,List.getElem?_eq_getElem hi];exact List.getElem_mem hi
 ·rw[qj hk,Nat.mul_one,zI,←e]
  unfold bL
  rw[List.getElem?_map,List.getElem?_eq_getElem hi,List.getD_eq_getElem?_getD,List.getElem?_eq_getElem hi];rfl⟩
end
end Go.Proofs.YthaiblbnpcgjpaaGreatDoor
