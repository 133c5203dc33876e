/- Five functions of Go's library, by the kit's contracts. -/
import Derived.Test.YtpilffakhkagjaaDoorPtS
import Derived.Test.YtpilffakhkagjaaDoorPtL
import Derived.Test.YtpilffakhkagjaaDoorLay
import Derived.Test.YtpilffakhkagjaaDoorTxA
import Derived.Shelf.Strings.Split
import Derived.Shelf.Strings.Trim
import Derived.Shelf.Small.Wraps
import Derived.Shelf.Strconv.Itoa3
import Derived.Shelf.Strconv.ParseIntPublic10
namespace Go.Pt
open Go Go.RowKit Go.Lib
theorem St.below {S : Mem} {w w' : World} (hS : St w S S [] w) (hb : Below w.heap.size w w') : St w S S [] w' :=
  ⟨hb.os, hb.tape, hb.output, hb.size, fun k hk _ => hb.block k hk, fun b k h => by rw [hb.block b (hS.lt h)]; exact hS.mem b k h, fun e he => (by cases he), List.Pairwise.nil, fun b h1 h2 => (h2 h1).elim, fun _ h => h⟩
end Go.Pt
namespace Go.Proofs.YtpilffakhkagjaaDoor
open Go Go.Pt Go.RowKit Go.Lib Go.Tx Go.Sort
section
variable {S : Mem}
theorem split_spec {s sep : ByteArray} {m : Int} (hm : S.cell 4 0 = some (.int .i64 m)) (hs : s.size < 4294967281) (h1 : 1 ≤ sep.size) {Q : Sl → Mem → Prop}
    (hQ : ∀ b, S b = none → Q ⟨some (b, 0), countB s sep + 1, countB s sep + 1⟩ (S.set b (bw 9 ((splitB sep 0 (countB s sep) s).map Value.string)))) : strings_Split S s sep Q := by
  intro w hS
  refine (Any.strings_Split Tryd.laysSplit (by kernel_rfl) s sep m w hs (hS.cellS hm) h1).mono ?_
  rintro e w' ⟨rfl, rfl⟩
  refine ⟨_, _, rfl, ⟨_, rfl, hQ w.heap.size hS.fresh⟩, ?_⟩
  exact (hS.alloc ((splitB sep 0 (countB s sep) s).map Value.string) 9 rfl).publish (n := 0) rfl rfl
theorem cut_spec {s p : ByteArray} {Q : ByteArray → Bool → Mem → Prop} (hQ : Q (bt (trimPrefix s.data.toList p.data.toList)) (hasPrefix s.data.toList p.data.toList) S) : strings_CutPrefix S s p Q := by
  intro w hS
  refine (Any.strings_CutPrefix Tryd.laysCut s p w).mono ?_
  rintro e w' ⟨rfl, rfl⟩
  exact ⟨_, S, rfl, ⟨_, _, rfl, hQ⟩, hS⟩
theorem trim_spec {s : ByteArray} {c : UInt8} (hc : c.toNat < 128) (hs : s.size ≤ 9223372036854775807) {Q : ByteArray → Mem → Prop} (hQ : Q (bt (trimB s.data.toList c)) S) : strings_Trim S s ⟨#[c]⟩ Q := by
  intro w hS
  refine (Any.strings_Trim_one Tryd.laysTrim s c hc w hs).mono ?_
  rintro e w' ⟨rfl, h⟩
  refine ⟨_, S, rfl, ⟨_, rfl, hQ⟩, ?_⟩
  rcases h with rfl | rfl
  · exact hS
  · exact ⟨hS.os, hS.tape, hS.output, hS.size, hS.frame, hS.mem, hS.loc, hS.nodup, hS.own, hS.keep⟩
def pow10 : List Value := pow10Tab.map fun z => Value.int .u64 z
theorem itoa_spec {n : Int} (h0 : -9223372036854775808 ≤ n) (h1 : n ≤ 9223372036854775807) {t : TypeId} {fr : Nat × Nat} (ht : S 3 = some ⟨t, pow10, fr⟩) {Q : ByteArray → Mem → Prop} (hQ : Q (bt (itoa n)) S) : strconv_Itoa S n Q := by
  intro w hS
  have htab : TabIs Tryd.prog w "internal/strconv.uint64pow10" .u64 pow10Tab := by
    unfold TabIs World.var?
    have hg : Tryd.prog.globalNamed "internal/strconv.uint64pow10" = some 3 := by kernel_rfl
    rw [hg]
    simp only [Option.bind_some, hS.mem 3 _ ht]
    rfl
  refine (Any.strconv_Itoa Tryd.laysItoa n h0 h1 w htab).mono ?_
  rintro e w' ⟨rfl, k, os, rfl⟩
  refine ⟨_, S, rfl, ⟨_, rfl, hQ⟩, hS.below ?_⟩
  exact ⟨rfl, rfl, rfl, by simp [grow], fun i hi => by simp [grow, Array.getElem?_append, hi]⟩
theorem parse_spec {s : ByteArray} {v : Int} (hm : s.size ≤ 9223372036854775806) (h : parseIntB 16 s.data.toList = .ok v) {Q : Int → Value → Mem → Prop} (hQ : Q v .nilIface S) : strconv_ParseInt S s 10 16 Q := by
  intro w hS
  refine (Any.strconv_ParseInt_10_at16_ok Tryd.laysParse s hm v h w).mono ?_
  rintro e w' ⟨rfl, hw⟩
  refine ⟨_, S, rfl, ⟨_, _, rfl, hQ⟩, ?_⟩
  rcases hw with rfl | ⟨t, rfl⟩
  · exact hS
  · have hsz := bytesWorld_size w (Tryd.laysParse_ren.t 5) t
    refine hS.below ⟨?_, ?_, ?_, by omega, fun i hi => bytesWorld_at_old w _ _ i hi⟩
    all_goals (unfold bytesWorld World.freeze; split <;> rfl)
end
end Go.Proofs.YtpilffakhkagjaaDoor
