/- Small laws for GuestTwins. -/
import Derived.Test.YtpilffakhkagjaaGuN
namespace Go.Proofs.Ytpilffakhkagjaa
open Go Go.Pt
theorem Stb.vw {S0 S : Mem} {b ob rb kb : Nat} {now : Int} {as_ : List Va} {xs : List Vs} {rows : List (List Value)} {le tu : List Value} {s : Sl} {l : List Al} (h : Stb S0 S b ob rb kb now as_ xs rows le tu s l) (h1 : fits ck63 le = true) (h2 : fits ckT tu = true) : Vw S b ob rb now as_ xs rows (some (kb, 0)) le tu :=
  ⟨h.st.blk, h.la, h.lx, h.is_, h.ok, h.st.bk, h.rows_, h.lrows, ⟨h1, h.st.le⟩, ⟨h2, h.st.tu⟩⟩
/-- A state is read as before where its blocks are kept. -/
theorem Vw.keep {S S' : Mem} {W : List Nat} {b ob rb : Nat} {now : Int} {as_ : List Va} {xs : List Vs} {rows : List (List Value)} {ck : Pt} {le tu : List Value} (h : Vw S b ob rb now as_ xs rows ck le tu) (hk : Keeps S S' W) (h1 : b ∉ W) (h2 : ob ∉ W) (h3 : rb ∉ W) (h4 : ∀ x ∈ blksOf xs, x ∉ W) : Vw S' b ob rb now as_ xs rows ck le tu :=
  ⟨hk.get h.blk h1, h.la, h.lx, fun i a1 a2 => (h.is_ i a1 a2).keep hk fun q hq => h4 q (List.mem_flatMap.2 ⟨_, List.getElem_mem a2, hq⟩), h.ok, h.bk.keep hk h2 h3, h.rows_, h.lrows, h.le, h.tu⟩
theorem sameS_refl (as_ : List Va) (rows : List (List Value)) (le tu : List Value) : sameS as_ as_ rows rows le le tu tu :=
  ⟨fun _ _ _ => ⟨rfl, rfl, rfl, rfl, rfl, rfl, rfl, rfl, rfl⟩, rfl, rfl, fun _ _ _ => .inl rfl⟩
theorem fits_le : fits ck63 ((z68.drop 75).take 96) = true := by kernel_rfl
theorem fits_tu : fits ckT (z68.drop 172) = true := by kernel_rfl
/-- A draft of which one more VM is on. -/
theorem Draft.turnOn {S : Mem} {d : List Value} (h : Draft S d) {i : Nat} (hi : i < 6) : Draft S (spl d i [.bool true]) ∧ nthL (spl d i [.bool true]) i = some (.bool true) := by
  have hl : i + [Value.bool true].length ≤ d.length := by rw [h.len]; simp; omega
  have g : ∀ j, j ≠ i → nthL (spl d i [.bool true]) j = nthL d j := fun j hj => by
    rw [nthL_spl hl, if_neg (by simp; omega)]
  have gi : nthL (spl d i [.bool true]) i = some (.bool true) := by
    rw [nthL_spl hl, if_pos (by simp)]; simp [nthL]
  refine ⟨⟨by rw [spl_length hl]; exact h.len, fun j hj => ?_, fun j hj => ?_, ?_, fun j hj => ?_, ?_, fun j hj => ?_, ?_, fun k hk => ?_⟩, gi⟩
  · by_cases e : j = i
    · subst e; exact ⟨true, gi⟩
    · rw [g j e]; exact h.on j hj
  · rw [g _ (by omega)]; exact h.seats j hj
  · rw [g _ (by omega)]; exact h.keys
  · rw [g _ (by omega)]; exact h.bells j hj
  · rw [g _ (by omega)]; exact h.now
  · rw [g _ (by omega)]; exact h.late j hj
  · rw [g _ (by omega)]; exact h.r
  · rw [g _ (by omega)]; exact h.ready k hk
end Go.Proofs.Ytpilffakhkagjaa
