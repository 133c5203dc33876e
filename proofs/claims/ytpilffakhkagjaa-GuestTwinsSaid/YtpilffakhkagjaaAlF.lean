/- The sort of nothing. -/
import Derived.Test.YtpilffakhkagjaaAlE
import Derived.Test.YtpilffakhkagjaaPfF
namespace Go.Proofs.Ytpilffakhkagjaa
open Go Go.Pt Go.Hp
set_option maxRecDepth 20000 in
theorem bits0_spec {S : Mem} {Q : Int → Mem → Prop} (hQ : Q 0 S) : bits_Len S 0 Q := by
  apply t_bits_Len
  unfold b_bits_Len
  apply t_bits_Len64
  unfold b_bits_Len64
  simp only [jn]
  rw [if_neg (by decide), if_neg (by decide), if_neg (by decide)]
  refine ⟨by decide, 0, by decide, ?_⟩
  exact hQ
theorem sort_nil {S : Mem} {cmp : Value} {Q : Mem → Prop} (hQ : Q S) : slices_SortFunc_alarm_Alarm_alarm_Alarm S ⟨none, 0, 0⟩ cmp Q := by
  apply t_slices_SortFunc_alarm_Alarm_alarm_Alarm
  unfold b_slices_SortFunc_alarm_Alarm_alarm_Alarm
  refine bits0_spec ?_
  apply t_slices_pdqsortCmpFunc_alarm_Alarm
  unfold b_slices_pdqsortCmpFunc_alarm_Alarm
  refine lp_rule (fun (z : Int × Int × Int × Bool × Bool) S' => z = (0, 0, 0, true, true) ∧ S' = S) (fun _ => 0) ?_ ⟨rfl, rfl⟩
  rintro X z S' ⟨rfl, rfl⟩ ih
  simp only [jn]
  rw [if_pos (by decide)]
  apply t_slices_insertionSortCmpFunc_alarm_Alarm
  unfold b_slices_insertionSortCmpFunc_alarm_Alarm
  simp only [jn]
  refine lp_rule (fun (z : Int) S2 => z = 1 ∧ S2 = S') (fun _ => 0) ?_ ⟨by decide, rfl⟩
  rintro X z S2 ⟨rfl, rfl⟩ ih
  rw [if_neg (by decide)]
  exact hQ
end Go.Proofs.Ytpilffakhkagjaa
