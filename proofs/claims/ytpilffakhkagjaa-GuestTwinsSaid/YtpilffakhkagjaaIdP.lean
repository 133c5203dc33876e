/- ideal.Ideal as cells; what its small functions return. Its own conditions stand in each statement. -/
import Derived.Test.YtpilffakhkagjaaPfI
import Derived.Test.YtpilffakhkagjaaPfA
import Derived.Test.YtpilffakhkagjaaPfG
import Derived.Test.YtpilffakhkagjaaPtU
namespace Go.Proofs.Ytpilffakhkagjaa
open Go Go.Pt
/-- The cells of an Ideal with so many frames free and these six VMs; nothing lent, no alarms, no events. -/
def idl (f : Int) (vs : List (List Value)) : List Value := .int .u64 0 :: .int .i64 f :: (vs.flatten ++ (z63 ++ List.replicate 7 (.slice none 0 0)))
set_option maxRecDepth 20000 in
theorem idl_zero (f : Int) : spl z122 1 [.int .i64 f] = idl f (List.replicate 6 z117) := by kernel_rfl
/-- Six VMs of 109 cells each. -/
structure Six (vs : List (List Value)) : Prop where
  len : vs.length = 6
  each : ∀ v ∈ vs, v.length = 109
theorem flat_at {r : List Value} : ∀ (vs : List (List Value)) (_ : ∀ v ∈ vs, v.length = 109) (j o : Nat) (_ : j < vs.length) (_ : o < 109), (vs.flatten ++ r)[j * 109 + o]? = (vs.getD j [])[o]?
  | [], _, j, o, h, _ => by simp at h
  | v :: vs, hv, 0, o, _, ho => by
    have := hv v (by simp)
    simp only [List.flatten_cons, List.append_assoc, Nat.zero_mul, Nat.zero_add]
    rw [List.getElem?_append_left (by omega)]
    rfl
  | v :: vs, hv, j + 1, o, hj, ho => by
    have h := hv v (by simp)
    simp only [List.flatten_cons, List.append_assoc]
    rw [List.getElem?_append_right (by omega), h]
    have e : (j + 1) * 109 + o - 109 = j * 109 + o := by omega
    rw [e, flat_at vs (fun v hm => hv v (by simp [hm])) j o (by simpa using hj) ho]
    rfl
theorem idl_at {f : Int} {vs : List (List Value)} (hv : Six vs) {j o n : Nat} (hn : 2 + j * 109 + o = n) (hj : j < 6) (ho : o < 109) : nthL (idl f vs) n = (vs.getD j [])[o]? := by
  subst hn
  rw [nthL_eq, idl, show 2 + j * 109 + o = (j * 109 + o) + 1 + 1 by omega, List.getElem?_cons_succ, List.getElem?_cons_succ]
  exact flat_at vs hv.each j o (by rw [hv.len]; exact hj) ho
theorem flat_len : ∀ (us : List (List Value)), (∀ v ∈ us, v.length = 109) → us.flatten.length = us.length * 109
  | [], _ => rfl
  | u :: us, h => by simp only [List.flatten_cons, List.length_append, List.length_cons, h u (by simp), flat_len us fun v hm => h v (by simp [hm])]; omega
theorem idl_len {f : Int} {vs : List (List Value)} (hv : Six vs) : (idl f vs).length = 759 := by
  have hz : z63.length = 96 := by kernel_rfl
  simp only [idl, List.length_cons, List.length_append, flat_len vs hv.each, hv.len, hz, List.length_replicate]
theorem idl_part {f : Int} {vs : List (List Value)} (hv : Six vs) {j o k n : Nat} (hn : 2 + j * 109 + o = n) (hj : j < 6) (ho : o + k ≤ 109) : ((idl f vs).drop n).take k = ((vs.getD j []).drop o).take k := by
  apply List.ext_getElem?
  intro i
  simp only [List.getElem?_take, List.getElem?_drop]
  split
  · rw [← nthL_eq, idl_at hv (j := j) (o := o + i) (by omega) hj (by omega)]
  · rfl
theorem idl_free (f g : Int) (vs : List (List Value)) : spl (idl f vs) 1 [.int .i64 g] = idl g vs := rfl
theorem flat_set {r z : List Value} (hz : z.length = 109) : ∀ (vs : List (List Value)) (_ : ∀ v ∈ vs, v.length = 109) (j : Nat) (_ : j < vs.length), spl (vs.flatten ++ r) (j * 109) z = (vs.set j z).flatten ++ r
  | [], _, j, h => by simp at h
  | v :: vs, hv, 0, _ => by
    have h := hv v (by simp)
    simp only [Nat.zero_mul, spl, List.set_cons_zero, List.flatten_cons, List.append_assoc]
    rw [hz, ← h, List.drop_left]
  | v :: vs, hv, j + 1, hj => by
    have h := hv v (by simp)
    have ih := flat_set hz (r := r) vs (fun v hm => hv v (by simp [hm])) j (by simpa using hj)
    have hl : j * 109 ≤ (vs.flatten ++ r).length := by
      rw [List.length_append, flat_len vs fun v hm => hv v (by simp [hm])]
      have : j < vs.length := by simpa using hj
      omega
    rw [spl_eq _ _ _ hl] at ih
    rw [spl_eq _ _ _ (by simp only [List.flatten_cons, List.append_assoc, List.length_append] at hl ⊢; omega)]
    simp only [List.flatten_cons, List.append_assoc, List.set_cons_succ] at ih ⊢
    rw [← ih, show (j + 1) * 109 = v.length + j * 109 by omega, List.take_length_add_append, Nat.add_assoc, ← List.drop_drop, List.drop_left]
    simp only [List.append_assoc]
theorem idl_set {f : Int} {vs : List (List Value)} (hv : Six vs) {j n : Nat} (hn : 2 + j * 109 = n) (hj : j < 6) {z : List Value} (hz : z.length = 109) : spl (idl f vs) n z = idl f (vs.set j z) := by
  subst hn
  rw [show 2 + j * 109 = j * 109 + 1 + 1 by omega, idl, spl, spl, flat_set hz vs hv.each j (by rw [hv.len]; exact hj)]
  rfl
/-- A part of one VM. -/
theorem idl_spl {f : Int} {vs : List (List Value)} (hv : Six vs) {j o n : Nat} {z : List Value} (hn : 2 + j * 109 + o = n) (hj : j < 6) (hz : o + z.length ≤ 109) : spl (idl f vs) n z = idl f (vs.set j (spl (vs.getD j []) o z)) := by
  have hlen := idl_len (f := f) hv
  have hvj : (vs.getD j []).length = 109 := by
    rw [List.getD_eq_getElem?_getD, List.getElem?_eq_getElem (by rw [hv.len]; exact hj)]
    exact hv.each _ (List.getElem_mem _)
  have e : spl (idl f vs) (2 + j * 109) (spl (vs.getD j []) o z) = spl (idl f vs) n z := by
    apply List.ext_getElem?
    intro i
    have hl2 : (spl (vs.getD j []) o z).length = 109 := spl_ln hvj hz
    rw [spl_get (cs := idl f vs) (o := 2 + j * 109) (by omega), spl_get (cs := idl f vs) (o := n) (by omega)]
    rw [hl2]
    by_cases h1 : 2 + j * 109 ≤ i ∧ i < 2 + j * 109 + 109
    · rw [if_pos h1, spl_get (by omega)]
      by_cases h2 : n ≤ i ∧ i < n + z.length
      · rw [if_pos h2, if_pos (by omega)]
        congr 1; omega
      · rw [if_neg h2, if_neg (by omega), ← nthL_eq, ← nthL_eq, idl_at hv (j := j) (o := i - (2 + j * 109)) (by omega) hj (by omega), nthL_eq]
    · rw [if_neg h1, if_neg (by omega)]
  rw [← e, idl_set hv rfl hj (spl_ln hvj hz)]
theorem Six.set {vs : List (List Value)} (hv : Six vs) {j : Nat} {z : List Value} (hz : z.length = 109) : Six (vs.set j z) :=
  ⟨by rw [List.length_set, hv.len], fun v hm => by
    rcases List.mem_or_eq_of_mem_set hm with h | h
    · exact hv.each v h
    · rw [h]; exact hz⟩
theorem Six.get {vs : List (List Value)} (hv : Six vs) {j : Nat} (hj : j < 6) : (vs.getD j []).length = 109 := by
  rw [List.getD_eq_getElem?_getD, List.getElem?_eq_getElem (by rw [hv.len]; exact hj)]
  exact hv.each _ (List.getElem_mem _)
theorem getD_set_same {vs : List (List Value)} {j : Nat} {z : List Value} (hj : j < vs.length) : (vs.set j z).getD j [] = z := by simp [List.getD_eq_getElem?_getD, hj]
theorem getD_set_ne {vs : List (List Value)} {i j : Nat} {z : List Value} (h : i ≠ j) : (vs.set j z).getD i [] = vs.getD i [] := by simp [List.getD_eq_getElem?_getD, List.getElem?_set_ne (Ne.symm h)]
theorem idl_leases {f : Int} {vs : List (List Value)} (hv : Six vs) : ((idl f vs).drop 656).take 96 = z63 := by
  have h6 := flat_len vs hv.each
  rw [hv.len] at h6
  have hz : z63.length = 96 := by kernel_rfl
  rw [idl, show (656 : Nat) = vs.flatten.length + 1 + 1 by omega, List.drop_succ_cons, List.drop_succ_cons, List.drop_left, ← hz, List.take_left]
theorem idl_clock {f : Int} {vs : List (List Value)} (hv : Six vs) : nthL (idl f vs) 752 = some (.slice none 0 0) := by
  have h6 := flat_len vs hv.each
  rw [hv.len] at h6
  have hz : z63.length = 96 := by kernel_rfl
  rw [nthL_eq, idl, show (752 : Nat) = (vs.flatten.length + 96) + 1 + 1 by omega, List.getElem?_cons_succ, List.getElem?_cons_succ, List.getElem?_append_right (by omega), List.getElem?_append_right (by omega)]
  rw [hz, show vs.flatten.length + 96 - vs.flatten.length - 96 = 0 by omega]
  rfl
theorem idl_ev {f : Int} {vs : List (List Value)} (hv : Six vs) {j : Nat} (hj : j < 6) : nthL (idl f vs) (753 + j) = some (.slice none 0 0) := by
  have h6 := flat_len vs hv.each
  rw [hv.len] at h6
  have hz : z63.length = 96 := by kernel_rfl
  rw [nthL_eq, idl, show (753 + j : Nat) = (vs.flatten.length + (97 + j)) + 1 + 1 by omega, List.getElem?_cons_succ, List.getElem?_cons_succ, List.getElem?_append_right (by omega), List.getElem?_append_right (by omega)]
  rw [hz, show vs.flatten.length + (97 + j) - vs.flatten.length - 96 = 1 + j by omega, List.getElem?_replicate, if_pos (by omega)]
theorem spl_same : ∀ {cs : List Value} {o : Nat} {v : Value}, nthL cs o = some v → spl cs o [v] = cs
  | [], _, _, h => by simp [nthL] at h
  | c :: cs, 0, v, h => by simp only [nthL, Option.some.injEq] at h; simp [spl, h]
  | c :: cs, o + 1, v, h => by simp only [nthL] at h; simp [spl, spl_same h]

section
variable {S : Mem} {b : Nat} {f : Int} {vs : List (List Value)}
/-- The Ideal stands at 'b'. -/
def At (S : Mem) (b : Nat) (f : Int) (vs : List (List Value)) : Prop := S b = some (bw 122 (idl f vs)) ∧ Six vs
theorem there_spec (h : At S b f vs) {j : Nat} (hj : j < 6) {on : Bool} (hon : (vs.getD j [])[0]? = some (.bool on)) {Q : Bool → Mem → Prop} (hQ : Q on S) : ideal_Ideal_there S (some (b, 0)) j Q := by
  apply t_ideal_Ideal_there
  unfold b_ideal_Ideal_there
  have hc : S.cell b (0 + 2 + (j : Int).toNat * 109) = some (.bool on) := by
    rw [cell_of h.1]; simp only; rw [idl_at h.2 (j := j) (o := 0) (by omega) hj (by omega), hon]
  rw [if_pos (by simp), if_pos (by omega), if_pos (by omega), nn_i]
  exact ⟨by omega, by omega, by rw [gB_i hc]; exact hQ⟩
theorem free_spec (h : At S b f vs) {Q : Int → Mem → Prop} (hQ : Q f S) : ideal_Ideal_Free S (some (b, 0)) Q := by
  apply t_ideal_Ideal_Free
  unfold b_ideal_Ideal_Free
  have hc : S.cell b (0 + 1) = some (.int .i64 f) := by rw [cell_of h.1]; rfl
  rw [if_neg (by simp), nn_i, gI_i hc]; exact hQ
theorem six_none : Six (List.replicate 6 z117) := by
  refine ⟨by simp, fun v hv => ?_⟩
  rw [List.eq_of_mem_replicate hv]; kernel_rfl
theorem new_spec {Q : Pt → Mem → Prop} (hQ : ∀ b S', S b = none → Keeps S S' [] → At S' b f (List.replicate 6 z117) → Q (some (b, 0)) S') : ideal_New S f Q := by
  apply t_ideal_New
  unfold b_ideal_New
  intro b hb
  refine hQ b _ hb (Keeps.refl.new hb) ⟨?_, six_none⟩
  rw [set_same, idl_zero]
end
/-- A page's slot: with a page of its own, or none. -/
def slotOf : Option Nat → List Value
  | some b => [.pointer (some ⟨b, 0, none⟩), .bool true, .bool true]
  | none => [.pointer none, .bool false, .bool false]
/-- The cells of a VM: guest.VM's, its slots, when it began. -/
def vmc (hd : List Value) (ks : List (Option Nat)) : List Value := hd ++ ((ks.map slotOf).flatten ++ [.int .u64 0])
theorem slots_len : ∀ (ks : List (Option Nat)), (ks.map slotOf).flatten.length = ks.length * 3
  | [] => rfl
  | k :: ks => by
    have := slots_len ks
    cases k <;> simp only [List.map_cons, List.flatten_cons, slotOf, List.length_append, List.length_cons, List.length_nil, this] <;> omega
theorem vmc_len {hd : List Value} {ks : List (Option Nat)} (hh : hd.length = 12) (hk : ks.length = 32) : (vmc hd ks).length = 109 := by
  simp only [vmc, List.length_append, slots_len, hh, hk, List.length_cons, List.length_nil]
theorem vmc_slots {hd : List Value} {ks : List (Option Nat)} (hh : hd.length = 12) (hk : ks.length = 32) : ((vmc hd ks).drop 12).take 96 = (ks.map slotOf).flatten := by
  have h96 := slots_len ks
  rw [hk] at h96
  rw [vmc, ← hh, List.drop_left, List.take_append_of_le_length (by omega), List.take_of_length_le (by omega)]
theorem slot_at : ∀ (ks : List (Option Nat)) (i : Nat) (h : i < ks.length), (((ks.map slotOf).flatten).drop (i * 3)).take 3 = slotOf ks[i]
  | [], i, h => by simp at h
  | k :: ks, 0, h => by cases k <;> rfl
  | k :: ks, i + 1, h => by
    have e : (i + 1) * 3 = (slotOf k).length + i * 3 := by cases k <;> simp [slotOf] <;> omega
    rw [List.map_cons, List.flatten_cons, e, ← List.drop_drop, List.drop_left, slot_at ks i (by simpa using h)]
    rfl
theorem slots_set : ∀ (ks : List (Option Nat)) (i : Nat) (_ : i < ks.length) (k : Option Nat) (r : List Value), spl ((ks.map slotOf).flatten ++ r) (i * 3) (slotOf k) = ((ks.set i k).map slotOf).flatten ++ r
  | [], i, h, _, _ => by simp at h
  | k0 :: ks, 0, _, k, r => by cases k0 <;> cases k <;> rfl
  | k0 :: ks, i + 1, h, k, r => by
    have ih := slots_set ks i (by simpa using h) k r
    have e : (i + 1) * 3 = i * 3 + 1 + 1 + 1 := by omega
    rw [e, List.map_cons, List.flatten_cons, List.set_cons_succ, List.map_cons, List.flatten_cons]
    obtain ⟨x, y, z, h3⟩ : ∃ x y z, slotOf k0 = [x, y, z] := by cases k0 <;> exact ⟨_, _, _, rfl⟩
    rw [h3]
    simp only [List.cons_append, List.nil_append, spl, ih]
theorem vmc_set {hd : List Value} {ks : List (Option Nat)} (hh : hd.length = 12) {i n : Nat} (hn : 12 + i * 3 = n) (hi : i < ks.length) (k : Option Nat) : spl (vmc hd ks) n (slotOf k) = vmc hd (ks.set i k) := by
  subst hn
  have hl := slots_len ks
  have h3 : (slotOf k).length = 3 := by cases k <;> rfl
  have := slots_set ks i hi k [.int .u64 0]
  rw [spl_eq _ _ _ (by simp only [List.length_append, slots_len]; omega)] at this
  unfold vmc
  rw [spl_eq _ _ _ (by simp only [List.length_append, slots_len]; omega), ← this, ← hh, List.take_length_add_append, Nat.add_assoc, ← List.drop_drop, List.drop_left]
  simp only [List.append_assoc]
def owns (ks : List (Option Nat)) : Int := (ks.countP Option.isSome : Nat)
theorem owns_bd (ks : List (Option Nat)) (hk : ks.length = 32) : 0 ≤ owns ks ∧ owns ks ≤ 32 := by
  have h1 := List.countP_le_length (p := Option.isSome) (l := ks)
  simp only [owns]; omega
section
variable {S : Mem} {b : Nat} {f : Int} {vs : List (List Value)}
theorem pages_spec (h : At S b f vs) {j : Nat} (hj : j < 6) {hd : List Value} {ks : List (Option Nat)} (hh : hd.length = 12) (hk : ks.length = 32) (hm : vs.getD j [] = vmc hd ks) {Q : Int → Mem → Prop} (hQ : Q (owns ks) S) :
    ideal_Ideal_pages S (some (b, 0)) j Q := by
  apply t_ideal_Ideal_pages
  unfold b_ideal_Ideal_pages
  simp only [jn]
  have hp : S.part b (0 + 2 + (j : Int).toNat * 109 + 12) 96 = some (ks.map slotOf).flatten := by
    rw [part_of h.1, lpart_i (by simp only; rw [idl_len h.2]; omega)]
    simp only
    rw [idl_part h.2 (j := j) (o := 12) (by omega) hj (by decide), hm, vmc_slots hh hk]
  rw [nn_i]
  refine ⟨by omega, by omega, ?_⟩
  rw [gA_i hp]
  refine lp_rule (fun (z : Int × Int) S' => S' = S ∧ ∃ i : Nat, z.2 = (i : Int) ∧ i ≤ 32 ∧ z.1 = owns (ks.take i)) (fun z => (32 - z.2).toNat) ?_ ⟨rfl, 0, rfl, by omega, rfl⟩
  rintro X ⟨k, t⟩ S' ⟨rfl, i, h1, hi, h2⟩ ih
  simp only at h1 h2; subst h1; subst h2
  dsimp only at ih ⊢
  by_cases hlt : i < 32
  · rw [if_pos (by omega)]
    refine ⟨by omega, by omega, ?_⟩
    have hs : lpart (ks.map slotOf).flatten ((i : Int).toNat * 3) 3 = some (slotOf (ks[i]'(by omega))) := by
      rw [lpart_i (by rw [slots_len]; omega)]
      exact congrArg some (slot_at ks i (by omega))
    rw [gA_i hs]
    have htk : owns (ks.take (i + 1)) = owns (ks.take i) + (if (ks[i]'(by omega)).isSome then 1 else 0) := by
      simp only [owns, List.take_succ_eq_append_getElem (show i < ks.length by omega), List.countP_append, List.countP_cons, List.countP_nil]
      split <;> simp
    have hbd : 0 ≤ owns (ks.take i) ∧ owns (ks.take i) ≤ 32 := by
      have h1 := List.countP_le_length (p := Option.isSome) (l := ks.take i)
      rw [List.length_take] at h1
      simp only [owns]; omega
    revert htk
    generalize ks[i]'(by omega) = kk
    intro htk
    cases kk with
    | none =>
      refine ⟨rfl, ?_⟩
      rw [gB_i (show nthL (slotOf none) 1 = some (.bool false) from rfl), if_neg (by simp)]
      refine ih _ _ ⟨rfl, i + 1, by simp only; rw [w64 (by omega) (by omega)]; omega, by omega, by simp only; rw [htk]; simp⟩ (by simp only; rw [w64 (by omega) (by omega)]; omega)
    | some p =>
      refine ⟨rfl, ?_⟩
      rw [gB_i (show nthL (slotOf (some p)) 1 = some (.bool true) from rfl), if_pos rfl]
      refine ih _ _ ⟨rfl, i + 1, by simp only; rw [w64 (by omega) (by omega)]; omega, by omega, by simp only; rw [htk, w64 (by omega) (by omega)]; simp⟩ (by simp only; rw [w64 (by omega) (by omega)]; omega)
  · rw [if_neg (by omega), show i = 32 by omega, show ks.take 32 = ks by rw [← hk]; exact List.take_length]
    exact hQ
def noLease : List Value := [.bool false, .int .i64 0, .int .i64 0, .int .i64 0, .bool false, .int .i64 0]
theorem z63_at (i : Nat) (h : i < 16) : lpart z63 ((i : Int).toNat * 6) 6 = some noLease := by
  rw [Int.toNat_natCast]
  match i, h with
  | 0, _ => rfl
  | 1, _ => rfl
  | 2, _ => rfl
  | 3, _ => rfl
  | 4, _ => rfl
  | 5, _ => rfl
  | 6, _ => rfl
  | 7, _ => rfl
  | 8, _ => rfl
  | 9, _ => rfl
  | 10, _ => rfl
  | 11, _ => rfl
  | 12, _ => rfl
  | 13, _ => rfl
  | 14, _ => rfl
  | 15, _ => rfl
  | n + 16, h => omega
theorem of_spec {j : Int} {Q : Sl → Mem → Prop} (hQ : Q ⟨none, 0, 0⟩ S) : lease_Book_Of S z63 j Q := by
  apply t_lease_Book_Of
  unfold b_lease_Book_Of
  simp only [jn]
  refine ⟨by kernel_rfl, ?_⟩
  refine lp_rule (fun (z : Sl × Int) S' => S' = S ∧ z.1 = ⟨none, 0, 0⟩ ∧ ∃ i : Nat, z.2 = (i : Int) ∧ i ≤ 16) (fun z => (16 - z.2).toNat) ?_ ⟨rfl, rfl, 0, rfl, by omega⟩
  rintro X ⟨o, t⟩ S' ⟨rfl, h0, i, h1, hi⟩ ih
  simp only at h0 h1; subst h1; subst h0
  dsimp only at ih ⊢
  by_cases hlt : i < 16
  · rw [if_pos (by omega)]
    refine ⟨by omega, by omega, ?_⟩
    rw [gA_i (z63_at i hlt)]
    refine ⟨rfl, ?_⟩
    rw [gB_i (show nthL noLease 0 = some (.bool false) from rfl), if_neg (by simp), if_neg (by simp)]
    exact ih _ _ ⟨rfl, rfl, i + 1, by simp only; rw [w64 (by omega) (by omega)]; omega, by omega⟩ (by simp only; rw [w64 (by omega) (by omega)]; omega)
  · rw [if_neg (by omega)]
    exact hQ
end
end Go.Proofs.Ytpilffakhkagjaa
