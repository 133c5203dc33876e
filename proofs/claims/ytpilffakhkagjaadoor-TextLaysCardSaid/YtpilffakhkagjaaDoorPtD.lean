/- The engine, part D: a statement that leaves its order open. An operation that yields its value whatever comes ahead of it is taken first; what it reads must hold its value till somebody has waited for it. No program in sight. -/
import Derived.Test.YtpilffakhkagjaaDoorPtC
namespace Go.Pt
open Go Go.RowKit
def waits (o : Oper) (i : Nat) : Bool := o.after.toList.any fun e => Region.binds .any e && Nat.beq e.on i
def waitsL (opl : List Oper) (j i : Nat) : Bool := match nthL opl j with
  | some o => waits o i
  | none => false
def keepc (opl : List Oper) (j : Nat) : List (Nat × Cond) → List (Nat × Cond)
  | [] => []
  | ic :: r => match waitsL opl j ic.1 with
    | true => keepc opl j r
    | false => ic :: keepc opl j r
theorem keepc_sub {opl : List Oper} {j : Nat} : ∀ {cs : List (Nat × Cond)}, ∀ x ∈ keepc opl j cs, x ∈ cs
  | [], x, h => by simp [keepc] at h
  | ic :: r, x, h => by
    simp only [keepc] at h
    split at h
    · exact List.mem_cons_of_mem _ (keepc_sub x h)
    · rcases List.mem_cons.1 h with rfl | h
      · simp
      · exact List.mem_cons_of_mem _ (keepc_sub x h)
theorem keepc_mono {opl : List Oper} {j : Nat} : ∀ {cs cs' : List (Nat × Cond)}, (∀ x ∈ cs', x ∈ cs) → ∀ x ∈ keepc opl j cs', x ∈ keepc opl j cs := by
  have key : ∀ (cs : List (Nat × Cond)) x, x ∈ keepc opl j cs ↔ x ∈ cs ∧ waitsL opl j x.1 = false := by
    intro cs
    induction cs with
    | nil => intro x; simp [keepc]
    | cons ic r ih =>
      intro x
      simp only [keepc]
      split
      · rename_i hw
        rw [ih, List.mem_cons]
        constructor
        · rintro ⟨h1, h2⟩; exact ⟨.inr h1, h2⟩
        · rintro ⟨rfl | h1, h2⟩
          · rw [h2] at hw; cases hw
          · exact ⟨h1, h2⟩
      · rename_i hw
        rw [List.mem_cons, ih, List.mem_cons]
        constructor
        · rintro (rfl | ⟨h1, h2⟩)
          · exact ⟨.inl rfl, hw⟩
          · exact ⟨.inr h1, h2⟩
        · rintro ⟨rfl | h1, h2⟩
          · exact .inl rfl
          · exact .inr ⟨h1, h2⟩
  intro cs cs' h x hx
  rw [key] at *
  exact ⟨h x hx.1, hx.2⟩
def allok (cs : List (Nat × Cond)) (w : World) : Prop := ∀ ic ∈ cs, ic.2.ok w

section
variable {P : Program} {opl : List Oper} {Q : Exit → Act → World → Prop}
def wpAnyC (P : Program) (opl : List Oper) (Q : Exit → Act → World → Prop) : Nat → List (Nat × Cond) → Array Bool → Act → World → Prop
  | 0, _, listed, a, w => Region.ready .any opl.toArray listed = [] ∧ Q .normal a w
  | fuel + 1, cs, listed, a, w =>
    (Region.ready .any opl.toArray listed = [] → Q .normal a w) ∧
    ∀ i ∈ Region.ready .any opl.toArray listed, wpOp P opl.toArray Q i (fun a' w' => allok (keepc opl i cs) w' ∧ wpAnyC P opl Q fuel (keepc opl i cs) (listed.setIfInBounds i true) a' w') a w
theorem wpAny_of_C : ∀ (fuel : Nat) (cs : List (Nat × Cond)) (listed : Array Bool) (a : Act) (w : World), wpAnyC P opl Q fuel cs listed a w → wpAny P .any opl.toArray Q fuel listed a w
  | 0, _, _, _, _, h => h
  | fuel + 1, _, _, _, _, h => ⟨h.1, fun i hi => wpOp_mono (fun a' w' h' => wpAny_of_C fuel _ _ a' w' h'.2) (h.2 i hi)⟩
theorem wpAnyC_mono : ∀ (fuel : Nat) (cs cs' : List (Nat × Cond)) (listed : Array Bool) (a : Act) (w : World), (∀ x ∈ cs', x ∈ cs) → wpAnyC P opl Q fuel cs listed a w → wpAnyC P opl Q fuel cs' listed a w
  | 0, _, _, _, _, _, _, h => h
  | fuel + 1, _, _, _, _, _, hs, h => ⟨h.1, fun i hi => wpOp_mono (fun a' w' h' => ⟨fun x hx => h'.1 x (keepc_mono hs x hx), wpAnyC_mono fuel _ _ _ a' w' (keepc_mono hs) h'.2⟩) (h.2 i hi)⟩
theorem wpAnyC_first {i : Nat} {oi : Oper} {v : Value} {c : Cond} (hi : opl.toArray[i]? = some oi) (hsel : ∀ (j : Nat) (o : Oper) cs b, opl.toArray[j]? = some o → o.op ≠ .select cs b)
    (hQ : ∀ c a w, ¬ Q (.panic c) a w) :
    ∀ (fuel : Nat) (cs : List (Nat × Cond)) (listed : Array Bool) (a : Act) (w : World),
      (∀ j oj, opl.toArray[j]? = some oj → j ≠ i → listed.getD j true = false → (∀ e ∈ oj.after, Region.binds .any e = true → e.on ≠ i) → oi.apart opl.toArray oj = true) →
      i ∈ Region.ready .any opl.toArray listed → YieldsIf P opl.toArray c.ok oi v a → c.ok w → allok cs w →
      wpAnyC P opl Q fuel ((i, c) :: cs) (listed.setIfInBounds i true) (a.put oi.dst v) w → wpAnyC P opl Q (fuel + 1) cs listed a w := by
  intro fuel
  induction fuel with
  | zero =>
    intro cs listed a w _ hr hy hc hcs H
    refine ⟨fun h => (by rw [h] at hr; cases hr), fun j hj => ?_⟩
    by_cases hji : j = i
    · subst hji; exact hy.wpOp hi hc ⟨fun x hx => hcs x (keepc_sub x hx), H⟩
    · have := ready_mono hj hji
      rw [H.1] at this
      cases this
  | succ fuel ih =>
    intro cs listed a w hfree hr hy hc hcs H
    refine ⟨fun h => (by rw [h] at hr; cases hr), fun j hj => ?_⟩
    by_cases hji : j = i
    · subst hji
      exact hy.wpOp hi hc ⟨fun x hx => hcs x (keepc_sub x hx), wpAnyC_mono _ _ _ _ _ _ (fun x hx => List.mem_cons_of_mem _ (keepc_sub x hx)) H⟩
    · have h1 := H.2 j (ready_mono hj hji)
      obtain ⟨hjun, oj, hoj, hall⟩ := mem_ready.1 hj
      have hnot : ∀ e ∈ oj.after, Region.binds .any e = true → e.on ≠ i := fun e he hb heq => by
        have h1 := hall e he hb
        have h0 := (mem_ready.1 hr).1
        rw [heq] at h1
        rcases Nat.lt_or_ge i listed.size with h' | h'
        · simp [h'] at h0 h1; rw [h0] at h1; cases h1
        · simp [Array.getElem?_eq_none h'] at h1
      have hk : keepc opl j ((i, c) :: cs) = (i, c) :: keepc opl j cs := by
        have hw : waitsL opl j i = false := by
          unfold waitsL
          rw [nthL_eq, show opl[j]? = some oj by simpa using hoj]
          simp only [waits]
          rw [List.any_eq_false]
          intro e he
          simp only [Bool.and_eq_true, not_and]
          intro hb hbe
          exact hnot e (by simpa using he) hb (Nat.eq_of_beq_eq_true hbe)
        simp only [keepc, hw]
      rw [hk] at h1
      have h2 := wpOp_putIf (S := c.ok) hoj (hfree j oj hoj hji hjun hnot) (fun cs b => hsel i oi cs b hi) (fun cs b => hsel j oj cs b hoj) (fun c a w h => (hQ c _ w h).elim) hy h1
      have hfree' : ∀ k ok, opl.toArray[k]? = some ok → k ≠ i → (listed.setIfInBounds j true).getD k true = false →
          (∀ e ∈ ok.after, Region.binds .any e = true → e.on ≠ i) → oi.apart opl.toArray ok = true := fun k ok hk hki hun hno => by
        refine hfree k ok hk hki ?_ hno
        by_cases hjk : j = k
        · subst hjk; exact hjun
        · rw [getD_set_ne true hjk] at hun; exact hun
      refine wpOp_mono (fun a' w' h3 => ?_) h2
      obtain ⟨h4, h5, h6⟩ := h3
      have h7 : allok (keepc opl j cs) w' := fun x hx => h5 x (List.mem_cons_of_mem _ hx)
      refine ⟨h7, ih (keepc opl j cs) (listed.setIfInBounds j true) a' w' hfree' (ready_mono hr (Ne.symm hji)) h4 (h5 (i, c) (by simp)) h7 ?_⟩
      rw [Array.setIfInBounds_comm _ _ hji]
      exact h6
end

def NP (Q : Exit → Act → World → Prop) : Prop := ∀ c a w, ¬ Q (.panic c) a w
theorem np_body {P : Program} {fn : Func} {w0 : World} {S0 : Mem} {R : Value → Mem → Prop} : NP (bodyPost P fn (FR w0 S0 R)) := fun _ _ _ h => by
  obtain ⟨_, v, Lo, h1, _⟩ := h
  cases h1
theorem np_then {K : Act → World → Prop} {Q : Exit → Act → World → Prop} (h : NP Q) : NP (Exit.then K Q) := fun c a w hq => h c a w hq
theorem np_blk {i : Nat} {Q : Exit → Act → World → Prop} (h : NP Q) : NP (Exit.inBlock i Q) := fun c a w hq => h c a w hq
def WA (P : Program) (w0 : World) (S0 : Mem) (opl : List Oper) (Q : Exit → Act → World → Prop) (fuel : Nat) (cs : List (Nat × Cond)) (listed : Array Bool) (l : Fr) (S : Mem) (V : Hp) : Prop :=
  ∀ a w, Ag l a → St w0 S0 S V w → allok cs w → wpAnyC P opl Q fuel cs listed a w
def AW (P : Program) (opl : List Oper) (Q : Exit → Act → World → Prop) (fuel : Nat) (cs : List (Nat × Cond)) (listed : Array Bool) (a : Act) (w : World) : Prop :=
  allok cs w ∧ wpAnyC P opl Q fuel cs listed a w
def AllC (w0 : World) (S0 S : Mem) (V : Hp) (cs : List (Nat × Cond)) : Prop := ∀ w, St w0 S0 S V w → allok cs w
def okTake (opl : List Oper) (listed : Array Bool) (i : Nat) : Bool := Region.noSelect opl.toArray && Region.free .any opl.toArray listed i && (Region.ready .any opl.toArray listed).contains i
section
variable {P : Program} {w0 : World} {S0 : Mem} {opl : List Oper} {Q : Exit → Act → World → Prop} {l : Fr} {S : Mem} {V : Hp} {fuel : Nat} {listed : Array Bool} {cs : List (Nat × Cond)}
variable {d : Option Tmp} {op : Op} {ty : TypeId} {ps : String} {af : Array Edge} {g : Option (Nat × Bool)}
theorem ac_nil : AllC w0 S0 S V [] := fun _ _ x hx => by cases hx
theorem ac_cons {i : Nat} {c : Cond} (h : HC w0 S0 S V c) (hr : AllC w0 S0 S V cs) : AllC w0 S0 S V ((i, c) :: cs) := fun w hS x hx => by
  rcases List.mem_cons.1 hx with rfl | hx
  · exact h w hS
  · exact hr w hS x hx
theorem c_drawn {id : Nat} (hm : P.follows .mixedOrders = true) (h : WA P w0 S0 opl Q opl.length [] (Array.replicate opl.length false) l S V) : WC P w0 S0 (.region id opl.toArray true) Q l S V :=
  fun a _ ha hS => wp_region_any hm (wpAny_of_C _ _ _ _ _ (by
    have := h a _ ha hS.drawn (fun x hx => by cases hx)
    simpa using this))
theorem a_take (i : Nat) {v : Value} {c : Cond} (hi : nthL opl i = some ⟨d, op, ty, ps, af, g⟩) (hok : okTake opl listed i = true)
    (hQ : NP Q) (hw : wantL opl l g = some true) (hy : Yc P l c op v) (hc : HC w0 S0 S V c) (k : WA P w0 S0 opl Q fuel ((i, c) :: cs) (listed.setIfInBounds i true) (putn l d v) S V) : WA P w0 S0 opl Q (fuel + 1) cs listed l S V :=
  fun a w ha hS hcs => by
    simp only [okTake, Bool.and_eq_true] at hok
    have hi' : opl.toArray[i]? = some ⟨d, op, ty, ps, af, g⟩ := by rw [nthL_eq] at hi; simpa using hi
    exact wpAnyC_first hi' (Region.noSelect_spec hok.1.1) hQ fuel cs listed a w (Region.free_spec hi' hok.1.2) (by simpa using hok.2)
      (.inl ⟨wanted_of (o := ⟨d, op, ty, ps, af, g⟩) hw ha, fun w hw => hy a w ha hw d ty ps af g⟩) (hc w hS) hcs
      (k _ _ (ha.put d v) hS (fun x hx => by
        rcases List.mem_cons.1 hx with rfl | hx
        · exact hc w hS
        · exact hcs x hx))
theorem WA.fewer {cs' : List (Nat × Cond)} (hs : ∀ x ∈ cs, x ∈ cs') (hc : AllC w0 S0 S V cs') (h : WA P w0 S0 opl Q fuel cs' listed l S V) : WA P w0 S0 opl Q fuel cs listed l S V :=
  fun a w ha hS _ => wpAnyC_mono _ _ _ _ _ _ hs (h a w ha hS (hc w hS))
/-- What reads nothing lays no condition. -/
theorem a_takeP (i : Nat) {v : Value} (hi : nthL opl i = some ⟨d, op, ty, ps, af, g⟩) (hok : okTake opl listed i = true)
    (hQ : NP Q) (hw : wantL opl l g = some true) (hy : Yc P l .tt op v) (k : WA P w0 S0 opl Q fuel cs (listed.setIfInBounds i true) (putn l d v) S V) : WA P w0 S0 opl Q (fuel + 1) cs listed l S V := by
  intro a w ha hS hcs
  simp only [okTake, Bool.and_eq_true] at hok
  have hi' : opl.toArray[i]? = some ⟨d, op, ty, ps, af, g⟩ := by rw [nthL_eq] at hi; simpa using hi
  refine wpAnyC_first (c := .tt) hi' (Region.noSelect_spec hok.1.1) hQ fuel cs listed a w (Region.free_spec hi' hok.1.2) (by simpa using hok.2)
      (.inl ⟨wanted_of (o := ⟨d, op, ty, ps, af, g⟩) hw ha, fun w hw => hy a w ha hw d ty ps af g⟩) True.intro hcs ?_
  have := k _ _ (ha.put d v) hS hcs
  refine wpAnyC_add this
where wpAnyC_add {i : Nat} : ∀ {fuel : Nat} {cs : List (Nat × Cond)} {listed : Array Bool} {a : Act} {w : World}, wpAnyC P opl Q fuel cs listed a w → wpAnyC P opl Q fuel ((i, .tt) :: cs) listed a w
  | 0, _, _, _, _, h => h
  | fuel + 1, cs, _, _, _, h => ⟨h.1, fun j hj => wpOp_mono (fun a' w' h' => by
      simp only [keepc]
      split
      · exact h'
      · refine ⟨fun x hx => ?_, wpAnyC_add h'.2⟩
        rcases List.mem_cons.1 hx with rfl | hx
        · exact True.intro
        · exact h'.1 x hx) (h.2 j hj)⟩
theorem a_skip (i : Nat) (hi : nthL opl i = some ⟨d, op, ty, ps, af, g⟩) (hok : okTake opl listed i = true)
    (hQ : NP Q) (hw : wantL opl l g = some false) (k : WA P w0 S0 opl Q fuel cs (listed.setIfInBounds i true) (putn l d undef) S V) : WA P w0 S0 opl Q (fuel + 1) cs listed l S V := by
  intro a w ha hS hcs
  simp only [okTake, Bool.and_eq_true] at hok
  have hi' : opl.toArray[i]? = some ⟨d, op, ty, ps, af, g⟩ := by rw [nthL_eq] at hi; simpa using hi
  refine wpAnyC_first (c := .tt) hi' (Region.noSelect_spec hok.1.1) hQ fuel cs listed a w (Region.free_spec hi' hok.1.2) (by simpa using hok.2)
      (.inr ⟨wanted_of (o := ⟨d, op, ty, ps, af, g⟩) hw ha, rfl⟩) True.intro hcs ?_
  exact a_takeP.wpAnyC_add (k _ _ (ha.put d undef) hS hcs)
theorem wpOp_of_list {i : Nat} {o : Oper} {K : Act → World → Prop} {a : Act} {w : World} (hi : nthL opl i = some o) (h : wpList P opl.toArray (Exit.then K Q) [o] a w) : wpOp P opl.toArray Q i K a w := by
  have hi' : opl.toArray[i]? = some o := by rw [nthL_eq] at hi; simpa using hi
  unfold wpOp
  simp only [hi']
  unfold wpList at h
  split at h
  · rename_i hw
    rw [if_pos hw]
    rcases h with h | ⟨h1, h2⟩
    · left
      revert h
      unfold Oper.wp Oper.upon
      split <;> intro h <;> exact h
    · right; exact ⟨h1, h2⟩
  · rename_i hw
    rw [if_neg hw]; exact h
theorem a_step (i : Nat) {o : Oper} (hr : Region.ready .any opl.toArray listed = [i]) (hi : nthL opl i = some o) (h : WL P w0 S0 opl (Exit.then (AW P opl Q fuel (keepc opl i cs) (listed.setIfInBounds i true)) Q) [o] l S V) : WA P w0 S0 opl Q (fuel + 1) cs listed l S V :=
  fun a w ha hS _ => ⟨fun h0 => (by rw [hr] at h0; cases h0), fun j hj => by
    obtain rfl : j = i := by rw [hr] at hj; simpa using hj
    exact wpOp_of_list hi (h a w ha hS)⟩
theorem a_step2 (i i2 : Nat) {o o2 : Oper} (hr : Region.ready .any opl.toArray listed = [i, i2]) (hi : nthL opl i = some o) (hi2 : nthL opl i2 = some o2)
    (h : WL P w0 S0 opl (Exit.then (AW P opl Q fuel (keepc opl i cs) (listed.setIfInBounds i true)) Q) [o] l S V) (h2 : WL P w0 S0 opl (Exit.then (AW P opl Q fuel (keepc opl i2 cs) (listed.setIfInBounds i2 true)) Q) [o2] l S V) : WA P w0 S0 opl Q (fuel + 1) cs listed l S V :=
  fun a w ha hS _ => ⟨fun h0 => (by rw [hr] at h0; cases h0), fun j hj => by
    have : j = i ∨ j = i2 := by rw [hr] at hj; simpa using hj
    rcases this with rfl | rfl
    · exact wpOp_of_list hi (h a w ha hS)
    · exact wpOp_of_list hi2 (h2 a w ha hS)⟩
theorem a_step3 (i i2 i3 : Nat) {o o2 o3 : Oper} (hr : Region.ready .any opl.toArray listed = [i, i2, i3]) (hi : nthL opl i = some o) (hi2 : nthL opl i2 = some o2) (hi3 : nthL opl i3 = some o3)
    (h : WL P w0 S0 opl (Exit.then (AW P opl Q fuel (keepc opl i cs) (listed.setIfInBounds i true)) Q) [o] l S V) (h2 : WL P w0 S0 opl (Exit.then (AW P opl Q fuel (keepc opl i2 cs) (listed.setIfInBounds i2 true)) Q) [o2] l S V)
    (h3 : WL P w0 S0 opl (Exit.then (AW P opl Q fuel (keepc opl i3 cs) (listed.setIfInBounds i3 true)) Q) [o3] l S V) : WA P w0 S0 opl Q (fuel + 1) cs listed l S V :=
  fun a w ha hS _ => ⟨fun h0 => (by rw [hr] at h0; cases h0), fun j hj => by
    have : j = i ∨ j = i2 ∨ j = i3 := by rw [hr] at hj; simpa using hj
    rcases this with rfl | rfl | rfl
    · exact wpOp_of_list hi (h a w ha hS)
    · exact wpOp_of_list hi2 (h2 a w ha hS)
    · exact wpOp_of_list hi3 (h3 a w ha hS)⟩
theorem q_any (hall : AllC w0 S0 S V cs) (k : WA P w0 S0 opl Q fuel cs listed l S V) : WQ w0 S0 (Exit.then (AW P opl Q fuel cs listed) Q) .normal l S V :=
  fun a w ha hS => ⟨hall w hS, k a w ha hS (hall w hS)⟩
theorem a_done (hr : Region.ready .any opl.toArray listed = []) (k : WQ w0 S0 Q .normal l S V) : WA P w0 S0 opl Q fuel cs listed l S V :=
  fun a w ha hS _ => by
    cases fuel with
    | zero => exact ⟨hr, k a w ha hS⟩
    | succ n => exact ⟨fun _ => k a w ha hS, by rw [hr]; simp⟩
theorem a_pub (n : Nat) {b : Nat} {t : TypeId} {zs : List Value} (hn : nthL V n = some ⟨b, t, zs⟩) (k : S b = none → WA P w0 S0 opl Q fuel cs listed l (S.set b (bw t zs)) (dropE V n)) (hty : Nat.beq t itT = false := by rfl) : WA P w0 S0 opl Q fuel cs listed l S V :=
  fun a w ha hS hcs => k (hS.loc _ (mem_of_nthL hn)).2.1 a w ha (hS.publish hn hty) hcs
end
end Go.Pt
