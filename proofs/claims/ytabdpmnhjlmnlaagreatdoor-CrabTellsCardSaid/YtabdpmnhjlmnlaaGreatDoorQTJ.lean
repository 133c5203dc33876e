/- Texts of this work, joined by program (pack.py): Cg, PsE, St, Cf, Ch, Rx, Cn, PsH, PsF. -/
import Derived.Test.YtabdpmnhjlmnlaaGreatDoorQTI
import Derived.Test.YtabdpmnhjlmnlaaGreatDoorQTC
set_option linter.unusedVariables false
section
namespace Go.Cr
open Go Go.Pt
def spB (d : List Int) (off : Nat) (l : List Int) : List Int := d.take off ++ l ++ d.drop (off + l.length)
theorem spB_len {d : List Int} {off : Nat} {l : List Int} (h : off + l.length ≤ d.length) : (spB d off l).length = d.length := by
  unfold spB; simp only [List.length_append, List.length_take, List.length_drop]; omega
theorem spB_byt {d : List Int} {off : Nat} {l : List Int} (h : Byt d) (hl : Byt l) : Byt (spB d off l) := fun x hx => by
  unfold spB at hx
  rcases List.mem_append.1 hx with hx | hx
  · rcases List.mem_append.1 hx with hx | hx
    · exact h x (List.mem_of_mem_take hx)
    · exact hl x hx
  · exact h x (List.mem_of_mem_drop hx)
def rdB (d : List Int) (off n : Nat) : List Int := (d.drop off).take n
theorem rdB_same {d : List Int} {off : Nat} {l : List Int} (h : off + l.length ≤ d.length) : rdB (spB d off l) off l.length = l := by
  unfold rdB spB
  rw [List.append_assoc, List.drop_left' (by rw [List.length_take]; omega), List.take_left' rfl]
theorem spB_get {d : List Int} {off j : Nat} {l : List Int} (h : off + l.length ≤ d.length) : (spB d off l)[j]? = if off ≤ j ∧ j < off + l.length then l[j - off]? else d[j]? := by
  unfold spB
  rw [List.append_assoc, List.getElem?_append, List.length_take, Nat.min_eq_left (by omega)]
  split
  · rw [if_neg (by omega), List.getElem?_take, if_pos (by omega)]
  · rw [List.getElem?_append]
    split
    · rw [if_pos (by omega)]
    · rw [if_neg (by omega), List.getElem?_drop]; congr 1; omega
theorem rdB_get {d : List Int} {off n j : Nat} : (rdB d off n)[j]? = if j < n then d[off + j]? else none := by
  unfold rdB
  rw [List.getElem?_take, List.getElem?_drop]
theorem rdB_other {d : List Int} {off o n : Nat} {l : List Int} (h : off + l.length ≤ d.length) (h2 : o + n ≤ off ∨ off + l.length ≤ o) : rdB (spB d off l) o n = rdB d o n := by
  apply List.ext_getElem?
  intro j
  rw [rdB_get, rdB_get]
  by_cases hj : j < n
  · rw [if_pos hj, if_pos hj, spB_get h, if_neg (by omega)]
  · rw [if_neg hj, if_neg hj]
def ld (d : Nat → List Int) (f i : Nat) : Int := num (rdB (d f) (8 * i) 8)
def wr (d : Nat → List Int) (f off : Nat) (l : List Int) : Nat → List Int := upd d f (spB (d f) off l)
def unp (form w : Int) : Option (Nat × Bool) :=
  if w = 0 then none
  else
    let f := if form = 1 then (w / 256 % 65536).toNat else (65535 - w % 65536).toNat
    let b := if form = 1 then decide (w / 2 % 2 = 1) else decide (w / 4611686018427387904 % 2 = 1)
    if pk form f b = w then some (f, b) else none
theorem unp_zero {form : Int} : unp form 0 = none := by simp [unp]
theorem unp_pk {form : Int} {f : Nat} {b : Bool} (h : f ≤ 65535) : unp form (pk form f b) = some (f, b) := by
  have h0 := (pk_w (form := form) h (wr := b)).2
  unfold unp
  rw [if_neg h0]
  by_cases h1 : form = 1
  · rw [if_pos h1, if_pos h1]
    have e1 : (pk form f b / 256 % 65536).toNat = f := by unfold pk; rw [if_pos h1]; split <;> omega
    have e2 : decide (pk form f b / 2 % 2 = 1) = b := by
      unfold pk; rw [if_pos h1]; cases b
      · simp; omega
      · simp; omega
    simp only [e1, e2]; rw [if_pos trivial]
  · rw [if_neg h1, if_neg h1]
    have e1 : (65535 - pk form f b % 65536).toNat = f := by unfold pk; rw [if_neg h1]; split <;> omega
    have e2 : decide (pk form f b / 4611686018427387904 % 2 = 1) = b := by
      unfold pk; rw [if_neg h1]; cases b
      · simp; omega
      · simp; omega
    simp only [e1, e2]; rw [if_pos trivial]
theorem unp_bd {form w : Int} {q : Nat × Bool} (h : unp form w = some q) : q.1 ≤ 65535 ∧ pk form q.1 q.2 = w := by
  unfold unp at h
  by_cases h0 : w = 0
  · rw [if_pos h0] at h; cases h
  · rw [if_neg h0] at h
    dsimp only at h
    obtain ⟨h1, h2⟩ := Option.ite_none_right_eq_some.1 h
    simp only [Option.some.injEq] at h2
    subst h2
    exact ⟨by dsimp only; split <;> omega, h1⟩
structure Ow where
  kind : Int
  vm : Int
  page : Int
  sh : Int
def ow0 : Ow := ⟨0, 0, 0, 0⟩
structure Cw where
  vm : Int
  page : Int
  f : Nat
  w : Bool
structure Kn where
  form : Int
  now : Int
  vm : Nat → Bv
  late : Nat → Int
  tf : Nat → Int
  fr : Nat → List Nat
  ls : Nat → Ls
  turns : Nat → Int
structure Cst extends Kn where
  N : Nat
  dat : Nat → List Int
  used : Nat → Bool
  left : Int
  cache : List Cw
  own : Nat → Ow
  alm : Nat → Nat → Option Int
  region : List Nat
  ev : Nat → List Evt
def leafC (d : Nat → List Int) (N : Nat) (form : Int) (fr : List Nat) (page : Int) : Option (Nat × Nat) :=
  if page < 0 ∨ 31 < page then none
  else match fr with
    | [] => none
    | r :: _ => if r < N then (unp form (ld d r (page / 8).toNat)).map fun x => (x.1, (page % 8).toNat) else none
def walkC (d : Nat → List Int) (N : Nat) (form : Int) (fr : List Nat) (page : Int) : Option (Nat × Bool) := match leafC d N form fr page with
  | none => none
  | some (f, i) => if f < N then unp form (ld d f i) else none
def setC (d : Nat → List Int) (N : Nat) (form : Int) (fr : List Nat) (page w : Int) : Nat → List Int := match leafC d N form fr page with
  | none => d
  | some (f, i) => if f < N then wr d f (8 * i) (bytes8 w) else d
def Cst.walk (C : Cst) (n : Nat) (page : Int) : Option (Nat × Bool) := walkC C.dat C.N (C.tf n) (C.fr n) page
def dropC (l : List Cw) (vm page : Int) : List Cw := l.filter fun r => ! (decide (r.vm = vm) && decide (r.page = page))
def putC (l : List Cw) (r : Cw) : List Cw := (if (dropC l r.vm r.page).length = 8 then (dropC l r.vm r.page).tail else dropC l r.vm r.page) ++ [r]
def lookC (l : List Cw) (vm page : Int) : Option (Nat × Bool) := (l.find? fun r => decide (r.vm = vm) && decide (r.page = page)).map fun r => (r.f, r.w)
def Cst.find (C : Cst) (n : Nat) (page : Int) : Option (Nat × Bool) × List Cw := match lookC C.cache n page with
  | some x => (some x, C.cache)
  | none => match C.walk n page with
    | some x => (some x, putC C.cache ⟨n, page, x.1, x.2⟩)
    | none => (none, C.cache)
def takeN (N : Nat) : Nat → (Nat → Bool) → Option (List Nat × (Nat → Bool))
  | 0, u => some ([], u)
  | k + 1, u => match firstOff u N with
    | none => none
    | some f => match takeN N k (upd u f true) with
      | none => none
      | some (l, u') => some (f :: l, u')
def donC (own : Nat → Ow) (f : Nat) (n page : Int) : Nat → Ow := if (own f).kind = 0 then upd own f ⟨3, n, page, 0⟩ else own
def keepC (own : Nat → Ow) (f : Nat) (n : Int) : Nat → Ow := if (own f).kind = 0 then upd own f (if 0 ≤ n then ⟨2, n, 0, 0⟩ else ⟨1, 0, 0, 0⟩) else own
end Go.Cr
end
section
namespace Go.Proofs.YtabdpmnhjlmnlaaGreatDoor
open Go Go.Pt
attribute [local irreducible] Code.wp Back bodyPost wpList FR WL WC WQ WA AW Tr Yc HC AllC
set_option maxRecDepth 20000
set_option maxHeartbeats 4000000
set_option linter.unusedVariables false
def b_store_New (S : Mem) (frames : Int) (Q : Pt → Mem → Prop) : Prop :=
 0 ≤ IntKind.i64.wrap (256 * (if 512 < (if frames < 0 then 0 else frames) then 512 else (if frames < 0 then 0 else frames))) ∧ IntKind.i64.wrap (256 * (if 512 < (if frames < 0 then 0 else frames) then 512 else (if frames < 0 then 0 else frames))) ≤ IntKind.i64.wrap (256 * (if 512 < (if frames < 0 then 0 else frames) then 512 else (if frames < 0 then 0 else frames))) ∧ (1 : Int) * (IntKind.i64.wrap (256 * (if 512 < (if frames < 0 then 0 else frames) then 512 else (if frames < 0 then 0 else frames)))) ≤ 281474976710656 ∧ IntKind.i64.wrap (256 * (if 512 < (if frames < 0 then 0 else frames) then 512 else (if frames < 0 then 0 else frames))) ≤ 9223372036854775807 ∧
 al S 5 (zrep (Int.toNat (IntKind.i64.wrap (256 * (if 512 < (if frames < 0 then 0 else frames) then 512 else (if frames < 0 then 0 else frames))))) [.int .u8 0]) fun b Sx =>
 al Sx 180 ([.slice (some ⟨b, 0, none⟩) (Int.toNat (IntKind.i64.wrap (256 * (if 512 < (if frames < 0 then 0 else frames) then 512 else (if frames < 0 then 0 else frames))))) (Int.toNat (IntKind.i64.wrap (256 * (if 512 < (if frames < 0 then 0 else frames) then 512 else (if frames < 0 then 0 else frames)))))]) fun b_1 Sx_1 =>
 Q (some (b_1, 0)) Sx_1
theorem t_store_New {S : Mem} {frames : Int} {Q : Pt → Mem → Prop} (H : b_store_New S frames Q) : store_New S frames Q := by
 unfold b_store_New at H
 exact Tr.intro Tryz.func50 E Tryz.ntmps50 E fun w0 => csr<|gv E E<|nxr<|mv E E<|s_p E (y_max E E)<|s_p E (y_min E E)<|s_p E (y_mul E E)<|by obtain ⟨c, c_1, c_2, c_3, H1⟩ := H; exact s_mk E E E c c_1 c_2 c_3 fun b => s_pub 0 E fun hb => have H2 := H1 b hb; s_p E (y_build E E)<|by exact s_box E E E fun b_1 => s_pub 0 E fun hb_1 => have H3 := H2 b_1 hb_1; gv E E<|nx<|c_ret<|q_ret Tryz.results50 (rv_tmp E rv_nil) ⟨_, E, H3⟩
def b_store_Store_Frames (S : Mem) (s : Pt) (Q : Int → Mem → Prop) : Prop :=
 if s = none then
 Q 0 S
 else
 nn s fun b o =>
 gL (S.cell b o) fun t =>
 Q (IntKind.i64.wrap (Int.tdiv (t.n : Int) 256)) S
theorem t_store_Store_Frames {S : Mem} {s : Pt} {Q : Int → Mem → Prop} (H : b_store_Store_Frames S s Q) : store_Store_Frames S s Q := by
 unfold b_store_Store_Frames at H
 exact Tr.intro Tryz.func35 E Tryz.ntmps35 E fun w0 => csr<|gv E E<|nx<|c_seq<|csr<|mv E E<|iteK H (fun c H1 => s_p E (yT (y_pnil (p := s) E E) c)<|nx<|c_t E E<|csr<|gv E E<|nx<|c_ret<|q_then_ret<|q_ret Tryz.results35 (rv_tmp E rv_nil) ⟨_, E, H1⟩) fun c H1 => s_p E (yF (y_pnil (p := s) E E) c)<|nx<|cfs E E<|q_then<|csr<|mv E E<|by obtain ⟨b, o, rfl, H2⟩ := H1; exact s_p E (y_nc E)<|s_p E (y_fa E E)<|gx H2 fun t ht H3 => s_v E (y_ld E) (hc_S ht)<|s_p E (y_len E)<|s_p E (y_quo E E (by decide))<|gv E E<|nx<|c_ret<|q_ret Tryz.results35 (rv_tmp E rv_nil) ⟨_, E, H3⟩
def b_store_Store_at (S : Mem) (s : Pt) (frame : Int) (off : Int) (n : Int) (Q : Int → Int → Mem → Prop) : Prop :=
 jn (fun (Sx : Mem) =>
 Q (IntKind.i64.wrap ((IntKind.i64.wrap (256 * frame)) + off)) 0 Sx) fun Jx =>
 if frame < 0 then
 Q 0 1 S
 else
 store_Store_Frames S s fun t Sx_1 =>
 if t ≤ frame then
 Q 0 1 Sx_1
 else
 if off < 0 then
 Q 0 1 Sx_1
 else
 if n < 0 then
 Q 0 1 Sx_1
 else
 if 256 < off then
 Q 0 1 Sx_1
 else
 if IntKind.i64.wrap (256 - off) < n then
 Q 0 1 Sx_1
 else
 Jx Sx_1
theorem t_store_Store_at {S : Mem} {s : Pt} {frame : Int} {off : Int} {n : Int} {Q : Int → Int → Mem → Prop} (H : b_store_Store_at S s frame off n Q) : store_Store_at S s frame off n Q := by
 unfold b_store_Store_at at H
 exact Tr.intro Tryz.func143 E Tryz.ntmps143 E fun w0 => csr<|gv E E<|gv E E<|nx<|c_join2 H (fun (J : Mem → Prop) (z : Unit) S => J S) (fun z => ⟨40, [(1, .int .i64 frame), (2, .int .i64 off)]⟩) (fun z => []) (fun _ Sx H1 => csr<|mv E E<|s_p E (y_mul E E)<|mv E E<|s_p E (y_add E E)<|gv E E<|gv E E<|nx<|c_ret<|q_ret Tryz.results143 (rv_tmp E (rv_tmp E rv_nil)) ⟨_, _, E, H1⟩) (fun Jx hJx H2 => csr<|mv E E<|iteK H2 (fun c H3 => s_p E (yT (y_lss E E) c)<|mv E E<|sk4 E E E E<|pk E E E<|mv E E<|sk2 E E<|pk E E E<|mv E E<|sk2 E E<|pk E E E<|mv E E<|sk2 E E<|pk E E E<|mv E E<|sk4 E E E E<|pk E E E<|nx<|c_t E E<|csr<|gv E E<|gv E E<|nx<|c_ret<|q_then_ret<|q_ret Tryz.results143 (rv_tmp E (rv_tmp E rv_nil)) ⟨_, _, E, H3⟩) fun c H3 => s_p E (yF (y_lss E E) c)<|mv E E<|mv E E<|mv E E<|s_k1 E E H3 fun t Sx_1 H4 => iteK H4 (fun c_1 H5 => s_p E (yT (y_geq E E) c_1)<|pk E E E<|mv E E<|sk2 E E<|pk E E E<|mv E E<|sk2 E E<|pk E E E<|mv E E<|sk2 E E<|pk E E E<|mv E E<|sk4 E E E E<|pk E E E<|nx<|c_t E E<|csr<|gv E E<|gv E E<|nx<|c_ret<|q_then_ret<|q_ret Tryz.results143 (rv_tmp E (rv_tmp E rv_nil)) ⟨_, _, E, H5⟩) fun c_1 H5 => s_p E (yF (y_geq E E) c_1)<|pk E E E<|mv E E<|mv E E<|iteK H5 (fun c_2 H6 => s_p E (yT (y_lss E E) c_2)<|pk E E E<|mv E E<|sk2 E E<|pk E E E<|mv E E<|sk2 E E<|pk E E E<|mv E E<|sk4 E E E E<|pk E E E<|nx<|c_t E E<|csr<|gv E E<|gv E E<|nx<|c_ret<|q_then_ret<|q_ret Tryz.results143 (rv_tmp E (rv_tmp E rv_nil)) ⟨_, _, E, H6⟩) fun c_2 H6 => s_p E (yF (y_lss E E) c_2)<|pk E E E<|mv E E<|mv E E<|iteK H6 (fun c_3 H7 => s_p E (yT (y_lss E E) c_3)<|pk E E E<|mv E E<|sk2 E E<|pk E E E<|mv E E<|sk4 E E E E<|pk E E E<|nx<|c_t E E<|csr<|gv E E<|gv E E<|nx<|c_ret<|q_then_ret<|q_ret Tryz.results143 (rv_tmp E (rv_tmp E rv_nil)) ⟨_, _, E, H7⟩) fun c_3 H7 => s_p E (yF (y_lss E E) c_3)<|pk E E E<|mv E E<|mv E E<|iteK H7 (fun c_4 H8 => s_p E (yT (y_gtr E E) c_4)<|pk E E E<|mv E E<|sk4 E E E E<|pk E E E<|nx<|c_t E E<|csr<|gv E E<|gv E E<|nx<|c_ret<|q_then_ret<|by exact q_ret Tryz.results143 (rv_tmp E (rv_tmp E rv_nil)) ⟨_, _, E, H8⟩) fun c_4 H8 => s_p E (yF (y_gtr E E) c_4)<|pk E E E<|mv E E<|mv E E<|mv E E<|s_p E (y_sub E E)<|iteK H8 (fun c_5 H9 => s_p E (yT (y_gtr E E) c_5)<|pk E E E<|nx<|c_t E E<|csr<|gv E E<|gv E E<|nx<|by exact c_ret<|q_then_ret<|q_ret Tryz.results143 (rv_tmp E (rv_tmp E rv_nil)) ⟨_, _, E, H9⟩) fun c_5 H9 => s_p E (yF (y_gtr E E) c_5)<|pk E E E<|nx<|cfs E E<|hJx () _ _ _ _ [] H9 E ⟨E, E, True.intro⟩ E)
def b_store_Store_Read (S : Mem) (s : Pt) (frame : Int) (off : Int) (n : Int) (Q : Sl → Int → Mem → Prop) : Prop :=
 store_Store_at S s frame off n fun t t_1 Sx =>
 jn (fun (Sx_1 : Mem) =>
 nn s fun b o =>
 gL (Sx_1.cell b o) fun t_2 =>
 (0 : Int) ≤ t ∧ (t : Int) ≤ IntKind.i64.wrap (t + n) ∧ IntKind.i64.wrap (t + n) ≤ (t_2.c : Int) ∧
 lt (slc 1 t_2 t (IntKind.i64.wrap (t + n))) fun t_3 =>
 sp Sx_1 t_3 1 fun vs =>
 ap Sx_1 5 1 1 [.int .u8 0] (⟨none, 0, 0⟩) t_3.n vs fun t_4 Sx_2 =>
 Q t_4 0 Sx_2) fun Jx =>
 if t_1 ≠ 0 then
 Q (⟨none, 0, 0⟩) t_1 Sx
 else
 Jx Sx
theorem t_store_Store_Read {S : Mem} {s : Pt} {frame : Int} {off : Int} {n : Int} {Q : Sl → Int → Mem → Prop} (H : b_store_Store_Read S s frame off n Q) : store_Store_Read S s frame off n Q := by
 unfold b_store_Store_Read at H
 exact Tr.intro Tryz.func163 E Tryz.ntmps163 E fun w0 => csr<|gv E E<|gv E E<|nxr<|mv E E<|mv E E<|mv E E<|mv E E<|s_k2 E E H fun t t_1 Sx H1 => mv E E<|s_p E (y_extract E E)<|s_p E (y_extract E E)<|gv E E<|gv E E<|nx<|c_join2 H1 (fun (J : Mem → Prop) (z : Unit) S => J S) (fun z => ⟨33, [(0, eP s), (3, .int .i64 n), (10, .int .i64 t)]⟩) (fun z => []) (fun _ Sx_1 H2 => csr<|mv E E<|by obtain ⟨b, o, rfl, H3⟩ := H2; exact s_p E (y_nc E)<|s_p E (y_fa E E)<|gx H3 fun t_2 ht_2 H4 => s_v E (y_ld E) (hc_S ht_2)<|mv E E<|mv E E<|mv E E<|s_p E (y_add E E)<|an3 H4 fun c c_1 c_2 H5 => by obtain ⟨t_3, et_3, H6⟩ := lt_e H5; exact s_p E (eqv (y_slc (a := t) (b := IntKind.i64.wrap (t + n)) E E E c c_1 c_2) (congrArg eL et_3))<|by obtain ⟨vs, h, c_3, H7⟩ := H6; exact s_app (sx := ⟨none, 0, 0⟩) (vs := vs) E E E ((fc_sp h).1) ((fc_sp (P := Tryz.prog) (w0 := w0) (S0 := S) (V := []) h).2) c_3 (by decide) H7 fun t_4 Sx_2 H8 => gv E E<|gv E E<|nx<|c_ret<|q_ret Tryz.results163 (rv_tmp E (rv_tmp E rv_nil)) ⟨_, _, E, H8⟩) (fun Jx hJx H9 => csr<|mv E E<|iteK H9 (fun c_4 H10 => s_p E (yT (y_neq E E) c_4)<|nx<|c_t E E<|csr<|mv E E<|gv E E<|gv E E<|nx<|c_ret<|q_then_ret<|q_ret Tryz.results163 (rv_tmp E (rv_tmp E rv_nil)) ⟨_, _, E, H10⟩) fun c_4 H10 => s_p E (yF (y_neq E E) c_4)<|nx<|cfs E E<|hJx () _ _ _ _ [] H10 E ⟨E, E, E, True.intro⟩ E)
def b_store_Store_Write (S : Mem) (s : Pt) (frame : Int) (off : Int) (p : Sl) (Q : Int → Mem → Prop) : Prop :=
 store_Store_at S s frame off (p.n : Int) fun t t_1 Sx =>
 jn (fun (Sx_1 : Mem) =>
 nn s fun b o =>
 gL (Sx_1.cell b o) fun t_2 =>
 (0 : Int) ≤ t ∧ (t : Int) ≤ (t_2.n : Int) ∧ (t_2.n : Int) ≤ (t_2.c : Int) ∧
 lt (slc 1 t_2 t (t_2.n : Int)) fun t_3 =>
 cpy Sx_1 1 t_3 p fun t_4 Sx_2 =>
 Q 0 Sx_2) fun Jx =>
 if t_1 ≠ 0 then
 Q t_1 Sx
 else
 Jx Sx
theorem t_store_Store_Write {S : Mem} {s : Pt} {frame : Int} {off : Int} {p : Sl} {Q : Int → Mem → Prop} (H : b_store_Store_Write S s frame off p Q) : store_Store_Write S s frame off p Q := by
 unfold b_store_Store_Write at H
 exact Tr.intro Tryz.func76 E Tryz.ntmps76 E fun w0 => csr<|gv E E<|nxr<|mv E E<|mv E E<|mv E E<|mv E E<|s_p E (y_len E)<|s_k2 E E H fun t t_1 Sx H1 => mv E E<|s_p E (y_extract E E)<|s_p E (y_extract E E)<|gv E E<|gv E E<|nx<|c_join2 H1 (fun (J : Mem → Prop) (z : Unit) S => J S) (fun z => ⟨31, [(0, eP s), (3, eL p), (9, .int .i64 t)]⟩) (fun z => []) (fun _ Sx_1 H2 => csr<|mv E E<|by obtain ⟨b, o, rfl, H3⟩ := H2; exact s_p E (y_nc E)<|s_p E (y_fa E E)<|gx H3 fun t_2 ht_2 H4 => s_v E (y_ld E) (hc_S ht_2)<|mv E E<|an3 H4 fun c c_1 c_2 H5 => by obtain ⟨t_3, et_3, H6⟩ := lt_e H5; exact s_p E (eqv (y_slc (a := t) (b := (t_2.n : Int)) E E E c c_1 c_2) (congrArg eL et_3))<|mv E E<|s_cpy (sd := t_3) (ss := p) E E E H6 fun t_4 Sx_2 H7 => nxr<|gv E E<|nx<|c_ret<|q_ret Tryz.results76 (rv_tmp E rv_nil) ⟨_, E, H7⟩) (fun Jx hJx H8 => csr<|mv E E<|iteK H8 (fun c_3 H9 => s_p E (yT (y_neq E E) c_3)<|nx<|c_t E E<|csr<|mv E E<|gv E E<|nx<|c_ret<|q_then_ret<|q_ret Tryz.results76 (rv_tmp E rv_nil) ⟨_, E, H9⟩) fun c_3 H9 => s_p E (yF (y_neq E E) c_3)<|nx<|cfs E E<|hJx () _ _ _ _ [] H9 E ⟨E, E, E, True.intro⟩ E)
def b_store_Store_Load (S : Mem) (s : Pt) (frame : Int) (i : Int) (Q : Int → Int → Mem → Prop) : Prop :=
 jn (fun (Sx : Mem) =>
 store_Store_Read Sx s frame (IntKind.i64.wrap (8 * i)) 8 fun t t_1 Sx_1 =>
 word_Of Sx_1 t fun t_2 Sx_2 =>
 Q t_2 t_1 Sx_2) fun Jx =>
 if i < 0 then
 Q 0 1 S
 else
 if 32 ≤ i then
 Q 0 1 S
 else
 Jx S
theorem t_store_Store_Load {S : Mem} {s : Pt} {frame : Int} {i : Int} {Q : Int → Int → Mem → Prop} (H : b_store_Store_Load S s frame i Q) : store_Store_Load S s frame i Q := by
 unfold b_store_Store_Load at H
 exact Tr.intro Tryz.func108 E Tryz.ntmps108 E fun w0 => csr<|gv E E<|gv E E<|nx<|c_join2 H (fun (J : Mem → Prop) (z : Unit) S => J S) (fun z => ⟨27, [(0, eP s), (1, .int .i64 frame), (2, .int .i64 i)]⟩) (fun z => []) (fun _ Sx H1 => csr<|mv E E<|mv E E<|mv E E<|s_p E (y_mul E E)<|s_k2 E E H1 fun t t_1 Sx_1 H2 => mv E E<|s_p E (y_extract E E)<|s_p E (y_extract E E)<|gv E E<|gv E E<|nxr<|mv E E<|s_k1 E E H2 fun t_2 Sx_2 H3 => mv E E<|gv E E<|gv E E<|nx<|c_ret<|q_ret Tryz.results108 (rv_tmp E (rv_tmp E rv_nil)) ⟨_, _, E, H3⟩) (fun Jx hJx H4 => csr<|mv E E<|iteK H4 (fun c H5 => s_p E (yT (y_lss E E) c)<|mv E E<|sk2 E E<|pk E E E<|nx<|c_t E E<|csr<|gv E E<|gv E E<|nx<|c_ret<|q_then_ret<|q_ret Tryz.results108 (rv_tmp E (rv_tmp E rv_nil)) ⟨_, _, E, H5⟩) fun c H5 => s_p E (yF (y_lss E E) c)<|mv E E<|mv E E<|iteK H5 (fun c_1 H6 => s_p E (yT (y_geq E E) c_1)<|pk E E E<|nx<|c_t E E<|csr<|gv E E<|gv E E<|nx<|c_ret<|q_then_ret<|q_ret Tryz.results108 (rv_tmp E (rv_tmp E rv_nil)) ⟨_, _, E, H6⟩) fun c_1 H6 => s_p E (yF (y_geq E E) c_1)<|pk E E E<|nx<|cfs E E<|hJx () _ _ _ _ [] H6 E ⟨E, E, E, True.intro⟩ E)
def b_store_Store_Save (S : Mem) (s : Pt) (frame : Int) (i : Int) (w : Int) (Q : Int → Mem → Prop) : Prop :=
 jn (fun (Sx : Mem) =>
 word_Bytes Sx w fun t Sx_1 =>
 store_Store_Write Sx_1 s frame (IntKind.i64.wrap (8 * i)) t fun t_1 Sx_2 =>
 Q t_1 Sx_2) fun Jx =>
 if i < 0 then
 Q 1 S
 else
 if 32 ≤ i then
 Q 1 S
 else
 Jx S
theorem t_store_Store_Save {S : Mem} {s : Pt} {frame : Int} {i : Int} {w : Int} {Q : Int → Mem → Prop} (H : b_store_Store_Save S s frame i w Q) : store_Store_Save S s frame i w Q := by
 unfold b_store_Store_Save at H
 exact Tr.intro Tryz.func110 E Tryz.ntmps110 E fun w0 => csr<|gv E E<|nx<|c_join2 H (fun (J : Mem → Prop) (z : Unit) S => J S) (fun z => ⟨22, [(0, eP s), (1, .int .i64 frame), (2, .int .i64 i), (3, .int .u64 w)]⟩) (fun z => []) (fun _ Sx H1 => csr<|mv E E<|mv E E<|mv E E<|s_p E (y_mul E E)<|mv E E<|s_k1 E E H1 fun t Sx_1 H2 => s_k1 E E H2 fun t_1 Sx_2 H3 => gv E E<|nx<|c_ret<|q_ret Tryz.results110 (rv_tmp E rv_nil) ⟨_, E, H3⟩) (fun Jx hJx H4 => csr<|mv E E<|iteK H4 (fun c H5 => s_p E (yT (y_lss E E) c)<|mv E E<|sk2 E E<|pk E E E<|nx<|c_t E E<|csr<|gv E E<|nx<|c_ret<|q_then_ret<|q_ret Tryz.results110 (rv_tmp E rv_nil) ⟨_, E, H5⟩) fun c H5 => s_p E (yF (y_lss E E) c)<|mv E E<|mv E E<|iteK H5 (fun c_1 H6 => s_p E (yT (y_geq E E) c_1)<|pk E E E<|nx<|c_t E E<|csr<|gv E E<|nx<|c_ret<|q_then_ret<|q_ret Tryz.results110 (rv_tmp E rv_nil) ⟨_, E, H6⟩) fun c_1 H6 => s_p E (yF (y_geq E E) c_1)<|pk E E E<|nx<|cfs E E<|hJx () _ _ _ _ [] H6 E ⟨E, E, E, E, True.intro⟩ E)
def b_store_Store_Clear (S : Mem) (s : Pt) (frame : Int) (Q : Int → Mem → Prop) : Prop :=
 al S 5 (zrep 256 [.int .u8 0]) fun b Sx =>
 store_Store_Write Sx s frame 0 (⟨some (b, 0), 256, 256⟩) fun t Sx_1 =>
 Q t Sx_1
theorem t_store_Store_Clear {S : Mem} {s : Pt} {frame : Int} {Q : Int → Mem → Prop} (H : b_store_Store_Clear S s frame Q) : store_Store_Clear S s frame Q := by
 unfold b_store_Store_Clear at H
 exact Tr.intro Tryz.func140 E Tryz.ntmps140 E fun w0 => csr<|gv E E<|nxr<|mv E E<|mv E E<|s_mk E E E (by decide) (by decide) (by decide) (by decide) fun b => s_pub 0 E fun hb => have H1 := H b hb; s_k1 E E H1 fun t Sx_1 H2 => gv E E<|nx<|c_ret<|q_ret Tryz.results140 (rv_tmp E rv_nil) ⟨_, E, H2⟩
end Go.Proofs.YtabdpmnhjlmnlaaGreatDoor
end
section
namespace Go.Cr
open Go Go.Pt
structure StoreAt (S : Mem) (m B N : Nat) (M : List Int) : Prop where
  hd : S m = some (bw 180 [eL ⟨some (B, 0), 256 * N, 256 * N⟩])
  dt : S B = some (bw 5 (bL M))
  ne : m ≠ B
  len : M.length = 256 * N
  byt : Byt M
  lim : N ≤ 512
theorem StoreAt.keep {S S' : Mem} {m B N : Nat} {M : List Int} (h : StoreAt S m B N M) (hk : Keeps S S' []) : StoreAt S' m B N M :=
  ⟨hk.get h.hd (by simp), hk.get h.dt (by simp), h.ne, h.len, h.byt, h.lim⟩
end Go.Cr
namespace Go.Proofs.YtabdpmnhjlmnlaaGreatDoor
open Go Go.Pt Go.Cr
section
variable {S : Mem} {m B N : Nat} {M : List Int}
theorem frames_spec (h : StoreAt S m B N M) {Q : Int → Mem → Prop} (hQ : Q N S) : store_Store_Frames S (some (m, 0)) Q := by
  have hl := h.lim
  apply t_store_Store_Frames
  unfold b_store_Store_Frames
  rw [if_neg (by simp), nn_i, gL_i (n := ⟨some (B, 0), 256 * N, 256 * N⟩) (by rw [cell_of h.hd]; rfl)]
  have e : IntKind.i64.wrap (Int.tdiv ((256 * N : Nat) : Int) 256) = (N : Int) := by rw [td (by omega), w64 (by omega) (by omega)]; omega
  show Q (IntKind.i64.wrap (Int.tdiv ((256 * N : Nat) : Int) 256)) S
  rw [e]; exact hQ
theorem at_spec (h : StoreAt S m B N M) {frame off n : Int} (hb : -4294967296 ≤ off ∧ off ≤ 4294967296) {Q : Int → Int → Mem → Prop} (hY : 0 ≤ frame → frame < N → 0 ≤ off → 0 ≤ n → off + n ≤ 256 → Q (256 * frame + off) 0 S) (hN : ¬ (0 ≤ frame ∧ frame < N ∧ 0 ≤ off ∧ 0 ≤ n ∧ off + n ≤ 256) → Q 0 1 S) : store_Store_at S (some (m, 0)) frame off n Q := by
  have hl := h.lim
  apply t_store_Store_at
  unfold b_store_Store_at
  simp only [jn]
  by_cases h1 : frame < 0
  · rw [if_pos h1]; exact hN fun h => by omega
  rw [if_neg h1]
  refine frames_spec h ?_
  by_cases h2 : (N : Int) ≤ frame
  · rw [if_pos h2]; exact hN fun h => by omega
  rw [if_neg h2]
  by_cases h3 : off < 0
  · rw [if_pos h3]; exact hN fun h => by omega
  rw [if_neg h3]
  by_cases h4 : n < 0
  · rw [if_pos h4]; exact hN fun h => by omega
  rw [if_neg h4]
  by_cases h5 : 256 < off
  · rw [if_pos h5]; exact hN fun h => by omega
  rw [if_neg h5, w64 (x := 256 - off) (by omega) (by omega)]
  by_cases h6 : 256 - off < n
  · rw [if_pos h6]; exact hN fun h => by omega
  rw [if_neg h6, w64 (x := 256 * frame) (by omega) (by omega), w64 (x := 256 * frame + off) (by omega) (by omega)]
  exact hY (by omega) (by omega) (by omega) (by omega) (by omega)
end
end Go.Proofs.YtabdpmnhjlmnlaaGreatDoor
namespace Go.Proofs.YtabdpmnhjlmnlaaGreatDoor
open Go Go.Pt Go.Cr
section
variable {S : Mem} {m B N : Nat} {M : List Int}
def rdF (M : List Int) (f off n : Nat) : List Int := (M.drop (256 * f + off)).take n
theorem bL_all (xs : List Int) : (bL xs).all (·.oneCell') = true := by
  unfold bL; rw [List.all_map]; exact List.all_eq_true.2 fun _ _ => rfl
theorem read_spec (h : StoreAt S m B N M) {frame off n : Int} (hb : -4294967296 ≤ off ∧ off ≤ 4294967296) {Q : Sl → Int → Mem → Prop}
    (hY : 0 ≤ frame → frame < N → 0 ≤ off → 0 < n → off + n ≤ 256 → ∀ t S', Keeps S S' [] → Row S' 1 t (bL (rdF M frame.toNat off.toNat n.toNat)) → (∀ b o, t.p = some (b, o) → S b = none) → Q t 0 S')
    (hN : ¬ (0 ≤ frame ∧ frame < N ∧ 0 ≤ off ∧ 0 ≤ n ∧ off + n ≤ 256) → Q ⟨none, 0, 0⟩ 1 S) (hn : n ≠ 0) : store_Store_Read S (some (m, 0)) frame off n Q := by
  have hl := h.lim
  have hlen := h.len
  apply t_store_Store_Read
  unfold b_store_Store_Read
  simp only [jn]
  refine at_spec h hb (fun f0 f1 o0 n0 on => ?_) fun hbad => ?_
  · rw [if_neg (fun h => h rfl), nn_i, gL_i (n := ⟨some (B, 0), 256 * N, 256 * N⟩) (by rw [cell_of h.hd]; rfl), w64 (x := 256 * frame + off + n) (by omega) (by omega)]
    refine ⟨by omega, by omega, by show 256 * frame + off + n ≤ ((256 * N : Nat) : Int); omega, ?_⟩
    have e : slc 1 ⟨some (B, 0), 256 * N, 256 * N⟩ (256 * frame + off) (256 * frame + off + n) = ⟨some (B, 256 * frame.toNat + off.toNat), n.toNat, 256 * N - (256 * frame.toNat + off.toNat)⟩ := by
      unfold slc
      have e1 : (256 * frame + off).toNat = 256 * frame.toNat + off.toNat := by omega
      have e2 : (256 * frame + off + n - (256 * frame + off)).toNat = n.toNat := by omega
      simp only [e1, e2, Nat.mul_one, Nat.zero_add, Option.map_some]
      rw [if_neg (by omega)]
    show sp S (slc 1 _ _ _) 1 _
    rw [e]
    have hpart : S.part B (256 * frame.toNat + off.toNat) (n.toNat * 1) = some (bL (rdF M frame.toNat off.toNat n.toNat)) := by
      rw [part_of h.dt, lpart_i (by simp [bL]; omega), Nat.mul_one]
      simp [bL, rdF]
    refine ⟨_, .inr ⟨B, _, rfl, hpart⟩, bL_all _, ?_⟩
    have hrl : (rdF M frame.toNat off.toNat n.toNat).length = n.toNat := by simp [rdF]; omega
    refine ap_row Row.nil (by rw [Nat.mul_one]; simp [bL, hrl]) (by show 0 < n.toNat; omega) rfl (by show (2 * (0 + n.toNat) + 1024) * 1 ≤ _; omega) fun t S2 c kb e1 e2 e3 e4 e5 => ?_
    have hc : S c = none := by
      rcases e3 with e3 | e3
      · cases e3
      · exact e3
    exact hY f0 f1 o0 (by omega) on t S2 (by rw [e4]; exact Keeps.refl.fresh hc) e5 fun b o hb => by rw [e2] at hb; cases hb; exact hc
  · rw [if_pos (by decide)]; exact hN hbad
end
end Go.Proofs.YtabdpmnhjlmnlaaGreatDoor
namespace Go.Proofs.YtabdpmnhjlmnlaaGreatDoor
open Go Go.Pt Go.Cr
section
variable {S : Mem} {m B N : Nat} {M : List Int}
def wrF (M : List Int) (f off : Nat) (l : List Int) : List Int := M.take (256 * f + off) ++ l ++ M.drop (256 * f + off + l.length)
theorem wrF_len {M : List Int} {f off : Nat} {l : List Int} (h : 256 * f + off + l.length ≤ M.length) : (wrF M f off l).length = M.length := by
  unfold wrF; simp only [List.length_append, List.length_take, List.length_drop]; omega
theorem wrF_byt {M : List Int} {f off : Nat} {l : List Int} (h : Byt M) (hl : Byt l) : Byt (wrF M f off l) := fun x hx => by
  unfold wrF at hx
  rcases List.mem_append.1 hx with hx | hx
  · rcases List.mem_append.1 hx with hx | hx
    · exact h x (List.mem_of_mem_take hx)
    · exact hl x hx
  · exact h x (List.mem_of_mem_drop hx)
theorem write_spec (h : StoreAt S m B N M) {frame off : Int} (hb : -4294967296 ≤ off ∧ off ≤ 4294967296) {p : Sl} {l : List Int} (hp : l = [] ∨ ∃ b o, p.p = some (b, o) ∧ S.part b o (l.length * 1) = some (bL l)) (hpl : l.length = p.n) (hl0 : l ≠ []) (hby : Byt l) {Q : Int → Mem → Prop}
    (hY : 0 ≤ frame → frame < N → 0 ≤ off → off + p.n ≤ 256 → StoreAt (S.set B (bw 5 (bL (wrF M frame.toNat off.toNat l)))) m B N (wrF M frame.toNat off.toNat l) → Q 0 (S.set B (bw 5 (bL (wrF M frame.toNat off.toNat l)))))
    (hN : ¬ (0 ≤ frame ∧ frame < N ∧ 0 ≤ off ∧ 0 ≤ (p.n : Int) ∧ off + p.n ≤ 256) → Q 1 S) : store_Store_Write S (some (m, 0)) frame off p Q := by
  have hl := h.lim
  have hlen := h.len
  have hpos : 0 < l.length := List.length_pos_iff.2 hl0
  apply t_store_Store_Write
  unfold b_store_Store_Write
  simp only [jn]
  refine at_spec h hb (fun f0 f1 o0 n0 on => ?_) fun hbad => ?_
  · rw [if_neg (fun h => h rfl), nn_i, gL_i (n := ⟨some (B, 0), 256 * N, 256 * N⟩) (by rw [cell_of h.hd]; rfl)]
    refine ⟨by omega, by show 256 * frame + off ≤ ((256 * N : Nat) : Int); omega, Int.le_refl _, ?_⟩
    have e : slc 1 ⟨some (B, 0), 256 * N, 256 * N⟩ (256 * frame + off) ((256 * N : Nat) : Int) = ⟨some (B, 256 * frame.toNat + off.toNat), 256 * N - (256 * frame.toNat + off.toNat), 256 * N - (256 * frame.toNat + off.toNat)⟩ := by
      unfold slc
      have e1 : (256 * frame + off).toNat = 256 * frame.toNat + off.toNat := by omega
      have e2 : (((256 * N : Nat) : Int) - (256 * frame + off)).toNat = 256 * N - (256 * frame.toNat + off.toNat) := by omega
      simp only [e1, e2, Nat.mul_one, Nat.zero_add, Option.map_some]
      rw [if_neg (by omega)]
    show lt (slc 1 ⟨some (B, 0), 256 * N, 256 * N⟩ (256 * frame + off) ((256 * N : Nat) : Int)) _
    rw [e]
    unfold lt
    rcases hp with hp | ⟨b, o, hpp, hpart⟩
    · exact absurd hp hl0
    have emin : min p.n (256 * N - (256 * frame.toNat + off.toNat)) = l.length := by omega
    refine ⟨bL l, .inr ⟨b, o, hpp, by show S.part b o (min p.n (256 * N - (256 * frame.toNat + off.toNat)) * 1) = _; rw [emin]; exact hpart⟩, bL_all _, .inr ⟨B, _, rfl, ?_, ?_⟩⟩
    · exact ⟨_, h.dt, rfl, by show _ + min p.n (256 * N - (256 * frame.toNat + off.toNat)) * 1 ≤ (bL M).length; rw [emin]; simp [bL]; omega⟩
    · have eput : S.put B (256 * frame.toNat + off.toNat) (bL l) = S.set B (bw 5 (bL (wrF M frame.toNat off.toNat l))) := by
        rw [put_of h.dt]
        show S.set B ⟨5, spl (bL M) (256 * frame.toNat + off.toNat) (bL l), (0, 0)⟩ = _
        rw [spl_eq _ _ _ (by simp [bL]; omega)]
        simp [bL, wrF]
      rw [eput]
      exact hY f0 f1 o0 on ⟨by rw [set_ne h.ne]; exact h.hd, set_same, h.ne, by rw [wrF_len (by omega)]; exact h.len, wrF_byt h.byt hby, h.lim⟩
  · rw [if_pos (by decide)]; exact hN hbad
end
end Go.Proofs.YtabdpmnhjlmnlaaGreatDoor
namespace Go.Proofs.YtabdpmnhjlmnlaaGreatDoor
open Go Go.Pt Go.Cr
section
variable {S : Mem} {m B N : Nat} {M : List Int}
theorem by_row {t : Sl} {xs : List Int} (h : Row S 1 t (bL xs)) (hb : Byt xs) : By S t xs := by
  have hl := h.len
  simp only [bL, List.length_map, Nat.mul_one] at hl
  refine ⟨hl, h.cap, hb, ?_⟩
  by_cases h0 : t.n = 0
  · exact .inl h0
  right
  rcases h.lie with ⟨_, e2⟩ | ⟨b, k, e1, e2, _, _, e5⟩
  · have := h.cap; omega
  · refine ⟨b, 0, e1, fun i hi => ?_⟩
    rw [Nat.zero_add, cell_of e2, nthL_eq]
    have : (k.cs.take (t.n * 1))[i]? = some (.int .u8 xs[i]) := by rw [e5]; simp [bL, List.getElem?_eq_getElem hi]
    rw [List.getElem?_take, if_pos (by omega)] at this
    exact this
theorem sload_spec (h : StoreAt S m B N M) {f i : Nat} (hf : f < N) (hi : i < 32) {Q : Int → Int → Mem → Prop} (hQ : ∀ S', Keeps S S' [] → Q (num (rdF M f (8 * i) 8)) 0 S') : store_Store_Load S (some (m, 0)) f i Q := by
  have hlen := h.len
  apply t_store_Store_Load
  unfold b_store_Store_Load
  simp only [jn]
  rw [if_neg (by omega), if_neg (by omega), w64 (by omega) (by omega)]
  refine read_spec h (by omega) (fun _ _ _ _ _ t S' hk hrow _ => ?_) (fun hbad => absurd ⟨by omega, by omega, by omega, by omega, by omega⟩ hbad) (by decide)
  have e : (8 * (i : Int)).toNat = 8 * i := by omega
  have e8 : (8 : Int).toNat = 8 := rfl
  rw [Int.toNat_natCast, e, e8] at hrow
  have hb : Byt (rdF M f (8 * i) 8) := fun x hx => h.byt x (List.mem_of_mem_drop (List.mem_of_mem_take hx))
  exact of_spec (by_row hrow hb) (by simp [rdF]; omega) (hQ S' hk)
end
end Go.Proofs.YtabdpmnhjlmnlaaGreatDoor
namespace Go.Proofs.YtabdpmnhjlmnlaaGreatDoor
open Go Go.Pt Go.Cr
section
variable {S : Mem} {m B N : Nat} {M : List Int}
theorem ssave_spec (h : StoreAt S m B N M) {f i : Nat} (hf : f < N) (hi : i < 32) {w : Int} (hw : W64 w) {Q : Int → Mem → Prop} (hQ : ∀ S', Keeps S S' [B] → StoreAt S' m B N (wrF M f (8 * i) (bytes8 w)) → Q 0 S') : store_Store_Save S (some (m, 0)) f i w Q := by
  apply t_store_Store_Save
  unfold b_store_Store_Save
  simp only [jn]
  rw [if_neg (by omega), if_neg (by omega), w64 (by omega) (by omega)]
  refine bytes_spec hw fun c hc => ?_
  have hk : Keeps S (S.set c (bw 5 (bL (bytes8 w)))) [] := Keeps.refl.fresh hc
  have h8 := bytes8_len w
  have e : (8 * (i : Int)).toNat = 8 * i := by omega
  refine write_spec (h.keep hk) (by omega) (l := bytes8 w) (.inr ⟨c, 0, rfl, ?_⟩) h8 (fun h0 => by rw [h0] at h8; simp at h8) (bytes8_byt w) (fun _ _ _ _ hs => ?_) (fun hbad => absurd ⟨by omega, by omega, by omega, by show (0 : Int) ≤ ((8 : Nat) : Int); decide, by show 8 * (i : Int) + ((8 : Nat) : Int) ≤ 256; omega⟩ hbad)
  · rw [part_of set_same, lpart_i (by show 0 + (bytes8 w).length * 1 ≤ (bL (bytes8 w)).length; simp [bL])]
    simp only [bL, List.drop_zero, Nat.mul_one]
    rw [List.take_of_length_le (by simp)]
  · rw [Int.toNat_natCast, e] at hs ⊢
    exact hQ _ ((hk.wider (by simp)).set (by simp)) hs
end
end Go.Proofs.YtabdpmnhjlmnlaaGreatDoor
namespace Go.Proofs.YtabdpmnhjlmnlaaGreatDoor
open Go Go.Pt Go.Cr
section
variable {S : Mem} {m B N : Nat} {M : List Int}
theorem zrep_bL : ∀ n : Nat, zrep n [Value.int .u8 0] = bL (List.replicate n 0)
  | 0 => rfl
  | n + 1 => by
    have := zrep_bL n
    simp only [bL, List.map_replicate] at this ⊢
    simp [zrep, List.replicate_succ] at this ⊢
    exact this
theorem sclear_spec (h : StoreAt S m B N M) {f : Nat} (hf : f < N) {Q : Int → Mem → Prop} (hQ : ∀ S', Keeps S S' [B] → StoreAt S' m B N (wrF M f 0 (List.replicate 256 0)) → Q 0 S') : store_Store_Clear S (some (m, 0)) f Q := by
  apply t_store_Store_Clear
  unfold b_store_Store_Clear
  intro c hc
  rw [zrep_bL]
  have hk : Keeps S (S.set c (bw 5 (bL (List.replicate 256 0)))) [] := Keeps.refl.fresh hc
  have h8 : (List.replicate 256 (0 : Int)).length = 256 := List.length_replicate
  refine write_spec (h.keep hk) (by decide) (l := List.replicate 256 0) (.inr ⟨c, 0, rfl, ?_⟩) h8 (fun h0 => by rw [h0] at h8; cases h8) (fun x hx => by rw [List.eq_of_mem_replicate hx]; decide) (fun _ _ _ _ hs => ?_) (fun hbad => absurd ⟨by omega, by omega, by omega, by show (0 : Int) ≤ ((256 : Nat) : Int); decide, by show (0 : Int) + ((256 : Nat) : Int) ≤ 256; decide⟩ hbad)
  · rw [part_of set_same, lpart_i (by show 0 + (List.replicate 256 (0 : Int)).length * 1 ≤ (bL (List.replicate 256 0)).length; unfold bL; rw [List.length_map]; omega)]
    simp only [bL, List.drop_zero, Nat.mul_one]
    rw [List.take_of_length_le (by rw [List.length_map]; exact Nat.le_refl _)]
  · rw [Int.toNat_natCast] at hs ⊢
    exact hQ _ ((hk.wider (by simp)).set (by simp)) hs
end
end Go.Proofs.YtabdpmnhjlmnlaaGreatDoor
end
section
namespace Go.Cr
open Go Go.Pt
open Go.Proofs.YtabdpmnhjlmnlaaGreatDoor (rdF wrF)
def cF {α : Type} : Nat → (Nat → List α) → List α
  | 0, _ => []
  | n + 1, f => cF n f ++ f n
section
variable {α : Type} {n w i : Nat} {f g : Nat → List α}
theorem cF_congr : ∀ {n : Nat}, (∀ i, i < n → f i = g i) → cF n f = cF n g
  | 0, _ => rfl
  | n + 1, h => by simp only [cF]; rw [cF_congr fun i hi => h i (by omega), h n (by omega)]
theorem cF_len : ∀ {n : Nat}, (∀ i, i < n → (f i).length = w) → (cF n f).length = n * w
  | 0, _ => by simp [cF]
  | n + 1, h => by simp only [cF, List.length_append]; rw [cF_len fun i hi => h i (by omega), h n (by omega), Nat.add_mul]; omega
theorem cF_split : ∀ {n i : Nat}, (∀ i, i < n → (f i).length = w) → i < n → ∃ A B, A.length = i * w ∧ ∀ v, cF n (upd f i v) = A ++ (v ++ B)
  | 0, _, _, h => by omega
  | n + 1, i, h, hi => by
    by_cases e : i = n
    · subst e
      refine ⟨cF i f, [], cF_len fun j hj => h j (by omega), fun v => ?_⟩
      simp only [cF, upd_at, List.append_nil]
      rw [cF_congr fun j hj => upd_of (f := f) (v := v) (show j ≠ i by omega)]
    · obtain ⟨A, B, h1, h2⟩ := cF_split (n := n) (i := i) (fun j hj => h j (by omega)) (by omega)
      refine ⟨A, B ++ f n, h1, fun v => ?_⟩
      simp only [cF]
      rw [h2, upd_of (Ne.symm e)]; simp
theorem cF_at (h : ∀ i, i < n → (f i).length = w) (hi : i < n) : ∃ A B, A.length = i * w ∧ cF n f = A ++ (f i ++ B) ∧ ∀ v, cF n (upd f i v) = A ++ (v ++ B) := by
  obtain ⟨A, B, h1, h2⟩ := cF_split h hi
  exact ⟨A, B, h1, by rw [← h2, upd_self], h2⟩
theorem cF_mem {x : α} : ∀ {n : Nat}, x ∈ cF n f → ∃ i, i < n ∧ x ∈ f i
  | 0, h => by simp [cF] at h
  | n + 1, h => by
    simp only [cF, List.mem_append] at h
    rcases h with h | h
    · obtain ⟨i, h1, h2⟩ := cF_mem h; exact ⟨i, by omega, h2⟩
    · exact ⟨n, by omega, h⟩
end
variable {n w i k : Nat} {f g : Nat → List Value}
theorem cF_get (h : ∀ i, i < n → (f i).length = w) (hi : i < n) (hk : k < w) : nthL (cF n f) (i * w + k) = nthL (f i) k := by
  obtain ⟨A, B, h2, h1, _⟩ := cF_at h hi
  have hl := h i hi
  rw [nthL_eq, nthL_eq, h1, List.getElem?_append_right (by omega), List.getElem?_append_left (by omega)]
  congr 1; omega
theorem cF_part {m : Nat} (h : ∀ i, i < n → (f i).length = w) (hi : i < n) (hk : k + m ≤ w) : lpart (cF n f) (i * w + k) m = lpart (f i) k m := by
  obtain ⟨A, B, h2, h1, _⟩ := cF_at h hi
  have hl := h i hi
  have ht : (cF n f).length = n * w := cF_len h
  have hb : i * w + w ≤ n * w := by
    have := Nat.mul_le_mul_right w (show i + 1 ≤ n by omega)
    rw [Nat.add_mul, Nat.one_mul] at this; exact this
  rw [lpart_i (by omega), lpart_i (by omega)]
  congr 1
  apply List.ext_getElem?
  intro j
  rw [List.getElem?_take, List.getElem?_take, List.getElem?_drop, List.getElem?_drop, h1]
  by_cases hj : j < m
  · rw [if_pos hj, if_pos hj, List.getElem?_append_right (by omega), List.getElem?_append_left (by omega)]
    congr 1; omega
  · rw [if_neg hj, if_neg hj]
theorem cF_set {vs : List Value} (h : ∀ i, i < n → (f i).length = w) (hi : i < n) (hk : k + vs.length ≤ w) : spl (cF n f) (i * w + k) vs = cF n (upd f i (spl (f i) k vs)) := by
  have hl := h i hi
  obtain ⟨A, B, h1, h2, h3⟩ := cF_at h hi
  rw [h3, h2, ← h1, spl_right rfl]
  congr 1
  rw [spl_eq _ _ _ (by rw [List.length_append]; omega), spl_eq _ _ _ (by omega), List.take_append_of_le_length (by omega), List.drop_append_of_le_length (by omega)]
  simp
theorem nthL_skip {A B : List Value} {n j : Nat} (h : A.length = n) : nthL (A ++ B) (n + j) = nthL B j := nthL_mid h
theorem nthL_left {A B : List Value} {j : Nat} (h : j < A.length) : nthL (A ++ B) j = nthL A j := by
  rw [nthL_eq, nthL_eq, List.getElem?_append_left h]
theorem lpart_skip {A B : List Value} {n j m : Nat} (h : A.length = n) : lpart (A ++ B) (n + j) m = lpart B j m := by
  by_cases hb : j + m ≤ B.length
  · rw [lpart_i (by simp; omega), lpart_i hb]
    congr 1
    rw [← List.drop_drop, List.drop_left' h]
  · unfold lpart
    have e1 : Nat.ble (n + j + m) (A ++ B).length = false := by
      cases hh : Nat.ble (n + j + m) (A ++ B).length
      · rfl
      · have := Nat.le_of_ble_eq_true hh; simp at this; omega
    have e2 : Nat.ble (j + m) B.length = false := by
      cases hh : Nat.ble (j + m) B.length
      · rfl
      · have := Nat.le_of_ble_eq_true hh; omega
    rw [e1, e2]
theorem lpart_left {A B : List Value} {j m : Nat} (h : j + m ≤ A.length) : lpart (A ++ B) j m = lpart A j m := by
  rw [lpart_i (by simp; omega), lpart_i h]
  congr 1
  apply List.ext_getElem?
  intro x
  rw [List.getElem?_take, List.getElem?_take, List.getElem?_drop, List.getElem?_drop]
  by_cases hx : x < m
  · rw [if_pos hx, if_pos hx, List.getElem?_append_left (by omega)]
  · rw [if_neg hx, if_neg hx]
theorem spl_left {A B v : List Value} {j : Nat} (h : j + v.length ≤ A.length) : spl (A ++ B) j v = spl A j v ++ B := by
  rw [spl_eq _ _ _ (by rw [List.length_append]; omega), spl_eq _ _ _ (by omega), List.take_append_of_le_length (by omega), List.drop_append_of_le_length (by omega), List.append_assoc, List.append_assoc, List.append_assoc]
theorem rdF_cF {d : Nat → List Int} {N f off n : Nat} (h : ∀ f, f < N → (d f).length = 256) (hf : f < N) (hn : off + n ≤ 256) : rdF (cF N d) f off n = rdB (d f) off n := by
  obtain ⟨A, B, h1, h2, _⟩ := cF_at h hf
  have hl := h f hf
  unfold rdF rdB
  rw [h2, show 256 * f + off = A.length + off by omega, ← List.drop_drop, List.drop_left' rfl]
  rw [List.drop_append_of_le_length (by omega), List.take_append_of_le_length (by rw [List.length_drop]; omega)]
theorem wrF_cF {d : Nat → List Int} {N f off : Nat} {l : List Int} (h : ∀ f, f < N → (d f).length = 256) (hf : f < N) (hn : off + l.length ≤ 256) : wrF (cF N d) f off l = cF N (wr d f off l) := by
  obtain ⟨A, B, h1, h2, h3⟩ := cF_at h hf
  have hl := h f hf
  unfold wrF wr
  rw [h3, h2, show 256 * f + off = A.length + off by omega, List.take_length_add_append, Nat.add_assoc, ← List.drop_drop, List.drop_left' rfl]
  rw [List.take_append_of_le_length (by omega), List.drop_append_of_le_length (by omega)]
  unfold spB
  simp
end Go.Cr
end
section
namespace Go.Cr
open Go Go.Pt
structure Pc (S : Mem) (ρ : Rho) (r b : Nat) (l : List Value) : Prop where
  at_ : At S b 0 l
  rol : ρ b = some r
section
variable {S S' S0 : Mem} {ρ ρ' ρ0 : Rho} {R : Nat → Prop} {r b : Nat} {l : List Value}
theorem Pc.keep (h : Pc S ρ r b l) (m : Mv S ρ S' ρ' R) (hr : ¬ R r) : Pc S' ρ' r b l :=
  ⟨h.at_.keep (m.kp b h.at_.some fun r' e => by rw [h.rol] at e; cases e; exact hr), m.ext b r h.rol⟩
theorem Pc.cell (h : Pc S ρ r b l) {x : Nat} (i : Nat) (hi : i < l.length) (hx : x = i) : S.cell b x = nthL l i := by
  subst hx
  have := h.at_.cell hi
  rwa [Nat.zero_add] at this
theorem Pc.part (h : Pc S ρ r b l) {x n : Nat} (i : Nat) (hi : i + n ≤ l.length) (hx : x = i) : S.part b x n = lpart l i n := by
  subst hx
  have := h.at_.part hi
  rwa [Nat.zero_add] at this
theorem Pc.ne {r' b' : Nat} {l' : List Value} (h : Pc S ρ r b l) (h' : Pc S ρ r' b' l') (hr : r ≠ r') : b ≠ b' := fun e => by
  have := h.rol; rw [e, h'.rol] at this; cases this; exact hr rfl
theorem Pc.pt (h : Pc S ρ r b l) (hg : ∀ b r, ρ b = some r → S b ≠ none) {x n : Nat} {vs : List Value} (i : Nat) (hn : n = vs.length) (hi : i + vs.length ≤ l.length) (hx : x = i) {K : Mem → Prop}
    (hK : ∀ S', Mv S ρ S' ρ (· = r) → Pc S' ρ r b (spl l i vs) → K S') : Go.Pt.pt S b x n vs K := by
  subst hx
  have e : x = 0 + x := (Nat.zero_add x).symm
  rw [e]
  refine h.at_.pt (i := x) hn hi ?_
  have hl : (spl l x vs).length = l.length := spl_length hi
  exact hK _ (h.at_.mv (R := (· = r)) (Mv.refl hg) h.rol rfl _) ⟨h.at_.put hl, h.rol⟩
end
def evL (e : Evt) : List Value := [.int .u8 e.kind, .int .i64 e.seat, .int .u64 e.a, .int .u64 e.b]
def lsL (l : Ls) : List Value := [.bool l.on, .int .i64 l.fr, .int .i64 l.pg, .int .i64 l.to, .bool l.wr, .int .i64 l.at_]
def owL (o : Ow) : List Value := [.int .u8 o.kind, .int .i64 o.vm, .int .i64 o.page, .int .i64 o.sh]
def cwL (r : Cw) : List Value := [.int .i64 r.vm, .int .i64 r.page, .bool true, .int .i64 r.f, .bool r.w]
def nL (l : List Nat) : List Value := l.map fun (n : Nat) => Value.int .i64 n
def bI (f : Nat → Bool) : Nat := (f 0).toNat + 2 * (f 1).toNat + 4 * (f 2).toNat + 8 * (f 3).toNat + 16 * (f 4).toNat + 32 * (f 5).toNat
structure Vx where
  ss : Sl
  fs : Sl
  ks : Sl
  d : Nat → Sl
def vx0 : Vx := ⟨⟨none, 0, 0⟩, ⟨none, 0, 0⟩, ⟨none, 0, 0⟩, fun _ => ⟨none, 0, 0⟩⟩
def vmC (x : Vx) (v : Bv) (tf late : Int) : List Value :=
  [.bool v.on, eL x.ss, .int .i64 tf, eL x.fs, .int .i64 v.quota, .int .u64 late, eL x.ks, eL (x.d 0), eL (x.d 1), eL (x.d 2), eL (x.d 3), .int .u32 (bI v.bells)]
theorem vmC_len {x : Vx} {v : Bv} {tf late : Int} : (vmC x v tf late).length = 12 := rfl
def knL (k : Kn) (x : Nat → Vx) (ob kb : Nat) : List Value :=
  [.int .i64 k.form, .int .u64 k.now] ++ (cF 6 (fun i => vmC (x i) (k.vm i) (k.tf i) (k.late i)) ++ ([eP (some (ob, 0))] ++ (cF 16 (fun i => lsL (k.ls i)) ++ ([eP (some (kb, 0))] ++ cF 18 fun i => [.int .i64 (k.turns i)]))))
section
variable {k : Kn} {x : Nat → Vx} {ob kb : Nat}
theorem vms_len : (cF 6 fun i => vmC (x i) (k.vm i) (k.tf i) (k.late i)).length = 72 := cF_len (w := 12) fun _ _ => rfl
theorem lss_len : (cF 16 fun i => lsL (k.ls i)).length = 96 := cF_len (w := 6) fun _ _ => rfl
theorem tus_len : (cF 18 fun i => [Value.int .i64 (k.turns i)]).length = 18 := cF_len (w := 1) fun _ _ => rfl
theorem knL_len : (knL k x ob kb).length = 190 := by
  unfold knL
  simp only [List.length_append, vms_len, lss_len, tus_len, List.length_cons, List.length_nil]
theorem knL_vm {i j : Nat} (hi : i < 6) (hj : j < 12) : nthL (knL k x ob kb) (2 + (i * 12 + j)) = nthL (vmC (x i) (k.vm i) (k.tf i) (k.late i)) j := by
  unfold knL
  rw [nthL_skip (n := 2) rfl, nthL_left (by rw [vms_len]; omega)]
  exact cF_get (w := 12) (fun _ _ => rfl) hi hj
theorem knL_vms {i j m : Nat} (hi : i < 6) (hj : j + m ≤ 12) : lpart (knL k x ob kb) (2 + (i * 12 + j)) m = lpart (vmC (x i) (k.vm i) (k.tf i) (k.late i)) j m := by
  unfold knL
  rw [lpart_skip (n := 2) rfl, lpart_left (by rw [vms_len]; omega)]
  exact cF_part (w := 12) (fun _ _ => rfl) hi hj
theorem knL_ow : nthL (knL k x ob kb) 74 = some (eP (some (ob, 0))) := by
  unfold knL
  rw [show 74 = 2 + (72 + 0) by rfl, nthL_skip (n := 2) rfl, nthL_skip (n := 72) vms_len]; rfl
theorem knL_lss : lpart (knL k x ob kb) 75 96 = some (cF 16 fun i => lsL (k.ls i)) := by
  unfold knL
  rw [show 75 = 2 + (72 + (1 + 0)) by omega, lpart_skip (n := 2) rfl, lpart_skip (n := 72) vms_len, lpart_skip (n := 1) rfl, lpart_left (by rw [lss_len]; omega)]
  have := lpart_all (lss_len (k := k)); exact this
theorem knL_ck : nthL (knL k x ob kb) 171 = some (eP (some (kb, 0))) := by
  unfold knL
  rw [show 171 = 2 + (72 + (1 + (96 + 0))) by omega, nthL_skip (n := 2) rfl, nthL_skip (n := 72) vms_len, nthL_skip (n := 1) rfl, nthL_skip (n := 96) lss_len]; rfl
theorem knL_set {i j : Nat} {vs : List Value} (hi : i < 6) (hj : j + vs.length ≤ 12) {x' : Vx} {v' : Bv} {tf' late' : Int} {fr' : List Nat} (he : spl (vmC (x i) (k.vm i) (k.tf i) (k.late i)) j vs = vmC x' v' tf' late') :
    spl (knL k x ob kb) (2 + (i * 12 + j)) vs = knL { k with vm := upd k.vm i v', tf := upd k.tf i tf', late := upd k.late i late', fr := upd k.fr i fr' } (upd x i x') ob kb := by
  unfold knL
  rw [spl_right (n := 2) rfl, spl_left (by rw [vms_len]; omega), cF_set (w := 12) (fun _ _ => rfl) hi hj, he]
  have e : cF 6 (upd (fun i => vmC (x i) (k.vm i) (k.tf i) (k.late i)) i (vmC x' v' tf' late')) = cF 6 fun n => vmC (upd x i x' n) (upd k.vm i v' n) (upd k.tf i tf' n) (upd k.late i late' n) := cF_congr fun n _ => by
    by_cases e : n = i
    · subst e; simp only [upd_at]
    · simp only [upd_of e]
  rw [e]
theorem knL_setls {ls' : Nat → Ls} : spl (knL k x ob kb) 75 (cF 16 fun i => lsL (ls' i)) = knL { k with ls := ls' } x ob kb := by
  unfold knL
  have e : (cF 16 fun i => lsL (ls' i)).length = 96 := cF_len (w := 6) fun _ _ => rfl
  rw [show 75 = 2 + (72 + (1 + 0)) by omega, spl_right (n := 2) rfl, spl_right (n := 72) vms_len, spl_right (n := 1) rfl, spl_left (by rw [lss_len]; omega), spl_all (by rw [lss_len, e])]
end
end Go.Cr
end
section
namespace Go.Pt
open Go Go.RowKit Go.Cr
section
variable {S S' : Mem} {ρ ρ' : Rho} {r w : Nat} {s : Sl} {l : List Value}
theorem Rw.some (h : Rw S ρ r w s l) (h0 : 0 < l.length) : ∃ c, s.p = Option.some (c, 0) := by
  rcases h.row.lie with ⟨_, h2⟩ | ⟨b, k, h1, _⟩
  · have h4 := h.row.len
    have h3 := h.row.cap
    have hn : s.n = 0 := by omega
    rw [hn, Nat.zero_mul] at h4
    omega
  · exact ⟨b, h1⟩
theorem Rw.cell (h : Rw S ρ r w s l) {c : Nat} (hc : s.p = Option.some (c, 0)) {x : Nat} (i : Nat) (hi : i < l.length) (hx : x = i) : S.cell c x = nthL l i := by
  subst hx
  have hl := h.row.len
  rcases h.row.lie with ⟨h1, _⟩ | ⟨b, k, h1, h2, h3, h4, h5⟩
  · rw [h1] at hc; cases hc
  · rw [h1] at hc; cases hc
    rw [cell_of h2, nthL_eq, nthL_eq, ← h5, List.getElem?_take, if_pos (by omega)]
theorem Rw.part (h : Rw S ρ r w s l) {c : Nat} (hc : s.p = Option.some (c, 0)) {x n : Nat} (i : Nat) (hi : i + n ≤ l.length) (hx : x = i) : S.part c x n = lpart l i n := by
  subst hx
  have hl := h.row.len
  have hcap := h.row.cap
  rcases h.row.lie with ⟨h1, _⟩ | ⟨b, k, h1, h2, h3, h4, h5⟩
  · rw [h1] at hc; cases hc
  · rw [h1] at hc; cases hc
    have hm : s.n * w ≤ s.c * w := Nat.mul_le_mul_right _ hcap
    rw [part_of h2, lpart_i (by omega), lpart_i hi]
    congr 1
    apply List.ext_getElem?
    intro j
    rw [List.getElem?_take, List.getElem?_take, List.getElem?_drop, List.getElem?_drop]
    by_cases hj : j < n
    · rw [if_pos hj, if_pos hj, ← h5, List.getElem?_take, if_pos (by omega)]
    · rw [if_neg hj, if_neg hj]
theorem Rw.pt (h : Rw S ρ r w s l) (hg : ∀ b r, ρ b = Option.some r → S b ≠ none) {c : Nat} (hc : s.p = Option.some (c, 0)) {x n : Nat} {vs : List Value} (i : Nat) (hn : n = vs.length) (hi : i + vs.length ≤ l.length) (hx : x = i) {K : Mem → Prop}
    (hK : ∀ S', Mv S ρ S' ρ (· = r) → Rw S' ρ r w s (spl l i vs) → K S') : Go.Pt.pt S c x n vs K := by
  subst hx
  have hl := h.row.len
  have hcap := h.row.cap
  have hr := h.rol c 0 hc
  rcases h.row.lie with ⟨h1, _⟩ | ⟨b, k, h1, h2, h3, h4, h5⟩
  · rw [h1] at hc; cases hc
  · rw [h1] at hc; cases hc
    have hm : s.n * w ≤ s.c * w := Nat.mul_le_mul_right _ hcap
    refine ⟨⟨k, h2, h3, by omega⟩, ?_⟩
    rw [put_of h2]
    refine hK _ (Mv.put (R := (· = r)) (Mv.refl hg) hr rfl _) ⟨⟨by rw [spl_length hi]; exact hl, hcap, .inr ⟨c, _, h1, set_same, h3, ?_, ?_⟩⟩, h.rol⟩
    · simp only; rw [spl_length (by omega)]; exact h4
    · simp only
      rw [← h5]
      have hkl : k.cs = k.cs.take (s.n * w) ++ k.cs.drop (s.n * w) := (List.take_append_drop _ _).symm
      have h6 : (k.cs.take (s.n * w)).length = s.n * w := by rw [List.length_take]; omega
      have e : spl k.cs x vs = spl (k.cs.take (s.n * w)) x vs ++ k.cs.drop (s.n * w) := by
        conv => lhs; rw [hkl]
        exact spl_left (by omega)
      rw [e, List.take_left' (by rw [spl_length (by omega)]; exact h6)]
theorem Rw.n (h : Rw S ρ r w s l) (hw : 0 < w) {m : Nat} (hm : l.length = m * w) : s.n = m := by
  have := h.row.len
  rw [hm] at this
  exact (Nat.eq_of_mul_eq_mul_right hw this).symm
theorem Rw.sl (h : Rw S ρ r w s l) (h0 : 0 < l.length) : ∃ c, s = ⟨Option.some (c, 0), s.n, s.c⟩ ∧ s.p = Option.some (c, 0) := by
  obtain ⟨c, hc⟩ := h.some h0
  refine ⟨c, ?_, hc⟩
  obtain ⟨p, n, c'⟩ := s
  simp only at hc; rw [hc]
theorem Rw.keeps (h : Rw S ρ r w s l) (hk : Keeps S S' []) : Rw S' ρ r w s l :=
  ⟨h.row.keep fun b hb => by
    rcases h.row.lie with ⟨h1, _⟩ | ⟨b', k, h1, h2, _⟩
    · rw [h1] at hb; cases hb
    · rw [h1] at hb; cases hb; exact hk b (by rw [h2]; simp) (by simp), h.rol⟩
end
end Go.Pt
namespace Go.Cr
open Go Go.Pt
theorem Pc.keeps {S S' : Mem} {ρ : Rho} {r b : Nat} {l : List Value} (h : Pc S ρ r b l) (hk : Keeps S S' []) : Pc S' ρ r b l :=
  ⟨h.at_.keep (hk b h.at_.some (by simp)), h.rol⟩
structure OwnP (S : Mem) (ρ : Rho) (ob N : Nat) (own : Nat → Ow) : Prop where
  ex : ∃ rs, Pc S ρ 8 ob [eL rs] ∧ Rw S ρ 9 4 rs (cF N fun f => owL (own f))
theorem ow_len {own : Nat → Ow} {N : Nat} : (cF N fun f => owL (own f)).length = N * 4 := cF_len (w := 4) fun _ _ => rfl
section
variable {S S' : Mem} {ρ ρ' : Rho} {R : Nat → Prop} {ob N : Nat} {own : Nat → Ow}
theorem OwnP.keep (h : OwnP S ρ ob N own) (m : Mv S ρ S' ρ' R) (h8 : ¬ R 8) (h9 : ¬ R 9) : OwnP S' ρ' ob N own := by
  obtain ⟨rs, h1, h2⟩ := h.ex
  exact ⟨rs, h1.keep m h8, h2.keep m h9⟩
theorem OwnP.keeps (h : OwnP S ρ ob N own) (hk : Keeps S S' []) : OwnP S' ρ ob N own := by
  obtain ⟨rs, h1, h2⟩ := h.ex
  exact ⟨rs, h1.keeps hk, h2.keeps hk⟩
end
end Go.Cr
end
section
namespace Go.Cr
open Go Go.Pt
theorem count_succ (g : Nat → Bool) (n : Nat) : count g (n + 1) = count g n + (g n).toNat := by
  unfold count
  rw [List.range_succ, List.filter_append, List.length_append]
  congr 1
  cases h : g n <;> simp [h]
theorem count_congr {g g' : Nat → Bool} : ∀ {n : Nat}, (∀ i, i < n → g i = g' i) → count g n = count g' n
  | 0, _ => rfl
  | n + 1, h => by rw [count_succ, count_succ, count_congr fun i hi => h i (by omega), h n (by omega)]
theorem count_le (g : Nat → Bool) : ∀ n, count g n ≤ n
  | 0 => by simp [count]
  | n + 1 => by
    have := count_le g n
    rw [count_succ]
    cases g n <;> simp <;> omega
theorem count_mono {g g' : Nat → Bool} : ∀ {n : Nat}, (∀ i, i < n → g i = true → g' i = true) → count g n ≤ count g' n
  | 0, _ => by simp [count]
  | n + 1, h => by
    rw [count_succ, count_succ]
    have := count_mono (n := n) fun i hi => h i (by omega)
    have h2 := h n (by omega)
    cases hg : g n
    · simp; omega
    · rw [h2 hg]; simp; omega
theorem count_zero {g : Nat → Bool} : ∀ {n : Nat}, (∀ i, i < n → g i = false) → count g n = 0
  | 0, _ => rfl
  | n + 1, h => by rw [count_succ, count_zero fun i hi => h i (by omega), h n (by omega)]; rfl
theorem count_pos {g : Nat → Bool} {n i : Nat} (hi : i < n) (h : g i = true) : 0 < count g n := by
  induction n with
  | zero => omega
  | succ n ih =>
    rw [count_succ]
    by_cases e : i = n
    · subst e; rw [h]; simp
    · have := ih (by omega); omega
theorem count_none {g : Nat → Bool} {n : Nat} (h : count g n = 0) : ∀ i, i < n → g i = false := fun i hi => by
  cases hg : g i
  · rfl
  · have := count_pos hi hg; omega
theorem count_upd {g : Nat → Bool} {n f : Nat} (hf : f < n) (b : Bool) : count (upd g f b) n + (g f).toNat = count g n + b.toNat := by
  induction n with
  | zero => omega
  | succ n ih =>
    rw [count_succ, count_succ]
    by_cases e : f = n
    · subst e
      rw [upd_at, count_congr (g := upd g f b) (g' := g) fun i hi => upd_of (by omega)]
      omega
    · have := ih (by omega)
      rw [upd_of (f := g) (i := f) (j := n) (Ne.symm e)]
      omega
theorem firstOff_some {u : Nat → Bool} {N f : Nat} (h : firstOff u N = some f) : f < N ∧ u f = false ∧ ∀ g, g < f → u g = true := by
  unfold firstOff at h
  induction N with
  | zero => simp at h
  | succ N ih =>
    rw [List.range_succ, List.find?_append] at h
    cases h1 : (List.range N).find? (fun i => ! u i) with
    | some x =>
      rw [h1] at h
      simp only [Option.some_or, Option.some.injEq] at h
      subst h
      have := ih h1
      exact ⟨by omega, this.2⟩
    | none =>
      rw [h1] at h
      rw [Option.none_or] at h
      cases hu : u N with
      | true => simp [hu] at h
      | false =>
        simp [hu] at h
        subst h
        refine ⟨by omega, hu, fun g hg => ?_⟩
        have := List.find?_eq_none.1 h1 g (List.mem_range.2 hg)
        simpa using this
theorem firstOff_none {u : Nat → Bool} {N : Nat} (h : firstOff u N = none) : ∀ f, f < N → u f = true := fun f hf => by
  have := List.find?_eq_none.1 h f (List.mem_range.2 hf)
  simpa using this
theorem firstOff_of {u : Nat → Bool} {N f : Nat} (hf : f < N) (h0 : u f = false) (h1 : ∀ g, g < f → u g = true) : firstOff u N = some f := by
  cases h : firstOff u N with
  | none => have := firstOff_none h f hf; rw [h0] at this; cases this
  | some g =>
    obtain ⟨_, h3, h4⟩ := firstOff_some h
    rcases Nat.lt_trichotomy f g with e | e | e
    · have := h4 f e; rw [h0] at this; cases this
    · rw [e]
    · have := h1 g e; rw [h3] at this; cases this
theorem firstOff_congr {u u' : Nat → Bool} {N : Nat} (h : ∀ i, i < N → u i = u' i) : firstOff u N = firstOff u' N := by
  cases h1 : firstOff u N with
  | some f =>
    obtain ⟨a, b, c⟩ := firstOff_some h1
    exact (firstOff_of a (by rw [← h f a]; exact b) fun g hg => by rw [← h g (by omega)]; exact c g hg).symm
  | none =>
    cases h2 : firstOff u' N with
    | none => rfl
    | some f =>
      obtain ⟨a, b, c⟩ := firstOff_some h2
      have := firstOff_none h1 f a
      rw [h f a, b] at this; cases this
theorem firstOff_none_iff {u : Nat → Bool} {N : Nat} : firstOff u N = none ↔ count (fun f => ! u f) N = 0 := by
  constructor
  · intro h
    exact count_zero fun i hi => by rw [firstOff_none h i hi]; rfl
  · intro h
    cases h1 : firstOff u N with
    | none => rfl
    | some f =>
      obtain ⟨a, b, _⟩ := firstOff_some h1
      have := count_none h f a
      rw [b] at this; cases this
theorem takeN_some {N : Nat} : ∀ {k : Nat} {u : Nat → Bool} {l : List Nat} {u' : Nat → Bool}, takeN N k u = some (l, u') →
    l.length = k ∧ l.Nodup ∧ (∀ f ∈ l, f < N ∧ u f = false) ∧ (∀ f, u' f = (u f || decide (f ∈ l))) ∧ count (fun f => ! u' f) N + k = count (fun f => ! u f) N
  | 0, u, l, u', h => by
    simp only [takeN, Option.some.injEq, Prod.mk.injEq] at h
    obtain ⟨rfl, rfl⟩ := h
    simp
  | k + 1, u, l, u', h => by
    simp only [takeN] at h
    cases h1 : firstOff u N with
    | none => rw [h1] at h; cases h
    | some f =>
      rw [h1] at h
      dsimp only at h
      cases h2 : takeN N k (upd u f true) with
      | none => rw [h2] at h; cases h
      | some q =>
        obtain ⟨l2, u2⟩ := q
        rw [h2] at h
        simp only [Option.some.injEq, Prod.mk.injEq] at h
        obtain ⟨rfl, rfl⟩ := h
        obtain ⟨a, b, _⟩ := firstOff_some h1
        obtain ⟨c1, c2, c3, c4, c5⟩ := takeN_some h2
        have hnf : f ∉ l2 := fun hm => by
          have := (c3 f hm).2
          rw [upd_at] at this; cases this
        refine ⟨by rw [List.length_cons, c1], List.nodup_cons.2 ⟨hnf, c2⟩, fun g hg => ?_, fun g => ?_, ?_⟩
        · rcases List.mem_cons.1 hg with e | e
          · rw [e]; exact ⟨a, b⟩
          · have h3 := c3 g e
            rw [upd_of (fun e2 => hnf (by rw [← e2]; exact e))] at h3
            exact h3
        · rw [c4 g]
          by_cases e : g = f
          · subst e; rw [upd_at]; simp
          · rw [upd_of e]; simp [e]
        · have e1 : (fun g => ! upd u f true g) = upd (fun g => ! u g) f false := by
            funext g; unfold upd; split <;> rfl
          have := count_upd (g := fun g => ! u g) a false
          rw [← e1] at this
          simp only [b, Bool.not_false, Bool.toNat_true, Bool.toNat_false] at this
          omega
theorem takeN_none {N : Nat} : ∀ {k : Nat} {u : Nat → Bool}, takeN N k u = none ↔ count (fun f => ! u f) N < k
  | 0, u => by simp [takeN]
  | k + 1, u => by
    simp only [takeN]
    cases h1 : firstOff u N with
    | none =>
      have := firstOff_none_iff.1 h1
      exact ⟨fun _ => by omega, fun _ => rfl⟩
    | some f =>
      obtain ⟨a, b, _⟩ := firstOff_some h1
      have e1 : (fun g => ! upd u f true g) = upd (fun g => ! u g) f false := by
        funext g; unfold upd; split <;> rfl
      have := count_upd (g := fun g => ! u g) a false
      rw [← e1] at this
      simp only [b, Bool.not_false, Bool.toNat_true, Bool.toNat_false] at this
      have ih := takeN_none (N := N) (k := k) (u := upd u f true)
      dsimp only
      cases h2 : takeN N k (upd u f true) with
      | none =>
        have h3 := ih.1 h2
        exact ⟨fun _ => by omega, fun _ => rfl⟩
      | some q =>
        obtain ⟨l2, u2⟩ := q
        have h3 : ¬ count (fun g => ! upd u f true g) N < k := fun h => by
          have := ih.2 h
          rw [h2] at this; cases this
        exact ⟨fun h => (by cases h), fun h => (by omega)⟩
end Go.Cr
end
section
namespace Go.Proofs.YtabdpmnhjlmnlaaGreatDoor
open Go Go.Pt
attribute [local irreducible] Code.wp Back bodyPost wpList FR WL WC WQ WA AW Tr Yc HC AllC
set_option maxRecDepth 20000
set_option maxHeartbeats 4000000
set_option linter.unusedVariables false
def b_cache_Cache_Look (S : Mem) (c : Pt) (vm : Int) (page : Int) (Q : List Value → Bool → Mem → Prop) : Prop :=
 jn (fun (v : List Value) (Sx : Mem) =>
 v.length = 3 ∧
 Q ([.bool false, .int .i64 0, .bool false]) false Sx) fun Jx =>
 if c ≠ none then
 nn c fun b_1 o =>
 gL (S.cell b_1 o) fun t =>
 lp (fun Xx (z : Int × List Value) (Sx_1 : Mem) =>
 match z with
 | (t_1, v_1) =>
 v_1.length = 3 ∧
 if t_1 < (t.n : Int) then
 sl t fun b_2 o_1 n n_1 =>
 0 ≤ t_1 ∧ t_1 < ((n : Nat) : Int) ∧
 gA (Sx_1.part b_2 (o_1 + t_1.toNat * 5) 5) fun t_2 =>
 t_2.all (·.oneCell') = true ∧
 gA (lpart t_2 0 2) fun a =>
 fits [.i .i64, .i .i64] a = true ∧
 if (eqL a ([.int .i64 vm, .int .i64 page])) = true then
 gA (lpart t_2 2 3) fun a_1 =>
 a_1.all (·.oneCell') = true ∧
 Q a_1 true Sx_1
 else
 Xx (IntKind.i64.wrap (t_1 + 1), v_1) Sx_1
 else
 Jx v_1 Sx_1) (0, [.bool false, .int .i64 0, .bool false]) S
 else
 Jx ([.bool false, .int .i64 0, .bool false]) S
theorem t_cache_Cache_Look {S : Mem} {c : Pt} {vm : Int} {page : Int} {Q : List Value → Bool → Mem → Prop} (H : b_cache_Cache_Look S c vm page Q) : cache_Cache_Look S c vm page Q := by
 unfold b_cache_Cache_Look at H
 exact Tr.intro Tryz.func248 E Tryz.ntmps248 E fun w0 => csr<|by refine s_alloc E fun b => ?_; exact gv E E<|nx<|c_join2 H (fun (J : List Value → Mem → Prop) (z : List Value) S => J z S) (fun z => ⟨31, [(6, .pointer (some ⟨b, 0, none⟩))]⟩) (fun z => [⟨b, 111, z⟩]) (fun v Sx H1 => an H1 fun hv H2 => csr<|s_p E (y_build E E)<|by exact s_stV_all 0 E E E E E E hv E<|gv E E<|nx<|c_ret<|q_ret Tryz.results248 (rv_cellA E (hc_VP (k := 3) 0 E E) E (rv_tmp E rv_nil)) ⟨_, _, E, E, H2⟩) (fun Jx hJx H3 => csr<|mv E E<|iteK H3 (fun c_1 H4 => s_p E (yT (y_pnn (p := c) E E) c_1)<|nx<|c_t E E<|csr<|mv E E<|by obtain ⟨b_1, o, rfl, H5⟩ := H4; exact s_p E (y_nc E)<|s_p E (y_fa E E)<|gx H5 fun t ht H6 => s_v E (y_ld E) (hc_S ht)<|s_p E (y_len E)<|mv E E<|nx<|c_block<|c_loop (fun z => ⟨31, [(1, .int .i64 vm), (2, .int .i64 page), (6, .pointer (some ⟨b, 0, none⟩)), (15, eL t), (16, .int .i64 (t.n : Int)), (17, .int .i64 z.1)]⟩) (fun z => [⟨b, 111, z.2⟩]) (0, [.bool false, .int .i64 0, .bool false]) (idx := [0]) H6 E ⟨E, E, E, E, E, E, True.intro⟩ E<|by rintro Xx hXx ⟨t_1, v_1⟩ Sx_1 H7; exact an H7 fun hv_1 H8 => csr<|iteK H8 (fun c_2 H9 => s_p E (yT (y_lss E E) c_2)<|nx<|c_seq<|c_t E E<|c_skip<|q_then<|c_seq<|c_block<|csr<|by obtain ⟨b_2, o_1, n, n_1, rfl, H10⟩ := H9; exact an2 H10 fun c_3 c_4 H11 => s_p E (y_ixL E E c_3 c_4 E)<|gx H11 fun t_2 ht_2 H12 => by refine s_v E (y_ldA E (part_len ht_2)) (hc_SP ht_2) ?_; exact by refine s_alloc E fun b_3 => ?_; exact an H12 fun c_5 H13 => s_stV_all 1 E E E E E (part_len ht_2) E c_5<|nxr<|s_p E (y_fa E E)<|gx H13 fun a ha H14 => by refine s_v E (y_ldA E ((lpart_e ha).2.2)) (hc_VP 1 E ha) ?_; exact mv E E<|mv E E<|s_p E (y_build E E)<|by exact an H14 fun c_6 H15 => iteK H15 (fun c_8 H16 => s_p E (yB (y_eqA E E c_6 E) c_8)<|nx<|c_t E E<|csr<|s_p E (y_fa E E)<|gx H16 fun a_1 ha_1 H17 => by refine s_v E (y_ldA E ((lpart_e ha_1).2.2)) (hc_VP 1 E ha_1) ?_; exact an H17 fun c_9 H18 => s_stV_all 0 E E E E E ((lpart_e ha_1).2.2) hv_1 c_9<|gv E E<|nx<|c_ret<|q_blk_ret<|q_then_ret<|q_then_ret<|q_blk_ret<|q_then_ret<|q_ret Tryz.results248 (rv_cellA E (hc_VP (k := 3) 0 E (lpart_all ((lpart_e ha_1).2.2))) ((lpart_e ha_1).2.2) (rv_tmp E rv_nil)) ⟨_, _, E, (lpart_e ha_1).2.2, H18⟩) fun c_8 H16 => s_p E (yB (y_eqA E E c_6 E) (bf_of c_8))<|nx<|cfs E E<|q_blk<|q_then<|c_region<|s_p E (y_add E E)<|mv E E<|s_nil<|hXx (IntKind.i64.wrap (t_1 + 1), v_1) _ _ _ _ [0] H16 E ⟨E, E, E, E, E, E, True.intro⟩ E) fun c_2 H9 => s_p E (yF (y_lss E E) c_2)<|nx<|c_seq<|c_f E E<|c_exit<|q_then_exit<|q_then_exit<|q_blk_out<|hJx v_1 _ _ _ _ [0] H9 E ⟨E, True.intro⟩ E) fun c_1 H4 => s_p E (yF (y_pnn (p := c) E E) c_1)<|nx<|cfs E E<|hJx ([.bool false, .int .i64 0, .bool false]) _ _ _ _ [0] H4 E ⟨E, True.intro⟩ E)
def b_cache_Cache_Put (S : Mem) (c : Pt) (vm : Int) (page : Int) (x : List Value) (Q : Mem → Prop) : Prop :=
 x.length = 3 ∧
 jn (fun (Sx : Mem) =>
 cache_Cache_Drop Sx c vm page fun Sx_1 =>
 jn (fun (Sx_2 : Mem) =>
 nn c fun b_1 o =>
 gL (Sx_2.cell b_1 o) fun t =>
 (spl (spl ([.int .i64 0, .int .i64 0, .bool false, .int .i64 0, .bool false]) 0 [.int .i64 vm, .int .i64 page]) 2 x).all (·.oneCell') = true ∧
 ap Sx_2 264 5 40 [.int .i64 0, .int .i64 0, .bool false, .int .i64 0, .bool false] t 1 (spl (spl ([.int .i64 0, .int .i64 0, .bool false, .int .i64 0, .bool false]) 0 [.int .i64 vm, .int .i64 page]) 2 x) fun t_1 Sx_3 =>
 pt Sx_3 b_1 o 1 ([eL t_1]) fun Sx_4 =>
 Q Sx_4) fun Jx =>
 nn c fun b_3 o_1 =>
 gL (Sx_1.cell b_3 o_1) fun t_2 =>
 if (t_2.n : Int) = 8 then
 gL (Sx_1.cell b_3 o_1) fun t_3 =>
 (0 : Int) ≤ 1 ∧ (1 : Int) ≤ (t_3.n : Int) ∧ (t_3.n : Int) ≤ (t_3.c : Int) ∧
 lt (slc 5 t_3 1 (t_3.n : Int)) fun t_4 =>
 sp Sx_1 t_4 5 fun vs =>
 ap Sx_1 264 5 40 [.int .i64 0, .int .i64 0, .bool false, .int .i64 0, .bool false] (⟨none, 0, 0⟩) t_4.n vs fun t_5 Sx_5 =>
 pt Sx_5 b_3 o_1 1 ([eL t_5]) fun Sx_6 =>
 Jx Sx_6
 else
 Jx Sx_1) fun Jx_1 =>
 if c = none then
 Q S
 else
 Jx_1 S
theorem t_cache_Cache_Put {S : Mem} {c : Pt} {vm : Int} {page : Int} {x : List Value} {Q : Mem → Prop} (H : b_cache_Cache_Put S c vm page x Q) : cache_Cache_Put S c vm page x Q := by
 unfold b_cache_Cache_Put at H
 exact Tr.intro Tryz.func249 E Tryz.ntmps249 E fun w0 => an H fun hx H1 => csr<|s_box E E E fun b => nx<|c_join2 H1 (fun (J : Mem → Prop) (z : Unit) S => J S) (fun z => ⟨43, [(0, eP c), (1, .int .i64 vm), (2, .int .i64 page), (7, .pointer (some ⟨b, 0, none⟩))]⟩) (fun z => [⟨b, 111, x⟩]) (fun _ Sx H2 => csr<|mv E E<|mv E E<|mv E E<|s_k0 E E H2 fun Sx_1 H3 => nx<|c_join2 H3 (fun (J : Mem → Prop) (z : Unit) S => J S) (fun z => ⟨43, [(0, eP c), (1, .int .i64 vm), (2, .int .i64 page), (7, .pointer (some ⟨b, 0, none⟩))]⟩) (fun z => [⟨b, 111, x⟩]) (fun _ Sx_2 H4 => c_drawn (by kernel_rfl)<|a_takeP 0 E (by decide +kernel) np_body E (y_move E)<|by exact a_takeP 1 E (by decide +kernel) np_body E (y_move E)<|by exact by obtain ⟨b_1, o, rfl, H5⟩ := H4; exact a_takeP 2 E (by decide +kernel) np_body E (y_nc E)<|by exact a_takeP 3 E (by decide +kernel) np_body E (y_fa E E)<|by exact gx H5 fun t ht H6 => a_take 4 E (by decide +kernel) np_body E (y_ld E) (hc_S ht)<|by exact a_takeP 5 E (by decide +kernel) np_body E (y_move E)<|by exact a_takeP 6 E (by decide +kernel) np_body E (y_move E)<|by exact a_takeP 7 E (by decide +kernel) np_body E (y_build E E)<|by exact by refine a_take 8 E (by decide +kernel) np_body E (y_ldA E hx) (hc_VP (k := 3) 0 E (lpart_all hx)) ?_; exact a_takeP 9 E (by decide +kernel) np_body E (y_build E (fill_cons (off := 0) (size := 2) E E (fit_of (n := 5) E (by decide)) (fill_cons (off := 2) (size := 3) E hx (fit_of (n := 5) (spl_at (m := 2) E E (by decide)) (by decide)) fill_nil)))<|by exact a_step 10 (by decide +kernel) E<|by exact s_bs E E (by decide) (fill_one (size := 5) E (spl_at (m := 3) (spl_at (m := 2) E E (by decide)) hx (by decide))) fun b_2 => s_nil<|q_any (ac_cons (hc_VP (k := 3) 0 E (lpart_all hx)) (ac_cons (hc_S ht) ac_nil))<|a_step 11 (by decide +kernel) E<|by exact an H6 fun c_1 H7 => s_app (sx := t) (vs := spl (spl ([.int .i64 0, .int .i64 0, .bool false, .int .i64 0, .bool false]) 0 [.int .i64 vm, .int .i64 page]) 2 x) E E E (fc_V 1 E (lpart_all (spl_at (m := 3) (spl_at (m := 2) E E (by decide)) hx (by decide)))) (spl_at (m := 3) (spl_at (m := 2) E E (by decide)) hx (by decide)) c_1 (by decide) H7 fun t_1 Sx_3 H8 => s_nil<|q_any (ac_cons (hc_VP (k := 3) 0 E (lpart_all hx)) ac_nil)<|a_takeP 12 E (by decide +kernel) np_body E (y_nc E)<|by exact a_takeP 13 E (by decide +kernel) np_body E (y_fa E E)<|by exact a_step 14 (by decide +kernel) E<|by exact an H8 fun c_2 H9 => s_stS E E E E E c_2 E<|s_nil<|q_any ac_nil<|a_done (by decide +kernel)<|by exact q_end Tryz.results249 (rv_nil) ⟨E, H9⟩) (fun Jx hJx H10 => csr<|mv E E<|by obtain ⟨b_3, o_1, rfl, H11⟩ := H10; exact s_p E (y_nc E)<|s_p E (y_fa E E)<|gx H11 fun t_2 ht_2 H12 => s_v E (y_ld E) (hc_S ht_2)<|s_p E (y_len E)<|iteK H12 (fun c_3 H13 => ceT E E E (c_3)<|nx<|ctr E E<|mv E E<|mv E E<|s_p E (y_nc E)<|s_p E (y_fa E E)<|gx H13 fun t_3 ht_3 H14 => s_v E (y_ld E) (hc_S ht_3)<|an3 H14 fun c_4 c_5 c_6 H15 => by obtain ⟨t_4, et_4, H16⟩ := lt_e H15; exact s_p E (eqv (y_slc (a := 1) (b := (t_3.n : Int)) E E E c_4 c_5 c_6) (congrArg eL et_4))<|by obtain ⟨vs, h, c_7, H17⟩ := H16; exact s_app (sx := ⟨none, 0, 0⟩) (vs := vs) E E E ((fc_sp h).1) ((fc_sp (P := Tryz.prog) (w0 := w0) (S0 := S) (V := []) h).2) c_7 (by decide) H17 fun t_5 Sx_5 H18 => s_p E (y_nc E)<|s_p E (y_fa E E)<|an H18 fun c_8 H19 => s_stS E E E E E c_8 E<|s_nil<|hJx () _ _ _ _ [0] H19 E ⟨E, E, E, E, True.intro⟩ E) fun c_3 H13 => ceF E E E (c_3)<|nx<|cfs E E<|hJx () _ _ _ _ [0] H13 E ⟨E, E, E, E, True.intro⟩ E)) (fun Jx_1 hJx_1 H20 => csr<|mv E E<|iteK H20 (fun c_9 H21 => s_p E (yT (y_pnil (p := c) E E) c_9)<|nx<|c_t E E<|c_ret<|q_then_ret<|q_ret Tryz.results249 (rv_nil) ⟨E, H21⟩) fun c_9 H21 => s_p E (yF (y_pnil (p := c) E E) c_9)<|nx<|cfs E E<|hJx_1 () _ _ _ _ [0] H21 E ⟨E, E, E, E, True.intro⟩ E)
def b_cache_Cache_keep (S : Mem) (c : Pt) (wants : Value) (Q : Mem → Prop) : Prop :=
 jn (fun (l : Sl) (Sx : Mem) =>
 nn c fun b o =>
 pt Sx b o 1 ([eL l]) fun Sx_1 =>
 Q Sx_1) fun Jx =>
 nn c fun b_1 o_1 =>
 gL (S.cell b_1 o_1) fun t =>
 lp (fun Xx (z : Sl × Int) (Sx_2 : Mem) =>
 match z with
 | (l_1, t_1) =>
 if t_1 < (t.n : Int) then
 sl t fun b_2 o_2 n n_1 =>
 0 ≤ t_1 ∧ t_1 < ((n : Nat) : Int) ∧
 gA (Sx_2.part b_2 (o_2 + t_1.toNat * 5) 5) fun t_2 =>
 t_2.all (·.oneCell') = true ∧
 cv Tryz.prog Sx_2 wants [valL t_2] fun rv Sx_3 => ∃ t_3 : Bool, rv = .bool t_3 ∧ 
 if t_3 = true then
 t_2.all (·.oneCell') = true ∧
 ap Sx_3 264 5 40 [.int .i64 0, .int .i64 0, .bool false, .int .i64 0, .bool false] l_1 1 t_2 fun t_4 Sx_4 =>
 Xx (t_4, IntKind.i64.wrap (t_1 + 1)) Sx_4
 else
 Xx (l_1, IntKind.i64.wrap (t_1 + 1)) Sx_3
 else
 Jx l_1 Sx_2) (⟨none, 0, 0⟩, 0) S
theorem t_cache_Cache_keep {S : Mem} {c : Pt} {wants : Value} {Q : Mem → Prop} (H : b_cache_Cache_keep S c wants Q) : cache_Cache_keep S c wants Q := by
 unfold b_cache_Cache_keep at H
 exact Tr.intro Tryz.func151 E Tryz.ntmps151 E fun w0 => csr<|gv E E<|nx<|c_join2 H (fun (J : Sl → Mem → Prop) (z : Sl) S => J z S) (fun z => ⟨28, [(0, eP c), (4, eL z)]⟩) (fun z => []) (fun l Sx H1 => c_region<|mv E E<|mv E E<|by obtain ⟨b, o, rfl, H2⟩ := H1; exact s_p E (y_nc E)<|s_p E (y_fa E E)<|an H2 fun c_1 H3 => s_stS E E E E E c_1 E<|s_nil<|q_end Tryz.results151 (rv_nil) ⟨E, H3⟩) (fun Jx hJx H4 => csr<|mv E E<|by obtain ⟨b_1, o_1, rfl, H5⟩ := H4; exact s_p E (y_nc E)<|s_p E (y_fa E E)<|gx H5 fun t ht H6 => s_v E (y_ld E) (hc_S ht)<|s_p E (y_len E)<|mv E E<|nx<|c_block<|c_loop (fun z => ⟨28, [(0, .pointer (some ⟨b_1, o_1, none⟩)), (1, wants), (4, eL z.1), (10, eL t), (11, .int .i64 (t.n : Int)), (12, .int .i64 z.2)]⟩) (fun z => []) (⟨none, 0, 0⟩, 0) (idx := []) H6 E ⟨E, E, E, E, E, E, True.intro⟩ E<|by rintro Xx hXx ⟨l_1, t_1⟩ Sx_2 H7; exact csr<|iteK H7 (fun c_2 H8 => s_p E (yT (y_lss E E) c_2)<|nx<|c_seq<|c_t E E<|c_skip<|q_then<|c_seq<|c_block<|csr<|by obtain ⟨b_2, o_2, n, n_1, rfl, H9⟩ := H8; exact an2 H9 fun c_3 c_4 H10 => s_p E (y_ixL E E c_3 c_4 E)<|gx H10 fun t_2 ht_2 H11 => by refine s_v E (y_ldA E (part_len ht_2)) (hc_SP ht_2) ?_; exact by refine s_alloc E fun b_3 => ?_; exact an H11 fun c_5 H12 => s_stV_all 0 E E E E E (part_len ht_2) E c_5<|nxr<|mv E E<|by refine s_v E (y_ldA E (part_len ht_2)) (hc_VP (k := 5) 0 E (lpart_all (part_len ht_2))) ?_; exact s_cv E E E H12 fun rv Sx_3 H13 => by obtain ⟨t_3, rfl, H14⟩ := H13; exact by have H15 := ib_e H14; rcases H15 with ⟨rfl, H16⟩ | ⟨rfl, H16⟩; exact (nx<|ctr E E<|mv E E<|by refine s_v E (y_ldA E (part_len ht_2)) (hc_VP (k := 5) 0 E (lpart_all (part_len ht_2))) ?_; exact s_bs E E (by decide) (fill_one (size := 5) E (part_len ht_2)) fun b_4 => an H16 fun c_6 H17 => s_app (sx := l_1) (vs := t_2) E E E (fc_V 1 E (lpart_all (part_len ht_2))) (part_len ht_2) c_6 (by decide) H17 fun t_4 Sx_4 H18 => gv E E<|s_nil<|q_blk<|q_then<|c_region<|s_p E (y_add E E)<|mv E E<|s_nil<|hXx (t_4, IntKind.i64.wrap (t_1 + 1)) _ _ _ _ [] H18 E ⟨E, E, E, E, E, E, True.intro⟩ E); exact (nx<|cfs E E<|q_blk<|q_then<|c_region<|s_p E (y_add E E)<|mv E E<|s_nil<|hXx (l_1, IntKind.i64.wrap (t_1 + 1)) _ _ _ _ [] H16 E ⟨E, E, E, E, E, E, True.intro⟩ E)) fun c_2 H8 => s_p E (yF (y_lss E E) c_2)<|nx<|c_seq<|c_f E E<|c_exit<|q_then_exit<|q_then_exit<|q_blk_out<|hJx l_1 _ _ _ _ [] H8 E ⟨E, E, True.intro⟩ E)
def b_cache_Cache_Drop (S : Mem) (c : Pt) (vm : Int) (page : Int) (Q : Mem → Prop) : Prop :=
 al S 3 ([.int .i64 vm]) fun b Sx =>
 al Sx 3 ([.int .i64 page]) fun b_1 Sx_1 =>
 if c ≠ none then
 cache_Cache_keep Sx_1 c (.func (.func 229) #[] #[.pointer (some ⟨b, 0, none⟩), .pointer (some ⟨b_1, 0, none⟩)]) fun Sx_2 =>
 Q Sx_2
 else
 Q Sx_1
theorem t_cache_Cache_Drop {S : Mem} {c : Pt} {vm : Int} {page : Int} {Q : Mem → Prop} (H : b_cache_Cache_Drop S c vm page Q) : cache_Cache_Drop S c vm page Q := by
 unfold b_cache_Cache_Drop at H
 exact Tr.intro Tryz.func203 E Tryz.ntmps203 E fun w0 => csr<|s_box E E E fun b => s_pub 0 E fun hb => have H1 := H b hb; s_box E E E fun b_1 => s_pub 0 E fun hb_1 => have H2 := H1 b_1 hb_1; nxr<|mv E E<|iteK H2 (fun c_1 H3 => s_p E (yT (y_pnn (p := c) E E) c_1)<|nx<|ctr E E<|mv E E<|s_p E (y_mkf E)<|s_k0 E E H3 fun Sx_2 H4 => s_nil<|q_end Tryz.results203 (rv_nil) ⟨E, H4⟩) fun c_1 H3 => s_p E (yF (y_pnn (p := c) E E) c_1)<|nx<|cfs E E<|q_end Tryz.results203 (rv_nil) ⟨E, H3⟩
def b_cache_Cache_Drop_f1 (S : Mem) (r : List Value) (t : Pt) (t_1 : Pt) (Q : Bool → Mem → Prop) : Prop :=
 r.length = 5 ∧
 gA (lpart r 0 2) fun a =>
 nn t fun b_1 o =>
 gI (S.cell b_1 o) .i64 fun t_2 =>
 nn t_1 fun b_2 o_1 =>
 gI (S.cell b_2 o_1) .i64 fun t_3 =>
 fits [.i .i64, .i .i64] a = true ∧
 Q (!(eqL a ([.int .i64 t_2, .int .i64 t_3]))) S
theorem t_cache_Cache_Drop_f1 {S : Mem} {r : List Value} {t : Pt} {t_1 : Pt} {Q : Bool → Mem → Prop} (H : b_cache_Cache_Drop_f1 S r t t_1 Q) : cache_Cache_Drop_f1 S r t t_1 Q := by
 unfold b_cache_Cache_Drop_f1 at H
 exact Tr.intro Tryz.func229 E Tryz.ntmps229 E fun w0 => an H fun hr H1 => csr<|s_box E E E fun b => gv E E<|nxr<|s_p E (y_fa E E)<|gx H1 fun a ha H2 => by refine s_v E (y_ldA E ((lpart_e ha).2.2)) (hc_VP 0 E ha) ?_; exact by obtain ⟨b_1, o, rfl, H3⟩ := H2; exact gx H3 fun t_2 ht_2 H4 => s_v E (y_ld E) (hc_S ht_2)<|by obtain ⟨b_2, o_1, rfl, H5⟩ := H4; exact gx H5 fun t_3 ht_3 H6 => s_v E (y_ld E) (hc_S ht_3)<|s_p E (y_build E E)<|by exact an H6 fun c H7 => s_p E (y_neA E E c E)<|gv E E<|nx<|c_ret<|q_ret Tryz.results229 (rv_tmp E rv_nil) ⟨_, E, H7⟩
end Go.Proofs.YtabdpmnhjlmnlaaGreatDoor
end
section
namespace Go.Proofs.YtabdpmnhjlmnlaaGreatDoor
open Go Go.Pt
attribute [local irreducible] Code.wp Back bodyPost wpList FR WL WC WQ WA AW Tr Yc HC AllC
set_option maxRecDepth 20000
set_option maxHeartbeats 4000000
set_option linter.unusedVariables false
def b_table_Pack (S : Mem) (form : Int) (x : List Value) (Q : Int → Mem → Prop) : Prop :=
 x.length = 3 ∧
 jn (fun (Sx : Mem) =>
 jn (fun (Sx_1 : Mem) =>
 gI (nthL x 1) .i64 fun t =>
 word_With Sx_1 9223372036854775808 0 16 (ineg .u64 (IntKind.u64.wrap t)) fun t_1 Sx_2 =>
 gB (nthL x 2) fun t_2 =>
 if t_2 = true then
 Q (ior .u64 t_1 4611686018427387904) Sx_2
 else
 Q t_1 Sx_2) fun Jx =>
 if form = 1 then
 gI (nthL x 1) .i64 fun t_3 =>
 word_With Sx 1 8 16 (IntKind.u64.wrap t_3) fun t_4 Sx_3 =>
 gB (nthL x 2) fun t_5 =>
 if t_5 = true then
 Q (ior .u64 t_4 2) Sx_3
 else
 Q t_4 Sx_3
 else
 Jx Sx) fun Jx_1 =>
 gB (nthL x 0) fun t_6 =>
 if t_6 = true then
 Jx_1 S
 else
 Q 0 S
theorem t_table_Pack {S : Mem} {form : Int} {x : List Value} {Q : Int → Mem → Prop} (H : b_table_Pack S form x Q) : table_Pack S form x Q := by
 unfold b_table_Pack at H
 exact Tr.intro Tryz.func111 E Tryz.ntmps111 E fun w0 => an H fun hx H1 => csr<|s_box E E E fun b => gv E E<|nx<|c_join2 H1 (fun (J : Mem → Prop) (z : Unit) S => J S) (fun z => ⟨30, [(0, .int .i64 form), (3, .pointer (some ⟨b, 0, none⟩))]⟩) (fun z => [⟨b, 111, x⟩]) (fun _ Sx H2 => csr<|gv E E<|nx<|c_join2 H2 (fun (J : Mem → Prop) (z : Unit) S => J S) (fun z => ⟨30, [(3, .pointer (some ⟨b, 0, none⟩))]⟩) (fun z => [⟨b, 111, x⟩]) (fun _ Sx_1 H3 => csr<|s_p E (y_fa E E)<|gx H3 fun t ht H4 => s_v E (y_ld E) (hc_V 0 E ht)<|s_p E (y_conv ⟨_, Tryz.underlying3⟩ E)<|s_p E (y_cpl E)<|s_k1 E E H4 fun t_1 Sx_2 H5 => gv E E<|nx<|c_seq<|csr<|s_p E (y_fa E E)<|gx H5 fun t_2 ht_2 H6 => by have H7 := ib_e H6; rcases H7 with ⟨rfl, H8⟩ | ⟨rfl, H8⟩; exact (s_v E (y_ld E) (hc_V 0 E ht_2)<|nx<|ctr E E<|mv E E<|s_p E (y_or E E)<|gv E E<|nxr<|mv E E<|gv E E<|nx<|c_ret<|q_ret Tryz.results111 (rv_tmp E rv_nil) ⟨_, E, H8⟩); exact (s_v E (y_ld E) (hc_V 0 E ht_2)<|nx<|cfs E E<|q_then<|csr<|mv E E<|gv E E<|nx<|c_ret<|q_ret Tryz.results111 (rv_tmp E rv_nil) ⟨_, E, H8⟩)) (fun Jx hJx H9 => csr<|mv E E<|iteK H9 (fun c H10 => ceT E E E (c)<|nx<|c_t E E<|csr<|s_p E (y_fa E E)<|gx H10 fun t_3 ht_3 H11 => s_v E (y_ld E) (hc_V 0 E ht_3)<|s_p E (y_conv ⟨_, Tryz.underlying3⟩ E)<|s_k1 E E H11 fun t_4 Sx_3 H12 => gv E E<|nx<|c_seq<|csr<|s_p E (y_fa E E)<|gx H12 fun t_5 ht_5 H13 => by have H14 := ib_e H13; rcases H14 with ⟨rfl, H15⟩ | ⟨rfl, H15⟩; exact (s_v E (y_ld E) (hc_V 0 E ht_5)<|nx<|ctr E E<|mv E E<|s_p E (y_or E E)<|gv E E<|nxr<|mv E E<|gv E E<|nx<|c_ret<|q_then_ret<|q_ret Tryz.results111 (rv_tmp E rv_nil) ⟨_, E, H15⟩); exact (s_v E (y_ld E) (hc_V 0 E ht_5)<|nx<|cfs E E<|q_then<|csr<|mv E E<|gv E E<|nx<|c_ret<|q_then_ret<|q_ret Tryz.results111 (rv_tmp E rv_nil) ⟨_, E, H15⟩)) fun c H10 => ceF E E E (c)<|nx<|cfs E E<|hJx () _ _ _ _ [0] H10 E ⟨E, True.intro⟩ E)) (fun Jx_1 hJx_1 H16 => csr<|s_p E (y_fa E E)<|gx H16 fun t_6 ht_6 H17 => by have H18 := ib_e H17; rcases H18 with ⟨rfl, H19⟩ | ⟨rfl, H19⟩; exact (s_v E (y_ld E) (hc_V 0 E ht_6)<|s_p E (yB (y_not E) E)<|nx<|cfs E E<|hJx_1 () _ _ _ _ [0] H19 E ⟨E, E, True.intro⟩ E); exact (s_v E (y_ld E) (hc_V 0 E ht_6)<|s_p E (yB (y_not E) E)<|nx<|c_t E E<|csr<|gv E E<|nx<|c_ret<|q_then_ret<|q_ret Tryz.results111 (rv_tmp E rv_nil) ⟨_, E, H19⟩))
def b_table_Unpack (S : Mem) (form : Int) (w : Int) (Q : List Value → Bool → Mem → Prop) : Prop :=
 word_Field S w 8 16 fun t Sx =>
 jn (fun (x : List Value) (Sx_1 : Mem) =>
 x.length = 3 ∧
 jn (fun (v : List Value) (Sx_2 : Mem) =>
 v.length = 3 ∧
 table_Pack Sx_2 form x fun t_1 Sx_3 =>
 if t_1 ≠ w then
 Q ([.bool false, .int .i64 0, .bool false]) false Sx_3
 else
 x.all (·.oneCell') = true ∧
 Q x true Sx_3) fun Jx =>
 if w = 0 then
 Q ([.bool false, .int .i64 0, .bool false]) true Sx_1
 else
 Jx ([.bool false, .int .i64 0, .bool false]) Sx_1) fun Jx_1 =>
 if form ≠ 1 then
 word_Field Sx (ineg .u64 w) 0 16 fun t_2 Sx_4 =>
 Jx_1 ([.bool true, .int .i64 (IntKind.i64.wrap t_2), .bool (decide (iand .u64 (ishr .u64 w 62) 1 = 1))]) Sx_4
 else
 Jx_1 ([.bool true, .int .i64 (IntKind.i64.wrap t), .bool (decide (iand .u64 w 2 ≠ 0))]) Sx
theorem t_table_Unpack {S : Mem} {form : Int} {w : Int} {Q : List Value → Bool → Mem → Prop} (H : b_table_Unpack S form w Q) : table_Unpack S form w Q := by
 unfold b_table_Unpack at H
 exact Tr.intro Tryz.func109 E Tryz.ntmps109 E fun w0 => csr<|by refine s_alloc E fun b => ?_; exact gv E E<|nxr<|mv E E<|s_k1 E E H fun t Sx H1 => s_p E (y_conv ⟨_, Tryz.underlying39⟩ E)<|mv E E<|s_p E (y_and E E)<|s_p E (y_neq E E)<|s_p E (y_build E E)<|by exact by refine s_alloc E fun b_1 => ?_; exact s_stV (sz := 3) (vs := [.bool true, .int .i64 (IntKind.i64.wrap t), .bool (decide (iand .u64 w 2 ≠ 0))]) 1 E E E E E E (Nat.le_of_ble_eq_true E) E<|nx<|c_join2 H1 (fun (J : List Value → Mem → Prop) (z : List Value) S => J z S) (fun z => ⟨36, [(0, .int .i64 form), (1, .int .u64 w), (4, .pointer (some ⟨b, 0, none⟩)), (6, .pointer (some ⟨b_1, 0, none⟩))]⟩) (fun z => [⟨b, 111, [.bool false, .int .i64 0, .bool false]⟩, ⟨b_1, 111, z⟩]) (fun x Sx_1 H2 => an H2 fun hx H3 => c_join2 H3 (fun (J : List Value → Mem → Prop) (z : List Value) S => J z S) (fun z => ⟨36, [(0, .int .i64 form), (1, .int .u64 w), (4, .pointer (some ⟨b, 0, none⟩)), (6, .pointer (some ⟨b_1, 0, none⟩))]⟩) (fun z => [⟨b, 111, z⟩, ⟨b_1, 111, x⟩]) (fun v Sx_2 H4 => an H4 fun hv H5 => c_seq<|csr<|mv E E<|by refine s_v E (y_ldA E hx) (hc_VP (k := 3) 1 E (lpart_all hx)) ?_; exact s_k1 E E H5 fun t_1 Sx_3 H6 => mv E E<|iteK H6 (fun c H7 => s_p E (yT (y_neq E E) c)<|nx<|c_t E E<|csr<|s_p E (y_build E E)<|by exact s_stV_all 0 E E E E E E hv E<|gv E E<|nx<|c_ret<|q_then_ret<|q_ret Tryz.results109 (rv_cellA E (hc_VP (k := 3) 0 E E) E (rv_tmp E rv_nil)) ⟨_, _, E, E, H7⟩) fun c H7 => s_p E (yF (y_neq E E) c)<|nx<|cfs E E<|q_then<|csr<|by refine s_v E (y_ldA E hx) (hc_VP (k := 3) 1 E (lpart_all hx)) ?_; exact an H7 fun c_1 H8 => s_stV_all 0 E E E E E hx hv c_1<|gv E E<|nx<|c_ret<|q_ret Tryz.results109 (rv_cellA E (hc_VP (k := 3) 0 E (lpart_all hx)) hx (rv_tmp E rv_nil)) ⟨_, _, E, hx, H8⟩) (fun Jx hJx H9 => csr<|mv E E<|iteK H9 (fun c_2 H10 => ceT E E E (c_2)<|nx<|c_t E E<|csr<|s_p E (y_build E E)<|by exact s_stV (sz := 3) (vs := [.bool false, .int .i64 0, .bool false]) 0 E E E E E E (Nat.le_of_ble_eq_true E) E<|gv E E<|nx<|c_ret<|q_then_ret<|q_ret Tryz.results109 (rv_cellA E (hc_VP (k := 3) 0 E E) E (rv_tmp E rv_nil)) ⟨_, _, E, E, H10⟩) fun c_2 H10 => ceF E E E (c_2)<|nx<|cfs E E<|hJx ([.bool false, .int .i64 0, .bool false]) _ _ _ _ [0, 0] H10 E ⟨E, E, E, E, True.intro⟩ E)) (fun Jx_1 hJx_1 H11 => csr<|mv E E<|iteK H11 (fun c_3 H12 => s_p E (yT (y_neq E E) c_3)<|nx<|ctr E E<|mv E E<|s_p E (y_cpl E)<|s_k1 E E H12 fun t_2 Sx_4 H13 => s_p E (y_conv ⟨_, Tryz.underlying39⟩ E)<|mv E E<|s_p E (y_shr E E (by decide))<|s_p E (y_and E E)<|s_p E (y_eql E E)<|s_p E (y_fa E E)<|s_stV (sz := 1) (vs := [.int .i64 (IntKind.i64.wrap t_2)]) 1 E E E E E E (Nat.le_of_ble_eq_true E) E<|s_p E (y_fa E E)<|s_stV (sz := 1) (vs := [.bool (decide (iand .u64 (ishr .u64 w 62) 1 = 1))]) 1 E E E E E E (Nat.le_of_ble_eq_true E) E<|s_nil<|hJx_1 ([.bool true, .int .i64 (IntKind.i64.wrap t_2), .bool (decide (iand .u64 (ishr .u64 w 62) 1 = 1))]) _ _ _ _ [0, 0] H13 E ⟨E, E, E, E, True.intro⟩ E) fun c_3 H12 => s_p E (yF (y_neq E E) c_3)<|nx<|cfs E E<|hJx_1 ([.bool true, .int .i64 (IntKind.i64.wrap t), .bool (decide (iand .u64 w 2 ≠ 0))]) _ _ _ _ [0, 0] H12 E ⟨E, E, E, E, True.intro⟩ E)
def b_table_Table_leaf (S : Mem) (t : List Value) (s : Pt) (page : Int) (Q : Int → Int → Int → Mem → Prop) : Prop :=
 t.length = 2 ∧
 jn (fun (Sx : Mem) =>
 gL (nthL t 1) fun t_1 =>
 sl t_1 fun b_1 o n n_1 =>
 (0 : Int) < (n : Nat) ∧
 gI (Sx.cell b_1 o) .i64 fun t_2 =>
 store_Store_Load Sx s t_2 (IntKind.i64.wrap (Int.tdiv page 8)) fun t_3 t_4 Sx_1 =>
 gI (nthL t 0) .i64 fun t_5 =>
 table_Unpack Sx_1 t_5 t_3 fun t_6 t_7 Sx_2 =>
 if t_7 = true then
 t_6.all (·.oneCell') = true ∧
 jn (fun (Sx_3 : Mem) =>
 gI (nthL t_6 1) .i64 fun t_8 =>
 Q t_8 (Int.tmod page 8) 0 Sx_3) fun Jx =>
 if t_4 ≠ 0 then
 Q 0 0 11 Sx_2
 else
 gB (nthL t_6 0) fun t_9 =>
 if t_9 = true then
 Jx Sx_2
 else
 Q 0 0 11 Sx_2
 else
 t_6.all (·.oneCell') = true ∧
 jn (fun (Sx_4 : Mem) =>
 gI (nthL t_6 1) .i64 fun t_10 =>
 Q t_10 (Int.tmod page 8) 0 Sx_4) fun Jx_1 =>
 if t_4 ≠ 0 then
 Q 0 0 11 Sx_2
 else
 Q 0 0 11 Sx_2) fun Jx_2 =>
 if page < 0 then
 Q 0 0 1 S
 else
 if 32 ≤ page then
 Q 0 0 1 S
 else
 gL (nthL t 1) fun t_11 =>
 if (t_11.n : Int) = 0 then
 Q 0 0 1 S
 else
 Jx_2 S
theorem t_table_Table_leaf {S : Mem} {t : List Value} {s : Pt} {page : Int} {Q : Int → Int → Int → Mem → Prop} (H : b_table_Table_leaf S t s page Q) : table_Table_leaf S t s page Q := by
 unfold b_table_Table_leaf at H
 exact Tr.intro Tryz.func107 E Tryz.ntmps107 E fun w0 => an H fun ht H1 => csr<|s_box E E E fun b => gv E E<|gv E E<|gv E E<|nx<|c_join2 H1 (fun (J : Mem → Prop) (z : Unit) S => J S) (fun z => ⟨58, [(1, eP s), (2, .int .i64 page), (3, .pointer (some ⟨b, 0, none⟩))]⟩) (fun z => [⟨b, 63, t⟩]) (fun _ Sx H2 => csr<|mv E E<|s_p E (y_fa E E)<|gx H2 fun t_1 ht_1 H3 => s_v E (y_ld E) (hc_V 0 E ht_1)<|by obtain ⟨b_1, o, n, n_1, rfl, H4⟩ := H3; exact an H4 fun c_1 H5 => s_p E (y_ixL E E (by decide) c_1 E)<|gx H5 fun t_2 ht_2 H6 => s_v E (y_ld E) (hc_S ht_2)<|mv E E<|s_p E (y_quo E E (by decide))<|s_k2 E E H6 fun t_3 t_4 Sx_1 H7 => mv E E<|s_p E (y_extract E E)<|s_p E (y_extract E E)<|gv E E<|gv E E<|nxr<|s_p E (y_fa E E)<|gx H7 fun t_5 ht_5 H8 => s_v E (y_ld E) (hc_V 0 E ht_5)<|mv E E<|s_call E E H8 fun rv Sx_2 H9 => by obtain ⟨t_6, t_7, rfl, ht_6, H10⟩ := H9; exact mv E E<|s_p E (y_extract E E)<|iteK H10 (fun c_2 H11 => s_p E (yB (y_extract E E) c_2)<|by refine s_alloc E fun b_2 => ?_; exact an H11 fun c_3 H12 => s_stV_all 1 E E E E E ht_6 E c_3<|gv E E<|nx<|c_join2 H12 (fun (J : Mem → Prop) (z : Unit) S => J S) (fun z => ⟨58, [(2, .int .i64 page), (11, .pointer (some ⟨b_2, 0, none⟩))]⟩) (fun z => [⟨b_2, 111, t_6⟩]) (fun _ Sx_3 H13 => csr<|s_p E (y_fa E E)<|gx H13 fun t_8 ht_8 H14 => s_v E (y_ld E) (hc_V 0 E ht_8)<|mv E E<|s_p E (y_rem E E (by decide))<|gv E E<|gv E E<|gv E E<|nx<|c_ret<|q_ret Tryz.results107 (rv_tmp E (rv_tmp E (rv_tmp E rv_nil))) ⟨_, _, _, E, H14⟩) (fun Jx hJx H15 => csr<|mv E E<|iteK H15 (fun c_4 H16 => s_p E (yT (y_neq E E) c_4)<|mv E E<|sk2 E E<|pk E E E<|mv E E<|sk2 E E<|s_skip E<|pk E E E<|nx<|c_t E E<|csr<|gv E E<|gv E E<|gv E E<|nx<|c_ret<|q_then_ret<|q_ret Tryz.results107 (rv_tmp E (rv_tmp E (rv_tmp E rv_nil))) ⟨_, _, _, E, H16⟩) fun c_4 H16 => s_p E (yF (y_neq E E) c_4)<|mv E E<|mv E E<|s_p E (yB (y_not E) E)<|pk E E E<|mv E E<|s_p E (y_fa E E)<|gx H16 fun t_9 ht_9 H17 => by have H18 := ib_e H17; rcases H18 with ⟨rfl, H19⟩ | ⟨rfl, H19⟩; exact (s_v E (y_ld E) (hc_V 1 E ht_9)<|s_p E (yB (y_not E) E)<|pk E E E<|nx<|cfs E E<|hJx () _ _ _ _ [1] H19 E ⟨E, E, True.intro⟩ E); exact (s_v E (y_ld E) (hc_V 1 E ht_9)<|s_p E (yB (y_not E) E)<|pk E E E<|nx<|c_t E E<|csr<|gv E E<|gv E E<|gv E E<|nx<|c_ret<|q_then_ret<|q_ret Tryz.results107 (rv_tmp E (rv_tmp E (rv_tmp E rv_nil))) ⟨_, _, _, E, H19⟩))) fun c_2 H11 => s_p E (yB (y_extract E E) (bf_of c_2))<|by refine s_alloc E fun b_3 => ?_; exact an H11 fun c_5 H20 => s_stV_all 1 E E E E E ht_6 E c_5<|gv E E<|nx<|c_join2 H20 (fun (J : Mem → Prop) (z : Unit) S => J S) (fun z => ⟨58, [(2, .int .i64 page), (11, .pointer (some ⟨b_3, 0, none⟩))]⟩) (fun z => [⟨b_3, 111, t_6⟩]) (fun _ Sx_4 H21 => csr<|s_p E (y_fa E E)<|gx H21 fun t_10 ht_10 H22 => s_v E (y_ld E) (hc_V 0 E ht_10)<|mv E E<|s_p E (y_rem E E (by decide))<|gv E E<|gv E E<|gv E E<|nx<|c_ret<|q_ret Tryz.results107 (rv_tmp E (rv_tmp E (rv_tmp E rv_nil))) ⟨_, _, _, E, H22⟩) (fun Jx_1 hJx_1 H23 => csr<|mv E E<|iteK H23 (fun c_6 H24 => s_p E (yT (y_neq E E) c_6)<|mv E E<|sk2 E E<|pk E E E<|mv E E<|sk2 E E<|s_skip E<|pk E E E<|nx<|c_t E E<|csr<|gv E E<|gv E E<|gv E E<|nx<|c_ret<|q_then_ret<|q_ret Tryz.results107 (rv_tmp E (rv_tmp E (rv_tmp E rv_nil))) ⟨_, _, _, E, H24⟩) fun c_6 H24 => s_p E (yF (y_neq E E) c_6)<|mv E E<|mv E E<|s_p E (yB (y_not E) E)<|pk E E E<|mv E E<|sk2 E E<|s_skip E<|pk E E E<|nx<|c_t E E<|csr<|gv E E<|gv E E<|gv E E<|nx<|c_ret<|q_then_ret<|q_ret Tryz.results107 (rv_tmp E (rv_tmp E (rv_tmp E rv_nil))) ⟨_, _, _, E, H24⟩)) (fun Jx_2 hJx_2 H25 => csr<|mv E E<|iteK H25 (fun c_7 H26 => s_p E (yT (y_lss E E) c_7)<|mv E E<|sk2 E E<|pk E E E<|mv E E<|sk4 E E E E<|pk E E E<|nx<|c_t E E<|csr<|gv E E<|gv E E<|gv E E<|nx<|c_ret<|q_then_ret<|q_ret Tryz.results107 (rv_tmp E (rv_tmp E (rv_tmp E rv_nil))) ⟨_, _, _, E, H26⟩) fun c_7 H26 => s_p E (yF (y_lss E E) c_7)<|mv E E<|mv E E<|iteK H26 (fun c_8 H27 => s_p E (yT (y_geq E E) c_8)<|pk E E E<|mv E E<|sk4 E E E E<|pk E E E<|nx<|c_t E E<|csr<|gv E E<|gv E E<|gv E E<|nx<|c_ret<|q_then_ret<|q_ret Tryz.results107 (rv_tmp E (rv_tmp E (rv_tmp E rv_nil))) ⟨_, _, _, E, H27⟩) fun c_8 H27 => s_p E (yF (y_geq E E) c_8)<|pk E E E<|mv E E<|s_p E (y_fa E E)<|gx H27 fun t_11 ht_11 H28 => s_v E (y_ld E) (hc_V 0 E ht_11)<|s_p E (y_len E)<|iteK H28 (fun c_9 H29 => ceT E E E (c_9)<|pk E E E<|nx<|c_t E E<|csr<|gv E E<|gv E E<|gv E E<|nx<|c_ret<|q_then_ret<|q_ret Tryz.results107 (rv_tmp E (rv_tmp E (rv_tmp E rv_nil))) ⟨_, _, _, E, H29⟩) fun c_9 H29 => ceF E E E (c_9)<|pk E E E<|nx<|cfs E E<|hJx_2 () _ _ _ _ [0] H29 E ⟨E, E, E, True.intro⟩ E)
def b_table_Table_Map (S : Mem) (t : List Value) (s : Pt) (page : Int) (frame : Int) (write : Bool) (Q : Int → Mem → Prop) : Prop :=
 t.length = 2 ∧
 table_Table_leaf S t s page fun t_1 t_2 t_3 Sx =>
 jn (fun (Sx_1 : Mem) =>
 gI (nthL t 0) .i64 fun t_4 =>
 table_Pack Sx_1 t_4 ([.bool true, .int .i64 frame, .bool write]) fun t_5 Sx_2 =>
 store_Store_Save Sx_2 s t_1 t_2 t_5 fun t_6 Sx_3 =>
 Q t_6 Sx_3) fun Jx =>
 if t_3 ≠ 0 then
 Q t_3 Sx
 else
 if frame < 0 then
 Q 1 Sx
 else
 store_Store_Frames Sx s fun t_7 Sx_4 =>
 if t_7 ≤ frame then
 Q 1 Sx_4
 else
 Jx Sx_4
theorem t_table_Table_Map {S : Mem} {t : List Value} {s : Pt} {page : Int} {frame : Int} {write : Bool} {Q : Int → Mem → Prop} (H : b_table_Table_Map S t s page frame write Q) : table_Table_Map S t s page frame write Q := by
 unfold b_table_Table_Map at H
 exact Tr.intro Tryz.func53 E Tryz.ntmps53 E fun w0 => an H fun ht H1 => csr<|s_box E E E fun b => gv E E<|nxr<|by refine s_v E (y_ldA E ht) (hc_VP (k := 2) 0 E (lpart_all ht)) ?_; exact mv E E<|mv E E<|s_k3 E E H1 fun t_1 t_2 t_3 Sx H2 => mv E E<|s_p E (y_extract E E)<|s_p E (y_extract E E)<|s_p E (y_extract E E)<|gv E E<|gv E E<|gv E E<|nx<|c_join2 H2 (fun (J : Mem → Prop) (z : Unit) S => J S) (fun z => ⟨45, [(1, eP s), (3, .int .i64 frame), (4, .bool write), (5, .pointer (some ⟨b, 0, none⟩)), (11, .int .i64 t_1), (12, .int .i64 t_2)]⟩) (fun z => [⟨b, 63, t⟩]) (fun _ Sx_1 H3 => csr<|mv E E<|mv E E<|mv E E<|s_p E (y_fa E E)<|gx H3 fun t_4 ht_4 H4 => s_v E (y_ld E) (hc_V 0 E ht_4)<|mv E E<|mv E E<|s_p E (y_build E E)<|by exact s_k1 E E H4 fun t_5 Sx_2 H5 => s_k1 E E H5 fun t_6 Sx_3 H6 => gv E E<|nx<|c_ret<|q_ret Tryz.results53 (rv_tmp E rv_nil) ⟨_, E, H6⟩) (fun Jx hJx H7 => c_block<|csr<|mv E E<|iteK H7 (fun c H8 => s_p E (yT (y_neq E E) c)<|gv E E<|nx<|c_t E E<|csr<|mv E E<|gv E E<|nx<|c_ret<|q_blk_ret<|q_then_ret<|q_ret Tryz.results53 (rv_tmp E rv_nil) ⟨_, E, H8⟩) fun c H8 => s_p E (yF (y_neq E E) c)<|gv E E<|nx<|c_f E E<|csr<|mv E E<|iteK H8 (fun c_1 H9 => s_p E (yT (y_lss E E) c_1)<|mv E E<|sk4 E E E E<|pk E E E<|gv E E<|nx<|c_t E E<|csr<|gv E E<|nx<|c_ret<|q_blk_ret<|q_then_ret<|q_ret Tryz.results53 (rv_tmp E rv_nil) ⟨_, E, H9⟩) fun c_1 H9 => s_p E (yF (y_lss E E) c_1)<|mv E E<|mv E E<|mv E E<|s_k1 E E H9 fun t_7 Sx_4 H10 => iteK H10 (fun c_2 H11 => s_p E (yT (y_geq E E) c_2)<|pk E E E<|gv E E<|nx<|c_t E E<|csr<|gv E E<|nx<|c_ret<|q_blk_ret<|q_then_ret<|q_ret Tryz.results53 (rv_tmp E rv_nil) ⟨_, E, H11⟩) fun c_2 H11 => s_p E (yF (y_geq E E) c_2)<|pk E E E<|gv E E<|nx<|cfs E E<|q_blk<|hJx () _ _ _ _ [0] H11 E ⟨E, E, E, E, E, E, True.intro⟩ E)
def b_table_Table_Unmap (S : Mem) (t : List Value) (s : Pt) (page : Int) (Q : Int → Mem → Prop) : Prop :=
 t.length = 2 ∧
 table_Table_leaf S t s page fun t_1 t_2 t_3 Sx =>
 if t_3 ≠ 0 then
 Q t_3 Sx
 else
 store_Store_Save Sx s t_1 t_2 0 fun t_4 Sx_1 =>
 Q t_4 Sx_1
theorem t_table_Table_Unmap {S : Mem} {t : List Value} {s : Pt} {page : Int} {Q : Int → Mem → Prop} (H : b_table_Table_Unmap S t s page Q) : table_Table_Unmap S t s page Q := by
 unfold b_table_Table_Unmap at H
 exact Tr.intro Tryz.func214 E Tryz.ntmps214 E fun w0 => an H fun ht H1 => csr<|s_box E E E fun b => gv E E<|nxr<|by refine s_v E (y_ldA E ht) (hc_VP (k := 2) 0 E (lpart_all ht)) ?_; exact mv E E<|mv E E<|s_k3 E E H1 fun t_1 t_2 t_3 Sx H2 => mv E E<|s_p E (y_extract E E)<|s_p E (y_extract E E)<|s_p E (y_extract E E)<|gv E E<|gv E E<|gv E E<|nx<|c_seq<|csr<|mv E E<|iteK H2 (fun c H3 => s_p E (yT (y_neq E E) c)<|nx<|c_t E E<|csr<|mv E E<|gv E E<|nx<|c_ret<|q_then_ret<|q_ret Tryz.results214 (rv_tmp E rv_nil) ⟨_, E, H3⟩) fun c H3 => s_p E (yF (y_neq E E) c)<|nx<|cfs E E<|q_then<|csr<|mv E E<|mv E E<|mv E E<|s_k1 E E H3 fun t_4 Sx_1 H4 => gv E E<|nx<|c_ret<|q_ret Tryz.results214 (rv_tmp E rv_nil) ⟨_, E, H4⟩
def b_table_Table_Walk (S : Mem) (t : List Value) (s : Pt) (page : Int) (Q : List Value → Int → Mem → Prop) : Prop :=
 t.length = 2 ∧
 table_Table_leaf S t s page fun t_1 t_2 t_3 Sx =>
 jn (fun (v : List Value) (Sx_1 : Mem) =>
 v.length = 3 ∧
 store_Store_Load Sx_1 s t_1 t_2 fun t_4 t_5 Sx_2 =>
 gI (nthL t 0) .i64 fun t_6 =>
 table_Unpack Sx_2 t_6 t_4 fun t_7 t_8 Sx_3 =>
 if t_8 = true then
 t_7.all (·.oneCell') = true ∧
 if t_5 ≠ 0 then
 Q ([.bool false, .int .i64 0, .bool false]) 11 Sx_3
 else
 gB (nthL t_7 0) fun t_9 =>
 if t_9 = true then
 t_7.all (·.oneCell') = true ∧
 Q t_7 0 Sx_3
 else
 Q ([.bool false, .int .i64 0, .bool false]) 11 Sx_3
 else
 t_7.all (·.oneCell') = true ∧
 if t_5 ≠ 0 then
 Q ([.bool false, .int .i64 0, .bool false]) 11 Sx_3
 else
 Q ([.bool false, .int .i64 0, .bool false]) 11 Sx_3) fun Jx =>
 if t_3 ≠ 0 then
 Q ([.bool false, .int .i64 0, .bool false]) t_3 Sx
 else
 Jx ([.bool false, .int .i64 0, .bool false]) Sx
theorem t_table_Table_Walk {S : Mem} {t : List Value} {s : Pt} {page : Int} {Q : List Value → Int → Mem → Prop} (H : b_table_Table_Walk S t s page Q) : table_Table_Walk S t s page Q := by
 unfold b_table_Table_Walk at H
 exact Tr.intro Tryz.func52 E Tryz.ntmps52 E fun w0 => an H fun ht H1 => csr<|s_box E E E fun b => by refine s_alloc E fun b_1 => ?_; exact gv E E<|nxr<|by refine s_v E (y_ldA E ht) (hc_VP (k := 2) 0 E (lpart_all ht)) ?_; exact mv E E<|mv E E<|s_k3 E E H1 fun t_1 t_2 t_3 Sx H2 => mv E E<|s_p E (y_extract E E)<|s_p E (y_extract E E)<|s_p E (y_extract E E)<|gv E E<|gv E E<|gv E E<|nx<|c_join2 H2 (fun (J : List Value → Mem → Prop) (z : List Value) S => J z S) (fun z => ⟨53, [(1, eP s), (3, .pointer (some ⟨b, 0, none⟩)), (6, .pointer (some ⟨b_1, 0, none⟩)), (8, .int .i64 t_1), (9, .int .i64 t_2)]⟩) (fun z => [⟨b, 63, t⟩, ⟨b_1, 111, z⟩]) (fun v Sx_1 H3 => an H3 fun hv H4 => csr<|mv E E<|mv E E<|mv E E<|s_k2 E E H4 fun t_4 t_5 Sx_2 H5 => mv E E<|s_p E (y_extract E E)<|s_p E (y_extract E E)<|gv E E<|gv E E<|nxr<|s_p E (y_fa E E)<|gx H5 fun t_6 ht_6 H6 => s_v E (y_ld E) (hc_V 0 E ht_6)<|mv E E<|s_call E E H6 fun rv Sx_3 H7 => by obtain ⟨t_7, t_8, rfl, ht_7, H8⟩ := H7; exact mv E E<|s_p E (y_extract E E)<|iteK H8 (fun c H9 => s_p E (yB (y_extract E E) c)<|by refine s_alloc E fun b_2 => ?_; exact an H9 fun c_1 H10 => s_stV_all 2 E E E E E ht_7 E c_1<|gv E E<|nx<|c_seq<|csr<|mv E E<|iteK H10 (fun c_2 H11 => s_p E (yT (y_neq E E) c_2)<|mv E E<|sk2 E E<|pk E E E<|mv E E<|sk2 E E<|s_skip E<|pk E E E<|nx<|c_t E E<|csr<|s_p E (y_build E E)<|by exact s_stV_all 1 E E E E E E hv E<|gv E E<|nx<|c_ret<|q_then_ret<|q_ret Tryz.results52 (rv_cellA E (hc_VP (k := 3) 1 E E) E (rv_tmp E rv_nil)) ⟨_, _, E, E, H11⟩) fun c_2 H11 => s_p E (yF (y_neq E E) c_2)<|mv E E<|mv E E<|s_p E (yB (y_not E) E)<|pk E E E<|mv E E<|s_p E (y_fa E E)<|gx H11 fun t_9 ht_9 H12 => by have H13 := ib_e H12; rcases H13 with ⟨rfl, H14⟩ | ⟨rfl, H14⟩; exact (s_v E (y_ld E) (hc_V 2 E ht_9)<|s_p E (yB (y_not E) E)<|pk E E E<|nx<|cfs E E<|q_then<|csr<|by refine s_v E (y_ldA E ht_7) (hc_VP (k := 3) 2 E (lpart_all ht_7)) ?_; exact an H14 fun c_3 H15 => s_stV_all 1 E E E E E ht_7 hv c_3<|gv E E<|nx<|c_ret<|q_ret Tryz.results52 (rv_cellA E (hc_VP (k := 3) 1 E (lpart_all ht_7)) ht_7 (rv_tmp E rv_nil)) ⟨_, _, E, ht_7, H15⟩); exact (s_v E (y_ld E) (hc_V 2 E ht_9)<|s_p E (yB (y_not E) E)<|pk E E E<|nx<|c_t E E<|csr<|s_p E (y_build E E)<|by exact s_stV_all 1 E E E E E E hv E<|gv E E<|nx<|c_ret<|q_then_ret<|q_ret Tryz.results52 (rv_cellA E (hc_VP (k := 3) 1 E E) E (rv_tmp E rv_nil)) ⟨_, _, E, E, H14⟩)) fun c H9 => s_p E (yB (y_extract E E) (bf_of c))<|by refine s_alloc E fun b_3 => ?_; exact an H9 fun c_4 H16 => s_stV_all 2 E E E E E ht_7 E c_4<|gv E E<|nx<|c_seq<|csr<|mv E E<|iteK H16 (fun c_5 H17 => s_p E (yT (y_neq E E) c_5)<|mv E E<|sk2 E E<|pk E E E<|mv E E<|sk2 E E<|s_skip E<|pk E E E<|nx<|c_t E E<|csr<|s_p E (y_build E E)<|by exact s_stV_all 1 E E E E E E hv E<|gv E E<|nx<|c_ret<|q_then_ret<|q_ret Tryz.results52 (rv_cellA E (hc_VP (k := 3) 1 E E) E (rv_tmp E rv_nil)) ⟨_, _, E, E, H17⟩) fun c_5 H17 => s_p E (yF (y_neq E E) c_5)<|mv E E<|mv E E<|s_p E (yB (y_not E) E)<|pk E E E<|mv E E<|sk2 E E<|s_skip E<|pk E E E<|nx<|c_t E E<|csr<|s_p E (y_build E E)<|by exact s_stV_all 1 E E E E E E hv E<|gv E E<|nx<|c_ret<|q_then_ret<|q_ret Tryz.results52 (rv_cellA E (hc_VP (k := 3) 1 E E) E (rv_tmp E rv_nil)) ⟨_, _, E, E, H17⟩) (fun Jx hJx H18 => csr<|mv E E<|iteK H18 (fun c_6 H19 => s_p E (yT (y_neq E E) c_6)<|nx<|c_t E E<|csr<|s_p E (y_build E E)<|by exact mv E E<|s_stV (sz := 3) (vs := [.bool false, .int .i64 0, .bool false]) 1 E E E E E E (Nat.le_of_ble_eq_true E) E<|gv E E<|nx<|c_ret<|q_then_ret<|q_ret Tryz.results52 (rv_cellA E (hc_VP (k := 3) 1 E E) E (rv_tmp E rv_nil)) ⟨_, _, E, E, H19⟩) fun c_6 H19 => s_p E (yF (y_neq E E) c_6)<|nx<|cfs E E<|hJx ([.bool false, .int .i64 0, .bool false]) _ _ _ _ [0, 0] H19 E ⟨E, E, E, E, E, True.intro⟩ E)
def b_table_Make (S : Mem) (s : Pt) (form : Int) (frames : Sl) (Q : List Value → Int → Mem → Prop) : Prop :=
 jn (fun (v : List Value) (Sx : Mem) =>
 v.length = 2 ∧
 jn (fun (v_1 : List Value) (Sx_1 : Mem) =>
 v_1.length = 2 ∧
 jn (fun (Sx_2 : Mem) =>
 sp Sx_2 frames 1 fun vs =>
 ap Sx_2 3 1 8 [.int .i64 0] (⟨none, 0, 0⟩) frames.n vs fun t Sx_3 =>
 Q ([.int .i64 form, eL t]) 0 Sx_3) fun Jx =>
 (0 : Int) ≤ 1 ∧ (1 : Int) ≤ (frames.n : Int) ∧ (frames.n : Int) ≤ (frames.c : Int) ∧
 lt (slc 1 frames 1 (frames.n : Int)) fun t_1 =>
 lp (fun Xx (t_2 : Int) (Sx_4 : Mem) =>
 if t_2 < (t_1.n : Int) then
 sl t_1 fun b_1 o n n_1 =>
 0 ≤ t_2 ∧ t_2 < ((n : Nat) : Int) ∧
 gI (Sx_4.cell b_1 (o + t_2.toNat * 1)) .i64 fun t_3 =>
 sl frames fun b_2 o_1 n_2 n_3 =>
 (0 : Int) < (n_2 : Nat) ∧
 gI (Sx_4.cell b_2 o_1) .i64 fun t_4 =>
 table_Pack Sx_4 form ([.bool true, .int .i64 t_3, .bool true]) fun t_5 Sx_5 =>
 Sx_5.cell b_2 o_1 = some (.int .i64 t_4) ∧
 store_Store_Save Sx_5 s t_4 t_2 t_5 fun t_6 Sx_6 =>
 Xx (IntKind.i64.wrap (t_2 + 1)) Sx_6
 else
 Jx Sx_4) 0 Sx_1) fun Jx_1 =>
 lp (fun Xx_1 (z : Int × List Value) (Sx_7 : Mem) =>
 match z with
 | (t_7, v_2) =>
 v_2.length = 2 ∧
 if t_7 < (frames.n : Int) then
 sl frames fun b_3 o_2 n_4 n_5 =>
 0 ≤ t_7 ∧ t_7 < ((n_4 : Nat) : Int) ∧
 gI (Sx_7.cell b_3 (o_2 + t_7.toNat * 1)) .i64 fun t_8 =>
 store_Store_Clear Sx_7 s t_8 fun t_9 Sx_8 =>
 if t_9 ≠ 0 then
 Q ([.int .i64 0, .slice (none) 0 0]) t_9 Sx_8
 else
 Xx_1 (IntKind.i64.wrap (t_7 + 1), v_2) Sx_8
 else
 Jx_1 v_2 Sx_7) (0, v) Sx) fun Jx_2 =>
 if (frames.n : Int) ≠ 5 then
 Q ([.int .i64 0, .slice (none) 0 0]) 1 S
 else
 if form ≠ 1 then
 if form ≠ 2 then
 Q ([.int .i64 0, .slice (none) 0 0]) 1 S
 else
 Jx_2 ([.int .i64 0, .slice (none) 0 0]) S
 else
 Jx_2 ([.int .i64 0, .slice (none) 0 0]) S
theorem t_table_Make {S : Mem} {s : Pt} {form : Int} {frames : Sl} {Q : List Value → Int → Mem → Prop} (H : b_table_Make S s form frames Q) : table_Make S s form frames Q := by
 unfold b_table_Make at H
 exact Tr.intro Tryz.func74 E Tryz.ntmps74 E fun w0 => csr<|by refine s_alloc E fun b => ?_; exact gv E E<|nx<|c_join2 H (fun (J : List Value → Mem → Prop) (z : List Value) S => J z S) (fun z => ⟨62, [(0, eP s), (1, .int .i64 form), (2, eL frames), (6, .pointer (some ⟨b, 0, none⟩))]⟩) (fun z => [⟨b, 63, z⟩]) (fun v Sx H1 => an H1 fun hv H2 => c_join2 H2 (fun (J : List Value → Mem → Prop) (z : List Value) S => J z S) (fun z => ⟨62, [(0, eP s), (1, .int .i64 form), (2, eL frames), (6, .pointer (some ⟨b, 0, none⟩))]⟩) (fun z => [⟨b, 63, z⟩]) (fun v_1 Sx_1 H3 => an H3 fun hv_1 H4 => c_join2 H4 (fun (J : Mem → Prop) (z : Unit) S => J S) (fun z => ⟨62, [(1, .int .i64 form), (2, eL frames), (6, .pointer (some ⟨b, 0, none⟩))]⟩) (fun z => [⟨b, 63, v_1⟩]) (fun _ Sx_2 H5 => csr<|mv E E<|mv E E<|by obtain ⟨vs, h, c, H6⟩ := H5; exact s_app (sx := ⟨none, 0, 0⟩) (vs := vs) E E E ((fc_sp h).1) ((fc_sp (P := Tryz.prog) (w0 := w0) (S0 := S) (V := []) h).2) c (by decide) H6 fun t Sx_3 H7 => s_p E (y_build E E)<|by exact s_stV_all 0 E E E E E E hv_1 E<|gv E E<|nx<|c_ret<|q_ret Tryz.results74 (rv_cellA E (hc_VP (k := 2) 0 E E) E (rv_tmp E rv_nil)) ⟨_, _, E, E, H7⟩) (fun Jx hJx H8 => csr<|mv E E<|an3 H8 fun c_1 c_2 c_3 H9 => by obtain ⟨t_1, et_1, H10⟩ := lt_e H9; exact s_p E (eqv (y_slc (a := 1) (b := (frames.n : Int)) E E E c_1 c_2 c_3) (congrArg eL et_1))<|s_p E (y_len E)<|mv E E<|nx<|c_block<|c_loop (fun z => ⟨62, [(0, eP s), (1, .int .i64 form), (2, eL frames), (6, .pointer (some ⟨b, 0, none⟩)), (40, eL t_1), (41, .int .i64 (t_1.n : Int)), (42, .int .i64 z)]⟩) (fun z => [⟨b, 63, v_1⟩]) 0 (idx := [0]) H10 E ⟨E, E, E, E, E, E, E, True.intro⟩ E<|fun Xx hXx t_2 Sx_4 H11 => csr<|iteK H11 (fun c_4 H12 => s_p E (yT (y_lss E E) c_4)<|nx<|c_seq<|c_t E E<|c_skip<|q_then<|c_seq<|c_block<|csr<|mv E E<|by obtain ⟨b_1, o, n, n_1, rfl, H13⟩ := H12; exact an2 H13 fun c_5 c_6 H14 => s_p E (y_ixL E E c_5 c_6 E)<|gx H14 fun t_3 ht_3 H15 => s_v E (y_ld E) (hc_S ht_3)<|gv E E<|gv E E<|nx<|c_drawn (by kernel_rfl)<|a_takeP 0 E (by decide +kernel) (np_blk (np_then (np_then (np_blk (np_then np_body))))) E (y_move E)<|by exact a_takeP 1 E (by decide +kernel) (np_blk (np_then (np_then (np_blk (np_then np_body))))) E (y_move E)<|by exact by obtain ⟨b_2, o_1, n_2, n_3, rfl, H16⟩ := H15; exact an H16 fun c_8 H17 => a_takeP 2 E (by decide +kernel) (np_blk (np_then (np_then (np_blk (np_then np_body))))) E (y_ixL E E (by decide) c_8 E)<|by exact gx H17 fun t_4 ht_4 H18 => a_take 3 E (by decide +kernel) (np_blk (np_then (np_then (np_blk (np_then np_body))))) E (y_ld E) (hc_S ht_4)<|by exact a_takeP 4 E (by decide +kernel) (np_blk (np_then (np_then (np_blk (np_then np_body))))) E (y_move E)<|by exact a_takeP 5 E (by decide +kernel) (np_blk (np_then (np_then (np_blk (np_then np_body))))) E (y_move E)<|by exact a_takeP 6 E (by decide +kernel) (np_blk (np_then (np_then (np_blk (np_then np_body))))) E (y_move E)<|by exact a_takeP 7 E (by decide +kernel) (np_blk (np_then (np_then (np_blk (np_then np_body))))) E (y_build E E)<|by exact a_step 8 (by decide +kernel) E<|by exact s_k1 E E H18 fun t_5 Sx_5 H19 => by obtain ⟨k, H20⟩ := H19; exact s_nil<|q_any (ac_cons (hc_S k) ac_nil)<|a_step 9 (by decide +kernel) E<|by exact s_k1 E E H20 fun t_6 Sx_6 H21 => s_nil<|q_any ac_nil<|a_done (by decide +kernel)<|by exact q_blk<|q_then<|c_region<|s_p E (y_add E E)<|mv E E<|s_nil<|hXx (IntKind.i64.wrap (t_2 + 1)) _ _ _ _ [0] H21 E ⟨E, E, E, E, E, E, E, True.intro⟩ E) fun c_4 H12 => s_p E (yF (y_lss E E) c_4)<|nx<|c_seq<|c_f E E<|c_exit<|q_then_exit<|q_then_exit<|q_blk_out<|hJx () _ _ _ _ [0] H12 E ⟨E, E, E, True.intro⟩ E)) (fun Jx_1 hJx_1 H22 => csr<|mv E E<|s_p E (y_len E)<|mv E E<|nx<|c_block<|c_loop (fun z => ⟨62, [(0, eP s), (1, .int .i64 form), (2, eL frames), (6, .pointer (some ⟨b, 0, none⟩)), (25, eL frames), (26, .int .i64 (frames.n : Int)), (27, .int .i64 z.1)]⟩) (fun z => [⟨b, 63, z.2⟩]) (0, v) (idx := [0]) H22 E ⟨E, E, E, E, E, E, E, True.intro⟩ E<|by rintro Xx_1 hXx_1 ⟨t_7, v_2⟩ Sx_7 H23; exact an H23 fun hv_2 H24 => csr<|iteK H24 (fun c_9 H25 => s_p E (yT (y_lss E E) c_9)<|nx<|c_seq<|c_t E E<|c_skip<|q_then<|c_seq<|c_block<|csr<|by obtain ⟨b_3, o_2, n_4, n_5, rfl, H26⟩ := H25; exact an2 H26 fun c_10 c_11 H27 => s_p E (y_ixL E E c_10 c_11 E)<|gx H27 fun t_8 ht_8 H28 => s_v E (y_ld E) (hc_S ht_8)<|gv E E<|nxr<|mv E E<|mv E E<|s_k1 E E H28 fun t_9 Sx_8 H29 => gv E E<|nxr<|mv E E<|iteK H29 (fun c_12 H30 => s_p E (yT (y_neq E E) c_12)<|nx<|c_t E E<|csr<|s_p E (y_build E E)<|by exact mv E E<|s_stV_all 0 E E E E E E hv_2 E<|gv E E<|nx<|c_ret<|q_blk_ret<|q_then_ret<|q_then_ret<|q_blk_ret<|q_then_ret<|q_ret Tryz.results74 (rv_cellA E (hc_VP (k := 2) 0 E E) E (rv_tmp E rv_nil)) ⟨_, _, E, E, H30⟩) fun c_12 H30 => s_p E (yF (y_neq E E) c_12)<|nx<|cfs E E<|q_blk<|q_then<|c_region<|s_p E (y_add E E)<|mv E E<|s_nil<|hXx_1 (IntKind.i64.wrap (t_7 + 1), v_2) _ _ _ _ [0] H30 E ⟨E, E, E, E, E, E, E, True.intro⟩ E) fun c_9 H25 => s_p E (yF (y_lss E E) c_9)<|nx<|c_seq<|c_f E E<|c_exit<|q_then_exit<|q_then_exit<|q_blk_out<|hJx_1 v_2 _ _ _ _ [0] H25 E ⟨E, E, E, E, True.intro⟩ E)) (fun Jx_2 hJx_2 H31 => csr<|mv E E<|s_p E (y_len E)<|iteK H31 (fun c_13 H32 => s_p E (yT (y_neq E E) c_13)<|mv E E<|sk4 E E E E<|sk2 E E<|pk E E E<|nx<|c_t E E<|csr<|s_p E (y_build E E)<|by exact s_stV (sz := 2) (vs := [.int .i64 0, .slice (none) 0 0]) 0 E E E E E E (Nat.le_of_ble_eq_true E) E<|gv E E<|nx<|c_ret<|q_then_ret<|q_ret Tryz.results74 (rv_cellA E (hc_VP (k := 2) 0 E E) E (rv_tmp E rv_nil)) ⟨_, _, E, E, H32⟩) fun c_13 H32 => s_p E (yF (y_neq E E) c_13)<|mv E E<|mv E E<|iteK H32 (fun c_14 H33 => s_p E (yT (y_neq E E) c_14)<|mv E E<|mv E E<|iteK H33 (fun c_15 H34 => s_p E (yT (y_neq E E) c_15)<|pk E E E<|pk E E E<|nx<|c_t E E<|csr<|s_p E (y_build E E)<|by exact s_stV (sz := 2) (vs := [.int .i64 0, .slice (none) 0 0]) 0 E E E E E E (Nat.le_of_ble_eq_true E) E<|gv E E<|nx<|c_ret<|q_then_ret<|q_ret Tryz.results74 (rv_cellA E (hc_VP (k := 2) 0 E E) E (rv_tmp E rv_nil)) ⟨_, _, E, E, H34⟩) fun c_15 H34 => s_p E (yF (y_neq E E) c_15)<|pk E E E<|pk E E E<|nx<|cfs E E<|hJx_2 ([.int .i64 0, .slice (none) 0 0]) _ _ _ _ [0] H34 E ⟨E, E, E, E, True.intro⟩ E) fun c_14 H33 => s_p E (yF (y_neq E E) c_14)<|mv E E<|sk2 E E<|pk E E E<|pk E E E<|nx<|cfs E E<|hJx_2 ([.int .i64 0, .slice (none) 0 0]) _ _ _ _ [0] H33 E ⟨E, E, E, E, True.intro⟩ E)
end Go.Proofs.YtabdpmnhjlmnlaaGreatDoor
end
