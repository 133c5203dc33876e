/- Texts of this work,joined by program (pack.py): PsK,PsI,PsJ. -/
import Derived.Test.YtabdpmnhjlmnlaaGreatDoorQPC
set_option linter.unusedVariables false
section
namespace Go.Proofs.YtabdpmnhjlmnlaaGreatDoor
open Go Go.Pt
attribute [local irreducible] Code.wp Back bodyPost wpList FR WL WC WQ WA AW Tr Yc HC AllC
set_option maxRecDepth 20000
set_option maxHeartbeats 4000000
set_option linter.unusedVariables false
def b_crab_Crab_Events (S:Mem) (h:Pt) (vm:Int) (Q:Sl→Mem→Prop):Prop:=
 jn (fun (Sx:Mem)=>
 nn h fun b o=>
 0≤vm∧vm<6 ∧
 gL (Sx.cell b (o+5+vm.toNat*1)) fun t=>
 sp Sx t 4 fun vs=>
 ap Sx 45 4 32 [.int .u8 0,.int .i64 0,.int .u64 0,.int .u64 0] (⟨none,0,0⟩) t.n vs fun t_1 Sx_1=>
 Q t_1 Sx_1) fun Jx=>
 if h=none then
 Q (⟨none,0,0⟩) S
 else
 if vm<0 then
 Q (⟨none,0,0⟩) S
 else
 if 6≤vm then
 Q (⟨none,0,0⟩) S
 else
 Jx S
theorem t_crab_Crab_Events {S:Mem} {h:Pt} {vm:Int} {Q:Sl→Mem→Prop} (H:b_crab_Crab_Events S h vm Q):crab_Crab_Events S h vm Q:=by
 unfold b_crab_Crab_Events at H
 exact Tr.intro Tryz.func32 E Tryz.ntmps32 E fun w0=>csr<|gv E E<|nx<|c_join2 H (fun (J:Mem→Prop) (z:Unit) S=>J S) (fun z=>⟨22,[(0,eP h),(1,.int .i64 vm)]⟩) (fun z=>[]) (fun _ Sx H1=>csr<|mv E E<|mv E E<|by obtain⟨b,o,rfl,H2⟩:=H1;exact s_p E (y_nc E)<|s_p E (y_fa E E)<|an2 H2 fun c c_1 H3=>s_p E (y_ixA E E c c_1 E)<|gx H3 fun t ht H4=>s_v E (y_ld E) (hc_S ht)<|by obtain⟨vs,h_1,c_2,H5⟩:=H4;exact s_app (sx:=⟨none,0,0⟩) (vs:=vs) E E E ((fc_sp h_1).1) ((fc_sp (P:=Tryz.prog) (w0:=w0) (S0:=S) (V:=[]) h_1).2) c_2 (by decide) H5 fun t_1 Sx_1 H6=>gv E E<|nx<|c_ret<|q_ret Tryz.results32 (rv_tmp E rv_nil) ⟨_,E,H6⟩) (fun Jx hJx H7=>csr<|mv E E<|iteK H7 (fun c_3 H8=>s_p E (yT (y_pnil (p:=h) E E) c_3)<|mv E E<|sk2 E E<|pk E E E<|mv E E<|sk2 E E<|pk E E E<|nx<|c_t E E<|csr<|gv E E<|nx<|c_ret<|q_then_ret<|q_ret Tryz.results32 (rv_tmp E rv_nil) ⟨_,E,H8⟩) fun c_3 H8=>s_p E (yF (y_pnil (p:=h) E E) c_3)<|mv E E<|mv E E<|iteK H8 (fun c_4 H9=>s_p E (yT (y_lss E E) c_4)<|pk E E E<|mv E E<|sk2 E E<|pk E E E<|nx<|c_t E E<|csr<|gv E E<|nx<|c_ret<|q_then_ret<|q_ret Tryz.results32 (rv_tmp E rv_nil) ⟨_,E,H9⟩) fun c_4 H9=>s_p E (yF (y_lss E E) c_4)<|pk E E E<|mv E E<|mv E E<|iteK H9 (fun c_5 H10=>s_p E (yT (y_geq E E) c_5)<|pk E E E<|nx<|c_t E E<|csr<|gv E E<|nx<|c_ret<|q_then_ret<|q_ret Tryz.results32 (rv_tmp E rv_nil) ⟨_,E,H10⟩) fun c_5 H10=>s_p E (yF (y_geq E E) c_5)<|pk E E E<|nx<|cfs E E<|hJx () _ _ _ _ [] H10 E ⟨E,E,True.intro⟩ E)
def b_crab_Crab_Pages (S:Mem) (h:Pt) (vm:Int) (Q:Int→Mem→Prop):Prop:=
 jn (fun (Sx:Mem)=>
 nn h fun b o=>
 gP (Sx.cell b (o+3)) fun t=>
 nn t fun b_1 o_1=>
 gP (Sx.cell b_1 (o_1+74)) fun t_1=>
 owner_Book_Count Sx t_1 3 vm fun t_2 Sx_1=>
 Q t_2 Sx_1) fun Jx=>
 if h=none then
 Q 0 S
 else
 nn h fun b_2 o_2=>
 gP (S.cell b_2 (o_2+3)) fun t_3=>
 guest_State_There S t_3 vm fun t_4 Sx_2=>
 if t_4=true then
 Jx Sx_2
 else
 Q 0 Sx_2
theorem t_crab_Crab_Pages {S:Mem} {h:Pt} {vm:Int} {Q:Int→Mem→Prop} (H:b_crab_Crab_Pages S h vm Q):crab_Crab_Pages S h vm Q:=by
 unfold b_crab_Crab_Pages at H
 exact Tr.intro Tryz.func40 E Tryz.ntmps40 E fun w0=>csr<|gv E E<|nx<|c_join2 H (fun (J:Mem→Prop) (z:Unit) S=>J S) (fun z=>⟨25,[(0,eP h),(1,.int .i64 vm)]⟩) (fun z=>[]) (fun _ Sx H1=>csr<|mv E E<|by obtain⟨b,o,rfl,H2⟩:=H1;exact s_p E (y_nc E)<|s_p E (y_fa E E)<|gx H2 fun t ht H3=>s_v E (y_ld E) (hc_S ht)<|by obtain⟨b_1,o_1,rfl,H4⟩:=H3;exact s_p E (y_nc E)<|s_p E (y_fa E E)<|gx H4 fun t_1 ht_1 H5=>s_v E (y_ld E) (hc_S ht_1)<|mv E E<|s_k1 E E H5 fun t_2 Sx_1 H6=>gv E E<|nx<|c_ret<|q_ret Tryz.results40 (rv_tmp E rv_nil) ⟨_,E,H6⟩) (fun Jx hJx H7=>csr<|mv E E<|iteK H7 (fun c H8=>s_p E (yT (y_pnil (p:=h) E E) c)<|mv E E<|sk4 E E E E<|sk2 E E<|s_skip E<|pk E E E<|nx<|c_t E E<|csr<|gv E E<|nx<|c_ret<|q_then_ret<|q_ret Tryz.results40 (rv_tmp E rv_nil) ⟨_,E,H8⟩) fun c H8=>s_p E (yF (y_pnil (p:=h) E E) c)<|mv E E<|mv E E<|by obtain⟨b_2,o_2,rfl,H9⟩:=H8;exact s_p E (y_nc E)<|s_p E (y_fa E E)<|gx H9 fun t_3 ht_3 H10=>s_v E (y_ld E) (hc_S ht_3)<|mv E E<|s_k1 E E H10 fun t_4 Sx_2 H11=>by have H12:=ib_e H11;rcases H12 with ⟨rfl,H13⟩ | ⟨rfl,H13⟩;exact (s_p E (yB (y_not E) E)<|pk E E E<|nx<|cfs E E<|hJx () _ _ _ _ [] H13 E ⟨E,E,True.intro⟩ E);exact (s_p E (yB (y_not E) E)<|pk E E E<|nx<|c_t E E<|csr<|gv E E<|nx<|c_ret<|q_then_ret<|q_ret Tryz.results40 (rv_tmp E rv_nil) ⟨_,E,H13⟩))
def b_crab_Crab_mine (S:Mem) (h:Pt) (vm:Int) (page:Int) (Q:Int→Int→Mem→Prop):Prop:=
 nn h fun b o=>
 gP (S.cell b (o+3)) fun t=>
 nn t fun b_1 o_1=>
 0≤vm∧vm<6 ∧
 gA (S.part b_1 (o_1+2+vm.toNat*12+2) 2) fun t_1=>
 gP (S.cell b o) fun t_2=>
 table_Table_Walk S t_1 t_2 page fun t_3 t_4 Sx=>
 Sx.cell b (o+3)=some (.pointer (some ⟨b_1,o_1,none⟩)) ∧
 t_3.all (·.oneCell')=true ∧
 if t_4≠0 then
 Q 0 11 Sx
 else
 gP (Sx.cell b (o+3)) fun t_5=>
 nn t_5 fun b_3 o_2=>
 gA (Sx.part b_3 (o_2+75) 96) fun t_6=>
 lease_Book_At Sx t_6 vm page fun t_7 Sx_1=>
 if 0≤t_7 then
 Q 0 7 Sx_1
 else
 gI (nthL t_3 1) .i64 fun t_8=>
 Q t_8 0 Sx_1
theorem t_crab_Crab_mine {S:Mem} {h:Pt} {vm:Int} {page:Int} {Q:Int→Int→Mem→Prop} (H:b_crab_Crab_mine S h vm page Q):crab_Crab_mine S h vm page Q:=by
 unfold b_crab_Crab_mine at H
 exact Tr.intro Tryz.func231 E Tryz.ntmps231 E fun w0=>csr<|gv E E<|gv E E<|nx<|c_seq<|c_drawn (by kernel_rfl)<|aTP 0 E (by decide +kernel) E (y_move E)<|by exact by obtain⟨b,o,rfl,H1⟩:=H;exact aTP 1 E (by decide +kernel) E (y_nc E)<|by exact aTP 2 E (by decide +kernel) E (y_fa E E)<|by exact gx H1 fun t ht H2=>aT 3 E (by decide +kernel) E (y_ld E) (hc_S ht)<|by exact aTP 4 E (by decide +kernel) E (y_move E)<|by exact by obtain⟨b_1,o_1,rfl,H3⟩:=H2;exact aTP 5 E (by decide +kernel) E (y_nc E)<|by exact aTP 6 E (by decide +kernel) E (y_fa E E)<|by exact an2 H3 fun c c_1 H4=>aTP 7 E (by decide +kernel) E (y_ixA E E c c_1 E)<|by exact aTP 8 E (by decide +kernel) E (y_fa E E)<|by exact gx H4 fun t_1 ht_1 H5=>by refine aT 9 E (by decide +kernel) E (y_ldA E (part_len ht_1)) (hc_SP ht_1) ?_;exact aTP 10 E (by decide +kernel) E (y_move E)<|by exact aTP 11 E (by decide +kernel) E (y_nc E)<|by exact aTP 12 E (by decide +kernel) E (y_fa E E)<|by exact gx H5 fun t_2 ht_2 H6=>aT 13 E (by decide +kernel) E (y_ld E) (hc_S ht_2)<|by exact aTP 14 E (by decide +kernel) E (y_move E)<|by exact a_step2 15 19 (by decide +kernel) E E (s_call E E H6 fun rv Sx H7=>by obtain⟨t_3,t_4,rfl,ht_3,H8⟩:=H7;exact by obtain⟨k,H9⟩:=H8;exact s_nil<|q_any (ac_cons (hc_S k) ac_nil)<|aTP 16 E (by decide +kernel) E (y_move E)<|by exact aTP 17 E (by decide +kernel) E (y_extract E E)<|by exact aTP 18 E (by decide +kernel) E (y_extract E E)<|by exact a_step 19 (by decide +kernel) E<|by exact by refine s_alloc E fun b_2=>?_;exact s_nil<|q_any (ac_cons (hc_S k) ac_nil)<|a_step 20 (by decide +kernel) E<|by exact an H9 fun c_2 H10=>s_stV_all 0 E E E E E ht_3 E c_2<|s_nil<|q_any ac_nil<|aTP 21 E (by decide +kernel) E (y_assign E)<|by exact a_done (by decide +kernel)<|by exact q_then<|c_seq<|c_block<|csr<|mv E E<|iteK H10 (fun c_3 H11=>s_p E (yT (y_neq E E) c_3)<|gv E E<|nx<|c_t E E<|csr<|gv E E<|gv E E<|nx<|c_ret<|q_blk_ret<|q_then_ret<|q_ret Tryz.results231 (rv_tmp E (rv_tmp E rv_nil)) ⟨_,_,E,H11⟩) fun c_3 H11=>s_p E (yF (y_neq E E) c_3)<|gv E E<|nx<|c_f E E<|csr<|mv E E<|s_p E (y_nc E)<|s_p E (y_fa E E)<|gx H11 fun t_5 ht_5 H12=>s_v E (y_ld E) (hc_S ht_5)<|by obtain⟨b_3,o_2,rfl,H13⟩:=H12;exact s_p E (y_nc E)<|s_p E (y_fa E E)<|gx H13 fun t_6 ht_6 H14=>by refine s_v E (y_ldA E (part_len ht_6)) (hc_SP ht_6) ?_;exact mv E E<|mv E E<|s_k1 E E H14 fun t_7 Sx_1 H15=>iteK H15 (fun c_4 H16=>s_p E (yT (y_geq E E) c_4)<|gv E E<|nx<|c_t E E<|csr<|gv E E<|gv E E<|nx<|c_ret<|q_blk_ret<|q_then_ret<|q_ret Tryz.results231 (rv_tmp E (rv_tmp E rv_nil)) ⟨_,_,E,H16⟩) fun c_4 H16=>s_p E (yF (y_geq E E) c_4)<|gv E E<|nx<|cfs E E<|q_blk<|q_then<|csr<|s_p E (y_fa E E)<|gx H16 fun t_8 ht_8 H17=>s_v E (y_ld E) (hc_V 0 E ht_8)<|gv E E<|gv E E<|nx<|c_ret<|q_ret Tryz.results231 (rv_tmp E (rv_tmp E rv_nil)) ⟨_,_,E,H17⟩) (by refine s_alloc E fun b_2=>?_;exact s_nil<|q_any (ac_cons (hc_S ht_2) (ac_cons (hc_SP ht_1) (ac_cons (hc_S ht) ac_nil)))<|a_step 15 (by decide +kernel) E<|by exact s_call E E H6 fun rv Sx H18=>by obtain⟨t_3,t_4,rfl,ht_3,H19⟩:=H18;exact by obtain⟨k,H20⟩:=H19;exact s_nil<|q_any (ac_cons (hc_S k) ac_nil)<|aTP 16 E (by decide +kernel) E (y_move E)<|by exact aTP 17 E (by decide +kernel) E (y_extract E E)<|by exact aTP 18 E (by decide +kernel) E (y_extract E E)<|by exact a_step 20 (by decide +kernel) E<|by exact an H20 fun c_2 H21=>s_stV_all 0 E E E E E ht_3 E c_2<|s_nil<|q_any ac_nil<|aTP 21 E (by decide +kernel) E (y_assign E)<|by exact a_done (by decide +kernel)<|by exact q_then<|c_seq<|c_block<|csr<|mv E E<|iteK H21 (fun c_3 H22=>s_p E (yT (y_neq E E) c_3)<|gv E E<|nx<|c_t E E<|csr<|gv E E<|gv E E<|nx<|c_ret<|q_blk_ret<|q_then_ret<|q_ret Tryz.results231 (rv_tmp E (rv_tmp E rv_nil)) ⟨_,_,E,H22⟩) fun c_3 H22=>s_p E (yF (y_neq E E) c_3)<|gv E E<|nx<|c_f E E<|csr<|mv E E<|s_p E (y_nc E)<|s_p E (y_fa E E)<|gx H22 fun t_5 ht_5 H23=>s_v E (y_ld E) (hc_S ht_5)<|by obtain⟨b_3,o_2,rfl,H24⟩:=H23;exact s_p E (y_nc E)<|s_p E (y_fa E E)<|gx H24 fun t_6 ht_6 H25=>by refine s_v E (y_ldA E (part_len ht_6)) (hc_SP ht_6) ?_;exact mv E E<|mv E E<|s_k1 E E H25 fun t_7 Sx_1 H26=>iteK H26 (fun c_4 H27=>s_p E (yT (y_geq E E) c_4)<|gv E E<|nx<|c_t E E<|csr<|gv E E<|gv E E<|nx<|c_ret<|q_blk_ret<|q_then_ret<|q_ret Tryz.results231 (rv_tmp E (rv_tmp E rv_nil)) ⟨_,_,E,H27⟩) fun c_4 H27=>s_p E (yF (y_geq E E) c_4)<|gv E E<|nx<|cfs E E<|q_blk<|q_then<|csr<|s_p E (y_fa E E)<|gx H27 fun t_8 ht_8 H28=>s_v E (y_ld E) (hc_V 0 E ht_8)<|gv E E<|gv E E<|nx<|c_ret<|q_ret Tryz.results231 (rv_tmp E (rv_tmp E rv_nil)) ⟨_,_,E,H28⟩)
def b_crab_Crab_own (S:Mem) (h:Pt) (vm:Int) (page:Int) (frame:Int) (Q:Mem→Prop):Prop:=
 nn h fun b o=>
 gP (S.cell b o) fun t=>
 store_Store_Clear S t frame fun t_1 Sx=>
 gP (Sx.cell b (o+3)) fun t_2=>
 nn t_2 fun b_1 o_1=>
 gP (Sx.cell b_1 (o_1+74)) fun t_3=>
 owner_Book_Donate Sx t_3 frame vm page fun t_4 Sx_1=>
 crab_Crab_set Sx_1 (some (b,o)) vm page frame true fun Sx_2=>
 Q Sx_2
theorem t_crab_Crab_own {S:Mem} {h:Pt} {vm:Int} {page:Int} {frame:Int} {Q:Mem→Prop} (H:b_crab_Crab_own S h vm page frame Q):crab_Crab_own S h vm page frame Q:=by
 unfold b_crab_Crab_own at H
 exact Tr.intro Tryz.func75 E Tryz.ntmps75 E fun w0=>csr<|mv E E<|by obtain⟨b,o,rfl,H1⟩:=H;exact s_p E (y_nc E)<|s_p E (y_fa E E)<|gx H1 fun t ht H2=>s_v E (y_ld E) (hc_S ht)<|mv E E<|s_k1 E E H2 fun t_1 Sx H3=>nxr<|mv E E<|s_p E (y_nc E)<|s_p E (y_fa E E)<|gx H3 fun t_2 ht_2 H4=>s_v E (y_ld E) (hc_S ht_2)<|by obtain⟨b_1,o_1,rfl,H5⟩:=H4;exact s_p E (y_nc E)<|s_p E (y_fa E E)<|gx H5 fun t_3 ht_3 H6=>s_v E (y_ld E) (hc_S ht_3)<|mv E E<|mv E E<|mv E E<|s_k1 E E H6 fun t_4 Sx_1 H7=>nx<|c_region<|mv E E<|mv E E<|mv E E<|mv E E<|s_k0 E E H7 fun Sx_2 H8=>s_nil<|q_end Tryz.results75 (rv_nil) ⟨E,H8⟩
def b_crab_Crab_set (S:Mem) (h:Pt) (vm:Int) (page:Int) (frame:Int) (write:Bool) (Q:Mem→Prop):Prop:=
 nn h fun b o=>
 gP (S.cell b (o+3)) fun t=>
 nn t fun b_1 o_1=>
 0≤vm∧vm<6 ∧
 gA (S.part b_1 (o_1+2+vm.toNat*12+2) 2) fun t_1=>
 gP (S.cell b o) fun t_2=>
 table_Table_Map S t_1 t_2 page frame write fun t_3 Sx=>
 Sx.cell b (o+3)=some (.pointer (some ⟨b_1,o_1,none⟩)) ∧
 cache_Cache_Drop Sx (some (b,o+2)) vm page fun Sx_1=>
 Q Sx_1
theorem t_crab_Crab_set {S:Mem} {h:Pt} {vm:Int} {page:Int} {frame:Int} {write:Bool} {Q:Mem→Prop} (H:b_crab_Crab_set S h vm page frame write Q):crab_Crab_set S h vm page frame write Q:=by
 unfold b_crab_Crab_set at H
 exact Tr.intro Tryz.func142 E Tryz.ntmps142 E fun w0=>c_seq<|c_drawn (by kernel_rfl)<|aTP 0 E (by decide +kernel) E (y_move E)<|by exact by obtain⟨b,o,rfl,H1⟩:=H;exact aTP 1 E (by decide +kernel) E (y_nc E)<|by exact aTP 2 E (by decide +kernel) E (y_fa E E)<|by exact gx H1 fun t ht H2=>aT 3 E (by decide +kernel) E (y_ld E) (hc_S ht)<|by exact aTP 4 E (by decide +kernel) E (y_move E)<|by exact by obtain⟨b_1,o_1,rfl,H3⟩:=H2;exact aTP 5 E (by decide +kernel) E (y_nc E)<|by exact aTP 6 E (by decide +kernel) E (y_fa E E)<|by exact an2 H3 fun c c_1 H4=>aTP 7 E (by decide +kernel) E (y_ixA E E c c_1 E)<|by exact aTP 8 E (by decide +kernel) E (y_fa E E)<|by exact gx H4 fun t_1 ht_1 H5=>by refine aT 9 E (by decide +kernel) E (y_ldA E (part_len ht_1)) (hc_SP ht_1) ?_;exact aTP 10 E (by decide +kernel) E (y_move E)<|by exact aTP 11 E (by decide +kernel) E (y_nc E)<|by exact aTP 12 E (by decide +kernel) E (y_fa E E)<|by exact gx H5 fun t_2 ht_2 H6=>aT 13 E (by decide +kernel) E (y_ld E) (hc_S ht_2)<|by exact aTP 14 E (by decide +kernel) E (y_move E)<|by exact aTP 15 E (by decide +kernel) E (y_move E)<|by exact aTP 16 E (by decide +kernel) E (y_move E)<|by exact a_step 17 (by decide +kernel) E<|by exact s_k1 E E H6 fun t_3 Sx H7=>by obtain⟨k,H8⟩:=H7;exact s_nil<|q_any (ac_cons (hc_S k) ac_nil)<|a_done (by decide +kernel)<|by exact q_then<|c_region<|mv E E<|s_p E (y_nc E)<|s_p E (y_fa E E)<|mv E E<|mv E E<|s_k0 E E H8 fun Sx_1 H9=>s_nil<|q_end Tryz.results142 (rv_nil) ⟨E,H9⟩
def b_crab_Crab_tell (S:Mem) (h:Pt) (vm:Int) (x:List Value) (Q:Mem→Prop):Prop:=
 x.length=4 ∧
 nn h fun b_1 o=>
 0≤vm∧vm<6 ∧
 gL (S.cell b_1 (o+5+vm.toNat*1)) fun t=>
 x.all (·.oneCell')=true ∧
 ap S 45 4 32 [.int .u8 0,.int .i64 0,.int .u64 0,.int .u64 0] t 1 x fun t_1 Sx=>
 0≤vm∧vm<6 ∧
 pt Sx b_1 (o+5+vm.toNat*1) 1 ([eL t_1]) fun Sx_1=>
 Q Sx_1
theorem t_crab_Crab_tell {S:Mem} {h:Pt} {vm:Int} {x:List Value} {Q:Mem→Prop} (H:b_crab_Crab_tell S h vm x Q):crab_Crab_tell S h vm x Q:=by
 unfold b_crab_Crab_tell at H
 exact Tr.intro Tryz.func79 E Tryz.ntmps79 E fun w0=>an H fun hx H1=>csr<|s_box E E E fun b=>nx<|c_drawn (by kernel_rfl)<|a_takeP 0 E (by decide +kernel) np_body E (y_move E)<|by exact a_takeP 1 E (by decide +kernel) np_body E (y_move E)<|by exact a_takeP 2 E (by decide +kernel) np_body E (y_move E)<|by exact a_takeP 3 E (by decide +kernel) np_body E (y_move E)<|by exact by obtain⟨b_1,o,rfl,H2⟩:=H1;exact a_takeP 4 E (by decide +kernel) np_body E (y_nc E)<|by exact a_takeP 5 E (by decide +kernel) np_body E (y_fa E E)<|by exact an2 H2 fun c c_1 H3=>a_takeP 6 E (by decide +kernel) np_body E (y_ixA E E c c_1 E)<|by exact gx H3 fun t ht H4=>a_take 7 E (by decide +kernel) np_body E (y_ld E) (hc_S ht)<|by exact by refine a_take 8 E (by decide +kernel) np_body E (y_ldA E hx) (hc_VP (k:=4) 0 E (lpart_all hx)) ?_;exact a_takeP 11 E (by decide +kernel) np_body E (y_nc E)<|by exact a_takeP 12 E (by decide +kernel) np_body E (y_fa E E)<|by exact a_step 9 (by decide +kernel) E<|by exact s_bs E E (by decide) (fill_one (size:=4) E hx) fun b_2=>s_nil<|q_any (ac_cons (hc_S ht) ac_nil)<|a_step 10 (by decide +kernel) E<|by exact an H4 fun c_2 H5=>s_app (sx:=t) (vs:=x) E E E (fc_V 1 E (lpart_all hx)) hx c_2 (by decide) H5 fun t_1 Sx H6=>s_nil<|q_any ac_nil<|an2 H6 fun c_3 c_4 H7=>a_takeP 13 E (by decide +kernel) np_body E (y_ixA E E c_3 c_4 E)<|by exact a_step 14 (by decide +kernel) E<|by exact an H7 fun c_5 H8=>s_stS E E E E E c_5 E<|s_nil<|q_any ac_nil<|a_done (by decide +kernel)<|by exact q_end Tryz.results79 (rv_nil) ⟨E,H8⟩
def b_crab_Crab_unset (S:Mem) (h:Pt) (vm:Int) (page:Int) (Q:Mem→Prop):Prop:=
 nn h fun b o=>
 gP (S.cell b (o+3)) fun t=>
 nn t fun b_1 o_1=>
 0≤vm∧vm<6 ∧
 gA (S.part b_1 (o_1+2+vm.toNat*12+2) 2) fun t_1=>
 gP (S.cell b o) fun t_2=>
 table_Table_Unmap S t_1 t_2 page fun t_3 Sx=>
 Sx.cell b (o+3)=some (.pointer (some ⟨b_1,o_1,none⟩)) ∧
 cache_Cache_Drop Sx (some (b,o+2)) vm page fun Sx_1=>
 Q Sx_1
theorem t_crab_Crab_unset {S:Mem} {h:Pt} {vm:Int} {page:Int} {Q:Mem→Prop} (H:b_crab_Crab_unset S h vm page Q):crab_Crab_unset S h vm page Q:=by
 unfold b_crab_Crab_unset at H
 exact Tr.intro Tryz.func146 E Tryz.ntmps146 E fun w0=>c_seq<|c_drawn (by kernel_rfl)<|aTP 0 E (by decide +kernel) E (y_move E)<|by exact by obtain⟨b,o,rfl,H1⟩:=H;exact aTP 1 E (by decide +kernel) E (y_nc E)<|by exact aTP 2 E (by decide +kernel) E (y_fa E E)<|by exact gx H1 fun t ht H2=>aT 3 E (by decide +kernel) E (y_ld E) (hc_S ht)<|by exact aTP 4 E (by decide +kernel) E (y_move E)<|by exact by obtain⟨b_1,o_1,rfl,H3⟩:=H2;exact aTP 5 E (by decide +kernel) E (y_nc E)<|by exact aTP 6 E (by decide +kernel) E (y_fa E E)<|by exact an2 H3 fun c c_1 H4=>aTP 7 E (by decide +kernel) E (y_ixA E E c c_1 E)<|by exact aTP 8 E (by decide +kernel) E (y_fa E E)<|by exact gx H4 fun t_1 ht_1 H5=>by refine aT 9 E (by decide +kernel) E (y_ldA E (part_len ht_1)) (hc_SP ht_1) ?_;exact aTP 10 E (by decide +kernel) E (y_move E)<|by exact aTP 11 E (by decide +kernel) E (y_nc E)<|by exact aTP 12 E (by decide +kernel) E (y_fa E E)<|by exact gx H5 fun t_2 ht_2 H6=>aT 13 E (by decide +kernel) E (y_ld E) (hc_S ht_2)<|by exact aTP 14 E (by decide +kernel) E (y_move E)<|by exact a_step 15 (by decide +kernel) E<|by exact s_k1 E E H6 fun t_3 Sx H7=>by obtain⟨k,H8⟩:=H7;exact s_nil<|q_any (ac_cons (hc_S k) ac_nil)<|a_done (by decide +kernel)<|by exact q_then<|c_region<|mv E E<|s_p E (y_nc E)<|s_p E (y_fa E E)<|mv E E<|mv E E<|s_k0 E E H8 fun Sx_1 H9=>s_nil<|q_end Tryz.results146 (rv_nil) ⟨E,H9⟩
def b_crab_Small (S:Mem) (w:Int) (Q:Int→Mem→Prop):Prop:=
 if 65536≤w then
 Q (-1) S
 else
 Q (IntKind.i64.wrap w) S
theorem t_crab_Small {S:Mem} {w:Int} {Q:Int→Mem→Prop} (H:b_crab_Small S w Q):crab_Small S w Q:=by
 unfold b_crab_Small at H
 exact Tr.intro Tryz.func43 E Tryz.ntmps43 E fun w0=>csr<|gv E E<|nx<|c_seq<|csr<|mv E E<|iteK H (fun c H1=>s_p E (yT (y_geq E E) c)<|nx<|c_t E E<|csr<|gv E E<|nx<|c_ret<|q_then_ret<|q_ret Tryz.results43 (rv_tmp E rv_nil) ⟨_,E,H1⟩) fun c H1=>s_p E (yF (y_geq E E) c)<|nx<|cfs E E<|q_then<|csr<|mv E E<|s_p E (y_conv ⟨_,Tryz.underlying39⟩ E)<|gv E E<|nx<|c_ret<|q_ret Tryz.results43 (rv_tmp E rv_nil) ⟨_,E,H1⟩
def b_crab_Told (S:Mem) (x:List Value) (n:Int) (pc:Int) (s:List Value) (Q:List Value→Mem→Prop):Prop:=
 x.length=2 ∧
 s.length=26 ∧
 jn (fun (v:List Value) (Sx:Mem)=>
 v.length=4 ∧
 seat_Sum Sx s fun t Sx_1=>
 Q ([.int .u8 1,.int .i64 n,.int .u64 pc,.int .u64 t]) Sx_1) fun Jx=>
 gI (nthL x 0) .u8 fun t_1=>
 if t_1=1 then
 gI (nthL x 1) .u64 fun t_2=>
 Q ([.int .u8 4,.int .i64 n,.int .u64 t_2,.int .u64 pc]) S
 else
 if t_1=4 then
 gI (nthL x 1) .u64 fun t_3=>
 Q ([.int .u8 5,.int .i64 n,.int .u64 t_3,.int .u64 pc]) S
 else
 Jx ([.int .u8 0,.int .i64 0,.int .u64 0,.int .u64 0]) S
theorem t_crab_Told {S:Mem} {x:List Value} {n:Int} {pc:Int} {s:List Value} {Q:List Value→Mem→Prop} (H:b_crab_Told S x n pc s Q):crab_Told S x n pc s Q:=by
 unfold b_crab_Told at H
 exact Tr.intro Tryz.func25 E Tryz.ntmps25 E fun w0=>an H fun hx H1=>an H1 fun hs H2=>csr<|s_box E E E fun b=>s_box E E E fun b_1=>by refine s_alloc E fun b_2=>?_;exact nx<|c_join2 H2 (fun (J:List Value→Mem→Prop) (z:List Value) S=>J z S) (fun z=>⟨30,[(1,.int .i64 n),(2,.int .u64 pc),(7,.pointer (some ⟨b_1,0,none⟩)),(8,.pointer (some ⟨b_2,0,none⟩))]⟩) (fun z=>[⟨b_1,43,s⟩,⟨b_2,45,z⟩]) (fun v Sx H3=>an H3 fun hv H4=>csr<|mv E E<|mv E E<|by refine s_v E (y_ldA E hs) (hc_VP (k:=26) 0 E (lpart_all hs)) ?_;exact s_k1 E E H4 fun t Sx_1 H5=>s_p E (y_build E E)<|by exact s_stV_all 1 E E E E E E hv E<|nx<|c_ret<|q_ret Tryz.results25 (rv_cellA E (hc_VP (k:=4) 1 E E) E rv_nil) ⟨_,E,E,H5⟩) (fun Jx hJx H6=>csr<|s_p E (y_fa E E)<|gx H6 fun t_1 ht_1 H7=>s_v E (y_ld E) (hc_V 0 E ht_1)<|nx<|c_block<|csr<|iteK H7 (fun c H8=>ceT E E E (c)<|gv E E<|nx<|c_t E E<|csr<|mv E E<|s_p E (y_fa E E)<|gx H8 fun t_2 ht_2 H9=>s_v E (y_ld E) (hc_V 0 E ht_2)<|mv E E<|s_p E (y_build E E)<|by exact s_stV (sz:=4) (vs:=[.int .u8 4,.int .i64 n,.int .u64 t_2,.int .u64 pc]) 2 E E E E E E (Nat.le_of_ble_eq_true E) E<|nx<|c_ret<|q_blk_ret<|q_then_ret<|q_ret Tryz.results25 (rv_cellA E (hc_VP (k:=4) 2 E E) E rv_nil) ⟨_,E,E,H9⟩) fun c H8=>ceF E E E (c)<|gv E E<|nx<|c_f E E<|csr<|iteK H8 (fun c_1 H10=>ceT E E E (c_1)<|gv E E<|nx<|c_t E E<|csr<|mv E E<|s_p E (y_fa E E)<|gx H10 fun t_3 ht_3 H11=>s_v E (y_ld E) (hc_V 0 E ht_3)<|mv E E<|s_p E (y_build E E)<|by exact s_stV (sz:=4) (vs:=[.int .u8 5,.int .i64 n,.int .u64 t_3,.int .u64 pc]) 2 E E E E E E (Nat.le_of_ble_eq_true E) E<|nx<|c_ret<|q_blk_ret<|q_then_ret<|q_ret Tryz.results25 (rv_cellA E (hc_VP (k:=4) 2 E E) E rv_nil) ⟨_,E,E,H11⟩) fun c_1 H10=>ceF E E E (c_1)<|gv E E<|nx<|cfs E E<|q_blk<|hJx ([.int .u8 0,.int .i64 0,.int .u64 0,.int .u64 0]) _ _ _ _ [1,1] H10 E ⟨E,E,E,E,True.intro⟩ E)
def b_crab_bus_Load (S:Mem) (b:List Value) (page:Int) (off:Int) (n:Int) (Q:Sl→Int→Mem→Prop):Prop:=
 b.length=2 ∧
 crab_bus_find S b page fun t t_1 Sx=>
 t.all (·.oneCell')=true ∧
 jn (fun (Sx_1:Mem)=>
 gP (nthL b 0) fun t_2=>
 nn t_2 fun b_3 o=>
 gP (Sx_1.cell b_3 o) fun t_3=>
 gI (nthL t 1) .i64 fun t_4=>
 store_Store_Read Sx_1 t_3 t_4 off n fun t_5 t_6 Sx_2=>
 Q t_5 t_6 Sx_2) fun Jx=>
 if t_1≠0 then
 Q (⟨none,0,0⟩) t_1 Sx
 else
 Jx Sx
theorem t_crab_bus_Load {S:Mem} {b:List Value} {page:Int} {off:Int} {n:Int} {Q:Sl→Int→Mem→Prop} (H:b_crab_bus_Load S b page off n Q):crab_bus_Load S b page off n Q:=by
 unfold b_crab_bus_Load at H
 exact Tr.intro Tryz.func234 E Tryz.ntmps234 E fun w0=>an H fun hb H1=>csr<|s_box E E E fun b_1=>gv E E<|gv E E<|nxr<|by refine s_v E (y_ldA E hb) (hc_VP (k:=2) 0 E (lpart_all hb)) ?_;exact mv E E<|s_call E E H1 fun rv Sx H2=>by obtain⟨t,t_1,rfl,ht,H3⟩:=H2;exact mv E E<|s_p E (y_extract E E)<|s_p E (y_extract E E)<|by refine s_alloc E fun b_2=>?_;exact an H3 fun c H4=>s_stV_all 1 E E E E E ht E c<|gv E E<|nx<|c_join2 H4 (fun (J:Mem→Prop) (z:Unit) S=>J S) (fun z=>⟨33,[(2,.int .i64 off),(3,.int .i64 n),(4,.pointer (some ⟨b_1,0,none⟩)),(10,.pointer (some ⟨b_2,0,none⟩))]⟩) (fun z=>[⟨b_1,173,b⟩,⟨b_2,111,t⟩]) (fun _ Sx_1 H5=>c_seq<|c_drawn (by kernel_rfl)<|aTP 0 E (by decide +kernel) E (y_fa E E)<|by exact gx H5 fun t_2 ht_2 H6=>aT 1 E (by decide +kernel) E (y_ld E) (hc_V 0 E ht_2)<|by exact by obtain⟨b_3,o,rfl,H7⟩:=H6;exact aTP 2 E (by decide +kernel) E (y_nc E)<|by exact aTP 3 E (by decide +kernel) E (y_fa E E)<|by exact gx H7 fun t_3 ht_3 H8=>aT 4 E (by decide +kernel) E (y_ld E) (hc_S ht_3)<|by exact aTP 5 E (by decide +kernel) E (y_fa E E)<|by exact gx H8 fun t_4 ht_4 H9=>aT 6 E (by decide +kernel) E (y_ld E) (hc_V 1 E ht_4)<|by exact aTP 7 E (by decide +kernel) E (y_move E)<|by exact aTP 8 E (by decide +kernel) E (y_move E)<|by exact a_step 9 (by decide +kernel) E<|by exact s_k2 E E H9 fun t_5 t_6 Sx_2 H10=>s_nil<|q_any (ac_cons (hc_V 0 E ht_2) ac_nil)<|aTP 10 E (by decide +kernel) E (y_extract E E)<|by exact aTP 11 E (by decide +kernel) E (y_extract E E)<|by exact aTP 12 E (by decide +kernel) E (y_assign E)<|by exact aTP 13 E (by decide +kernel) E (y_assign E)<|by exact a_done (by decide +kernel)<|by exact q_then<|c_ret<|q_ret Tryz.results234 (rv_tmp E (rv_tmp E rv_nil)) ⟨_,_,E,H10⟩) (fun Jx hJx H11=>csr<|mv E E<|iteK H11 (fun c_1 H12=>s_p E (yT (y_neq E E) c_1)<|nx<|c_t E E<|csr<|mv E E<|gv E E<|gv E E<|nx<|c_ret<|q_then_ret<|q_ret Tryz.results234 (rv_tmp E (rv_tmp E rv_nil)) ⟨_,_,E,H12⟩) fun c_1 H12=>s_p E (yF (y_neq E E) c_1)<|nx<|cfs E E<|hJx () _ _ _ _ [0,0] H12 E ⟨E,E,E,E,True.intro⟩ E)
def b_crab_bus_Save (S:Mem) (b:List Value) (page:Int) (off:Int) (p:Sl) (Q:Int→Mem→Prop):Prop:=
 b.length=2 ∧
 crab_bus_find S b page fun t t_1 Sx=>
 t.all (·.oneCell')=true ∧
 jn (fun (Sx_1:Mem)=>
 gP (nthL b 0) fun t_2=>
 nn t_2 fun b_3 o=>
 gP (Sx_1.cell b_3 o) fun t_3=>
 gI (nthL t 1) .i64 fun t_4=>
 store_Store_Write Sx_1 t_3 t_4 off p fun t_5 Sx_2=>
 Q t_5 Sx_2) fun Jx=>
 if t_1≠0 then
 Q t_1 Sx
 else
 gB (nthL t 2) fun t_6=>
 if t_6=true then
 Jx Sx
 else
 Q 11 Sx
theorem t_crab_bus_Save {S:Mem} {b:List Value} {page:Int} {off:Int} {p:Sl} {Q:Int→Mem→Prop} (H:b_crab_bus_Save S b page off p Q):crab_bus_Save S b page off p Q:=by
 unfold b_crab_bus_Save at H
 exact Tr.intro Tryz.func233 E Tryz.ntmps233 E fun w0=>an H fun hb H1=>csr<|s_box E E E fun b_1=>gv E E<|nxr<|by refine s_v E (y_ldA E hb) (hc_VP (k:=2) 0 E (lpart_all hb)) ?_;exact mv E E<|s_call E E H1 fun rv Sx H2=>by obtain⟨t,t_1,rfl,ht,H3⟩:=H2;exact mv E E<|s_p E (y_extract E E)<|s_p E (y_extract E E)<|by refine s_alloc E fun b_2=>?_;exact an H3 fun c H4=>s_stV_all 1 E E E E E ht E c<|gv E E<|nx<|c_join2 H4 (fun (J:Mem→Prop) (z:Unit) S=>J S) (fun z=>⟨35,[(2,.int .i64 off),(3,eL p),(4,.pointer (some ⟨b_1,0,none⟩)),(9,.pointer (some ⟨b_2,0,none⟩))]⟩) (fun z=>[⟨b_1,173,b⟩,⟨b_2,111,t⟩]) (fun _ Sx_1 H5=>c_seq<|c_drawn (by kernel_rfl)<|aTP 0 E (by decide +kernel) E (y_fa E E)<|by exact gx H5 fun t_2 ht_2 H6=>aT 1 E (by decide +kernel) E (y_ld E) (hc_V 0 E ht_2)<|by exact by obtain⟨b_3,o,rfl,H7⟩:=H6;exact aTP 2 E (by decide +kernel) E (y_nc E)<|by exact aTP 3 E (by decide +kernel) E (y_fa E E)<|by exact gx H7 fun t_3 ht_3 H8=>aT 4 E (by decide +kernel) E (y_ld E) (hc_S ht_3)<|by exact aTP 5 E (by decide +kernel) E (y_fa E E)<|by exact gx H8 fun t_4 ht_4 H9=>aT 6 E (by decide +kernel) E (y_ld E) (hc_V 1 E ht_4)<|by exact aTP 7 E (by decide +kernel) E (y_move E)<|by exact aTP 8 E (by decide +kernel) E (y_move E)<|by exact a_step 9 (by decide +kernel) E<|by exact s_k1 E E H9 fun t_5 Sx_2 H10=>s_nil<|q_any (ac_cons (hc_V 0 E ht_2) ac_nil)<|aTP 10 E (by decide +kernel) E (y_assign E)<|by exact a_done (by decide +kernel)<|by exact q_then<|c_ret<|q_ret Tryz.results233 (rv_tmp E rv_nil) ⟨_,E,H10⟩) (fun Jx hJx H11=>c_block<|csr<|mv E E<|iteK H11 (fun c_1 H12=>s_p E (yT (y_neq E E) c_1)<|gv E E<|nx<|c_t E E<|csr<|mv E E<|gv E E<|nx<|c_ret<|q_blk_ret<|q_then_ret<|q_ret Tryz.results233 (rv_tmp E rv_nil) ⟨_,E,H12⟩) fun c_1 H12=>s_p E (yF (y_neq E E) c_1)<|gv E E<|nx<|c_f E E<|csr<|s_p E (y_fa E E)<|gx H12 fun t_6 ht_6 H13=>by have H14:=ib_e H13;rcases H14 with ⟨rfl,H15⟩ | ⟨rfl,H15⟩;exact (s_v E (y_ld E) (hc_V 1 E ht_6)<|s_p E (yB (y_not E) E)<|gv E E<|nx<|cfs E E<|q_blk<|hJx () _ _ _ _ [0,0] H15 E ⟨E,E,E,E,True.intro⟩ E);exact (s_v E (y_ld E) (hc_V 1 E ht_6)<|s_p E (yB (y_not E) E)<|gv E E<|nx<|c_t E E<|csr<|gv E E<|nx<|c_ret<|q_blk_ret<|q_then_ret<|q_ret Tryz.results233 (rv_tmp E rv_nil) ⟨_,E,H15⟩))
def b_crab_bus_find (S:Mem) (b:List Value) (page:Int) (Q:List Value→Int→Mem→Prop):Prop:=
 b.length=2 ∧
 jn (fun (v:List Value) (Sx:Mem)=>
 v.length=3 ∧
 gP (nthL b 0) fun t=>
 nn t fun b_3 o=>
 gP (Sx.cell b_3 (o+3)) fun t_1=>
 gI (nthL b 1) .i64 fun t_2=>
 nn t_1 fun b_4 o_1=>
 0≤t_2∧t_2<6 ∧
 gA (Sx.part b_4 (o_1+2+t_2.toNat*12+2) 2) fun t_3=>
 gP (nthL b 0) fun t_4=>
 nn t_4 fun b_5 o_2=>
 gP (Sx.cell b_5 o_2) fun t_5=>
 table_Table_Walk Sx t_3 t_5 page fun t_6 t_7 Sx_1=>
 Sx_1.cell b_3 (o+3)=some (.pointer (some ⟨b_4,o_1,none⟩)) ∧
 t_6.all (·.oneCell')=true ∧
 if t_7=0 then
 gP (nthL b 0) fun t_8=>
 nn t_8 fun b_7 o_3=>
 gI (nthL b 1) .i64 fun t_9=>
 cache_Cache_Put Sx_1 (some (b_7,o_3+2)) t_9 page t_6 fun Sx_2=>
 t_6.all (·.oneCell')=true ∧
 Q t_6 t_7 Sx_2
 else
 t_6.all (·.oneCell')=true ∧
 Q t_6 t_7 Sx_1) fun Jx=>
 gP (nthL b 0) fun t_10=>
 nn t_10 fun b_8 o_4=>
 gI (nthL b 1) .i64 fun t_11=>
 cache_Cache_Look S (some (b_8,o_4+2)) t_11 page fun t_12 t_13 Sx_3=>
 if t_13=true then
 t_12.all (·.oneCell')=true ∧
 t_12.all (·.oneCell')=true ∧
 Q t_12 0 Sx_3
 else
 t_12.all (·.oneCell')=true ∧
 Jx ([.bool false,.int .i64 0,.bool false]) Sx_3
theorem t_crab_bus_find {S:Mem} {b:List Value} {page:Int} {Q:List Value→Int→Mem→Prop} (H:b_crab_bus_find S b page Q):crab_bus_find S b page Q:=by
 unfold b_crab_bus_find at H
 exact Tr.intro Tryz.func243 E Tryz.ntmps243 E fun w0=>an H fun hb H1=>csr<|s_box E E E fun b_1=>by refine s_alloc E fun b_2=>?_;exact gv E E<|nx<|c_join2 H1 (fun (J:List Value→Mem→Prop) (z:List Value) S=>J z S) (fun z=>⟨58,[(1,.int .i64 page),(2,.pointer (some ⟨b_1,0,none⟩)),(4,.pointer (some ⟨b_2,0,none⟩))]⟩) (fun z=>[⟨b_1,173,b⟩,⟨b_2,111,z⟩]) (fun v Sx H2=>an H2 fun hv H3=>c_seq<|c_drawn (by kernel_rfl)<|aTP 0 E (by decide +kernel) E (y_fa E E)<|by exact gx H3 fun t ht H4=>aT 1 E (by decide +kernel) E (y_ld E) (hc_V 0 E ht)<|by exact by obtain⟨b_3,o,rfl,H5⟩:=H4;exact aTP 2 E (by decide +kernel) E (y_nc E)<|by exact aTP 3 E (by decide +kernel) E (y_fa E E)<|by exact gx H5 fun t_1 ht_1 H6=>aT 4 E (by decide +kernel) E (y_ld E) (hc_S ht_1)<|by exact aTP 5 E (by decide +kernel) E (y_fa E E)<|by exact gx H6 fun t_2 ht_2 H7=>aT 6 E (by decide +kernel) E (y_ld E) (hc_V 0 E ht_2)<|by exact by obtain⟨b_4,o_1,rfl,H8⟩:=H7;exact aTP 7 E (by decide +kernel) E (y_nc E)<|by exact aTP 8 E (by decide +kernel) E (y_fa E E)<|by exact an2 H8 fun c c_1 H9=>aTP 9 E (by decide +kernel) E (y_ixA E E c c_1 E)<|by exact aTP 10 E (by decide +kernel) E (y_fa E E)<|by exact gx H9 fun t_3 ht_3 H10=>by refine aT 11 E (by decide +kernel) E (y_ldA E (part_len ht_3)) (hc_SP ht_3) ?_;exact aTP 12 E (by decide +kernel) E (y_fa E E)<|by exact gx H10 fun t_4 ht_4 H11=>aT 13 E (by decide +kernel) E (y_ld E) (hc_V 0 E ht_4)<|by exact by obtain⟨b_5,o_2,rfl,H12⟩:=H11;exact aTP 14 E (by decide +kernel) E (y_nc E)<|by exact aTP 15 E (by decide +kernel) E (y_fa E E)<|by exact gx H12 fun t_5 ht_5 H13=>aT 16 E (by decide +kernel) E (y_ld E) (hc_S ht_5)<|by exact aTP 17 E (by decide +kernel) E (y_move E)<|by exact a_step2 18 22 (by decide +kernel) E E (s_call E E H13 fun rv Sx_1 H14=>by obtain⟨t_6,t_7,rfl,ht_6,H15⟩:=H14;exact by obtain⟨k,H16⟩:=H15;exact s_nil<|q_any (ac_cons (hc_V 0 E ht_4) (ac_cons (hc_V 0 E ht_2) (ac_cons (hc_S k) (ac_cons (hc_V 0 E ht) ac_nil))))<|aTP 19 E (by decide +kernel) E (y_move E)<|by exact aTP 20 E (by decide +kernel) E (y_extract E E)<|by exact aTP 21 E (by decide +kernel) E (y_extract E E)<|by exact a_step 22 (by decide +kernel) E<|by exact by refine s_alloc E fun b_6=>?_;exact s_nil<|q_any (ac_cons (hc_V 0 E ht_4) (ac_cons (hc_V 0 E ht_2) (ac_cons (hc_S k) (ac_cons (hc_V 0 E ht) ac_nil))))<|a_step 23 (by decide +kernel) E<|by exact an H16 fun c_2 H17=>s_stV_all 2 E E E E E ht_6 E c_2<|s_nil<|q_any ac_nil<|aTP 24 E (by decide +kernel) E (y_assign E)<|by exact a_done (by decide +kernel)<|by exact q_then<|c_seq<|csr<|mv E E<|iteK H17 (fun c_3 H18=>ceT E E E (c_3)<|nx<|c_t E E<|c_drawn (by kernel_rfl)<|aTP 0 E (by decide +kernel) E (y_fa E E)<|by exact gx H18 fun t_8 ht_8 H19=>aT 1 E (by decide +kernel) E (y_ld E) (hc_V 0 E ht_8)<|by exact by obtain⟨b_7,o_3,rfl,H20⟩:=H19;exact aTP 2 E (by decide +kernel) E (y_nc E)<|by exact aTP 3 E (by decide +kernel) E (y_fa E E)<|by exact aTP 4 E (by decide +kernel) E (y_fa E E)<|by exact gx H20 fun t_9 ht_9 H21=>aT 5 E (by decide +kernel) E (y_ld E) (hc_V 0 E ht_9)<|by exact aTP 6 E (by decide +kernel) E (y_move E)<|by exact by refine aT 7 E (by decide +kernel) E (y_ldA E ht_6) (hc_VP (k:=3) 2 E (lpart_all ht_6)) ?_;exact a_step 8 (by decide +kernel) E<|by exact s_k0 E E H21 fun Sx_2 H22=>s_nil<|q_any (ac_cons (hc_V 0 E ht_8) ac_nil)<|a_done (by decide +kernel)<|by exact q_then<|csr<|by refine s_v E (y_ldA E ht_6) (hc_VP (k:=3) 2 E (lpart_all ht_6)) ?_;exact mv E E<|an H22 fun c_4 H23=>s_stV_all 1 E E E E E ht_6 hv c_4<|gv E E<|nx<|c_ret<|q_ret Tryz.results243 (rv_cellA E (hc_VP (k:=3) 1 E (lpart_all ht_6)) ht_6 (rv_tmp E rv_nil)) ⟨_,_,E,ht_6,H23⟩) fun c_3 H18=>ceF E E E (c_3)<|nx<|cfs E E<|q_then<|csr<|by refine s_v E (y_ldA E ht_6) (hc_VP (k:=3) 2 E (lpart_all ht_6)) ?_;exact mv E E<|an H18 fun c_5 H24=>s_stV_all 1 E E E E E ht_6 hv c_5<|gv E E<|nx<|c_ret<|q_ret Tryz.results243 (rv_cellA E (hc_VP (k:=3) 1 E (lpart_all ht_6)) ht_6 (rv_tmp E rv_nil)) ⟨_,_,E,ht_6,H24⟩) (by refine s_alloc E fun b_6=>?_;exact s_nil<|q_any (ac_cons (hc_S ht_5) (ac_cons (hc_V 0 E ht_4) (ac_cons (hc_SP ht_3) (ac_cons (hc_V 0 E ht_2) (ac_cons (hc_S ht_1) (ac_cons (hc_V 0 E ht) ac_nil))))))<|a_step 18 (by decide +kernel) E<|by exact s_call E E H13 fun rv Sx_1 H25=>by obtain⟨t_6,t_7,rfl,ht_6,H26⟩:=H25;exact by obtain⟨k,H27⟩:=H26;exact s_nil<|q_any (ac_cons (hc_V 0 E ht_4) (ac_cons (hc_V 0 E ht_2) (ac_cons (hc_S k) (ac_cons (hc_V 0 E ht) ac_nil))))<|aTP 19 E (by decide +kernel) E (y_move E)<|by exact aTP 20 E (by decide +kernel) E (y_extract E E)<|by exact aTP 21 E (by decide +kernel) E (y_extract E E)<|by exact a_step 23 (by decide +kernel) E<|by exact an H27 fun c_2 H28=>s_stV_all 2 E E E E E ht_6 E c_2<|s_nil<|q_any ac_nil<|aTP 24 E (by decide +kernel) E (y_assign E)<|by exact a_done (by decide +kernel)<|by exact q_then<|c_seq<|csr<|mv E E<|iteK H28 (fun c_3 H29=>ceT E E E (c_3)<|nx<|c_t E E<|c_drawn (by kernel_rfl)<|aTP 0 E (by decide +kernel) E (y_fa E E)<|by exact gx H29 fun t_8 ht_8 H30=>aT 1 E (by decide +kernel) E (y_ld E) (hc_V 0 E ht_8)<|by exact by obtain⟨b_7,o_3,rfl,H31⟩:=H30;exact aTP 2 E (by decide +kernel) E (y_nc E)<|by exact aTP 3 E (by decide +kernel) E (y_fa E E)<|by exact aTP 4 E (by decide +kernel) E (y_fa E E)<|by exact gx H31 fun t_9 ht_9 H32=>aT 5 E (by decide +kernel) E (y_ld E) (hc_V 0 E ht_9)<|by exact aTP 6 E (by decide +kernel) E (y_move E)<|by exact by refine aT 7 E (by decide +kernel) E (y_ldA E ht_6) (hc_VP (k:=3) 2 E (lpart_all ht_6)) ?_;exact a_step 8 (by decide +kernel) E<|by exact s_k0 E E H32 fun Sx_2 H33=>s_nil<|q_any (ac_cons (hc_V 0 E ht_8) ac_nil)<|a_done (by decide +kernel)<|by exact q_then<|csr<|by refine s_v E (y_ldA E ht_6) (hc_VP (k:=3) 2 E (lpart_all ht_6)) ?_;exact mv E E<|an H33 fun c_4 H34=>s_stV_all 1 E E E E E ht_6 hv c_4<|gv E E<|nx<|c_ret<|q_ret Tryz.results243 (rv_cellA E (hc_VP (k:=3) 1 E (lpart_all ht_6)) ht_6 (rv_tmp E rv_nil)) ⟨_,_,E,ht_6,H34⟩) fun c_3 H29=>ceF E E E (c_3)<|nx<|cfs E E<|q_then<|csr<|by refine s_v E (y_ldA E ht_6) (hc_VP (k:=3) 2 E (lpart_all ht_6)) ?_;exact mv E E<|an H29 fun c_5 H35=>s_stV_all 1 E E E E E ht_6 hv c_5<|gv E E<|nx<|c_ret<|q_ret Tryz.results243 (rv_cellA E (hc_VP (k:=3) 1 E (lpart_all ht_6)) ht_6 (rv_tmp E rv_nil)) ⟨_,_,E,ht_6,H35⟩)) (fun Jx hJx H36=>c_seq<|c_drawn (by kernel_rfl)<|a_takeP 0 E (by decide +kernel) (np_then (np_then np_body)) E (y_fa E E)<|by exact gx H36 fun t_10 ht_10 H37=>a_take 1 E (by decide +kernel) (np_then (np_then np_body)) E (y_ld E) (hc_V 0 E ht_10)<|by exact by obtain⟨b_8,o_4,rfl,H38⟩:=H37;exact a_takeP 2 E (by decide +kernel) (np_then (np_then np_body)) E (y_nc E)<|by exact a_takeP 3 E (by decide +kernel) (np_then (np_then np_body)) E (y_fa E E)<|by exact a_takeP 4 E (by decide +kernel) (np_then (np_then np_body)) E (y_fa E E)<|by exact gx H38 fun t_11 ht_11 H39=>a_take 5 E (by decide +kernel) (np_then (np_then np_body)) E (y_ld E) (hc_V 0 E ht_11)<|by exact a_takeP 6 E (by decide +kernel) (np_then (np_then np_body)) E (y_move E)<|by exact a_step2 7 11 (by decide +kernel) E E (s_call E E H39 fun rv Sx_3 H40=>by obtain⟨t_12,t_13,rfl,ht_12,H41⟩:=H40;exact s_nil<|q_any (ac_cons (hc_V 0 E ht_10) ac_nil)<|a_takeP 8 E (by decide +kernel) (np_then (np_then np_body)) E (y_move E)<|by exact a_takeP 9 E (by decide +kernel) (np_then (np_then np_body)) E (y_extract E E)<|by exact iteK H41 (fun c_6 H42=>a_takeP 10 E (by decide +kernel) (np_then (np_then np_body)) E (yB (y_extract E E) c_6)<|by exact a_step 11 (by decide +kernel) E<|by exact by refine s_alloc E fun b_9=>?_;exact s_nil<|q_any (ac_cons (hc_V 0 E ht_10) ac_nil)<|a_step 12 (by decide +kernel) E<|by exact an H42 fun c_7 H43=>s_stV_all 2 E E E E E ht_12 E c_7<|s_nil<|q_any ac_nil<|a_takeP 13 E (by decide +kernel) (np_then (np_then np_body)) E (y_assign E)<|by exact a_done (by decide +kernel)<|by exact q_then<|csr<|mv E E<|nx<|c_t E E<|csr<|by refine s_v E (y_ldA E ht_12) (hc_VP (k:=3) 2 E (lpart_all ht_12)) ?_;exact an H43 fun c_8 H44=>s_stV_all 1 E E E E E ht_12 E c_8<|gv E E<|nx<|c_ret<|q_then_ret<|q_ret Tryz.results243 (rv_cellA E (hc_VP (k:=3) 1 E (lpart_all ht_12)) ht_12 (rv_tmp E rv_nil)) ⟨_,_,E,ht_12,H44⟩) fun c_6 H42=>a_takeP 10 E (by decide +kernel) (np_then (np_then np_body)) E (yB (y_extract E E) (bf_of c_6))<|by exact a_step 11 (by decide +kernel) E<|by exact by refine s_alloc E fun b_10=>?_;exact s_nil<|q_any (ac_cons (hc_V 0 E ht_10) ac_nil)<|a_step 12 (by decide +kernel) E<|by exact an H42 fun c_9 H45=>s_stV_all 2 E E E E E ht_12 E c_9<|s_nil<|q_any ac_nil<|a_takeP 13 E (by decide +kernel) (np_then (np_then np_body)) E (y_assign E)<|by exact a_done (by decide +kernel)<|by exact q_then<|csr<|mv E E<|nx<|cfs E E<|hJx ([.bool false,.int .i64 0,.bool false]) _ _ _ _ [0,0] H45 E ⟨E,E,E,True.intro⟩ E) (by refine s_alloc E fun b_9=>?_;exact s_nil<|q_any (ac_cons (hc_V 0 E ht_11) (ac_cons (hc_V 0 E ht_10) ac_nil))<|a_step 7 (by decide +kernel) E<|by exact s_call E E H39 fun rv Sx_3 H46=>by obtain⟨t_12,t_13,rfl,ht_12,H47⟩:=H46;exact s_nil<|q_any (ac_cons (hc_V 0 E ht_10) ac_nil)<|a_takeP 8 E (by decide +kernel) (np_then (np_then np_body)) E (y_move E)<|by exact a_takeP 9 E (by decide +kernel) (np_then (np_then np_body)) E (y_extract E E)<|by exact iteK H47 (fun c_6 H48=>a_takeP 10 E (by decide +kernel) (np_then (np_then np_body)) E (yB (y_extract E E) c_6)<|by exact a_step 12 (by decide +kernel) E<|by exact an H48 fun c_7 H49=>s_stV_all 2 E E E E E ht_12 E c_7<|s_nil<|q_any ac_nil<|a_takeP 13 E (by decide +kernel) (np_then (np_then np_body)) E (y_assign E)<|by exact a_done (by decide +kernel)<|by exact q_then<|csr<|mv E E<|nx<|c_t E E<|csr<|by refine s_v E (y_ldA E ht_12) (hc_VP (k:=3) 2 E (lpart_all ht_12)) ?_;exact an H49 fun c_8 H50=>s_stV_all 1 E E E E E ht_12 E c_8<|gv E E<|nx<|c_ret<|q_then_ret<|q_ret Tryz.results243 (rv_cellA E (hc_VP (k:=3) 1 E (lpart_all ht_12)) ht_12 (rv_tmp E rv_nil)) ⟨_,_,E,ht_12,H50⟩) fun c_6 H48=>a_takeP 10 E (by decide +kernel) (np_then (np_then np_body)) E (yB (y_extract E E) (bf_of c_6))<|by exact a_step 12 (by decide +kernel) E<|by exact an H48 fun c_9 H51=>s_stV_all 2 E E E E E ht_12 E c_9<|s_nil<|q_any ac_nil<|a_takeP 13 E (by decide +kernel) (np_then (np_then np_body)) E (y_assign E)<|by exact a_done (by decide +kernel)<|by exact q_then<|csr<|mv E E<|nx<|cfs E E<|hJx ([.bool false,.int .i64 0,.bool false]) _ _ _ _ [0,0] H51 E ⟨E,E,E,True.intro⟩ E))
def b_guest_State_Joined (S:Mem) (s:Pt) (a:Int) (b:Int) (Q:Bool→Mem→Prop):Prop:=
 guest_State_There S s a fun t Sx=>
 if t=true then
 guest_State_There Sx s b fun t_1 Sx_1=>
 if t_1=true then
 nn s fun b_1 o=>
 0≤a∧a<6 ∧
 gI (Sx_1.cell b_1 (o+2+a.toNat*12+11)) .u32 fun t_2=>
 0≤b ∧
 Q (decide (iand .u32 (ishr .u32 t_2 b) 1=1)) Sx_1
 else
 Q false Sx_1
 else
 Q false Sx
theorem t_guest_State_Joined {S:Mem} {s:Pt} {a:Int} {b:Int} {Q:Bool→Mem→Prop} (H:b_guest_State_Joined S s a b Q):guest_State_Joined S s a b Q:=by
 unfold b_guest_State_Joined at H
 exact Tr.intro Tryz.func161 E Tryz.ntmps161 E fun w0=>csr<|gv E E<|nxr<|mv E E<|mv E E<|s_k1 E E H fun t Sx H1=>by have H2:=ib_e H1;rcases H2 with ⟨rfl,H3⟩ | ⟨rfl,H3⟩;exact (mv E E<|mv E E<|mv E E<|s_k1 E E H3 fun t_1 Sx_1 H4=>by have H5:=ib_e H4;rcases H5 with ⟨rfl,H6⟩ | ⟨rfl,H6⟩;exact (pk E E E<|mv E E<|mv E E<|mv E E<|by obtain⟨b_1,o,rfl,H7⟩:=H6;exact s_p E (y_nc E)<|s_p E (y_fa E E)<|an2 H7 fun c c_1 H8=>s_p E (y_ixA E E c c_1 E)<|s_p E (y_fa E E)<|gx H8 fun t_2 ht_2 H9=>s_v E (y_ld E) (hc_S ht_2)<|mv E E<|an H9 fun c_2 H10=>s_p E (y_shr E E c_2)<|s_p E (y_and E E)<|s_p E (y_eql E E)<|pk E E E<|gv E E<|nx<|c_ret<|q_ret Tryz.results161 (rv_tmp E rv_nil) ⟨_,E,H10⟩);exact (pk E E E<|mv E E<|sk8 E E E E E E E E<|sk2 E E<|s_skip E<|pk E E E<|gv E E<|nx<|c_ret<|q_ret Tryz.results161 (rv_tmp E rv_nil) ⟨_,E,H6⟩));exact (mv E E<|sk2 E E<|s_skip E<|pk E E E<|mv E E<|sk8 E E E E E E E E<|sk2 E E<|s_skip E<|pk E E E<|gv E E<|nx<|c_ret<|q_ret Tryz.results161 (rv_tmp E rv_nil) ⟨_,E,H3⟩)
def b_guest_State_Seat (S:Mem) (s:Pt) (vm:Int) (n:Int) (Q:Pt→Mem→Prop):Prop:=
 jn (fun (Sx:Mem)=>
 nn s fun b o=>
 0≤vm∧vm<6 ∧
 gL (Sx.cell b (o+2+vm.toNat*12+1)) fun t=>
 sl t fun b_1 o_1 n_1 n_2=>
 0≤n∧n<((n_1:Nat):Int) ∧
 Q (some (b_1,o_1+n.toNat*26)) Sx) fun Jx=>
 guest_State_There S s vm fun t_1 Sx_1=>
 if t_1=true then
 if n<0 then
 Q none Sx_1
 else
 nn s fun b_2 o_2=>
 0≤vm∧vm<6 ∧
 gL (Sx_1.cell b_2 (o_2+2+vm.toNat*12+1)) fun t_2=>
 if (t_2.n:Int)≤n then
 Q none Sx_1
 else
 Jx Sx_1
 else
 Q none Sx_1
theorem t_guest_State_Seat {S:Mem} {s:Pt} {vm:Int} {n:Int} {Q:Pt→Mem→Prop} (H:b_guest_State_Seat S s vm n Q):guest_State_Seat S s vm n Q:=by
 unfold b_guest_State_Seat at H
 exact Tr.intro Tryz.func77 E Tryz.ntmps77 E fun w0=>csr<|gv E E<|nx<|c_join2 H (fun (J:Mem→Prop) (z:Unit) S=>J S) (fun z=>⟨36,[(0,eP s),(1,.int .i64 vm),(2,.int .i64 n)]⟩) (fun z=>[]) (fun _ Sx H1=>csr<|mv E E<|mv E E<|by obtain⟨b,o,rfl,H2⟩:=H1;exact s_p E (y_nc E)<|s_p E (y_fa E E)<|an2 H2 fun c c_1 H3=>s_p E (y_ixA E E c c_1 E)<|s_p E (y_fa E E)<|gx H3 fun t ht H4=>s_v E (y_ld E) (hc_S ht)<|mv E E<|by obtain⟨b_1,o_1,n_1,n_2,rfl,H5⟩:=H4;exact an2 H5 fun c_2 c_3 H6=>s_p E (y_ixL E E c_2 c_3 E)<|gv E E<|nx<|c_ret<|q_ret Tryz.results77 (rv_tmp E rv_nil) ⟨_,E,H6⟩) (fun Jx hJx H7=>csr<|mv E E<|mv E E<|s_k1 E E H7 fun t_1 Sx_1 H8=>by have H9:=ib_e H8;rcases H9 with ⟨rfl,H10⟩ | ⟨rfl,H10⟩;exact (s_p E (yB (y_not E) E)<|mv E E<|mv E E<|iteK H10 (fun c_4 H11=>s_p E (yT (y_lss E E) c_4)<|pk E E E<|mv E E<|sk8 E E E E E E E E<|sk2 E E<|pk E E E<|nx<|c_t E E<|csr<|gv E E<|nx<|c_ret<|q_then_ret<|q_ret Tryz.results77 (rv_tmp E rv_nil) ⟨_,E,H11⟩) fun c_4 H11=>s_p E (yF (y_lss E E) c_4)<|pk E E E<|mv E E<|mv E E<|mv E E<|mv E E<|by obtain⟨b_2,o_2,rfl,H12⟩:=H11;exact s_p E (y_nc E)<|s_p E (y_fa E E)<|an2 H12 fun c_5 c_6 H13=>s_p E (y_ixA E E c_5 c_6 E)<|s_p E (y_fa E E)<|gx H13 fun t_2 ht_2 H14=>s_v E (y_ld E) (hc_S ht_2)<|s_p E (y_len E)<|iteK H14 (fun c_7 H15=>s_p E (yT (y_geq E E) c_7)<|pk E E E<|nx<|c_t E E<|csr<|gv E E<|nx<|c_ret<|q_then_ret<|q_ret Tryz.results77 (rv_tmp E rv_nil) ⟨_,E,H15⟩) fun c_7 H15=>s_p E (yF (y_geq E E) c_7)<|pk E E E<|nx<|cfs E E<|hJx () _ _ _ _ [] H15 E ⟨E,E,E,True.intro⟩ E);exact (s_p E (yB (y_not E) E)<|mv E E<|sk2 E E<|pk E E E<|mv E E<|sk8 E E E E E E E E<|sk2 E E<|pk E E E<|nx<|c_t E E<|csr<|gv E E<|nx<|c_ret<|q_then_ret<|q_ret Tryz.results77 (rv_tmp E rv_nil) ⟨_,E,H10⟩))
def b_guest_State_There (S:Mem) (s:Pt) (vm:Int) (Q:Bool→Mem→Prop):Prop:=
 if s≠none then
 if 0≤vm then
 if vm<6 then
 nn s fun b o=>
 0≤vm∧vm<6 ∧
 gB (S.cell b (o+2+vm.toNat*12)) fun t=>
 Q t S
 else
 Q false S
 else
 Q false S
 else
 Q false S
theorem t_guest_State_There {S:Mem} {s:Pt} {vm:Int} {Q:Bool→Mem→Prop} (H:b_guest_State_There S s vm Q):guest_State_There S s vm Q:=by
 unfold b_guest_State_There at H
 exact Tr.intro Tryz.func81 E Tryz.ntmps81 E fun w0=>csr<|gv E E<|nxr<|mv E E<|iteK H (fun c H1=>s_p E (yT (y_pnn (p:=s) E E) c)<|mv E E<|mv E E<|iteK H1 (fun c_1 H2=>s_p E (yT (y_geq E E) c_1)<|pk E E E<|mv E E<|mv E E<|iteK H2 (fun c_2 H3=>s_p E (yT (y_lss E E) c_2)<|pk E E E<|mv E E<|mv E E<|mv E E<|by obtain⟨b,o,rfl,H4⟩:=H3;exact s_p E (y_nc E)<|s_p E (y_fa E E)<|an2 H4 fun c_3 c_4 H5=>s_p E (y_ixA E E c_3 c_4 E)<|s_p E (y_fa E E)<|gx H5 fun t ht H6=>s_v E (y_ld E) (hc_S ht)<|pk E E E<|gv E E<|nx<|c_ret<|q_ret Tryz.results81 (rv_tmp E rv_nil) ⟨_,E,H6⟩) fun c_2 H3=>s_p E (yF (y_lss E E) c_2)<|pk E E E<|mv E E<|sk4 E E E E<|sk2 E E<|s_skip E<|pk E E E<|gv E E<|nx<|c_ret<|q_ret Tryz.results81 (rv_tmp E rv_nil) ⟨_,E,H3⟩) fun c_1 H2=>s_p E (yF (y_geq E E) c_1)<|pk E E E<|mv E E<|sk2 E E<|pk E E E<|mv E E<|sk4 E E E E<|sk2 E E<|s_skip E<|pk E E E<|gv E E<|nx<|c_ret<|q_ret Tryz.results81 (rv_tmp E rv_nil) ⟨_,E,H2⟩) fun c H1=>s_p E (yF (y_pnn (p:=s) E E) c)<|mv E E<|sk2 E E<|pk E E E<|mv E E<|sk2 E E<|pk E E E<|mv E E<|sk4 E E E E<|sk2 E E<|s_skip E<|pk E E E<|gv E E<|nx<|c_ret<|q_ret Tryz.results81 (rv_tmp E rv_nil) ⟨_,E,H1⟩
def b_guest_State_Time (S:Mem) (s:Pt) (vm:Int) (Q:Int→Mem→Prop):Prop:=
 nn s fun b o=>
 gI (S.cell b (o+1)) .u64 fun t=>
 0≤vm∧vm<6 ∧
 gI (S.cell b (o+2+vm.toNat*12+5)) .u64 fun t_1=>
 Q (IntKind.u64.wrap (t-t_1)) S
theorem t_guest_State_Time {S:Mem} {s:Pt} {vm:Int} {Q:Int→Mem→Prop} (H:b_guest_State_Time S s vm Q):guest_State_Time S s vm Q:=by
 unfold b_guest_State_Time at H
 exact Tr.intro Tryz.func78 E Tryz.ntmps78 E fun w0=>csr<|gv E E<|nx<|c_seq<|c_drawn (by kernel_rfl)<|aTP 0 E (by decide +kernel) E (y_move E)<|by exact by obtain⟨b,o,rfl,H1⟩:=H;exact aTP 1 E (by decide +kernel) E (y_nc E)<|by exact aTP 2 E (by decide +kernel) E (y_fa E E)<|by exact gx H1 fun t ht H2=>aT 3 E (by decide +kernel) E (y_ld E) (hc_S ht)<|by exact aTP 4 E (by decide +kernel) E (y_move E)<|by exact aTP 5 E (by decide +kernel) E (y_move E)<|by exact aTP 6 E (by decide +kernel) E (y_nc E)<|by exact aTP 7 E (by decide +kernel) E (y_fa E E)<|by exact an2 H2 fun c c_1 H3=>aTP 8 E (by decide +kernel) E (y_ixA E E c c_1 E)<|by exact aTP 9 E (by decide +kernel) E (y_fa E E)<|by exact gx H3 fun t_1 ht_1 H4=>aT 10 E (by decide +kernel) E (y_ld E) (hc_S ht_1)<|by exact aTP 11 E (by decide +kernel) E (y_sub E E)<|by exact aTP 12 E (by decide +kernel) E (y_assign E)<|by exact a_done (by decide +kernel)<|by exact q_then<|c_ret<|q_ret Tryz.results78 (rv_tmp E rv_nil) ⟨_,E,H4⟩
end Go.Proofs.YtabdpmnhjlmnlaaGreatDoor
end
section
namespace Go.Proofs.YtabdpmnhjlmnlaaGreatDoor
open Go Go.Pt
attribute [local irreducible] Code.wp Back bodyPost wpList FR WL WC WQ WA AW Tr Yc HC AllC
set_option maxRecDepth 20000
set_option maxHeartbeats 4000000
set_option linter.unusedVariables false
def b_heap_Init (S:Mem) (h:Value) (Q:Mem→Prop):Prop:=
 ci Tryz.prog S h "Len" [] fun rv Sx => ∃ t : Int, rv = .int .i64 t ∧ 
 lp (fun Xx (i:Int) (Sx_1:Mem)=>
 if 0≤i then
 heap_down Sx_1 h i t fun t_1 Sx_2=>
 Xx (IntKind.i64.wrap (i-1)) Sx_2
 else
 Q Sx_1) (IntKind.i64.wrap ((IntKind.i64.wrap (Int.tdiv t 2))-1)) Sx
theorem t_heap_Init {S:Mem} {h:Value} {Q:Mem→Prop} (H:b_heap_Init S h Q):heap_Init S h Q:=by
 unfold b_heap_Init at H
 exact Tr.intro Tryz.func106 E Tryz.ntmps106 E fun w0=>csr<|mv E E<|s_ci E E E H fun rv Sx H1=>by obtain⟨t,rfl,H2⟩:=H1;exact gv E E<|nxr<|mv E E<|s_p E (y_quo E E (by decide))<|s_p E (y_sub E E)<|gv E E<|nx<|c_block<|c_loop (fun z=>⟨17,[(0,h),(2,.int .i64 t),(3,.int .i64 z)]⟩) (fun z=>[]) (IntKind.i64.wrap ((IntKind.i64.wrap (Int.tdiv t 2))-1)) (idx:=[]) H2 E ⟨E,E,E,True.intro⟩ E<|fun Xx hXx i Sx_1 H3=>c_seq<|csr<|mv E E<|iteK H3 (fun c H4=>s_p E (yT (y_geq E E) c)<|nx<|c_t E E<|c_skip<|q_then<|c_seq<|c_block<|c_region<|mv E E<|mv E E<|mv E E<|s_k1 E E H4 fun t_1 Sx_2 H5=>s_nil<|q_blk<|q_then<|c_region<|mv E E<|s_p E (y_sub E E)<|gv E E<|s_nil<|hXx (IntKind.i64.wrap (i-1)) _ _ _ _ [] H5 E ⟨E,E,E,True.intro⟩ E) fun c H4=>s_p E (yF (y_geq E E) c)<|nx<|c_f E E<|c_exit<|q_then_exit<|q_then_exit<|q_blk_out<|q_end Tryz.results106 (rv_nil) ⟨E,H4⟩
def b_heap_Pop (S:Mem) (h:Value) (Q:Value→Mem→Prop):Prop:=
 ci Tryz.prog S h "Len" [] fun rv Sx => ∃ t : Int, rv = .int .i64 t ∧ 
 ci Tryz.prog Sx h "Swap" [.int .i64 0, .int .i64 (IntKind.i64.wrap (t - 1))] fun rv Sx_1 => rv = .tuple #[] ∧ 
 heap_down Sx_1 h 0 (IntKind.i64.wrap (t-1)) fun t_1 Sx_2=>
 ci Tryz.prog Sx_2 h "Pop" [] fun rv Sx_3 => ∃ t_2 : Value, rv = t_2 ∧ 
 Q t_2 Sx_3
theorem t_heap_Pop {S:Mem} {h:Value} {Q:Value→Mem→Prop} (H:b_heap_Pop S h Q):heap_Pop S h Q:=by
 unfold b_heap_Pop at H
 exact Tr.intro Tryz.func155 E Tryz.ntmps155 E fun w0=>csr<|gv E E<|nxr<|mv E E<|s_ci E E E H fun rv Sx H1=>by obtain⟨t,rfl,H2⟩:=H1;exact s_p E (y_sub E E)<|gv E E<|nxr<|mv E E<|mv E E<|s_ci E E E H2 fun rv Sx_1 H3=>by obtain⟨rfl,H4⟩:=H3;exact nxr<|mv E E<|mv E E<|s_k1 E E H4 fun t_1 Sx_2 H5=>nxr<|mv E E<|s_ci E E E H5 fun rv Sx_3 H6=>by obtain⟨t_2,rfl,H7⟩:=H6;exact gv E E<|nx<|c_ret<|q_ret Tryz.results155 (rv_tmp E rv_nil) ⟨_,E,H7⟩
def b_heap_Push (S:Mem) (h:Value) (x:Value) (Q:Mem→Prop):Prop:=
 ci Tryz.prog S h "Push" [x] fun rv Sx => rv = .tuple #[] ∧ 
 ci Tryz.prog Sx h "Len" [] fun rv Sx_1 => ∃ t : Int, rv = .int .i64 t ∧ 
 heap_up Sx_1 h (IntKind.i64.wrap (t-1)) fun Sx_2=>
 Q Sx_2
theorem t_heap_Push {S:Mem} {h:Value} {x:Value} {Q:Mem→Prop} (H:b_heap_Push S h x Q):heap_Push S h x Q:=by
 unfold b_heap_Push at H
 exact Tr.intro Tryz.func150 E Tryz.ntmps150 E fun w0=>csr<|mv E E<|mv E E<|s_ci E E E H fun rv Sx H1=>by obtain⟨rfl,H2⟩:=H1;exact nx<|c_region<|mv E E<|mv E E<|s_ci E E E H2 fun rv Sx_1 H3=>by obtain⟨t,rfl,H4⟩:=H3;exact s_p E (y_sub E E)<|s_k0 E E H4 fun Sx_2 H5=>s_nil<|q_end Tryz.results150 (rv_nil) ⟨E,H5⟩
def b_heap_down (S:Mem) (h:Value) (i0_0:Int) (n:Int) (Q:Bool→Mem→Prop):Prop:=
 jn (fun (i:Int) (Sx:Mem)=>
 Q (decide (i0_0<i)) Sx) fun Jx=>
 lp (fun Xx (i_1:Int) (Sx_1:Mem)=>
 jn (fun (Sx_2:Mem)=>
 jn (fun (j:Int) (Sx_3:Mem)=>
 ci Tryz.prog Sx_3 h "Less" [.int .i64 j, .int .i64 i_1] fun rv Sx_4 => ∃ t : Bool, rv = .bool t ∧ 
 if t=true then
 ci Tryz.prog Sx_4 h "Swap" [.int .i64 i_1, .int .i64 j] fun rv Sx_5 => rv = .tuple #[] ∧ 
 Xx j Sx_5
 else
 Jx i_1 Sx_4) fun Jx_1=>
 if IntKind.i64.wrap ((IntKind.i64.wrap ((IntKind.i64.wrap (2*i_1))+1))+1)<n then
 ci Tryz.prog Sx_2 h "Less" [.int .i64 (IntKind.i64.wrap ((IntKind.i64.wrap ((IntKind.i64.wrap (2 * i_1)) + 1)) + 1)), .int .i64 (IntKind.i64.wrap ((IntKind.i64.wrap (2 * i_1)) + 1))] fun rv Sx_6 => ∃ t_1 : Bool, rv = .bool t_1 ∧ 
 if t_1=true then
 Jx_1 (IntKind.i64.wrap ((IntKind.i64.wrap ((IntKind.i64.wrap (2*i_1))+1))+1)) Sx_6
 else
 Jx_1 (IntKind.i64.wrap ((IntKind.i64.wrap (2*i_1))+1)) Sx_6
 else
 Jx_1 (IntKind.i64.wrap ((IntKind.i64.wrap (2*i_1))+1)) Sx_2) fun Jx_2=>
 if n≤IntKind.i64.wrap ((IntKind.i64.wrap (2*i_1))+1) then
 Jx i_1 Sx_1
 else
 if IntKind.i64.wrap ((IntKind.i64.wrap (2*i_1))+1)<0 then
 Jx i_1 Sx_1
 else
 Jx_2 Sx_1) i0_0 S
theorem t_heap_down {S:Mem} {h:Value} {i0_0:Int} {n:Int} {Q:Bool→Mem→Prop} (H:b_heap_down S h i0_0 n Q):heap_down S h i0_0 n Q:=by
 unfold b_heap_down at H
 exact Tr.intro Tryz.func162 E Tryz.ntmps162 E fun w0=>csr<|gv E E<|nxr<|mv E E<|gv E E<|nx<|c_join2 H (fun (J:Int→Mem→Prop) (z:Int) S=>J z S) (fun z=>⟨48,[(1,.int .i64 i0_0),(7,.int .i64 z)]⟩) (fun z=>[]) (fun i Sx H1=>csr<|mv E E<|mv E E<|s_p E (y_gtr E E)<|gv E E<|nx<|c_ret<|q_ret Tryz.results162 (rv_tmp E rv_nil) ⟨_,E,H1⟩) (fun Jx hJx H2=>c_block<|c_loop (fun z=>⟨48,[(0,h),(1,.int .i64 i0_0),(2,.int .i64 n),(7,.int .i64 z)]⟩) (fun z=>[]) i0_0 (idx:=[]) H2 E ⟨E,E,E,E,True.intro⟩ E<|fun Xx hXx i_1 Sx_1 H3=>c_block<|csr<|mv E E<|s_p E (y_mul E E)<|s_p E (y_add E E)<|gv E E<|nx<|c_join2 H3 (fun (J:Mem→Prop) (z:Unit) S=>J S) (fun z=>⟨48,[(0,h),(1,.int .i64 i0_0),(2,.int .i64 n),(7,.int .i64 i_1),(8,.int .i64 (IntKind.i64.wrap ((IntKind.i64.wrap (2*i_1))+1)))]⟩) (fun z=>[]) (fun _ Sx_2 H4=>csr<|mv E E<|gv E E<|nx<|c_join2 H4 (fun (J:Int→Mem→Prop) (z:Int) S=>J z S) (fun z=>⟨48,[(0,h),(1,.int .i64 i0_0),(2,.int .i64 n),(7,.int .i64 i_1),(9,.int .i64 z)]⟩) (fun z=>[]) (fun j Sx_3 H5=>c_seq<|csr<|mv E E<|mv E E<|mv E E<|s_ci E E E H5 fun rv Sx_4 H6=>by obtain⟨t,rfl,H7⟩:=H6;exact by have H8:=ib_e H7;rcases H8 with ⟨rfl,H9⟩ | ⟨rfl,H9⟩;exact (s_p E (yB (y_not E) E)<|nx<|cfs E E<|q_then<|csr<|mv E E<|mv E E<|mv E E<|s_ci E E E H9 fun rv Sx_5 H10=>by obtain⟨rfl,H11⟩:=H10;exact nx<|c_region<|mv E E<|gv E E<|s_nil<|q_blk<|hXx j _ _ _ _ [] H11 E ⟨E,E,E,E,True.intro⟩ E);exact (s_p E (yB (y_not E) E)<|nx<|c_t E E<|c_exit<|q_then_exit<|q_blk_on E<|q_then_exit<|q_blk_out<|hJx i_1 _ _ _ _ [] H9 E ⟨E,E,True.intro⟩ E)) (fun Jx_1 hJx_1 H12=>csr<|mv E E<|s_p E (y_add E E)<|gv E E<|nxr<|mv E E<|mv E E<|iteK H12 (fun c H13=>s_p E (yT (y_lss E E) c)<|mv E E<|mv E E<|mv E E<|mv E E<|s_ci E E E H13 fun rv Sx_6 H14=>by obtain⟨t_1,rfl,H15⟩:=H14;exact by have H16:=ib_e H15;rcases H16 with ⟨rfl,H17⟩ | ⟨rfl,H17⟩;exact (pk E E E<|nx<|ctr E E<|mv E E<|gv E E<|s_nil<|hJx_1 (IntKind.i64.wrap ((IntKind.i64.wrap ((IntKind.i64.wrap (2*i_1))+1))+1)) _ _ _ _ [] H17 E ⟨E,E,E,E,E,True.intro⟩ E);exact (pk E E E<|nx<|cfs E E<|hJx_1 (IntKind.i64.wrap ((IntKind.i64.wrap (2*i_1))+1)) _ _ _ _ [] H17 E ⟨E,E,E,E,E,True.intro⟩ E)) fun c H13=>s_p E (yF (y_lss E E) c)<|mv E E<|sk4 E E E E<|by exact pk E E E<|nx<|cfs E E<|hJx_1 (IntKind.i64.wrap ((IntKind.i64.wrap (2*i_1))+1)) _ _ _ _ [] H13 E ⟨E,E,E,E,E,True.intro⟩ E)) (fun Jx_2 hJx_2 H18=>csr<|mv E E<|mv E E<|iteK H18 (fun c_1 H19=>s_p E (yT (y_geq E E) c_1)<|mv E E<|sk2 E E<|pk E E E<|nx<|c_t E E<|c_exit<|q_then_exit<|q_blk_on E<|q_then_exit<|q_blk_out<|hJx i_1 _ _ _ _ [] H19 E ⟨E,E,True.intro⟩ E) fun c_1 H19=>s_p E (yF (y_geq E E) c_1)<|mv E E<|mv E E<|iteK H19 (fun c_2 H20=>s_p E (yT (y_lss E E) c_2)<|pk E E E<|nx<|c_t E E<|c_exit<|q_then_exit<|q_blk_on E<|q_then_exit<|q_blk_out<|hJx i_1 _ _ _ _ [] H20 E ⟨E,E,True.intro⟩ E) fun c_2 H20=>s_p E (yF (y_lss E E) c_2)<|pk E E E<|nx<|cfs E E<|hJx_2 () _ _ _ _ [] H20 E ⟨E,E,E,E,E,True.intro⟩ E))
def b_heap_up (S:Mem) (h:Value) (j:Int) (Q:Mem→Prop):Prop:=
 lp (fun Xx (j_1:Int) (Sx:Mem)=>
 jn (fun (Sx_1:Mem)=>
 ci Tryz.prog Sx_1 h "Swap" [.int .i64 (IntKind.i64.wrap (Int.tdiv (IntKind.i64.wrap (j_1 - 1)) 2)), .int .i64 j_1] fun rv Sx_2 => rv = .tuple #[] ∧ 
 Xx (IntKind.i64.wrap (Int.tdiv (IntKind.i64.wrap (j_1-1)) 2)) Sx_2) fun Jx=>
 if IntKind.i64.wrap (Int.tdiv (IntKind.i64.wrap (j_1-1)) 2)=j_1 then
 Q Sx
 else
 ci Tryz.prog Sx h "Less" [.int .i64 j_1, .int .i64 (IntKind.i64.wrap (Int.tdiv (IntKind.i64.wrap (j_1 - 1)) 2))] fun rv Sx_3 => ∃ t : Bool, rv = .bool t ∧ 
 if t=true then
 Jx Sx_3
 else
 Q Sx_3) j S
theorem t_heap_up {S:Mem} {h:Value} {j:Int} {Q:Mem→Prop} (H:b_heap_up S h j Q):heap_up S h j Q:=by
 unfold b_heap_up at H
 exact Tr.intro Tryz.func215 E Tryz.ntmps215 E fun w0=>c_block<|c_loop (fun z=>⟨23,[(0,h),(1,.int .i64 z)]⟩) (fun z=>[]) j (idx:=[]) H E ⟨E,E,True.intro⟩ E<|fun Xx hXx j_1 Sx H1=>c_block<|csr<|mv E E<|s_p E (y_sub E E)<|s_p E (y_quo E E (by decide))<|gv E E<|nx<|c_join2 H1 (fun (J:Mem→Prop) (z:Unit) S=>J S) (fun z=>⟨23,[(0,h),(1,.int .i64 j_1),(4,.int .i64 (IntKind.i64.wrap (Int.tdiv (IntKind.i64.wrap (j_1-1)) 2)))]⟩) (fun z=>[]) (fun _ Sx_1 H2=>csr<|mv E E<|mv E E<|mv E E<|s_ci E E E H2 fun rv Sx_2 H3=>by obtain⟨rfl,H4⟩:=H3;exact nx<|c_region<|mv E E<|gv E E<|s_nil<|q_blk<|hXx (IntKind.i64.wrap (Int.tdiv (IntKind.i64.wrap (j_1-1)) 2)) _ _ _ _ [] H4 E ⟨E,E,True.intro⟩ E) (fun Jx hJx H5=>csr<|mv E E<|mv E E<|iteK H5 (fun c H6=>ceT E E E (c)<|mv E E<|sk4 E E E E<|s_skip E<|pk E E E<|nx<|c_t E E<|c_exit<|q_then_exit<|q_blk_on E<|q_then_exit<|q_blk_out<|q_end Tryz.results215 (rv_nil) ⟨E,H6⟩) fun c H6=>ceF E E E (c)<|mv E E<|mv E E<|mv E E<|mv E E<|s_ci E E E H6 fun rv Sx_3 H7=>by obtain⟨t,rfl,H8⟩:=H7;exact by have H9:=ib_e H8;rcases H9 with ⟨rfl,H10⟩ | ⟨rfl,H10⟩;exact (s_p E (yB (y_not E) E)<|pk E E E<|nx<|cfs E E<|hJx () _ _ _ _ [] H10 E ⟨E,E,E,True.intro⟩ E);exact (s_p E (yB (y_not E) E)<|pk E E E<|nx<|c_t E E<|c_exit<|q_then_exit<|q_blk_on E<|q_then_exit<|q_blk_out<|q_end Tryz.results215 (rv_nil) ⟨E,H10⟩))
def b_pool_New (S:Mem) (frames:Int) (Q:Pt→Mem→Prop):Prop:=
 al S 178 ([.slice (none) 0 0,.slice (none) 0 0,.int .i64 (-1)]) fun b Sx=>
 jn (fun (Sx_1:Mem)=>
 heap_Init Sx_1 (.iface 205 (.pointer (some ⟨b,0,none⟩))) fun Sx_2=>
 Q (some (b,0)) Sx_2) fun Jx=>
 lp (fun Xx (t:Int) (Sx_3:Mem)=>
 if t<(if 512<(if frames<0 then 0 else frames) then 512 else (if frames<0 then 0 else frames)) then
 gL (Sx_3.cell b 0) fun t_1=>
 ap Sx_3 3 1 8 [.int .i64 0] t_1 1 ([.int .i64 t]) fun t_2 Sx_4=>
 pt Sx_4 b 0 1 ([eL t_2]) fun Sx_5=>
 gL (Sx_5.cell b 1) fun t_3=>
 ap Sx_5 4 1 1 [.bool false] t_3 1 ([.bool false]) fun t_4 Sx_6=>
 pt Sx_6 b 1 1 ([eL t_4]) fun Sx_7=>
 Xx (IntKind.i64.wrap (t+1)) Sx_7
 else
 Jx Sx_3) 0 Sx
theorem t_pool_New {S:Mem} {frames:Int} {Q:Pt→Mem→Prop} (H:b_pool_New S frames Q):pool_New S frames Q:=by
 unfold b_pool_New at H
 exact Tr.intro Tryz.func51 E Tryz.ntmps51 E fun w0=>csr<|gv E E<|nxr<|s_p E (y_build E E)<|by exact s_box E E E fun b=>s_pub 0 E fun hb=>have H1:=H b hb;gv E E<|nx<|c_join2 H1 (fun (J:Mem→Prop) (z:Unit) S=>J S) (fun z=>⟨39,[(3,.pointer (some ⟨b,0,none⟩))]⟩) (fun z=>[]) (fun _ Sx_1 H2=>csr<|mv E E<|s_p E (y_nc E)<|s_p E (y_fa E E)<|s_p E (y_iface E)<|s_k0 E E H2 fun Sx_2 H3=>nxr<|mv E E<|gv E E<|nx<|c_ret<|q_ret Tryz.results51 (rv_tmp E rv_nil) ⟨_,E,H3⟩) (fun Jx hJx H4=>csr<|mv E E<|s_p E (y_max E E)<|s_p E (y_min E E)<|mv E E<|nx<|c_block<|c_loop (fun z=>⟨39,[(3,.pointer (some ⟨b,0,none⟩)),(9,.int .i64 (if 512<(if frames<0 then 0 else frames) then 512 else (if frames<0 then 0 else frames))),(10,.int .i64 z)]⟩) (fun z=>[]) 0 (idx:=[]) H4 E ⟨E,E,E,True.intro⟩ E<|fun Xx hXx t Sx_3 H5=>csr<|iteK H5 (fun c H6=>s_p E (yT (y_lss E E) c)<|nx<|c_seq<|c_t E E<|c_skip<|q_then<|c_seq<|c_block<|csr<|mv E E<|gv E E<|nxr<|mv E E<|mv E E<|s_p E (y_nc E)<|s_p E (y_fa E E)<|gx H6 fun t_1 ht_1 H7=>s_v E (y_ld E) (hc_S ht_1)<|mv E E<|s_bs E E (by decide) E fun b_1=>s_app (sx:=t_1) (vs:=[.int .i64 t]) E E E (fc_V 0 E E) E E (by decide) H7 fun t_2 Sx_4 H8=>s_p E (y_nc E)<|s_p E (y_fa E E)<|an H8 fun c_1 H9=>s_stS E E E E E c_1 E<|nx<|c_region<|by exact mv E E<|mv E E<|s_p E (y_nc E)<|s_p E (y_fa E E)<|gx H9 fun t_3 ht_3 H10=>s_v E (y_ld E) (hc_S ht_3)<|s_bs E E (by decide) E fun b_2=>s_app (sx:=t_3) (vs:=[.bool false]) E E E (fc_V 1 E E) E E (by decide) H10 fun t_4 Sx_6 H11=>s_p E (y_nc E)<|s_p E (y_fa E E)<|an H11 fun c_2 H12=>s_stS E E E E E c_2 E<|s_nil<|q_blk<|q_then<|c_region<|s_p E (y_add E E)<|mv E E<|s_nil<|hXx (IntKind.i64.wrap (t+1)) _ _ _ _ [] H12 E ⟨E,E,E,True.intro⟩ E) fun c H6=>s_p E (yF (y_lss E E) c)<|nx<|c_seq<|c_f E E<|c_exit<|q_then_exit<|q_then_exit<|q_blk_out<|hJx () _ _ _ _ [] H6 E ⟨E,True.intro⟩ E)
def b_pool_Pool_Give (S:Mem) (p:Pt) (n:Int) (Q:Int→Mem→Prop):Prop:=
 jn (fun (Sx:Mem)=>
 nn p fun b o=>
 gL (Sx.cell b (o+1)) fun t=>
 sl t fun b_1 o_1 n_1 n_2=>
 0≤n∧n<((n_1:Nat):Int) ∧
 pt Sx b_1 (o_1+n.toNat*1) 1 ([.bool false]) fun Sx_1=>
 heap_Push Sx_1 (.iface 205 (.pointer (some ⟨b,o,none⟩))) (.iface 3 (.int .i64 n)) fun Sx_2=>
 Q 0 Sx_2) fun Jx=>
 if p=none then
 Q 2 S
 else
 if n<0 then
 Q 1 S
 else
 nn p fun b_2 o_2=>
 gL (S.cell b_2 (o_2+1)) fun t_1=>
 if (t_1.n:Int)≤n then
 Q 1 S
 else
 gL (S.cell b_2 (o_2+1)) fun t_2=>
 sl t_2 fun b_3 o_3 n_3 n_4=>
 0≤n∧n<((n_3:Nat):Int) ∧
 gB (S.cell b_3 (o_3+n.toNat*1)) fun t_3=>
 if t_3=true then
 Jx S
 else
 Q 8 S
theorem t_pool_Pool_Give {S:Mem} {p:Pt} {n:Int} {Q:Int→Mem→Prop} (H:b_pool_Pool_Give S p n Q):pool_Pool_Give S p n Q:=by
 unfold b_pool_Pool_Give at H
 exact Tr.intro Tryz.func88 E Tryz.ntmps88 E fun w0=>csr<|gv E E<|nx<|c_join2 H (fun (J:Mem→Prop) (z:Unit) S=>J S) (fun z=>⟨42,[(0,eP p),(1,.int .i64 n)]⟩) (fun z=>[]) (fun _ Sx H1=>csr<|mv E E<|by obtain⟨b,o,rfl,H2⟩:=H1;exact s_p E (y_nc E)<|s_p E (y_fa E E)<|gx H2 fun t ht H3=>s_v E (y_ld E) (hc_S ht)<|mv E E<|by obtain⟨b_1,o_1,n_1,n_2,rfl,H4⟩:=H3;exact an2 H4 fun c c_1 H5=>s_p E (y_ixL E E c c_1 E)<|an H5 fun c_2 H6=>s_stS E E E E E c_2 E<|nxr<|mv E E<|s_p E (y_nc E)<|s_p E (y_fa E E)<|s_p E (y_iface E)<|mv E E<|s_p E (y_iface E)<|s_k0 E E H6 fun Sx_2 H7=>nxr<|gv E E<|nx<|c_ret<|q_ret Tryz.results88 (rv_tmp E rv_nil) ⟨_,E,H7⟩) (fun Jx hJx H8=>c_block<|csr<|mv E E<|iteK H8 (fun c_3 H9=>s_p E (yT (y_pnil (p:=p) E E) c_3)<|gv E E<|nx<|c_t E E<|csr<|gv E E<|nx<|c_ret<|q_blk_ret<|q_then_ret<|q_ret Tryz.results88 (rv_tmp E rv_nil) ⟨_,E,H9⟩) fun c_3 H9=>s_p E (yF (y_pnil (p:=p) E E) c_3)<|gv E E<|nx<|c_f E E<|csr<|mv E E<|iteK H9 (fun c_4 H10=>s_p E (yT (y_lss E E) c_4)<|mv E E<|sk4 E E E E<|sk2 E E<|s_skip E<|pk E E E<|gv E E<|nx<|c_t E E<|csr<|gv E E<|nx<|c_ret<|q_blk_ret<|q_then_ret<|q_ret Tryz.results88 (rv_tmp E rv_nil) ⟨_,E,H10⟩) fun c_4 H10=>s_p E (yF (y_lss E E) c_4)<|mv E E<|mv E E<|mv E E<|by obtain⟨b_2,o_2,rfl,H11⟩:=H10;exact s_p E (y_nc E)<|s_p E (y_fa E E)<|gx H11 fun t_1 ht_1 H12=>s_v E (y_ld E) (hc_S ht_1)<|s_p E (y_len E)<|iteK H12 (fun c_5 H13=>s_p E (yT (y_geq E E) c_5)<|pk E E E<|gv E E<|nx<|c_t E E<|csr<|gv E E<|nx<|c_ret<|q_blk_ret<|q_then_ret<|q_ret Tryz.results88 (rv_tmp E rv_nil) ⟨_,E,H13⟩) fun c_5 H13=>s_p E (yF (y_geq E E) c_5)<|pk E E E<|gv E E<|nx<|c_f E E<|csr<|mv E E<|s_p E (y_nc E)<|s_p E (y_fa E E)<|gx H13 fun t_2 ht_2 H14=>s_v E (y_ld E) (hc_S ht_2)<|mv E E<|by obtain⟨b_3,o_3,n_3,n_4,rfl,H15⟩:=H14;exact an2 H15 fun c_6 c_7 H16=>s_p E (y_ixL E E c_6 c_7 E)<|gx H16 fun t_3 ht_3 H17=>by have H18:=ib_e H17;rcases H18 with ⟨rfl,H19⟩ | ⟨rfl,H19⟩;exact (s_v E (y_ld E) (hc_S ht_3)<|s_p E (yB (y_not E) E)<|gv E E<|nx<|cfs E E<|q_blk<|hJx () _ _ _ _ [] H19 E ⟨E,E,True.intro⟩ E);exact (s_v E (y_ld E) (hc_S ht_3)<|s_p E (yB (y_not E) E)<|gv E E<|nx<|c_t E E<|csr<|gv E E<|nx<|c_ret<|q_blk_ret<|q_then_ret<|q_ret Tryz.results88 (rv_tmp E rv_nil) ⟨_,E,H19⟩))
def b_pool_Pool_Left (S:Mem) (p:Pt) (Q:Int→Mem→Prop):Prop:=
 if p=none then
 Q 0 S
 else
 nn p fun b o=>
 gL (S.cell b o) fun t=>
 Q (t.n:Int) S
theorem t_pool_Pool_Left {S:Mem} {p:Pt} {Q:Int→Mem→Prop} (H:b_pool_Pool_Left S p Q):pool_Pool_Left S p Q:=by
 unfold b_pool_Pool_Left at H
 exact Tr.intro Tryz.func34 E Tryz.ntmps34 E fun w0=>csr<|gv E E<|nx<|c_seq<|csr<|mv E E<|iteK H (fun c H1=>s_p E (yT (y_pnil (p:=p) E E) c)<|nx<|c_t E E<|csr<|gv E E<|nx<|c_ret<|q_then_ret<|q_ret Tryz.results34 (rv_tmp E rv_nil) ⟨_,E,H1⟩) fun c H1=>s_p E (yF (y_pnil (p:=p) E E) c)<|nx<|cfs E E<|q_then<|csr<|mv E E<|by obtain⟨b,o,rfl,H2⟩:=H1;exact s_p E (y_nc E)<|s_p E (y_fa E E)<|gx H2 fun t ht H3=>s_v E (y_ld E) (hc_S ht)<|s_p E (y_len E)<|gv E E<|nx<|c_ret<|q_ret Tryz.results34 (rv_tmp E rv_nil) ⟨_,E,H3⟩
def b_pool_Pool_Some (S:Mem) (p:Pt) (n:Int) (Q:Sl→Int→Mem→Prop):Prop:=
 jn (fun (Sx:Mem)=>
 jn (fun (l:Sl) (Sx_1:Mem)=>
 Q l 0 Sx_1) fun Jx=>
 lp (fun Xx (z:Sl×Int) (Sx_2:Mem)=>
 match z with
 | (l_1,t)=>
 if t<(if n<0 then 0 else n) then
 jn (fun (l_2:Sl) (Sx_3:Mem)=>
 Xx (l_2,IntKind.i64.wrap (t+1)) Sx_3) fun Jx_1=>
 pool_Pool_Take Sx_2 p fun t_1 t_2 Sx_4=>
 jn (fun (Sx_5:Mem)=>
 ap Sx_5 3 1 8 [.int .i64 0] l_1 1 ([.int .i64 t_1]) fun t_3 Sx_6=>
 Jx_1 t_3 Sx_6) fun Jx_2=>
 if t_2≠0 then
 jn (fun (Sx_7:Mem)=>
 Q (⟨none,0,0⟩) t_2 Sx_7) fun Jx_3=>
 lp (fun Xx_1 (t_4:Int) (Sx_8:Mem)=>
 if t_4<(l_1.n:Int) then
 sl l_1 fun b_1 o n_1 n_2=>
 0≤t_4∧t_4<((n_1:Nat):Int) ∧
 gI (Sx_8.cell b_1 (o+t_4.toNat*1)) .i64 fun t_5=>
 pool_Pool_Give Sx_8 p t_5 fun t_6 Sx_9=>
 Xx_1 (IntKind.i64.wrap (t_4+1)) Sx_9
 else
 Jx_3 Sx_8) 0 Sx_4
 else
 Jx_2 Sx_4
 else
 Jx l_1 Sx_2) (⟨none,0,0⟩,0) Sx) fun Jx_4=>
 if p=none then
 Q (⟨none,0,0⟩) 2 S
 else
 Jx_4 S
theorem t_pool_Pool_Some {S:Mem} {p:Pt} {n:Int} {Q:Sl→Int→Mem→Prop} (H:b_pool_Pool_Some S p n Q):pool_Pool_Some S p n Q:=by
 unfold b_pool_Pool_Some at H
 exact Tr.intro Tryz.func71 E Tryz.ntmps71 E fun w0=>csr<|gv E E<|gv E E<|nx<|c_join2 H (fun (J:Mem→Prop) (z:Unit) S=>J S) (fun z=>⟨41,[(0,eP p),(1,.int .i64 n)]⟩) (fun z=>[]) (fun _ Sx H1=>csr<|gv E E<|nx<|c_join2 H1 (fun (J:Sl→Mem→Prop) (z:Sl) S=>J z S) (fun z=>⟨41,[(6,eL z)]⟩) (fun z=>[]) (fun l Sx_1 H2=>csr<|mv E E<|gv E E<|gv E E<|nx<|c_ret<|q_ret Tryz.results71 (rv_tmp E (rv_tmp E rv_nil)) ⟨_,_,E,H2⟩) (fun Jx hJx H3=>csr<|mv E E<|s_p E (y_max E E)<|mv E E<|nx<|c_block<|c_loop (fun z=>⟨41,[(0,eP p),(6,eL z.1),(14,.int .i64 (if n<0 then 0 else n)),(15,.int .i64 z.2)]⟩) (fun z=>[]) (⟨none,0,0⟩,0) (idx:=[]) H3 E ⟨E,E,E,E,True.intro⟩ E<|by rintro Xx hXx ⟨l_1,t⟩ Sx_2 H4;exact csr<|iteK H4 (fun c H5=>s_p E (yT (y_lss E E) c)<|nx<|c_seq<|c_t E E<|c_skip<|q_then<|c_join2 H5 (fun (J:Sl→Mem→Prop) (z:Sl) S=>J z S) (fun z=>⟨41,[(0,eP p),(6,eL z),(14,.int .i64 (if n<0 then 0 else n)),(15,.int .i64 t)]⟩) (fun z=>[]) (fun l_2 Sx_3 H6=>c_region<|s_p E (y_add E E)<|mv E E<|s_nil<|hXx (l_2,IntKind.i64.wrap (t+1)) _ _ _ _ [] H6 E ⟨E,E,E,E,True.intro⟩ E) (fun Jx_1 hJx_1 H7=>c_block<|csr<|mv E E<|s_k2 E E H7 fun t_1 t_2 Sx_4 H8=>mv E E<|s_p E (y_extract E E)<|s_p E (y_extract E E)<|gv E E<|gv E E<|nx<|c_join2 H8 (fun (J:Mem→Prop) (z:Unit) S=>J S) (fun z=>⟨41,[(0,eP p),(6,eL l_1),(7,.int .i64 t_1),(14,.int .i64 (if n<0 then 0 else n)),(15,.int .i64 t)]⟩) (fun z=>[]) (fun _ Sx_5 H9=>c_region<|mv E E<|mv E E<|s_bs E E (by decide) E fun b=>s_app (sx:=l_1) (vs:=[.int .i64 t_1]) E E E (fc_V 0 E E) E E (by decide) H9 fun t_3 Sx_6 H10=>gv E E<|s_nil<|q_blk<|hJx_1 t_3 _ _ _ _ [] H10 E ⟨E,E,E,E,True.intro⟩ E) (fun Jx_2 hJx_2 H11=>csr<|mv E E<|iteK H11 (fun c_1 H12=>s_p E (yT (y_neq E E) c_1)<|nx<|c_t E E<|c_join2 H12 (fun (J:Mem→Prop) (z:Unit) S=>J S) (fun z=>⟨41,[(8,.int .i64 t_2)]⟩) (fun z=>[]) (fun _ Sx_7 H13=>csr<|mv E E<|gv E E<|gv E E<|nx<|c_ret<|q_then_ret<|q_blk_ret<|q_then_ret<|q_then_ret<|q_blk_ret<|q_then_ret<|q_ret Tryz.results71 (rv_tmp E (rv_tmp E rv_nil)) ⟨_,_,E,H13⟩) (fun Jx_3 hJx_3 H14=>csr<|mv E E<|s_p E (y_len E)<|mv E E<|nx<|c_block<|c_loop (fun z=>⟨41,[(0,eP p),(8,.int .i64 t_2),(24,eL l_1),(25,.int .i64 (l_1.n:Int)),(26,.int .i64 z)]⟩) (fun z=>[]) 0 (idx:=[]) H14 E ⟨E,E,E,E,E,True.intro⟩ E<|fun Xx_1 hXx_1 t_4 Sx_8 H15=>csr<|iteK H15 (fun c_2 H16=>s_p E (yT (y_lss E E) c_2)<|nx<|c_seq<|c_t E E<|c_skip<|q_then<|by exact c_seq<|c_block<|csr<|by obtain⟨b_1,o,n_1,n_2,rfl,H17⟩:=H16;exact an2 H17 fun c_3 c_4 H18=>s_p E (y_ixL E E c_3 c_4 E)<|gx H18 fun t_5 ht_5 H19=>s_v E (y_ld E) (hc_S ht_5)<|gv E E<|nx<|c_region<|mv E E<|mv E E<|s_k1 E E H19 fun t_6 Sx_9 H20=>s_nil<|q_blk<|q_then<|c_region<|s_p E (y_add E E)<|mv E E<|s_nil<|hXx_1 (IntKind.i64.wrap (t_4+1)) _ _ _ _ [] H20 E ⟨E,E,E,E,E,True.intro⟩ E) fun c_2 H16=>s_p E (yF (y_lss E E) c_2)<|nx<|c_seq<|c_f E E<|c_exit<|q_then_exit<|q_then_exit<|q_blk_out<|by exact hJx_3 () _ _ _ _ [] H16 E ⟨E,True.intro⟩ E)) fun c_1 H12=>s_p E (yF (y_neq E E) c_1)<|nx<|cfs E E<|hJx_2 () _ _ _ _ [] H12 E ⟨E,E,E,E,E,True.intro⟩ E))) fun c H5=>s_p E (yF (y_lss E E) c)<|nx<|c_seq<|c_f E E<|c_exit<|q_then_exit<|q_then_exit<|q_blk_out<|hJx l_1 _ _ _ _ [] H5 E ⟨E,True.intro⟩ E)) (fun Jx_4 hJx_4 H21=>csr<|mv E E<|iteK H21 (fun c_5 H22=>s_p E (yT (y_pnil (p:=p) E E) c_5)<|nx<|c_t E E<|csr<|gv E E<|gv E E<|nx<|c_ret<|q_then_ret<|q_ret Tryz.results71 (rv_tmp E (rv_tmp E rv_nil)) ⟨_,_,E,H22⟩) fun c_5 H22=>s_p E (yF (y_pnil (p:=p) E E) c_5)<|nx<|cfs E E<|hJx_4 () _ _ _ _ [] H22 E ⟨E,E,True.intro⟩ E)
def b_pool_Pool_Take (S:Mem) (p:Pt) (Q:Int→Int→Mem→Prop):Prop:=
 jn (fun (Sx:Mem)=>
 nn p fun b o=>
 gI (Sx.cell b (o+2)) .i64 fun t=>
 pt Sx b (o+2) 1 ([.int .i64 (if IntKind.i64.wrap (t-1)<(-1) then (-1) else IntKind.i64.wrap (t-1))]) fun Sx_1=>
 heap_Pop Sx_1 (.iface 205 (.pointer (some ⟨b,o,none⟩))) fun t_1 Sx_2=>
 asI t_1 3 .i64 fun t_2=>
 gL (Sx_2.cell b (o+1)) fun t_3=>
 sl t_3 fun b_1 o_1 n n_1=>
 0≤t_2∧t_2<((n:Nat):Int) ∧
 pt Sx_2 b_1 (o_1+t_2.toNat*1) 1 ([.bool true]) fun Sx_3=>
 Q t_2 0 Sx_3) fun Jx=>
 if p=none then
 Q 0 2 S
 else
 nn p fun b_2 o_2=>
 gI (S.cell b_2 (o_2+2)) .i64 fun t_4=>
 if t_4=0 then
 Q 0 3 S
 else
 gL (S.cell b_2 o_2) fun t_5=>
 if (t_5.n:Int)=0 then
 Q 0 3 S
 else
 Jx S
theorem t_pool_Pool_Take {S:Mem} {p:Pt} {Q:Int→Int→Mem→Prop} (H:b_pool_Pool_Take S p Q):pool_Pool_Take S p Q:=by
 unfold b_pool_Pool_Take at H
 exact Tr.intro Tryz.func139 E Tryz.ntmps139 E fun w0=>csr<|gv E E<|gv E E<|nx<|c_join2 H (fun (J:Mem→Prop) (z:Unit) S=>J S) (fun z=>⟨44,[(0,eP p)]⟩) (fun z=>[]) (fun _ Sx H1=>csr<|mv E E<|mv E E<|by obtain⟨b,o,rfl,H2⟩:=H1;exact s_p E (y_nc E)<|s_p E (y_fa E E)<|gx H2 fun t ht H3=>s_v E (y_ld E) (hc_S ht)<|s_p E (y_sub E E)<|s_p E (y_max E E)<|s_p E (y_nc E)<|s_p E (y_fa E E)<|an H3 fun c H4=>s_stS E E E E E c E<|nxr<|mv E E<|s_p E (y_nc E)<|s_p E (y_fa E E)<|s_p E (y_iface E)<|s_k1 E E H4 fun t_1 Sx_2 H5=>by obtain⟨t_2,rfl,H6⟩:=H5;exact s_p E (y_assert E)<|gv E E<|nxr<|mv E E<|s_p E (y_nc E)<|s_p E (y_fa E E)<|gx H6 fun t_3 ht_3 H7=>s_v E (y_ld E) (hc_S ht_3)<|mv E E<|by obtain⟨b_1,o_1,n,n_1,rfl,H8⟩:=H7;exact an2 H8 fun c_1 c_2 H9=>s_p E (y_ixL E E c_1 c_2 E)<|an H9 fun c_3 H10=>s_stS E E E E E c_3 E<|nxr<|mv E E<|gv E E<|gv E E<|nx<|c_ret<|q_ret Tryz.results139 (rv_tmp E (rv_tmp E rv_nil)) ⟨_,_,E,H10⟩) (fun Jx hJx H11=>c_block<|csr<|mv E E<|iteK H11 (fun c_4 H12=>s_p E (yT (y_pnil (p:=p) E E) c_4)<|gv E E<|nx<|c_t E E<|csr<|gv E E<|gv E E<|nx<|c_ret<|q_blk_ret<|q_then_ret<|q_ret Tryz.results139 (rv_tmp E (rv_tmp E rv_nil)) ⟨_,_,E,H12⟩) fun c_4 H12=>s_p E (yF (y_pnil (p:=p) E E) c_4)<|gv E E<|nx<|c_f E E<|csr<|mv E E<|by obtain⟨b_2,o_2,rfl,H13⟩:=H12;exact s_p E (y_nc E)<|s_p E (y_fa E E)<|gx H13 fun t_4 ht_4 H14=>s_v E (y_ld E) (hc_S ht_4)<|iteK H14 (fun c_5 H15=>ceT E E E (c_5)<|mv E E<|sk4 E E E E<|sk2 E E<|pk E E E<|gv E E<|nx<|c_t E E<|csr<|gv E E<|gv E E<|nx<|c_ret<|q_blk_ret<|q_then_ret<|q_ret Tryz.results139 (rv_tmp E (rv_tmp E rv_nil)) ⟨_,_,E,H15⟩) fun c_5 H15=>ceF E E E (c_5)<|mv E E<|mv E E<|s_p E (y_nc E)<|s_p E (y_fa E E)<|gx H15 fun t_5 ht_5 H16=>s_v E (y_ld E) (hc_S ht_5)<|s_p E (y_len E)<|iteK H16 (fun c_6 H17=>ceT E E E (c_6)<|pk E E E<|gv E E<|nx<|c_t E E<|csr<|gv E E<|gv E E<|nx<|c_ret<|q_blk_ret<|q_then_ret<|q_ret Tryz.results139 (rv_tmp E (rv_tmp E rv_nil)) ⟨_,_,E,H17⟩) fun c_6 H17=>ceF E E E (c_6)<|pk E E E<|gv E E<|nx<|cfs E E<|q_blk<|hJx () _ _ _ _ [] H17 E ⟨E,True.intro⟩ E)
def b_pool_free_Len (S:Mem) (f:Sl) (Q:Int→Mem→Prop):Prop:=
 Q (f.n:Int) S
theorem t_pool_free_Len {S:Mem} {f:Sl} {Q:Int→Mem→Prop} (H:b_pool_free_Len S f Q):pool_free_Len S f Q:=by
 unfold b_pool_free_Len at H
 exact Tr.intro Tryz.func273 E Tryz.ntmps273 E fun w0=>csr<|gv E E<|nxr<|mv E E<|s_p E (y_len E)<|gv E E<|nx<|c_ret<|q_ret Tryz.results273 (rv_tmp E rv_nil) ⟨_,E,H⟩
def b_pool_free_Less (S:Mem) (f:Sl) (i:Int) (j:Int) (Q:Bool→Mem→Prop):Prop:=
 sl f fun b o n n_1=>
 0≤i∧i<((n:Nat):Int) ∧
 gI (S.cell b (o+i.toNat*1)) .i64 fun t=>
 0≤j∧j<((n:Nat):Int) ∧
 gI (S.cell b (o+j.toNat*1)) .i64 fun t_1=>
 Q (decide (t<t_1)) S
theorem t_pool_free_Less {S:Mem} {f:Sl} {i:Int} {j:Int} {Q:Bool→Mem→Prop} (H:b_pool_free_Less S f i j Q):pool_free_Less S f i j Q:=by
 unfold b_pool_free_Less at H
 exact Tr.intro Tryz.func274 E Tryz.ntmps274 E fun w0=>csr<|gv E E<|nx<|c_seq<|c_drawn (by kernel_rfl)<|aTP 0 E (by decide +kernel) E (y_move E)<|by exact aTP 1 E (by decide +kernel) E (y_move E)<|by exact by obtain⟨b,o,n,n_1,rfl,H1⟩:=H;exact an2 H1 fun c c_1 H2=>aTP 2 E (by decide +kernel) E (y_ixL E E c c_1 E)<|by exact gx H2 fun t ht H3=>aT 3 E (by decide +kernel) E (y_ld E) (hc_S ht)<|by exact aTP 4 E (by decide +kernel) E (y_move E)<|by exact aTP 5 E (by decide +kernel) E (y_move E)<|by exact an2 H3 fun c_2 c_3 H4=>aTP 6 E (by decide +kernel) E (y_ixL E E c_2 c_3 E)<|by exact gx H4 fun t_1 ht_1 H5=>aT 7 E (by decide +kernel) E (y_ld E) (hc_S ht_1)<|by exact aTP 8 E (by decide +kernel) E (y_lss E E)<|by exact aTP 9 E (by decide +kernel) E (y_assign E)<|by exact a_done (by decide +kernel)<|by exact q_then<|c_ret<|q_ret Tryz.results274 (rv_tmp E rv_nil) ⟨_,E,H5⟩
def b_pool_free_Pop (S:Mem) (f:Pt) (Q:Value→Mem→Prop):Prop:=
 nn f fun b o=>
 gL (S.cell b o) fun t=>
 sl t fun b_1 o_1 n n_1=>
 0≤IntKind.i64.wrap ((t.n:Int)-1)∧IntKind.i64.wrap ((t.n:Int)-1)<((n:Nat):Int) ∧
 gI (S.cell b_1 (o_1+(IntKind.i64.wrap ((t.n:Int)-1)).toNat*1)) .i64 fun t_1=>
 (0:Int)≤IntKind.i64.wrap ((n:Int)-1)∧IntKind.i64.wrap ((n:Int)-1)≤((⟨some (b_1,o_1),n,n_1⟩:Sl).c:Int) ∧
 lt (slc 1 (⟨some (b_1,o_1),n,n_1⟩:Sl) 0 (IntKind.i64.wrap ((n:Int)-1))) fun t_2=>
 pt S b o 1 ([eL t_2]) fun Sx=>
 Q (.iface 3 (.int .i64 t_1)) Sx
theorem t_pool_free_Pop {S:Mem} {f:Pt} {Q:Value→Mem→Prop} (H:b_pool_free_Pop S f Q):pool_free_Pop S f Q:=by
 unfold b_pool_free_Pop at H
 exact Tr.intro Tryz.func276 E Tryz.ntmps276 E fun w0=>csr<|gv E E<|nxr<|mv E E<|by obtain⟨b,o,rfl,H1⟩:=H;exact s_p E (y_nc E)<|gx H1 fun t ht H2=>s_v E (y_ld E) (hc_S ht)<|gv E E<|nxr<|mv E E<|mv E E<|s_p E (y_len E)<|s_p E (y_sub E E)<|by obtain⟨b_1,o_1,n,n_1,rfl,H3⟩:=H2;exact an2 H3 fun c c_1 H4=>s_p E (y_ixL E E c c_1 E)<|gx H4 fun t_1 ht_1 H5=>s_v E (y_ld E) (hc_S ht_1)<|gv E E<|nxr<|mv E E<|mv E E<|mv E E<|s_p E (y_len E)<|s_p E (y_sub E E)<|an2 H5 fun c_3 c_4 H6=>by obtain⟨t_2,et_2,H7⟩:=lt_e H6;exact s_p E (eqv (y_slc (a:=0) (b:=IntKind.i64.wrap ((n:Int)-1)) E E E (by decide) c_3 c_4) (congrArg eL et_2))<|s_p E (y_nc E)<|an H7 fun c_5 H8=>s_stS E E E E E c_5 E<|nxr<|mv E E<|s_p E (y_iface E)<|gv E E<|nx<|c_ret<|q_ret Tryz.results276 (rv_tmp E rv_nil) ⟨_,E,H8⟩
def b_pool_free_Push (S:Mem) (f:Pt) (x:Value) (Q:Mem→Prop):Prop:=
 nn f fun b o=>
 gL (S.cell b o) fun t=>
 asI x 3 .i64 fun t_1=>
 ap S 3 1 8 [.int .i64 0] t 1 ([.int .i64 t_1]) fun t_2 Sx=>
 pt Sx b o 1 ([eL t_2]) fun Sx_1=>
 Q Sx_1
theorem t_pool_free_Push {S:Mem} {f:Pt} {x:Value} {Q:Mem→Prop} (H:b_pool_free_Push S f x Q):pool_free_Push S f x Q:=by
 unfold b_pool_free_Push at H
 exact Tr.intro Tryz.func277 E Tryz.ntmps277 E fun w0=>c_drawn (by kernel_rfl)<|a_takeP 0 E (by decide +kernel) np_body E (y_move E)<|by exact a_takeP 1 E (by decide +kernel) np_body E (y_move E)<|by exact by obtain⟨b,o,rfl,H1⟩:=H;exact a_takeP 2 E (by decide +kernel) np_body E (y_nc E)<|by exact gx H1 fun t ht H2=>a_take 3 E (by decide +kernel) np_body E (y_ld E) (hc_S ht)<|by exact a_takeP 4 E (by decide +kernel) np_body E (y_move E)<|by exact by obtain⟨t_1,rfl,H3⟩:=H2;exact a_takeP 5 E (by decide +kernel) np_body E (y_assert E)<|by exact a_step 6 (by decide +kernel) E<|by exact s_bs E E (by decide) E fun b_1=>s_nil<|q_any (ac_cons (hc_S ht) ac_nil)<|a_step 7 (by decide +kernel) E<|by exact s_app (sx:=t) (vs:=[.int .i64 t_1]) E E E (fc_V 0 E E) E E (by decide) H3 fun t_2 Sx H4=>s_nil<|q_any ac_nil<|a_takeP 8 E (by decide +kernel) np_body E (y_nc E)<|by exact a_step 9 (by decide +kernel) E<|by exact an H4 fun c H5=>s_stS E E E E E c E<|s_nil<|q_any ac_nil<|a_done (by decide +kernel)<|by exact q_end Tryz.results277 (rv_nil) ⟨E,H5⟩
def b_pool_free_Swap (S:Mem) (f:Sl) (i:Int) (j:Int) (Q:Mem→Prop):Prop:=
 sl f fun b o n n_1=>
 0≤j∧j<((n:Nat):Int) ∧
 gI (S.cell b (o+j.toNat*1)) .i64 fun t=>
 0≤i∧i<((n:Nat):Int) ∧
 gI (S.cell b (o+i.toNat*1)) .i64 fun t_1=>
 0≤i∧i<((n:Nat):Int) ∧
 pt S b (o+i.toNat*1) 1 ([.int .i64 t]) fun Sx=>
 0≤j∧j<((n:Nat):Int) ∧
 pt Sx b (o+j.toNat*1) 1 ([.int .i64 t_1]) fun Sx_1=>
 Q Sx_1
theorem t_pool_free_Swap {S:Mem} {f:Sl} {i:Int} {j:Int} {Q:Mem→Prop} (H:b_pool_free_Swap S f i j Q):pool_free_Swap S f i j Q:=by
 unfold b_pool_free_Swap at H
 exact Tr.intro Tryz.func275 E Tryz.ntmps275 E fun w0=>c_drawn (by kernel_rfl)<|a_takeP 0 E (by decide +kernel) np_body E (y_move E)<|by exact a_takeP 1 E (by decide +kernel) np_body E (y_move E)<|by exact a_takeP 2 E (by decide +kernel) np_body E (y_move E)<|by exact a_takeP 3 E (by decide +kernel) np_body E (y_move E)<|by exact a_takeP 4 E (by decide +kernel) np_body E (y_move E)<|by exact a_takeP 5 E (by decide +kernel) np_body E (y_move E)<|by exact by obtain⟨b,o,n,n_1,rfl,H1⟩:=H;exact an2 H1 fun c c_1 H2=>a_takeP 6 E (by decide +kernel) np_body E (y_ixL E E c c_1 E)<|by exact gx H2 fun t ht H3=>a_take 7 E (by decide +kernel) np_body E (y_ld E) (hc_S ht)<|by exact a_takeP 8 E (by decide +kernel) np_body E (y_move E)<|by exact a_takeP 9 E (by decide +kernel) np_body E (y_move E)<|by exact an2 H3 fun c_2 c_3 H4=>a_takeP 10 E (by decide +kernel) np_body E (y_ixL E E c_2 c_3 E)<|by exact gx H4 fun t_1 ht_1 H5=>a_take 11 E (by decide +kernel) np_body E (y_ld E) (hc_S ht_1)<|by exact an2 H5 fun c_4 c_5 H6=>a_takeP 12 E (by decide +kernel) np_body E (y_ixL E E c_4 c_5 E)<|by exact a_step 13 (by decide +kernel) E<|by exact an H6 fun c_6 H7=>s_stS E E E E E c_6 E<|s_nil<|q_any ac_nil<|an2 H7 fun c_7 c_8 H8=>a_takeP 14 E (by decide +kernel) np_body E (y_ixL E E c_7 c_8 E)<|by exact a_step 15 (by decide +kernel) E<|by exact an H8 fun c_9 H9=>s_stS E E E E E c_9 E<|s_nil<|q_any ac_nil<|a_done (by decide +kernel)<|by exact q_end Tryz.results275 (rv_nil) ⟨E,H9⟩
end Go.Proofs.YtabdpmnhjlmnlaaGreatDoor
end
section
namespace Go.Proofs.YtabdpmnhjlmnlaaGreatDoor
open Go Go.Pt
attribute [local irreducible] Code.wp Back bodyPost wpList FR WL WC WQ WA AW Tr Yc HC AllC
set_option maxRecDepth 20000
set_option maxHeartbeats 4000000
set_option linter.unusedVariables false
def b_alarm_Alarm_before (S:Mem) (a:List Value) (b:List Value) (Q:Bool→Mem→Prop):Prop:=
 a.length=3 ∧
 b.length=3 ∧
 jn (fun (Sx:Mem)=>
 gI (nthL a 2) .i64 fun t=>
 gI (nthL b 2) .i64 fun t_1=>
 Q (decide (t<t_1)) Sx) fun Jx=>
 gI (nthL a 0) .u64 fun t_2=>
 gI (nthL b 0) .u64 fun t_3=>
 if t_2≠t_3 then
 gI (nthL a 0) .u64 fun t_4=>
 gI (nthL b 0) .u64 fun t_5=>
 Q (decide (t_4<t_5)) S
 else
 gI (nthL a 1) .i64 fun t_6=>
 gI (nthL b 1) .i64 fun t_7=>
 if t_6≠t_7 then
 gI (nthL a 1) .i64 fun t_8=>
 gI (nthL b 1) .i64 fun t_9=>
 Q (decide (t_8<t_9)) S
 else
 Jx S
theorem t_alarm_Alarm_before {S:Mem} {a:List Value} {b:List Value} {Q:Bool→Mem→Prop} (H:b_alarm_Alarm_before S a b Q):alarm_Alarm_before S a b Q:=by
 unfold b_alarm_Alarm_before at H
 exact Tr.intro Tryz.func272 E Tryz.ntmps272 E fun w0=>an H fun ha H1=>an H1 fun hb H2=>csr<|s_box E E E fun b_1=>s_box E E E fun b_2=>gv E E<|nx<|c_join2 H2 (fun (J:Mem→Prop) (z:Unit) S=>J S) (fun z=>⟨32,[(2,.pointer (some ⟨b_1,0,none⟩)),(3,.pointer (some ⟨b_2,0,none⟩))]⟩) (fun z=>[⟨b_1,193,a⟩,⟨b_2,193,b⟩]) (fun _ Sx H3=>csr<|s_p E (y_fa E E)<|gx H3 fun t ht H4=>s_v E (y_ld E) (hc_V 0 E ht)<|s_p E (y_fa E E)<|gx H4 fun t_1 ht_1 H5=>s_v E (y_ld E) (hc_V 1 E ht_1)<|s_p E (y_lss E E)<|gv E E<|nx<|c_ret<|q_ret Tryz.results272 (rv_tmp E rv_nil) ⟨_,E,H5⟩) (fun Jx hJx H6=>c_block<|csr<|s_p E (y_fa E E)<|gx H6 fun t_2 ht_2 H7=>s_v E (y_ld E) (hc_V 0 E ht_2)<|s_p E (y_fa E E)<|gx H7 fun t_3 ht_3 H8=>s_v E (y_ld E) (hc_V 1 E ht_3)<|iteK H8 (fun c H9=>s_p E (yT (y_neq E E) c)<|gv E E<|nx<|c_t E E<|csr<|s_p E (y_fa E E)<|gx H9 fun t_4 ht_4 H10=>s_v E (y_ld E) (hc_V 0 E ht_4)<|s_p E (y_fa E E)<|gx H10 fun t_5 ht_5 H11=>s_v E (y_ld E) (hc_V 1 E ht_5)<|s_p E (y_lss E E)<|gv E E<|nx<|c_ret<|q_blk_ret<|q_then_ret<|q_ret Tryz.results272 (rv_tmp E rv_nil) ⟨_,E,H11⟩) fun c H9=>s_p E (yF (y_neq E E) c)<|gv E E<|nx<|c_f E E<|csr<|s_p E (y_fa E E)<|gx H9 fun t_6 ht_6 H12=>s_v E (y_ld E) (hc_V 0 E ht_6)<|s_p E (y_fa E E)<|gx H12 fun t_7 ht_7 H13=>s_v E (y_ld E) (hc_V 1 E ht_7)<|iteK H13 (fun c_1 H14=>s_p E (yT (y_neq E E) c_1)<|gv E E<|nx<|c_t E E<|csr<|s_p E (y_fa E E)<|gx H14 fun t_8 ht_8 H15=>s_v E (y_ld E) (hc_V 0 E ht_8)<|s_p E (y_fa E E)<|gx H15 fun t_9 ht_9 H16=>s_v E (y_ld E) (hc_V 1 E ht_9)<|s_p E (y_lss E E)<|gv E E<|nx<|by exact c_ret<|q_blk_ret<|q_then_ret<|q_ret Tryz.results272 (rv_tmp E rv_nil) ⟨_,E,H16⟩) fun c_1 H14=>s_p E (yF (y_neq E E) c_1)<|gv E E<|nx<|cfs E E<|q_blk<|hJx () _ _ _ _ [0,0] H14 E ⟨E,E,True.intro⟩ E)
def b_alarm_Clock_Drop (S:Mem) (c:Pt) (vm:Int) (seat:Int) (Q:Mem→Prop):Prop:=
 al S 3 ([.int .i64 vm]) fun b Sx=>
 al Sx 3 ([.int .i64 seat]) fun b_1 Sx_1=>
 alarm_Clock_drop Sx_1 c (.func (.func 242) #[] #[.pointer (some ⟨b,0,none⟩),.pointer (some ⟨b_1,0,none⟩)]) fun Sx_2=>
 Q Sx_2
theorem t_alarm_Clock_Drop {S:Mem} {c:Pt} {vm:Int} {seat:Int} {Q:Mem→Prop} (H:b_alarm_Clock_Drop S c vm seat Q):alarm_Clock_Drop S c vm seat Q:=by
 unfold b_alarm_Clock_Drop at H
 exact Tr.intro Tryz.func230 E Tryz.ntmps230 E fun w0=>csr<|s_box E E E fun b=>s_pub 0 E fun hb=>have H1:=H b hb;s_box E E E fun b_1=>s_pub 0 E fun hb_1=>have H2:=H1 b_1 hb_1;nx<|c_region<|mv E E<|s_p E (y_mkf E)<|s_k0 E E H2 fun Sx_2 H3=>s_nil<|q_end Tryz.results230 (rv_nil) ⟨E,H3⟩
def b_alarm_Clock_Drop_f1 (S:Mem) (a:List Value) (t:Pt) (t_1:Pt) (Q:Bool→Mem→Prop):Prop:=
 a.length=3 ∧
 gI (nthL a 1) .i64 fun t_2=>
 nn t fun b_1 o=>
 gI (S.cell b_1 o) .i64 fun t_3=>
 if t_2=t_3 then
 gI (nthL a 2) .i64 fun t_4=>
 nn t_1 fun b_2 o_1=>
 gI (S.cell b_2 o_1) .i64 fun t_5=>
 Q (decide (t_4=t_5)) S
 else
 Q false S
theorem t_alarm_Clock_Drop_f1 {S:Mem} {a:List Value} {t:Pt} {t_1:Pt} {Q:Bool→Mem→Prop} (H:b_alarm_Clock_Drop_f1 S a t t_1 Q):alarm_Clock_Drop_f1 S a t t_1 Q:=by
 unfold b_alarm_Clock_Drop_f1 at H
 exact Tr.intro Tryz.func242 E Tryz.ntmps242 E fun w0=>an H fun ha H1=>csr<|s_box E E E fun b=>gv E E<|nxr<|s_p E (y_fa E E)<|gx H1 fun t_2 ht_2 H2=>s_v E (y_ld E) (hc_V 0 E ht_2)<|by obtain⟨b_1,o,rfl,H3⟩:=H2;exact gx H3 fun t_3 ht_3 H4=>s_v E (y_ld E) (hc_S ht_3)<|iteK H4 (fun c H5=>ceT E E E (c)<|mv E E<|s_p E (y_fa E E)<|gx H5 fun t_4 ht_4 H6=>s_v E (y_ld E) (hc_V 0 E ht_4)<|by obtain⟨b_2,o_1,rfl,H7⟩:=H6;exact gx H7 fun t_5 ht_5 H8=>s_v E (y_ld E) (hc_S ht_5)<|s_p E (y_eql E E)<|pk E E E<|gv E E<|nx<|c_ret<|q_ret Tryz.results242 (rv_tmp E rv_nil) ⟨_,E,H8⟩) fun c H5=>ceF E E E (c)<|mv E E<|sk4 E E E E<|pk E E E<|gv E E<|nx<|c_ret<|q_ret Tryz.results242 (rv_tmp E rv_nil) ⟨_,E,H5⟩
def b_alarm_Clock_Set (S:Mem) (c:Pt) (vm:Int) (seat:Int) (atx:Int) (Q:Int→Mem→Prop):Prop:=
 jn (fun (Sx:Mem)=>
 alarm_Clock_Drop Sx c vm seat fun Sx_1=>
 nn c fun b o=>
 heap_Push Sx_1 (.iface 269 (.pointer (some ⟨b,o,none⟩))) (.iface 193 (valL ([.int .u64 atx,.int .i64 vm,.int .i64 seat]))) fun Sx_2=>
 Q 0 Sx_2) fun Jx=>
 if c=none then
 Q 2 S
 else
 if vm<0 then
 Q 1 S
 else
 if 6≤vm then
 Q 1 S
 else
 if seat<0 then
 Q 1 S
 else
 if 3≤seat then
 Q 1 S
 else
 Jx S
theorem t_alarm_Clock_Set {S:Mem} {c:Pt} {vm:Int} {seat:Int} {atx:Int} {Q:Int→Mem→Prop} (H:b_alarm_Clock_Set S c vm seat atx Q):alarm_Clock_Set S c vm seat atx Q:=by
 unfold b_alarm_Clock_Set at H
 exact Tr.intro Tryz.func205 E Tryz.ntmps205 E fun w0=>csr<|gv E E<|nx<|c_join2 H (fun (J:Mem→Prop) (z:Unit) S=>J S) (fun z=>⟨41,[(0,eP c),(1,.int .i64 vm),(2,.int .i64 seat),(3,.int .u64 atx)]⟩) (fun z=>[]) (fun _ Sx H1=>csr<|mv E E<|mv E E<|mv E E<|s_k0 E E H1 fun Sx_1 H2=>nxr<|mv E E<|by obtain⟨b,o,rfl,H3⟩:=H2;exact s_p E (y_nc E)<|s_p E (y_fa E E)<|s_p E (y_iface E)<|mv E E<|mv E E<|mv E E<|s_p E (y_build E E)<|by exact s_p E (y_iface E)<|s_k0 E E H3 fun Sx_2 H4=>nxr<|gv E E<|nx<|c_ret<|q_ret Tryz.results205 (rv_tmp E rv_nil) ⟨_,E,H4⟩) (fun Jx hJx H5=>c_block<|csr<|mv E E<|iteK H5 (fun c_1 H6=>s_p E (yT (y_pnil (p:=c) E E) c_1)<|gv E E<|nx<|c_t E E<|csr<|gv E E<|nx<|c_ret<|q_blk_ret<|q_then_ret<|q_ret Tryz.results205 (rv_tmp E rv_nil) ⟨_,E,H6⟩) fun c_1 H6=>s_p E (yF (y_pnil (p:=c) E E) c_1)<|gv E E<|nx<|c_f E E<|csr<|mv E E<|iteK H6 (fun c_2 H7=>s_p E (yT (y_lss E E) c_2)<|mv E E<|sk2 E E<|pk E E E<|mv E E<|sk2 E E<|pk E E E<|mv E E<|sk2 E E<|pk E E E<|gv E E<|nx<|c_t E E<|csr<|gv E E<|nx<|c_ret<|q_blk_ret<|q_then_ret<|q_ret Tryz.results205 (rv_tmp E rv_nil) ⟨_,E,H7⟩) fun c_2 H7=>s_p E (yF (y_lss E E) c_2)<|mv E E<|mv E E<|iteK H7 (fun c_3 H8=>s_p E (yT (y_geq E E) c_3)<|pk E E E<|mv E E<|sk2 E E<|pk E E E<|mv E E<|sk2 E E<|pk E E E<|gv E E<|nx<|c_t E E<|csr<|gv E E<|nx<|c_ret<|q_blk_ret<|q_then_ret<|q_ret Tryz.results205 (rv_tmp E rv_nil) ⟨_,E,H8⟩) fun c_3 H8=>s_p E (yF (y_geq E E) c_3)<|pk E E E<|mv E E<|mv E E<|iteK H8 (fun c_4 H9=>s_p E (yT (y_lss E E) c_4)<|pk E E E<|mv E E<|sk2 E E<|pk E E E<|gv E E<|nx<|c_t E E<|csr<|gv E E<|nx<|c_ret<|q_blk_ret<|q_then_ret<|q_ret Tryz.results205 (rv_tmp E rv_nil) ⟨_,E,H9⟩) fun c_4 H9=>s_p E (yF (y_lss E E) c_4)<|pk E E E<|mv E E<|mv E E<|iteK H9 (fun c_5 H10=>s_p E (yT (y_geq E E) c_5)<|pk E E E<|gv E E<|nx<|c_t E E<|csr<|gv E E<|nx<|c_ret<|q_blk_ret<|q_then_ret<|q_ret Tryz.results205 (rv_tmp E rv_nil) ⟨_,E,H10⟩) fun c_5 H10=>s_p E (yF (y_geq E E) c_5)<|pk E E E<|gv E E<|nx<|cfs E E<|q_blk<|hJx () _ _ _ _ [] H10 E ⟨E,E,E,E,True.intro⟩ E)
def b_alarm_Clock_drop (S:Mem) (c:Pt) (ofx:Value) (Q:Mem→Prop):Prop:=
 if c≠none then
 nn c fun b o=>
 gL (S.cell b o) fun t=>
 slices_DeleteFunc_alarm_row_alarm_Alarm S t ofx fun t_1 Sx=>
 pt Sx b o 1 ([eL t_1]) fun Sx_1=>
 heap_Init Sx_1 (.iface 269 (.pointer (some ⟨b,o,none⟩))) fun Sx_2=>
 Q Sx_2
 else
 Q S
theorem t_alarm_Clock_drop {S:Mem} {c:Pt} {ofx:Value} {Q:Mem→Prop} (H:b_alarm_Clock_drop S c ofx Q):alarm_Clock_drop S c ofx Q:=by
 unfold b_alarm_Clock_drop at H
 exact Tr.intro Tryz.func153 E Tryz.ntmps153 E fun w0=>csr<|mv E E<|iteK H (fun c_1 H1=>s_p E (yT (y_pnn (p:=c) E E) c_1)<|nx<|c_t E E<|csr<|mv E E<|mv E E<|by obtain⟨b,o,rfl,H2⟩:=H1;exact s_p E (y_nc E)<|s_p E (y_fa E E)<|gx H2 fun t ht H3=>s_v E (y_ld E) (hc_S ht)<|mv E E<|s_k1 E E H3 fun t_1 Sx H4=>s_p E (y_nc E)<|s_p E (y_fa E E)<|an H4 fun c_2 H5=>s_stS E E E E E c_2 E<|nx<|c_region<|mv E E<|s_p E (y_nc E)<|s_p E (y_fa E E)<|s_p E (y_iface E)<|s_k0 E E H5 fun Sx_2 H6=>s_nil<|q_end Tryz.results153 (rv_nil) ⟨E,H6⟩) fun c_1 H1=>s_p E (yF (y_pnn (p:=c) E E) c_1)<|nx<|cfs E E<|q_end Tryz.results153 (rv_nil) ⟨E,H1⟩
def b_alarm_row_Len (S:Mem) (r:Sl) (Q:Int→Mem→Prop):Prop:=
 Q (r.n:Int) S
theorem t_alarm_row_Len {S:Mem} {r:Sl} {Q:Int→Mem→Prop} (H:b_alarm_row_Len S r Q):alarm_row_Len S r Q:=by
 unfold b_alarm_row_Len at H
 exact Tr.intro Tryz.func269 E Tryz.ntmps269 E fun w0=>csr<|gv E E<|nxr<|mv E E<|s_p E (y_len E)<|gv E E<|nx<|c_ret<|q_ret Tryz.results269 (rv_tmp E rv_nil) ⟨_,E,H⟩
def b_alarm_row_Less (S:Mem) (r:Sl) (i:Int) (j:Int) (Q:Bool→Mem→Prop):Prop:=
 sl r fun b o n n_1=>
 0≤i∧i<((n:Nat):Int) ∧
 gA (S.part b (o+i.toNat*3) 3) fun t=>
 0≤j∧j<((n:Nat):Int) ∧
 gA (S.part b (o+j.toNat*3) 3) fun t_1=>
 alarm_Alarm_before S t t_1 fun t_2 Sx=>
 Q t_2 Sx
theorem t_alarm_row_Less {S:Mem} {r:Sl} {i:Int} {j:Int} {Q:Bool→Mem→Prop} (H:b_alarm_row_Less S r i j Q):alarm_row_Less S r i j Q:=by
 unfold b_alarm_row_Less at H
 exact Tr.intro Tryz.func270 E Tryz.ntmps270 E fun w0=>csr<|gv E E<|nx<|c_seq<|c_drawn (by kernel_rfl)<|aTP 0 E (by decide +kernel) E (y_move E)<|by exact aTP 1 E (by decide +kernel) E (y_move E)<|by exact by obtain⟨b,o,n,n_1,rfl,H1⟩:=H;exact an2 H1 fun c c_1 H2=>aTP 2 E (by decide +kernel) E (y_ixL E E c c_1 E)<|by exact gx H2 fun t ht H3=>by refine aT 3 E (by decide +kernel) E (y_ldA E (part_len ht)) (hc_SP ht) ?_;exact aTP 4 E (by decide +kernel) E (y_move E)<|by exact aTP 5 E (by decide +kernel) E (y_move E)<|by exact an2 H3 fun c_2 c_3 H4=>aTP 6 E (by decide +kernel) E (y_ixL E E c_2 c_3 E)<|by exact gx H4 fun t_1 ht_1 H5=>by refine aT 7 E (by decide +kernel) E (y_ldA E (part_len ht_1)) (hc_SP ht_1) ?_;exact a_step 8 (by decide +kernel) E<|by exact s_k1 E E H5 fun t_2 Sx H6=>s_nil<|q_any ac_nil<|aTP 9 E (by decide +kernel) E (y_assign E)<|by exact a_done (by decide +kernel)<|by exact q_then<|c_ret<|q_ret Tryz.results270 (rv_tmp E rv_nil) ⟨_,E,H6⟩
def b_alarm_row_Push (S:Mem) (r:Pt) (x:Value) (Q:Mem→Prop):Prop:=
 nn r fun b o=>
 gL (S.cell b o) fun t=>
 asA x 193 3 fun t_1=>
 t_1.all (·.oneCell')=true ∧
 ap S 193 3 24 [.int .u64 0,.int .i64 0,.int .i64 0] t 1 t_1 fun t_2 Sx=>
 pt Sx b o 1 ([eL t_2]) fun Sx_1=>
 Q Sx_1
theorem t_alarm_row_Push {S:Mem} {r:Pt} {x:Value} {Q:Mem→Prop} (H:b_alarm_row_Push S r x Q):alarm_row_Push S r x Q:=by
 unfold b_alarm_row_Push at H
 exact Tr.intro Tryz.func281 E Tryz.ntmps281 E fun w0=>c_drawn (by kernel_rfl)<|a_takeP 0 E (by decide +kernel) np_body E (y_move E)<|by exact a_takeP 1 E (by decide +kernel) np_body E (y_move E)<|by exact by obtain⟨b,o,rfl,H1⟩:=H;exact a_takeP 2 E (by decide +kernel) np_body E (y_nc E)<|by exact gx H1 fun t ht H2=>a_take 3 E (by decide +kernel) np_body E (y_ld E) (hc_S ht)<|by exact a_takeP 4 E (by decide +kernel) np_body E (y_move E)<|by exact by obtain⟨t_1,rfl,ht_1,H3⟩:=H2;exact a_takeP 5 E (by decide +kernel) np_body E (y_assert E)<|by exact a_step 6 (by decide +kernel) E<|by exact s_bs E E (by decide) (fill_one (size:=3) E ht_1) fun b_1=>s_nil<|q_any (ac_cons (hc_S ht) ac_nil)<|a_step 7 (by decide +kernel) E<|by exact an H3 fun c H4=>s_app (sx:=t) (vs:=t_1) E E E (fc_V 0 E (lpart_all ht_1)) ht_1 c (by decide) H4 fun t_2 Sx H5=>s_nil<|q_any ac_nil<|a_takeP 8 E (by decide +kernel) np_body E (y_nc E)<|by exact a_step 9 (by decide +kernel) E<|by exact an H5 fun c_1 H6=>s_stS E E E E E c_1 E<|s_nil<|q_any ac_nil<|a_done (by decide +kernel)<|by exact q_end Tryz.results281 (rv_nil) ⟨E,H6⟩
def b_alarm_row_Swap (S:Mem) (r:Sl) (i:Int) (j:Int) (Q:Mem→Prop):Prop:=
 sl r fun b o n n_1=>
 0≤j∧j<((n:Nat):Int) ∧
 gA (S.part b (o+j.toNat*3) 3) fun t=>
 0≤i∧i<((n:Nat):Int) ∧
 gA (S.part b (o+i.toNat*3) 3) fun t_1=>
 0≤i∧i<((n:Nat):Int) ∧
 t.all (·.oneCell')=true ∧
 pt S b (o+i.toNat*3) 3 t fun Sx=>
 0≤j∧j<((n:Nat):Int) ∧
 t_1.all (·.oneCell')=true ∧
 pt Sx b (o+j.toNat*3) 3 t_1 fun Sx_1=>
 Q Sx_1
theorem t_alarm_row_Swap {S:Mem} {r:Sl} {i:Int} {j:Int} {Q:Mem→Prop} (H:b_alarm_row_Swap S r i j Q):alarm_row_Swap S r i j Q:=by
 unfold b_alarm_row_Swap at H
 exact Tr.intro Tryz.func271 E Tryz.ntmps271 E fun w0=>c_drawn (by kernel_rfl)<|a_takeP 0 E (by decide +kernel) np_body E (y_move E)<|by exact a_takeP 1 E (by decide +kernel) np_body E (y_move E)<|by exact a_takeP 2 E (by decide +kernel) np_body E (y_move E)<|by exact a_takeP 3 E (by decide +kernel) np_body E (y_move E)<|by exact a_takeP 4 E (by decide +kernel) np_body E (y_move E)<|by exact a_takeP 5 E (by decide +kernel) np_body E (y_move E)<|by exact by obtain⟨b,o,n,n_1,rfl,H1⟩:=H;exact an2 H1 fun c c_1 H2=>a_takeP 6 E (by decide +kernel) np_body E (y_ixL E E c c_1 E)<|by exact gx H2 fun t ht H3=>by refine a_take 7 E (by decide +kernel) np_body E (y_ldA E (part_len ht)) (hc_SP ht) ?_;exact a_takeP 8 E (by decide +kernel) np_body E (y_move E)<|by exact a_takeP 9 E (by decide +kernel) np_body E (y_move E)<|by exact an2 H3 fun c_2 c_3 H4=>a_takeP 10 E (by decide +kernel) np_body E (y_ixL E E c_2 c_3 E)<|by exact gx H4 fun t_1 ht_1 H5=>by refine a_take 11 E (by decide +kernel) np_body E (y_ldA E (part_len ht_1)) (hc_SP ht_1) ?_;exact an2 H5 fun c_4 c_5 H6=>a_takeP 12 E (by decide +kernel) np_body E (y_ixL E E c_4 c_5 E)<|by exact a_step 13 (by decide +kernel) E<|by exact an H6 fun c_6 H7=>an H7 fun c_7 H8=>s_stS E E E E (part_len ht) c_7 c_6<|s_nil<|q_any ac_nil<|an2 H8 fun c_8 c_9 H9=>a_takeP 14 E (by decide +kernel) np_body E (y_ixL E E c_8 c_9 E)<|by exact a_step 15 (by decide +kernel) E<|by exact an H9 fun c_10 H10=>an H10 fun c_11 H11=>s_stS E E E E (part_len ht_1) c_11 c_10<|s_nil<|q_any ac_nil<|a_done (by decide +kernel)<|by exact q_end Tryz.results271 (rv_nil) ⟨E,H11⟩
def b_slices_DeleteFunc_alarm_row_alarm_Alarm (S:Mem) (s:Sl) (del:Value) (Q:Sl→Mem→Prop):Prop:=
 slices_IndexFunc_alarm_row_alarm_Alarm S s del fun t Sx=>
 jn (fun (Sx_1:Mem)=>
 jn (fun (i:Int) (Sx_2:Mem)=>
 (0:Int)≤i∧(i:Int)≤(s.n:Int)∧(s.n:Int)≤(s.c:Int) ∧
 lt (slc 3 s i (s.n:Int)) fun t_1=>
 clr Sx_2 3 [.int .u64 0,.int .i64 0,.int .i64 0] t_1 fun Sx_3=>
 (0:Int)≤i∧i≤(s.c:Int) ∧
 lt (slc 3 s 0 i) fun t_2=>
 Q t_2 Sx_3) fun Jx=>
 lp (fun Xx (z:Int×Int) (Sx_4:Mem)=>
 match z with
 | (i_1,j)=>
 jn (fun (Sx_5:Mem)=>
 sl s fun b o n n_1=>
 0≤j∧j<((n:Nat):Int) ∧
 gA (Sx_5.part b (o+j.toNat*3) 3) fun t_3=>
 t_3.all (·.oneCell')=true ∧
 cv Tryz.prog Sx_5 del [valL t_3] fun rv Sx_6=>∃ t_4:Bool,rv=.bool t_4∧
 if t_4=true then
 Xx (i_1,IntKind.i64.wrap (j+1)) Sx_6
 else
 0≤i_1∧i_1<((n:Nat):Int) ∧
 t_3.all (·.oneCell')=true ∧
 pt Sx_6 b (o+i_1.toNat*3) 3 t_3 fun Sx_7=>
 Xx (IntKind.i64.wrap (i_1+1),IntKind.i64.wrap (j+1)) Sx_7) fun Jx_1=>
 if j<(s.n:Int) then
 Jx_1 Sx_4
 else
 Jx i_1 Sx_4) (t,IntKind.i64.wrap (t+1)) Sx_1) fun Jx_2=>
 if t=(-1) then
 Q s Sx
 else
 Jx_2 Sx
theorem t_slices_DeleteFunc_alarm_row_alarm_Alarm {S:Mem} {s:Sl} {del:Value} {Q:Sl→Mem→Prop} (H:b_slices_DeleteFunc_alarm_row_alarm_Alarm S s del Q):slices_DeleteFunc_alarm_row_alarm_Alarm S s del Q:=by
 unfold b_slices_DeleteFunc_alarm_row_alarm_Alarm at H
 exact Tr.intro Tryz.func216 E Tryz.ntmps216 E fun w0=>csr<|gv E E<|nxr<|mv E E<|mv E E<|s_k1 E E H fun t Sx H1=>gv E E<|nx<|c_join2 H1 (fun (J:Mem→Prop) (z:Unit) S=>J S) (fun z=>⟨42,[(0,eL s),(1,del),(5,.int .i64 t)]⟩) (fun z=>[]) (fun _ Sx_1 H2=>c_join2 H2 (fun (J:Int→Mem→Prop) (z:Int) S=>J z S) (fun z=>⟨42,[(0,eL s),(5,.int .i64 z)]⟩) (fun z=>[]) (fun i Sx_2 H3=>csr<|mv E E<|mv E E<|an3 H3 fun c c_1 c_2 H4=>by obtain⟨t_1,et_1,H5⟩:=lt_e H4;exact s_p E (eqv (y_slc (a:=i) (b:=(s.n:Int)) E E E c c_1 c_2) (congrArg eL et_1))<|s_clr (s:=t_1) (z:=[.int .u64 0,.int .i64 0,.int .i64 0]) E E E H5 fun Sx_3 H6=>nxr<|mv E E<|mv E E<|an2 H6 fun c_4 c_5 H7=>by obtain⟨t_2,et_2,H8⟩:=lt_e H7;exact s_p E (eqv (y_slc (a:=0) (b:=i) E E E (by decide) c_4 c_5) (congrArg eL et_2))<|gv E E<|nx<|c_ret<|q_ret Tryz.results216 (rv_tmp E rv_nil) ⟨_,E,H8⟩) (fun Jx hJx H9=>csr<|mv E E<|s_p E (y_add E E)<|gv E E<|nx<|c_block<|c_loop (fun z=>⟨42,[(0,eL s),(1,del),(5,.int .i64 z.1),(6,.int .i64 z.2)]⟩) (fun z=>[]) (t,IntKind.i64.wrap (t+1)) (idx:=[]) H9 E ⟨E,E,E,E,True.intro⟩ E<|by rintro Xx hXx ⟨i_1,j⟩ Sx_4 H10;exact c_join2 H10 (fun (J:Mem→Prop) (z:Unit) S=>J S) (fun z=>⟨42,[(0,eL s),(1,del),(5,.int .i64 i_1),(6,.int .i64 j)]⟩) (fun z=>[]) (fun _ Sx_5 H11=>c_seq<|c_block<|csr<|mv E E<|mv E E<|by obtain⟨b,o,n,n_1,rfl,H12⟩:=H11;exact an2 H12 fun c_6 c_7 H13=>s_p E (y_ixL E E c_6 c_7 E)<|gx H13 fun t_3 ht_3 H14=>by refine s_v E (y_ldA E (part_len ht_3)) (hc_SP ht_3) ?_;exact by refine s_alloc E fun b_1=>?_;exact an H14 fun c_8 H15=>s_stV_all 0 E E E E E (part_len ht_3) E c_8<|nxr<|mv E E<|by refine s_v E (y_ldA E (part_len ht_3)) (hc_VP (k:=3) 0 E (lpart_all (part_len ht_3))) ?_;exact s_cv E E E H15 fun rv Sx_6 H16=>by obtain⟨t_4,rfl,H17⟩:=H16;exact by have H18:=ib_e H17;rcases H18 with ⟨rfl,H19⟩ | ⟨rfl,H19⟩;exact (s_p E (yB (y_not E) E)<|nx<|cfs E E<|q_blk<|q_then<|c_region<|mv E E<|s_p E (y_add E E)<|gv E E<|s_nil<|hXx (i_1,IntKind.i64.wrap (j+1)) _ _ _ _ [] H19 E ⟨E,E,E,E,True.intro⟩ E);exact (s_p E (yB (y_not E) E)<|nx<|c_t E E<|csr<|mv E E<|mv E E<|by refine s_v E (y_ldA E (part_len ht_3)) (hc_VP (k:=3) 0 E (lpart_all (part_len ht_3))) ?_;exact an2 H19 fun c_9 c_10 H20=>s_p E (y_ixL E E c_9 c_10 E)<|an H20 fun c_11 H21=>an H21 fun c_12 H22=>s_stS E E E E (part_len ht_3) c_12 c_11<|nx<|c_region<|mv E E<|s_p E (y_add E E)<|gv E E<|s_nil<|q_blk<|q_then<|c_region<|mv E E<|s_p E (y_add E E)<|gv E E<|s_nil<|hXx (IntKind.i64.wrap (i_1+1),IntKind.i64.wrap (j+1)) _ _ _ _ [] H22 E ⟨E,E,E,E,True.intro⟩ E)) (fun Jx_1 hJx_1 H23=>csr<|mv E E<|mv E E<|s_p E (y_len E)<|iteK H23 (fun c_13 H24=>s_p E (yT (y_lss E E) c_13)<|nx<|c_t E E<|c_skip<|hJx_1 () _ _ _ _ [] H24 E ⟨E,E,E,E,True.intro⟩ E) fun c_13 H24=>s_p E (yF (y_lss E E) c_13)<|nx<|c_f E E<|c_exit<|q_then_exit<|q_then_exit<|q_blk_out<|hJx i_1 _ _ _ _ [] H24 E ⟨E,E,True.intro⟩ E))) (fun Jx_2 hJx_2 H25=>csr<|mv E E<|iteK H25 (fun c_14 H26=>ceT E E E (c_14)<|nx<|c_t E E<|csr<|mv E E<|gv E E<|nx<|c_ret<|q_then_ret<|q_ret Tryz.results216 (rv_tmp E rv_nil) ⟨_,E,H26⟩) fun c_14 H26=>ceF E E E (c_14)<|nx<|cfs E E<|hJx_2 () _ _ _ _ [] H26 E ⟨E,E,E,True.intro⟩ E)
def b_slices_IndexFunc_alarm_row_alarm_Alarm (S:Mem) (s:Sl) (f:Value) (Q:Int→Mem→Prop):Prop:=
 jn (fun (Sx:Mem)=>
 Q (-1) Sx) fun Jx=>
 lp (fun Xx (t:Int) (Sx_1:Mem)=>
 if t<(s.n:Int) then
 sl s fun b o n n_1=>
 0≤t∧t<((n:Nat):Int) ∧
 gA (Sx_1.part b (o+t.toNat*3) 3) fun t_1=>
 cv Tryz.prog Sx_1 f [valL t_1] fun rv Sx_2=>∃ t_2:Bool,rv=.bool t_2∧
 if t_2=true then
 Q t Sx_2
 else
 Xx (IntKind.i64.wrap (t+1)) Sx_2
 else
 Jx Sx_1) 0 S
theorem t_slices_IndexFunc_alarm_row_alarm_Alarm {S:Mem} {s:Sl} {f:Value} {Q:Int→Mem→Prop} (H:b_slices_IndexFunc_alarm_row_alarm_Alarm S s f Q):slices_IndexFunc_alarm_row_alarm_Alarm S s f Q:=by
 unfold b_slices_IndexFunc_alarm_row_alarm_Alarm at H
 exact Tr.intro Tryz.func235 E Tryz.ntmps235 E fun w0=>csr<|gv E E<|nx<|c_join2 H (fun (J:Mem→Prop) (z:Unit) S=>J S) (fun z=>⟨19,[]⟩) (fun z=>[]) (fun _ Sx H1=>csr<|gv E E<|nx<|c_ret<|q_ret Tryz.results235 (rv_tmp E rv_nil) ⟨_,E,H1⟩) (fun Jx hJx H2=>csr<|mv E E<|s_p E (y_len E)<|mv E E<|nx<|c_block<|c_loop (fun z=>⟨19,[(0,eL s),(1,f),(7,.int .i64 (s.n:Int)),(8,.int .i64 z)]⟩) (fun z=>[]) 0 (idx:=[]) H2 E ⟨E,E,E,E,True.intro⟩ E<|fun Xx hXx t Sx_1 H3=>csr<|iteK H3 (fun c H4=>s_p E (yT (y_lss E E) c)<|nx<|c_seq<|c_t E E<|c_skip<|q_then<|c_seq<|c_block<|csr<|mv E E<|gv E E<|nxr<|mv E E<|mv E E<|mv E E<|by obtain⟨b,o,n,n_1,rfl,H5⟩:=H4;exact an2 H5 fun c_1 c_2 H6=>s_p E (y_ixL E E c_1 c_2 E)<|gx H6 fun t_1 ht_1 H7=>by refine s_v E (y_ldA E (part_len ht_1)) (hc_SP ht_1) ?_;exact s_cv E E E H7 fun rv Sx_2 H8=>by obtain⟨t_2,rfl,H9⟩:=H8;exact by have H10:=ib_e H9;rcases H10 with ⟨rfl,H11⟩ | ⟨rfl,H11⟩;exact (nx<|c_t E E<|csr<|mv E E<|gv E E<|nx<|c_ret<|q_blk_ret<|q_then_ret<|q_then_ret<|q_blk_ret<|q_then_ret<|q_ret Tryz.results235 (rv_tmp E rv_nil) ⟨_,E,H11⟩);exact (nx<|cfs E E<|q_blk<|q_then<|c_region<|s_p E (y_add E E)<|mv E E<|s_nil<|hXx (IntKind.i64.wrap (t+1)) _ _ _ _ [] H11 E ⟨E,E,E,E,True.intro⟩ E)) fun c H4=>s_p E (yF (y_lss E E) c)<|nx<|c_seq<|c_f E E<|c_exit<|q_then_exit<|q_then_exit<|q_blk_out<|hJx () _ _ _ _ [] H4 E True.intro E)
def b_alarm_Clock_DropVM (S:Mem) (c:Pt) (vm:Int) (Q:Mem→Prop):Prop:=
 al S 3 ([.int .i64 vm]) fun b Sx=>
 alarm_Clock_drop Sx c (.func (.func 154) #[] #[.pointer (some ⟨b,0,none⟩)]) fun Sx_1=>
 Q Sx_1
theorem t_alarm_Clock_DropVM {S:Mem} {c:Pt} {vm:Int} {Q:Mem→Prop} (H:b_alarm_Clock_DropVM S c vm Q):alarm_Clock_DropVM S c vm Q:=by
 unfold b_alarm_Clock_DropVM at H
 exact Tr.intro Tryz.func91 E Tryz.ntmps91 E fun w0=>csr<|s_box E E E fun b=>s_pub 0 E fun hb=>have H1:=H b hb;nx<|c_region<|mv E E<|s_p E (y_mkf E)<|s_k0 E E H1 fun Sx_1 H2=>s_nil<|q_end Tryz.results91 (rv_nil) ⟨E,H2⟩
def b_alarm_Clock_DropVM_f1 (S:Mem) (a:List Value) (t:Pt) (Q:Bool→Mem→Prop):Prop:=
 a.length=3 ∧
 gI (nthL a 1) .i64 fun t_1=>
 nn t fun b_1 o=>
 gI (S.cell b_1 o) .i64 fun t_2=>
 Q (decide (t_1=t_2)) S
theorem t_alarm_Clock_DropVM_f1 {S:Mem} {a:List Value} {t:Pt} {Q:Bool→Mem→Prop} (H:b_alarm_Clock_DropVM_f1 S a t Q):alarm_Clock_DropVM_f1 S a t Q:=by
 unfold b_alarm_Clock_DropVM_f1 at H
 exact Tr.intro Tryz.func154 E Tryz.ntmps154 E fun w0=>an H fun ha H1=>csr<|s_box E E E fun b=>gv E E<|nxr<|s_p E (y_fa E E)<|gx H1 fun t_1 ht_1 H2=>s_v E (y_ld E) (hc_V 0 E ht_1)<|by obtain⟨b_1,o,rfl,H3⟩:=H2;exact gx H3 fun t_2 ht_2 H4=>s_v E (y_ld E) (hc_S ht_2)<|s_p E (y_eql E E)<|gv E E<|nx<|c_ret<|q_ret Tryz.results154 (rv_tmp E rv_nil) ⟨_,E,H4⟩
end Go.Proofs.YtabdpmnhjlmnlaaGreatDoor
end
