/-
  Texts laid together, part 7 of 7: laws of a walk over data, contracts of functions, each whole by itself.
-/
import Derived.Test.YtaaogcnjfkgnoaaMgc
import Derived.Test.YtaaogcnjfkgnoaaMgf
set_option maxRecDepth 100000
set_option linter.unusedVariables false
set_option linter.unusedSimpArgs false
namespace Go.Proofs.Ytaaogcnjfkgnoaa
open Go.RowKit
def OpSm (x : Sm) : Prop := (-9223372036854775808 ≤ x.fr ∧ x.fr < 9223372036854775808) ∧ (-9223372036854775808 ≤ x.kd ∧ x.kd < 9223372036854775808) ∧ (-9223372036854775808 ≤ x.vw ∧ x.vw < 9223372036854775808) ∧ (-9223372036854775808 ≤ x.sq ∧ x.sq < 9223372036854775808) ∧ (-9223372036854775808 ≤ x.tm ∧ x.tm < 9223372036854775808)
theorem ofT_sm {n : Nat} {ds : List AV} (h : ofT Try.prog n 41 ds) : ∃ x : Sm,ds = smC x ∧ OpSm x := by
 obtain ⟨m,a0,b0,rfl,h0,a1,b1,rfl,h1,a2,b2,rfl,h2,a3,b3,rfl,h3,a4,b4,rfl,h4,rfl⟩ := ofT_struct Try.underlying41 h
 obtain ⟨x0,rfl,q0⟩ := ofT_i64 Try.underlying3 h0
 obtain ⟨x1,rfl,q1⟩ := ofT_i64 Try.underlying3 h1
 obtain ⟨x2,rfl,q2⟩ := ofT_i64 Try.underlying3 h2
 obtain ⟨x3,rfl,q3⟩ := ofT_i64 Try.underlying3 h3
 obtain ⟨x4,rfl,q4⟩ := ofT_i64 Try.underlying3 h4
 exact ⟨⟨x0,x1,x2,x3,x4⟩,rfl,q0,q1,q2,q3,q4⟩
theorem ofT_sms {n : Nat} {ds : List AV} (h : ofT Try.prog n 27 ds) : ∃ l : List Sm,ds = [SL (l.map smE)] ∧ l.length ≤ 9223372036854775807 ∧ ∀ x ∈ l,OpSm x := by
 obtain ⟨m,es,rfl,hl,he⟩ := ofT_slice Try.underlying27 h
 obtain ⟨l,rfl,hi⟩ := list_of (f := smE) (Q := OpSm) fun x hx=>by
  obtain ⟨q1,q2⟩ := he x hx
  obtain ⟨y,hy,hi⟩ := ofT_sm q1
  exact ⟨y,by rw [cells_agg (q2.trans (by kernel_rfl)),hy];rfl,hi⟩
 exact ⟨l,rfl,by rw [List.length_map] at hl;exact hl,hi⟩
def OpCe (x : Ce) : Prop := (-9223372036854775808 ≤ x.sq ∧ x.sq < 9223372036854775808) ∧ (-9223372036854775808 ≤ x.vw ∧ x.vw < 9223372036854775808) ∧ (-9223372036854775808 ≤ x.tm ∧ x.tm < 9223372036854775808) ∧ x.body.length ≤ 9223372036854775807 ∧ x.vs.length ≤ 9223372036854775807 ∧ (∀ y ∈ x.vs,OpSm y)
theorem ofT_ce {n : Nat} {ds : List AV} (h : ofT Try.prog n 54 ds) : ∃ x : Ce,ds = ceC x ∧ OpCe x := by
 obtain ⟨m,a0,b0,rfl,h0,a1,b1,rfl,h1,a2,b2,rfl,h2,a3,b3,rfl,h3,a4,b4,rfl,h4,rfl⟩ := ofT_struct Try.underlying54 h
 obtain ⟨x0,rfl,q0⟩ := ofT_i64 Try.underlying3 h0
 obtain ⟨x1,rfl,q1⟩ := ofT_i64 Try.underlying3 h1
 obtain ⟨x2,rfl,q2⟩ := ofT_i64 Try.underlying3 h2
 obtain ⟨x3,rfl,q3⟩ := ofT_str Try.underlying9 h3
 obtain ⟨x4,rfl,q4,r4⟩ := ofT_sms h4
 exact ⟨⟨x0,x1,x2,x3,x4⟩,rfl,q0,q1,q2,q3,q4,r4⟩
theorem ofT_ces {n : Nat} {ds : List AV} (h : ofT Try.prog n 28 ds) : ∃ l : List Ce,ds = [SL (l.map ceE)] ∧ l.length ≤ 9223372036854775807 ∧ ∀ x ∈ l,OpCe x := by
 obtain ⟨m,es,rfl,hl,he⟩ := ofT_slice Try.underlying28 h
 obtain ⟨l,rfl,hi⟩ := list_of (f := ceE) (Q := OpCe) fun x hx=>by
  obtain ⟨q1,q2⟩ := he x hx
  obtain ⟨y,hy,hi⟩ := ofT_ce q1
  exact ⟨y,by rw [cells_agg (q2.trans (by kernel_rfl)),hy];rfl,hi⟩
 exact ⟨l,rfl,by rw [List.length_map] at hl;exact hl,hi⟩
def OpCh (x : Ch) : Prop := (-9223372036854775808 ≤ x.fr ∧ x.fr < 9223372036854775808) ∧ (-9223372036854775808 ≤ x.vw ∧ x.vw < 9223372036854775808) ∧ (-9223372036854775808 ≤ x.st ∧ x.st < 9223372036854775808) ∧ (-9223372036854775808 ≤ x.rt ∧ x.rt < 9223372036854775808) ∧ x.pf.length ≤ 9223372036854775807 ∧ (∀ y ∈ x.pf,OpSm y) ∧ x.cs.length ≤ 9223372036854775807 ∧ (∀ y ∈ x.cs,OpCe y)
theorem ofT_cg {n : Nat} {ds : List AV} (h : ofT Try.prog n 30 ds) : ∃ x : Ch,ds = cgC x ∧ OpCh x := by
 obtain ⟨m,a0,b0,rfl,h0,a1,b1,rfl,h1,a2,b2,rfl,h2,a3,b3,rfl,h3,a4,b4,rfl,h4,a5,b5,rfl,h5,rfl⟩ := ofT_struct Try.underlying30 h
 obtain ⟨x0,rfl,q0⟩ := ofT_i64 Try.underlying3 h0
 obtain ⟨x1,rfl,q1⟩ := ofT_i64 Try.underlying3 h1
 obtain ⟨x2,rfl,q2⟩ := ofT_i64 Try.underlying3 h2
 obtain ⟨x3,rfl,q3⟩ := ofT_i64 Try.underlying3 h3
 obtain ⟨x4,rfl,q4,r4⟩ := ofT_sms h4
 obtain ⟨x5,rfl,q5,r5⟩ := ofT_ces h5
 exact ⟨⟨x0,x1,x2,x3,x4,x5⟩,rfl,q0,q1,q2,q3,q4,r4,q5,r5⟩
theorem arg_cg {W : World} {v : Value} (h : Arg Try.prog W 30 v) : ∃ x : Ch,OpCh x ∧ rep (SW W) [] (cgE x) v := by
 obtain ⟨n,ds,h1,h2⟩ := h
 obtain ⟨t,rfl,ht⟩ := ofT_cg h1
 rw [mk_many (by kernel_rfl)] at h2
 exact ⟨t,ht,h2⟩
def OpMs (x : Ms) : Prop := (-9223372036854775808 ≤ x.kd ∧ x.kd < 9223372036854775808) ∧ (-9223372036854775808 ≤ x.fr ∧ x.fr < 9223372036854775808) ∧ (-9223372036854775808 ≤ x.vw ∧ x.vw < 9223372036854775808) ∧ (-9223372036854775808 ≤ x.sq ∧ x.sq < 9223372036854775808) ∧ (-9223372036854775808 ≤ x.tm ∧ x.tm < 9223372036854775808) ∧ x.body.length ≤ 9223372036854775807 ∧ x.vs.length ≤ 9223372036854775807 ∧ (∀ y ∈ x.vs,OpSm y) ∧ x.chs.length ≤ 9223372036854775807 ∧ (∀ y ∈ x.chs,OpCh y)
theorem OpCh.big {x : Ch} (h : OpCh x) : BigC x := ⟨h.2.2.2.2.1,h.2.2.2.2.2.2.1,fun y hy=>⟨(h.2.2.2.2.2.2.2 y hy).2.2.2.1,(h.2.2.2.2.2.2.2 y hy).2.2.2.2.1⟩⟩
theorem OpMs.big {x : Ms} (h : OpMs x) : BigM x := ⟨h.2.2.2.2.2.1,h.2.2.2.2.2.2.1,h.2.2.2.2.2.2.2.2.1,fun y hy=>(h.2.2.2.2.2.2.2.2.2 y hy).big⟩
theorem i64_of {i : Int} (h : -9223372036854775808 ≤ i ∧ i < 9223372036854775808) : I64 i := ⟨h.1,by omega⟩
theorem OpSm.i {x : Sm} (h : OpSm x) : SmI x := ⟨i64_of h.1,i64_of h.2.1,i64_of h.2.2.1,i64_of h.2.2.2.1,i64_of h.2.2.2.2⟩
theorem ofT_sd {n : Nat} {ds : List AV} (h : ofT Try.prog n 51 ds) : ∃ x : Sd,ds = sdC x ∧ SmI (sdS x) := by
 obtain ⟨m,a0,b0,rfl,h0,a1,b1,rfl,h1,rfl⟩ := ofT_struct Try.underlying51 h
 obtain ⟨x0,rfl,q0⟩ := ofT_i64 Try.underlying3 h0
 obtain ⟨x1,rfl,q1⟩ := ofT_sm h1
 exact ⟨⟨x0,x1.fr,x1.kd,x1.vw,x1.sq,x1.tm⟩,rfl,q1.i⟩
theorem arg_scene {W : World} {v : Value} (h : Arg Try.prog W 26 v) : ∃ tx bad sd,ScI tx bad sd ∧ rep (SW W) [] (.agg (scC tx bad sd)) v := by
 obtain ⟨n,ds,h1,h2⟩ := h
 obtain ⟨m,a0,b0,rfl,h0,a1,b1,rfl,h3,a2,b2,rfl,h4,rfl⟩ := ofT_struct Try.underlying26 h1
 obtain ⟨m0,es0,rfl,hl0,he0⟩ := ofT_slice Try.underlying22 h0
 obtain ⟨tx,rfl,ht⟩ := list_of (f := sA) (Q := fun s : List UInt8=>s.length ≤ 9223372036854775807) fun x hx=>by
  obtain ⟨q1,q2⟩ := he0 x hx
  obtain ⟨s,hs,hi⟩ := ofT_str Try.underlying9 q1
  exact ⟨s,cells_lone hs (q2.trans (by kernel_rfl)),hi⟩
 obtain ⟨m1,es1,rfl,hl1,he1⟩ := ofT_slice Try.underlying23 h3
 obtain ⟨bad,rfl,hb⟩ := list_of (f := nA) (Q := fun _ : Int=>True) fun x hx=>by
  obtain ⟨q1,q2⟩ := he1 x hx
  obtain ⟨i,hi,_⟩ := ofT_i64 Try.underlying3 q1
  exact ⟨i,cells_lone hi (q2.trans (by kernel_rfl)),trivial⟩
 obtain ⟨m2,es2,rfl,hl2,he2⟩ := ofT_slice Try.underlying24 h4
 obtain ⟨sd,rfl,hs⟩ := list_of (f := sdE) (Q := fun x : Sd=>SmI (sdS x)) fun x hx=>by
  obtain ⟨q1,q2⟩ := he2 x hx
  obtain ⟨y,hy,hi⟩ := ofT_sd q1
  exact ⟨y,by rw [cells_agg (q2.trans (by kernel_rfl)),hy];rfl,hi⟩
 rw [mk_many (by kernel_rfl)] at h2
 rw [List.length_map] at hl0 hl1 hl2
 exact ⟨tx,bad,sd,⟨hl1,hl0,hl2,ht,hs⟩,h2⟩
end Go.Proofs.Ytaaogcnjfkgnoaa

namespace Go.Proofs.Ytaaogcnjfkgnoaa
open Go.RowKit
set_option maxHeartbeats 4000000
attribute [local go_sem] Nat.zero_add Nat.add_zero Nat.mul_one Int.toNat_natCast Int.natCast_zero Int.cast_ofNat_Int or_false false_or or_true true_or Nat.sub_zero Int.natCast_nonneg Int.toNat_zero Bool.true_and Bool.and_true Bool.false_and Bool.and_false Bool.true_or Bool.or_true Bool.false_or Bool.or_false Bool.not_true Bool.not_false Bool.not_not true_and and_true false_and and_false not_true_eq_false not_false_eq_true eq_self decide_true decide_false ne_eq implies_true forall_const true_implies false_implies Bool.true_eq_false Bool.false_eq_true List.map_cons List.map_nil List.all_cons List.all_nil List.length_cons List.length_nil List.length_map List.length_append List.nil_append List.cons_append List.set_cons_zero List.set_cons_succ List.set_nil List.drop_zero List.drop_succ_cons List.drop_nil List.take_zero List.take_succ_cons List.take_nil Option.map_some Option.map_none Option.isSome_some List.all_append List.all_map Function.comp_def decide_eq_true_eq Bool.and_eq_true beq_self_eq_true or_self and_self ite_true ite_false Nat.le_refl Bool.not_eq_true decide_not Bool.not_eq_true' decide_eq_false_iff_not Bool.not_eq_false Bool.or_eq_true if_true if_false ite_self u_roF u_cvF u_cvC u_ceT u_ceK u_appS sm_it sm_len sm_sure sm_ltA sm_lt1 sm_all1 sm_ro sm_take sm_sl sm_set sm_noT sm_fr sm_st_fr sm_set_fr sm_kd sm_st_kd sm_set_kd sm_vw sm_st_vw sm_set_vw sm_sq sm_st_sq sm_set_sq sm_tm sm_st_tm sm_set_tm zsm_len zsm_sure zsm_lt1 zsm_sl zsm_ro zsm_setz zsm_set zsm_setr zsm_take sms_ltA sms_len ce_it ce_len ce_sure ce_ltA ce_lt1 ce_all1 ce_ro ce_take ce_sl ce_set ce_noT ce_sq ce_st_sq ce_set_sq ce_vw ce_st_vw ce_set_vw ce_tm ce_st_tm ce_set_tm ce_body ce_st_body ce_set_body ce_vs ce_st_vs ce_set_vs zce_len zce_sure zce_lt1 zce_sl zce_ro zce_setz zce_set zce_setr zce_take ces_ltA ces_len cg_it cg_len cg_sure cg_ltA cg_lt1 cg_all1 cg_ro cg_take cg_sl cg_set cg_noT cg_fr cg_st_fr cg_set_fr cg_vw cg_st_vw cg_set_vw cg_st cg_st_st cg_set_st cg_rt cg_st_rt cg_set_rt cg_pf cg_st_pf cg_set_pf cg_cs cg_st_cs cg_set_cs zcg_len zcg_sure zcg_lt1 zcg_sl zcg_ro zcg_setz zcg_set zcg_setr zcg_take cgs_ltA cgs_len ms_it ms_len ms_sure ms_ltA ms_lt1 ms_all1 ms_ro ms_take ms_sl ms_set ms_noT ms_kd ms_st_kd ms_set_kd ms_fr ms_st_fr ms_set_fr ms_vw ms_st_vw ms_set_vw ms_sq ms_st_sq ms_set_sq ms_tm ms_st_tm ms_set_tm ms_body ms_st_body ms_set_body ms_vs ms_st_vs ms_set_vs ms_chs ms_st_chs ms_set_chs zms_len zms_sure zms_lt1 zms_sl zms_ro zms_setz zms_set zms_setr zms_take mss_ltA mss_len co_it co_len co_sure co_ltA co_lt1 co_all1 co_ro co_take co_sl co_set co_noT co_sq co_st_sq co_set_sq co_tm co_st_tm co_set_tm co_body co_st_body co_set_body co_nl co_st_nl co_set_nl zco_len zco_sure zco_lt1 zco_sl zco_ro zco_setz zco_set zco_setr zco_take cos_ltA cos_len sd_it sd_len sd_sure sd_ltA sd_lt1 sd_all1 sd_ro sd_take sd_sl sd_set sd_noT sd_wh sd_st_wh sd_set_wh sd_fr sd_st_fr sd_set_fr sd_kd sd_st_kd sd_set_kd sd_vw sd_st_vw sd_set_vw sd_sq sd_st_sq sd_set_sq sd_tm sd_st_tm sd_set_tm sds_ltA sds_len natInt u_nthM u_bz u_bi1 u_bi2 u_bi3 u_bi4 u_bi5 u_bi6 u_bi7 s_B0 s_Bk s_Bs0 s_Bsk s_takeY s_take s_takeK sc_len smO_lt w_0 w_Y0 w_B0 w_Bk w_Bs0 w_Bsk w_take w_takeY w_takeK sw_len wo_cells ltO_o ltO_r u_eqE u_eqSm Nat.le_add_right List.append_assoc
attribute [local go_sem_proc] Nat.reduceAdd Nat.reduceSub Nat.reduceMul Nat.reduceLeDiff Nat.reduceLT Int.reduceEq Int.reduceNe Int.reduceLT Int.reduceLE Int.reduceAdd Int.reduceSub Int.reduceMul Int.reduceNeg Int.reduceToNat reduceCtorEq Nat.reduceEqDiff Nat.reduceBEq Nat.reduceGT
attribute [local go_sem_proc ↓] reduceIte
structure CeJ (c : Ce) : Prop where
 vw : I64 c.vw
 body : c.body.length ≤ 9223372036854775807
 vl : c.vs.length ≤ 9223372036854775807
 vs : ∀ x ∈ c.vs,SmI x
end Go.Proofs.Ytaaogcnjfkgnoaa

namespace Go.Proofs.Ytaaogcnjfkgnoaa
open Go.RowKit
set_option maxHeartbeats 4000000
attribute [local go_sem] Nat.zero_add Nat.add_zero Nat.mul_one Int.toNat_natCast Int.natCast_zero Int.cast_ofNat_Int or_false false_or or_true true_or Nat.sub_zero Int.natCast_nonneg Int.toNat_zero Bool.true_and Bool.and_true Bool.false_and Bool.and_false Bool.true_or Bool.or_true Bool.false_or Bool.or_false Bool.not_true Bool.not_false Bool.not_not true_and and_true false_and and_false not_true_eq_false not_false_eq_true eq_self decide_true decide_false ne_eq implies_true forall_const true_implies false_implies Bool.true_eq_false Bool.false_eq_true List.map_cons List.map_nil List.all_cons List.all_nil List.length_cons List.length_nil List.length_map List.length_append List.nil_append List.cons_append List.set_cons_zero List.set_cons_succ List.set_nil List.drop_zero List.drop_succ_cons List.drop_nil List.take_zero List.take_succ_cons List.take_nil Option.map_some Option.map_none Option.isSome_some List.all_append List.all_map Function.comp_def decide_eq_true_eq Bool.and_eq_true beq_self_eq_true or_self and_self ite_true ite_false Nat.le_refl Bool.not_eq_true decide_not Bool.not_eq_true' decide_eq_false_iff_not Bool.not_eq_false Bool.or_eq_true if_true if_false ite_self u_roF u_cvF u_cvC u_ceT u_ceK u_appS sm_it sm_len sm_sure sm_ltA sm_lt1 sm_all1 sm_ro sm_take sm_sl sm_set sm_noT sm_fr sm_st_fr sm_set_fr sm_kd sm_st_kd sm_set_kd sm_vw sm_st_vw sm_set_vw sm_sq sm_st_sq sm_set_sq sm_tm sm_st_tm sm_set_tm zsm_len zsm_sure zsm_lt1 zsm_sl zsm_ro zsm_setz zsm_set zsm_setr zsm_take sms_ltA sms_len ce_it ce_len ce_sure ce_ltA ce_lt1 ce_all1 ce_ro ce_take ce_sl ce_set ce_noT ce_sq ce_st_sq ce_set_sq ce_vw ce_st_vw ce_set_vw ce_tm ce_st_tm ce_set_tm ce_body ce_st_body ce_set_body ce_vs ce_st_vs ce_set_vs zce_len zce_sure zce_lt1 zce_sl zce_ro zce_setz zce_set zce_setr zce_take ces_ltA ces_len cg_it cg_len cg_sure cg_ltA cg_lt1 cg_all1 cg_ro cg_take cg_sl cg_set cg_noT cg_fr cg_st_fr cg_set_fr cg_vw cg_st_vw cg_set_vw cg_st cg_st_st cg_set_st cg_rt cg_st_rt cg_set_rt cg_pf cg_st_pf cg_set_pf cg_cs cg_st_cs cg_set_cs zcg_len zcg_sure zcg_lt1 zcg_sl zcg_ro zcg_setz zcg_set zcg_setr zcg_take cgs_ltA cgs_len ms_it ms_len ms_sure ms_ltA ms_lt1 ms_all1 ms_ro ms_take ms_sl ms_set ms_noT ms_kd ms_st_kd ms_set_kd ms_fr ms_st_fr ms_set_fr ms_vw ms_st_vw ms_set_vw ms_sq ms_st_sq ms_set_sq ms_tm ms_st_tm ms_set_tm ms_body ms_st_body ms_set_body ms_vs ms_st_vs ms_set_vs ms_chs ms_st_chs ms_set_chs zms_len zms_sure zms_lt1 zms_sl zms_ro zms_setz zms_set zms_setr zms_take mss_ltA mss_len co_it co_len co_sure co_ltA co_lt1 co_all1 co_ro co_take co_sl co_set co_noT co_sq co_st_sq co_set_sq co_tm co_st_tm co_set_tm co_body co_st_body co_set_body co_nl co_st_nl co_set_nl zco_len zco_sure zco_lt1 zco_sl zco_ro zco_setz zco_set zco_setr zco_take cos_ltA cos_len sd_it sd_len sd_sure sd_ltA sd_lt1 sd_all1 sd_ro sd_take sd_sl sd_set sd_noT sd_wh sd_st_wh sd_set_wh sd_fr sd_st_fr sd_set_fr sd_kd sd_st_kd sd_set_kd sd_vw sd_st_vw sd_set_vw sd_sq sd_st_sq sd_set_sq sd_tm sd_st_tm sd_set_tm sds_ltA sds_len natInt u_nthM u_bz u_bi1 u_bi2 u_bi3 u_bi4 u_bi5 u_bi6 u_bi7 s_B0 s_Bk s_Bs0 s_Bsk s_takeY s_take s_takeK sc_len smO_lt w_0 w_Y0 w_B0 w_Bk w_Bs0 w_Bsk w_take w_takeY w_takeK sw_len wo_cells ltO_o ltO_r u_eqE u_eqSm Nat.le_add_right List.append_assoc
attribute [local go_sem_proc] Nat.reduceAdd Nat.reduceSub Nat.reduceMul Nat.reduceLeDiff Nat.reduceLT Int.reduceEq Int.reduceNe Int.reduceLT Int.reduceLE Int.reduceAdd Int.reduceSub Int.reduceMul Int.reduceNeg Int.reduceToNat reduceCtorEq Nat.reduceEqDiff Nat.reduceBEq Nat.reduceGT
attribute [local go_sem_proc ↓] reduceIte
theorem encCg_le {c : Ch} (h : cgB c = true) : (encCg c).length ≤ 9223372036854775807 := Nat.le_trans (encCg_len h) (by decide)
theorem chF_ok {σ : Sg} {c : Ch} {n : Int} (h : SgOk σ) : SgOk { σ with T := (chF σ.T σ.R c n).2 } := by
 unfold chF
 split
 ·rename_i hc
  simp only [Bool.and_eq_true] at hc
  have hC := ChI_of hc.2.1
  have h3 := csF_ok (σ := σ) (n := n) (st := c.st) (vw := c.vw) c.cs σ.T c.st h fun x hx=>(hC.cs x hx).1
  split
  ·exact h3.of (encCg_le hc.2.1)
  ·exact h3
 ·exact h
theorem cgO_lt' (c : Ch) (n : Nat) : ltO n ⟨1,ty_api_Change,0,cgC c⟩ = true := cgO_lt
end Go.Proofs.Ytaaogcnjfkgnoaa

namespace Go.Proofs.Ytaaogcnjfkgnoaa
open Go.RowKit
set_option maxHeartbeats 4000000
attribute [local go_sem] Nat.zero_add Nat.add_zero Nat.mul_one Int.toNat_natCast Int.natCast_zero Int.cast_ofNat_Int or_false false_or or_true true_or Nat.sub_zero Int.natCast_nonneg Int.toNat_zero Bool.true_and Bool.and_true Bool.false_and Bool.and_false Bool.true_or Bool.or_true Bool.false_or Bool.or_false Bool.not_true Bool.not_false Bool.not_not true_and and_true false_and and_false not_true_eq_false not_false_eq_true eq_self decide_true decide_false ne_eq implies_true forall_const true_implies false_implies Bool.true_eq_false Bool.false_eq_true List.map_cons List.map_nil List.all_cons List.all_nil List.length_cons List.length_nil List.length_map List.length_append List.nil_append List.cons_append List.set_cons_zero List.set_cons_succ List.set_nil List.drop_zero List.drop_succ_cons List.drop_nil List.take_zero List.take_succ_cons List.take_nil Option.map_some Option.map_none Option.isSome_some List.all_append List.all_map Function.comp_def decide_eq_true_eq Bool.and_eq_true beq_self_eq_true or_self and_self ite_true ite_false Nat.le_refl Bool.not_eq_true decide_not Bool.not_eq_true' decide_eq_false_iff_not Bool.not_eq_false Bool.or_eq_true if_true if_false ite_self u_roF u_cvF u_cvC u_ceT u_ceK u_appS sm_it sm_len sm_sure sm_ltA sm_lt1 sm_all1 sm_ro sm_take sm_sl sm_set sm_noT sm_fr sm_st_fr sm_set_fr sm_kd sm_st_kd sm_set_kd sm_vw sm_st_vw sm_set_vw sm_sq sm_st_sq sm_set_sq sm_tm sm_st_tm sm_set_tm zsm_len zsm_sure zsm_lt1 zsm_sl zsm_ro zsm_setz zsm_set zsm_setr zsm_take sms_ltA sms_len ce_it ce_len ce_sure ce_ltA ce_lt1 ce_all1 ce_ro ce_take ce_sl ce_set ce_noT ce_sq ce_st_sq ce_set_sq ce_vw ce_st_vw ce_set_vw ce_tm ce_st_tm ce_set_tm ce_body ce_st_body ce_set_body ce_vs ce_st_vs ce_set_vs zce_len zce_sure zce_lt1 zce_sl zce_ro zce_setz zce_set zce_setr zce_take ces_ltA ces_len cg_it cg_len cg_sure cg_ltA cg_lt1 cg_all1 cg_ro cg_take cg_sl cg_set cg_noT cg_fr cg_st_fr cg_set_fr cg_vw cg_st_vw cg_set_vw cg_st cg_st_st cg_set_st cg_rt cg_st_rt cg_set_rt cg_pf cg_st_pf cg_set_pf cg_cs cg_st_cs cg_set_cs zcg_len zcg_sure zcg_lt1 zcg_sl zcg_ro zcg_setz zcg_set zcg_setr zcg_take cgs_ltA cgs_len ms_it ms_len ms_sure ms_ltA ms_lt1 ms_all1 ms_ro ms_take ms_sl ms_set ms_noT ms_kd ms_st_kd ms_set_kd ms_fr ms_st_fr ms_set_fr ms_vw ms_st_vw ms_set_vw ms_sq ms_st_sq ms_set_sq ms_tm ms_st_tm ms_set_tm ms_body ms_st_body ms_set_body ms_vs ms_st_vs ms_set_vs ms_chs ms_st_chs ms_set_chs zms_len zms_sure zms_lt1 zms_sl zms_ro zms_setz zms_set zms_setr zms_take mss_ltA mss_len co_it co_len co_sure co_ltA co_lt1 co_all1 co_ro co_take co_sl co_set co_noT co_sq co_st_sq co_set_sq co_tm co_st_tm co_set_tm co_body co_st_body co_set_body co_nl co_st_nl co_set_nl zco_len zco_sure zco_lt1 zco_sl zco_ro zco_setz zco_set zco_setr zco_take cos_ltA cos_len sd_it sd_len sd_sure sd_ltA sd_lt1 sd_all1 sd_ro sd_take sd_sl sd_set sd_noT sd_wh sd_st_wh sd_set_wh sd_fr sd_st_fr sd_set_fr sd_kd sd_st_kd sd_set_kd sd_vw sd_st_vw sd_set_vw sd_sq sd_st_sq sd_set_sq sd_tm sd_st_tm sd_set_tm sds_ltA sds_len natInt u_nthM u_bz u_bi1 u_bi2 u_bi3 u_bi4 u_bi5 u_bi6 u_bi7 s_B0 s_Bk s_Bs0 s_Bsk s_takeY s_take s_takeK sc_len smO_lt w_0 w_Y0 w_B0 w_Bk w_Bs0 w_Bsk w_take w_takeY w_takeK sw_len wo_cells ltO_o ltO_r u_eqE u_eqSm Nat.le_add_right List.append_assoc
attribute [local go_sem_proc] Nat.reduceAdd Nat.reduceSub Nat.reduceMul Nat.reduceLeDiff Nat.reduceLT Int.reduceEq Int.reduceNe Int.reduceLT Int.reduceLE Int.reduceAdd Int.reduceSub Int.reduceMul Int.reduceNeg Int.reduceToNat reduceCtorEq Nat.reduceEqDiff Nat.reduceBEq Nat.reduceGT
attribute [local go_sem_proc ↓] reduceIte
theorem rsayL_mem {n : Int} {rog : List Int} {L : List Sm} {p : Int} {s t : Sm} (h : s ∈ rsayL n rog L p t) : s ∈ L ∨ (t = s ∧ rokS n rog p s = true) := by
 unfold rsayL at h
 split at h
 ·rename_i hc
  rcases List.mem_append.1 h with q|q
  ·exact .inl q
  ·simp at q
   subst q
   exact .inr ⟨rfl,hc.1⟩
 ·exact .inl h
theorem stepR_mem {s : Sm} : ∀ (l : List Sd) (p : Sg × Wg),s ∈ (l.foldl stepR p).2.L → s ∈ p.2.L ∨ ∃ x ∈ l,sdS x = s ∧ rokS p.2.n p.2.rog x.wh s = true
 |[],p,h=>.inl h
 |x :: l,p,h=>by
  rcases stepR_mem l (stepR p x) h with q|⟨y,hy,e,q⟩
  ·rcases rsayL_mem q with q|⟨e,q⟩
   ·exact .inl q
   ·exact .inr ⟨x,List.mem_cons_self ..,e,q⟩
  ·exact .inr ⟨y,List.mem_cons_of_mem _ hy,e,q⟩
theorem stepT_k : ∀ (l : List (List UInt8)) (p : Sg × Wg),(l.foldl stepT p).2.L = p.2.L ∧ (l.foldl stepT p).2.n = p.2.n ∧ (l.foldl stepT p).2.rog = p.2.rog
 |[],p=>⟨rfl,rfl,rfl⟩
 |x :: l,p=>stepT_k l (stepT p x)
theorem stepR_k : ∀ (l : List Sd) (p : Sg × Wg),(l.foldl stepR p).2.rog = p.2.rog
 |[],p=>rfl
 |x :: l,p=>stepR_k l (stepR p x)
def saidB (s : Sm) (x : Sd) : Bool := decide (x.wh = s.fr) && decide (sdS x = s)
theorem scn_rog {rog : List Int} {tx : List (List UInt8)} {sd : List Sd} : (scn rog tx sd).2.rog = rog := (stepR_k _ _).trans (stepT_k _ _).2.2
theorem scn_from {rog : List Int} {tx : List (List UInt8)} {sd : List Sd} {s : Sm} (h : s ∈ (scn rog tx sd).2.L) : (decide (s.fr ∈ rog) || (sd.take 120).any (saidB s)) = true := by
 obtain ⟨h1,h2,h3⟩ := stepT_k (tx.take 80) (scn0 rog)
 rcases stepR_mem _ _ h with q|⟨x,hx,e,q⟩
 ·rw [show (scnT rog tx).2.L = (scn0 rog).2.L from h1] at q
  simp [scn0] at q
 ·rw [show (scnT rog tx).2.rog = rog from h3] at q
  unfold rokS at q
  simp only [Bool.and_eq_true,Bool.or_eq_true,decide_eq_true_eq] at q
  rw [Bool.or_eq_true]
  rcases q.2 with q|q
  ·refine .inr (List.any_eq_true.2 ⟨x,hx,?_⟩)
   unfold saidB
   rw [decide_eq_true q.symm,decide_eq_true e]
   rfl
  ·exact .inl (decide_eq_true q.2)
theorem posL_new {α : Type} [DecidableEq α] {L : List α} {s : α} (h : s ∉ L) : posL (L ++ [s]) s = L.length + 1 := by
 unfold posL
 rw [if_pos (by simp),List.idxOf_append,if_neg h]
 simp
theorem chF_stmt {T : List (List UInt8)} {R : List Sm} {c : Ch} {n : Int} (h : (chF T R c n).1 = true) : csS (chF T R c n).2 c = (csSm (chF T R c n).2 c,0,(chF T R c n).2) ∧ csSm (chF T R c n).2 c ∈ R := by
 unfold chF at h ⊢
 by_cases h1 : (okN n && (cgB c && (decide (c.fr < n) && (decide (1 ≤ c.vw) && stH R c n)))) = true
 ·rw [if_pos h1] at h ⊢
  simp only [Bool.and_eq_true] at h1
  have hB := h1.2.1
  by_cases h2 : (csF R n c.st c.vw T c.st c.cs).1 = true
  ·rw [if_pos h2] at h ⊢
   generalize (csF R n c.st c.vw T c.st c.cs).2 = T' at *
   dsimp only at h ⊢
   rw [Bool.and_eq_true,decide_eq_true_eq,decide_eq_true_eq] at h
   obtain ⟨h3,h4⟩ := h
   have hm : encCg c ∈ oqT T' (encCg c) := by
    unfold oqT ofE at *
    split
    ·assumption
    ·split
     ·rename_i q1 q2
      rw [if_neg q1,if_pos q2] at h3
      cases h3
     ·simp
   have hs : oqT (oqT T' (encCg c)) (encCg c) = oqT T' (encCg c) := by
    rw [oqT,if_pos hm]
   have he : ofE (oqT T' (encCg c)) (encCg c) = 0 := by
    unfold ofE
    rw [if_pos hm]
   have hn : ofN (oqT T' (encCg c)) (encCg c) = ofN T' (encCg c) := by
    by_cases q1 : encCg c ∈ T'
    ·unfold oqT
     rw [if_pos q1]
    ·have q2 : ¬ 65536 ≤ T'.length := fun q2=>by
      unfold ofE at h3
      rw [if_neg q1,if_pos q2] at h3
      cases h3
     unfold ofN
     rw [if_pos hm,if_neg q1,if_neg q2]
     unfold oqT
     rw [if_neg q1,if_neg q2]
     exact posL_new q1
   have hcs : csSm (oqT T' (encCg c)) c = csSm T' c := by
    unfold csSm
    rw [hn]
   refine ⟨?_,by rw [hcs];exact h4⟩
   unfold csS
   rw [if_pos hB,if_pos he,hs]
  ·rw [if_neg h2] at h
   cases h
 ·rw [if_neg h1] at h
  cases h
end Go.Proofs.Ytaaogcnjfkgnoaa

namespace Go.Proofs.Ytaaogcnjfkgnoaa
open Go.RowKit
set_option maxHeartbeats 4000000
attribute [local go_sem] Nat.zero_add Nat.add_zero Nat.mul_one Int.toNat_natCast Int.natCast_zero Int.cast_ofNat_Int or_false false_or or_true true_or Nat.sub_zero Int.natCast_nonneg Int.toNat_zero Bool.true_and Bool.and_true Bool.false_and Bool.and_false Bool.true_or Bool.or_true Bool.false_or Bool.or_false Bool.not_true Bool.not_false Bool.not_not true_and and_true false_and and_false not_true_eq_false not_false_eq_true eq_self decide_true decide_false ne_eq implies_true forall_const true_implies false_implies Bool.true_eq_false Bool.false_eq_true List.map_cons List.map_nil List.all_cons List.all_nil List.length_cons List.length_nil List.length_map List.length_append List.nil_append List.cons_append List.set_cons_zero List.set_cons_succ List.set_nil List.drop_zero List.drop_succ_cons List.drop_nil List.take_zero List.take_succ_cons List.take_nil Option.map_some Option.map_none Option.isSome_some List.all_append List.all_map Function.comp_def decide_eq_true_eq Bool.and_eq_true beq_self_eq_true or_self and_self ite_true ite_false Nat.le_refl Bool.not_eq_true decide_not Bool.not_eq_true' decide_eq_false_iff_not Bool.not_eq_false Bool.or_eq_true if_true if_false ite_self u_roF u_cvF u_cvC u_ceT u_ceK u_appS sm_it sm_len sm_sure sm_ltA sm_lt1 sm_all1 sm_ro sm_take sm_sl sm_set sm_noT sm_fr sm_st_fr sm_set_fr sm_kd sm_st_kd sm_set_kd sm_vw sm_st_vw sm_set_vw sm_sq sm_st_sq sm_set_sq sm_tm sm_st_tm sm_set_tm zsm_len zsm_sure zsm_lt1 zsm_sl zsm_ro zsm_setz zsm_set zsm_setr zsm_take sms_ltA sms_len ce_it ce_len ce_sure ce_ltA ce_lt1 ce_all1 ce_ro ce_take ce_sl ce_set ce_noT ce_sq ce_st_sq ce_set_sq ce_vw ce_st_vw ce_set_vw ce_tm ce_st_tm ce_set_tm ce_body ce_st_body ce_set_body ce_vs ce_st_vs ce_set_vs zce_len zce_sure zce_lt1 zce_sl zce_ro zce_setz zce_set zce_setr zce_take ces_ltA ces_len cg_it cg_len cg_sure cg_ltA cg_lt1 cg_all1 cg_ro cg_take cg_sl cg_set cg_noT cg_fr cg_st_fr cg_set_fr cg_vw cg_st_vw cg_set_vw cg_st cg_st_st cg_set_st cg_rt cg_st_rt cg_set_rt cg_pf cg_st_pf cg_set_pf cg_cs cg_st_cs cg_set_cs zcg_len zcg_sure zcg_lt1 zcg_sl zcg_ro zcg_setz zcg_set zcg_setr zcg_take cgs_ltA cgs_len ms_it ms_len ms_sure ms_ltA ms_lt1 ms_all1 ms_ro ms_take ms_sl ms_set ms_noT ms_kd ms_st_kd ms_set_kd ms_fr ms_st_fr ms_set_fr ms_vw ms_st_vw ms_set_vw ms_sq ms_st_sq ms_set_sq ms_tm ms_st_tm ms_set_tm ms_body ms_st_body ms_set_body ms_vs ms_st_vs ms_set_vs ms_chs ms_st_chs ms_set_chs zms_len zms_sure zms_lt1 zms_sl zms_ro zms_setz zms_set zms_setr zms_take mss_ltA mss_len co_it co_len co_sure co_ltA co_lt1 co_all1 co_ro co_take co_sl co_set co_noT co_sq co_st_sq co_set_sq co_tm co_st_tm co_set_tm co_body co_st_body co_set_body co_nl co_st_nl co_set_nl zco_len zco_sure zco_lt1 zco_sl zco_ro zco_setz zco_set zco_setr zco_take cos_ltA cos_len sd_it sd_len sd_sure sd_ltA sd_lt1 sd_all1 sd_ro sd_take sd_sl sd_set sd_noT sd_wh sd_st_wh sd_set_wh sd_fr sd_st_fr sd_set_fr sd_kd sd_st_kd sd_set_kd sd_vw sd_st_vw sd_set_vw sd_sq sd_st_sq sd_set_sq sd_tm sd_st_tm sd_set_tm sds_ltA sds_len natInt u_nthM u_bz u_bi1 u_bi2 u_bi3 u_bi4 u_bi5 u_bi6 u_bi7 s_B0 s_Bk s_Bs0 s_Bsk s_takeY s_take s_takeK sc_len smO_lt w_0 w_Y0 w_B0 w_Bk w_Bs0 w_Bsk w_take w_takeY w_takeK sw_len wo_cells ltO_o ltO_r u_eqE u_eqSm Nat.le_add_right List.append_assoc
attribute [local go_sem_proc] Nat.reduceAdd Nat.reduceSub Nat.reduceMul Nat.reduceLeDiff Nat.reduceLT Int.reduceEq Int.reduceNe Int.reduceLT Int.reduceLE Int.reduceAdd Int.reduceSub Int.reduceMul Int.reduceNeg Int.reduceToNat reduceCtorEq Nat.reduceEqDiff Nat.reduceBEq Nat.reduceGT
attribute [local go_sem_proc ↓] reduceIte
theorem any_succ {l : List Sd} {f : Sd → Bool} {k : Nat} (h : k < (l.take 120).length) (h1 : k < l.length) : ((l.take 120).take (k + 1)).any f = (((l.take 120).take k).any f || f l[k]) := by
 rw [List.take_succ_eq_append_getElem h,List.any_append,List.getElem_take]
 simp
theorem trueLoop (m : Nat) (tx : List (List UInt8)) (bad bad' : List Int) (sd : List Sd) (d : Ch) (σ : Sg) (ω : Wg) (s : Sm) (b0 : Bool) (hm : 1000001 < m) (hsl : sd.length ≤ 9223372036854775807) (hs : s.fr = d.fr) (hA : GA [scX tx bad sd,⟨1,ty_api_Change,0,cgC d⟩,scX tx bad' sd]) (hω : WgOk ω) (hfin : ((sd.take 120).any (saidB s) || b0) = true) :
  iterC m (plenumlaw32_ViewTrue_b1 m) ⟨hS [scX tx bad sd,⟨1,ty_api_Change,0,cgC d⟩,scX tx bad' sd] σ ω ++ [⟨1,ty_api_Stmt,0,smC s⟩],[(2,OP 0 0),(3,OP 1 0),(9,OP 11 0),(11,bA b0),(12,nA 0)]⟩ (blockX 0 (seqX (fun s=>plenumlaw32_ViewTrue_r3 m ⟨s.H,[(11,get s.T 11)]⟩) (plenumlaw32_ViewTrue_fin))) = some (bA true,[]) := by
 have haw := awake_s m hm
 refine iter_go (m := m) (ι := {k : Nat // k ≤ (sd.take 120).length}) (fun k=>⟨hS [scX tx bad sd,⟨1,ty_api_Change,0,cgC d⟩,scX tx bad' sd] σ ω ++ [⟨1,ty_api_Stmt,0,smC s⟩],[(2,OP 0 0),(3,OP 1 0),(9,OP 11 0),(11,bA (((sd.take 120).take k.1).any (saidB s) || b0)),(12,nA k.1)]⟩) (fun k=>(sd.take 120).length - k.1) (fun _=>some (bA true,[])) ?_ ⟨0,Nat.zero_le _⟩ (by dsimp only;simp;omega)
 rintro kx hkx ⟨k,hk⟩ kc hkc
 dsimp only at hkc ⊢
 rw [plenumlaw32_ViewTrue_b1_eq]
 rw [List.length_take] at hk
 have hdr : ∀ x : Sd,List.take 5 (List.drop 1 (sdC x)) = smC (sdS x) := fun _=>rfl
 have hall : (hS [scX tx bad sd,⟨1,ty_api_Change,0,cgC d⟩,scX tx bad' sd] σ ω).all (ltO (11 + 1)) = true := hS_lt hA hω (by simp)
 have htk : List.take (11 + 1) (hS [scX tx bad sd,⟨1,ty_api_Change,0,cgC d⟩,scX tx bad' sd] σ ω ++ [⟨1,ty_api_Stmt,0,smC s⟩]) = hS [scX tx bad sd,⟨1,ty_api_Change,0,cgC d⟩,scX tx bad' sd] σ ω ++ [⟨1,ty_api_Stmt,0,smC s⟩] := rfl
 by_cases hc : k < (sd.take 120).length
 ·have hc' := hc
  rw [List.length_take] at hc'
  have h1 : k < sd.length := by omega
  have h1' : (k : Int) < (sd.length : Int) := by omega
  have h2 : (k : Int) < 120 := by omega
  have hw1 : IntKind.i64.wrap ((k : Int) + 1) = (k : Int) + 1 := w_i64 (by omega) (by omega)
  have step := hkc ⟨k + 1,by omega⟩ (by dsimp only;omega)
  dsimp only at step
  rw [any_succ hc h1] at step
  generalize ((sd.take 120).take k).any (saidB s) = a at *
  cases h3 : (a || b0) with
  |true =>
   have e : (a || saidB s sd[k] || b0) = true := by
    rw [Bool.or_right_comm,h3]
    rfl
   rw [e] at step
   simp (config := {maxSteps := 4000000,implicitDefEqProofs := false}) (disch := omega) only [go_sem,q_Y0,q_Y1,q_B0,sc_cells,sc_f2,h1,h1',h2,h3,hw1,plenumlaw32_ViewTrue_r4_eq,plenumlaw32_ViewTrue_r5_eq,plenumlaw32_ViewTrue_r6_eq,q_len,hall,htk,hdr]
   exact step
  |false =>
   have e : (a || saidB s sd[k] || b0) = saidB s sd[k] := by
    rw [Bool.or_right_comm,h3]
    rfl
   rw [e] at step
   by_cases h4 : sd[k].wh = d.fr
   ·have e4 : saidB s sd[k] = decide (sdS sd[k] = s) := by
     unfold saidB
     rw [hs,decide_eq_true h4]
     rfl
    rw [e4] at step
    simp (config := {maxSteps := 4000000,implicitDefEqProofs := false}) (disch := omega) only [go_sem,q_Y0,q_Y1,q_B0,sc_cells,sc_f2,h1,h1',h2,h3,h4,hw1,plenumlaw32_ViewTrue_r4_eq,plenumlaw32_ViewTrue_r5_eq,plenumlaw32_ViewTrue_r6_eq,q_len,hall,htk,hdr]
    exact step
   ·have e4 : saidB s sd[k] = false := by
     unfold saidB
     rw [hs,decide_eq_false h4]
     rfl
    rw [e4] at step
    simp (config := {maxSteps := 4000000,implicitDefEqProofs := false}) (disch := omega) only [go_sem,q_Y0,q_Y1,q_B0,sc_cells,sc_f2,h1,h1',h2,h3,h4,hw1,plenumlaw32_ViewTrue_r4_eq,plenumlaw32_ViewTrue_r5_eq,plenumlaw32_ViewTrue_r6_eq,q_len,hall,htk,hdr]
    exact step
 ·have hk2 : k = (sd.take 120).length := by rw [List.length_take] at hc ⊢;omega
  have htk2 : (sd.take 120).take k = sd.take 120 := by rw [hk2,List.take_length]
  rw [htk2,hfin]
  by_cases h1 : k < sd.length
  ·have h1' : (k : Int) < (sd.length : Int) := by omega
   have h2 : ¬ (k : Int) < 120 := by rw [List.length_take] at hk2;omega
   simp (config := {maxSteps := 4000000,implicitDefEqProofs := false}) (disch := omega) only [go_sem,q_Y0,q_Y1,q_B0,sc_cells,sc_f2,h1',h2,hkx,haw,plenumlaw32_ViewTrue_r4_eq,plenumlaw32_ViewTrue_r3_eq,q_len,hall,htk,hdr]
  ·have h1' : ¬ (k : Int) < (sd.length : Int) := by omega
   simp (config := {maxSteps := 4000000,implicitDefEqProofs := false}) (disch := omega) only [go_sem,q_Y0,q_Y1,q_B0,sc_cells,sc_f2,h1',hkx,haw,plenumlaw32_ViewTrue_r4_eq,plenumlaw32_ViewTrue_r3_eq,q_len,hall,htk,hdr]
end Go.Proofs.Ytaaogcnjfkgnoaa

namespace Go.Proofs.Ytaaogcnjfkgnoaa
open Go.RowKit
set_option maxHeartbeats 4000000
attribute [local go_sem] Nat.zero_add Nat.add_zero Nat.mul_one Int.toNat_natCast Int.natCast_zero Int.cast_ofNat_Int or_false false_or or_true true_or Nat.sub_zero Int.natCast_nonneg Int.toNat_zero Bool.true_and Bool.and_true Bool.false_and Bool.and_false Bool.true_or Bool.or_true Bool.false_or Bool.or_false Bool.not_true Bool.not_false Bool.not_not true_and and_true false_and and_false not_true_eq_false not_false_eq_true eq_self decide_true decide_false ne_eq implies_true forall_const true_implies false_implies Bool.true_eq_false Bool.false_eq_true List.map_cons List.map_nil List.all_cons List.all_nil List.length_cons List.length_nil List.length_map List.length_append List.nil_append List.cons_append List.set_cons_zero List.set_cons_succ List.set_nil List.drop_zero List.drop_succ_cons List.drop_nil List.take_zero List.take_succ_cons List.take_nil Option.map_some Option.map_none Option.isSome_some List.all_append List.all_map Function.comp_def decide_eq_true_eq Bool.and_eq_true beq_self_eq_true or_self and_self ite_true ite_false Nat.le_refl Bool.not_eq_true decide_not Bool.not_eq_true' decide_eq_false_iff_not Bool.not_eq_false Bool.or_eq_true if_true if_false ite_self u_roF u_cvF u_cvC u_ceT u_ceK u_appS sm_it sm_len sm_sure sm_ltA sm_lt1 sm_all1 sm_ro sm_take sm_sl sm_set sm_noT sm_fr sm_st_fr sm_set_fr sm_kd sm_st_kd sm_set_kd sm_vw sm_st_vw sm_set_vw sm_sq sm_st_sq sm_set_sq sm_tm sm_st_tm sm_set_tm zsm_len zsm_sure zsm_lt1 zsm_sl zsm_ro zsm_setz zsm_set zsm_setr zsm_take sms_ltA sms_len ce_it ce_len ce_sure ce_ltA ce_lt1 ce_all1 ce_ro ce_take ce_sl ce_set ce_noT ce_sq ce_st_sq ce_set_sq ce_vw ce_st_vw ce_set_vw ce_tm ce_st_tm ce_set_tm ce_body ce_st_body ce_set_body ce_vs ce_st_vs ce_set_vs zce_len zce_sure zce_lt1 zce_sl zce_ro zce_setz zce_set zce_setr zce_take ces_ltA ces_len cg_it cg_len cg_sure cg_ltA cg_lt1 cg_all1 cg_ro cg_take cg_sl cg_set cg_noT cg_fr cg_st_fr cg_set_fr cg_vw cg_st_vw cg_set_vw cg_st cg_st_st cg_set_st cg_rt cg_st_rt cg_set_rt cg_pf cg_st_pf cg_set_pf cg_cs cg_st_cs cg_set_cs zcg_len zcg_sure zcg_lt1 zcg_sl zcg_ro zcg_setz zcg_set zcg_setr zcg_take cgs_ltA cgs_len ms_it ms_len ms_sure ms_ltA ms_lt1 ms_all1 ms_ro ms_take ms_sl ms_set ms_noT ms_kd ms_st_kd ms_set_kd ms_fr ms_st_fr ms_set_fr ms_vw ms_st_vw ms_set_vw ms_sq ms_st_sq ms_set_sq ms_tm ms_st_tm ms_set_tm ms_body ms_st_body ms_set_body ms_vs ms_st_vs ms_set_vs ms_chs ms_st_chs ms_set_chs zms_len zms_sure zms_lt1 zms_sl zms_ro zms_setz zms_set zms_setr zms_take mss_ltA mss_len co_it co_len co_sure co_ltA co_lt1 co_all1 co_ro co_take co_sl co_set co_noT co_sq co_st_sq co_set_sq co_tm co_st_tm co_set_tm co_body co_st_body co_set_body co_nl co_st_nl co_set_nl zco_len zco_sure zco_lt1 zco_sl zco_ro zco_setz zco_set zco_setr zco_take cos_ltA cos_len sd_it sd_len sd_sure sd_ltA sd_lt1 sd_all1 sd_ro sd_take sd_sl sd_set sd_noT sd_wh sd_st_wh sd_set_wh sd_fr sd_st_fr sd_set_fr sd_kd sd_st_kd sd_set_kd sd_vw sd_st_vw sd_set_vw sd_sq sd_st_sq sd_set_sq sd_tm sd_st_tm sd_set_tm sds_ltA sds_len natInt u_nthM u_bz u_bi1 u_bi2 u_bi3 u_bi4 u_bi5 u_bi6 u_bi7 s_B0 s_Bk s_Bs0 s_Bsk s_takeY s_take s_takeK sc_len smO_lt w_0 w_Y0 w_B0 w_Bk w_Bs0 w_Bsk w_take w_takeY w_takeK sw_len wo_cells ltO_o ltO_r u_eqE u_eqSm Nat.le_add_right List.append_assoc
attribute [local go_sem_proc] Nat.reduceAdd Nat.reduceSub Nat.reduceMul Nat.reduceLeDiff Nat.reduceLT Int.reduceEq Int.reduceNe Int.reduceLT Int.reduceLE Int.reduceAdd Int.reduceSub Int.reduceMul Int.reduceNeg Int.reduceToNat reduceCtorEq Nat.reduceEqDiff Nat.reduceBEq Nat.reduceGT
attribute [local go_sem_proc ↓] reduceIte
theorem rogT {ω : Wg} {H : List AObj} (h : WgOk ω) : ro H (.agg [nA ω.n,SL (ω.rog.map nA),ω.X]) = rrA ω.n ω.rog ω.L := by
 show DataW.agg [ro1 H (nA ω.n),ro1 H (SL (ω.rog.map nA)),ro1 H ω.X] = _
 rw [h.ro]
 rfl
theorem viewTrue_s (m : Nat) (tx : List (List UInt8)) (bad : List Int) (sd : List Sd) (c : Ch) (hm : 1000001 < m) (h : ScI tx bad sd) (hc : BigC c) :
  plenumlaw32_ViewTrue m (.agg (scC tx bad sd)) (cgE c) = some (bA true,[]) := by
 have hf := fewChange_s m c (by omega) hc.1 hc.2.1 hc.2.2
 have haw := awake_s m hm
 rw [plenumlaw32_ViewTrue_eq,scB,cg_it]
 rw [cg_it,cg_it] at hf
 generalize cgF c = d at *
 cases ho : badL (bad.take 10) with
 |true =>
  obtain ⟨bd,hs⟩ := set2_no m ⟨1,ty_api_Change,0,cgC d⟩ tx bad sd hm (cgO_lt' d) h ho
  have hb := bad_s m tx bad sd hm h.bl
  rw [ho] at hb
  simp (config := {maxSteps := 4000000,implicitDefEqProofs := false}) (disch := omega) only [go_sem,hf,hs,hb,haw,q_0,r_0,r_1,sc_cells,scC_len,scC_take,scC_ro,scC_lt1]
 |false =>
  have hs := set2 m ⟨1,ty_api_Change,0,cgC d⟩ tx bad sd hm (cgO_lt' d) h ho
  have hok := set2_ok h ho
  have hA : GA [scX tx bad sd,⟨1,ty_api_Change,0,cgC d⟩,scX tx (bad.take 10) sd] := GA_3 (cgO_lt' d)
  have hrog := scn_rog (rog := bad.take 10) (tx := tx) (sd := sd)
  have hfrom := fun s=>scn_from (rog := bad.take 10) (tx := tx) (sd := sd) (s := s)
  generalize scn (bad.take 10) tx sd = q at *
  obtain ⟨⟨T,n7,bd,L⟩,ω⟩ := q
  dsimp only at *
  have e1 : T = ω.T := hok.t
  have e2 : L = ω.L := hok.l
  subst e1 e2
  have h1 := change3 m _ _ _ ⟨ω.T,n7,bd,ω.L⟩ ω [] hm hA (fun _=>rfl) hok.so hok.wo d 7
  have hσ1 : SgOk ⟨(chF ω.T ω.L d 7).2,n7,bd,ω.L⟩ := chF_ok (σ := ⟨ω.T,n7,bd,ω.L⟩) (c := d) (n := 7) hok.so
  have h3 := stmt3 m _ _ _ ⟨(chF ω.T ω.L d 7).2,n7,bd,ω.L⟩ ω [] hm hA (fun _=>rfl) hσ1 hok.wo d
  simp only [List.append_nil] at h1 h3
  rw [cg_it] at h1 h3
  cases hv : (chF ω.T ω.L d 7).1 with
  |false =>
   rw [hv] at h1
   simp (config := {maxSteps := 4000000,implicitDefEqProofs := false}) (disch := omega) only [go_sem,hf,hs,haw,h1,q_0,q_1,q_9,q_len,r_0,r_1,sc_cells,scC_len,scC_take,scC_ro,scC_lt1]
  |true =>
   obtain ⟨hcs,hin⟩ := chF_stmt hv
   have hfr := hfrom _ hin
   have hfd : (csSm (chF ω.T ω.L d 7).2 d).fr = d.fr := rfl
   have hvd : (csSm (chF ω.T ω.L d 7).2 d).vw = d.vw := rfl
   rw [hcs] at h3
   rw [hv] at h1
   generalize (chF ω.T ω.L d 7).2 = T1 at *
   generalize csSm T1 d = s at *
   rw [sm_it] at h3
   rw [hfd,← hrog,Bool.or_comm] at hfr
   have hb2 := rbad_s m ω.n ω.rog ω.L d.fr (by have := hok.wo.rl;omega) hok.wo.rl
   have hro := fun H=>rogT (ω := ω) (H := H) hok.wo
   unfold rrA rrC at hb2 hro
   have hX := fun H=>hok.wo.ro H
   have hL := trueLoop m tx bad (bad.take 10) sd d ⟨T1,n7,bd,ω.L⟩ ω s (decide (d.fr ∈ ω.rog)) hm h.sl hfd hA hok.wo hfr
   simp (config := {maxSteps := 4000000,implicitDefEqProofs := false}) (disch := omega) only [go_sem,zsmO,hf,hs,haw,h1,h3,hX,hfd,hvd,q_0,q_1,q_9,q_Y0,q_Y1,q_Y9,q_B0,q_B1,q_Bs0,q_Bs1,q_len,r_0,r_1,sc_cells,scC_len,scC_take,scC_ro,scC_lt1,plenumlaw32_ViewTrue_r1_eq,plenumlaw32_ViewTrue_r2_eq,hb2]
   exact hL
end Go.Proofs.Ytaaogcnjfkgnoaa

namespace Go.Proofs.Ytaaogcnjfkgnoaa
open Go.RowKit
theorem walk_ViewTrue (W : World) (v0 : Value) (h0 : Arg Try.prog W 26 v0) (v1 : Value) (h1 : Arg Try.prog W 30 v1) :
  Calls Try.prog 3 #[v0,v1] W fun e W'=>e = .returned (.bool true) ∧ Below W.heap.size W W' := by
 obtain ⟨tx,bad,sd,hs,r0⟩ := arg_scene h0
 obtain ⟨c,hc,r1⟩ := arg_cg h1
 exact run_tells (plenumlaw32_ViewTrue_ok 1000002 [_,_] _ _ (viewTrue_s 1000002 tx bad sd c (by omega) hs hc.big)) gok_nil (vs := [v0,v1]) rfl (reps2 r0 r1)
end Go.Proofs.Ytaaogcnjfkgnoaa

