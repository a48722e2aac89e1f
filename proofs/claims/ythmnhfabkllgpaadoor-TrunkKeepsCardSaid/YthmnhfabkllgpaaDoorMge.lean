/-
  Texts laid together, part 5 of 6: laws of a walk over data, contracts of functions, each whole by itself.
-/
import Derived.Test.YthmnhfabkllgpaaDoorMgd
namespace Go.Proofs.YthmnhfabkllgpaaDoor
open Go.RowKit
set_option linter.unusedVariables false
set_option linter.unusedSimpArgs false
set_option maxRecDepth 20000
theorem getT_key {t : Tr} {k : Bytes} (h : (getT t k).isSome = true) : keyB k = true := by
  cases hk : keyB k with
  | true => rfl
  | false => rw [getT, hk] at h; cases h
attribute [local go_sem ↓] str_size pk_tt pk_ff hold_one hold_two gO_some gA_tt gA_tf gA_ft gA_ff cA_true cA_false yP_n yP_r yK_n yK_r yQ_n yQ_r yC_nil yC_tmp yC_cell yo_nil yo_cons yo_none yo_guard yo_guardN ys_move ys_assign ys_pick ys_bin ys_un ys_build ys_buildSlice ys_load ys_nilCheck ys_conv ys_extract ys_fieldAddr ys_field ys_indexAddr ys_index ys_slice ys_len ys_alloc ys_box ys_store ys_call ys_append ys_makeFunc ys_callv yd_nil yd_alloc yd_store yd_move yg_move yd_assign yg_assign yd_pick yg_pick yd_bin yg_bin yd_un yg_un yd_build yg_build yd_buildSlice yg_buildSlice yd_load yg_load yd_nilCheck yg_nilCheck yd_conv yg_conv yd_extract yg_extract yd_fieldAddr yg_fieldAddr yd_field yg_field yd_indexAddr yg_indexAddr yd_index yg_index yd_slice yg_slice yd_len yg_len yd_call yg_call ixA_eq sl_es sl_row sl_nil ap_eq bs_eq bl_eq cv_eq ixV_agg thenA_n thenA_r thenA_x inB_n inB_r inB_x loop_r loop_x dstAt_zero dstAt_succ retP_n retP_r
attribute [local go_sem] hle_nil hle_cons oO_one oO_two oO_three oO_nil r1_r0 r1_r1 r1_r2 r1_r3 ro_OW roA_OW go_some al_some okX_f okX_t tells regOnly cv_cl cap0_V cap0_OP cap0_ptr ixA_s ixA_p ixA_o szOf_one szOf_two ixV_str ixW_some sl_str slE_some apE_nil apE_row bsE_one flE_some pget_zero pget_succ blE_some fil_nil fil_cons filB_some cvE_some cv_str' str_list str_cut str_data cut_all cut_to s_eql s_neq s_add s_lss s_geq s_leq s_gtr lt1 set_some set_none get_cons ev_tmp ev_const ev_func ev_global glob_cons cv_int cv_bool cv_str cv_slice cv_ptr cv_agg one_int one_bool one_str one_slice one_ptr b_add b_sub b_mul b_quo b_rem b_and b_or b_xor b_andNot b_shl b_shr b_eql b_neq b_lss b_leq b_gtr b_geq b_str b_beq b_bne u_not u_neg g_tt g_tf g_ft g_ff c_true c_false ex_tu nth_zero nth_succ nthO_zero nthO_succ l_ptr l_ptrV l_ptrS l_op cP_one pP_one oc_one oc_agg st_op f_ptr f_op fv_agg co_agg co_V co_slice co_OW co_OP co_ptr sure_V sure_slice sure_OW sure_OP sure_ptr sure_agg sc_nil sc_cons ixS ixSW ixSN bsV_nil bsV_cons el_slice el_row el_nil len_str len_slice len_row len_nil asI_none asI_some nil_op nil_ptr ro_int ro_bool ro_str ro_nils ro_slice ro_ptr ro_OP ro_OW ro_agg ro_tu roA_agg roA_V roA_slice roA_OW roA_OP roA_ptr r1_int r1_bool r1_str r1_nils r1_slice r1_ptr r1_OP resA_one resA_two resA_three noT_V noT_agg noT_slice noT_OW noT_OP noT_ptr noT_nil argsT_nil argsT_cons allC_nil allC_cons allC_append hle_nil hle_cons le_nil le_cons tT_V tT_SL tT_ptr tT_OW tT_OP tT_agg tT_TU tA_V tA_SL tA_ptr tA_OW tA_OP tA_agg t1_V t1_SL t1_ptr t1_OW t1_OP tO_mk get_cons beq_self_eq_true Nat.zero_lt_succ Nat.lt_add_one true_or or_true Bool.or_self Nat.zero_add Nat.add_zero Nat.mul_one Int.toNat_natCast Int.natCast_zero Int.natCast_add Int.cast_ofNat_Int or_false false_or or_true true_or Nat.sub_zero Int.natCast_nonneg Int.toNat_zero Bool.true_and Bool.and_true Bool.false_and Bool.and_false Bool.true_or Bool.or_true Bool.false_or Bool.or_false Bool.not_true Bool.not_false Bool.not_not true_and and_true false_and and_false not_true_eq_false not_false_eq_true eq_self decide_true decide_false ne_eq implies_true forall_const true_implies false_implies Bool.true_eq_false Bool.false_eq_true List.map_cons List.map_nil List.all_cons List.all_nil List.length_cons List.length_nil List.length_map List.length_append List.nil_append List.cons_append List.set_cons_zero List.set_cons_succ List.set_nil List.drop_zero List.drop_succ_cons List.drop_nil List.take_zero List.take_succ_cons List.take_nil Option.map_some Option.map_none Option.isSome_some tk_2 tk_3 tk_9 tk_22 tk_23 tk_26 tk_28 tk_30 tk_81 tf_26_0 tf_26_1 tf_28_0 tf_28_1 tf_28_2 tf_30_0 tf_30_1 tf_30_2 tf_54_0 tf_54_1 tf_54_2 tf_54_3 ts_9 ts_22 ts_23 ts_24 ts_49 ts_79 ts_94 ta_9 ta_22 ta_23 ta_24 ta_49 ta_94 tp_26 tp_28 tp_30 tq_22 tq_49 tq_79 ti_3 ti_5 ti_81 tz_28 tz_30 tv_2 tv_3 tu_4 tv_4 tv_5 tu_9 tv_9 tv_33 tv_81 iA_def fl_it allC_it foldA_all lt_it lt_fold lA_def leC_lt1 tC_len zC_len tC_sure tC_lt1 tC_ltA zC_ltA zC_lt1 tC_ro zC_sure zC_ro tC_take zC_take tC_take16 sc_tt sc_zt sc_tz sc_zz add16 tz_26' tA_def
set_option maxHeartbeats 400000 in
theorem del1_d {G : Gl} (hG : SigG G) (t : Tr) (l : List Item) (k : Bytes) (y : Item) (hl : l.length ≤ 1000000) : AC Tryd.prog G 35 [lA l, OP 1 0] [⟨1, 26, 0, tC t⟩, ⟨1, 9, 0, [sA k]⟩, ⟨1, 26, 0, zC⟩, ⟨1, 30, 0, xC y⟩, ⟨1, 26, 0, tC t⟩, ⟨1, 26, 0, zC⟩] (Is (TU [lA (delK l k).1, nA (delK l k).2]) [⟨1, 26, 0, tC t⟩, ⟨1, 9, 0, [sA k]⟩, ⟨1, 26, 0, zC⟩, ⟨1, 30, 0, xC y⟩, ⟨1, 26, 0, tC t⟩, ⟨1, 26, 0, zC⟩]) := by
  refine ac_of_wpK (c := _) Tryd.func35 rfl (by kernel_rfl) [.tmp 3, .tmp 4] rfl _ Tryd.ntmps35 (Nat.le_of_ble_eq_true rfl) ?_ (Nat.le_of_ble_eq_true rfl) ?_ ?_
  · (simp (disch := omega) only [go_sem, ↓reduceIte, Nat.reduceEqDiff, Nat.reduceAdd, Nat.reduceSub, Nat.reduceMul, Nat.reduceLeDiff, Nat.reduceLT, Int.reduceEq, Int.reduceNe, Int.reduceLT, Int.reduceLE, Int.reduceAdd, Int.reduceSub, Int.reduceMul, Int.reduceNeg, Int.reduceToNat, reduceCtorEq, w_i64, w_u64, tdiv_pos, tmod_pos, nth_map, foldA_len, nth_le, nth_tl, nth_tv, set_tl, set_tv, itC_def])
  · (simp (disch := omega) only [go_sem, ↓reduceIte, Nat.reduceEqDiff, Nat.reduceAdd, Nat.reduceSub, Nat.reduceMul, Nat.reduceLeDiff, Nat.reduceLT, Int.reduceEq, Int.reduceNe, Int.reduceLT, Int.reduceLE, Int.reduceAdd, Int.reduceSub, Int.reduceMul, Int.reduceNeg, Int.reduceToNat, reduceCtorEq, w_i64, w_u64, tdiv_pos, tmod_pos, nth_map, foldA_len, nth_le, nth_tl, nth_tv, set_tl, set_tv])
  repeat' (first | (refine call_pure (cl_del _ k hG hl) rfl ?_) | (with_reducible refine aq ?_) | (with_reducible refine yr (by kernel_rfl) (Nat.le_of_ble_eq_true rfl) ?_) | (with_reducible refine yx MIX (by kernel_rfl) (by kernel_rfl) (by kernel_rfl) (Nat.le_of_ble_eq_true rfl) ?_) | (with_reducible refine yc ?_) | (with_reducible refine yseq ?_) | (with_reducible refine awp_block ?_) | (with_reducible refine awp_ret ?_) | (with_reducible refine awp_exit ?_) | (with_reducible refine awp_skip ?_) | (with_reducible refine yr1 (by kernel_rfl) (Nat.le_of_ble_eq_true rfl) ?_) | (with_reducible refine yx1 MIX (by kernel_rfl) (by kernel_rfl) (by kernel_rfl) (Nat.le_of_ble_eq_true rfl) ?_) | (simp only [go_sem, ↓reduceIte, Nat.reduceEqDiff, Nat.reduceAdd, Nat.reduceSub, Nat.reduceMul, Nat.reduceLeDiff, Nat.reduceLT, Int.reduceEq, Int.reduceNe, Int.reduceLT, Int.reduceLE, Int.reduceAdd, Int.reduceSub, Int.reduceMul, Int.reduceNeg, Int.reduceToNat, reduceCtorEq]) | ((with_reducible refine cA_t (by first | with_reducible assumption | (simp only [decide_eq_true_eq, decide_eq_false_iff_not]; first | with_reducible assumption | omega)) (fun h => ?_)) <;> (try rewrite [h]) <;> clear h) | ((with_reducible refine cA_f (by first | with_reducible assumption | (simp only [decide_eq_true_eq, decide_eq_false_iff_not]; first | with_reducible assumption | omega)) (fun h => ?_)) <;> (try rewrite [h]) <;> clear h) | ((with_reducible refine gA_t (by first | with_reducible assumption | (simp only [decide_eq_true_eq, decide_eq_false_iff_not]; first | with_reducible assumption | omega)) (fun h => ?_)) <;> (try rewrite [h]) <;> clear h) | ((with_reducible refine gA_f (by first | with_reducible assumption | (simp only [decide_eq_true_eq, decide_eq_false_iff_not]; first | with_reducible assumption | omega)) (fun h => ?_)) <;> (try rewrite [h]) <;> clear h) | ((with_reducible refine pk_t (by first | with_reducible assumption | (simp only [decide_eq_true_eq, decide_eq_false_iff_not]; first | with_reducible assumption | omega)) (fun h => ?_)) <;> (try rewrite [h]) <;> clear h) | ((with_reducible refine pk_f (by first | with_reducible assumption | (simp only [decide_eq_true_eq, decide_eq_false_iff_not]; first | with_reducible assumption | omega)) (fun h => ?_)) <;> (try rewrite [h]) <;> clear h) | (with_reducible refine pk_if ?_) | ((with_reducible refine cA_split (fun h => ?_) (fun h => ?_)) <;> (try rewrite [h]) <;> (try simp (disch := omega) only [w_i64, w_u64, tdiv_pos, tmod_pos, nth_map, foldA_len, nth_le, nth_tl, nth_tv, set_tl, set_tv] at h) <;> (try simp only [decide_eq_true_eq, decide_eq_false_iff_not, Bool.not_eq_true, Bool.not_eq_false, Bool.not_eq_true', Bool.not_eq_false', not_true_eq_false, not_false_eq_true] at h) <;> (try (exfalso; omega))) | ((with_reducible refine gA_split (fun h => ?_) (fun h => ?_)) <;> (try rewrite [h]) <;> (try simp (disch := omega) only [w_i64, w_u64, tdiv_pos, tmod_pos, nth_map, foldA_len, nth_le, nth_tl, nth_tv, set_tl, set_tv] at h) <;> (try simp only [decide_eq_true_eq, decide_eq_false_iff_not, Bool.not_eq_true, Bool.not_eq_false, Bool.not_eq_true', Bool.not_eq_false', not_true_eq_false, not_false_eq_true] at h) <;> (try (exfalso; omega))) | (simp (disch := omega) only [w_i64, w_u64, tdiv_pos, tmod_pos, nth_map, foldA_len, nth_le, nth_tl, nth_tv, set_tl, set_tv]) | (with_reducible refine And.intro (by first | with_reducible assumption | rfl | omega) ?_) | (with_reducible refine And.intro ?_ ?_))
set_option maxHeartbeats 400000 in
theorem chg2_d {G : Gl} (hG : SigG G) (t : Tr) (k : Bytes) (y : Item) (B ver : Int) (h0 : 0 ≤ B) (h1 : B < 16) (hl : ∀ i, (t.leaf i).length ≤ 1000000) : AC Tryd.prog G 32 [tA t, nA B, nA ver, CL (.func 35) 0 [OP 1 0]] [⟨1, 26, 0, tC t⟩, ⟨1, 9, 0, [sA k]⟩, ⟨1, 26, 0, zC⟩, ⟨1, 30, 0, xC y⟩]
    (Is (TU [tA (chgT t B.toNat ver (delK (t.leaf B.toNat) k)).1, nA (chgT t B.toNat ver (delK (t.leaf B.toNat) k)).2]) [⟨1, 26, 0, tC t⟩, ⟨1, 9, 0, [sA k]⟩, ⟨1, 26, 0, zC⟩, ⟨1, 30, 0, xC y⟩]) := by
  refine ac_of_wpK (c := _) Tryd.func32 rfl (by kernel_rfl) [.cell 8 26, .tmp 9] rfl _ Tryd.ntmps32 (Nat.le_of_ble_eq_true rfl) ?_ (Nat.le_of_ble_eq_true rfl) ?_ ?_
  · (simp (disch := omega) only [go_sem, ↓reduceIte, Nat.reduceEqDiff, Nat.reduceAdd, Nat.reduceSub, Nat.reduceMul, Nat.reduceLeDiff, Nat.reduceLT, Int.reduceEq, Int.reduceNe, Int.reduceLT, Int.reduceLE, Int.reduceAdd, Int.reduceSub, Int.reduceMul, Int.reduceNeg, Int.reduceToNat, reduceCtorEq, w_i64, w_u64, tdiv_pos, tmod_pos, nth_map, foldA_len, nth_le, nth_tl, nth_tv, set_tl, set_tv, itC_def])
  · (simp (disch := omega) only [go_sem, ↓reduceIte, Nat.reduceEqDiff, Nat.reduceAdd, Nat.reduceSub, Nat.reduceMul, Nat.reduceLeDiff, Nat.reduceLT, Int.reduceEq, Int.reduceNe, Int.reduceLT, Int.reduceLE, Int.reduceAdd, Int.reduceSub, Int.reduceMul, Int.reduceNeg, Int.reduceToNat, reduceCtorEq, w_i64, w_u64, tdiv_pos, tmod_pos, nth_map, foldA_len, nth_le, nth_tl, nth_tv, set_tl, set_tv])
  repeat' (first | (refine call_keep (del1_d hG _ _ k y (hl _)) ?_) | (with_reducible refine aq ?_) | (with_reducible refine yr (by kernel_rfl) (Nat.le_of_ble_eq_true rfl) ?_) | (with_reducible refine yx MIX (by kernel_rfl) (by kernel_rfl) (by kernel_rfl) (Nat.le_of_ble_eq_true rfl) ?_) | (with_reducible refine yc ?_) | (with_reducible refine yseq ?_) | (with_reducible refine awp_block ?_) | (with_reducible refine awp_ret ?_) | (with_reducible refine awp_exit ?_) | (with_reducible refine awp_skip ?_) | (with_reducible refine yr1 (by kernel_rfl) (Nat.le_of_ble_eq_true rfl) ?_) | (with_reducible refine yx1 MIX (by kernel_rfl) (by kernel_rfl) (by kernel_rfl) (Nat.le_of_ble_eq_true rfl) ?_) | (simp only [go_sem, ↓reduceIte, Nat.reduceEqDiff, Nat.reduceAdd, Nat.reduceSub, Nat.reduceMul, Nat.reduceLeDiff, Nat.reduceLT, Int.reduceEq, Int.reduceNe, Int.reduceLT, Int.reduceLE, Int.reduceAdd, Int.reduceSub, Int.reduceMul, Int.reduceNeg, Int.reduceToNat, reduceCtorEq]) | ((with_reducible refine cA_t (by first | with_reducible assumption | (simp only [decide_eq_true_eq, decide_eq_false_iff_not]; first | with_reducible assumption | omega)) (fun h => ?_)) <;> (try rewrite [h]) <;> clear h) | ((with_reducible refine cA_f (by first | with_reducible assumption | (simp only [decide_eq_true_eq, decide_eq_false_iff_not]; first | with_reducible assumption | omega)) (fun h => ?_)) <;> (try rewrite [h]) <;> clear h) | ((with_reducible refine gA_t (by first | with_reducible assumption | (simp only [decide_eq_true_eq, decide_eq_false_iff_not]; first | with_reducible assumption | omega)) (fun h => ?_)) <;> (try rewrite [h]) <;> clear h) | ((with_reducible refine gA_f (by first | with_reducible assumption | (simp only [decide_eq_true_eq, decide_eq_false_iff_not]; first | with_reducible assumption | omega)) (fun h => ?_)) <;> (try rewrite [h]) <;> clear h) | ((with_reducible refine pk_t (by first | with_reducible assumption | (simp only [decide_eq_true_eq, decide_eq_false_iff_not]; first | with_reducible assumption | omega)) (fun h => ?_)) <;> (try rewrite [h]) <;> clear h) | ((with_reducible refine pk_f (by first | with_reducible assumption | (simp only [decide_eq_true_eq, decide_eq_false_iff_not]; first | with_reducible assumption | omega)) (fun h => ?_)) <;> (try rewrite [h]) <;> clear h) | (with_reducible refine pk_if ?_) | ((with_reducible refine cA_split (fun h => ?_) (fun h => ?_)) <;> (try rewrite [h]) <;> (try simp (disch := omega) only [w_i64, w_u64, tdiv_pos, tmod_pos, nth_map, foldA_len, nth_le, nth_tl, nth_tv, set_tl, set_tv] at h) <;> (try simp only [decide_eq_true_eq, decide_eq_false_iff_not, Bool.not_eq_true, Bool.not_eq_false, Bool.not_eq_true', Bool.not_eq_false', not_true_eq_false, not_false_eq_true] at h) <;> (try (exfalso; omega))) | ((with_reducible refine gA_split (fun h => ?_) (fun h => ?_)) <;> (try rewrite [h]) <;> (try simp (disch := omega) only [w_i64, w_u64, tdiv_pos, tmod_pos, nth_map, foldA_len, nth_le, nth_tl, nth_tv, set_tl, set_tv] at h) <;> (try simp only [decide_eq_true_eq, decide_eq_false_iff_not, Bool.not_eq_true, Bool.not_eq_false, Bool.not_eq_true', Bool.not_eq_false', not_true_eq_false, not_false_eq_true] at h) <;> (try (exfalso; omega))) | (simp (disch := omega) only [w_i64, w_u64, tdiv_pos, tmod_pos, nth_map, foldA_len, nth_le, nth_tl, nth_tv, set_tl, set_tv]) | (with_reducible refine And.intro (by first | with_reducible assumption | rfl | omega) ?_) | (with_reducible refine And.intro ?_ ?_))
  · rw [chgT, if_neg (by omega)]
  · rw [chgT, if_pos (by omega)]; rfl
set_option maxHeartbeats 400000 in
theorem del_d {G : Gl} (hG : SigG G) (t : Tr) (k : Bytes) (ver : Int) (hl : ∀ i, (t.leaf i).length ≤ 1000000) : ACp Tryd.prog G 10 [tA t, sA k, nA ver] (TU [tA (delT t k ver).1, nA (delT t k ver).2]) := by
  have hl' : ∀ i, (t.leaf i).length ≤ 34359738368 := fun i => Nat.le_trans (hl i) (by decide)
  by_cases hm : mayT t = true ∧ 0 ≤ ver ∧ ver ≤ 2147483647
  · obtain ⟨hm, hv0, hv1⟩ := hm
    cases hk : (getT t k).isSome with
    | false =>
      have e : delT t k ver = (Tr.zero, 6) := by rw [delT, hm, hk, show decide (ver < 0) = false by simp; omega, show decide (2147483647 < ver) = false by simp; omega]; rfl
      refine acp_of_wpC (c := _) Tryd.func10 rfl (by kernel_rfl) [.cell 6 26, .tmp 7] rfl _ Tryd.ntmps10 (Nat.le_of_ble_eq_true rfl) rfl ?_
      repeat' (first | (refine call_pure (may_d hG _ hl') (by (simp (disch := omega) only [go_sem, ↓reduceIte, Nat.reduceEqDiff, Nat.reduceAdd, Nat.reduceSub, Nat.reduceMul, Nat.reduceLeDiff, Nat.reduceLT, Int.reduceEq, Int.reduceNe, Int.reduceLT, Int.reduceLE, Int.reduceAdd, Int.reduceSub, Int.reduceMul, Int.reduceNeg, Int.reduceToNat, reduceCtorEq, w_i64, w_u64, tdiv_pos, tmod_pos, nth_map, foldA_len, nth_le, nth_tl, nth_tv, set_tl, set_tv])) ?_) | (refine call_pure (get_d hG _ _ hl) (by (simp (disch := omega) only [go_sem, ↓reduceIte, Nat.reduceEqDiff, Nat.reduceAdd, Nat.reduceSub, Nat.reduceMul, Nat.reduceLeDiff, Nat.reduceLT, Int.reduceEq, Int.reduceNe, Int.reduceLT, Int.reduceLE, Int.reduceAdd, Int.reduceSub, Int.reduceMul, Int.reduceNeg, Int.reduceToNat, reduceCtorEq, w_i64, w_u64, tdiv_pos, tmod_pos, nth_map, foldA_len, nth_le, nth_tl, nth_tv, set_tl, set_tv])) ?_) | (with_reducible refine aq ?_) | (with_reducible refine yr (by kernel_rfl) (Nat.le_of_ble_eq_true rfl) ?_) | (with_reducible refine yx MIX (by kernel_rfl) (by kernel_rfl) (by kernel_rfl) (Nat.le_of_ble_eq_true rfl) ?_) | (with_reducible refine yc ?_) | (with_reducible refine yseq ?_) | (with_reducible refine awp_block ?_) | (with_reducible refine awp_ret ?_) | (with_reducible refine awp_exit ?_) | (with_reducible refine awp_skip ?_) | (with_reducible refine yr1 (by kernel_rfl) (Nat.le_of_ble_eq_true rfl) ?_) | (with_reducible refine yx1 MIX (by kernel_rfl) (by kernel_rfl) (by kernel_rfl) (Nat.le_of_ble_eq_true rfl) ?_) | (simp only [go_sem, ↓reduceIte, Nat.reduceEqDiff, Nat.reduceAdd, Nat.reduceSub, Nat.reduceMul, Nat.reduceLeDiff, Nat.reduceLT, Int.reduceEq, Int.reduceNe, Int.reduceLT, Int.reduceLE, Int.reduceAdd, Int.reduceSub, Int.reduceMul, Int.reduceNeg, Int.reduceToNat, reduceCtorEq, hm, hk, e]) | ((with_reducible refine cA_t (by first | with_reducible assumption | (simp only [decide_eq_true_eq, decide_eq_false_iff_not]; first | with_reducible assumption | omega)) (fun h => ?_)) <;> (try rewrite [h]) <;> clear h) | ((with_reducible refine cA_f (by first | with_reducible assumption | (simp only [decide_eq_true_eq, decide_eq_false_iff_not]; first | with_reducible assumption | omega)) (fun h => ?_)) <;> (try rewrite [h]) <;> clear h) | ((with_reducible refine gA_t (by first | with_reducible assumption | (simp only [decide_eq_true_eq, decide_eq_false_iff_not]; first | with_reducible assumption | omega)) (fun h => ?_)) <;> (try rewrite [h]) <;> clear h) | ((with_reducible refine gA_f (by first | with_reducible assumption | (simp only [decide_eq_true_eq, decide_eq_false_iff_not]; first | with_reducible assumption | omega)) (fun h => ?_)) <;> (try rewrite [h]) <;> clear h) | ((with_reducible refine pk_t (by first | with_reducible assumption | (simp only [decide_eq_true_eq, decide_eq_false_iff_not]; first | with_reducible assumption | omega)) (fun h => ?_)) <;> (try rewrite [h]) <;> clear h) | ((with_reducible refine pk_f (by first | with_reducible assumption | (simp only [decide_eq_true_eq, decide_eq_false_iff_not]; first | with_reducible assumption | omega)) (fun h => ?_)) <;> (try rewrite [h]) <;> clear h) | (with_reducible refine pk_if ?_) | ((with_reducible refine cA_split (fun h => ?_) (fun h => ?_)) <;> (try rewrite [h]) <;> (try simp (disch := omega) only [w_i64, w_u64, tdiv_pos, tmod_pos, nth_map, foldA_len, nth_le, nth_tl, nth_tv, set_tl, set_tv] at h) <;> (try simp only [decide_eq_true_eq, decide_eq_false_iff_not, Bool.not_eq_true, Bool.not_eq_false, Bool.not_eq_true', Bool.not_eq_false', not_true_eq_false, not_false_eq_true] at h) <;> (try (exfalso; omega))) | ((with_reducible refine gA_split (fun h => ?_) (fun h => ?_)) <;> (try rewrite [h]) <;> (try simp (disch := omega) only [w_i64, w_u64, tdiv_pos, tmod_pos, nth_map, foldA_len, nth_le, nth_tl, nth_tv, set_tl, set_tv] at h) <;> (try simp only [decide_eq_true_eq, decide_eq_false_iff_not, Bool.not_eq_true, Bool.not_eq_false, Bool.not_eq_true', Bool.not_eq_false', not_true_eq_false, not_false_eq_true] at h) <;> (try (exfalso; omega))) | (simp (disch := omega) only [w_i64, w_u64, tdiv_pos, tmod_pos, nth_map, foldA_len, nth_le, nth_tl, nth_tv, set_tl, set_tv]) | (with_reducible refine And.intro (by first | with_reducible assumption | rfl | omega) ?_) | (with_reducible refine And.intro ?_ ?_))
    | true =>
      have hb := bucketK_in (getT_key hk)
      have e : delT t k ver = if ver < t.ver (bucketK k).toNat then (Tr.zero, 18) else chgT t (bucketK k).toNat ver (delK (t.leaf (bucketK k).toNat) k) := by rw [delT, hm, hk, show decide (ver < 0) = false by simp; omega, show decide (2147483647 < ver) = false by simp; omega]; rfl
      refine acp_of_wpC (c := _) Tryd.func10 rfl (by kernel_rfl) [.cell 6 26, .tmp 7] rfl _ Tryd.ntmps10 (Nat.le_of_ble_eq_true rfl) rfl ?_
      repeat' (first | (refine call_pure (may_d hG _ hl') (by (simp (disch := omega) only [go_sem, ↓reduceIte, Nat.reduceEqDiff, Nat.reduceAdd, Nat.reduceSub, Nat.reduceMul, Nat.reduceLeDiff, Nat.reduceLT, Int.reduceEq, Int.reduceNe, Int.reduceLT, Int.reduceLE, Int.reduceAdd, Int.reduceSub, Int.reduceMul, Int.reduceNeg, Int.reduceToNat, reduceCtorEq, w_i64, w_u64, tdiv_pos, tmod_pos, nth_map, foldA_len, nth_le, nth_tl, nth_tv, set_tl, set_tv])) ?_) | (refine call_pure (get_d hG _ _ hl) (by (simp (disch := omega) only [go_sem, ↓reduceIte, Nat.reduceEqDiff, Nat.reduceAdd, Nat.reduceSub, Nat.reduceMul, Nat.reduceLeDiff, Nat.reduceLT, Int.reduceEq, Int.reduceNe, Int.reduceLT, Int.reduceLE, Int.reduceAdd, Int.reduceSub, Int.reduceMul, Int.reduceNeg, Int.reduceToNat, reduceCtorEq, w_i64, w_u64, tdiv_pos, tmod_pos, nth_map, foldA_len, nth_le, nth_tl, nth_tv, set_tl, set_tv])) ?_) | (refine call_pure (bucket_d hG _) rfl ?_) | (refine call_keep (chg2_d hG t k ((getT t k).getD Item.zero) _ _ (by omega) (by omega) hl) ?_) | (with_reducible refine aq ?_) | (with_reducible refine yr (by kernel_rfl) (Nat.le_of_ble_eq_true rfl) ?_) | (with_reducible refine yx MIX (by kernel_rfl) (by kernel_rfl) (by kernel_rfl) (Nat.le_of_ble_eq_true rfl) ?_) | (with_reducible refine yc ?_) | (with_reducible refine yseq ?_) | (with_reducible refine awp_block ?_) | (with_reducible refine awp_ret ?_) | (with_reducible refine awp_exit ?_) | (with_reducible refine awp_skip ?_) | (with_reducible refine yr1 (by kernel_rfl) (Nat.le_of_ble_eq_true rfl) ?_) | (with_reducible refine yx1 MIX (by kernel_rfl) (by kernel_rfl) (by kernel_rfl) (Nat.le_of_ble_eq_true rfl) ?_) | (simp only [go_sem, ↓reduceIte, Nat.reduceEqDiff, Nat.reduceAdd, Nat.reduceSub, Nat.reduceMul, Nat.reduceLeDiff, Nat.reduceLT, Int.reduceEq, Int.reduceNe, Int.reduceLT, Int.reduceLE, Int.reduceAdd, Int.reduceSub, Int.reduceMul, Int.reduceNeg, Int.reduceToNat, reduceCtorEq, hm, hk]) | ((with_reducible refine cA_t (by first | with_reducible assumption | (simp only [decide_eq_true_eq, decide_eq_false_iff_not]; first | with_reducible assumption | omega)) (fun h => ?_)) <;> (try rewrite [h]) <;> clear h) | ((with_reducible refine cA_f (by first | with_reducible assumption | (simp only [decide_eq_true_eq, decide_eq_false_iff_not]; first | with_reducible assumption | omega)) (fun h => ?_)) <;> (try rewrite [h]) <;> clear h) | ((with_reducible refine gA_t (by first | with_reducible assumption | (simp only [decide_eq_true_eq, decide_eq_false_iff_not]; first | with_reducible assumption | omega)) (fun h => ?_)) <;> (try rewrite [h]) <;> clear h) | ((with_reducible refine gA_f (by first | with_reducible assumption | (simp only [decide_eq_true_eq, decide_eq_false_iff_not]; first | with_reducible assumption | omega)) (fun h => ?_)) <;> (try rewrite [h]) <;> clear h) | ((with_reducible refine pk_t (by first | with_reducible assumption | (simp only [decide_eq_true_eq, decide_eq_false_iff_not]; first | with_reducible assumption | omega)) (fun h => ?_)) <;> (try rewrite [h]) <;> clear h) | ((with_reducible refine pk_f (by first | with_reducible assumption | (simp only [decide_eq_true_eq, decide_eq_false_iff_not]; first | with_reducible assumption | omega)) (fun h => ?_)) <;> (try rewrite [h]) <;> clear h) | (with_reducible refine pk_if ?_) | ((with_reducible refine cA_split (fun h => ?_) (fun h => ?_)) <;> (try rewrite [h]) <;> (try simp (disch := omega) only [w_i64, w_u64, tdiv_pos, tmod_pos, nth_map, foldA_len, nth_le, nth_tl, nth_tv, set_tl, set_tv] at h) <;> (try simp only [decide_eq_true_eq, decide_eq_false_iff_not, Bool.not_eq_true, Bool.not_eq_false, Bool.not_eq_true', Bool.not_eq_false', not_true_eq_false, not_false_eq_true] at h) <;> (try (exfalso; omega))) | ((with_reducible refine gA_split (fun h => ?_) (fun h => ?_)) <;> (try rewrite [h]) <;> (try simp (disch := omega) only [w_i64, w_u64, tdiv_pos, tmod_pos, nth_map, foldA_len, nth_le, nth_tl, nth_tv, set_tl, set_tv] at h) <;> (try simp only [decide_eq_true_eq, decide_eq_false_iff_not, Bool.not_eq_true, Bool.not_eq_false, Bool.not_eq_true', Bool.not_eq_false', not_true_eq_false, not_false_eq_true] at h) <;> (try (exfalso; omega))) | (simp (disch := omega) only [w_i64, w_u64, tdiv_pos, tmod_pos, nth_map, foldA_len, nth_le, nth_tl, nth_tv, set_tl, set_tv]) | (with_reducible refine And.intro (by first | with_reducible assumption | rfl | omega) ?_) | (with_reducible refine And.intro ?_ ?_))
      · rw [e, if_pos (by omega)]
        try rfl
      · rw [e, if_neg (by omega)]
        try rfl
  · have e : delT t k ver = (Tr.zero, 1) := by
      rw [delT, if_pos]
      cases h : mayT t with
      | false => rfl
      | true =>
        rw [h] at hm
        simp only [true_and] at hm
        have : ver < 0 ∨ 2147483647 < ver := by omega
        rcases this with h | h <;> simp [h]
    cases h0 : mayT t with
    | false =>
      refine acp_of_wpC (c := _) Tryd.func10 rfl (by kernel_rfl) [.cell 6 26, .tmp 7] rfl _ Tryd.ntmps10 (Nat.le_of_ble_eq_true rfl) rfl ?_
      repeat' (first | (refine call_pure (may_d hG _ hl') (by (simp (disch := omega) only [go_sem, ↓reduceIte, Nat.reduceEqDiff, Nat.reduceAdd, Nat.reduceSub, Nat.reduceMul, Nat.reduceLeDiff, Nat.reduceLT, Int.reduceEq, Int.reduceNe, Int.reduceLT, Int.reduceLE, Int.reduceAdd, Int.reduceSub, Int.reduceMul, Int.reduceNeg, Int.reduceToNat, reduceCtorEq, w_i64, w_u64, tdiv_pos, tmod_pos, nth_map, foldA_len, nth_le, nth_tl, nth_tv, set_tl, set_tv])) ?_) | (with_reducible refine aq ?_) | (with_reducible refine yr (by kernel_rfl) (Nat.le_of_ble_eq_true rfl) ?_) | (with_reducible refine yx MIX (by kernel_rfl) (by kernel_rfl) (by kernel_rfl) (Nat.le_of_ble_eq_true rfl) ?_) | (with_reducible refine yc ?_) | (with_reducible refine yseq ?_) | (with_reducible refine awp_block ?_) | (with_reducible refine awp_ret ?_) | (with_reducible refine awp_exit ?_) | (with_reducible refine awp_skip ?_) | (with_reducible refine yr1 (by kernel_rfl) (Nat.le_of_ble_eq_true rfl) ?_) | (with_reducible refine yx1 MIX (by kernel_rfl) (by kernel_rfl) (by kernel_rfl) (Nat.le_of_ble_eq_true rfl) ?_) | (simp only [go_sem, ↓reduceIte, Nat.reduceEqDiff, Nat.reduceAdd, Nat.reduceSub, Nat.reduceMul, Nat.reduceLeDiff, Nat.reduceLT, Int.reduceEq, Int.reduceNe, Int.reduceLT, Int.reduceLE, Int.reduceAdd, Int.reduceSub, Int.reduceMul, Int.reduceNeg, Int.reduceToNat, reduceCtorEq, h0, e]) | ((with_reducible refine cA_t (by first | with_reducible assumption | (simp only [decide_eq_true_eq, decide_eq_false_iff_not]; first | with_reducible assumption | omega)) (fun h => ?_)) <;> (try rewrite [h]) <;> clear h) | ((with_reducible refine cA_f (by first | with_reducible assumption | (simp only [decide_eq_true_eq, decide_eq_false_iff_not]; first | with_reducible assumption | omega)) (fun h => ?_)) <;> (try rewrite [h]) <;> clear h) | ((with_reducible refine gA_t (by first | with_reducible assumption | (simp only [decide_eq_true_eq, decide_eq_false_iff_not]; first | with_reducible assumption | omega)) (fun h => ?_)) <;> (try rewrite [h]) <;> clear h) | ((with_reducible refine gA_f (by first | with_reducible assumption | (simp only [decide_eq_true_eq, decide_eq_false_iff_not]; first | with_reducible assumption | omega)) (fun h => ?_)) <;> (try rewrite [h]) <;> clear h) | ((with_reducible refine pk_t (by first | with_reducible assumption | (simp only [decide_eq_true_eq, decide_eq_false_iff_not]; first | with_reducible assumption | omega)) (fun h => ?_)) <;> (try rewrite [h]) <;> clear h) | ((with_reducible refine pk_f (by first | with_reducible assumption | (simp only [decide_eq_true_eq, decide_eq_false_iff_not]; first | with_reducible assumption | omega)) (fun h => ?_)) <;> (try rewrite [h]) <;> clear h) | (with_reducible refine pk_if ?_) | ((with_reducible refine cA_split (fun h => ?_) (fun h => ?_)) <;> (try rewrite [h]) <;> (try simp (disch := omega) only [w_i64, w_u64, tdiv_pos, tmod_pos, nth_map, foldA_len, nth_le, nth_tl, nth_tv, set_tl, set_tv] at h) <;> (try simp only [decide_eq_true_eq, decide_eq_false_iff_not, Bool.not_eq_true, Bool.not_eq_false, Bool.not_eq_true', Bool.not_eq_false', not_true_eq_false, not_false_eq_true] at h) <;> (try (exfalso; omega))) | ((with_reducible refine gA_split (fun h => ?_) (fun h => ?_)) <;> (try rewrite [h]) <;> (try simp (disch := omega) only [w_i64, w_u64, tdiv_pos, tmod_pos, nth_map, foldA_len, nth_le, nth_tl, nth_tv, set_tl, set_tv] at h) <;> (try simp only [decide_eq_true_eq, decide_eq_false_iff_not, Bool.not_eq_true, Bool.not_eq_false, Bool.not_eq_true', Bool.not_eq_false', not_true_eq_false, not_false_eq_true] at h) <;> (try (exfalso; omega))) | (simp (disch := omega) only [w_i64, w_u64, tdiv_pos, tmod_pos, nth_map, foldA_len, nth_le, nth_tl, nth_tv, set_tl, set_tv]) | (with_reducible refine And.intro (by first | with_reducible assumption | rfl | omega) ?_) | (with_reducible refine And.intro ?_ ?_))
    | true =>
      simp only [h0, true_and] at hm
      refine acp_of_wpC (c := _) Tryd.func10 rfl (by kernel_rfl) [.cell 6 26, .tmp 7] rfl _ Tryd.ntmps10 (Nat.le_of_ble_eq_true rfl) rfl ?_
      repeat' (first | (refine call_pure (may_d hG _ hl') (by (simp (disch := omega) only [go_sem, ↓reduceIte, Nat.reduceEqDiff, Nat.reduceAdd, Nat.reduceSub, Nat.reduceMul, Nat.reduceLeDiff, Nat.reduceLT, Int.reduceEq, Int.reduceNe, Int.reduceLT, Int.reduceLE, Int.reduceAdd, Int.reduceSub, Int.reduceMul, Int.reduceNeg, Int.reduceToNat, reduceCtorEq, w_i64, w_u64, tdiv_pos, tmod_pos, nth_map, foldA_len, nth_le, nth_tl, nth_tv, set_tl, set_tv])) ?_) | (with_reducible refine aq ?_) | (with_reducible refine yr (by kernel_rfl) (Nat.le_of_ble_eq_true rfl) ?_) | (with_reducible refine yx MIX (by kernel_rfl) (by kernel_rfl) (by kernel_rfl) (Nat.le_of_ble_eq_true rfl) ?_) | (with_reducible refine yc ?_) | (with_reducible refine yseq ?_) | (with_reducible refine awp_block ?_) | (with_reducible refine awp_ret ?_) | (with_reducible refine awp_exit ?_) | (with_reducible refine awp_skip ?_) | (with_reducible refine yr1 (by kernel_rfl) (Nat.le_of_ble_eq_true rfl) ?_) | (with_reducible refine yx1 MIX (by kernel_rfl) (by kernel_rfl) (by kernel_rfl) (Nat.le_of_ble_eq_true rfl) ?_) | (simp only [go_sem, ↓reduceIte, Nat.reduceEqDiff, Nat.reduceAdd, Nat.reduceSub, Nat.reduceMul, Nat.reduceLeDiff, Nat.reduceLT, Int.reduceEq, Int.reduceNe, Int.reduceLT, Int.reduceLE, Int.reduceAdd, Int.reduceSub, Int.reduceMul, Int.reduceNeg, Int.reduceToNat, reduceCtorEq, h0, e]) | ((with_reducible refine cA_t (by first | with_reducible assumption | (simp only [decide_eq_true_eq, decide_eq_false_iff_not]; first | with_reducible assumption | omega)) (fun h => ?_)) <;> (try rewrite [h]) <;> clear h) | ((with_reducible refine cA_f (by first | with_reducible assumption | (simp only [decide_eq_true_eq, decide_eq_false_iff_not]; first | with_reducible assumption | omega)) (fun h => ?_)) <;> (try rewrite [h]) <;> clear h) | ((with_reducible refine gA_t (by first | with_reducible assumption | (simp only [decide_eq_true_eq, decide_eq_false_iff_not]; first | with_reducible assumption | omega)) (fun h => ?_)) <;> (try rewrite [h]) <;> clear h) | ((with_reducible refine gA_f (by first | with_reducible assumption | (simp only [decide_eq_true_eq, decide_eq_false_iff_not]; first | with_reducible assumption | omega)) (fun h => ?_)) <;> (try rewrite [h]) <;> clear h) | ((with_reducible refine pk_t (by first | with_reducible assumption | (simp only [decide_eq_true_eq, decide_eq_false_iff_not]; first | with_reducible assumption | omega)) (fun h => ?_)) <;> (try rewrite [h]) <;> clear h) | ((with_reducible refine pk_f (by first | with_reducible assumption | (simp only [decide_eq_true_eq, decide_eq_false_iff_not]; first | with_reducible assumption | omega)) (fun h => ?_)) <;> (try rewrite [h]) <;> clear h) | (with_reducible refine pk_if ?_) | ((with_reducible refine cA_split (fun h => ?_) (fun h => ?_)) <;> (try rewrite [h]) <;> (try simp (disch := omega) only [w_i64, w_u64, tdiv_pos, tmod_pos, nth_map, foldA_len, nth_le, nth_tl, nth_tv, set_tl, set_tv] at h) <;> (try simp only [decide_eq_true_eq, decide_eq_false_iff_not, Bool.not_eq_true, Bool.not_eq_false, Bool.not_eq_true', Bool.not_eq_false', not_true_eq_false, not_false_eq_true] at h) <;> (try (exfalso; omega))) | ((with_reducible refine gA_split (fun h => ?_) (fun h => ?_)) <;> (try rewrite [h]) <;> (try simp (disch := omega) only [w_i64, w_u64, tdiv_pos, tmod_pos, nth_map, foldA_len, nth_le, nth_tl, nth_tv, set_tl, set_tv] at h) <;> (try simp only [decide_eq_true_eq, decide_eq_false_iff_not, Bool.not_eq_true, Bool.not_eq_false, Bool.not_eq_true', Bool.not_eq_false', not_true_eq_false, not_false_eq_true] at h) <;> (try (exfalso; omega))) | (simp (disch := omega) only [w_i64, w_u64, tdiv_pos, tmod_pos, nth_map, foldA_len, nth_le, nth_tl, nth_tv, set_tl, set_tv]) | (with_reducible refine And.intro (by first | with_reducible assumption | rfl | omega) ?_) | (with_reducible refine And.intro ?_ ?_))
end Go.Proofs.YthmnhfabkllgpaaDoor

namespace Go.Proofs.YthmnhfabkllgpaaDoor
open Go.RowKit
set_option linter.unusedVariables false
set_option linter.unusedSimpArgs false
set_option maxRecDepth 20000
def sumTo (f : Nat → Nat) : Nat → Nat
  | 0 => 0
  | k + 1 => sumTo f k + f k
theorem sumTo_le {f : Nat → Nat} {m : Nat} (h : ∀ i, f i ≤ m) : ∀ k, sumTo f k ≤ k * m
  | 0 => by simp [sumTo]
  | k + 1 => by have := sumTo_le h k; have := h k; rw [sumTo, Nat.succ_mul]; omega
def countT (t : Tr) : Nat := if mayT t then sumTo (fun i => (t.leaf i).length) 16 else 0
def weightT (t : Tr) : Nat := if mayT t then sumTo (fun i => weightP (t.leaf i)) 16 else 0
def unlikeAt (a b : Tr) (i : Nat) : Bool := decide (¬ a.ver i = b.ver i) || !decide (a.leaf i = b.leaf i)
def unlikeL (a b : Tr) (k : Nat) : List Nat := (List.range k).filter (unlikeAt a b)
def nLs (l : List Nat) : List AV := l.map fun (i : Nat) => nA (i : Int)
theorem eqGuard_it : Tryd.prog.eqGuardType Tryd.prog.depth 30 = false := by kernel_rfl
theorem eqAgg_neq (x y : Item) : eqAgg Tryd.prog 30 .neq x.cells y.cells (!decide (x = y)) := by
  intro ox oy w
  obtain ⟨k1, d1, i1, s1, v1⟩ := x
  obtain ⟨k2, d2, i2, s2, v2⟩ := y
  simp only [Sem.run_bind, run_eqGuard_agg _ _ _ _ _ _ _ eqGuard_it, Result.andThen_ok]
  exact run_neq_item w k1 d1 i1 s1 v1 k2 d2 i2 s2 v2
theorem eqAgg_eql (x y : Item) : eqAgg Tryd.prog 30 .eql x.cells y.cells (decide (x = y)) := by
  intro ox oy w
  obtain ⟨k1, d1, i1, s1, v1⟩ := x
  obtain ⟨k2, d2, i2, s2, v2⟩ := y
  simp only [Sem.run_bind, run_eqGuard_agg _ _ _ _ _ _ _ eqGuard_it, Result.andThen_ok]
  exact run_eq_item w k1 d1 i1 s1 v1 k2 d2 i2 s2 v2
theorem neq_it {K1 : AV → Prop} (x y : Item) (k : K1 (bA (!decide (x = y)))) : aBin Tryd.prog 30 .neq (iA x) (iA y) K1 := ⟨_, _, _, rfl, rfl, eqAgg_neq x y, k⟩
theorem eql_it {K1 : AV → Prop} (x y : Item) (k : K1 (bA (decide (x = y)))) : aBin Tryd.prog 30 .eql (iA x) (iA y) K1 := ⟨_, _, _, rfl, rfl, eqAgg_eql x y, k⟩
theorem nLs_len (l : List Nat) : (nLs l).length = l.length := by simp [nLs]
theorem nLs_allC (l : List Nat) : allC 1 (nLs l) = True := allC_mapEq fun x => rfl
theorem nLs_lt (l : List Nat) (m : Nat) : (nLs l).all (ltA m) = true := by
  simp only [nLs, List.all_map, List.all_eq_true, Function.comp_apply]
  exact fun x _ => rfl
theorem unlikeL_le (a b : Tr) (k : Nat) : (unlikeL a b k).length ≤ k := by
  have := List.length_filter_le (unlikeAt a b) (List.range k)
  rwa [List.length_range] at this
theorem unlikeL_succ (a b : Tr) (k : Nat) : unlikeL a b (k + 1) = unlikeL a b k ++ (if unlikeAt a b k then [k] else []) := by
  rw [unlikeL, List.range_succ, List.filter_append]
  simp [unlikeL, List.filter_cons]
attribute [local go_sem ↓] str_size pk_tt pk_ff hold_one hold_two gO_some gA_tt gA_tf gA_ft gA_ff cA_true cA_false yP_n yP_r yK_n yK_r yQ_n yQ_r yC_nil yC_tmp yC_cell yo_nil yo_cons yo_none yo_guard yo_guardN ys_move ys_assign ys_pick ys_bin ys_un ys_build ys_buildSlice ys_load ys_nilCheck ys_conv ys_extract ys_fieldAddr ys_field ys_indexAddr ys_index ys_slice ys_len ys_alloc ys_box ys_store ys_call ys_append ys_makeFunc ys_callv yd_nil yd_alloc yd_store yd_move yg_move yd_assign yg_assign yd_pick yg_pick yd_bin yg_bin yd_un yg_un yd_build yg_build yd_buildSlice yg_buildSlice yd_load yg_load yd_nilCheck yg_nilCheck yd_conv yg_conv yd_extract yg_extract yd_fieldAddr yg_fieldAddr yd_field yg_field yd_indexAddr yg_indexAddr yd_index yg_index yd_slice yg_slice yd_len yg_len yd_call yg_call ixA_eq sl_es sl_row sl_nil ap_eq bs_eq bl_eq cv_eq ixV_agg thenA_n thenA_r thenA_x inB_n inB_r inB_x loop_r loop_x dstAt_zero dstAt_succ retP_n retP_r
attribute [local go_sem] hle_nil hle_cons oO_one oO_two oO_three oO_nil r1_r0 r1_r1 r1_r2 r1_r3 ro_OW roA_OW go_some al_some okX_f okX_t tells regOnly cv_cl cap0_V cap0_OP cap0_ptr ixA_s ixA_p ixA_o szOf_one szOf_two ixV_str ixW_some sl_str slE_some apE_nil apE_row bsE_one flE_some pget_zero pget_succ blE_some fil_nil fil_cons filB_some cvE_some cv_str' str_list str_cut str_data cut_all cut_to s_eql s_neq s_add s_lss s_geq s_leq s_gtr lt1 set_some set_none get_cons ev_tmp ev_const ev_func ev_global glob_cons cv_int cv_bool cv_str cv_slice cv_ptr cv_agg one_int one_bool one_str one_slice one_ptr b_add b_sub b_mul b_quo b_rem b_and b_or b_xor b_andNot b_shl b_shr b_eql b_neq b_lss b_leq b_gtr b_geq b_str b_beq b_bne u_not u_neg g_tt g_tf g_ft g_ff c_true c_false ex_tu nth_zero nth_succ nthO_zero nthO_succ l_ptr l_ptrV l_ptrS l_op cP_one pP_one oc_one oc_agg st_op f_ptr f_op fv_agg co_agg co_V co_slice co_OW co_OP co_ptr sure_V sure_slice sure_OW sure_OP sure_ptr sure_agg sc_nil sc_cons ixS ixSW ixSN bsV_nil bsV_cons el_slice el_row el_nil len_str len_slice len_row len_nil asI_none asI_some nil_op nil_ptr ro_int ro_bool ro_str ro_nils ro_slice ro_ptr ro_OP ro_OW ro_agg ro_tu roA_agg roA_V roA_slice roA_OW roA_OP roA_ptr r1_int r1_bool r1_str r1_nils r1_slice r1_ptr r1_OP resA_one resA_two resA_three noT_V noT_agg noT_slice noT_OW noT_OP noT_ptr noT_nil argsT_nil argsT_cons allC_nil allC_cons allC_append hle_nil hle_cons le_nil le_cons tT_V tT_SL tT_ptr tT_OW tT_OP tT_agg tT_TU tA_V tA_SL tA_ptr tA_OW tA_OP tA_agg t1_V t1_SL t1_ptr t1_OW t1_OP tO_mk get_cons beq_self_eq_true Nat.zero_lt_succ Nat.lt_add_one true_or or_true Bool.or_self Nat.zero_add Nat.add_zero Nat.mul_one Int.toNat_natCast Int.natCast_zero Int.natCast_add Int.cast_ofNat_Int or_false false_or or_true true_or Nat.sub_zero Int.natCast_nonneg Int.toNat_zero Bool.true_and Bool.and_true Bool.false_and Bool.and_false Bool.true_or Bool.or_true Bool.false_or Bool.or_false Bool.not_true Bool.not_false Bool.not_not true_and and_true false_and and_false not_true_eq_false not_false_eq_true eq_self decide_true decide_false ne_eq implies_true forall_const true_implies false_implies Bool.true_eq_false Bool.false_eq_true List.map_cons List.map_nil List.all_cons List.all_nil List.length_cons List.length_nil List.length_map List.length_append List.nil_append List.cons_append List.set_cons_zero List.set_cons_succ List.set_nil List.drop_zero List.drop_succ_cons List.drop_nil List.take_zero List.take_succ_cons List.take_nil Option.map_some Option.map_none Option.isSome_some tk_2 tk_3 tk_9 tk_22 tk_23 tk_26 tk_28 tk_30 tk_81 tf_26_0 tf_26_1 tf_28_0 tf_28_1 tf_28_2 tf_30_0 tf_30_1 tf_30_2 tf_54_0 tf_54_1 tf_54_2 tf_54_3 ts_9 ts_22 ts_23 ts_24 ts_49 ts_79 ts_94 ta_9 ta_22 ta_23 ta_24 ta_49 ta_94 tp_26 tp_28 tp_30 tq_22 tq_49 tq_79 ti_3 ti_5 ti_81 tz_28 tz_30 tv_2 tv_3 tu_4 tv_4 tv_5 tu_9 tv_9 tv_33 tv_81 iA_def fl_it allC_it foldA_all lt_it lt_fold lA_def leC_lt1 tC_len zC_len tC_sure tC_lt1 tC_ltA zC_ltA zC_lt1 tC_ro zC_sure zC_ro tC_take zC_take tC_take16 sc_tt sc_zt sc_tz sc_zz add16 tz_26' tA_def
set_option maxHeartbeats 400000 in
theorem count_d {G : Gl} (hG : SigG G) (t : Tr) (hl : ∀ i, (t.leaf i).length ≤ 1000000) : ACp Tryd.prog G 25 [tA t] (nA (countT t)) := by
  have hl' : ∀ i, (t.leaf i).length ≤ 34359738368 := fun i => Nat.le_trans (hl i) (by decide)
  refine acp_of_wpC (c := _) Tryd.func25 rfl (by kernel_rfl) [.tmp 2] rfl _ Tryd.ntmps25 (Nat.le_of_ble_eq_true rfl) rfl ?_
  repeat' (first | (refine call_pure (may_d hG _ hl') (by (simp (disch := omega) only [go_sem, ↓reduceIte, Nat.reduceEqDiff, Nat.reduceAdd, Nat.reduceSub, Nat.reduceMul, Nat.reduceLeDiff, Nat.reduceLT, Int.reduceEq, Int.reduceNe, Int.reduceLT, Int.reduceLE, Int.reduceAdd, Int.reduceSub, Int.reduceMul, Int.reduceNeg, Int.reduceToNat, reduceCtorEq, w_i64, w_u64, tdiv_pos, tmod_pos, nth_map, foldA_len, nth_le, nth_tl, nth_tv, set_tl, set_tv])) ?_) | (with_reducible refine aq ?_) | (with_reducible refine yr (by kernel_rfl) (Nat.le_of_ble_eq_true rfl) ?_) | (with_reducible refine yx MIX (by kernel_rfl) (by kernel_rfl) (by kernel_rfl) (Nat.le_of_ble_eq_true rfl) ?_) | (with_reducible refine yc ?_) | (with_reducible refine yseq ?_) | (with_reducible refine awp_block ?_) | (with_reducible refine awp_ret ?_) | (with_reducible refine awp_exit ?_) | (with_reducible refine awp_skip ?_) | (with_reducible refine yr1 (by kernel_rfl) (Nat.le_of_ble_eq_true rfl) ?_) | (with_reducible refine yx1 MIX (by kernel_rfl) (by kernel_rfl) (by kernel_rfl) (Nat.le_of_ble_eq_true rfl) ?_) | (simp only [go_sem, ↓reduceIte, Nat.reduceEqDiff, Nat.reduceAdd, Nat.reduceSub, Nat.reduceMul, Nat.reduceLeDiff, Nat.reduceLT, Int.reduceEq, Int.reduceNe, Int.reduceLT, Int.reduceLE, Int.reduceAdd, Int.reduceSub, Int.reduceMul, Int.reduceNeg, Int.reduceToNat, reduceCtorEq]) | ((with_reducible refine cA_t (by first | with_reducible assumption | (simp only [decide_eq_true_eq, decide_eq_false_iff_not]; first | with_reducible assumption | omega)) (fun h => ?_)) <;> (try rewrite [h]) <;> clear h) | ((with_reducible refine cA_f (by first | with_reducible assumption | (simp only [decide_eq_true_eq, decide_eq_false_iff_not]; first | with_reducible assumption | omega)) (fun h => ?_)) <;> (try rewrite [h]) <;> clear h) | ((with_reducible refine gA_t (by first | with_reducible assumption | (simp only [decide_eq_true_eq, decide_eq_false_iff_not]; first | with_reducible assumption | omega)) (fun h => ?_)) <;> (try rewrite [h]) <;> clear h) | ((with_reducible refine gA_f (by first | with_reducible assumption | (simp only [decide_eq_true_eq, decide_eq_false_iff_not]; first | with_reducible assumption | omega)) (fun h => ?_)) <;> (try rewrite [h]) <;> clear h) | ((with_reducible refine pk_t (by first | with_reducible assumption | (simp only [decide_eq_true_eq, decide_eq_false_iff_not]; first | with_reducible assumption | omega)) (fun h => ?_)) <;> (try rewrite [h]) <;> clear h) | ((with_reducible refine pk_f (by first | with_reducible assumption | (simp only [decide_eq_true_eq, decide_eq_false_iff_not]; first | with_reducible assumption | omega)) (fun h => ?_)) <;> (try rewrite [h]) <;> clear h) | (with_reducible refine pk_if ?_) | ((with_reducible refine cA_split (fun h => ?_) (fun h => ?_)) <;> (try rewrite [h]) <;> (try simp (disch := omega) only [w_i64, w_u64, tdiv_pos, tmod_pos, nth_map, foldA_len, nth_le, nth_tl, nth_tv, set_tl, set_tv] at h) <;> (try simp only [decide_eq_true_eq, decide_eq_false_iff_not, Bool.not_eq_true, Bool.not_eq_false, Bool.not_eq_true', Bool.not_eq_false', not_true_eq_false, not_false_eq_true] at h) <;> (try (exfalso; omega))) | ((with_reducible refine gA_split (fun h => ?_) (fun h => ?_)) <;> (try rewrite [h]) <;> (try simp (disch := omega) only [w_i64, w_u64, tdiv_pos, tmod_pos, nth_map, foldA_len, nth_le, nth_tl, nth_tv, set_tl, set_tv] at h) <;> (try simp only [decide_eq_true_eq, decide_eq_false_iff_not, Bool.not_eq_true, Bool.not_eq_false, Bool.not_eq_true', Bool.not_eq_false', not_true_eq_false, not_false_eq_true] at h) <;> (try (exfalso; omega))) | (simp (disch := omega) only [w_i64, w_u64, tdiv_pos, tmod_pos, nth_map, foldA_len, nth_le, nth_tl, nth_tv, set_tl, set_tv]) | (with_reducible refine And.intro (by first | with_reducible assumption | rfl | omega) ?_) | (with_reducible refine And.intro ?_ ?_))
  · rw [countT, h]; rfl
  have hm := h
  clear h
  refine awp_loop (ι := {k : Nat // k ≤ 16}) (fun k => ⟨[⟨1, 26, 0, tC t⟩], [(11, V (.int .i64 k.1)), (10, .agg (leC t)), (3, V (.int .i64 (sumTo (fun i => (t.leaf i).length) k.1))), (1, OP 0 0)]⟩) (fun k => 16 - k.1) ⟨0, Nat.zero_le _⟩ ?_ (Nat.zero_le _) ?_
  · (refine le_mk ?_ ?_ ?_ <;> (try simp (disch := omega) only [go_sem, ↓reduceIte, Nat.reduceEqDiff, Nat.reduceAdd, Nat.reduceSub, Nat.reduceMul, Nat.reduceLeDiff, Nat.reduceLT, Int.reduceEq, Int.reduceNe, Int.reduceLT, Int.reduceLE, Int.reduceAdd, Int.reduceSub, Int.reduceMul, Int.reduceNeg, Int.reduceToNat, reduceCtorEq, w_i64, w_u64, tdiv_pos, tmod_pos, nth_map, foldA_len, nth_le, nth_tl, nth_tv, set_tl, set_tv, sumTo]))
  rintro ⟨k, hk⟩
  have hs := sumTo_le hl k
  have hlk := hl k
  dsimp only
  repeat' (first | (refine loop_n ⟨k + 1, by omega⟩ ?_ (Nat.zero_le _) (by dsimp only; omega)) | (refine le_mk ?_ ?_ ?_ <;> (try simp (disch := omega) only [go_sem, ↓reduceIte, Nat.reduceEqDiff, Nat.reduceAdd, Nat.reduceSub, Nat.reduceMul, Nat.reduceLeDiff, Nat.reduceLT, Int.reduceEq, Int.reduceNe, Int.reduceLT, Int.reduceLE, Int.reduceAdd, Int.reduceSub, Int.reduceMul, Int.reduceNeg, Int.reduceToNat, reduceCtorEq, w_i64, w_u64, tdiv_pos, tmod_pos, nth_map, foldA_len, nth_le, nth_tl, nth_tv, set_tl, set_tv])) | (with_reducible refine aq ?_) | (with_reducible refine yr (by kernel_rfl) (Nat.le_of_ble_eq_true rfl) ?_) | (with_reducible refine yx MIX (by kernel_rfl) (by kernel_rfl) (by kernel_rfl) (Nat.le_of_ble_eq_true rfl) ?_) | (with_reducible refine yc ?_) | (with_reducible refine yseq ?_) | (with_reducible refine awp_block ?_) | (with_reducible refine awp_ret ?_) | (with_reducible refine awp_exit ?_) | (with_reducible refine awp_skip ?_) | (with_reducible refine yr1 (by kernel_rfl) (Nat.le_of_ble_eq_true rfl) ?_) | (with_reducible refine yx1 MIX (by kernel_rfl) (by kernel_rfl) (by kernel_rfl) (Nat.le_of_ble_eq_true rfl) ?_) | (simp only [go_sem, ↓reduceIte, Nat.reduceEqDiff, Nat.reduceAdd, Nat.reduceSub, Nat.reduceMul, Nat.reduceLeDiff, Nat.reduceLT, Int.reduceEq, Int.reduceNe, Int.reduceLT, Int.reduceLE, Int.reduceAdd, Int.reduceSub, Int.reduceMul, Int.reduceNeg, Int.reduceToNat, reduceCtorEq]) | ((with_reducible refine cA_t (by first | with_reducible assumption | (simp only [decide_eq_true_eq, decide_eq_false_iff_not]; first | with_reducible assumption | omega)) (fun h => ?_)) <;> (try rewrite [h]) <;> clear h) | ((with_reducible refine cA_f (by first | with_reducible assumption | (simp only [decide_eq_true_eq, decide_eq_false_iff_not]; first | with_reducible assumption | omega)) (fun h => ?_)) <;> (try rewrite [h]) <;> clear h) | ((with_reducible refine gA_t (by first | with_reducible assumption | (simp only [decide_eq_true_eq, decide_eq_false_iff_not]; first | with_reducible assumption | omega)) (fun h => ?_)) <;> (try rewrite [h]) <;> clear h) | ((with_reducible refine gA_f (by first | with_reducible assumption | (simp only [decide_eq_true_eq, decide_eq_false_iff_not]; first | with_reducible assumption | omega)) (fun h => ?_)) <;> (try rewrite [h]) <;> clear h) | ((with_reducible refine pk_t (by first | with_reducible assumption | (simp only [decide_eq_true_eq, decide_eq_false_iff_not]; first | with_reducible assumption | omega)) (fun h => ?_)) <;> (try rewrite [h]) <;> clear h) | ((with_reducible refine pk_f (by first | with_reducible assumption | (simp only [decide_eq_true_eq, decide_eq_false_iff_not]; first | with_reducible assumption | omega)) (fun h => ?_)) <;> (try rewrite [h]) <;> clear h) | (with_reducible refine pk_if ?_) | ((with_reducible refine cA_split (fun h => ?_) (fun h => ?_)) <;> (try rewrite [h]) <;> (try simp (disch := omega) only [w_i64, w_u64, tdiv_pos, tmod_pos, nth_map, foldA_len, nth_le, nth_tl, nth_tv, set_tl, set_tv] at h) <;> (try simp only [decide_eq_true_eq, decide_eq_false_iff_not, Bool.not_eq_true, Bool.not_eq_false, Bool.not_eq_true', Bool.not_eq_false', not_true_eq_false, not_false_eq_true] at h) <;> (try (exfalso; omega))) | ((with_reducible refine gA_split (fun h => ?_) (fun h => ?_)) <;> (try rewrite [h]) <;> (try simp (disch := omega) only [w_i64, w_u64, tdiv_pos, tmod_pos, nth_map, foldA_len, nth_le, nth_tl, nth_tv, set_tl, set_tv] at h) <;> (try simp only [decide_eq_true_eq, decide_eq_false_iff_not, Bool.not_eq_true, Bool.not_eq_false, Bool.not_eq_true', Bool.not_eq_false', not_true_eq_false, not_false_eq_true] at h) <;> (try (exfalso; omega))) | (simp (disch := omega) only [w_i64, w_u64, tdiv_pos, tmod_pos, nth_map, foldA_len, nth_le, nth_tl, nth_tv, set_tl, set_tv]) | (with_reducible refine And.intro (by first | with_reducible assumption | rfl | omega) ?_) | (with_reducible refine And.intro ?_ ?_))
  · rw [sumTo, Int.natCast_add]
  · obtain rfl : k = 16 := by omega
    rw [countT, hm]; rfl
set_option maxHeartbeats 400000 in
theorem weight_d {G : Gl} (hG : SigG G) (t : Tr) (hl : ∀ i, (t.leaf i).length ≤ 1000000) (hw : ∀ i, weightP (t.leaf i) ≤ 1000000000) (hn : ∀ i, ∀ x ∈ t.leaf i, NumOk x) : ACp Tryd.prog G 26 [tA t] (nA (weightT t)) := by
  have hl' : ∀ i, (t.leaf i).length ≤ 34359738368 := fun i => Nat.le_trans (hl i) (by decide)
  refine acp_of_wpC (c := _) Tryd.func26 rfl (by kernel_rfl) [.tmp 2] rfl _ Tryd.ntmps26 (Nat.le_of_ble_eq_true rfl) rfl ?_
  repeat' (first | (refine call_pure (may_d hG _ hl') (by (simp (disch := omega) only [go_sem, ↓reduceIte, Nat.reduceEqDiff, Nat.reduceAdd, Nat.reduceSub, Nat.reduceMul, Nat.reduceLeDiff, Nat.reduceLT, Int.reduceEq, Int.reduceNe, Int.reduceLT, Int.reduceLE, Int.reduceAdd, Int.reduceSub, Int.reduceMul, Int.reduceNeg, Int.reduceToNat, reduceCtorEq, w_i64, w_u64, tdiv_pos, tmod_pos, nth_map, foldA_len, nth_le, nth_tl, nth_tv, set_tl, set_tv])) ?_) | (with_reducible refine aq ?_) | (with_reducible refine yr (by kernel_rfl) (Nat.le_of_ble_eq_true rfl) ?_) | (with_reducible refine yx MIX (by kernel_rfl) (by kernel_rfl) (by kernel_rfl) (Nat.le_of_ble_eq_true rfl) ?_) | (with_reducible refine yc ?_) | (with_reducible refine yseq ?_) | (with_reducible refine awp_block ?_) | (with_reducible refine awp_ret ?_) | (with_reducible refine awp_exit ?_) | (with_reducible refine awp_skip ?_) | (with_reducible refine yr1 (by kernel_rfl) (Nat.le_of_ble_eq_true rfl) ?_) | (with_reducible refine yx1 MIX (by kernel_rfl) (by kernel_rfl) (by kernel_rfl) (Nat.le_of_ble_eq_true rfl) ?_) | (simp only [go_sem, ↓reduceIte, Nat.reduceEqDiff, Nat.reduceAdd, Nat.reduceSub, Nat.reduceMul, Nat.reduceLeDiff, Nat.reduceLT, Int.reduceEq, Int.reduceNe, Int.reduceLT, Int.reduceLE, Int.reduceAdd, Int.reduceSub, Int.reduceMul, Int.reduceNeg, Int.reduceToNat, reduceCtorEq]) | ((with_reducible refine cA_t (by first | with_reducible assumption | (simp only [decide_eq_true_eq, decide_eq_false_iff_not]; first | with_reducible assumption | omega)) (fun h => ?_)) <;> (try rewrite [h]) <;> clear h) | ((with_reducible refine cA_f (by first | with_reducible assumption | (simp only [decide_eq_true_eq, decide_eq_false_iff_not]; first | with_reducible assumption | omega)) (fun h => ?_)) <;> (try rewrite [h]) <;> clear h) | ((with_reducible refine gA_t (by first | with_reducible assumption | (simp only [decide_eq_true_eq, decide_eq_false_iff_not]; first | with_reducible assumption | omega)) (fun h => ?_)) <;> (try rewrite [h]) <;> clear h) | ((with_reducible refine gA_f (by first | with_reducible assumption | (simp only [decide_eq_true_eq, decide_eq_false_iff_not]; first | with_reducible assumption | omega)) (fun h => ?_)) <;> (try rewrite [h]) <;> clear h) | ((with_reducible refine pk_t (by first | with_reducible assumption | (simp only [decide_eq_true_eq, decide_eq_false_iff_not]; first | with_reducible assumption | omega)) (fun h => ?_)) <;> (try rewrite [h]) <;> clear h) | ((with_reducible refine pk_f (by first | with_reducible assumption | (simp only [decide_eq_true_eq, decide_eq_false_iff_not]; first | with_reducible assumption | omega)) (fun h => ?_)) <;> (try rewrite [h]) <;> clear h) | (with_reducible refine pk_if ?_) | ((with_reducible refine cA_split (fun h => ?_) (fun h => ?_)) <;> (try rewrite [h]) <;> (try simp (disch := omega) only [w_i64, w_u64, tdiv_pos, tmod_pos, nth_map, foldA_len, nth_le, nth_tl, nth_tv, set_tl, set_tv] at h) <;> (try simp only [decide_eq_true_eq, decide_eq_false_iff_not, Bool.not_eq_true, Bool.not_eq_false, Bool.not_eq_true', Bool.not_eq_false', not_true_eq_false, not_false_eq_true] at h) <;> (try (exfalso; omega))) | ((with_reducible refine gA_split (fun h => ?_) (fun h => ?_)) <;> (try rewrite [h]) <;> (try simp (disch := omega) only [w_i64, w_u64, tdiv_pos, tmod_pos, nth_map, foldA_len, nth_le, nth_tl, nth_tv, set_tl, set_tv] at h) <;> (try simp only [decide_eq_true_eq, decide_eq_false_iff_not, Bool.not_eq_true, Bool.not_eq_false, Bool.not_eq_true', Bool.not_eq_false', not_true_eq_false, not_false_eq_true] at h) <;> (try (exfalso; omega))) | (simp (disch := omega) only [w_i64, w_u64, tdiv_pos, tmod_pos, nth_map, foldA_len, nth_le, nth_tl, nth_tv, set_tl, set_tv]) | (with_reducible refine And.intro (by first | with_reducible assumption | rfl | omega) ?_) | (with_reducible refine And.intro ?_ ?_))
  · rw [weightT, h]; rfl
  have hm := h
  clear h
  refine awp_loop (ι := {k : Nat // k ≤ 16}) (fun k => ⟨[⟨1, 26, 0, tC t⟩], [(11, V (.int .i64 k.1)), (10, .agg (leC t)), (3, V (.int .i64 (sumTo (fun i => weightP (t.leaf i)) k.1))), (1, OP 0 0)]⟩) (fun k => 16 - k.1) ⟨0, Nat.zero_le _⟩ ?_ (Nat.zero_le _) ?_
  · (refine le_mk ?_ ?_ ?_ <;> (try simp (disch := omega) only [go_sem, ↓reduceIte, Nat.reduceEqDiff, Nat.reduceAdd, Nat.reduceSub, Nat.reduceMul, Nat.reduceLeDiff, Nat.reduceLT, Int.reduceEq, Int.reduceNe, Int.reduceLT, Int.reduceLE, Int.reduceAdd, Int.reduceSub, Int.reduceMul, Int.reduceNeg, Int.reduceToNat, reduceCtorEq, w_i64, w_u64, tdiv_pos, tmod_pos, nth_map, foldA_len, nth_le, nth_tl, nth_tv, set_tl, set_tv, sumTo]))
  rintro ⟨k, hk⟩
  have hs := sumTo_le hw k
  have hlk := hw k
  dsimp only
  repeat' (first | (refine call_pure (cl_weight _ hG (hn _) (hl _)) rfl ?_) | (refine loop_n ⟨k + 1, by omega⟩ ?_ (Nat.zero_le _) (by dsimp only; omega)) | (refine le_mk ?_ ?_ ?_ <;> (try simp (disch := omega) only [go_sem, ↓reduceIte, Nat.reduceEqDiff, Nat.reduceAdd, Nat.reduceSub, Nat.reduceMul, Nat.reduceLeDiff, Nat.reduceLT, Int.reduceEq, Int.reduceNe, Int.reduceLT, Int.reduceLE, Int.reduceAdd, Int.reduceSub, Int.reduceMul, Int.reduceNeg, Int.reduceToNat, reduceCtorEq, w_i64, w_u64, tdiv_pos, tmod_pos, nth_map, foldA_len, nth_le, nth_tl, nth_tv, set_tl, set_tv])) | (with_reducible refine aq ?_) | (with_reducible refine yr (by kernel_rfl) (Nat.le_of_ble_eq_true rfl) ?_) | (with_reducible refine yx MIX (by kernel_rfl) (by kernel_rfl) (by kernel_rfl) (Nat.le_of_ble_eq_true rfl) ?_) | (with_reducible refine yc ?_) | (with_reducible refine yseq ?_) | (with_reducible refine awp_block ?_) | (with_reducible refine awp_ret ?_) | (with_reducible refine awp_exit ?_) | (with_reducible refine awp_skip ?_) | (with_reducible refine yr1 (by kernel_rfl) (Nat.le_of_ble_eq_true rfl) ?_) | (with_reducible refine yx1 MIX (by kernel_rfl) (by kernel_rfl) (by kernel_rfl) (Nat.le_of_ble_eq_true rfl) ?_) | (simp only [go_sem, ↓reduceIte, Nat.reduceEqDiff, Nat.reduceAdd, Nat.reduceSub, Nat.reduceMul, Nat.reduceLeDiff, Nat.reduceLT, Int.reduceEq, Int.reduceNe, Int.reduceLT, Int.reduceLE, Int.reduceAdd, Int.reduceSub, Int.reduceMul, Int.reduceNeg, Int.reduceToNat, reduceCtorEq]) | ((with_reducible refine cA_t (by first | with_reducible assumption | (simp only [decide_eq_true_eq, decide_eq_false_iff_not]; first | with_reducible assumption | omega)) (fun h => ?_)) <;> (try rewrite [h]) <;> clear h) | ((with_reducible refine cA_f (by first | with_reducible assumption | (simp only [decide_eq_true_eq, decide_eq_false_iff_not]; first | with_reducible assumption | omega)) (fun h => ?_)) <;> (try rewrite [h]) <;> clear h) | ((with_reducible refine gA_t (by first | with_reducible assumption | (simp only [decide_eq_true_eq, decide_eq_false_iff_not]; first | with_reducible assumption | omega)) (fun h => ?_)) <;> (try rewrite [h]) <;> clear h) | ((with_reducible refine gA_f (by first | with_reducible assumption | (simp only [decide_eq_true_eq, decide_eq_false_iff_not]; first | with_reducible assumption | omega)) (fun h => ?_)) <;> (try rewrite [h]) <;> clear h) | ((with_reducible refine pk_t (by first | with_reducible assumption | (simp only [decide_eq_true_eq, decide_eq_false_iff_not]; first | with_reducible assumption | omega)) (fun h => ?_)) <;> (try rewrite [h]) <;> clear h) | ((with_reducible refine pk_f (by first | with_reducible assumption | (simp only [decide_eq_true_eq, decide_eq_false_iff_not]; first | with_reducible assumption | omega)) (fun h => ?_)) <;> (try rewrite [h]) <;> clear h) | (with_reducible refine pk_if ?_) | ((with_reducible refine cA_split (fun h => ?_) (fun h => ?_)) <;> (try rewrite [h]) <;> (try simp (disch := omega) only [w_i64, w_u64, tdiv_pos, tmod_pos, nth_map, foldA_len, nth_le, nth_tl, nth_tv, set_tl, set_tv] at h) <;> (try simp only [decide_eq_true_eq, decide_eq_false_iff_not, Bool.not_eq_true, Bool.not_eq_false, Bool.not_eq_true', Bool.not_eq_false', not_true_eq_false, not_false_eq_true] at h) <;> (try (exfalso; omega))) | ((with_reducible refine gA_split (fun h => ?_) (fun h => ?_)) <;> (try rewrite [h]) <;> (try simp (disch := omega) only [w_i64, w_u64, tdiv_pos, tmod_pos, nth_map, foldA_len, nth_le, nth_tl, nth_tv, set_tl, set_tv] at h) <;> (try simp only [decide_eq_true_eq, decide_eq_false_iff_not, Bool.not_eq_true, Bool.not_eq_false, Bool.not_eq_true', Bool.not_eq_false', not_true_eq_false, not_false_eq_true] at h) <;> (try (exfalso; omega))) | (simp (disch := omega) only [w_i64, w_u64, tdiv_pos, tmod_pos, nth_map, foldA_len, nth_le, nth_tl, nth_tv, set_tl, set_tv]) | (with_reducible refine And.intro (by first | with_reducible assumption | rfl | omega) ?_) | (with_reducible refine And.intro ?_ ?_))
  · rw [sumTo, Int.natCast_add]
  · obtain rfl : k = 16 := by omega
    rw [weightT, hm]; rfl
set_option maxHeartbeats 400000 in
theorem eqItems_d {G : Gl} (l m : List Item) (hl : l.length ≤ 1000000) (hm : m.length ≤ 1000000) : ACp Tryd.prog G 47 [lA l, lA m] (bA (decide (l = m))) := by
  refine acp_of_wpC (c := _) Tryd.func47 rfl (by kernel_rfl) [.tmp 4] rfl _ Tryd.ntmps47 (Nat.le_of_ble_eq_true rfl) rfl ?_
  repeat' (first | (with_reducible refine aq ?_) | (with_reducible refine yr (by kernel_rfl) (Nat.le_of_ble_eq_true rfl) ?_) | (with_reducible refine yx MIX (by kernel_rfl) (by kernel_rfl) (by kernel_rfl) (Nat.le_of_ble_eq_true rfl) ?_) | (with_reducible refine yc ?_) | (with_reducible refine yseq ?_) | (with_reducible refine awp_block ?_) | (with_reducible refine awp_ret ?_) | (with_reducible refine awp_exit ?_) | (with_reducible refine awp_skip ?_) | (with_reducible refine yr1 (by kernel_rfl) (Nat.le_of_ble_eq_true rfl) ?_) | (with_reducible refine yx1 MIX (by kernel_rfl) (by kernel_rfl) (by kernel_rfl) (Nat.le_of_ble_eq_true rfl) ?_) | (simp only [go_sem, ↓reduceIte, Nat.reduceEqDiff, Nat.reduceAdd, Nat.reduceSub, Nat.reduceMul, Nat.reduceLeDiff, Nat.reduceLT, Int.reduceEq, Int.reduceNe, Int.reduceLT, Int.reduceLE, Int.reduceAdd, Int.reduceSub, Int.reduceMul, Int.reduceNeg, Int.reduceToNat, reduceCtorEq]) | ((with_reducible refine cA_t (by first | with_reducible assumption | (simp only [decide_eq_true_eq, decide_eq_false_iff_not]; first | with_reducible assumption | omega)) (fun h => ?_)) <;> (try rewrite [h]) <;> clear h) | ((with_reducible refine cA_f (by first | with_reducible assumption | (simp only [decide_eq_true_eq, decide_eq_false_iff_not]; first | with_reducible assumption | omega)) (fun h => ?_)) <;> (try rewrite [h]) <;> clear h) | ((with_reducible refine gA_t (by first | with_reducible assumption | (simp only [decide_eq_true_eq, decide_eq_false_iff_not]; first | with_reducible assumption | omega)) (fun h => ?_)) <;> (try rewrite [h]) <;> clear h) | ((with_reducible refine gA_f (by first | with_reducible assumption | (simp only [decide_eq_true_eq, decide_eq_false_iff_not]; first | with_reducible assumption | omega)) (fun h => ?_)) <;> (try rewrite [h]) <;> clear h) | ((with_reducible refine pk_t (by first | with_reducible assumption | (simp only [decide_eq_true_eq, decide_eq_false_iff_not]; first | with_reducible assumption | omega)) (fun h => ?_)) <;> (try rewrite [h]) <;> clear h) | ((with_reducible refine pk_f (by first | with_reducible assumption | (simp only [decide_eq_true_eq, decide_eq_false_iff_not]; first | with_reducible assumption | omega)) (fun h => ?_)) <;> (try rewrite [h]) <;> clear h) | (with_reducible refine pk_if ?_) | ((with_reducible refine cA_split (fun h => ?_) (fun h => ?_)) <;> (try rewrite [h]) <;> (try simp (disch := omega) only [w_i64, w_u64, tdiv_pos, tmod_pos, nth_map, foldA_len, nth_le, nth_tl, nth_tv, set_tl, set_tv] at h) <;> (try simp only [decide_eq_true_eq, decide_eq_false_iff_not, Bool.not_eq_true, Bool.not_eq_false, Bool.not_eq_true', Bool.not_eq_false', not_true_eq_false, not_false_eq_true] at h) <;> (try (exfalso; omega))) | ((with_reducible refine gA_split (fun h => ?_) (fun h => ?_)) <;> (try rewrite [h]) <;> (try simp (disch := omega) only [w_i64, w_u64, tdiv_pos, tmod_pos, nth_map, foldA_len, nth_le, nth_tl, nth_tv, set_tl, set_tv] at h) <;> (try simp only [decide_eq_true_eq, decide_eq_false_iff_not, Bool.not_eq_true, Bool.not_eq_false, Bool.not_eq_true', Bool.not_eq_false', not_true_eq_false, not_false_eq_true] at h) <;> (try (exfalso; omega))) | (simp (disch := omega) only [w_i64, w_u64, tdiv_pos, tmod_pos, nth_map, foldA_len, nth_le, nth_tl, nth_tv, set_tl, set_tv]) | (with_reducible refine And.intro (by first | with_reducible assumption | rfl | omega) ?_) | (with_reducible refine And.intro ?_ ?_))
  · rw [show decide (l = m) = false by simpa using fun e => h (by rw [e])]
  have hlen : l.length = m.length := by omega
  clear h
  refine awp_loop (ι := {k : Nat // k ≤ l.length ∧ l.take k = m.take k}) (fun k => ⟨[], [(13, V (.int .i64 k.1)), (12, V (.int .i64 l.length)), (0, SL (l.map (flA Item.cells))), (1, SL (m.map (flA Item.cells)))]⟩) (fun k => l.length - k.1) ⟨0, Nat.zero_le _, rfl⟩ ?_ (Nat.zero_le _) ?_
  · (refine le_mk ?_ ?_ ?_ <;> (try simp (disch := omega) only [go_sem, ↓reduceIte, Nat.reduceEqDiff, Nat.reduceAdd, Nat.reduceSub, Nat.reduceMul, Nat.reduceLeDiff, Nat.reduceLT, Int.reduceEq, Int.reduceNe, Int.reduceLT, Int.reduceLE, Int.reduceAdd, Int.reduceSub, Int.reduceMul, Int.reduceNeg, Int.reduceToNat, reduceCtorEq, w_i64, w_u64, tdiv_pos, tmod_pos, nth_map, foldA_len, nth_le, nth_tl, nth_tv, set_tl, set_tv]))
  rintro ⟨k, hk, hall⟩
  dsimp only
  repeat' (first | (refine neq_it (l[k]'(by omega)) (m[k]'(by omega)) ?_) | (refine loop_n ⟨k + 1, by omega, ?_⟩ ?_ (Nat.zero_le _) (by dsimp only; omega)) | (refine le_mk ?_ ?_ ?_ <;> (try simp (disch := omega) only [go_sem, ↓reduceIte, Nat.reduceEqDiff, Nat.reduceAdd, Nat.reduceSub, Nat.reduceMul, Nat.reduceLeDiff, Nat.reduceLT, Int.reduceEq, Int.reduceNe, Int.reduceLT, Int.reduceLE, Int.reduceAdd, Int.reduceSub, Int.reduceMul, Int.reduceNeg, Int.reduceToNat, reduceCtorEq, w_i64, w_u64, tdiv_pos, tmod_pos, nth_map, foldA_len, nth_le, nth_tl, nth_tv, set_tl, set_tv])) | (with_reducible refine aq ?_) | (with_reducible refine yr (by kernel_rfl) (Nat.le_of_ble_eq_true rfl) ?_) | (with_reducible refine yx MIX (by kernel_rfl) (by kernel_rfl) (by kernel_rfl) (Nat.le_of_ble_eq_true rfl) ?_) | (with_reducible refine yc ?_) | (with_reducible refine yseq ?_) | (with_reducible refine awp_block ?_) | (with_reducible refine awp_ret ?_) | (with_reducible refine awp_exit ?_) | (with_reducible refine awp_skip ?_) | (with_reducible refine yr1 (by kernel_rfl) (Nat.le_of_ble_eq_true rfl) ?_) | (with_reducible refine yx1 MIX (by kernel_rfl) (by kernel_rfl) (by kernel_rfl) (Nat.le_of_ble_eq_true rfl) ?_) | (simp only [go_sem, ↓reduceIte, Nat.reduceEqDiff, Nat.reduceAdd, Nat.reduceSub, Nat.reduceMul, Nat.reduceLeDiff, Nat.reduceLT, Int.reduceEq, Int.reduceNe, Int.reduceLT, Int.reduceLE, Int.reduceAdd, Int.reduceSub, Int.reduceMul, Int.reduceNeg, Int.reduceToNat, reduceCtorEq]) | ((with_reducible refine cA_t (by first | with_reducible assumption | (simp only [decide_eq_true_eq, decide_eq_false_iff_not]; first | with_reducible assumption | omega)) (fun h => ?_)) <;> (try rewrite [h]) <;> clear h) | ((with_reducible refine cA_f (by first | with_reducible assumption | (simp only [decide_eq_true_eq, decide_eq_false_iff_not]; first | with_reducible assumption | omega)) (fun h => ?_)) <;> (try rewrite [h]) <;> clear h) | ((with_reducible refine gA_t (by first | with_reducible assumption | (simp only [decide_eq_true_eq, decide_eq_false_iff_not]; first | with_reducible assumption | omega)) (fun h => ?_)) <;> (try rewrite [h]) <;> clear h) | ((with_reducible refine gA_f (by first | with_reducible assumption | (simp only [decide_eq_true_eq, decide_eq_false_iff_not]; first | with_reducible assumption | omega)) (fun h => ?_)) <;> (try rewrite [h]) <;> clear h) | ((with_reducible refine pk_t (by first | with_reducible assumption | (simp only [decide_eq_true_eq, decide_eq_false_iff_not]; first | with_reducible assumption | omega)) (fun h => ?_)) <;> (try rewrite [h]) <;> clear h) | ((with_reducible refine pk_f (by first | with_reducible assumption | (simp only [decide_eq_true_eq, decide_eq_false_iff_not]; first | with_reducible assumption | omega)) (fun h => ?_)) <;> (try rewrite [h]) <;> clear h) | (with_reducible refine pk_if ?_) | ((with_reducible refine cA_split (fun h => ?_) (fun h => ?_)) <;> (try rewrite [h]) <;> (try simp (disch := omega) only [w_i64, w_u64, tdiv_pos, tmod_pos, nth_map, foldA_len, nth_le, nth_tl, nth_tv, set_tl, set_tv] at h) <;> (try simp only [decide_eq_true_eq, decide_eq_false_iff_not, Bool.not_eq_true, Bool.not_eq_false, Bool.not_eq_true', Bool.not_eq_false', not_true_eq_false, not_false_eq_true] at h) <;> (try (exfalso; omega))) | ((with_reducible refine gA_split (fun h => ?_) (fun h => ?_)) <;> (try rewrite [h]) <;> (try simp (disch := omega) only [w_i64, w_u64, tdiv_pos, tmod_pos, nth_map, foldA_len, nth_le, nth_tl, nth_tv, set_tl, set_tv] at h) <;> (try simp only [decide_eq_true_eq, decide_eq_false_iff_not, Bool.not_eq_true, Bool.not_eq_false, Bool.not_eq_true', Bool.not_eq_false', not_true_eq_false, not_false_eq_true] at h) <;> (try (exfalso; omega))) | (simp (disch := omega) only [w_i64, w_u64, tdiv_pos, tmod_pos, nth_map, foldA_len, nth_le, nth_tl, nth_tv, set_tl, set_tv]) | (with_reducible refine And.intro (by first | with_reducible assumption | rfl | omega) ?_) | (with_reducible refine And.intro ?_ ?_))
  · rw [show decide (l = m) = false by
      rw [decide_eq_false_iff_not]
      rintro rfl
      exact h rfl]
  · rw [List.take_succ_eq_append_getElem (by omega), List.take_succ_eq_append_getElem (by omega), hall, h]
  · rw [List.take_of_length_le (by omega), List.take_of_length_le (by omega)] at hall
    rw [hall, decide_eq_true rfl]
end Go.Proofs.YthmnhfabkllgpaaDoor

namespace Go.Proofs.YthmnhfabkllgpaaDoor
open Go.RowKit
set_option linter.unusedVariables false
set_option linter.unusedSimpArgs false
set_option maxRecDepth 20000
def unlikeT (a b : Tr) : List Nat × Nat := if mayT a && mayT b then (unlikeL a b 16, 0) else ([], 1)
theorem u_yes {a b : Tr} {k : Nat} (h : unlikeAt a b k = true) : unlikeL a b (k + 1) = unlikeL a b k ++ [k] := by rw [unlikeL_succ, h]; rfl
theorem u_no {a b : Tr} {k : Nat} (h : unlikeAt a b k = false) : unlikeL a b (k + 1) = unlikeL a b k := by rw [unlikeL_succ, h]; exact List.append_nil _
theorem nLs_app (l : List Nat) (k : Nat) : nLs (l ++ [k]) = nLs l ++ [nA (k : Int)] := by simp [nLs]
attribute [local go_sem ↓] str_size pk_tt pk_ff hold_one hold_two gO_some gA_tt gA_tf gA_ft gA_ff cA_true cA_false yP_n yP_r yK_n yK_r yQ_n yQ_r yC_nil yC_tmp yC_cell yo_nil yo_cons yo_none yo_guard yo_guardN ys_move ys_assign ys_pick ys_bin ys_un ys_build ys_buildSlice ys_load ys_nilCheck ys_conv ys_extract ys_fieldAddr ys_field ys_indexAddr ys_index ys_slice ys_len ys_alloc ys_box ys_store ys_call ys_append ys_makeFunc ys_callv yd_nil yd_alloc yd_store yd_move yg_move yd_assign yg_assign yd_pick yg_pick yd_bin yg_bin yd_un yg_un yd_build yg_build yd_buildSlice yg_buildSlice yd_load yg_load yd_nilCheck yg_nilCheck yd_conv yg_conv yd_extract yg_extract yd_fieldAddr yg_fieldAddr yd_field yg_field yd_indexAddr yg_indexAddr yd_index yg_index yd_slice yg_slice yd_len yg_len yd_call yg_call ixA_eq sl_es sl_row sl_nil ap_eq bs_eq bl_eq cv_eq ixV_agg thenA_n thenA_r thenA_x inB_n inB_r inB_x loop_r loop_x dstAt_zero dstAt_succ retP_n retP_r
attribute [local go_sem] hle_nil hle_cons oO_one oO_two oO_three oO_nil r1_r0 r1_r1 r1_r2 r1_r3 ro_OW roA_OW go_some al_some okX_f okX_t tells regOnly cv_cl cap0_V cap0_OP cap0_ptr ixA_s ixA_p ixA_o szOf_one szOf_two ixV_str ixW_some sl_str slE_some apE_nil apE_row bsE_one flE_some pget_zero pget_succ blE_some fil_nil fil_cons filB_some cvE_some cv_str' str_list str_cut str_data cut_all cut_to s_eql s_neq s_add s_lss s_geq s_leq s_gtr lt1 set_some set_none get_cons ev_tmp ev_const ev_func ev_global glob_cons cv_int cv_bool cv_str cv_slice cv_ptr cv_agg one_int one_bool one_str one_slice one_ptr b_add b_sub b_mul b_quo b_rem b_and b_or b_xor b_andNot b_shl b_shr b_eql b_neq b_lss b_leq b_gtr b_geq b_str b_beq b_bne u_not u_neg g_tt g_tf g_ft g_ff c_true c_false ex_tu nth_zero nth_succ nthO_zero nthO_succ l_ptr l_ptrV l_ptrS l_op cP_one pP_one oc_one oc_agg st_op f_ptr f_op fv_agg co_agg co_V co_slice co_OW co_OP co_ptr sure_V sure_slice sure_OW sure_OP sure_ptr sure_agg sc_nil sc_cons ixS ixSW ixSN bsV_nil bsV_cons el_slice el_row el_nil len_str len_slice len_row len_nil asI_none asI_some nil_op nil_ptr ro_int ro_bool ro_str ro_nils ro_slice ro_ptr ro_OP ro_OW ro_agg ro_tu roA_agg roA_V roA_slice roA_OW roA_OP roA_ptr r1_int r1_bool r1_str r1_nils r1_slice r1_ptr r1_OP resA_one resA_two resA_three noT_V noT_agg noT_slice noT_OW noT_OP noT_ptr noT_nil argsT_nil argsT_cons allC_nil allC_cons allC_append hle_nil hle_cons le_nil le_cons tT_V tT_SL tT_ptr tT_OW tT_OP tT_agg tT_TU tA_V tA_SL tA_ptr tA_OW tA_OP tA_agg t1_V t1_SL t1_ptr t1_OW t1_OP tO_mk get_cons beq_self_eq_true Nat.zero_lt_succ Nat.lt_add_one true_or or_true Bool.or_self Nat.zero_add Nat.add_zero Nat.mul_one Int.toNat_natCast Int.natCast_zero Int.natCast_add Int.cast_ofNat_Int or_false false_or or_true true_or Nat.sub_zero Int.natCast_nonneg Int.toNat_zero Bool.true_and Bool.and_true Bool.false_and Bool.and_false Bool.true_or Bool.or_true Bool.false_or Bool.or_false Bool.not_true Bool.not_false Bool.not_not true_and and_true false_and and_false not_true_eq_false not_false_eq_true eq_self decide_true decide_false ne_eq implies_true forall_const true_implies false_implies Bool.true_eq_false Bool.false_eq_true List.map_cons List.map_nil List.all_cons List.all_nil List.length_cons List.length_nil List.length_map List.length_append List.nil_append List.cons_append List.set_cons_zero List.set_cons_succ List.set_nil List.drop_zero List.drop_succ_cons List.drop_nil List.take_zero List.take_succ_cons List.take_nil Option.map_some Option.map_none Option.isSome_some tk_2 tk_3 tk_9 tk_22 tk_23 tk_26 tk_28 tk_30 tk_81 tf_26_0 tf_26_1 tf_28_0 tf_28_1 tf_28_2 tf_30_0 tf_30_1 tf_30_2 tf_54_0 tf_54_1 tf_54_2 tf_54_3 ts_9 ts_22 ts_23 ts_24 ts_49 ts_79 ts_94 ta_9 ta_22 ta_23 ta_24 ta_49 ta_94 tp_26 tp_28 tp_30 tq_22 tq_49 tq_79 ti_3 ti_5 ti_81 tz_28 tz_30 tv_2 tv_3 tu_4 tv_4 tv_5 tu_9 tv_9 tv_33 tv_81 iA_def fl_it allC_it foldA_all lt_it lt_fold lA_def leC_lt1 tC_len zC_len tC_sure tC_lt1 tC_ltA zC_ltA zC_lt1 tC_ro zC_sure zC_ro tC_take zC_take tC_take16 sc_tt sc_zt sc_tz sc_zz add16 tz_26' tA_def
set_option maxHeartbeats 4000000 in
theorem unlike_d {G : Gl} (hG : SigG G) (a b : Tr) (ha : ∀ i, (a.leaf i).length ≤ 1000000) (hb : ∀ i, (b.leaf i).length ≤ 1000000) : ACp Tryd.prog G 22 [tA a, tA b] (TU [SL (nLs (unlikeT a b).1), nA (unlikeT a b).2]) := by
  have ha' : ∀ i, (a.leaf i).length ≤ 34359738368 := fun i => Nat.le_trans (ha i) (by decide)
  have hb' : ∀ i, (b.leaf i).length ≤ 34359738368 := fun i => Nat.le_trans (hb i) (by decide)
  cases hma : mayT a with
  | false =>
    refine acp_of_wpC (c := _) Tryd.func22 rfl (by kernel_rfl) [.tmp 4, .tmp 5] rfl _ Tryd.ntmps22 (Nat.le_of_ble_eq_true rfl) rfl ?_
    repeat' (first | (refine call_pure (may_d hG _ ha') (by (simp (disch := omega) only [go_sem, ↓reduceIte, Nat.reduceEqDiff, Nat.reduceAdd, Nat.reduceSub, Nat.reduceMul, Nat.reduceLeDiff, Nat.reduceLT, Int.reduceEq, Int.reduceNe, Int.reduceLT, Int.reduceLE, Int.reduceAdd, Int.reduceSub, Int.reduceMul, Int.reduceNeg, Int.reduceToNat, reduceCtorEq, w_i64, w_u64, tdiv_pos, tmod_pos, nth_map, foldA_len, nth_le, nth_tl, nth_tv, set_tl, set_tv])) ?_) | (with_reducible refine aq ?_) | (with_reducible refine yr (by kernel_rfl) (Nat.le_of_ble_eq_true rfl) ?_) | (with_reducible refine yx MIX (by kernel_rfl) (by kernel_rfl) (by kernel_rfl) (Nat.le_of_ble_eq_true rfl) ?_) | (with_reducible refine yc ?_) | (with_reducible refine yseq ?_) | (with_reducible refine awp_block ?_) | (with_reducible refine awp_ret ?_) | (with_reducible refine awp_exit ?_) | (with_reducible refine awp_skip ?_) | (with_reducible refine yr1 (by kernel_rfl) (Nat.le_of_ble_eq_true rfl) ?_) | (with_reducible refine yx1 MIX (by kernel_rfl) (by kernel_rfl) (by kernel_rfl) (Nat.le_of_ble_eq_true rfl) ?_) | (simp only [go_sem, ↓reduceIte, Nat.reduceEqDiff, Nat.reduceAdd, Nat.reduceSub, Nat.reduceMul, Nat.reduceLeDiff, Nat.reduceLT, Int.reduceEq, Int.reduceNe, Int.reduceLT, Int.reduceLE, Int.reduceAdd, Int.reduceSub, Int.reduceMul, Int.reduceNeg, Int.reduceToNat, reduceCtorEq, hma]) | ((with_reducible refine cA_t (by first | with_reducible assumption | (simp only [decide_eq_true_eq, decide_eq_false_iff_not]; first | with_reducible assumption | omega)) (fun h => ?_)) <;> (try rewrite [h]) <;> clear h) | ((with_reducible refine cA_f (by first | with_reducible assumption | (simp only [decide_eq_true_eq, decide_eq_false_iff_not]; first | with_reducible assumption | omega)) (fun h => ?_)) <;> (try rewrite [h]) <;> clear h) | ((with_reducible refine gA_t (by first | with_reducible assumption | (simp only [decide_eq_true_eq, decide_eq_false_iff_not]; first | with_reducible assumption | omega)) (fun h => ?_)) <;> (try rewrite [h]) <;> clear h) | ((with_reducible refine gA_f (by first | with_reducible assumption | (simp only [decide_eq_true_eq, decide_eq_false_iff_not]; first | with_reducible assumption | omega)) (fun h => ?_)) <;> (try rewrite [h]) <;> clear h) | ((with_reducible refine pk_t (by first | with_reducible assumption | (simp only [decide_eq_true_eq, decide_eq_false_iff_not]; first | with_reducible assumption | omega)) (fun h => ?_)) <;> (try rewrite [h]) <;> clear h) | ((with_reducible refine pk_f (by first | with_reducible assumption | (simp only [decide_eq_true_eq, decide_eq_false_iff_not]; first | with_reducible assumption | omega)) (fun h => ?_)) <;> (try rewrite [h]) <;> clear h) | (with_reducible refine pk_if ?_) | ((with_reducible refine cA_split (fun h => ?_) (fun h => ?_)) <;> (try rewrite [h]) <;> (try simp (disch := omega) only [w_i64, w_u64, tdiv_pos, tmod_pos, nth_map, foldA_len, nth_le, nth_tl, nth_tv, set_tl, set_tv] at h) <;> (try simp only [decide_eq_true_eq, decide_eq_false_iff_not, Bool.not_eq_true, Bool.not_eq_false, Bool.not_eq_true', Bool.not_eq_false', not_true_eq_false, not_false_eq_true] at h) <;> (try (exfalso; omega))) | ((with_reducible refine gA_split (fun h => ?_) (fun h => ?_)) <;> (try rewrite [h]) <;> (try simp (disch := omega) only [w_i64, w_u64, tdiv_pos, tmod_pos, nth_map, foldA_len, nth_le, nth_tl, nth_tv, set_tl, set_tv] at h) <;> (try simp only [decide_eq_true_eq, decide_eq_false_iff_not, Bool.not_eq_true, Bool.not_eq_false, Bool.not_eq_true', Bool.not_eq_false', not_true_eq_false, not_false_eq_true] at h) <;> (try (exfalso; omega))) | (simp (disch := omega) only [w_i64, w_u64, tdiv_pos, tmod_pos, nth_map, foldA_len, nth_le, nth_tl, nth_tv, set_tl, set_tv]) | (with_reducible refine And.intro (by first | with_reducible assumption | rfl | omega) ?_) | (with_reducible refine And.intro ?_ ?_))
    rw [unlikeT, hma]; rfl
  | true =>
  cases hmb : mayT b with
  | false =>
    refine acp_of_wpC (c := _) Tryd.func22 rfl (by kernel_rfl) [.tmp 4, .tmp 5] rfl _ Tryd.ntmps22 (Nat.le_of_ble_eq_true rfl) rfl ?_
    repeat' (first | (refine call_pure (may_d hG a ha') (by (simp (disch := omega) only [go_sem, ↓reduceIte, Nat.reduceEqDiff, Nat.reduceAdd, Nat.reduceSub, Nat.reduceMul, Nat.reduceLeDiff, Nat.reduceLT, Int.reduceEq, Int.reduceNe, Int.reduceLT, Int.reduceLE, Int.reduceAdd, Int.reduceSub, Int.reduceMul, Int.reduceNeg, Int.reduceToNat, reduceCtorEq, w_i64, w_u64, tdiv_pos, tmod_pos, nth_map, foldA_len, nth_le, nth_tl, nth_tv, set_tl, set_tv])) ?_) | (refine call_pure (may_d hG b hb') (by (simp (disch := omega) only [go_sem, ↓reduceIte, Nat.reduceEqDiff, Nat.reduceAdd, Nat.reduceSub, Nat.reduceMul, Nat.reduceLeDiff, Nat.reduceLT, Int.reduceEq, Int.reduceNe, Int.reduceLT, Int.reduceLE, Int.reduceAdd, Int.reduceSub, Int.reduceMul, Int.reduceNeg, Int.reduceToNat, reduceCtorEq, w_i64, w_u64, tdiv_pos, tmod_pos, nth_map, foldA_len, nth_le, nth_tl, nth_tv, set_tl, set_tv])) ?_) | (with_reducible refine aq ?_) | (with_reducible refine yr (by kernel_rfl) (Nat.le_of_ble_eq_true rfl) ?_) | (with_reducible refine yx MIX (by kernel_rfl) (by kernel_rfl) (by kernel_rfl) (Nat.le_of_ble_eq_true rfl) ?_) | (with_reducible refine yc ?_) | (with_reducible refine yseq ?_) | (with_reducible refine awp_block ?_) | (with_reducible refine awp_ret ?_) | (with_reducible refine awp_exit ?_) | (with_reducible refine awp_skip ?_) | (with_reducible refine yr1 (by kernel_rfl) (Nat.le_of_ble_eq_true rfl) ?_) | (with_reducible refine yx1 MIX (by kernel_rfl) (by kernel_rfl) (by kernel_rfl) (Nat.le_of_ble_eq_true rfl) ?_) | (simp only [go_sem, ↓reduceIte, Nat.reduceEqDiff, Nat.reduceAdd, Nat.reduceSub, Nat.reduceMul, Nat.reduceLeDiff, Nat.reduceLT, Int.reduceEq, Int.reduceNe, Int.reduceLT, Int.reduceLE, Int.reduceAdd, Int.reduceSub, Int.reduceMul, Int.reduceNeg, Int.reduceToNat, reduceCtorEq, hma, hmb]) | ((with_reducible refine cA_t (by first | with_reducible assumption | (simp only [decide_eq_true_eq, decide_eq_false_iff_not]; first | with_reducible assumption | omega)) (fun h => ?_)) <;> (try rewrite [h]) <;> clear h) | ((with_reducible refine cA_f (by first | with_reducible assumption | (simp only [decide_eq_true_eq, decide_eq_false_iff_not]; first | with_reducible assumption | omega)) (fun h => ?_)) <;> (try rewrite [h]) <;> clear h) | ((with_reducible refine gA_t (by first | with_reducible assumption | (simp only [decide_eq_true_eq, decide_eq_false_iff_not]; first | with_reducible assumption | omega)) (fun h => ?_)) <;> (try rewrite [h]) <;> clear h) | ((with_reducible refine gA_f (by first | with_reducible assumption | (simp only [decide_eq_true_eq, decide_eq_false_iff_not]; first | with_reducible assumption | omega)) (fun h => ?_)) <;> (try rewrite [h]) <;> clear h) | ((with_reducible refine pk_t (by first | with_reducible assumption | (simp only [decide_eq_true_eq, decide_eq_false_iff_not]; first | with_reducible assumption | omega)) (fun h => ?_)) <;> (try rewrite [h]) <;> clear h) | ((with_reducible refine pk_f (by first | with_reducible assumption | (simp only [decide_eq_true_eq, decide_eq_false_iff_not]; first | with_reducible assumption | omega)) (fun h => ?_)) <;> (try rewrite [h]) <;> clear h) | (with_reducible refine pk_if ?_) | ((with_reducible refine cA_split (fun h => ?_) (fun h => ?_)) <;> (try rewrite [h]) <;> (try simp (disch := omega) only [w_i64, w_u64, tdiv_pos, tmod_pos, nth_map, foldA_len, nth_le, nth_tl, nth_tv, set_tl, set_tv] at h) <;> (try simp only [decide_eq_true_eq, decide_eq_false_iff_not, Bool.not_eq_true, Bool.not_eq_false, Bool.not_eq_true', Bool.not_eq_false', not_true_eq_false, not_false_eq_true] at h) <;> (try (exfalso; omega))) | ((with_reducible refine gA_split (fun h => ?_) (fun h => ?_)) <;> (try rewrite [h]) <;> (try simp (disch := omega) only [w_i64, w_u64, tdiv_pos, tmod_pos, nth_map, foldA_len, nth_le, nth_tl, nth_tv, set_tl, set_tv] at h) <;> (try simp only [decide_eq_true_eq, decide_eq_false_iff_not, Bool.not_eq_true, Bool.not_eq_false, Bool.not_eq_true', Bool.not_eq_false', not_true_eq_false, not_false_eq_true] at h) <;> (try (exfalso; omega))) | (simp (disch := omega) only [w_i64, w_u64, tdiv_pos, tmod_pos, nth_map, foldA_len, nth_le, nth_tl, nth_tv, set_tl, set_tv]) | (with_reducible refine And.intro (by first | with_reducible assumption | rfl | omega) ?_) | (with_reducible refine And.intro ?_ ?_))
    rw [unlikeT, hma, hmb]; rfl
  | true =>
  refine acp_of_wpC (c := _) Tryd.func22 rfl (by kernel_rfl) [.tmp 4, .tmp 5] rfl _ Tryd.ntmps22 (Nat.le_of_ble_eq_true rfl) rfl ?_
  repeat' (first | (refine call_pure (may_d hG a ha') (by (simp (disch := omega) only [go_sem, ↓reduceIte, Nat.reduceEqDiff, Nat.reduceAdd, Nat.reduceSub, Nat.reduceMul, Nat.reduceLeDiff, Nat.reduceLT, Int.reduceEq, Int.reduceNe, Int.reduceLT, Int.reduceLE, Int.reduceAdd, Int.reduceSub, Int.reduceMul, Int.reduceNeg, Int.reduceToNat, reduceCtorEq, w_i64, w_u64, tdiv_pos, tmod_pos, nth_map, foldA_len, nth_le, nth_tl, nth_tv, set_tl, set_tv])) ?_) | (refine call_pure (may_d hG b hb') (by (simp (disch := omega) only [go_sem, ↓reduceIte, Nat.reduceEqDiff, Nat.reduceAdd, Nat.reduceSub, Nat.reduceMul, Nat.reduceLeDiff, Nat.reduceLT, Int.reduceEq, Int.reduceNe, Int.reduceLT, Int.reduceLE, Int.reduceAdd, Int.reduceSub, Int.reduceMul, Int.reduceNeg, Int.reduceToNat, reduceCtorEq, w_i64, w_u64, tdiv_pos, tmod_pos, nth_map, foldA_len, nth_le, nth_tl, nth_tv, set_tl, set_tv])) ?_) | (with_reducible refine aq ?_) | (with_reducible refine yr (by kernel_rfl) (Nat.le_of_ble_eq_true rfl) ?_) | (with_reducible refine yx MIX (by kernel_rfl) (by kernel_rfl) (by kernel_rfl) (Nat.le_of_ble_eq_true rfl) ?_) | (with_reducible refine yc ?_) | (with_reducible refine yseq ?_) | (with_reducible refine awp_block ?_) | (with_reducible refine awp_ret ?_) | (with_reducible refine awp_exit ?_) | (with_reducible refine awp_skip ?_) | (with_reducible refine yr1 (by kernel_rfl) (Nat.le_of_ble_eq_true rfl) ?_) | (with_reducible refine yx1 MIX (by kernel_rfl) (by kernel_rfl) (by kernel_rfl) (Nat.le_of_ble_eq_true rfl) ?_) | (simp only [go_sem, ↓reduceIte, Nat.reduceEqDiff, Nat.reduceAdd, Nat.reduceSub, Nat.reduceMul, Nat.reduceLeDiff, Nat.reduceLT, Int.reduceEq, Int.reduceNe, Int.reduceLT, Int.reduceLE, Int.reduceAdd, Int.reduceSub, Int.reduceMul, Int.reduceNeg, Int.reduceToNat, reduceCtorEq, hma, hmb]) | ((with_reducible refine cA_t (by first | with_reducible assumption | (simp only [decide_eq_true_eq, decide_eq_false_iff_not]; first | with_reducible assumption | omega)) (fun h => ?_)) <;> (try rewrite [h]) <;> clear h) | ((with_reducible refine cA_f (by first | with_reducible assumption | (simp only [decide_eq_true_eq, decide_eq_false_iff_not]; first | with_reducible assumption | omega)) (fun h => ?_)) <;> (try rewrite [h]) <;> clear h) | ((with_reducible refine gA_t (by first | with_reducible assumption | (simp only [decide_eq_true_eq, decide_eq_false_iff_not]; first | with_reducible assumption | omega)) (fun h => ?_)) <;> (try rewrite [h]) <;> clear h) | ((with_reducible refine gA_f (by first | with_reducible assumption | (simp only [decide_eq_true_eq, decide_eq_false_iff_not]; first | with_reducible assumption | omega)) (fun h => ?_)) <;> (try rewrite [h]) <;> clear h) | ((with_reducible refine pk_t (by first | with_reducible assumption | (simp only [decide_eq_true_eq, decide_eq_false_iff_not]; first | with_reducible assumption | omega)) (fun h => ?_)) <;> (try rewrite [h]) <;> clear h) | ((with_reducible refine pk_f (by first | with_reducible assumption | (simp only [decide_eq_true_eq, decide_eq_false_iff_not]; first | with_reducible assumption | omega)) (fun h => ?_)) <;> (try rewrite [h]) <;> clear h) | (with_reducible refine pk_if ?_) | ((with_reducible refine cA_split (fun h => ?_) (fun h => ?_)) <;> (try rewrite [h]) <;> (try simp (disch := omega) only [w_i64, w_u64, tdiv_pos, tmod_pos, nth_map, foldA_len, nth_le, nth_tl, nth_tv, set_tl, set_tv] at h) <;> (try simp only [decide_eq_true_eq, decide_eq_false_iff_not, Bool.not_eq_true, Bool.not_eq_false, Bool.not_eq_true', Bool.not_eq_false', not_true_eq_false, not_false_eq_true] at h) <;> (try (exfalso; omega))) | ((with_reducible refine gA_split (fun h => ?_) (fun h => ?_)) <;> (try rewrite [h]) <;> (try simp (disch := omega) only [w_i64, w_u64, tdiv_pos, tmod_pos, nth_map, foldA_len, nth_le, nth_tl, nth_tv, set_tl, set_tv] at h) <;> (try simp only [decide_eq_true_eq, decide_eq_false_iff_not, Bool.not_eq_true, Bool.not_eq_false, Bool.not_eq_true', Bool.not_eq_false', not_true_eq_false, not_false_eq_true] at h) <;> (try (exfalso; omega))) | (simp (disch := omega) only [w_i64, w_u64, tdiv_pos, tmod_pos, nth_map, foldA_len, nth_le, nth_tl, nth_tv, set_tl, set_tv]) | (with_reducible refine And.intro (by first | with_reducible assumption | rfl | omega) ?_) | (with_reducible refine And.intro ?_ ?_))
  refine awp_row 6 3 1 rfl (Nat.le_of_ble_eq_true rfl) ?_
  refine awp_loop (ι := {k : Nat // k ≤ 16}) (fun k => ⟨[⟨1, 26, 0, tC a⟩, ⟨1, 26, 0, tC b⟩, ⟨2, 3, 1, nLs (unlikeL a b k.1)⟩], [(16, V (.int .i64 k.1)), (6, OW 2 (unlikeL a b k.1).length), (2, OP 0 0), (3, OP 1 0)]⟩) (fun k => 16 - k.1) ⟨0, Nat.zero_le _⟩ ?_ (Nat.zero_le _) ?_
  · (refine le_mk ?_ ?_ ?_ <;> (try simp (disch := omega) only [go_sem, ↓reduceIte, Nat.reduceEqDiff, Nat.reduceAdd, Nat.reduceSub, Nat.reduceMul, Nat.reduceLeDiff, Nat.reduceLT, Int.reduceEq, Int.reduceNe, Int.reduceLT, Int.reduceLE, Int.reduceAdd, Int.reduceSub, Int.reduceMul, Int.reduceNeg, Int.reduceToNat, reduceCtorEq, w_i64, w_u64, tdiv_pos, tmod_pos, nth_map, foldA_len, nth_le, nth_tl, nth_tv, set_tl, set_tv, nLs_lt]))
    · rfl
    · rfl
  rintro ⟨k, hk⟩
  have hu := unlikeL_le a b k
  dsimp only
  repeat' (first | (refine call_d (eqItems_d (a.leaf k) (b.leaf k) (ha _) (hb _)) rfl ?_) | (refine loop_n ⟨k + 1, by omega⟩ ?_ (Nat.zero_le _) (by dsimp only; omega)) | (refine le_mk ?_ ?_ ?_ <;> (try simp (disch := omega) only [go_sem, ↓reduceIte, Nat.reduceEqDiff, Nat.reduceAdd, Nat.reduceSub, Nat.reduceMul, Nat.reduceLeDiff, Nat.reduceLT, Int.reduceEq, Int.reduceNe, Int.reduceLT, Int.reduceLE, Int.reduceAdd, Int.reduceSub, Int.reduceMul, Int.reduceNeg, Int.reduceToNat, reduceCtorEq, w_i64, w_u64, tdiv_pos, tmod_pos, nth_map, foldA_len, nth_le, nth_tl, nth_tv, set_tl, set_tv, nLs_lt])) | (with_reducible refine aq ?_) | (with_reducible refine yr (by kernel_rfl) (Nat.le_of_ble_eq_true rfl) ?_) | (with_reducible refine yx MIX (by kernel_rfl) (by kernel_rfl) (by kernel_rfl) (Nat.le_of_ble_eq_true rfl) ?_) | (with_reducible refine yc ?_) | (with_reducible refine yseq ?_) | (with_reducible refine awp_block ?_) | (with_reducible refine awp_ret ?_) | (with_reducible refine awp_exit ?_) | (with_reducible refine awp_skip ?_) | (with_reducible refine yr1 (by kernel_rfl) (Nat.le_of_ble_eq_true rfl) ?_) | (with_reducible refine yx1 MIX (by kernel_rfl) (by kernel_rfl) (by kernel_rfl) (Nat.le_of_ble_eq_true rfl) ?_) | (simp only [go_sem, ↓reduceIte, Nat.reduceEqDiff, Nat.reduceAdd, Nat.reduceSub, Nat.reduceMul, Nat.reduceLeDiff, Nat.reduceLT, Int.reduceEq, Int.reduceNe, Int.reduceLT, Int.reduceLE, Int.reduceAdd, Int.reduceSub, Int.reduceMul, Int.reduceNeg, Int.reduceToNat, reduceCtorEq, nLs_len, nLs_allC]) | ((with_reducible refine cA_t (by first | with_reducible assumption | (simp only [decide_eq_true_eq, decide_eq_false_iff_not]; first | with_reducible assumption | omega)) (fun h => ?_)) <;> (try rewrite [h]) <;> clear h) | ((with_reducible refine cA_f (by first | with_reducible assumption | (simp only [decide_eq_true_eq, decide_eq_false_iff_not]; first | with_reducible assumption | omega)) (fun h => ?_)) <;> (try rewrite [h]) <;> clear h) | ((with_reducible refine gA_t (by first | with_reducible assumption | (simp only [decide_eq_true_eq, decide_eq_false_iff_not]; first | with_reducible assumption | omega)) (fun h => ?_)) <;> (try rewrite [h]) <;> clear h) | ((with_reducible refine gA_f (by first | with_reducible assumption | (simp only [decide_eq_true_eq, decide_eq_false_iff_not]; first | with_reducible assumption | omega)) (fun h => ?_)) <;> (try rewrite [h]) <;> clear h) | ((with_reducible refine pk_t (by first | with_reducible assumption | (simp only [decide_eq_true_eq, decide_eq_false_iff_not]; first | with_reducible assumption | omega)) (fun h => ?_)) <;> (try rewrite [h]) <;> clear h) | ((with_reducible refine pk_f (by first | with_reducible assumption | (simp only [decide_eq_true_eq, decide_eq_false_iff_not]; first | with_reducible assumption | omega)) (fun h => ?_)) <;> (try rewrite [h]) <;> clear h) | (with_reducible refine pk_if ?_) | ((with_reducible refine cA_split (fun h => ?_) (fun h => ?_)) <;> (try rewrite [h]) <;> (try simp (disch := omega) only [w_i64, w_u64, tdiv_pos, tmod_pos, nth_map, foldA_len, nth_le, nth_tl, nth_tv, set_tl, set_tv] at h) <;> (try simp only [decide_eq_true_eq, decide_eq_false_iff_not, Bool.not_eq_true, Bool.not_eq_false, Bool.not_eq_true', Bool.not_eq_false', not_true_eq_false, not_false_eq_true] at h) <;> (try (exfalso; omega))) | ((with_reducible refine gA_split (fun h => ?_) (fun h => ?_)) <;> (try rewrite [h]) <;> (try simp (disch := omega) only [w_i64, w_u64, tdiv_pos, tmod_pos, nth_map, foldA_len, nth_le, nth_tl, nth_tv, set_tl, set_tv] at h) <;> (try simp only [decide_eq_true_eq, decide_eq_false_iff_not, Bool.not_eq_true, Bool.not_eq_false, Bool.not_eq_true', Bool.not_eq_false', not_true_eq_false, not_false_eq_true] at h) <;> (try (exfalso; omega))) | (simp (disch := omega) only [w_i64, w_u64, tdiv_pos, tmod_pos, nth_map, foldA_len, nth_le, nth_tl, nth_tv, set_tl, set_tv]) | (with_reducible refine And.intro (by first | with_reducible assumption | rfl | omega) ?_) | (with_reducible refine And.intro ?_ ?_))
  all_goals first
    | (rw [u_yes (by simp [unlikeAt, h]), nLs_app]; done)
    | (rw [u_yes (by simp [unlikeAt, h]), List.length_append]; rfl)
    | (rw [u_no (by simp_all [unlikeAt])]; done)
    | skip
  obtain rfl : k = 16 := by omega
  rw [unlikeT, hma, hmb]; rfl
end Go.Proofs.YthmnhfabkllgpaaDoor

namespace Go.Proofs.YthmnhfabkllgpaaDoor
open Go.RowKit
set_option linter.unusedVariables false
set_option linter.unusedSimpArgs false
def Tr.Eq16 (t u : Tr) : Prop := ∀ i, i < 16 → t.leaf i = u.leaf i ∧ t.ver i = u.ver i
theorem map_range_inj {α β : Type} {f g : Nat → β} {n : Nat} (h : (List.range n).map f = (List.range n).map g) : ∀ i, i < n → f i = g i := fun i hi => by
  have := congrArg (fun l => l[i]?) h
  simpa [List.getElem?_map, List.getElem?_range hi] using this
theorem tA_inj {t u : Tr} (h : tA t = tA u) : t.Eq16 u := by
  unfold tA tC at h
  injection h with h
  obtain ⟨h1, h2⟩ := List.append_inj h (by rw [leC_len, leC_len])
  intro i hi
  exact ⟨lA_inj (map_range_inj (α := Nat) h1 i hi), nA_inj (map_range_inj (α := Nat) h2 i hi)⟩
theorem tA_eq {t u : Tr} (h : t.Eq16 u) : tA t = tA u := by
  unfold tA tC leC veC
  congr 2
  · exact List.map_congr_left fun i hi => by rw [(h i (List.mem_range.1 hi)).1]
  · exact List.map_congr_left fun i hi => by rw [(h i (List.mem_range.1 hi)).2]
theorem all_range_congr {f g : Nat → Bool} {n : Nat} (h : ∀ i, i < n → f i = g i) : (List.range n).all f = (List.range n).all g := by
  rw [Bool.eq_iff_iff, List.all_eq_true, List.all_eq_true]
  exact ⟨fun q i hi => by rw [← h i (List.mem_range.1 hi)]; exact q i hi, fun q i hi => by rw [h i (List.mem_range.1 hi)]; exact q i hi⟩
theorem mayT_eq {t u : Tr} (h : t.Eq16 u) : mayT t = mayT u := all_range_congr fun i hi => by rw [(h i hi).1, (h i hi).2]
theorem getT_eq {t u : Tr} (h : t.Eq16 u) (k : Bytes) : getT t k = getT u k := by
  unfold getT
  rw [mayT_eq h]
  cases hk : keyB k with
  | false => rfl
  | true => rw [(h _ (bk_lt hk)).1]
theorem chgT_eq {t u : Tr} (h : t.Eq16 u) (b : Nat) (v : Int) (r : List Item × Nat) : tA (chgT t b v r).1 = tA (chgT u b v r).1 ∧ (chgT t b v r).2 = (chgT u b v r).2 := by
  unfold chgT
  split
  · refine ⟨tA_eq fun i hi => ?_, rfl⟩
    simp only [Tr.setL, Tr.setV]
    rw [(h i hi).1, (h i hi).2]
    exact ⟨rfl, rfl⟩
  · exact ⟨rfl, rfl⟩
theorem itemB_key {x : Item} (h : itemB x = true) : keyB x.key = true := by
  unfold itemB at h
  simp only [Bool.and_eq_true] at h
  exact h.1.1.1.1
theorem putT_eq {t u : Tr} (h : t.Eq16 u) (x : Item) : tA (putT t x).1 = tA (putT u x).1 ∧ (putT t x).2 = (putT u x).2 := by
  unfold putT
  rw [mayT_eq h]
  split
  · exact ⟨rfl, rfl⟩
  · rename_i hx
    have hi : itemB x = true := by
      cases e : itemB x with
      | true => rfl
      | false => rw [e] at hx; exact absurd rfl hx
    rw [(h _ (bk_lt (itemB_key hi))).1, (h _ (bk_lt (itemB_key hi))).2]
    split
    · exact ⟨rfl, rfl⟩
    · exact chgT_eq h ..
theorem delT_eq {t u : Tr} (h : t.Eq16 u) (k : Bytes) (v : Int) : tA (delT t k v).1 = tA (delT u k v).1 ∧ (delT t k v).2 = (delT u k v).2 := by
  unfold delT
  rw [mayT_eq h, getT_eq h]
  split
  · exact ⟨rfl, rfl⟩
  · split
    · exact ⟨rfl, rfl⟩
    · rename_i hg
      have hk : keyB k = true := by
        cases e : keyB k with
        | true => rfl
        | false => rw [getT, e] at hg; exact absurd rfl hg
      rw [(h _ (bk_lt hk)).1, (h _ (bk_lt hk)).2]
      split
      · exact ⟨rfl, rfl⟩
      · exact chgT_eq h ..
theorem sumTo_eq {f g : Nat → Nat} : ∀ {n : Nat}, (∀ i, i < n → f i = g i) → sumTo f n = sumTo g n
  | 0, _ => rfl
  | n + 1, h => by
    unfold sumTo
    rw [sumTo_eq fun i hi => h i (Nat.lt_succ_of_lt hi), h n (Nat.lt_succ_self n)]
theorem countT_eq {t u : Tr} (h : t.Eq16 u) : countT t = countT u := by
  unfold countT
  rw [mayT_eq h, sumTo_eq fun i hi => by rw [(h i hi).1]]
theorem weightT_eq {t u : Tr} (h : t.Eq16 u) : weightT t = weightT u := by
  unfold weightT
  rw [mayT_eq h, sumTo_eq fun i hi => by rw [(h i hi).1]]
theorem unlikeT_eq {t u t' u' : Tr} (h : t.Eq16 u) (h' : t'.Eq16 u') : unlikeT t t' = unlikeT u u' := by
  unfold unlikeT
  rw [mayT_eq h, mayT_eq h']
  have : unlikeL t t' 16 = unlikeL u u' 16 := by
    unfold unlikeL
    refine List.filter_congr fun i hi => ?_
    have hi := List.mem_range.1 hi
    unfold unlikeAt
    rw [(h i hi).1, (h i hi).2, (h' i hi).1, (h' i hi).2]
  rw [this]
def Tr.Ok (t : Tr) : Prop := ∀ i, (t.leaf i).length ≤ 1000000 ∧ (∀ x ∈ t.leaf i, x.key.length ≤ maxLen ∧ NumOk x) ∧ weightP (t.leaf i) ≤ 1000000000
theorem Tr.Ok.len {t : Tr} (h : t.Ok) : ∀ i, (t.leaf i).length ≤ 1000000 := fun i => (h i).1
theorem Tr.Ok.len2 {t : Tr} (h : t.Ok) : ∀ i, (t.leaf i).length ≤ 34359738368 := fun i => Nat.le_trans (h i).1 (by decide)
noncomputable def trunk_May_t (m : Nat) : List AV → RO := orac (ι := Tr) (fun t => [tA t]) (fun t => bA (mayT t)) Tr.Ok
theorem trunk_May_ok (m : Nat) : ∀ args X H', trunk_May_t m args = some (X, H') → ACp Tryd.prog GG 20 args X := orac_ok fun t h => may_d sigGG t h.len2
theorem trunk_May_e (m : Nat) (t : Tr) (h : t.Ok) : trunk_May_t m [tA t] = some (bA (mayT t), []) := orac_eq (ι := Tr) (by
  intro t u e
  rw [mayT_eq (tA_inj (List.cons.inj e).1)]) (i := t) h
noncomputable def trunk_Get_t (m : Nat) : List AV → RO := orac (ι := Tr × Bytes) (fun p => [tA p.1, sA p.2]) (fun p => TU [iA ((getT p.1 p.2).getD Item.zero), bA (getT p.1 p.2).isSome]) (fun p => p.1.Ok)
theorem trunk_Get_ok (m : Nat) : ∀ args X H', trunk_Get_t m args = some (X, H') → ACp Tryd.prog GG 21 args X := orac_ok fun p h => get_d sigGG p.1 p.2 h.len
theorem trunk_Get_e (m : Nat) (t : Tr) (k : Bytes) (h : t.Ok) : trunk_Get_t m [tA t, sA k] = some (TU [iA ((getT t k).getD Item.zero), bA (getT t k).isSome], []) := orac_eq (ι := Tr × Bytes) (by
  rintro ⟨t, k⟩ ⟨u, k'⟩ e
  dsimp only at e ⊢
  simp only [List.cons.injEq, and_true] at e
  rw [getT_eq (tA_inj e.1), sA_inj e.2]) (i := (t, k)) h
noncomputable def trunk_Put_t (m : Nat) : List AV → RO := orac (ι := Tr × Item) (fun p => [tA p.1, iA p.2]) (fun p => TU [tA (putT p.1 p.2).1, nA (putT p.1 p.2).2]) (fun p => p.1.Ok)
theorem trunk_Put_ok (m : Nat) : ∀ args X H', trunk_Put_t m args = some (X, H') → ACp Tryd.prog GG 9 args X := orac_ok fun p h => put_d sigGG p.1 p.2 h.len
theorem trunk_Put_e (m : Nat) (t : Tr) (x : Item) (h : t.Ok) : trunk_Put_t m [tA t, iA x] = some (TU [tA (putT t x).1, nA (putT t x).2], []) := orac_eq (ι := Tr × Item) (by
  rintro ⟨t, k⟩ ⟨u, k'⟩ e
  dsimp only at e ⊢
  simp only [List.cons.injEq, and_true] at e
  rw [iA_inj e.2, (putT_eq (tA_inj e.1) k').1, (putT_eq (tA_inj e.1) k').2]) (i := (t, x)) h
noncomputable def trunk_Delete_t (m : Nat) : List AV → RO := orac (ι := Tr × Bytes × Int) (fun p => [tA p.1, sA p.2.1, nA p.2.2]) (fun p => TU [tA (delT p.1 p.2.1 p.2.2).1, nA (delT p.1 p.2.1 p.2.2).2]) (fun p => p.1.Ok)
theorem trunk_Delete_ok (m : Nat) : ∀ args X H', trunk_Delete_t m args = some (X, H') → ACp Tryd.prog GG 10 args X := orac_ok fun p h => del_d sigGG p.1 p.2.1 p.2.2 h.len
theorem trunk_Delete_e (m : Nat) (t : Tr) (k : Bytes) (v : Int) (h : t.Ok) : trunk_Delete_t m [tA t, sA k, nA v] = some (TU [tA (delT t k v).1, nA (delT t k v).2], []) := orac_eq (ι := Tr × Bytes × Int) (by
  rintro ⟨t, k, v⟩ ⟨u, k', v'⟩ e
  dsimp only at e ⊢
  simp only [List.cons.injEq, and_true] at e
  rw [sA_inj e.2.1, nA_inj e.2.2, (delT_eq (tA_inj e.1) k' v').1, (delT_eq (tA_inj e.1) k' v').2]) (i := (t, k, v)) h
noncomputable def trunk_Count_t (m : Nat) : List AV → RO := orac (ι := Tr) (fun t => [tA t]) (fun t => nA (countT t)) Tr.Ok
theorem trunk_Count_ok (m : Nat) : ∀ args X H', trunk_Count_t m args = some (X, H') → ACp Tryd.prog GG 25 args X := orac_ok fun t h => count_d sigGG t h.len
theorem trunk_Count_e (m : Nat) (t : Tr) (h : t.Ok) : trunk_Count_t m [tA t] = some (nA (countT t), []) := orac_eq (ι := Tr) (by
  intro t u e
  rw [countT_eq (tA_inj (List.cons.inj e).1)]) (i := t) h
noncomputable def trunk_Weight_t (m : Nat) : List AV → RO := orac (ι := Tr) (fun t => [tA t]) (fun t => nA (weightT t)) Tr.Ok
theorem trunk_Weight_ok (m : Nat) : ∀ args X H', trunk_Weight_t m args = some (X, H') → ACp Tryd.prog GG 26 args X := orac_ok fun t h => weight_d sigGG t h.len (fun i => (h i).2.2) fun i x hx => ((h i).2.1 x hx).2
theorem trunk_Weight_e (m : Nat) (t : Tr) (h : t.Ok) : trunk_Weight_t m [tA t] = some (nA (weightT t), []) := orac_eq (ι := Tr) (by
  intro t u e
  rw [weightT_eq (tA_inj (List.cons.inj e).1)]) (i := t) h
noncomputable def trunk_Unlike_t (m : Nat) : List AV → RO := orac (ι := Tr × Tr) (fun p => [tA p.1, tA p.2]) (fun p => TU [SL (nLs (unlikeT p.1 p.2).1), nA (unlikeT p.1 p.2).2]) (fun p => p.1.Ok ∧ p.2.Ok)
theorem trunk_Unlike_ok (m : Nat) : ∀ args X H', trunk_Unlike_t m args = some (X, H') → ACp Tryd.prog GG 22 args X := orac_ok fun p h => unlike_d sigGG p.1 p.2 h.1.len h.2.len
theorem trunk_Unlike_e (m : Nat) (t u : Tr) (h : t.Ok) (h' : u.Ok) : trunk_Unlike_t m [tA t, tA u] = some (TU [SL (nLs (unlikeT t u).1), nA (unlikeT t u).2], []) := orac_eq (ι := Tr × Tr) (by
  rintro ⟨t, k⟩ ⟨u, k'⟩ e
  dsimp only at e ⊢
  simp only [List.cons.injEq, and_true] at e
  rw [unlikeT_eq (tA_inj e.1) (tA_inj e.2)]) (i := (t, u)) ⟨h, h'⟩
theorem tA_few {t u : Tr} (h : t.Eq16 u) : tA (fewT t 16) = tA (fewT u 16) := tA_eq fun i hi => by
  simp only [fewT, hi, if_true]
  rw [(h i hi).1, (h i hi).2]
  exact ⟨rfl, rfl⟩
noncomputable def plenumlaw10_Few_t (m : Nat) : List AV → RO := orac (ι := Tr) (fun t => [tA t]) (fun t => tA (fewT t 16)) (fun t => ∀ i, (t.leaf i).length ≤ maxLen)
theorem plenumlaw10_Few_ok (m : Nat) : ∀ args X H', plenumlaw10_Few_t m args = some (X, H') → ACp Tryd.prog GG 7 args X := orac_ok fun t h => few_d t h
theorem plenumlaw10_Few_e (m : Nat) (t : Tr) (h : ∀ i, (t.leaf i).length ≤ maxLen) : plenumlaw10_Few_t m [tA t] = some (tA (fewT t 16), []) := orac_eq (ι := Tr) (by
  intro t u e
  exact tA_few (tA_inj (List.cons.inj e).1)) (i := t) h
noncomputable def plenumlaw10_short_t (m : Nat) : List AV → RO := orac (ι := Bytes) (fun k => [sA k]) (fun k => sA (k.take 60)) (fun _ => True)
theorem plenumlaw10_short_ok (m : Nat) : ∀ args X H', plenumlaw10_short_t m args = some (X, H') → ACp Tryd.prog GG 18 args X := orac_ok fun k _ => short_d k
theorem plenumlaw10_short_e (m : Nat) (k : Bytes) : plenumlaw10_short_t m [sA k] = some (sA (k.take 60), []) := orac_eq (ι := Bytes) (by
  intro k l e
  rw [sA_inj (List.cons.inj e).1]) (i := k) trivial
noncomputable def plenumlaw10_One_t (m : Nat) : List AV → RO := orac (ι := Item) (fun x => [iA x]) (fun x => iA x.one) (fun _ => True)
theorem plenumlaw10_One_ok (m : Nat) : ∀ args X H', plenumlaw10_One_t m args = some (X, H') → ACp Tryd.prog GG 8 args X := orac_ok fun x _ => one_d x
theorem plenumlaw10_One_e (m : Nat) (x : Item) : plenumlaw10_One_t m [iA x] = some (iA x.one, []) := orac_eq (ι := Item) (by
  intro k l e
  rw [iA_inj (List.cons.inj e).1]) (i := x) trivial
noncomputable def plenumlaw10_items_t (m : Nat) : List AV → RO := orac (ι := List Item) (fun l => [lA l]) (fun l => lA (fewL l)) (fun l => l.length ≤ maxLen)
theorem plenumlaw10_items_ok (m : Nat) : ∀ args X H', plenumlaw10_items_t m args = some (X, H') → ACp Tryd.prog GG 19 args X := orac_ok fun l h => items_d l h
theorem plenumlaw10_items_e (m : Nat) (l : List Item) (h : l.length ≤ maxLen) : plenumlaw10_items_t m [lA l] = some (lA (fewL l), []) := orac_eq (ι := List Item) (by
  intro k l e
  rw [lA_inj (List.cons.inj e).1]) (i := l) h
end Go.Proofs.YthmnhfabkllgpaaDoor

namespace Go.Proofs.YthmnhfabkllgpaaDoor
open Go.RowKit
set_option linter.unusedVariables false
set_option maxRecDepth 100000
def ty_api_Item : TypeId := 30
def ty_api_Trunk : TypeId := 26
def ty_api_Value : TypeId := 28
def zc_api_Item : List AV := [(V (.string ⟨#[]⟩)), (V (.int .i64 0)), (V (.int .i64 0)), (V (.string ⟨#[]⟩)), (V (.int .i64 0))]
def zc_api_Trunk : List AV := [(V (.slice none 0 0)), (V (.slice none 0 0)), (V (.slice none 0 0)), (V (.slice none 0 0)), (V (.slice none 0 0)), (V (.slice none 0 0)), (V (.slice none 0 0)), (V (.slice none 0 0)), (V (.slice none 0 0)), (V (.slice none 0 0)), (V (.slice none 0 0)), (V (.slice none 0 0)), (V (.slice none 0 0)), (V (.slice none 0 0)), (V (.slice none 0 0)), (V (.slice none 0 0)), (V (.int .i64 0)), (V (.int .i64 0)), (V (.int .i64 0)), (V (.int .i64 0)), (V (.int .i64 0)), (V (.int .i64 0)), (V (.int .i64 0)), (V (.int .i64 0)), (V (.int .i64 0)), (V (.int .i64 0)), (V (.int .i64 0)), (V (.int .i64 0)), (V (.int .i64 0)), (V (.int .i64 0)), (V (.int .i64 0)), (V (.int .i64 0))]
def zc_api_Value : List AV := [(V (.int .i64 0)), (V (.int .i64 0)), (V (.string ⟨#[]⟩))]
def pl_api_Item : List (Nat × Nat) := [(0, 1), (1, 3), (4, 1)]
def pl_api_Trunk : List (Nat × Nat) := [(0, 16), (16, 16)]
def pl_api_Value : List (Nat × Nat) := [(0, 1), (1, 1), (2, 1)]
noncomputable def plenumref10_Fits_c : Code := (Tryd.f24.body).getD .skip
def plenumref10_Fits_h : Hint := (.two .n (.join [1, 2] (.two .n (.one (.lp [] [0, 1, 2, 7] [1, 2, 6] (.two (.two .n (.two .n .n)) (.two (.one (.two .n (.two (.two .n .n) .n))) .n))))) (.two .n .n)))
noncomputable def plenumref10_Fits_env (m : Nat) : Env := [(39, .tell (plenumref08_Is_t m)), (50, .tell (plenumref09_Is_t m))]
noncomputable abbrev plenumref10_Fits_fin : KO (AV × List AObj) := tellFK Tryd.prog [.tmp 6]
noncomputable def plenumref10_Fits_r1 (m : Nat) (s : ASt) : RO := joinW Tryd.prog GG (plenumref10_Fits_env m) m 52 (cdR (cdR plenumref10_Fits_c)) plenumref10_Fits_h.r.r s (plenumref10_Fits_fin)
noncomputable def plenumref10_Fits_b1 (m : Nat) (s : ASt) (kc : ASt → RO) (kx : KO (AV × List AObj)) : RO := bodyW Tryd.prog GG (plenumref10_Fits_env m) m 52 (cdL (cdL (cdR (cdL (cdR plenumref10_Fits_c))))) plenumref10_Fits_h.r.l.r.c.c [0, 1, 2, 7] [1, 2, 6] s kc kx
noncomputable def plenumref10_Fits (m : Nat) (t0 t1 t2 : AV) : RO := exec Tryd.prog GG (plenumref10_Fits_env m) m 52 plenumref10_Fits_c plenumref10_Fits_h ⟨[], argsT 0 [t0, t1, t2]⟩ (plenumref10_Fits_fin)
theorem plenumref10_Fits_r1_eq (m : Nat) (H : List AObj) (t1 t2 : AV) : plenumref10_Fits_r1 m ⟨H, [(1, t1), (2, t2)]⟩ =
  tellE (plenumref09_Is_t m [(ro H t1)]) [(ro H t1)] fun t43 =>
  condE t43 (
   binE none false .leq (V (.int .i64 0)) t2 fun t46 =>
   condE t46 (
   binE none false .leq t2 (V (.int .i64 2147483647)) fun t50 =>
   tellK H (ro H t50)) (
   tellK H (ro H (V (.bool false))))) (
   tellK H (ro H (V (.bool false)))) := by
  refine (joinW_eq Tryd.prog GG (plenumref10_Fits_env m) m 52 (cdR (cdR plenumref10_Fits_c)) plenumref10_Fits_h.r.r ⟨H, [(1, t1), (2, t2)]⟩ (plenumref10_Fits_fin)).trans ?_
  kernel_rfl
theorem plenumref10_Fits_b1_eq (m : Nat) (H : List AObj) (t0 t1 t2 t7 : AV) (kc : ASt → RO) (kx : KO (AV × List AObj)) : plenumref10_Fits_b1 m ⟨H, [(0, t0), (1, t1), (2, t2), (7, t7)]⟩ kc kx =
  lenE false true H t1 fun t10 =>
  binE none false .lss t7 t10 fun t11 =>
  condE t11 (
   idxSE 7 H t1 t7 fun t16 =>
   fieldE (some (0, 1)) t16 fun t17 =>
   loadE 1 H t17 fun t18 =>
   tellE (plenumref08_Is_t m [(ro H t18)]) [(ro H t18)] fun t19 =>
   unE .not t19 fun t20 =>
   condE t20 (
    kx .ret ⟨H, [(1, t1), (2, t2), (6, (V (.bool false)))]⟩) (
    idxSE 7 H t1 t7 fun t24 =>
    fieldE (some (0, 1)) t24 fun t25 =>
    loadE 1 H t25 fun t26 =>
    idxVE true none t26 (V (.int .i64 0)) fun t27 =>
    convE false (some .i64) true t27 fun t28 =>
    binE none false .rem t28 (V (.int .i64 16)) fun t29 =>
    binE none false .neq t29 t0 fun t31 =>
    condE t31 (
    kx .ret ⟨H, [(1, t1), (2, t2), (6, (V (.bool false)))]⟩) (
    idxSE 7 H t1 t7 fun t36 =>
    fieldE (some (4, 1)) t36 fun t37 =>
    loadE 1 H t37 fun t38 =>
    binE none false .gtr t38 t2 fun t40 =>
    condE t40 (
    kx .ret ⟨H, [(1, t1), (2, t2), (6, (V (.bool false)))]⟩) (
    binE none false .add t7 (V (.int .i64 1)) fun t13 =>
    backE H.length H [(0, t0), (1, t1), (2, t2), (7, t13)] kc)))) (
   kx (.exit 0) ⟨H, [(1, t1), (2, t2), (6, .nil)]⟩) := by
  refine (bodyW_eq Tryd.prog GG (plenumref10_Fits_env m) m 52 (cdL (cdL (cdR (cdL (cdR plenumref10_Fits_c))))) plenumref10_Fits_h.r.l.r.c.c [0, 1, 2, 7] [1, 2, 6] ⟨H, [(0, t0), (1, t1), (2, t2), (7, t7)]⟩ kc kx).trans ?_
  kernel_rfl
theorem plenumref10_Fits_eq (m : Nat) (t0 t1 t2 : AV) : plenumref10_Fits m t0 t1 t2 =
  iterC m (plenumref10_Fits_b1 m) ⟨[], [(0, t0), (1, t1), (2, t2), (7, (V (.int .i64 0)))]⟩ (blockK 0 (seqK (fun s => plenumref10_Fits_r1 m ⟨s.H, [(1, gt s.T 1), (2, gt s.T 2)]⟩) (plenumref10_Fits_fin))) := by
  refine (tellX Tryd.prog GG (plenumref10_Fits_env m) m 52 plenumref10_Fits_c plenumref10_Fits_h ⟨[], argsT 0 [t0, t1, t2]⟩ [.tmp 6]).trans ?_
  kernel_rfl
noncomputable def plenumref10_Fits_t (m : Nat) : List AV → RO | [t0, t1, t2] => plenumref10_Fits m t0 t1 t2 | _ => none
theorem plenumref10_Fits_ok (m : Nat) : ∀ args X H', plenumref10_Fits_t m args = some (X, H') → ACp Tryd.prog GG 24 args X := by
  intro args X H' h
  unfold plenumref10_Fits_t at h
  split at h
  · exact tell_okK MIX (by
    intro f e h
    simp only [plenumref10_Fits_env, Prod.mk.injEq, List.mem_cons, List.not_mem_nil, or_false] at h
    rcases h with ⟨rfl, rfl⟩ | ⟨rfl, rfl⟩
    · exact plenumref08_Is_ok m
    · exact plenumref09_Is_ok m) (f := 24) (c := plenumref10_Fits_c) Tryd.func24 rfl (by kernel_rfl) _ rfl Tryd.ntmps24 (Nat.le_of_ble_eq_true rfl) plenumref10_Fits_h h
  · cases h
noncomputable def plenumref10_May_c : Code := (Tryd.f12.body).getD .skip
def plenumref10_May_h : Hint := (.two .n (.join [] (.two .n (.one (.lp [] [1, 3] [2] (.two (.two .n (.two .n .n)) (.two (.one (.two .n (.two (.two .n .n) .n))) .n))))) (.two .n .n)))
noncomputable def plenumref10_May_env (m : Nat) : Env := [(24, .tell (plenumref10_Fits_t m))]
noncomputable abbrev plenumref10_May_fin : KO (AV × List AObj) := tellFK Tryd.prog [.tmp 2]
noncomputable def plenumref10_May_r1 (m : Nat) (s : ASt) : RO := joinW Tryd.prog GG (plenumref10_May_env m) m 19 (cdR (cdR plenumref10_May_c)) plenumref10_May_h.r.r s (plenumref10_May_fin)
noncomputable def plenumref10_May_b1 (m : Nat) (s : ASt) (kc : ASt → RO) (kx : KO (AV × List AObj)) : RO := bodyW Tryd.prog GG (plenumref10_May_env m) m 19 (cdL (cdL (cdR (cdL (cdR plenumref10_May_c))))) plenumref10_May_h.r.l.r.c.c [1, 3] [2] s kc kx
noncomputable def plenumref10_May (m : Nat) (t0 : AV) : RO := exec Tryd.prog GG (plenumref10_May_env m) m 19 plenumref10_May_c plenumref10_May_h ⟨[], argsT 0 [t0]⟩ (plenumref10_May_fin)
theorem plenumref10_May_r1_eq (m : Nat) (H : List AObj) : plenumref10_May_r1 m ⟨H, []⟩ =
  tellK H (ro H (V (.bool true))) := by
  refine (joinW_eq Tryd.prog GG (plenumref10_May_env m) m 19 (cdR (cdR plenumref10_May_c)) plenumref10_May_h.r.r ⟨H, []⟩ (plenumref10_May_fin)).trans ?_
  kernel_rfl
theorem plenumref10_May_b1_eq (m : Nat) (H : List AObj) (t1 t3 : AV) (kc : ASt → RO) (kx : KO (AV × List AObj)) : plenumref10_May_b1 m ⟨H, [(1, t1), (3, t3)]⟩ kc kx =
  binE none false .lss t3 (V (.int .i64 16)) fun t5 =>
  condE t5 (
   fieldE (some (0, 18)) t1 fun t10 =>
   idxPE 16 1 t10 t3 fun t11 =>
   loadE 1 H t11 fun t12 =>
   fieldE (some (16, 18)) t1 fun t14 =>
   idxPE 16 1 t14 t3 fun t15 =>
   loadE 1 H t15 fun t16 =>
   tellE (plenumref10_Fits m (ro H t3) (ro H t12) (ro H t16)) [(ro H t3), (ro H t12), (ro H t16)] fun t17 =>
   unE .not t17 fun t18 =>
   condE t18 (
    kx .ret ⟨H, [(2, (V (.bool false)))]⟩) (
    binE none false .add t3 (V (.int .i64 1)) fun t7 =>
    backE H.length H [(1, t1), (3, t7)] kc)) (
   kx (.exit 0) ⟨H, [(2, .nil)]⟩) := by
  refine (bodyW_eq Tryd.prog GG (plenumref10_May_env m) m 19 (cdL (cdL (cdR (cdL (cdR plenumref10_May_c))))) plenumref10_May_h.r.l.r.c.c [1, 3] [2] ⟨H, [(1, t1), (3, t3)]⟩ kc kx).trans ?_
  kernel_rfl
theorem plenumref10_May_eq (m : Nat) (t0 : AV) : plenumref10_May m t0 =
  boxE ty_api_Trunk [] t0 fun t1 H1 =>
  iterC m (plenumref10_May_b1 m) ⟨H1, [(1, t1), (3, (V (.int .i64 0)))]⟩ (blockK 0 (seqK (fun s => plenumref10_May_r1 m ⟨s.H, []⟩) (plenumref10_May_fin))) := by
  refine (tellX Tryd.prog GG (plenumref10_May_env m) m 19 plenumref10_May_c plenumref10_May_h ⟨[], argsT 0 [t0]⟩ [.tmp 2]).trans ?_
  kernel_rfl
noncomputable def plenumref10_May_t (m : Nat) : List AV → RO | [t0] => plenumref10_May m t0 | _ => none
theorem plenumref10_May_ok (m : Nat) : ∀ args X H', plenumref10_May_t m args = some (X, H') → ACp Tryd.prog GG 12 args X := by
  intro args X H' h
  unfold plenumref10_May_t at h
  split at h
  · exact tell_okK MIX (by
    intro f e h
    simp only [plenumref10_May_env, Prod.mk.injEq, List.mem_cons, List.not_mem_nil, or_false] at h
    obtain ⟨rfl, rfl⟩ := h
    · exact plenumref10_Fits_ok m) (f := 12) (c := plenumref10_May_c) Tryd.func12 rfl (by kernel_rfl) _ rfl Tryd.ntmps12 (Nat.le_of_ble_eq_true rfl) plenumref10_May_h h
  · cases h
noncomputable def plenumref10_Bucket_c : Code := (Tryd.f41.body).getD .skip
def plenumref10_Bucket_h : Hint := (.two .n (.two .n .n))
noncomputable def plenumref10_Bucket_env (m : Nat) : Env := []
noncomputable abbrev plenumref10_Bucket_fin : KO (AV × List AObj) := tellFK Tryd.prog [.tmp 2]
noncomputable def plenumref10_Bucket (m : Nat) (t0 : AV) : RO := exec Tryd.prog GG (plenumref10_Bucket_env m) m 7 plenumref10_Bucket_c plenumref10_Bucket_h ⟨[], argsT 0 [t0]⟩ (plenumref10_Bucket_fin)
theorem plenumref10_Bucket_eq (m : Nat) (t0 : AV) : plenumref10_Bucket m t0 =
  idxVE true none t0 (V (.int .i64 0)) fun t4 =>
  convE false (some .i64) true t4 fun t5 =>
  binE none false .rem t5 (V (.int .i64 16)) fun t6 =>
  tellK [] (ro [] t6) := by
  refine (tellX Tryd.prog GG (plenumref10_Bucket_env m) m 7 plenumref10_Bucket_c plenumref10_Bucket_h ⟨[], argsT 0 [t0]⟩ [.tmp 2]).trans ?_
  kernel_rfl
noncomputable def plenumref10_Bucket_t (m : Nat) : List AV → RO | [t0] => plenumref10_Bucket m t0 | _ => none
theorem plenumref10_Bucket_ok (m : Nat) : ∀ args X H', plenumref10_Bucket_t m args = some (X, H') → ACp Tryd.prog GG 41 args X := by
  intro args X H' h
  unfold plenumref10_Bucket_t at h
  split at h
  · exact tell_okK MIX (by intro f e h; cases h) (f := 41) (c := plenumref10_Bucket_c) Tryd.func41 rfl (by kernel_rfl) _ rfl Tryd.ntmps41 (Nat.le_of_ble_eq_true rfl) plenumref10_Bucket_h h
  · cases h
noncomputable def plenumref10_Get_c : Code := (Tryd.f29.body).getD .skip
def plenumref10_Get_h : Hint := (.two .n (.join [4] (.two .n (.one (.lp [] [1, 2, 4, 6] [4, 5] (.two (.two .n (.two .n .n)) (.two (.one (.two .n (.two .n (.two (.two .n .n) .n)))) .n))))) (.two .n .n)))
noncomputable def plenumref10_Get_env (m : Nat) : Env := [(55, .tell (plenumref09_At_t m))]
noncomputable abbrev plenumref10_Get_fin : KO (AV × List AObj) := tellFK Tryd.prog [.cell 4 30, .tmp 5]
noncomputable def plenumref10_Get_r1 (m : Nat) (s : ASt) : RO := joinW Tryd.prog GG (plenumref10_Get_env m) m 28 (cdR (cdR plenumref10_Get_c)) plenumref10_Get_h.r.r s (plenumref10_Get_fin)
noncomputable def plenumref10_Get_b1 (m : Nat) (s : ASt) (kc : ASt → RO) (kx : KO (AV × List AObj)) : RO := bodyW Tryd.prog GG (plenumref10_Get_env m) m 28 (cdL (cdL (cdR (cdL (cdR plenumref10_Get_c))))) plenumref10_Get_h.r.l.r.c.c [1, 2, 4, 6] [4, 5] s kc kx
noncomputable def plenumref10_Get (m : Nat) (t0 t1 : AV) : RO := exec Tryd.prog GG (plenumref10_Get_env m) m 28 plenumref10_Get_c plenumref10_Get_h ⟨[], argsT 0 [t0, t1]⟩ (plenumref10_Get_fin)
theorem plenumref10_Get_r1_eq (m : Nat) (H : List AObj) (t4 : AV) : plenumref10_Get_r1 m ⟨H, [(4, t4)]⟩ =
  buildE (some pl_api_Item) (some zc_api_Item) [] fun t27 =>
  storeE 7 H t4 t27 fun H2 =>
  loadE 7 H2 t4 fun t9000 =>
  tellK H2 (ro H2 (TU [noT t9000, noT (V (.bool false))])) := by
  refine (joinW_eq Tryd.prog GG (plenumref10_Get_env m) m 28 (cdR (cdR plenumref10_Get_c)) plenumref10_Get_h.r.r ⟨H, [(4, t4)]⟩ (plenumref10_Get_fin)).trans ?_
  kernel_rfl
theorem plenumref10_Get_b1_eq (m : Nat) (H : List AObj) (t1 t2 t4 t6 : AV) (kc : ASt → RO) (kx : KO (AV × List AObj)) : plenumref10_Get_b1 m ⟨H, [(1, t1), (2, t2), (4, t4), (6, t6)]⟩ kc kx =
  binE none false .lss t6 (V (.int .i64 16)) fun t9 =>
  condE t9 (
   fieldE (some (0, 18)) t2 fun t13 =>
   idxPE 16 1 t13 t6 fun t14 =>
   loadE 1 H t14 fun t15 =>
   tellE (plenumref09_At_t m [(ro H t15), (ro H t1)]) [(ro H t15), (ro H t1)] fun t17 =>
   binE none false .geq t17 (V (.int .i64 0)) fun t19 =>
   condE t19 (
    fieldE (some (0, 18)) t2 fun t21 =>
    idxPE 16 1 t21 t6 fun t22 =>
    loadE 1 H t22 fun t23 =>
    idxSE 7 H t23 t17 fun t25 =>
    loadE 7 H t25 fun t26 =>
    storeE 7 H t4 t26 fun H2 =>
    kx .ret ⟨H2, [(4, t4), (5, (V (.bool true)))]⟩) (
    binE none false .add t6 (V (.int .i64 1)) fun t11 =>
    backE H.length H [(1, t1), (2, t2), (4, t4), (6, t11)] kc)) (
   kx (.exit 0) ⟨H, [(4, t4), (5, .nil)]⟩) := by
  refine (bodyW_eq Tryd.prog GG (plenumref10_Get_env m) m 28 (cdL (cdL (cdR (cdL (cdR plenumref10_Get_c))))) plenumref10_Get_h.r.l.r.c.c [1, 2, 4, 6] [4, 5] ⟨H, [(1, t1), (2, t2), (4, t4), (6, t6)]⟩ kc kx).trans ?_
  kernel_rfl
theorem plenumref10_Get_eq (m : Nat) (t0 t1 : AV) : plenumref10_Get m t0 t1 =
  boxE ty_api_Trunk [] t0 fun t2 H1 =>
  allocE (some zc_api_Item) ty_api_Item H1 fun t4 H2 =>
  iterC m (plenumref10_Get_b1 m) ⟨H2, [(1, t1), (2, t2), (4, t4), (6, (V (.int .i64 0)))]⟩ (blockK 0 (seqK (fun s => plenumref10_Get_r1 m ⟨s.H, [(4, gt s.T 4)]⟩) (plenumref10_Get_fin))) := by
  refine (tellX Tryd.prog GG (plenumref10_Get_env m) m 28 plenumref10_Get_c plenumref10_Get_h ⟨[], argsT 0 [t0, t1]⟩ [.cell 4 30, .tmp 5]).trans ?_
  kernel_rfl
noncomputable def plenumref10_Get_t (m : Nat) : List AV → RO | [t0, t1] => plenumref10_Get m t0 t1 | _ => none
theorem plenumref10_Get_ok (m : Nat) : ∀ args X H', plenumref10_Get_t m args = some (X, H') → ACp Tryd.prog GG 29 args X := by
  intro args X H' h
  unfold plenumref10_Get_t at h
  split at h
  · exact tell_okK MIX (by
    intro f e h
    simp only [plenumref10_Get_env, Prod.mk.injEq, List.mem_cons, List.not_mem_nil, or_false] at h
    obtain ⟨rfl, rfl⟩ := h
    · exact plenumref09_At_ok m) (f := 29) (c := plenumref10_Get_c) Tryd.func29 rfl (by kernel_rfl) _ rfl Tryd.ntmps29 (Nat.le_of_ble_eq_true rfl) plenumref10_Get_h h
  · cases h
noncomputable def plenumref10_Put_c : Code := (Tryd.f16.body).getD .skip
def plenumref10_Put_h : Hint := (.two .n (.two .n (.two (.two .n (.two (.two .n .n) .n)) (.two (.two .n (.two .n (.two (.two .n .n) .n))) (.two .n (.two .n (.two .n .n)))))))
noncomputable def plenumref10_Put_env (m : Nat) : Env := [(41, .tell (plenumref10_Bucket_t m)), (29, .tell (plenumref10_Get_t m)), (42, .tell (plenumref09_With_t m))]
noncomputable abbrev plenumref10_Put_fin : KO (AV × List AObj) := tellFK Tryd.prog [.cell 4 26, .tmp 5]
noncomputable def plenumref10_Put (m : Nat) (t0 t1 : AV) : RO := exec Tryd.prog GG (plenumref10_Put_env m) m 53 plenumref10_Put_c plenumref10_Put_h ⟨[], argsT 0 [t0, t1]⟩ (plenumref10_Put_fin)
theorem plenumref10_Put_eq (m : Nat) (t0 t1 : AV) : plenumref10_Put m t0 t1 =
  boxE ty_api_Trunk [] t0 fun t2 H1 =>
  boxE ty_api_Item H1 t1 fun t3 H2 =>
  allocE (some zc_api_Trunk) ty_api_Trunk H2 fun t4 H3 =>
  fieldE (some (0, 1)) t3 fun t9 =>
  loadE 1 H3 t9 fun t10 =>
  tellE (plenumref10_Bucket m (ro H3 t10)) [(ro H3 t10)] fun t11 =>
  fieldE (some (4, 1)) t3 fun t12 =>
  loadE 1 H3 t12 fun t13 =>
  fieldE (some (16, 18)) t2 fun t15 =>
  idxPE 16 1 t15 t11 fun t16 =>
  loadE 1 H3 t16 fun t17 =>
  binE none false .lss t13 t17 fun t18 =>
  condE t18 (
   buildE (some pl_api_Trunk) (some zc_api_Trunk) [] fun t19 =>
   storeE 34 H3 t4 t19 fun H4 =>
   loadE 34 H4 t4 fun t9000 =>
   tellK H4 (ro H4 (TU [noT t9000, noT (V (.int .i64 18))]))) (
   loadE 34 H3 t2 fun t21 =>
   fieldE (some (0, 1)) t3 fun t22 =>
   loadE 1 H3 t22 fun t23 =>
   tellE (plenumref10_Get m (ro H3 t21) (ro H3 t23)) [(ro H3 t21), (ro H3 t23)] fun t24 =>
   extE t24 0 fun t25 =>
   extE t24 1 fun t26 =>
   allocE (some zc_api_Item) ty_api_Item H3 fun t7 H4 =>
   storeE 7 H4 t7 t25 fun H5 =>
   unE .not t26 fun t28 =>
   condE t28 (
    fieldE (some (0, 18)) t2 fun t31 =>
    idxPE 16 1 t31 t11 fun t32 =>
    loadE 1 H5 t32 fun t33 =>
    lenE false true H5 t33 fun t34 =>
    binE none false .eql t34 (V (.int .i64 64)) fun t35 =>
    condE t35 (
    buildE (some pl_api_Trunk) (some zc_api_Trunk) [] fun t37 =>
    storeE 34 H5 t4 t37 fun H6 =>
    loadE 34 H6 t4 fun t9000 =>
    tellK H6 (ro H6 (TU [noT t9000, noT (V (.int .i64 5))]))) (
    fieldE (some (0, 18)) t2 fun t40 =>
    idxPE 16 1 t40 t11 fun t41 =>
    loadE 1 H5 t41 fun t42 =>
    loadE 7 H5 t3 fun t43 =>
    tellE (plenumref09_With_t m [(ro H5 t42), (ro H5 t43)]) [(ro H5 t42), (ro H5 t43)] fun t44 =>
    fieldE (some (0, 18)) t2 fun t45 =>
    idxPE 16 1 t45 t11 fun t46 =>
    storeE 1 H5 t46 t44 fun H6 =>
    fieldE (some (4, 1)) t3 fun t48 =>
    loadE 1 H6 t48 fun t49 =>
    fieldE (some (16, 18)) t2 fun t50 =>
    idxPE 16 1 t50 t11 fun t51 =>
    storeE 1 H6 t51 t49 fun H7 =>
    loadE 34 H7 t2 fun t52 =>
    storeE 34 H7 t4 t52 fun H8 =>
    loadE 34 H8 t4 fun t9000 =>
    tellK H8 (ro H8 (TU [noT t9000, noT (V (.int .i64 0))])))) (
    fieldE (some (0, 18)) t2 fun t40 =>
    idxPE 16 1 t40 t11 fun t41 =>
    loadE 1 H5 t41 fun t42 =>
    loadE 7 H5 t3 fun t43 =>
    tellE (plenumref09_With_t m [(ro H5 t42), (ro H5 t43)]) [(ro H5 t42), (ro H5 t43)] fun t44 =>
    fieldE (some (0, 18)) t2 fun t45 =>
    idxPE 16 1 t45 t11 fun t46 =>
    storeE 1 H5 t46 t44 fun H6 =>
    fieldE (some (4, 1)) t3 fun t48 =>
    loadE 1 H6 t48 fun t49 =>
    fieldE (some (16, 18)) t2 fun t50 =>
    idxPE 16 1 t50 t11 fun t51 =>
    storeE 1 H6 t51 t49 fun H7 =>
    loadE 34 H7 t2 fun t52 =>
    storeE 34 H7 t4 t52 fun H8 =>
    loadE 34 H8 t4 fun t9000 =>
    tellK H8 (ro H8 (TU [noT t9000, noT (V (.int .i64 0))])))) := by
  refine (tellX Tryd.prog GG (plenumref10_Put_env m) m 53 plenumref10_Put_c plenumref10_Put_h ⟨[], argsT 0 [t0, t1]⟩ [.cell 4 26, .tmp 5]).trans ?_
  kernel_rfl
noncomputable def plenumref10_Put_t (m : Nat) : List AV → RO | [t0, t1] => plenumref10_Put m t0 t1 | _ => none
theorem plenumref10_Put_ok (m : Nat) : ∀ args X H', plenumref10_Put_t m args = some (X, H') → ACp Tryd.prog GG 16 args X := by
  intro args X H' h
  unfold plenumref10_Put_t at h
  split at h
  · exact tell_okK MIX (by
    intro f e h
    simp only [plenumref10_Put_env, Prod.mk.injEq, List.mem_cons, List.not_mem_nil, or_false] at h
    rcases h with ⟨rfl, rfl⟩ | ⟨rfl, rfl⟩ | ⟨rfl, rfl⟩
    · exact plenumref10_Bucket_ok m
    · exact plenumref10_Get_ok m
    · exact plenumref09_With_ok m) (f := 16) (c := plenumref10_Put_c) Tryd.func16 rfl (by kernel_rfl) _ rfl Tryd.ntmps16 (Nat.le_of_ble_eq_true rfl) plenumref10_Put_h h
  · cases h
noncomputable def plenumref10_Delete_c : Code := (Tryd.f17.body).getD .skip
def plenumref10_Delete_h : Hint := (.two .n (.two (.two .n (.two .n (.two (.two .n .n) .n))) (.two .n (.two (.two .n (.two (.two .n .n) .n)) (.two .n (.two .n (.two .n .n)))))))
noncomputable def plenumref10_Delete_env (m : Nat) : Env := [(29, .tell (plenumref10_Get_t m)), (41, .tell (plenumref10_Bucket_t m)), (43, .tell (plenumref09_Without_t m))]
noncomputable abbrev plenumref10_Delete_fin : KO (AV × List AObj) := tellFK Tryd.prog [.cell 6 26, .tmp 7]
noncomputable def plenumref10_Delete (m : Nat) (t0 t1 t2 : AV) : RO := exec Tryd.prog GG (plenumref10_Delete_env m) m 43 plenumref10_Delete_c plenumref10_Delete_h ⟨[], argsT 0 [t0, t1, t2]⟩ (plenumref10_Delete_fin)
theorem plenumref10_Delete_eq (m : Nat) (t0 t1 t2 : AV) : plenumref10_Delete m t0 t1 t2 =
  boxE ty_api_Trunk [] t0 fun t3 H1 =>
  allocE (some zc_api_Trunk) ty_api_Trunk H1 fun t6 H2 =>
  loadE 34 H2 t3 fun t12 =>
  tellE (plenumref10_Get m (ro H2 t12) (ro H2 t1)) [(ro H2 t12), (ro H2 t1)] fun t14 =>
  extE t14 0 fun t15 =>
  extE t14 1 fun t16 =>
  allocE (some zc_api_Item) ty_api_Item H2 fun t8 H3 =>
  storeE 7 H3 t8 t15 fun H4 =>
  unE .not t16 fun t18 =>
  condE t18 (
   buildE (some pl_api_Trunk) (some zc_api_Trunk) [] fun t19 =>
   storeE 34 H4 t6 t19 fun H5 =>
   loadE 34 H5 t6 fun t9000 =>
   tellK H5 (ro H5 (TU [noT t9000, noT (V (.int .i64 6))]))) (
   tellE (plenumref10_Bucket m (ro H4 t1)) [(ro H4 t1)] fun t21 =>
   fieldE (some (16, 18)) t3 fun t24 =>
   idxPE 16 1 t24 t21 fun t25 =>
   loadE 1 H4 t25 fun t26 =>
   binE none false .lss t2 t26 fun t27 =>
   condE t27 (
    buildE (some pl_api_Trunk) (some zc_api_Trunk) [] fun t28 =>
    storeE 34 H4 t6 t28 fun H5 =>
    loadE 34 H5 t6 fun t9000 =>
    tellK H5 (ro H5 (TU [noT t9000, noT (V (.int .i64 18))]))) (
    fieldE (some (0, 18)) t3 fun t31 =>
    idxPE 16 1 t31 t21 fun t32 =>
    loadE 1 H4 t32 fun t33 =>
    tellE (plenumref09_Without_t m [(ro H4 t33), (ro H4 t1)]) [(ro H4 t33), (ro H4 t1)] fun t35 =>
    fieldE (some (0, 18)) t3 fun t36 =>
    idxPE 16 1 t36 t21 fun t37 =>
    storeE 1 H4 t37 t35 fun H5 =>
    fieldE (some (16, 18)) t3 fun t40 =>
    idxPE 16 1 t40 t21 fun t41 =>
    storeE 1 H5 t41 t2 fun H6 =>
    loadE 34 H6 t3 fun t42 =>
    storeE 34 H6 t6 t42 fun H7 =>
    loadE 34 H7 t6 fun t9000 =>
    tellK H7 (ro H7 (TU [noT t9000, noT (V (.int .i64 0))])))) := by
  refine (tellX Tryd.prog GG (plenumref10_Delete_env m) m 43 plenumref10_Delete_c plenumref10_Delete_h ⟨[], argsT 0 [t0, t1, t2]⟩ [.cell 6 26, .tmp 7]).trans ?_
  kernel_rfl
noncomputable def plenumref10_Delete_t (m : Nat) : List AV → RO | [t0, t1, t2] => plenumref10_Delete m t0 t1 t2 | _ => none
theorem plenumref10_Delete_ok (m : Nat) : ∀ args X H', plenumref10_Delete_t m args = some (X, H') → ACp Tryd.prog GG 17 args X := by
  intro args X H' h
  unfold plenumref10_Delete_t at h
  split at h
  · exact tell_okK MIX (by
    intro f e h
    simp only [plenumref10_Delete_env, Prod.mk.injEq, List.mem_cons, List.not_mem_nil, or_false] at h
    rcases h with ⟨rfl, rfl⟩ | ⟨rfl, rfl⟩ | ⟨rfl, rfl⟩
    · exact plenumref10_Get_ok m
    · exact plenumref10_Bucket_ok m
    · exact plenumref09_Without_ok m) (f := 17) (c := plenumref10_Delete_c) Tryd.func17 rfl (by kernel_rfl) _ rfl Tryd.ntmps17 (Nat.le_of_ble_eq_true rfl) plenumref10_Delete_h h
  · cases h
noncomputable def plenumref10_All_c : Code := (Tryd.f27.body).getD .skip
def plenumref10_All_h : Hint := (.two .n (.two .n (.join [3] (.two .n (.one (.lp [(3, ty_api_Item, 5)] [1, 3, 4] [3] (.two (.two .n (.two .n .n)) (.two (.one .n) .n))))) (.two .n .n))))
noncomputable def plenumref10_All_env (m : Nat) : Env := []
noncomputable abbrev plenumref10_All_fin : KO (AV × List AObj) := tellFK Tryd.prog [.tmp 2]
noncomputable def plenumref10_All_r1 (m : Nat) (s : ASt) : RO := joinW Tryd.prog GG (plenumref10_All_env m) m 16 (cdR (cdR (cdR plenumref10_All_c))) plenumref10_All_h.r.r.r s (plenumref10_All_fin)
noncomputable def plenumref10_All_b1 (m : Nat) (s : ASt) (kc : ASt → RO) (kx : KO (AV × List AObj)) : RO := bodyW Tryd.prog GG (plenumref10_All_env m) m 16 (cdL (cdL (cdR (cdL (cdR (cdR plenumref10_All_c)))))) plenumref10_All_h.r.r.l.r.c.c [1, 3, 4] [3] s kc kx
noncomputable def plenumref10_All (m : Nat) (t0 : AV) : RO := exec Tryd.prog GG (plenumref10_All_env m) m 16 plenumref10_All_c plenumref10_All_h ⟨[], argsT 0 [t0]⟩ (plenumref10_All_fin)
theorem plenumref10_All_r1_eq (m : Nat) (H : List AObj) (t3 : AV) : plenumref10_All_r1 m ⟨H, [(3, t3)]⟩ =
  tellK H (ro H t3) := by
  refine (joinW_eq Tryd.prog GG (plenumref10_All_env m) m 16 (cdR (cdR (cdR plenumref10_All_c))) plenumref10_All_h.r.r.r ⟨H, [(3, t3)]⟩ (plenumref10_All_fin)).trans ?_
  kernel_rfl
theorem plenumref10_All_b1_eq (m : Nat) (H : List AObj) (t1 t3 t4 : AV) (kc : ASt → RO) (kx : KO (AV × List AObj)) : plenumref10_All_b1 m ⟨H, [(1, t1), (3, t3), (4, t4)]⟩ kc kx =
  binE none false .lss t4 (V (.int .i64 16)) fun t6 =>
  condE t6 (
   fieldE (some (0, 18)) t1 fun t11 =>
   idxPE 16 1 t11 t4 fun t12 =>
   loadE 1 H t12 fun t13 =>
   appE (some (ty_api_Item, 5)) H t3 t13 fun t14 H2 =>
   binE none false .add t4 (V (.int .i64 1)) fun t8 =>
   backE H.length H2 [(1, t1), (3, t14), (4, t8)] kc) (
   kx (.exit 0) ⟨H, [(3, t3)]⟩) := by
  refine (bodyW_eq Tryd.prog GG (plenumref10_All_env m) m 16 (cdL (cdL (cdR (cdL (cdR (cdR plenumref10_All_c)))))) plenumref10_All_h.r.r.l.r.c.c [1, 3, 4] [3] ⟨H, [(1, t1), (3, t3), (4, t4)]⟩ kc kx).trans ?_
  kernel_rfl
theorem plenumref10_All_eq (m : Nat) (t0 : AV) : plenumref10_All m t0 =
  boxE ty_api_Trunk [] t0 fun t1 H1 =>
  rowE (V (.slice none 0 0)) ty_api_Item 5 H1 fun t3 H2 =>
  iterC m (plenumref10_All_b1 m) ⟨H2, [(1, t1), (3, t3), (4, (V (.int .i64 0)))]⟩ (blockK 0 (seqK (fun s => plenumref10_All_r1 m ⟨s.H, [(3, gt s.T 3)]⟩) (plenumref10_All_fin))) := by
  refine (tellX Tryd.prog GG (plenumref10_All_env m) m 16 plenumref10_All_c plenumref10_All_h ⟨[], argsT 0 [t0]⟩ [.tmp 2]).trans ?_
  kernel_rfl
noncomputable def plenumref10_All_t (m : Nat) : List AV → RO | [t0] => plenumref10_All m t0 | _ => none
theorem plenumref10_All_ok (m : Nat) : ∀ args X H', plenumref10_All_t m args = some (X, H') → ACp Tryd.prog GG 27 args X := by
  intro args X H' h
  unfold plenumref10_All_t at h
  split at h
  · exact tell_okK MIX (by intro f e h; cases h) (f := 27) (c := plenumref10_All_c) Tryd.func27 rfl (by kernel_rfl) _ rfl Tryd.ntmps27 (Nat.le_of_ble_eq_true rfl) plenumref10_All_h h
  · cases h
noncomputable def plenumref10_Same_c : Code := (Tryd.f11.body).getD .skip
def plenumref10_Same_h : Hint := (.two .n (.join [] (.two .n (.one (.lp [] [2, 3, 5] [4] (.two (.two .n (.two .n .n)) (.two (.one (.two .n (.two (.two .n .n) .n))) .n))))) (.two .n .n)))
noncomputable def plenumref10_Same_env (m : Nat) : Env := [(37, .tell (plenumref09_Same_t m))]
noncomputable abbrev plenumref10_Same_fin : KO (AV × List AObj) := tellFK Tryd.prog [.tmp 4]
noncomputable def plenumref10_Same_r1 (m : Nat) (s : ASt) : RO := joinW Tryd.prog GG (plenumref10_Same_env m) m 31 (cdR (cdR plenumref10_Same_c)) plenumref10_Same_h.r.r s (plenumref10_Same_fin)
noncomputable def plenumref10_Same_b1 (m : Nat) (s : ASt) (kc : ASt → RO) (kx : KO (AV × List AObj)) : RO := bodyW Tryd.prog GG (plenumref10_Same_env m) m 31 (cdL (cdL (cdR (cdL (cdR plenumref10_Same_c))))) plenumref10_Same_h.r.l.r.c.c [2, 3, 5] [4] s kc kx
noncomputable def plenumref10_Same (m : Nat) (t0 t1 : AV) : RO := exec Tryd.prog GG (plenumref10_Same_env m) m 31 plenumref10_Same_c plenumref10_Same_h ⟨[], argsT 0 [t0, t1]⟩ (plenumref10_Same_fin)
theorem plenumref10_Same_r1_eq (m : Nat) (H : List AObj) : plenumref10_Same_r1 m ⟨H, []⟩ =
  tellK H (ro H (V (.bool true))) := by
  refine (joinW_eq Tryd.prog GG (plenumref10_Same_env m) m 31 (cdR (cdR plenumref10_Same_c)) plenumref10_Same_h.r.r ⟨H, []⟩ (plenumref10_Same_fin)).trans ?_
  kernel_rfl
theorem plenumref10_Same_b1_eq (m : Nat) (H : List AObj) (t2 t3 t5 : AV) (kc : ASt → RO) (kx : KO (AV × List AObj)) : plenumref10_Same_b1 m ⟨H, [(2, t2), (3, t3), (5, t5)]⟩ kc kx =
  binE none false .lss t5 (V (.int .i64 16)) fun t7 =>
  condE t7 (
   fieldE (some (16, 18)) t2 fun t11 =>
   idxPE 16 1 t11 t5 fun t12 =>
   loadE 1 H t12 fun t13 =>
   fieldE (some (16, 18)) t3 fun t15 =>
   idxPE 16 1 t15 t5 fun t16 =>
   loadE 1 H t16 fun t17 =>
   binE none false .neq t13 t17 fun t18 =>
   condE t18 (
    kx .ret ⟨H, [(4, (V (.bool false)))]⟩) (
    fieldE (some (0, 18)) t2 fun t21 =>
    idxPE 16 1 t21 t5 fun t22 =>
    loadE 1 H t22 fun t23 =>
    fieldE (some (0, 18)) t3 fun t25 =>
    idxPE 16 1 t25 t5 fun t26 =>
    loadE 1 H t26 fun t27 =>
    tellE (plenumref09_Same_t m [(ro H t23), (ro H t27)]) [(ro H t23), (ro H t27)] fun t28 =>
    unE .not t28 fun t29 =>
    condE t29 (
    kx .ret ⟨H, [(4, (V (.bool false)))]⟩) (
    binE none false .add t5 (V (.int .i64 1)) fun t9 =>
    backE H.length H [(2, t2), (3, t3), (5, t9)] kc))) (
   kx (.exit 0) ⟨H, [(4, .nil)]⟩) := by
  refine (bodyW_eq Tryd.prog GG (plenumref10_Same_env m) m 31 (cdL (cdL (cdR (cdL (cdR plenumref10_Same_c))))) plenumref10_Same_h.r.l.r.c.c [2, 3, 5] [4] ⟨H, [(2, t2), (3, t3), (5, t5)]⟩ kc kx).trans ?_
  kernel_rfl
theorem plenumref10_Same_eq (m : Nat) (t0 t1 : AV) : plenumref10_Same m t0 t1 =
  boxE ty_api_Trunk [] t0 fun t2 H1 =>
  boxE ty_api_Trunk H1 t1 fun t3 H2 =>
  iterC m (plenumref10_Same_b1 m) ⟨H2, [(2, t2), (3, t3), (5, (V (.int .i64 0)))]⟩ (blockK 0 (seqK (fun s => plenumref10_Same_r1 m ⟨s.H, []⟩) (plenumref10_Same_fin))) := by
  refine (tellX Tryd.prog GG (plenumref10_Same_env m) m 31 plenumref10_Same_c plenumref10_Same_h ⟨[], argsT 0 [t0, t1]⟩ [.tmp 4]).trans ?_
  kernel_rfl
noncomputable def plenumref10_Same_t (m : Nat) : List AV → RO | [t0, t1] => plenumref10_Same m t0 t1 | _ => none
theorem plenumref10_Same_ok (m : Nat) : ∀ args X H', plenumref10_Same_t m args = some (X, H') → ACp Tryd.prog GG 11 args X := by
  intro args X H' h
  unfold plenumref10_Same_t at h
  split at h
  · exact tell_okK MIX (by
    intro f e h
    simp only [plenumref10_Same_env, Prod.mk.injEq, List.mem_cons, List.not_mem_nil, or_false] at h
    obtain ⟨rfl, rfl⟩ := h
    · exact plenumref09_Same_ok m) (f := 11) (c := plenumref10_Same_c) Tryd.func11 rfl (by kernel_rfl) _ rfl Tryd.ntmps11 (Nat.le_of_ble_eq_true rfl) plenumref10_Same_h h
  · cases h
noncomputable def plenumref07_Int_c : Code := (Tryd.f38.body).getD .skip
def plenumref07_Int_h : Hint := (.two .n (.two .n .n))
noncomputable def plenumref07_Int_env (m : Nat) : Env := []
noncomputable abbrev plenumref07_Int_fin : KO (AV × List AObj) := tellFK Tryd.prog [.cell 2 28]
noncomputable def plenumref07_Int (m : Nat) (t0 : AV) : RO := exec Tryd.prog GG (plenumref07_Int_env m) m 5 plenumref07_Int_c plenumref07_Int_h ⟨[], argsT 0 [t0]⟩ (plenumref07_Int_fin)
theorem plenumref07_Int_eq (m : Nat) (t0 : AV) : plenumref07_Int m t0 =
  allocE (some zc_api_Value) ty_api_Value [] fun t2 H1 =>
  buildE (some pl_api_Value) (some zc_api_Value) [(0, (V (.int .i64 2))), (1, t0)] fun t4 =>
  storeE 5 H1 t2 t4 fun H2 =>
  loadE 5 H2 t2 fun t9000 =>
  tellK H2 (ro H2 t9000) := by
  refine (tellX Tryd.prog GG (plenumref07_Int_env m) m 5 plenumref07_Int_c plenumref07_Int_h ⟨[], argsT 0 [t0]⟩ [.cell 2 28]).trans ?_
  kernel_rfl
noncomputable def plenumref07_Int_t (m : Nat) : List AV → RO | [t0] => plenumref07_Int m t0 | _ => none
theorem plenumref07_Int_ok (m : Nat) : ∀ args X H', plenumref07_Int_t m args = some (X, H') → ACp Tryd.prog GG 38 args X := by
  intro args X H' h
  unfold plenumref07_Int_t at h
  split at h
  · exact tell_okK MIX (by intro f e h; cases h) (f := 38) (c := plenumref07_Int_c) Tryd.func38 rfl (by kernel_rfl) _ rfl Tryd.ntmps38 (Nat.le_of_ble_eq_true rfl) plenumref07_Int_h h
  · cases h
noncomputable def plenumlaw10_none_c : Code := (Tryd.f13.body).getD .skip
def plenumlaw10_none_h : Hint := (.two .n (.two .n .n))
noncomputable def plenumlaw10_none_env (m : Nat) : Env := [(11, .tell (plenumref10_Same_t m))]
noncomputable abbrev plenumlaw10_none_fin : KO (AV × List AObj) := tellFK Tryd.prog [.tmp 2]
noncomputable def plenumlaw10_none (m : Nat) (t0 : AV) : RO := exec Tryd.prog GG (plenumlaw10_none_env m) m 6 plenumlaw10_none_c plenumlaw10_none_h ⟨[], argsT 0 [t0]⟩ (plenumlaw10_none_fin)
theorem plenumlaw10_none_eq (m : Nat) (t0 : AV) : plenumlaw10_none m t0 =
  boxE ty_api_Trunk [] t0 fun t1 H1 =>
  loadE 34 H1 t1 fun t3 =>
  buildE (some pl_api_Trunk) (some zc_api_Trunk) [] fun t4 =>
  tellE (plenumref10_Same m (ro H1 t3) (ro H1 t4)) [(ro H1 t3), (ro H1 t4)] fun t5 =>
  tellK H1 (ro H1 t5) := by
  refine (tellX Tryd.prog GG (plenumlaw10_none_env m) m 6 plenumlaw10_none_c plenumlaw10_none_h ⟨[], argsT 0 [t0]⟩ [.tmp 2]).trans ?_
  kernel_rfl
noncomputable def plenumlaw10_none_t (m : Nat) : List AV → RO | [t0] => plenumlaw10_none m t0 | _ => none
theorem plenumlaw10_none_ok (m : Nat) : ∀ args X H', plenumlaw10_none_t m args = some (X, H') → ACp Tryd.prog GG 13 args X := by
  intro args X H' h
  unfold plenumlaw10_none_t at h
  split at h
  · exact tell_okK MIX (by
    intro f e h
    simp only [plenumlaw10_none_env, Prod.mk.injEq, List.mem_cons, List.not_mem_nil, or_false] at h
    obtain ⟨rfl, rfl⟩ := h
    · exact plenumref10_Same_ok m) (f := 13) (c := plenumlaw10_none_c) Tryd.func13 rfl (by kernel_rfl) _ rfl Tryd.ntmps13 (Nat.le_of_ble_eq_true rfl) plenumlaw10_none_h h
  · cases h
noncomputable def plenumlaw10_awake_c : Code := (Tryd.f14.body).getD .skip
def plenumlaw10_awake_h : Hint := (.two .n (.two .n (.two .n (.two .n (.two .n (.two .n .n))))))
noncomputable def plenumlaw10_awake_env (m : Nat) : Env := [(38, .tell (plenumref07_Int_t m)), (9, .tell (trunk_Put_t m)), (22, .tell (trunk_Unlike_t m)), (10, .tell (trunk_Delete_t m)), (25, .tell (trunk_Count_t m))]
noncomputable abbrev plenumlaw10_awake_fin : KO (AV × List AObj) := tellFK Tryd.prog [.tmp 0]
noncomputable def plenumlaw10_awake (m : Nat) : RO := exec Tryd.prog GG (plenumlaw10_awake_env m) m 83 plenumlaw10_awake_c plenumlaw10_awake_h ⟨[], argsT 0 []⟩ (plenumlaw10_awake_fin)
theorem plenumlaw10_awake_eq (m : Nat) : plenumlaw10_awake m =
  buildE (some pl_api_Trunk) (some zc_api_Trunk) [] fun t10 =>
  tellE (plenumref07_Int m (V (.int .i64 1))) [(V (.int .i64 1))] fun t11 =>
  buildE (some pl_api_Item) (some zc_api_Item) [(0, (V (.string ⟨#[97]⟩))), (1, t11), (2, (V (.int .i64 5)))] fun t12 =>
  tellE (trunk_Put_t m [(ro [] t10), (ro [] t12)]) [(ro [] t10), (ro [] t12)] fun t13 =>
  extE t13 0 fun t14 =>
  extE t13 1 fun t15 =>
  allocE (some zc_api_Trunk) ty_api_Trunk [] fun t1 H1 =>
  storeE 34 H1 t1 t14 fun H2 =>
  loadE 34 H2 t1 fun t17 =>
  tellE (plenumref07_Int m (V (.int .i64 2))) [(V (.int .i64 2))] fun t18 =>
  buildE (some pl_api_Item) (some zc_api_Item) [(0, (V (.string ⟨#[113]⟩))), (1, t18), (2, (V (.int .i64 4)))] fun t19 =>
  tellE (trunk_Put_t m [(ro H2 t17), (ro H2 t19)]) [(ro H2 t17), (ro H2 t19)] fun t20 =>
  extE t20 0 fun t21 =>
  extE t20 1 fun t22 =>
  allocE (some zc_api_Trunk) ty_api_Trunk H2 fun t3 H3 =>
  storeE 34 H3 t3 t21 fun H4 =>
  loadE 34 H4 t1 fun t24 =>
  buildE (some pl_api_Trunk) (some zc_api_Trunk) [] fun t25 =>
  tellE (trunk_Unlike_t m [(ro H4 t24), (ro H4 t25)]) [(ro H4 t24), (ro H4 t25)] fun t26 =>
  extE t26 0 fun t27 =>
  extE t26 1 fun t28 =>
  loadE 34 H4 t1 fun t30 =>
  tellE (trunk_Delete_t m [(ro H4 t30), (V (.string ⟨#[97]⟩)), (V (.int .i64 9))]) [(ro H4 t30), (V (.string ⟨#[97]⟩)), (V (.int .i64 9))] fun t31 =>
  extE t31 0 fun t32 =>
  extE t31 1 fun t33 =>
  allocE (some zc_api_Trunk) ty_api_Trunk H4 fun t7 H5 =>
  storeE 34 H5 t7 t32 fun H6 =>
  binE none false .eql t15 (V (.int .i64 0)) fun t35 =>
  condE t35 (
   fieldE (some (16, 18)) t1 fun t37 =>
   idxPE 16 1 t37 (V (.int .i64 1)) fun t38 =>
   loadE 1 H6 t38 fun t39 =>
   binE none false .eql t39 (V (.int .i64 5)) fun t40 =>
   condE t40 (
   binE none false .eql t22 (V (.int .i64 18)) fun t44 =>
   condE t44 (
   lenE false true H6 t27 fun t48 =>
   binE none false .eql t48 (V (.int .i64 1)) fun t49 =>
   condE t49 (
   idxSE 1 H6 t27 (V (.int .i64 0)) fun t53 =>
   loadE 1 H6 t53 fun t54 =>
   binE none false .eql t54 (V (.int .i64 1)) fun t55 =>
   condE t55 (
   binE none false .eql t28 (V (.int .i64 0)) fun t59 =>
   condE t59 (
   binE none false .eql t33 (V (.int .i64 0)) fun t63 =>
   condE t63 (
   loadE 34 H6 t7 fun t66 =>
   tellE (trunk_Count_t m [(ro H6 t66)]) [(ro H6 t66)] fun t67 =>
   binE none false .eql t67 (V (.int .i64 0)) fun t68 =>
   condE t68 (
   fieldE (some (16, 18)) t7 fun t71 =>
   idxPE 16 1 t71 (V (.int .i64 1)) fun t72 =>
   loadE 1 H6 t72 fun t73 =>
   binE none false .eql t73 (V (.int .i64 9)) fun t74 =>
   condE t74 (
   loadE 34 H6 t1 fun t77 =>
   tellE (trunk_Count_t m [(ro H6 t77)]) [(ro H6 t77)] fun t78 =>
   binE none false .eql t78 (V (.int .i64 1)) fun t79 =>
   pickE t79 (V (.bool true)) (V (.bool false)) fun t82 =>
  tellK H6 (ro H6 t82)) (
   tellK H6 (ro H6 (V (.bool false))))) (
   tellK H6 (ro H6 (V (.bool false))))) (
   tellK H6 (ro H6 (V (.bool false))))) (
   tellK H6 (ro H6 (V (.bool false))))) (
   tellK H6 (ro H6 (V (.bool false))))) (
   tellK H6 (ro H6 (V (.bool false))))) (
   tellK H6 (ro H6 (V (.bool false))))) (
   tellK H6 (ro H6 (V (.bool false))))) (
   tellK H6 (ro H6 (V (.bool false)))) := by
  refine (tellX Tryd.prog GG (plenumlaw10_awake_env m) m 83 plenumlaw10_awake_c plenumlaw10_awake_h ⟨[], argsT 0 []⟩ [.tmp 0]).trans ?_
  kernel_rfl
noncomputable def plenumlaw10_awake_t (m : Nat) : List AV → RO | [] => plenumlaw10_awake m | _ => none
theorem plenumlaw10_awake_ok (m : Nat) : ∀ args X H', plenumlaw10_awake_t m args = some (X, H') → ACp Tryd.prog GG 14 args X := by
  intro args X H' h
  unfold plenumlaw10_awake_t at h
  split at h
  · exact tell_okK MIX (by
    intro f e h
    simp only [plenumlaw10_awake_env, Prod.mk.injEq, List.mem_cons, List.not_mem_nil, or_false] at h
    rcases h with ⟨rfl, rfl⟩ | ⟨rfl, rfl⟩ | ⟨rfl, rfl⟩ | ⟨rfl, rfl⟩ | ⟨rfl, rfl⟩
    · exact plenumref07_Int_ok m
    · exact trunk_Put_ok m
    · exact trunk_Unlike_ok m
    · exact trunk_Delete_ok m
    · exact trunk_Count_ok m) (f := 14) (c := plenumlaw10_awake_c) Tryd.func14 rfl (by kernel_rfl) _ rfl Tryd.ntmps14 (Nat.le_of_ble_eq_true rfl) plenumlaw10_awake_h h
  · cases h
noncomputable def plenumlaw10_TrunkTells_c : Code := (Tryd.f6.body).getD .skip
def plenumlaw10_TrunkTells_h : Hint := (.two .n (.two .n (.two .n (.two (.two .n (.two (.two .n .n) .n)) (.two (.two .n (.two (.two .n .n) .n)) (.two .n (.two .n (.join [1, 2, 5, 6, 7, 8] (.two .n (.one (.lp [] [1, 2, 5, 6, 7, 8, 9] [1, 2, 5, 6, 7, 8] (.two (.two .n (.two .n .n)) (.two (.one .n) .n))))) (.two .n (.two .n .n))))))))))
noncomputable def plenumlaw10_TrunkTells_env (m : Nat) : Env := [(7, .tell (plenumlaw10_Few_t m)), (18, .tell (plenumlaw10_short_t m)), (21, .tell (trunk_Get_t m)), (20, .tell (trunk_May_t m)), (12, .tell (plenumref10_May_t m)), (25, .tell (trunk_Count_t m)), (26, .tell (trunk_Weight_t m)), (14, .tell (plenumlaw10_awake_t m)), (27, .tell (plenumref10_All_t m)), (28, .tell (plenumref07_Encode_t m)), (29, .tell (plenumref10_Get_t m))]
noncomputable abbrev plenumlaw10_TrunkTells_fin : KO (AV × List AObj) := tellFK Tryd.prog [.tmp 4]
noncomputable def plenumlaw10_TrunkTells_r1 (m : Nat) (s : ASt) : RO := joinW Tryd.prog GG (plenumlaw10_TrunkTells_env m) m 104 (cdR (cdR (cdR (cdR (cdR (cdR (cdR (cdR plenumlaw10_TrunkTells_c)))))))) plenumlaw10_TrunkTells_h.r.r.r.r.r.r.r.r s (plenumlaw10_TrunkTells_fin)
noncomputable def plenumlaw10_TrunkTells_b1 (m : Nat) (s : ASt) (kc : ASt → RO) (kx : KO (AV × List AObj)) : RO := bodyW Tryd.prog GG (plenumlaw10_TrunkTells_env m) m 104 (cdL (cdL (cdR (cdL (cdR (cdR (cdR (cdR (cdR (cdR (cdR plenumlaw10_TrunkTells_c))))))))))) plenumlaw10_TrunkTells_h.r.r.r.r.r.r.r.l.r.c.c [1, 2, 5, 6, 7, 8, 9] [1, 2, 5, 6, 7, 8] s kc kx
noncomputable def plenumlaw10_TrunkTells (m : Nat) (t0 t1 : AV) : RO := exec Tryd.prog GG (plenumlaw10_TrunkTells_env m) m 104 plenumlaw10_TrunkTells_c plenumlaw10_TrunkTells_h ⟨[], argsT 0 [t0, t1]⟩ (plenumlaw10_TrunkTells_fin)
theorem plenumlaw10_TrunkTells_r1_eq (m : Nat) (H : List AObj) (t1 t2 t5 t6 t7 t8 : AV) : plenumlaw10_TrunkTells_r1 m ⟨H, [(1, t1), (2, t2), (5, t5), (6, t6), (7, t7), (8, t8)]⟩ =
  loadE 34 H t2 fun t75 =>
  tellE (plenumref10_Get m (ro H t75) (ro H t1)) [(ro H t75), (ro H t1)] fun t77 =>
  extE t77 0 fun t78 =>
  extE t77 1 fun t79 =>
  allocE (some zc_api_Item) ty_api_Item H fun t10 H2 =>
  storeE 7 H2 t10 t78 fun H3 =>
  loadE 7 H3 t5 fun t80 =>
  loadE 7 H3 t10 fun t81 =>
  binE (some [.s, .i .i64, .i .i64, .s, .i .i64]) false .eql t80 t81 fun t82 =>
  condE t82 (
   binE none true .eql t6 t79 fun t86 =>
   condE t86 (
   loadE 34 H3 t2 fun t89 =>
   tellE (trunk_Count_t m [(ro H3 t89)]) [(ro H3 t89)] fun t90 =>
   lenE false true H3 t7 fun t92 =>
   binE none false .eql t90 t92 fun t93 =>
   condE t93 (
   loadE 34 H3 t2 fun t96 =>
   tellE (trunk_Weight_t m [(ro H3 t96)]) [(ro H3 t96)] fun t97 =>
   binE none false .eql t97 t8 fun t99 =>
   condE t99 (
   tellE (plenumlaw10_awake m) [] fun t102 =>
   tellK H3 (ro H3 t102)) (
   tellK H3 (ro H3 (V (.bool false))))) (
   tellK H3 (ro H3 (V (.bool false))))) (
   tellK H3 (ro H3 (V (.bool false))))) (
   tellK H3 (ro H3 (V (.bool false)))) := by
  refine (joinW_eq Tryd.prog GG (plenumlaw10_TrunkTells_env m) m 104 (cdR (cdR (cdR (cdR (cdR (cdR (cdR (cdR plenumlaw10_TrunkTells_c)))))))) plenumlaw10_TrunkTells_h.r.r.r.r.r.r.r.r ⟨H, [(1, t1), (2, t2), (5, t5), (6, t6), (7, t7), (8, t8)]⟩ (plenumlaw10_TrunkTells_fin)).trans ?_
  kernel_rfl
theorem plenumlaw10_TrunkTells_b1_eq (m : Nat) (H : List AObj) (t1 t2 t5 t6 t7 t8 t9 : AV) (kc : ASt → RO) (kx : KO (AV × List AObj)) : plenumlaw10_TrunkTells_b1 m ⟨H, [(1, t1), (2, t2), (5, t5), (6, t6), (7, t7), (8, t8), (9, t9)]⟩ kc kx =
  lenE false true H t7 fun t54 =>
  binE none false .lss t9 t54 fun t55 =>
  condE t55 (
   idxSE 7 H t7 t9 fun t61 =>
   fieldE (some (0, 1)) t61 fun t62 =>
   loadE 1 H t62 fun t63 =>
   lenE true false H t63 fun t64 =>
   idxSE 7 H t7 t9 fun t67 =>
   fieldE (some (1, 5)) t67 fun t68 =>
   loadE 5 H t68 fun t69 =>
   tellE (plenumref07_Encode_t m [(ro H t69)]) [(ro H t69)] fun t70 =>
   lenE true false H t70 fun t71 =>
   binE none false .add t64 t71 fun t72 =>
   binE none false .add t8 t72 fun t73 =>
   binE none false .add t9 (V (.int .i64 1)) fun t57 =>
   backE H.length H [(1, t1), (2, t2), (5, t5), (6, t6), (7, t7), (8, t73), (9, t57)] kc) (
   kx (.exit 0) ⟨H, [(1, t1), (2, t2), (5, t5), (6, t6), (7, t7), (8, t8)]⟩) := by
  refine (bodyW_eq Tryd.prog GG (plenumlaw10_TrunkTells_env m) m 104 (cdL (cdL (cdR (cdL (cdR (cdR (cdR (cdR (cdR (cdR (cdR plenumlaw10_TrunkTells_c))))))))))) plenumlaw10_TrunkTells_h.r.r.r.r.r.r.r.l.r.c.c [1, 2, 5, 6, 7, 8, 9] [1, 2, 5, 6, 7, 8] ⟨H, [(1, t1), (2, t2), (5, t5), (6, t6), (7, t7), (8, t8), (9, t9)]⟩ kc kx).trans ?_
  kernel_rfl
theorem plenumlaw10_TrunkTells_eq (m : Nat) (t0 t1 : AV) : plenumlaw10_TrunkTells m t0 t1 =
  boxE ty_api_Trunk [] t0 fun t2 H1 =>
  loadE 34 H1 t2 fun t12 =>
  tellE (plenumlaw10_Few_t m [(ro H1 t12)]) [(ro H1 t12)] fun t13 =>
  tellE (plenumlaw10_short_t m [(ro H1 t1)]) [(ro H1 t1)] fun t15 =>
  storeE 34 H1 t2 t13 fun H2 =>
  loadE 34 H2 t2 fun t17 =>
  tellE (trunk_Get_t m [(ro H2 t17), (ro H2 t15)]) [(ro H2 t17), (ro H2 t15)] fun t19 =>
  extE t19 0 fun t20 =>
  extE t19 1 fun t21 =>
  allocE (some zc_api_Item) ty_api_Item H2 fun t5 H3 =>
  storeE 7 H3 t5 t20 fun H4 =>
  loadE 34 H4 t2 fun t22 =>
  tellE (trunk_May_t m [(ro H4 t22)]) [(ro H4 t22)] fun t23 =>
  loadE 34 H4 t2 fun t24 =>
  tellE (plenumref10_May m (ro H4 t24)) [(ro H4 t24)] fun t25 =>
  binE none true .neq t23 t25 fun t26 =>
  condE t26 (
   tellK H4 (ro H4 (V (.bool false)))) (
   loadE 34 H4 t2 fun t27 =>
   tellE (plenumref10_May m (ro H4 t27)) [(ro H4 t27)] fun t28 =>
   unE .not t28 fun t29 =>
   condE t29 (
    loadE 7 H4 t5 fun t30 =>
    buildE (some pl_api_Item) (some zc_api_Item) [] fun t31 =>
    binE (some [.s, .i .i64, .i .i64, .s, .i .i64]) false .eql t30 t31 fun t32 =>
    condE t32 (
     unE .not t21 fun t35 =>
     condE t35 (
     loadE 34 H4 t2 fun t38 =>
     tellE (trunk_Count_t m [(ro H4 t38)]) [(ro H4 t38)] fun t39 =>
     binE none false .eql t39 (V (.int .i64 0)) fun t40 =>
     condE t40 (
     loadE 34 H4 t2 fun t43 =>
     tellE (trunk_Weight_t m [(ro H4 t43)]) [(ro H4 t43)] fun t44 =>
     binE none false .eql t44 (V (.int .i64 0)) fun t45 =>
     condE t45 (
     tellE (plenumlaw10_awake m) [] fun t48 =>
     tellK H4 (ro H4 t48)) (
     tellK H4 (ro H4 (V (.bool false))))) (
     tellK H4 (ro H4 (V (.bool false))))) (
     tellK H4 (ro H4 (V (.bool false))))) (
     tellK H4 (ro H4 (V (.bool false))))) (
    loadE 34 H4 t2 fun t50 =>
    tellE (plenumref10_All m (ro H4 t50)) [(ro H4 t50)] fun t51 =>
    iterC m (plenumlaw10_TrunkTells_b1 m) ⟨H4, [(1, t15), (2, t2), (5, t5), (6, t21), (7, t51), (8, (V (.int .i64 0))), (9, (V (.int .i64 0)))]⟩ (blockK 0 (seqK (fun s => plenumlaw10_TrunkTells_r1 m ⟨s.H, [(1, gt s.T 1), (2, gt s.T 2), (5, gt s.T 5), (6, gt s.T 6), (7, gt s.T 7), (8, gt s.T 8)]⟩) (plenumlaw10_TrunkTells_fin))))) := by
  refine (tellX Tryd.prog GG (plenumlaw10_TrunkTells_env m) m 104 plenumlaw10_TrunkTells_c plenumlaw10_TrunkTells_h ⟨[], argsT 0 [t0, t1]⟩ [.tmp 4]).trans ?_
  kernel_rfl
noncomputable def plenumlaw10_TrunkTells_t (m : Nat) : List AV → RO | [t0, t1] => plenumlaw10_TrunkTells m t0 t1 | _ => none
theorem plenumlaw10_TrunkTells_ok (m : Nat) : ∀ args X H', plenumlaw10_TrunkTells_t m args = some (X, H') → ACp Tryd.prog GG 6 args X := by
  intro args X H' h
  unfold plenumlaw10_TrunkTells_t at h
  split at h
  · exact tell_okK MIX (by
    intro f e h
    simp only [plenumlaw10_TrunkTells_env, Prod.mk.injEq, List.mem_cons, List.not_mem_nil, or_false] at h
    rcases h with ⟨rfl, rfl⟩ | ⟨rfl, rfl⟩ | ⟨rfl, rfl⟩ | ⟨rfl, rfl⟩ | ⟨rfl, rfl⟩ | ⟨rfl, rfl⟩ | ⟨rfl, rfl⟩ | ⟨rfl, rfl⟩ | ⟨rfl, rfl⟩ | ⟨rfl, rfl⟩ | ⟨rfl, rfl⟩
    · exact plenumlaw10_Few_ok m
    · exact plenumlaw10_short_ok m
    · exact trunk_Get_ok m
    · exact trunk_May_ok m
    · exact plenumref10_May_ok m
    · exact trunk_Count_ok m
    · exact trunk_Weight_ok m
    · exact plenumlaw10_awake_ok m
    · exact plenumref10_All_ok m
    · exact plenumref07_Encode_ok m
    · exact plenumref10_Get_ok m) (f := 6) (c := plenumlaw10_TrunkTells_c) Tryd.func6 rfl (by kernel_rfl) _ rfl Tryd.ntmps6 (Nat.le_of_ble_eq_true rfl) plenumlaw10_TrunkTells_h h
  · cases h
noncomputable def plenumlaw10_TrunkDoes_c : Code := (Tryd.f3.body).getD .skip
def plenumlaw10_TrunkDoes_h : Hint := (.two .n (.two .n (.two .n (.two .n (.two .n (.two (.two .n (.two (.two .n .n) .n)) (.two (.two .n (.two (.two .n .n) .n)) (.two .n (.join [2, 3, 4, 8, 9, 10, 11, 12, 13] (.two .n (.two .n .n)) (.two (.two .n (.two (.two .n .n) .n)) (.two .n (.join [10, 11, 12, 13] (.two .n (.two .n .n)) (.two .n .n)))))))))))))
noncomputable def plenumlaw10_TrunkDoes_env (m : Nat) : Env := [(7, .tell (plenumlaw10_Few_t m)), (8, .tell (plenumlaw10_One_t m)), (9, .tell (trunk_Put_t m)), (10, .tell (trunk_Delete_t m)), (11, .tell (plenumref10_Same_t m)), (12, .tell (plenumref10_May_t m)), (13, .tell (plenumlaw10_none_t m)), (14, .tell (plenumlaw10_awake_t m)), (15, .tell (plenumref09_May_t m)), (16, .tell (plenumref10_Put_t m)), (17, .tell (plenumref10_Delete_t m))]
noncomputable abbrev plenumlaw10_TrunkDoes_fin : KO (AV × List AObj) := tellFK Tryd.prog [.tmp 6]
noncomputable def plenumlaw10_TrunkDoes_r2 (m : Nat) (s : ASt) : RO := joinW Tryd.prog GG (plenumlaw10_TrunkDoes_env m) m 102 (cdR (cdR (cdR (cdR (cdR (cdR (cdR (cdR (cdR (cdR (cdR (cdR plenumlaw10_TrunkDoes_c)))))))))))) plenumlaw10_TrunkDoes_h.r.r.r.r.r.r.r.r.r.r.r.r s (plenumlaw10_TrunkDoes_fin)
noncomputable def plenumlaw10_TrunkDoes_r1 (m : Nat) (s : ASt) : RO := joinW Tryd.prog GG (plenumlaw10_TrunkDoes_env m) m 102 (cdR (cdR (cdR (cdR (cdR (cdR (cdR (cdR (cdR plenumlaw10_TrunkDoes_c))))))))) plenumlaw10_TrunkDoes_h.r.r.r.r.r.r.r.r.r s (plenumlaw10_TrunkDoes_fin)
noncomputable def plenumlaw10_TrunkDoes (m : Nat) (t0 t1 t2 : AV) : RO := exec Tryd.prog GG (plenumlaw10_TrunkDoes_env m) m 102 plenumlaw10_TrunkDoes_c plenumlaw10_TrunkDoes_h ⟨[], argsT 0 [t0, t1, t2]⟩ (plenumlaw10_TrunkDoes_fin)
theorem plenumlaw10_TrunkDoes_r2_eq (m : Nat) (H : List AObj) (t10 t11 t12 t13 : AV) : plenumlaw10_TrunkDoes_r2 m ⟨H, [(10, t10), (11, t11), (12, t12), (13, t13)]⟩ =
  loadE 34 H t10 fun t91 =>
  loadE 34 H t12 fun t92 =>
  tellE (plenumref10_Same m (ro H t91) (ro H t92)) [(ro H t91), (ro H t92)] fun t93 =>
  condE t93 (
   binE none false .eql t11 t13 fun t97 =>
   condE t97 (
   tellE (plenumlaw10_awake m) [] fun t100 =>
   tellK H (ro H t100)) (
   tellK H (ro H (V (.bool false))))) (
   tellK H (ro H (V (.bool false)))) := by
  refine (joinW_eq Tryd.prog GG (plenumlaw10_TrunkDoes_env m) m 102 (cdR (cdR (cdR (cdR (cdR (cdR (cdR (cdR (cdR (cdR (cdR (cdR plenumlaw10_TrunkDoes_c)))))))))))) plenumlaw10_TrunkDoes_h.r.r.r.r.r.r.r.r.r.r.r.r ⟨H, [(10, t10), (11, t11), (12, t12), (13, t13)]⟩ (plenumlaw10_TrunkDoes_fin)).trans ?_
  kernel_rfl
theorem plenumlaw10_TrunkDoes_r1_eq (m : Nat) (H : List AObj) (t2 t3 t4 t8 t9 t10 t11 t12 t13 : AV) : plenumlaw10_TrunkDoes_r1 m ⟨H, [(2, t2), (3, t3), (4, t4), (8, t8), (9, t9), (10, t10), (11, t11), (12, t12), (13, t13)]⟩ =
  loadE 34 H t8 fun t67 =>
  loadE 34 H t12 fun t68 =>
  tellE (plenumref10_Same m (ro H t67) (ro H t68)) [(ro H t67), (ro H t68)] fun t69 =>
  unE .not t69 fun t70 =>
  condE t70 (
   tellK H (ro H (V (.bool false)))) (
   binE none false .neq t9 t13 fun t74 =>
   condE t74 (
   tellK H (ro H (V (.bool false)))) (
   buildE (some pl_api_Trunk) (some zc_api_Trunk) [] fun t76 =>
   storeE 34 H t12 t76 fun H2 =>
   binE none false .geq t2 (V (.int .i64 0)) fun t78 =>
   condE t78 (
    binE none false .leq t2 (V (.int .i64 2147483647)) fun t81 =>
    condE t81 (
    loadE 34 H2 t3 fun t84 =>
    fieldE (some (0, 1)) t4 fun t85 =>
    loadE 1 H2 t85 fun t86 =>
    tellE (plenumref10_Delete m (ro H2 t84) (ro H2 t86) (ro H2 t2)) [(ro H2 t84), (ro H2 t86), (ro H2 t2)] fun t88 =>
    extE t88 0 fun t89 =>
    extE t88 1 fun t90 =>
    storeE 34 H2 t12 t89 fun H3 =>
    plenumlaw10_TrunkDoes_r2 m ⟨H3, [(10, t10), (11, t11), (12, t12), (13, t90)]⟩) (
    plenumlaw10_TrunkDoes_r2 m ⟨H2, [(10, t10), (11, t11), (12, t12), (13, (V (.int .i64 1)))]⟩)) (
    plenumlaw10_TrunkDoes_r2 m ⟨H2, [(10, t10), (11, t11), (12, t12), (13, (V (.int .i64 1)))]⟩))) := by
  refine (joinW_eq Tryd.prog GG (plenumlaw10_TrunkDoes_env m) m 102 (cdR (cdR (cdR (cdR (cdR (cdR (cdR (cdR (cdR plenumlaw10_TrunkDoes_c))))))))) plenumlaw10_TrunkDoes_h.r.r.r.r.r.r.r.r.r ⟨H, [(2, t2), (3, t3), (4, t4), (8, t8), (9, t9), (10, t10), (11, t11), (12, t12), (13, t13)]⟩ (plenumlaw10_TrunkDoes_fin)).trans ?_
  kernel_rfl
theorem plenumlaw10_TrunkDoes_eq (m : Nat) (t0 t1 t2 : AV) : plenumlaw10_TrunkDoes m t0 t1 t2 =
  boxE ty_api_Trunk [] t0 fun t3 H1 =>
  boxE ty_api_Item H1 t1 fun t4 H2 =>
  loadE 34 H2 t3 fun t14 =>
  tellE (plenumlaw10_Few_t m [(ro H2 t14)]) [(ro H2 t14)] fun t15 =>
  loadE 7 H2 t4 fun t16 =>
  tellE (plenumlaw10_One_t m [(ro H2 t16)]) [(ro H2 t16)] fun t17 =>
  storeE 34 H2 t3 t15 fun H3 =>
  storeE 7 H3 t4 t17 fun H4 =>
  loadE 34 H4 t3 fun t18 =>
  tellE (plenumlaw10_Few_t m [(ro H4 t18)]) [(ro H4 t18)] fun t19 =>
  allocE (some zc_api_Trunk) ty_api_Trunk H4 fun t7 H5 =>
  storeE 34 H5 t7 t19 fun H6 =>
  loadE 34 H6 t3 fun t21 =>
  loadE 7 H6 t4 fun t22 =>
  tellE (trunk_Put_t m [(ro H6 t21), (ro H6 t22)]) [(ro H6 t21), (ro H6 t22)] fun t23 =>
  extE t23 0 fun t24 =>
  extE t23 1 fun t25 =>
  allocE (some zc_api_Trunk) ty_api_Trunk H6 fun t8 H7 =>
  storeE 34 H7 t8 t24 fun H8 =>
  loadE 34 H8 t3 fun t27 =>
  fieldE (some (0, 1)) t4 fun t28 =>
  loadE 1 H8 t28 fun t29 =>
  tellE (trunk_Delete_t m [(ro H8 t27), (ro H8 t29), (ro H8 t2)]) [(ro H8 t27), (ro H8 t29), (ro H8 t2)] fun t31 =>
  extE t31 0 fun t32 =>
  extE t31 1 fun t33 =>
  allocE (some zc_api_Trunk) ty_api_Trunk H8 fun t10 H9 =>
  storeE 34 H9 t10 t32 fun H10 =>
  loadE 34 H10 t3 fun t34 =>
  loadE 34 H10 t7 fun t35 =>
  tellE (plenumref10_Same m (ro H10 t34) (ro H10 t35)) [(ro H10 t34), (ro H10 t35)] fun t36 =>
  unE .not t36 fun t37 =>
  condE t37 (
   tellK H10 (ro H10 (V (.bool false)))) (
   loadE 34 H10 t3 fun t38 =>
   tellE (plenumref10_May m (ro H10 t38)) [(ro H10 t38)] fun t39 =>
   unE .not t39 fun t40 =>
   condE t40 (
    loadE 34 H10 t8 fun t41 =>
    tellE (plenumlaw10_none m (ro H10 t41)) [(ro H10 t41)] fun t42 =>
    condE t42 (
     binE none false .eql t25 (V (.int .i64 1)) fun t45 =>
     condE t45 (
     loadE 34 H10 t10 fun t48 =>
     tellE (plenumlaw10_none m (ro H10 t48)) [(ro H10 t48)] fun t49 =>
     condE t49 (
     binE none false .eql t33 (V (.int .i64 1)) fun t53 =>
     condE t53 (
     tellE (plenumlaw10_awake m) [] fun t56 =>
     tellK H10 (ro H10 t56)) (
     tellK H10 (ro H10 (V (.bool false))))) (
     tellK H10 (ro H10 (V (.bool false))))) (
     tellK H10 (ro H10 (V (.bool false))))) (
     tellK H10 (ro H10 (V (.bool false))))) (
    buildE (some pl_api_Trunk) (some zc_api_Trunk) [] fun t58 =>
    allocE (some zc_api_Trunk) ty_api_Trunk H10 fun t12 H11 =>
    storeE 34 H11 t12 t58 fun H12 =>
    loadE 7 H12 t4 fun t59 =>
    tellE (plenumref09_May_t m [(ro H12 t59)]) [(ro H12 t59)] fun t60 =>
    condE t60 (
     loadE 34 H12 t3 fun t62 =>
     loadE 7 H12 t4 fun t63 =>
     tellE (plenumref10_Put m (ro H12 t62) (ro H12 t63)) [(ro H12 t62), (ro H12 t63)] fun t64 =>
     extE t64 0 fun t65 =>
     extE t64 1 fun t66 =>
     storeE 34 H12 t12 t65 fun H13 =>
     plenumlaw10_TrunkDoes_r1 m ⟨H13, [(2, t2), (3, t3), (4, t4), (8, t8), (9, t25), (10, t10), (11, t33), (12, t12), (13, t66)]⟩) (
     plenumlaw10_TrunkDoes_r1 m ⟨H12, [(2, t2), (3, t3), (4, t4), (8, t8), (9, t25), (10, t10), (11, t33), (12, t12), (13, (V (.int .i64 1)))]⟩))) := by
  refine (tellX Tryd.prog GG (plenumlaw10_TrunkDoes_env m) m 102 plenumlaw10_TrunkDoes_c plenumlaw10_TrunkDoes_h ⟨[], argsT 0 [t0, t1, t2]⟩ [.tmp 6]).trans ?_
  kernel_rfl
noncomputable def plenumlaw10_TrunkDoes_t (m : Nat) : List AV → RO | [t0, t1, t2] => plenumlaw10_TrunkDoes m t0 t1 t2 | _ => none
theorem plenumlaw10_TrunkDoes_ok (m : Nat) : ∀ args X H', plenumlaw10_TrunkDoes_t m args = some (X, H') → ACp Tryd.prog GG 3 args X := by
  intro args X H' h
  unfold plenumlaw10_TrunkDoes_t at h
  split at h
  · exact tell_okK MIX (by
    intro f e h
    simp only [plenumlaw10_TrunkDoes_env, Prod.mk.injEq, List.mem_cons, List.not_mem_nil, or_false] at h
    rcases h with ⟨rfl, rfl⟩ | ⟨rfl, rfl⟩ | ⟨rfl, rfl⟩ | ⟨rfl, rfl⟩ | ⟨rfl, rfl⟩ | ⟨rfl, rfl⟩ | ⟨rfl, rfl⟩ | ⟨rfl, rfl⟩ | ⟨rfl, rfl⟩ | ⟨rfl, rfl⟩ | ⟨rfl, rfl⟩
    · exact plenumlaw10_Few_ok m
    · exact plenumlaw10_One_ok m
    · exact trunk_Put_ok m
    · exact trunk_Delete_ok m
    · exact plenumref10_Same_ok m
    · exact plenumref10_May_ok m
    · exact plenumlaw10_none_ok m
    · exact plenumlaw10_awake_ok m
    · exact plenumref09_May_ok m
    · exact plenumref10_Put_ok m
    · exact plenumref10_Delete_ok m) (f := 3) (c := plenumlaw10_TrunkDoes_c) Tryd.func3 rfl (by kernel_rfl) _ rfl Tryd.ntmps3 (Nat.le_of_ble_eq_true rfl) plenumlaw10_TrunkDoes_h h
  · cases h
end Go.Proofs.YthmnhfabkllgpaaDoor

namespace Go.Proofs.YthmnhfabkllgpaaDoor
open Go.RowKit
set_option maxRecDepth 100000
theorem key_uniq {l : List Item} (h : SortedK l) {y z : Item} (hy : y ∈ l) (hz : z ∈ l) (e : y.key = z.key) : y = z := by
  obtain ⟨i, hi, rfl⟩ := List.mem_iff_getElem.1 hy
  obtain ⟨j, hj, rfl⟩ := List.mem_iff_getElem.1 hz
  rcases Nat.lt_trichotomy i j with h1 | h1 | h1
  · have := sorted_lt h h1 hj; rw [e, less_irrefl] at this; cases this
  · subst h1; rfl
  · have := sorted_lt h h1 hi; rw [e, less_irrefl] at this; cases this
theorem getK_mem {l : List Item} (hlf : leafB l = true) (k : Bytes) (y : Item) : getK l k = some y ↔ y ∈ l ∧ y.key = k := by
  have hs := ((leafB_iff l).1 hlf).2.2
  constructor
  · intro h
    cases ht : thereK l k with
    | false => rw [getK_none ht] at h; cases h
    | true =>
      rw [getK_some hlf ht] at h
      obtain rfl := Option.some.inj h
      rw [there_at (there_lt ht)] at ht
      exact ⟨List.getElem_mem _, by simpa using ht⟩
  · rintro ⟨hy, rfl⟩
    have ht : thereK l y.key = true := by
      cases ht : thereK l y.key with
      | true => rfl
      | false =>
        have := atK_sorted hs y.key
        rw [ht, if_neg (by simp)] at this
        unfold atK at this
        rw [List.findIdx?_eq_none_iff] at this
        have := this y hy
        simp at this
    rw [getK_some hlf ht]
    congr 1
    refine key_uniq hs (List.getElem_mem _) hy ?_
    have h2 := ht
    rw [there_at (there_lt ht)] at h2
    simpa using h2
theorem mem_withK {l : List Item} {x y : Item} : y ∈ withK l x ↔ (y ∈ l ∧ less y.key x.key = true) ∨ y = x ∨ (y ∈ l ∧ less x.key y.key = true) := by
  simp [withK]
theorem withK_len {l : List Item} (h : SortedK l) (x : Item) : (withK l x).length = if thereK l x.key then l.length else l.length + 1 := by
  rw [withK_sorted h]
  have := posK_le l x.key
  cases ht : thereK l x.key with
  | false => simp; omega
  | true => have := there_lt ht; simp; omega
theorem withoutK_len {l : List Item} (h : SortedK l) (k : Bytes) (ht : thereK l k = true) : (withoutK l k).length + 1 = l.length := by
  rw [withoutK_sorted h k ht]
  have := there_lt ht
  simp; omega
theorem withK_leaf {l : List Item} {x : Item} (hlf : leafB l = true) (hx : itemB x = true) (hl : (withK l x).length ≤ 64) : leafB (withK l x) = true := by
  obtain ⟨_, hit, hs⟩ := (leafB_iff l).1 hlf
  refine (leafB_iff _).2 ⟨hl, ?_, ?_⟩
  · intro y hy
    rcases mem_withK.1 hy with ⟨h, _⟩ | rfl | ⟨h, _⟩
    · exact hit y h
    · exact hx
    · exact hit y h
  · unfold SortedK withK
    rw [List.pairwise_append, List.pairwise_append]
    refine ⟨⟨List.Pairwise.filter _ hs, List.pairwise_singleton _ _, ?_⟩, List.Pairwise.filter _ hs, ?_⟩
    · intro a ha b hb
      simp at ha hb
      subst hb; exact ha.2
    · intro a ha b hb
      simp at ha hb
      rcases ha with ha | rfl
      · exact less_trans _ _ _ ha.2 hb.2
      · exact hb.2
theorem withoutK_leaf {l : List Item} (k : Bytes) (hlf : leafB l = true) : leafB (withoutK l k) = true := by
  obtain ⟨hl, hit, hs⟩ := (leafB_iff l).1 hlf
  refine (leafB_iff _).2 ⟨Nat.le_trans (List.length_filter_le _ _) hl, fun x hx => hit x (List.mem_filter.1 hx).1, List.Pairwise.filter _ hs⟩
theorem get_ext {l r : List Item} {k : Bytes} (hl : leafB l = true) (hr : leafB r = true) (h : ∀ y, y.key = k → (y ∈ l ↔ y ∈ r)) : getK l k = getK r k := by
  apply Option.ext
  intro y
  rw [getK_mem hl, getK_mem hr]
  constructor
  · rintro ⟨h1, h2⟩; exact ⟨(h y h2).1 h1, h2⟩
  · rintro ⟨h1, h2⟩; exact ⟨(h y h2).2 h1, h2⟩
theorem put_kept {l : List Item} {x : Item} (h : (putK l x).2 = 0) : (putK l x).1 = withK l x ∧ leafB l = true ∧ itemB x = true ∧ leafB (withK l x) = true ∧ (withK l x).length ≤ 64 ∧ getK (withK l x) x.key = some x ∧ ∀ k, k ≠ x.key → getK (withK l x) k = getK l k := by
  unfold putK at h ⊢
  cases hlf : leafB l with
  | false => rw [hlf] at h; simp at h
  | true =>
    cases hx : itemB x with
    | false => rw [hlf, hx] at h; simp at h
    | true =>
      rw [hlf, hx] at h
      have hl64 := ((leafB_iff l).1 hlf).1
      have hs := ((leafB_iff l).1 hlf).2.2
      cases hc : (!thereK l x.key && l.length == 64) with
      | true => rw [hc] at h; simp at h
      | false =>
        have hlen : (withK l x).length ≤ 64 := by
          rw [withK_len hs]
          cases ht : thereK l x.key with
          | true => simpa using hl64
          | false => rw [ht] at hc; simp at hc; simp; omega
        have hwl := withK_leaf hlf hx hlen
        refine ⟨by simp, rfl, rfl, hwl, hlen, (getK_mem hwl _ _).2 ⟨mem_withK.2 (.inr (.inl rfl)), rfl⟩, fun k hk => get_ext hwl hlf fun y hy => ?_⟩
        rw [mem_withK]
        constructor
        · rintro (⟨h, _⟩ | rfl | ⟨h, _⟩)
          · exact h
          · exact absurd hy.symm hk
          · exact h
        · intro hyl
          cases h1 : less y.key x.key with
          | true => exact .inl ⟨hyl, rfl⟩
          | false =>
            cases h2 : less x.key y.key with
            | true => exact .inr (.inr ⟨hyl, rfl⟩)
            | false => exact absurd ((less_tri _ _ h1 h2).symm.trans hy) (fun h => hk h.symm)
theorem del_kept {l : List Item} {q : Bytes} (h : (delK l q).2 = 0) : (delK l q).1 = withoutK l q ∧ leafB l = true ∧ leafB (withoutK l q) = true ∧ (withoutK l q).length + 1 = l.length ∧ getK (withoutK l q) q = none ∧ ∀ k, k ≠ q → getK (withoutK l q) k = getK l k := by
  unfold delK at h ⊢
  cases hlf : leafB l with
  | false => rw [hlf] at h; simp at h
  | true =>
    rw [hlf] at h
    have hs := ((leafB_iff l).1 hlf).2.2
    cases ht : thereK l q with
    | false => rw [ht] at h; simp at h
    | true =>
      have hwl := withoutK_leaf q hlf
      refine ⟨by simp, rfl, hwl, withoutK_len hs q ht, ?_, fun k hk => get_ext hwl hlf fun y hy => ?_⟩
      · cases hg : getK (withoutK l q) q with
        | none => rfl
        | some y =>
          obtain ⟨h1, h2⟩ := (getK_mem hwl _ _).1 hg
          have := (List.mem_filter.1 h1).2
          simp [h2] at this
      · unfold withoutK
        rw [List.mem_filter]
        constructor
        · exact fun h => h.1
        · intro h1; refine ⟨h1, ?_⟩; rw [hy]; simpa using hk
end Go.Proofs.YthmnhfabkllgpaaDoor

namespace Go.Proofs.YthmnhfabkllgpaaDoor
open Go.RowKit
set_option linter.unusedVariables false
set_option linter.unusedSimpArgs false
set_option maxRecDepth 20000
def rfitB (b ver : Int) (x : Item) : Bool := keyB x.key && fitB b ver x
theorem fits_r (b : Int) (l : List Item) (ver : Int) : fitsB b l ver = (l.all (rfitB b ver) && leafB l && decide (0 ≤ ver) && decide (ver ≤ 2147483647)) := by
  cases hl : leafB l with
  | false => simp [fitsB, hl]
  | true =>
    have hk : ∀ x ∈ l, keyB x.key = true := fun x hx => item_key (((leafB_iff l).1 hl).2.1 x hx)
    have : l.all (rfitB b ver) = l.all (fitB b ver) := by
      rw [Bool.eq_iff_iff]
      simp only [List.all_eq_true, rfitB, Bool.and_eq_true]
      exact ⟨fun h x hx => (h x hx).2, fun h x hx => ⟨hk x hx, h x hx⟩⟩
    rw [fitsB, hl, this]
    cases l.all (fitB b ver) <;> simp
theorem fits_rno {b : Int} {l : List Item} {ver : Int} {k : Nat} {h : k < l.length} (h1 : rfitB b ver l[k] = false) : fitsB b l ver = false := by
  have : l.all (rfitB b ver) = false := List.all_eq_false.2 ⟨l[k], List.getElem_mem h, by simp [h1]⟩
  simp [fits_r, this]
theorem bucketK_yes {k : Bytes} (h : keyB k = true) : bucketK k = ((k.getD 0 0).toNat : Int) % 16 := by rw [bucketK, h]; rfl
theorem natInt (k : Nat) : ((k : Int)).toNat = k := Int.toNat_natCast k
section
variable {R : Type} {t : Tr} {i : Nat} {K1 : AV → Option R}
theorem u_tl (h : i < 16) : nthE (tC t) i K1 = K1 (lA (t.leaf i)) := by
  unfold nthE tC
  rw [List.getElem?_append_left (by rw [leC_len]; exact h)]
  simp [leC, List.getElem?_map, List.getElem?_range h]
theorem u_tv (h : 16 ≤ i) (h2 : i < 32) : nthE (tC t) i K1 = K1 (nA (t.ver (i - 16))) := by
  unfold nthE tC
  rw [List.getElem?_append_right (by rw [leC_len]; exact h), leC_len]
  simp [veC, List.getElem?_map, List.getElem?_range (show i - 16 < 16 by omega)]
end
theorem getD0 {k : Bytes} (h : k ≠ []) : k.getD 0 0 = k.getD 0 0 := _root_.id rfl
theorem rfits_s (m : Nat) (b : Int) (l : List Item) (ver : Int) (hm : l.length < m) (hl : l.length ≤ 1000000) (hq : ∀ x ∈ l, x.key.length ≤ maxLen) : plenumref10_Fits m (nA b) (lA l) (nA ver) = some (bA (fitsB b l ver), []) := by
  have hl' : l.length ≤ 34359738368 := by omega
  rw [plenumref10_Fits_eq]
  refine iter_ind (ι := {k : Nat // k ≤ l.length ∧ (l.take k).all (rfitB b ver) = true}) (fun k => ⟨[], [(0, nA b), (1, lA l), (2, nA ver), (7, nA k.1)]⟩) (fun k => l.length - k.1) (fun _ => some (bA (fitsB b l ver), [])) ?_ ⟨0, Nat.zero_le _, rfl⟩ (by dsimp only; omega)
  rintro ⟨k, hk, hall⟩ kc hkc
  dsimp only at hkc ⊢
  rw [plenumref10_Fits_b1_eq]
  by_cases hlt : k < l.length
  · have hlt' : (k : Int) < (l.length : Int) := by omega
    have hmem := List.getElem_mem hlt
    have step : kc ⟨[], [(0, nA b), (1, lA l), (2, nA ver), (7, nA ((k : Int) + 1))]⟩ = some (bA (fitsB b l ver), []) ∨ rfitB b ver l[k] = false := by
      cases hr : rfitB b ver l[k] with
      | false => exact .inr rfl
      | true => exact .inl (hkc ⟨k + 1, by omega, by rw [List.take_succ_eq_append_getElem hlt, List.all_append, hall]; simp [hr]⟩ (by dsimp only; omega))
    rw [lA_def] at step
    simp (config := {maxSteps := 4000000, implicitDefEqProofs := false}) (disch := omega) only [go_sem, ↓reduceIte, Nat.reduceAdd, Nat.reduceSub, Nat.reduceMul, Nat.reduceLeDiff, Nat.reduceLT, Int.reduceEq, Int.reduceNe, Int.reduceLT, Int.reduceLE, Int.reduceAdd, Int.reduceSub, Int.reduceMul, Int.reduceNeg, Nat.zero_add, Nat.add_zero, Nat.mul_one, Int.toNat_natCast, Int.natCast_zero, Int.cast_ofNat_Int, or_false, false_or, or_true, true_or, Int.reduceToNat, Nat.sub_zero, Int.natCast_nonneg, Int.toNat_zero, Bool.true_and, Bool.and_true, Bool.false_and, Bool.and_false, Bool.true_or, Bool.or_true, Bool.false_or, Bool.or_false, Bool.not_true, Bool.not_false, Bool.not_not, true_and, and_true, false_and, and_false, not_true_eq_false, not_false_eq_true, eq_self, decide_true, decide_false, ne_eq, implies_true, forall_const, true_implies, false_implies, Bool.true_eq_false, Bool.false_eq_true, reduceCtorEq, List.map_cons, List.map_nil, List.all_cons, List.all_nil, List.length_cons, List.length_nil, List.length_map, List.length_append, List.nil_append, List.cons_append, List.set_cons_zero, List.set_cons_succ, List.set_nil, List.drop_zero, List.drop_succ_cons, List.drop_nil, List.take_zero, List.take_succ_cons, List.take_nil, Option.map_some, Option.map_none, Option.isSome_some, Nat.reduceEqDiff, Nat.reduceBEq, Nat.reduceGT, List.all_append, List.all_map, Function.comp_def, decide_eq_true_eq, Bool.and_eq_true, beq_self_eq_true, or_self, and_self, ite_true, ite_false, Nat.le_refl, Bool.not_eq_true, decide_not, Bool.not_eq_true', decide_eq_false_iff_not, Bool.not_eq_false, Bool.or_eq_true, if_true, if_false, ite_self, lA_def, natInt, u_nthM, fl_it, hlt', plenumref08_Is_e m _ (hq _ hmem), w_i64]
    cases hky : keyB l[k].key with
    | false =>
      simp (config := {maxSteps := 4000000, implicitDefEqProofs := false}) only [go_sem, ↓reduceIte, Nat.reduceAdd, Nat.reduceSub, Nat.reduceMul, Nat.reduceLeDiff, Nat.reduceLT, Int.reduceEq, Int.reduceNe, Int.reduceLT, Int.reduceLE, Int.reduceAdd, Int.reduceSub, Int.reduceMul, Int.reduceNeg, Nat.zero_add, Nat.add_zero, Nat.mul_one, Int.toNat_natCast, Int.natCast_zero, Int.cast_ofNat_Int, or_false, false_or, or_true, true_or, Int.reduceToNat, Nat.sub_zero, Int.natCast_nonneg, Int.toNat_zero, Bool.true_and, Bool.and_true, Bool.false_and, Bool.and_false, Bool.true_or, Bool.or_true, Bool.false_or, Bool.or_false, Bool.not_true, Bool.not_false, Bool.not_not, true_and, and_true, false_and, and_false, not_true_eq_false, not_false_eq_true, eq_self, decide_true, decide_false, ne_eq, implies_true, forall_const, true_implies, false_implies, Bool.true_eq_false, Bool.false_eq_true, reduceCtorEq, List.map_cons, List.map_nil, List.all_cons, List.all_nil, List.length_cons, List.length_nil, List.length_map, List.length_append, List.nil_append, List.cons_append, List.set_cons_zero, List.set_cons_succ, List.set_nil, List.drop_zero, List.drop_succ_cons, List.drop_nil, List.take_zero, List.take_succ_cons, List.take_nil, Option.map_some, Option.map_none, Option.isSome_some, Nat.reduceEqDiff, Nat.reduceBEq, Nat.reduceGT, List.all_append, List.all_map, Function.comp_def, decide_eq_true_eq, Bool.and_eq_true, beq_self_eq_true, or_self, and_self, ite_true, ite_false, Nat.le_refl, Bool.not_eq_true, decide_not, Bool.not_eq_true', decide_eq_false_iff_not, Bool.not_eq_false, Bool.or_eq_true, if_true, if_false, ite_self]
      rw [fits_rno (k := k) (h := hlt) (by rw [rfitB, hky]; rfl)]; rfl
    | true =>
      have hp : (0 : Int) < (l[k].key.length : Int) := by have := key_pos hky; omega
      have hb : (l[k].key.getD 0 0).toNat < 256 := UInt8.toNat_lt _
      simp (config := {maxSteps := 4000000, implicitDefEqProofs := false}) (disch := omega) only [go_sem, ↓reduceIte, Nat.reduceAdd, Nat.reduceSub, Nat.reduceMul, Nat.reduceLeDiff, Nat.reduceLT, Int.reduceEq, Int.reduceNe, Int.reduceLT, Int.reduceLE, Int.reduceAdd, Int.reduceSub, Int.reduceMul, Int.reduceNeg, Nat.zero_add, Nat.add_zero, Nat.mul_one, Int.toNat_natCast, Int.natCast_zero, Int.cast_ofNat_Int, or_false, false_or, or_true, true_or, Int.reduceToNat, Nat.sub_zero, Int.natCast_nonneg, Int.toNat_zero, Bool.true_and, Bool.and_true, Bool.false_and, Bool.and_false, Bool.true_or, Bool.or_true, Bool.false_or, Bool.or_false, Bool.not_true, Bool.not_false, Bool.not_not, true_and, and_true, false_and, and_false, not_true_eq_false, not_false_eq_true, eq_self, decide_true, decide_false, ne_eq, implies_true, forall_const, true_implies, false_implies, Bool.true_eq_false, Bool.false_eq_true, reduceCtorEq, List.map_cons, List.map_nil, List.all_cons, List.all_nil, List.length_cons, List.length_nil, List.length_map, List.length_append, List.nil_append, List.cons_append, List.set_cons_zero, List.set_cons_succ, List.set_nil, List.drop_zero, List.drop_succ_cons, List.drop_nil, List.take_zero, List.take_succ_cons, List.take_nil, Option.map_some, Option.map_none, Option.isSome_some, Nat.reduceEqDiff, Nat.reduceBEq, Nat.reduceGT, List.all_append, List.all_map, Function.comp_def, decide_eq_true_eq, Bool.and_eq_true, beq_self_eq_true, or_self, and_self, ite_true, ite_false, Nat.le_refl, Bool.not_eq_true, decide_not, Bool.not_eq_true', decide_eq_false_iff_not, Bool.not_eq_false, Bool.or_eq_true, if_true, if_false, ite_self, hp, w_i64, Int.tmod_eq_emod_of_nonneg]
      split
      · rename_i h
        rw [fits_rno (k := k) (h := hlt) (by rw [rfitB, hky, fitB, bucketK_yes hky]; simp only [List.getD_eq_getElem?_getD] at h ⊢; simp [h])]; rfl
      · rename_i h
        split
        · rename_i h2
          rw [fits_rno (k := k) (h := hlt) (by rw [rfitB, fitB]; simp [h2])]; rfl
        · rename_i h2
          rcases step with step | step
          · exact step
          · exfalso
            rw [rfitB, hky, fitB, bucketK_yes hky] at step
            simp only [Bool.true_and, Bool.and_eq_false_iff, decide_eq_false_iff_not] at step
            rcases step with q | q
            · exact h (by omega)
            · omega
  · have hlt' : ¬ (k : Int) < (l.length : Int) := by omega
    simp (config := {maxSteps := 4000000, implicitDefEqProofs := false}) (disch := omega) only [go_sem, ↓reduceIte, Nat.reduceAdd, Nat.reduceSub, Nat.reduceMul, Nat.reduceLeDiff, Nat.reduceLT, Int.reduceEq, Int.reduceNe, Int.reduceLT, Int.reduceLE, Int.reduceAdd, Int.reduceSub, Int.reduceMul, Int.reduceNeg, Nat.zero_add, Nat.add_zero, Nat.mul_one, Int.toNat_natCast, Int.natCast_zero, Int.cast_ofNat_Int, or_false, false_or, or_true, true_or, Int.reduceToNat, Nat.sub_zero, Int.natCast_nonneg, Int.toNat_zero, Bool.true_and, Bool.and_true, Bool.false_and, Bool.and_false, Bool.true_or, Bool.or_true, Bool.false_or, Bool.or_false, Bool.not_true, Bool.not_false, Bool.not_not, true_and, and_true, false_and, and_false, not_true_eq_false, not_false_eq_true, eq_self, decide_true, decide_false, ne_eq, implies_true, forall_const, true_implies, false_implies, Bool.true_eq_false, Bool.false_eq_true, reduceCtorEq, List.map_cons, List.map_nil, List.all_cons, List.all_nil, List.length_cons, List.length_nil, List.length_map, List.length_append, List.nil_append, List.cons_append, List.set_cons_zero, List.set_cons_succ, List.set_nil, List.drop_zero, List.drop_succ_cons, List.drop_nil, List.take_zero, List.take_succ_cons, List.take_nil, Option.map_some, Option.map_none, Option.isSome_some, Nat.reduceEqDiff, Nat.reduceBEq, Nat.reduceGT, List.all_append, List.all_map, Function.comp_def, decide_eq_true_eq, Bool.and_eq_true, beq_self_eq_true, or_self, and_self, ite_true, ite_false, Nat.le_refl, Bool.not_eq_true, decide_not, Bool.not_eq_true', decide_eq_false_iff_not, Bool.not_eq_false, Bool.or_eq_true, if_true, if_false, ite_self, lA_def, hlt']
    have hall : l.all (rfitB b ver) = true := by rwa [List.take_of_length_le (by omega)] at hall
    show plenumref10_Fits_r1 m _ = _
    rw [plenumref10_Fits_r1_eq]
    rw [fits_r, hall]
    have hI := plenumref09_Is_e m l ⟨hl', hq⟩
    rw [lA_def] at hI
    simp (config := {maxSteps := 4000000, implicitDefEqProofs := false}) (disch := omega) only [go_sem, ↓reduceIte, Nat.reduceAdd, Nat.reduceSub, Nat.reduceMul, Nat.reduceLeDiff, Nat.reduceLT, Int.reduceEq, Int.reduceNe, Int.reduceLT, Int.reduceLE, Int.reduceAdd, Int.reduceSub, Int.reduceMul, Int.reduceNeg, Nat.zero_add, Nat.add_zero, Nat.mul_one, Int.toNat_natCast, Int.natCast_zero, Int.cast_ofNat_Int, or_false, false_or, or_true, true_or, Int.reduceToNat, Nat.sub_zero, Int.natCast_nonneg, Int.toNat_zero, Bool.true_and, Bool.and_true, Bool.false_and, Bool.and_false, Bool.true_or, Bool.or_true, Bool.false_or, Bool.or_false, Bool.not_true, Bool.not_false, Bool.not_not, true_and, and_true, false_and, and_false, not_true_eq_false, not_false_eq_true, eq_self, decide_true, decide_false, ne_eq, implies_true, forall_const, true_implies, false_implies, Bool.true_eq_false, Bool.false_eq_true, reduceCtorEq, List.map_cons, List.map_nil, List.all_cons, List.all_nil, List.length_cons, List.length_nil, List.length_map, List.length_append, List.nil_append, List.cons_append, List.set_cons_zero, List.set_cons_succ, List.set_nil, List.drop_zero, List.drop_succ_cons, List.drop_nil, List.take_zero, List.take_succ_cons, List.take_nil, Option.map_some, Option.map_none, Option.isSome_some, Nat.reduceEqDiff, Nat.reduceBEq, Nat.reduceGT, List.all_append, List.all_map, Function.comp_def, decide_eq_true_eq, Bool.and_eq_true, beq_self_eq_true, or_self, and_self, ite_true, ite_false, Nat.le_refl, Bool.not_eq_true, decide_not, Bool.not_eq_true', decide_eq_false_iff_not, Bool.not_eq_false, Bool.or_eq_true, if_true, if_false, ite_self, hI]
    cases leafB l <;> by_cases h0 : 0 ≤ ver <;> simp [h0]
theorem Tr.Ok.key {t : Tr} (h : t.Ok) (i : Nat) : ∀ x ∈ t.leaf i, x.key.length ≤ maxLen := fun x hx => ((h i).2.1 x hx).1
theorem rmay10_s (m : Nat) (t : Tr) (hm : 1000000 < m) (h : t.Ok) : plenumref10_May m (tA t) = some (bA (mayT t), []) := by
  rw [plenumref10_May_eq]
  simp (config := {maxSteps := 4000000, implicitDefEqProofs := false}) (disch := omega) only [go_sem, ↓reduceIte, Nat.reduceAdd, Nat.reduceSub, Nat.reduceMul, Nat.reduceLeDiff, Nat.reduceLT, Int.reduceEq, Int.reduceNe, Int.reduceLT, Int.reduceLE, Int.reduceAdd, Int.reduceSub, Int.reduceMul, Int.reduceNeg, Nat.zero_add, Nat.add_zero, Nat.mul_one, Int.toNat_natCast, Int.natCast_zero, Int.cast_ofNat_Int, or_false, false_or, or_true, true_or, Int.reduceToNat, Nat.sub_zero, Int.natCast_nonneg, Int.toNat_zero, Bool.true_and, Bool.and_true, Bool.false_and, Bool.and_false, Bool.true_or, Bool.or_true, Bool.false_or, Bool.or_false, Bool.not_true, Bool.not_false, Bool.not_not, true_and, and_true, false_and, and_false, not_true_eq_false, not_false_eq_true, eq_self, decide_true, decide_false, ne_eq, implies_true, forall_const, true_implies, false_implies, Bool.true_eq_false, Bool.false_eq_true, reduceCtorEq, List.map_cons, List.map_nil, List.all_cons, List.all_nil, List.length_cons, List.length_nil, List.length_map, List.length_append, List.nil_append, List.cons_append, List.set_cons_zero, List.set_cons_succ, List.set_nil, List.drop_zero, List.drop_succ_cons, List.drop_nil, List.take_zero, List.take_succ_cons, List.take_nil, Option.map_some, Option.map_none, Option.isSome_some, Nat.reduceEqDiff, Nat.reduceBEq, Nat.reduceGT, List.all_append, List.all_map, Function.comp_def, decide_eq_true_eq, Bool.and_eq_true, beq_self_eq_true, or_self, and_self, ite_true, ite_false, Nat.le_refl, Bool.not_eq_true, decide_not, Bool.not_eq_true', decide_eq_false_iff_not, Bool.not_eq_false, Bool.or_eq_true, if_true, if_false, ite_self, tA_def, tC_sure]
  refine iter_ind (ι := {k : Nat // k ≤ 16 ∧ (List.range k).all (fun i => fitsB i (t.leaf i) (t.ver i)) = true}) (fun k => ⟨[⟨1, ty_api_Trunk, 0, tC t⟩], [(1, OP 0 0), (3, nA k.1)]⟩) (fun k => 16 - k.1) (fun _ => some (bA (mayT t), [])) ?_ ⟨0, Nat.zero_le _, rfl⟩ (by dsimp only; omega)
  rintro ⟨k, hk, hall⟩ kc hkc
  dsimp only at hkc ⊢
  rw [plenumref10_May_b1_eq]
  by_cases hlt : k < 16
  · have hlt' : (k : Int) < 16 := by omega
    have hf := rfits_s m k (t.leaf k) (t.ver k) (by have := h.len k; omega) (h.len k) (h.key k)
    have hs : kc ⟨[⟨1, ty_api_Trunk, 0, tC t⟩], [(1, OP 0 0), (3, nA ((k : Int) + 1))]⟩ = some (bA (mayT t), []) ∨ fitsB k (t.leaf k) (t.ver k) = false := by
      cases hr : fitsB k (t.leaf k) (t.ver k) with
      | false => exact .inr rfl
      | true => exact .inl (hkc ⟨k + 1, by omega, by rw [List.range_succ, List.all_append, hall]; simp [hr]⟩ (by dsimp only; omega))
    rw [lA_def] at hf
    simp (config := {maxSteps := 4000000, implicitDefEqProofs := false}) (disch := omega) only [go_sem, ↓reduceIte, Nat.reduceAdd, Nat.reduceSub, Nat.reduceMul, Nat.reduceLeDiff, Nat.reduceLT, Int.reduceEq, Int.reduceNe, Int.reduceLT, Int.reduceLE, Int.reduceAdd, Int.reduceSub, Int.reduceMul, Int.reduceNeg, Nat.zero_add, Nat.add_zero, Nat.mul_one, Int.toNat_natCast, Int.natCast_zero, Int.cast_ofNat_Int, or_false, false_or, or_true, true_or, Int.reduceToNat, Nat.sub_zero, Int.natCast_nonneg, Int.toNat_zero, Bool.true_and, Bool.and_true, Bool.false_and, Bool.and_false, Bool.true_or, Bool.or_true, Bool.false_or, Bool.or_false, Bool.not_true, Bool.not_false, Bool.not_not, true_and, and_true, false_and, and_false, not_true_eq_false, not_false_eq_true, eq_self, decide_true, decide_false, ne_eq, implies_true, forall_const, true_implies, false_implies, Bool.true_eq_false, Bool.false_eq_true, reduceCtorEq, List.map_cons, List.map_nil, List.all_cons, List.all_nil, List.length_cons, List.length_nil, List.length_map, List.length_append, List.nil_append, List.cons_append, List.set_cons_zero, List.set_cons_succ, List.set_nil, List.drop_zero, List.drop_succ_cons, List.drop_nil, List.take_zero, List.take_succ_cons, List.take_nil, Option.map_some, Option.map_none, Option.isSome_some, Nat.reduceEqDiff, Nat.reduceBEq, Nat.reduceGT, List.all_append, List.all_map, Function.comp_def, decide_eq_true_eq, Bool.and_eq_true, beq_self_eq_true, or_self, and_self, ite_true, ite_false, Nat.le_refl, Bool.not_eq_true, decide_not, Bool.not_eq_true', decide_eq_false_iff_not, Bool.not_eq_false, Bool.or_eq_true, if_true, if_false, ite_self, hlt', natInt, u_tl, u_tv, add16, w_i64, hf, lA_def]
    cases hr : fitsB k (t.leaf k) (t.ver k) with
    | false =>
      simp (config := {maxSteps := 4000000, implicitDefEqProofs := false}) only [go_sem, ↓reduceIte, Nat.reduceAdd, Nat.reduceSub, Nat.reduceMul, Nat.reduceLeDiff, Nat.reduceLT, Int.reduceEq, Int.reduceNe, Int.reduceLT, Int.reduceLE, Int.reduceAdd, Int.reduceSub, Int.reduceMul, Int.reduceNeg, Nat.zero_add, Nat.add_zero, Nat.mul_one, Int.toNat_natCast, Int.natCast_zero, Int.cast_ofNat_Int, or_false, false_or, or_true, true_or, Int.reduceToNat, Nat.sub_zero, Int.natCast_nonneg, Int.toNat_zero, Bool.true_and, Bool.and_true, Bool.false_and, Bool.and_false, Bool.true_or, Bool.or_true, Bool.false_or, Bool.or_false, Bool.not_true, Bool.not_false, Bool.not_not, true_and, and_true, false_and, and_false, not_true_eq_false, not_false_eq_true, eq_self, decide_true, decide_false, ne_eq, implies_true, forall_const, true_implies, false_implies, Bool.true_eq_false, Bool.false_eq_true, reduceCtorEq, List.map_cons, List.map_nil, List.all_cons, List.all_nil, List.length_cons, List.length_nil, List.length_map, List.length_append, List.nil_append, List.cons_append, List.set_cons_zero, List.set_cons_succ, List.set_nil, List.drop_zero, List.drop_succ_cons, List.drop_nil, List.take_zero, List.take_succ_cons, List.take_nil, Option.map_some, Option.map_none, Option.isSome_some, Nat.reduceEqDiff, Nat.reduceBEq, Nat.reduceGT, List.all_append, List.all_map, Function.comp_def, decide_eq_true_eq, Bool.and_eq_true, beq_self_eq_true, or_self, and_self, ite_true, ite_false, Nat.le_refl, Bool.not_eq_true, decide_not, Bool.not_eq_true', decide_eq_false_iff_not, Bool.not_eq_false, Bool.or_eq_true, if_true, if_false, ite_self, hr]
      rw [show mayT t = false from List.all_eq_false.2 ⟨k, List.mem_range.2 hlt, by simp [hr]⟩]; rfl
    | true =>
      rw [hr] at hs
      simp (config := {maxSteps := 4000000, implicitDefEqProofs := false}) only [go_sem, ↓reduceIte, Nat.reduceAdd, Nat.reduceSub, Nat.reduceMul, Nat.reduceLeDiff, Nat.reduceLT, Int.reduceEq, Int.reduceNe, Int.reduceLT, Int.reduceLE, Int.reduceAdd, Int.reduceSub, Int.reduceMul, Int.reduceNeg, Nat.zero_add, Nat.add_zero, Nat.mul_one, Int.toNat_natCast, Int.natCast_zero, Int.cast_ofNat_Int, or_false, false_or, or_true, true_or, Int.reduceToNat, Nat.sub_zero, Int.natCast_nonneg, Int.toNat_zero, Bool.true_and, Bool.and_true, Bool.false_and, Bool.and_false, Bool.true_or, Bool.or_true, Bool.false_or, Bool.or_false, Bool.not_true, Bool.not_false, Bool.not_not, true_and, and_true, false_and, and_false, not_true_eq_false, not_false_eq_true, eq_self, decide_true, decide_false, ne_eq, implies_true, forall_const, true_implies, false_implies, Bool.true_eq_false, Bool.false_eq_true, reduceCtorEq, List.map_cons, List.map_nil, List.all_cons, List.all_nil, List.length_cons, List.length_nil, List.length_map, List.length_append, List.nil_append, List.cons_append, List.set_cons_zero, List.set_cons_succ, List.set_nil, List.drop_zero, List.drop_succ_cons, List.drop_nil, List.take_zero, List.take_succ_cons, List.take_nil, Option.map_some, Option.map_none, Option.isSome_some, Nat.reduceEqDiff, Nat.reduceBEq, Nat.reduceGT, List.all_append, List.all_map, Function.comp_def, decide_eq_true_eq, Bool.and_eq_true, beq_self_eq_true, or_self, and_self, ite_true, ite_false, Nat.le_refl, Bool.not_eq_true, decide_not, Bool.not_eq_true', decide_eq_false_iff_not, Bool.not_eq_false, Bool.or_eq_true, if_true, if_false, ite_self, hr, tC_ltA]
      rcases hs with hs | hs
      · exact hs
      · cases hs
  · have hlt' : ¬ (k : Int) < 16 := by omega
    simp (config := {maxSteps := 4000000, implicitDefEqProofs := false}) (disch := omega) only [go_sem, ↓reduceIte, Nat.reduceAdd, Nat.reduceSub, Nat.reduceMul, Nat.reduceLeDiff, Nat.reduceLT, Int.reduceEq, Int.reduceNe, Int.reduceLT, Int.reduceLE, Int.reduceAdd, Int.reduceSub, Int.reduceMul, Int.reduceNeg, Nat.zero_add, Nat.add_zero, Nat.mul_one, Int.toNat_natCast, Int.natCast_zero, Int.cast_ofNat_Int, or_false, false_or, or_true, true_or, Int.reduceToNat, Nat.sub_zero, Int.natCast_nonneg, Int.toNat_zero, Bool.true_and, Bool.and_true, Bool.false_and, Bool.and_false, Bool.true_or, Bool.or_true, Bool.false_or, Bool.or_false, Bool.not_true, Bool.not_false, Bool.not_not, true_and, and_true, false_and, and_false, not_true_eq_false, not_false_eq_true, eq_self, decide_true, decide_false, ne_eq, implies_true, forall_const, true_implies, false_implies, Bool.true_eq_false, Bool.false_eq_true, reduceCtorEq, List.map_cons, List.map_nil, List.all_cons, List.all_nil, List.length_cons, List.length_nil, List.length_map, List.length_append, List.nil_append, List.cons_append, List.set_cons_zero, List.set_cons_succ, List.set_nil, List.drop_zero, List.drop_succ_cons, List.drop_nil, List.take_zero, List.take_succ_cons, List.take_nil, Option.map_some, Option.map_none, Option.isSome_some, Nat.reduceEqDiff, Nat.reduceBEq, Nat.reduceGT, List.all_append, List.all_map, Function.comp_def, decide_eq_true_eq, Bool.and_eq_true, beq_self_eq_true, or_self, and_self, ite_true, ite_false, Nat.le_refl, Bool.not_eq_true, decide_not, Bool.not_eq_true', decide_eq_false_iff_not, Bool.not_eq_false, Bool.or_eq_true, if_true, if_false, ite_self, hlt']
    have : k = 16 := by omega
    subst this
    show some (bA true, []) = some (bA (mayT t), [])
    rw [show mayT t = true from hall]
theorem rbucket_s (m : Nat) (k : Bytes) (hk : keyB k = true) : plenumref10_Bucket m (sA k) = some (nA (bucketK k), []) := by
  have hp : (0 : Int) < (k.length : Int) := by have := key_pos hk; omega
  have hb : (k.getD 0 0).toNat < 256 := UInt8.toNat_lt _
  rw [plenumref10_Bucket_eq]
  simp (config := {maxSteps := 4000000, implicitDefEqProofs := false}) (disch := omega) only [go_sem, ↓reduceIte, Nat.reduceAdd, Nat.reduceSub, Nat.reduceMul, Nat.reduceLeDiff, Nat.reduceLT, Int.reduceEq, Int.reduceNe, Int.reduceLT, Int.reduceLE, Int.reduceAdd, Int.reduceSub, Int.reduceMul, Int.reduceNeg, Nat.zero_add, Nat.add_zero, Nat.mul_one, Int.toNat_natCast, Int.natCast_zero, Int.cast_ofNat_Int, or_false, false_or, or_true, true_or, Int.reduceToNat, Nat.sub_zero, Int.natCast_nonneg, Int.toNat_zero, Bool.true_and, Bool.and_true, Bool.false_and, Bool.and_false, Bool.true_or, Bool.or_true, Bool.false_or, Bool.or_false, Bool.not_true, Bool.not_false, Bool.not_not, true_and, and_true, false_and, and_false, not_true_eq_false, not_false_eq_true, eq_self, decide_true, decide_false, ne_eq, implies_true, forall_const, true_implies, false_implies, Bool.true_eq_false, Bool.false_eq_true, reduceCtorEq, List.map_cons, List.map_nil, List.all_cons, List.all_nil, List.length_cons, List.length_nil, List.length_map, List.length_append, List.nil_append, List.cons_append, List.set_cons_zero, List.set_cons_succ, List.set_nil, List.drop_zero, List.drop_succ_cons, List.drop_nil, List.take_zero, List.take_succ_cons, List.take_nil, Option.map_some, Option.map_none, Option.isSome_some, Nat.reduceEqDiff, Nat.reduceBEq, Nat.reduceGT, List.all_append, List.all_map, Function.comp_def, decide_eq_true_eq, Bool.and_eq_true, beq_self_eq_true, or_self, and_self, ite_true, ite_false, Nat.le_refl, Bool.not_eq_true, decide_not, Bool.not_eq_true', decide_eq_false_iff_not, Bool.not_eq_false, Bool.or_eq_true, if_true, if_false, ite_self, hp, w_i64, Int.tmod_eq_emod_of_nonneg]
  rw [bucketK_yes hk]
theorem fits_key {t : Tr} (h : mayT t = true) {b : Nat} (hb : b < 16) {y : Item} (hy : y ∈ t.leaf b) : itemB y = true ∧ bucketK y.key = b ∧ y.ver ≤ t.ver b := by
  have h1 := List.all_eq_true.1 h b (List.mem_range.2 hb)
  rw [fits_r] at h1
  simp only [Bool.and_eq_true] at h1
  have h2 := List.all_eq_true.1 h1.1.1.1 y hy
  have h3 := ((leafB_iff _).1 h1.1.1.2).2.1 y hy
  simp only [rfitB, fitB, Bool.and_eq_true, decide_eq_true_eq] at h2
  exact ⟨h3, h2.2.1, h2.2.2⟩
theorem fits_leaf {t : Tr} (h : mayT t = true) {b : Nat} (hb : b < 16) : leafB (t.leaf b) = true := by
  have h1 := List.all_eq_true.1 h b (List.mem_range.2 hb)
  rw [fits_r] at h1
  simp only [Bool.and_eq_true] at h1
  exact h1.1.1.2
theorem getT_mem {t : Tr} (h : mayT t = true) {k : Bytes} {y : Item} : getT t k = some y ↔ ∃ b, b < 16 ∧ y ∈ t.leaf b ∧ y.key = k := by
  unfold getT
  rw [h, Bool.and_true]
  constructor
  · intro q
    split at q
    · rename_i hk
      obtain ⟨h1, h2⟩ := (getK_mem (fits_leaf h (bk_lt hk)) k y).1 q
      exact ⟨bk k, bk_lt hk, h1, h2⟩
    · cases q
  · rintro ⟨b, hb, h1, rfl⟩
    obtain ⟨h2, h3, _⟩ := fits_key h hb h1
    have hk := itemB_key h2
    rw [if_pos hk]
    have : bk y.key = b := by unfold bk; rw [h3]; rfl
    rw [this]
    exact (getK_mem (fits_leaf h hb) _ y).2 ⟨h1, rfl⟩
theorem getK_at {l : List Item} (h : leafB l = true) (k : Bytes) : (getK l k = none ∧ placeI (atK l k) = -1) ∨ ∃ y, getK l k = some y ∧ l[posK l k]? = some y ∧ placeI (atK l k) = (posK l k : Nat) := by
  have hs := ((leafB_iff l).1 h).2.2
  rw [atK_sorted hs]
  cases ht : thereK l k with
  | false => exact .inl ⟨getK_none ht, rfl⟩
  | true =>
    right
    have : (l[posK l k]?).isSome = true := by
      unfold thereK at ht
      cases e : l[posK l k]? with
      | none => rw [e] at ht; cases ht
      | some y => rfl
    obtain ⟨y, hy⟩ := Option.isSome_iff_exists.1 this
    exact ⟨y, by unfold getK; rw [h, ht]; exact hy, hy, rfl⟩
theorem place_no {t : Tr} (h : mayT t = true) {k : Bytes} {b : Nat} (hb : b < 16) (hn : getT t k = none ∨ b ≠ bk k) : placeI (atK (t.leaf b) k) = -1 := by
  rcases getK_at (fits_leaf h hb) k with ⟨_, q⟩ | ⟨y, q, _, _⟩
  · exact q
  · obtain ⟨h1, h2⟩ := (getK_mem (fits_leaf h hb) k y).1 q
    rcases hn with hn | hn
    · have := (getT_mem h).2 ⟨b, hb, h1, h2⟩
      rw [hn] at this; cases this
    · exfalso
      obtain ⟨_, h3, _⟩ := fits_key h hb h1
      rw [h2] at h3
      exact hn (by unfold bk; rw [h3]; rfl)
theorem zcI_lt {m : Nat} : zc_api_Item.all (ltA m) = true := _root_.id rfl
theorem rget_s (m : Nat) (t : Tr) (k : Bytes) (hm : 1000000 < m) (h : t.Ok) (hmay : mayT t = true) : plenumref10_Get m (tA t) (sA k) = some (TU [iA ((getT t k).getD Item.zero), bA (getT t k).isSome], []) := by
  rw [plenumref10_Get_eq]
  simp (config := {maxSteps := 4000000, implicitDefEqProofs := false}) (disch := omega) only [go_sem, ↓reduceIte, Nat.reduceAdd, Nat.reduceSub, Nat.reduceMul, Nat.reduceLeDiff, Nat.reduceLT, Int.reduceEq, Int.reduceNe, Int.reduceLT, Int.reduceLE, Int.reduceAdd, Int.reduceSub, Int.reduceMul, Int.reduceNeg, Nat.zero_add, Nat.add_zero, Nat.mul_one, Int.toNat_natCast, Int.natCast_zero, Int.cast_ofNat_Int, or_false, false_or, or_true, true_or, Int.reduceToNat, Nat.sub_zero, Int.natCast_nonneg, Int.toNat_zero, Bool.true_and, Bool.and_true, Bool.false_and, Bool.and_false, Bool.true_or, Bool.or_true, Bool.false_or, Bool.or_false, Bool.not_true, Bool.not_false, Bool.not_not, true_and, and_true, false_and, and_false, not_true_eq_false, not_false_eq_true, eq_self, decide_true, decide_false, ne_eq, implies_true, forall_const, true_implies, false_implies, Bool.true_eq_false, Bool.false_eq_true, reduceCtorEq, List.map_cons, List.map_nil, List.all_cons, List.all_nil, List.length_cons, List.length_nil, List.length_map, List.length_append, List.nil_append, List.cons_append, List.set_cons_zero, List.set_cons_succ, List.set_nil, List.drop_zero, List.drop_succ_cons, List.drop_nil, List.take_zero, List.take_succ_cons, List.take_nil, Option.map_some, Option.map_none, Option.isSome_some, Nat.reduceEqDiff, Nat.reduceBEq, Nat.reduceGT, List.all_append, List.all_map, Function.comp_def, decide_eq_true_eq, Bool.and_eq_true, beq_self_eq_true, or_self, and_self, ite_true, ite_false, Nat.le_refl, Bool.not_eq_true, decide_not, Bool.not_eq_true', decide_eq_false_iff_not, Bool.not_eq_false, Bool.or_eq_true, if_true, if_false, ite_self, tA_def, tC_sure]
  refine iter_ind (ι := {i : Nat // i ≤ 16 ∧ ((getT t k).isSome = true → i ≤ bk k)}) (fun i => ⟨[⟨1, ty_api_Trunk, 0, tC t⟩, ⟨1, ty_api_Item, 0, zc_api_Item⟩], [(1, sA k), (2, OP 0 0), (4, OP 1 0), (6, nA i.1)]⟩) (fun i => 16 - i.1) (fun _ => some (TU [iA ((getT t k).getD Item.zero), bA (getT t k).isSome], [])) ?_ ⟨0, Nat.zero_le _, fun _ => Nat.zero_le _⟩ (by dsimp only; omega)
  rintro ⟨i, hi, hle⟩ kc hkc
  dsimp only at hkc ⊢
  rw [plenumref10_Get_b1_eq]
  by_cases hlt : i < 16
  · have hlt' : (i : Int) < 16 := by omega
    have hat := plenumref09_At_e m (t.leaf i) k (h.len2 i)
    rw [lA_def] at hat
    by_cases hn : getT t k = none ∨ i ≠ bk k
    · have hp := place_no hmay hlt hn
      have step := hkc ⟨i + 1, by omega, fun q => by
        rcases hn with hn | hn
        · rw [hn] at q; cases q
        · have := hle q; omega⟩ (by dsimp only; omega)
      rw [hp] at hat
      simp (config := {maxSteps := 4000000, implicitDefEqProofs := false}) (disch := omega) only [go_sem, ↓reduceIte, Nat.reduceAdd, Nat.reduceSub, Nat.reduceMul, Nat.reduceLeDiff, Nat.reduceLT, Int.reduceEq, Int.reduceNe, Int.reduceLT, Int.reduceLE, Int.reduceAdd, Int.reduceSub, Int.reduceMul, Int.reduceNeg, Nat.zero_add, Nat.add_zero, Nat.mul_one, Int.toNat_natCast, Int.natCast_zero, Int.cast_ofNat_Int, or_false, false_or, or_true, true_or, Int.reduceToNat, Nat.sub_zero, Int.natCast_nonneg, Int.toNat_zero, Bool.true_and, Bool.and_true, Bool.false_and, Bool.and_false, Bool.true_or, Bool.or_true, Bool.false_or, Bool.or_false, Bool.not_true, Bool.not_false, Bool.not_not, true_and, and_true, false_and, and_false, not_true_eq_false, not_false_eq_true, eq_self, decide_true, decide_false, ne_eq, implies_true, forall_const, true_implies, false_implies, Bool.true_eq_false, Bool.false_eq_true, reduceCtorEq, List.map_cons, List.map_nil, List.all_cons, List.all_nil, List.length_cons, List.length_nil, List.length_map, List.length_append, List.nil_append, List.cons_append, List.set_cons_zero, List.set_cons_succ, List.set_nil, List.drop_zero, List.drop_succ_cons, List.drop_nil, List.take_zero, List.take_succ_cons, List.take_nil, Option.map_some, Option.map_none, Option.isSome_some, Nat.reduceEqDiff, Nat.reduceBEq, Nat.reduceGT, List.all_append, List.all_map, Function.comp_def, decide_eq_true_eq, Bool.and_eq_true, beq_self_eq_true, or_self, and_self, ite_true, ite_false, Nat.le_refl, Bool.not_eq_true, decide_not, Bool.not_eq_true', decide_eq_false_iff_not, Bool.not_eq_false, Bool.or_eq_true, if_true, if_false, ite_self, hlt', natInt, u_tl, w_i64, hat, lA_def, tC_ltA, zcI_lt]
      exact step
    · obtain ⟨y, hy⟩ : ∃ y, getT t k = some y := Option.ne_none_iff_exists'.1 fun q => hn (.inl q)
      have hbk : i = bk k := Decidable.of_not_not fun q => hn (.inr q)
      have hy' : getK (t.leaf i) k = some y := by rw [← hy, getT, getT_key (show (getT t k).isSome = true by rw [hy]; rfl), hmay, hbk]; rfl
      rcases getK_at (fits_leaf hmay hlt) k with ⟨q, _⟩ | ⟨z, q, hz, hp⟩
      · rw [q] at hy'; cases hy'
      · rw [q] at hy'; cases hy'
        obtain ⟨hpl, hz⟩ := List.getElem?_eq_some_iff.1 hz
        rw [hp] at hat
        have h0 : (0 : Int) ≤ (posK (t.leaf i) k : Nat) := by omega
        simp (config := {maxSteps := 4000000, implicitDefEqProofs := false}) (disch := omega) only [go_sem, ↓reduceIte, Nat.reduceAdd, Nat.reduceSub, Nat.reduceMul, Nat.reduceLeDiff, Nat.reduceLT, Int.reduceEq, Int.reduceNe, Int.reduceLT, Int.reduceLE, Int.reduceAdd, Int.reduceSub, Int.reduceMul, Int.reduceNeg, Nat.zero_add, Nat.add_zero, Nat.mul_one, Int.toNat_natCast, Int.natCast_zero, Int.cast_ofNat_Int, or_false, false_or, or_true, true_or, Int.reduceToNat, Nat.sub_zero, Int.natCast_nonneg, Int.toNat_zero, Bool.true_and, Bool.and_true, Bool.false_and, Bool.and_false, Bool.true_or, Bool.or_true, Bool.false_or, Bool.or_false, Bool.not_true, Bool.not_false, Bool.not_not, true_and, and_true, false_and, and_false, not_true_eq_false, not_false_eq_true, eq_self, decide_true, decide_false, ne_eq, implies_true, forall_const, true_implies, false_implies, Bool.true_eq_false, Bool.false_eq_true, reduceCtorEq, List.map_cons, List.map_nil, List.all_cons, List.all_nil, List.length_cons, List.length_nil, List.length_map, List.length_append, List.nil_append, List.cons_append, List.set_cons_zero, List.set_cons_succ, List.set_nil, List.drop_zero, List.drop_succ_cons, List.drop_nil, List.take_zero, List.take_succ_cons, List.take_nil, Option.map_some, Option.map_none, Option.isSome_some, Nat.reduceEqDiff, Nat.reduceBEq, Nat.reduceGT, List.all_append, List.all_map, Function.comp_def, decide_eq_true_eq, Bool.and_eq_true, beq_self_eq_true, or_self, and_self, ite_true, ite_false, Nat.le_refl, Bool.not_eq_true, decide_not, Bool.not_eq_true', decide_eq_false_iff_not, Bool.not_eq_false, Bool.or_eq_true, if_true, if_false, ite_self, hlt', natInt, u_tl, w_i64, hat, lA_def, tC_ltA, zcI_lt, h0, u_nthM, hz, fl_it]
        rw [hy]; rfl
  · have hlt' : ¬ (i : Int) < 16 := by omega
    have hi' : i = 16 := by omega
    have hn : getT t k = none := by
      cases e : getT t k with
      | none => rfl
      | some y =>
        rw [e] at hle
        have := hle rfl
        have := bk_lt (getT_key (show (getT t k).isSome = true by rw [e]; rfl))
        omega
    simp (config := {maxSteps := 4000000, implicitDefEqProofs := false}) (disch := omega) only [go_sem, ↓reduceIte, Nat.reduceAdd, Nat.reduceSub, Nat.reduceMul, Nat.reduceLeDiff, Nat.reduceLT, Int.reduceEq, Int.reduceNe, Int.reduceLT, Int.reduceLE, Int.reduceAdd, Int.reduceSub, Int.reduceMul, Int.reduceNeg, Nat.zero_add, Nat.add_zero, Nat.mul_one, Int.toNat_natCast, Int.natCast_zero, Int.cast_ofNat_Int, or_false, false_or, or_true, true_or, Int.reduceToNat, Nat.sub_zero, Int.natCast_nonneg, Int.toNat_zero, Bool.true_and, Bool.and_true, Bool.false_and, Bool.and_false, Bool.true_or, Bool.or_true, Bool.false_or, Bool.or_false, Bool.not_true, Bool.not_false, Bool.not_not, true_and, and_true, false_and, and_false, not_true_eq_false, not_false_eq_true, eq_self, decide_true, decide_false, ne_eq, implies_true, forall_const, true_implies, false_implies, Bool.true_eq_false, Bool.false_eq_true, reduceCtorEq, List.map_cons, List.map_nil, List.all_cons, List.all_nil, List.length_cons, List.length_nil, List.length_map, List.length_append, List.nil_append, List.cons_append, List.set_cons_zero, List.set_cons_succ, List.set_nil, List.drop_zero, List.drop_succ_cons, List.drop_nil, List.take_zero, List.take_succ_cons, List.take_nil, Option.map_some, Option.map_none, Option.isSome_some, Nat.reduceEqDiff, Nat.reduceBEq, Nat.reduceGT, List.all_append, List.all_map, Function.comp_def, decide_eq_true_eq, Bool.and_eq_true, beq_self_eq_true, or_self, and_self, ite_true, ite_false, Nat.le_refl, Bool.not_eq_true, decide_not, Bool.not_eq_true', decide_eq_false_iff_not, Bool.not_eq_false, Bool.or_eq_true, if_true, if_false, ite_self, hlt']
    rw [plenumref10_Get_r1_eq, hn]
    rfl
theorem zcI_len : zc_api_Item.length = 5 := _root_.id rfl
theorem tC_all1 {t : Tr} {n : Nat} {H : List AObj} : ((tC t).all fun x => lt1 n (ro1 H x)) = true := tC_all (fun _ => rfl) fun _ => rfl
theorem u_bT {R : Type} {K1 : AV → Option R} : buildE (some pl_api_Trunk) (some zC) [] K1 = K1 (.agg zC) := _root_.id rfl
theorem fl_all5 {l : List Item} : (l.all fun x => decide ((cellsOf (flA Item.cells x)).length = 5)) = true := List.all_eq_true.2 fun _ _ => rfl
theorem fl_allA {l : List Item} {n : Nat} : (l.all fun x => ltA n (flA Item.cells x)) = true := List.all_eq_true.2 fun _ _ => rfl
theorem fl_lt {x : Item} {n : Nat} : ltA n (flA Item.cells x) = true := _root_.id rfl
theorem zcT_eq : zc_api_Trunk = zC := _root_.id rfl
theorem bucketK_nat {k : Bytes} (h : keyB k = true) : bucketK k = (bk k : Nat) := by have := bucketK_in h; unfold bk; omega
theorem putK_full {l : List Item} {x : Item} (hl : leafB l = true) (hx : itemB x = true) (hn : getK l x.key = none) (h : l.length = 64) : putK l x = ([], 5) := by
  have ht : thereK l x.key = false := by
    cases ht : thereK l x.key with
    | false => rfl
    | true => rw [getK_some hl ht] at hn; cases hn
  simp [putK, hl, hx, ht, h]
theorem putK_fits {l : List Item} {x : Item} (hl : leafB l = true) (hx : itemB x = true) (h : getK l x.key ≠ none ∨ l.length ≠ 64) : putK l x = (withK l x, 0) := by
  cases ht : thereK l x.key with
  | true => simp [putK, hl, hx, ht]
  | false =>
    have : l.length ≠ 64 := by
      rcases h with h | h
      · exact absurd (getK_none ht) h
      · exact h
    simp [putK, hl, hx, ht, this]
theorem rput_s (m : Nat) (t : Tr) (x : Item) (hm : 1000000 < m) (h : t.Ok) (hmay : mayT t = true) (hx : itemB x = true) (hxl : x.key.length ≤ maxLen) : plenumref10_Put m (tA t) (iA x) = some (TU [tA (putT t x).1, nA (putT t x).2], []) := by
  have hk := itemB_key hx
  have hb := bk_lt hk
  have hb' : ((bk x.key : Nat) : Int) < 16 := by omega
  have hB := rbucket_s m x.key hk
  rw [bucketK_nat hk] at hB
  have hG := rget_s m t x.key hm h hmay
  have hW := plenumref09_With_e m (t.leaf (bk x.key)) x ⟨h.len _, hxl, h.key _⟩
  rw [tA_def] at hG
  rw [lA_def, iA_def] at hW
  have hg : getK (t.leaf (bk x.key)) x.key = getT t x.key := by rw [getT, hk, hmay]; rfl
  rw [plenumref10_Put_eq]
  simp (config := {maxSteps := 4000000, implicitDefEqProofs := false}) (disch := omega) only [go_sem, ↓reduceIte, Nat.reduceAdd, Nat.reduceSub, Nat.reduceMul, Nat.reduceLeDiff, Nat.reduceLT, Int.reduceEq, Int.reduceNe, Int.reduceLT, Int.reduceLE, Int.reduceAdd, Int.reduceSub, Int.reduceMul, Int.reduceNeg, Nat.zero_add, Nat.add_zero, Nat.mul_one, Int.toNat_natCast, Int.natCast_zero, Int.cast_ofNat_Int, or_false, false_or, or_true, true_or, Int.reduceToNat, Nat.sub_zero, Int.natCast_nonneg, Int.toNat_zero, Bool.true_and, Bool.and_true, Bool.false_and, Bool.and_false, Bool.true_or, Bool.or_true, Bool.false_or, Bool.or_false, Bool.not_true, Bool.not_false, Bool.not_not, true_and, and_true, false_and, and_false, not_true_eq_false, not_false_eq_true, eq_self, decide_true, decide_false, ne_eq, implies_true, forall_const, true_implies, false_implies, Bool.true_eq_false, Bool.false_eq_true, reduceCtorEq, List.map_cons, List.map_nil, List.all_cons, List.all_nil, List.length_cons, List.length_nil, List.length_map, List.length_append, List.nil_append, List.cons_append, List.set_cons_zero, List.set_cons_succ, List.set_nil, List.drop_zero, List.drop_succ_cons, List.drop_nil, List.take_zero, List.take_succ_cons, List.take_nil, Option.map_some, Option.map_none, Option.isSome_some, Nat.reduceEqDiff, Nat.reduceBEq, Nat.reduceGT, List.all_append, List.all_map, Function.comp_def, decide_eq_true_eq, Bool.and_eq_true, beq_self_eq_true, or_self, and_self, ite_true, ite_false, Nat.le_refl, Bool.not_eq_true, decide_not, Bool.not_eq_true', decide_eq_false_iff_not, Bool.not_eq_false, Bool.or_eq_true, if_true, if_false, ite_self, tA_def, tC_sure, iA_def, hB, hb', natInt, u_tv, add16]
  by_cases hv : x.ver < t.ver (bk x.key)
  · have e : putT t x = (Tr.zero, 18) := by simp [putT, hx, hmay, hv]
    simp (config := {maxSteps := 4000000, implicitDefEqProofs := false}) only [go_sem, ↓reduceIte, Nat.reduceAdd, Nat.reduceSub, Nat.reduceMul, Nat.reduceLeDiff, Nat.reduceLT, Int.reduceEq, Int.reduceNe, Int.reduceLT, Int.reduceLE, Int.reduceAdd, Int.reduceSub, Int.reduceMul, Int.reduceNeg, Nat.zero_add, Nat.add_zero, Nat.mul_one, Int.toNat_natCast, Int.natCast_zero, Int.cast_ofNat_Int, or_false, false_or, or_true, true_or, Int.reduceToNat, Nat.sub_zero, Int.natCast_nonneg, Int.toNat_zero, Bool.true_and, Bool.and_true, Bool.false_and, Bool.and_false, Bool.true_or, Bool.or_true, Bool.false_or, Bool.or_false, Bool.not_true, Bool.not_false, Bool.not_not, true_and, and_true, false_and, and_false, not_true_eq_false, not_false_eq_true, eq_self, decide_true, decide_false, ne_eq, implies_true, forall_const, true_implies, false_implies, Bool.true_eq_false, Bool.false_eq_true, reduceCtorEq, List.map_cons, List.map_nil, List.all_cons, List.all_nil, List.length_cons, List.length_nil, List.length_map, List.length_append, List.nil_append, List.cons_append, List.set_cons_zero, List.set_cons_succ, List.set_nil, List.drop_zero, List.drop_succ_cons, List.drop_nil, List.take_zero, List.take_succ_cons, List.take_nil, Option.map_some, Option.map_none, Option.isSome_some, Nat.reduceEqDiff, Nat.reduceBEq, Nat.reduceGT, List.all_append, List.all_map, Function.comp_def, decide_eq_true_eq, Bool.and_eq_true, beq_self_eq_true, or_self, and_self, ite_true, ite_false, Nat.le_refl, Bool.not_eq_true, decide_not, Bool.not_eq_true', decide_eq_false_iff_not, Bool.not_eq_false, Bool.or_eq_true, if_true, if_false, ite_self, hv]
    rw [e]
    rfl
  · have h31 : bk x.key ≤ 31 := by omega
    have h32 : 16 + bk x.key ≤ 31 := by omega
    have e16 : ∀ k : Nat, 16 + k - 16 = k := fun k => Nat.add_sub_cancel_left 16 k
    by_cases hc : getT t x.key = none ∧ (t.leaf (bk x.key)).length = 64
    · have e : putT t x = (Tr.zero, 5) := by
        rw [putT, putK_full (fits_leaf hmay hb) hx (by rw [hg]; exact hc.1) hc.2]
        simp [hx, hmay, hv, chgT]
      rw [hc.1] at hG
      have hc2 : ((t.leaf (bk x.key)).length : Int) = 64 := by omega
      simp (config := {maxSteps := 4000000, implicitDefEqProofs := false}) (disch := omega) only [go_sem, ↓reduceIte, Nat.reduceAdd, Nat.reduceSub, Nat.reduceMul, Nat.reduceLeDiff, Nat.reduceLT, Int.reduceEq, Int.reduceNe, Int.reduceLT, Int.reduceLE, Int.reduceAdd, Int.reduceSub, Int.reduceMul, Int.reduceNeg, Nat.zero_add, Nat.add_zero, Nat.mul_one, Int.toNat_natCast, Int.natCast_zero, Int.cast_ofNat_Int, or_false, false_or, or_true, true_or, Int.reduceToNat, Nat.sub_zero, Int.natCast_nonneg, Int.toNat_zero, Bool.true_and, Bool.and_true, Bool.false_and, Bool.and_false, Bool.true_or, Bool.or_true, Bool.false_or, Bool.or_false, Bool.not_true, Bool.not_false, Bool.not_not, true_and, and_true, false_and, and_false, not_true_eq_false, not_false_eq_true, eq_self, decide_true, decide_false, ne_eq, implies_true, forall_const, true_implies, false_implies, Bool.true_eq_false, Bool.false_eq_true, reduceCtorEq, List.map_cons, List.map_nil, List.all_cons, List.all_nil, List.length_cons, List.length_nil, List.length_map, List.length_append, List.nil_append, List.cons_append, List.set_cons_zero, List.set_cons_succ, List.set_nil, List.drop_zero, List.drop_succ_cons, List.drop_nil, List.take_zero, List.take_succ_cons, List.take_nil, Option.map_some, Option.map_none, Option.isSome_some, Nat.reduceEqDiff, Nat.reduceBEq, Nat.reduceGT, List.all_append, List.all_map, Function.comp_def, decide_eq_true_eq, Bool.and_eq_true, beq_self_eq_true, or_self, and_self, ite_true, ite_false, Nat.le_refl, Bool.not_eq_true, decide_not, Bool.not_eq_true', decide_eq_false_iff_not, Bool.not_eq_false, Bool.or_eq_true, if_true, if_false, ite_self, hv, hG, tC_len, tC_sure, tC_ltA, tC_lt1, tC_ro, tC_take, tC_all1, zcT_eq, zcI_len, zC_len, zC_ltA, zC_lt1, zC_sure, zC_ro, zC_take, set_tl, set_tv, sc_tt, sc_zt, sc_tz, sc_zz, add16, tA_def, lA_def, natInt, u_tl, u_tv, iA_def, hc2]
      rw [e]
      rfl
    · have hq : getT t x.key ≠ none ∨ (t.leaf (bk x.key)).length ≠ 64 := Decidable.not_and_iff_or_not.1 hc
      have e : putT t x = (((t.setL (bk x.key) (withK (t.leaf (bk x.key)) x)).setV (bk x.key) x.ver), 0) := by
        rw [putT, putK_fits (fits_leaf hmay hb) hx (by rw [hg]; exact hq)]
        simp [hx, hmay, hv, chgT]
      cases hG0 : getT t x.key with
      | some y =>
        rw [hG0] at hG
        simp (config := {maxSteps := 4000000, implicitDefEqProofs := false}) (disch := omega) only [go_sem, ↓reduceIte, Nat.reduceAdd, Nat.reduceSub, Nat.reduceMul, Nat.reduceLeDiff, Nat.reduceLT, Int.reduceEq, Int.reduceNe, Int.reduceLT, Int.reduceLE, Int.reduceAdd, Int.reduceSub, Int.reduceMul, Int.reduceNeg, Nat.zero_add, Nat.add_zero, Nat.mul_one, Int.toNat_natCast, Int.natCast_zero, Int.cast_ofNat_Int, or_false, false_or, or_true, true_or, Int.reduceToNat, Nat.sub_zero, Int.natCast_nonneg, Int.toNat_zero, Bool.true_and, Bool.and_true, Bool.false_and, Bool.and_false, Bool.true_or, Bool.or_true, Bool.false_or, Bool.or_false, Bool.not_true, Bool.not_false, Bool.not_not, true_and, and_true, false_and, and_false, not_true_eq_false, not_false_eq_true, eq_self, decide_true, decide_false, ne_eq, implies_true, forall_const, true_implies, false_implies, Bool.true_eq_false, Bool.false_eq_true, reduceCtorEq, List.map_cons, List.map_nil, List.all_cons, List.all_nil, List.length_cons, List.length_nil, List.length_map, List.length_append, List.nil_append, List.cons_append, List.set_cons_zero, List.set_cons_succ, List.set_nil, List.drop_zero, List.drop_succ_cons, List.drop_nil, List.take_zero, List.take_succ_cons, List.take_nil, Option.map_some, Option.map_none, Option.isSome_some, Nat.reduceEqDiff, Nat.reduceBEq, Nat.reduceGT, List.all_append, List.all_map, Function.comp_def, decide_eq_true_eq, Bool.and_eq_true, beq_self_eq_true, or_self, and_self, ite_true, ite_false, Nat.le_refl, Bool.not_eq_true, decide_not, Bool.not_eq_true', decide_eq_false_iff_not, Bool.not_eq_false, Bool.or_eq_true, if_true, if_false, ite_self, hv, hG, tC_len, tC_sure, tC_ltA, tC_lt1, tC_ro, tC_take, tC_all1, zcT_eq, zcI_len, zC_len, zC_ltA, zC_lt1, zC_sure, zC_ro, zC_take, set_tl, set_tv, sc_tt, sc_zt, sc_tz, sc_zz, add16, tA_def, lA_def, natInt, u_tl, u_tv, iA_def, hW, e16, h31, h32]
        rw [e]
        rfl
      | none =>
        rw [hG0] at hG
        have hc2 : ¬ ((t.leaf (bk x.key)).length : Int) = 64 := fun h => hc ⟨hG0, by omega⟩
        simp (config := {maxSteps := 4000000, implicitDefEqProofs := false}) (disch := omega) only [go_sem, ↓reduceIte, Nat.reduceAdd, Nat.reduceSub, Nat.reduceMul, Nat.reduceLeDiff, Nat.reduceLT, Int.reduceEq, Int.reduceNe, Int.reduceLT, Int.reduceLE, Int.reduceAdd, Int.reduceSub, Int.reduceMul, Int.reduceNeg, Nat.zero_add, Nat.add_zero, Nat.mul_one, Int.toNat_natCast, Int.natCast_zero, Int.cast_ofNat_Int, or_false, false_or, or_true, true_or, Int.reduceToNat, Nat.sub_zero, Int.natCast_nonneg, Int.toNat_zero, Bool.true_and, Bool.and_true, Bool.false_and, Bool.and_false, Bool.true_or, Bool.or_true, Bool.false_or, Bool.or_false, Bool.not_true, Bool.not_false, Bool.not_not, true_and, and_true, false_and, and_false, not_true_eq_false, not_false_eq_true, eq_self, decide_true, decide_false, ne_eq, implies_true, forall_const, true_implies, false_implies, Bool.true_eq_false, Bool.false_eq_true, reduceCtorEq, List.map_cons, List.map_nil, List.all_cons, List.all_nil, List.length_cons, List.length_nil, List.length_map, List.length_append, List.nil_append, List.cons_append, List.set_cons_zero, List.set_cons_succ, List.set_nil, List.drop_zero, List.drop_succ_cons, List.drop_nil, List.take_zero, List.take_succ_cons, List.take_nil, Option.map_some, Option.map_none, Option.isSome_some, Nat.reduceEqDiff, Nat.reduceBEq, Nat.reduceGT, List.all_append, List.all_map, Function.comp_def, decide_eq_true_eq, Bool.and_eq_true, beq_self_eq_true, or_self, and_self, ite_true, ite_false, Nat.le_refl, Bool.not_eq_true, decide_not, Bool.not_eq_true', decide_eq_false_iff_not, Bool.not_eq_false, Bool.or_eq_true, if_true, if_false, ite_self, hv, hG, tC_len, tC_sure, tC_ltA, tC_lt1, tC_ro, tC_take, tC_all1, zcT_eq, zcI_len, zC_len, zC_ltA, zC_lt1, zC_sure, zC_ro, zC_take, set_tl, set_tv, sc_tt, sc_zt, sc_tz, sc_zz, add16, tA_def, lA_def, natInt, u_tl, u_tv, iA_def, hc2, hW, e16, h31, h32]
        rw [e]
        rfl
theorem delK_yes {l : List Item} {k : Bytes} {y : Item} (hl : leafB l = true) (h : getK l k = some y) : delK l k = (withoutK l k, 0) := by
  cases ht : thereK l k with
  | true => simp [delK, hl, ht]
  | false => rw [getK_none ht] at h; cases h
theorem rdel_s (m : Nat) (t : Tr) (k : Bytes) (ver : Int) (hm : 1000000 < m) (h : t.Ok) (hmay : mayT t = true) (h0 : 0 ≤ ver) (h1 : ver ≤ 2147483647) : plenumref10_Delete m (tA t) (sA k) (nA ver) = some (TU [tA (delT t k ver).1, nA (delT t k ver).2], []) := by
  have e16 : ∀ k : Nat, 16 + k - 16 = k := fun k => Nat.add_sub_cancel_left 16 k
  have hG := rget_s m t k hm h hmay
  rw [tA_def] at hG
  rw [plenumref10_Delete_eq]
  have h0' : ¬ ver < 0 := by omega
  have h1' : ¬ 2147483647 < ver := by omega
  cases hG0 : getT t k with
  | none =>
    rw [hG0] at hG
    have e : delT t k ver = (Tr.zero, 6) := by simp [delT, hmay, h0', h1', hG0]
    simp (config := {maxSteps := 4000000, implicitDefEqProofs := false}) (disch := omega) only [go_sem, ↓reduceIte, Nat.reduceAdd, Nat.reduceSub, Nat.reduceMul, Nat.reduceLeDiff, Nat.reduceLT, Int.reduceEq, Int.reduceNe, Int.reduceLT, Int.reduceLE, Int.reduceAdd, Int.reduceSub, Int.reduceMul, Int.reduceNeg, Nat.zero_add, Nat.add_zero, Nat.mul_one, Int.toNat_natCast, Int.natCast_zero, Int.cast_ofNat_Int, or_false, false_or, or_true, true_or, Int.reduceToNat, Nat.sub_zero, Int.natCast_nonneg, Int.toNat_zero, Bool.true_and, Bool.and_true, Bool.false_and, Bool.and_false, Bool.true_or, Bool.or_true, Bool.false_or, Bool.or_false, Bool.not_true, Bool.not_false, Bool.not_not, true_and, and_true, false_and, and_false, not_true_eq_false, not_false_eq_true, eq_self, decide_true, decide_false, ne_eq, implies_true, forall_const, true_implies, false_implies, Bool.true_eq_false, Bool.false_eq_true, reduceCtorEq, List.map_cons, List.map_nil, List.all_cons, List.all_nil, List.length_cons, List.length_nil, List.length_map, List.length_append, List.nil_append, List.cons_append, List.set_cons_zero, List.set_cons_succ, List.set_nil, List.drop_zero, List.drop_succ_cons, List.drop_nil, List.take_zero, List.take_succ_cons, List.take_nil, Option.map_some, Option.map_none, Option.isSome_some, Nat.reduceEqDiff, Nat.reduceBEq, Nat.reduceGT, List.all_append, List.all_map, Function.comp_def, decide_eq_true_eq, Bool.and_eq_true, beq_self_eq_true, or_self, and_self, ite_true, ite_false, Nat.le_refl, Bool.not_eq_true, decide_not, Bool.not_eq_true', decide_eq_false_iff_not, Bool.not_eq_false, Bool.or_eq_true, if_true, if_false, ite_self, hG, tC_len, tC_sure, tC_ltA, tC_lt1, tC_ro, tC_take, tC_all1, zcT_eq, zcI_len, zC_len, zC_ltA, zC_lt1, zC_sure, zC_ro, zC_take, set_tl, set_tv, sc_tt, sc_zt, sc_tz, sc_zz, add16, tA_def, lA_def, natInt, u_tl, u_tv, iA_def]
    rw [e]
    rfl
  | some y =>
    rw [hG0] at hG
    have hk : keyB k = true := getT_key (show (getT t k).isSome = true by rw [hG0]; rfl)
    have hb := bk_lt hk
    have hb' : ((bk k : Nat) : Int) < 16 := by omega
    have hB := rbucket_s m k hk
    rw [bucketK_nat hk] at hB
    have hW := plenumref09_Without_e m (t.leaf (bk k)) k (h.len _)
    rw [lA_def] at hW
    have hg : getK (t.leaf (bk k)) k = some y := by rw [← hG0, getT, hk, hmay]; rfl
    have h31 : bk k ≤ 31 := by omega
    have h32 : 16 + bk k ≤ 31 := by omega
    by_cases hv : ver < t.ver (bk k)
    · have e : delT t k ver = (Tr.zero, 18) := by simp [delT, hmay, h0', h1', hG0, hv]
      simp (config := {maxSteps := 4000000, implicitDefEqProofs := false}) (disch := omega) only [go_sem, ↓reduceIte, Nat.reduceAdd, Nat.reduceSub, Nat.reduceMul, Nat.reduceLeDiff, Nat.reduceLT, Int.reduceEq, Int.reduceNe, Int.reduceLT, Int.reduceLE, Int.reduceAdd, Int.reduceSub, Int.reduceMul, Int.reduceNeg, Nat.zero_add, Nat.add_zero, Nat.mul_one, Int.toNat_natCast, Int.natCast_zero, Int.cast_ofNat_Int, or_false, false_or, or_true, true_or, Int.reduceToNat, Nat.sub_zero, Int.natCast_nonneg, Int.toNat_zero, Bool.true_and, Bool.and_true, Bool.false_and, Bool.and_false, Bool.true_or, Bool.or_true, Bool.false_or, Bool.or_false, Bool.not_true, Bool.not_false, Bool.not_not, true_and, and_true, false_and, and_false, not_true_eq_false, not_false_eq_true, eq_self, decide_true, decide_false, ne_eq, implies_true, forall_const, true_implies, false_implies, Bool.true_eq_false, Bool.false_eq_true, reduceCtorEq, List.map_cons, List.map_nil, List.all_cons, List.all_nil, List.length_cons, List.length_nil, List.length_map, List.length_append, List.nil_append, List.cons_append, List.set_cons_zero, List.set_cons_succ, List.set_nil, List.drop_zero, List.drop_succ_cons, List.drop_nil, List.take_zero, List.take_succ_cons, List.take_nil, Option.map_some, Option.map_none, Option.isSome_some, Nat.reduceEqDiff, Nat.reduceBEq, Nat.reduceGT, List.all_append, List.all_map, Function.comp_def, decide_eq_true_eq, Bool.and_eq_true, beq_self_eq_true, or_self, and_self, ite_true, ite_false, Nat.le_refl, Bool.not_eq_true, decide_not, Bool.not_eq_true', decide_eq_false_iff_not, Bool.not_eq_false, Bool.or_eq_true, if_true, if_false, ite_self, hG, tC_len, tC_sure, tC_ltA, tC_lt1, tC_ro, tC_take, tC_all1, zcT_eq, zcI_len, zC_len, zC_ltA, zC_lt1, zC_sure, zC_ro, zC_take, set_tl, set_tv, sc_tt, sc_zt, sc_tz, sc_zz, add16, tA_def, lA_def, natInt, u_tl, u_tv, iA_def, hB, hb', hv]
      rw [e]
      rfl
    · have e : delT t k ver = (((t.setL (bk k) (withoutK (t.leaf (bk k)) k)).setV (bk k) ver), 0) := by
        simp [delT, hmay, h0', h1', hG0, hv, chgT, delK_yes (fits_leaf hmay hb) hg]
      simp (config := {maxSteps := 4000000, implicitDefEqProofs := false}) (disch := omega) only [go_sem, ↓reduceIte, Nat.reduceAdd, Nat.reduceSub, Nat.reduceMul, Nat.reduceLeDiff, Nat.reduceLT, Int.reduceEq, Int.reduceNe, Int.reduceLT, Int.reduceLE, Int.reduceAdd, Int.reduceSub, Int.reduceMul, Int.reduceNeg, Nat.zero_add, Nat.add_zero, Nat.mul_one, Int.toNat_natCast, Int.natCast_zero, Int.cast_ofNat_Int, or_false, false_or, or_true, true_or, Int.reduceToNat, Nat.sub_zero, Int.natCast_nonneg, Int.toNat_zero, Bool.true_and, Bool.and_true, Bool.false_and, Bool.and_false, Bool.true_or, Bool.or_true, Bool.false_or, Bool.or_false, Bool.not_true, Bool.not_false, Bool.not_not, true_and, and_true, false_and, and_false, not_true_eq_false, not_false_eq_true, eq_self, decide_true, decide_false, ne_eq, implies_true, forall_const, true_implies, false_implies, Bool.true_eq_false, Bool.false_eq_true, reduceCtorEq, List.map_cons, List.map_nil, List.all_cons, List.all_nil, List.length_cons, List.length_nil, List.length_map, List.length_append, List.nil_append, List.cons_append, List.set_cons_zero, List.set_cons_succ, List.set_nil, List.drop_zero, List.drop_succ_cons, List.drop_nil, List.take_zero, List.take_succ_cons, List.take_nil, Option.map_some, Option.map_none, Option.isSome_some, Nat.reduceEqDiff, Nat.reduceBEq, Nat.reduceGT, List.all_append, List.all_map, Function.comp_def, decide_eq_true_eq, Bool.and_eq_true, beq_self_eq_true, or_self, and_self, ite_true, ite_false, Nat.le_refl, Bool.not_eq_true, decide_not, Bool.not_eq_true', decide_eq_false_iff_not, Bool.not_eq_false, Bool.or_eq_true, if_true, if_false, ite_self, hG, tC_len, tC_sure, tC_ltA, tC_lt1, tC_ro, tC_take, tC_all1, zcT_eq, zcI_len, zC_len, zC_ltA, zC_lt1, zC_sure, zC_ro, zC_take, set_tl, set_tv, sc_tt, sc_zt, sc_tz, sc_zz, add16, tA_def, lA_def, natInt, u_tl, u_tv, iA_def, hB, hb', hv, hW, e16, h31, h32]
      rw [e]
      rfl
def sameT (a b : Tr) : Bool := (List.range 16).all fun i => decide (a.ver i = b.ver i) && decide (a.leaf i = b.leaf i)
theorem sameT_iff {a b : Tr} : sameT a b = true ↔ a.Eq16 b := by
  unfold sameT
  rw [List.all_eq_true]
  constructor
  · intro h i hi
    have := h i (List.mem_range.2 hi)
    simp only [Bool.and_eq_true, decide_eq_true_eq] at this
    exact ⟨this.2, this.1⟩
  · intro h i hi
    have := h i (List.mem_range.1 hi)
    simp only [Bool.and_eq_true, decide_eq_true_eq]
    exact ⟨this.2, this.1⟩
theorem sameT_no {a b : Tr} {i : Nat} (hi : i < 16) (h : ¬ (a.ver i = b.ver i ∧ a.leaf i = b.leaf i)) : sameT a b = false := by
  cases e : sameT a b with
  | false => rfl
  | true =>
    have := sameT_iff.1 e i hi
    exact absurd ⟨this.2, this.1⟩ h
theorem rsame_s (m : Nat) (a b : Tr) (hm : 16 < m) (ha : ∀ i, (a.leaf i).length ≤ 34359738368) (hb : ∀ i, (b.leaf i).length ≤ 34359738368) : plenumref10_Same m (tA a) (tA b) = some (bA (sameT a b), []) := by
  rw [plenumref10_Same_eq]
  simp (config := {maxSteps := 4000000, implicitDefEqProofs := false}) (disch := omega) only [go_sem, ↓reduceIte, Nat.reduceAdd, Nat.reduceSub, Nat.reduceMul, Nat.reduceLeDiff, Nat.reduceLT, Int.reduceEq, Int.reduceNe, Int.reduceLT, Int.reduceLE, Int.reduceAdd, Int.reduceSub, Int.reduceMul, Int.reduceNeg, Nat.zero_add, Nat.add_zero, Nat.mul_one, Int.toNat_natCast, Int.natCast_zero, Int.cast_ofNat_Int, or_false, false_or, or_true, true_or, Int.reduceToNat, Nat.sub_zero, Int.natCast_nonneg, Int.toNat_zero, Bool.true_and, Bool.and_true, Bool.false_and, Bool.and_false, Bool.true_or, Bool.or_true, Bool.false_or, Bool.or_false, Bool.not_true, Bool.not_false, Bool.not_not, true_and, and_true, false_and, and_false, not_true_eq_false, not_false_eq_true, eq_self, decide_true, decide_false, ne_eq, implies_true, forall_const, true_implies, false_implies, Bool.true_eq_false, Bool.false_eq_true, reduceCtorEq, List.map_cons, List.map_nil, List.all_cons, List.all_nil, List.length_cons, List.length_nil, List.length_map, List.length_append, List.nil_append, List.cons_append, List.set_cons_zero, List.set_cons_succ, List.set_nil, List.drop_zero, List.drop_succ_cons, List.drop_nil, List.take_zero, List.take_succ_cons, List.take_nil, Option.map_some, Option.map_none, Option.isSome_some, Nat.reduceEqDiff, Nat.reduceBEq, Nat.reduceGT, List.all_append, List.all_map, Function.comp_def, decide_eq_true_eq, Bool.and_eq_true, beq_self_eq_true, or_self, and_self, ite_true, ite_false, Nat.le_refl, Bool.not_eq_true, decide_not, Bool.not_eq_true', decide_eq_false_iff_not, Bool.not_eq_false, Bool.or_eq_true, if_true, if_false, ite_self, tC_len, tC_sure, tC_ltA, tC_lt1, tC_ro, tC_take, tC_all1, zcT_eq, zcI_len, zC_len, zC_ltA, zC_lt1, zC_sure, zC_ro, zC_take, set_tl, set_tv, sc_tt, sc_zt, sc_tz, sc_zz, add16, tA_def, lA_def, natInt, u_tl, u_tv]
  refine iter_ind (ι := {k : Nat // k ≤ 16 ∧ (List.range k).all (fun i => decide (a.ver i = b.ver i) && decide (a.leaf i = b.leaf i)) = true}) (fun k => ⟨[⟨1, ty_api_Trunk, 0, tC a⟩, ⟨1, ty_api_Trunk, 0, tC b⟩], [(2, OP 0 0), (3, OP 1 0), (5, nA k.1)]⟩) (fun k => 16 - k.1) (fun _ => some (bA (sameT a b), [])) ?_ ⟨0, Nat.zero_le _, rfl⟩ (by dsimp only; omega)
  rintro ⟨k, hk, hall⟩ kc hkc
  dsimp only at hkc ⊢
  rw [plenumref10_Same_b1_eq]
  by_cases hlt : k < 16
  · have hlt' : (k : Int) < 16 := by omega
    have hS := plenumref09_Same_e m (a.leaf k) (b.leaf k) ⟨ha k, hb k⟩
    rw [lA_def, lA_def] at hS
    by_cases hv : a.ver k = b.ver k
    · by_cases hl : a.leaf k = b.leaf k
      · have step := hkc ⟨k + 1, by omega, by rw [List.range_succ, List.all_append, hall]; simp [hv, hl]⟩ (by dsimp only; omega)
        simp only [hl] at hS
        simp (config := {maxSteps := 4000000, implicitDefEqProofs := false}) (disch := omega) only [go_sem, ↓reduceIte, Nat.reduceAdd, Nat.reduceSub, Nat.reduceMul, Nat.reduceLeDiff, Nat.reduceLT, Int.reduceEq, Int.reduceNe, Int.reduceLT, Int.reduceLE, Int.reduceAdd, Int.reduceSub, Int.reduceMul, Int.reduceNeg, Nat.zero_add, Nat.add_zero, Nat.mul_one, Int.toNat_natCast, Int.natCast_zero, Int.cast_ofNat_Int, or_false, false_or, or_true, true_or, Int.reduceToNat, Nat.sub_zero, Int.natCast_nonneg, Int.toNat_zero, Bool.true_and, Bool.and_true, Bool.false_and, Bool.and_false, Bool.true_or, Bool.or_true, Bool.false_or, Bool.or_false, Bool.not_true, Bool.not_false, Bool.not_not, true_and, and_true, false_and, and_false, not_true_eq_false, not_false_eq_true, eq_self, decide_true, decide_false, ne_eq, implies_true, forall_const, true_implies, false_implies, Bool.true_eq_false, Bool.false_eq_true, reduceCtorEq, List.map_cons, List.map_nil, List.all_cons, List.all_nil, List.length_cons, List.length_nil, List.length_map, List.length_append, List.nil_append, List.cons_append, List.set_cons_zero, List.set_cons_succ, List.set_nil, List.drop_zero, List.drop_succ_cons, List.drop_nil, List.take_zero, List.take_succ_cons, List.take_nil, Option.map_some, Option.map_none, Option.isSome_some, Nat.reduceEqDiff, Nat.reduceBEq, Nat.reduceGT, List.all_append, List.all_map, Function.comp_def, decide_eq_true_eq, Bool.and_eq_true, beq_self_eq_true, or_self, and_self, ite_true, ite_false, Nat.le_refl, Bool.not_eq_true, decide_not, Bool.not_eq_true', decide_eq_false_iff_not, Bool.not_eq_false, Bool.or_eq_true, if_true, if_false, ite_self, tC_len, tC_sure, tC_ltA, tC_lt1, tC_ro, tC_take, tC_all1, zcT_eq, zcI_len, zC_len, zC_ltA, zC_lt1, zC_sure, zC_ro, zC_take, set_tl, set_tv, sc_tt, sc_zt, sc_tz, sc_zz, add16, tA_def, lA_def, natInt, u_tl, u_tv, hlt', hS, hv, hl, w_i64]
        exact step
      · simp only [hl] at hS
        simp (config := {maxSteps := 4000000, implicitDefEqProofs := false}) (disch := omega) only [go_sem, ↓reduceIte, Nat.reduceAdd, Nat.reduceSub, Nat.reduceMul, Nat.reduceLeDiff, Nat.reduceLT, Int.reduceEq, Int.reduceNe, Int.reduceLT, Int.reduceLE, Int.reduceAdd, Int.reduceSub, Int.reduceMul, Int.reduceNeg, Nat.zero_add, Nat.add_zero, Nat.mul_one, Int.toNat_natCast, Int.natCast_zero, Int.cast_ofNat_Int, or_false, false_or, or_true, true_or, Int.reduceToNat, Nat.sub_zero, Int.natCast_nonneg, Int.toNat_zero, Bool.true_and, Bool.and_true, Bool.false_and, Bool.and_false, Bool.true_or, Bool.or_true, Bool.false_or, Bool.or_false, Bool.not_true, Bool.not_false, Bool.not_not, true_and, and_true, false_and, and_false, not_true_eq_false, not_false_eq_true, eq_self, decide_true, decide_false, ne_eq, implies_true, forall_const, true_implies, false_implies, Bool.true_eq_false, Bool.false_eq_true, reduceCtorEq, List.map_cons, List.map_nil, List.all_cons, List.all_nil, List.length_cons, List.length_nil, List.length_map, List.length_append, List.nil_append, List.cons_append, List.set_cons_zero, List.set_cons_succ, List.set_nil, List.drop_zero, List.drop_succ_cons, List.drop_nil, List.take_zero, List.take_succ_cons, List.take_nil, Option.map_some, Option.map_none, Option.isSome_some, Nat.reduceEqDiff, Nat.reduceBEq, Nat.reduceGT, List.all_append, List.all_map, Function.comp_def, decide_eq_true_eq, Bool.and_eq_true, beq_self_eq_true, or_self, and_self, ite_true, ite_false, Nat.le_refl, Bool.not_eq_true, decide_not, Bool.not_eq_true', decide_eq_false_iff_not, Bool.not_eq_false, Bool.or_eq_true, if_true, if_false, ite_self, tC_len, tC_sure, tC_ltA, tC_lt1, tC_ro, tC_take, tC_all1, zcT_eq, zcI_len, zC_len, zC_ltA, zC_lt1, zC_sure, zC_ro, zC_take, set_tl, set_tv, sc_tt, sc_zt, sc_tz, sc_zz, add16, tA_def, lA_def, natInt, u_tl, u_tv, hlt', hS, hv, hl, w_i64]
        rw [sameT_no hlt fun q => hl q.2]
        rfl
    · simp (config := {maxSteps := 4000000, implicitDefEqProofs := false}) (disch := omega) only [go_sem, ↓reduceIte, Nat.reduceAdd, Nat.reduceSub, Nat.reduceMul, Nat.reduceLeDiff, Nat.reduceLT, Int.reduceEq, Int.reduceNe, Int.reduceLT, Int.reduceLE, Int.reduceAdd, Int.reduceSub, Int.reduceMul, Int.reduceNeg, Nat.zero_add, Nat.add_zero, Nat.mul_one, Int.toNat_natCast, Int.natCast_zero, Int.cast_ofNat_Int, or_false, false_or, or_true, true_or, Int.reduceToNat, Nat.sub_zero, Int.natCast_nonneg, Int.toNat_zero, Bool.true_and, Bool.and_true, Bool.false_and, Bool.and_false, Bool.true_or, Bool.or_true, Bool.false_or, Bool.or_false, Bool.not_true, Bool.not_false, Bool.not_not, true_and, and_true, false_and, and_false, not_true_eq_false, not_false_eq_true, eq_self, decide_true, decide_false, ne_eq, implies_true, forall_const, true_implies, false_implies, Bool.true_eq_false, Bool.false_eq_true, reduceCtorEq, List.map_cons, List.map_nil, List.all_cons, List.all_nil, List.length_cons, List.length_nil, List.length_map, List.length_append, List.nil_append, List.cons_append, List.set_cons_zero, List.set_cons_succ, List.set_nil, List.drop_zero, List.drop_succ_cons, List.drop_nil, List.take_zero, List.take_succ_cons, List.take_nil, Option.map_some, Option.map_none, Option.isSome_some, Nat.reduceEqDiff, Nat.reduceBEq, Nat.reduceGT, List.all_append, List.all_map, Function.comp_def, decide_eq_true_eq, Bool.and_eq_true, beq_self_eq_true, or_self, and_self, ite_true, ite_false, Nat.le_refl, Bool.not_eq_true, decide_not, Bool.not_eq_true', decide_eq_false_iff_not, Bool.not_eq_false, Bool.or_eq_true, if_true, if_false, ite_self, tC_len, tC_sure, tC_ltA, tC_lt1, tC_ro, tC_take, tC_all1, zcT_eq, zcI_len, zC_len, zC_ltA, zC_lt1, zC_sure, zC_ro, zC_take, set_tl, set_tv, sc_tt, sc_zt, sc_tz, sc_zz, add16, tA_def, lA_def, natInt, u_tl, u_tv, hlt', hv]
      rw [sameT_no hlt fun q => hv q.1]
      rfl
  · have hlt' : ¬ (k : Int) < 16 := by omega
    have : k = 16 := by omega
    subst this
    simp (config := {maxSteps := 4000000, implicitDefEqProofs := false}) (disch := omega) only [go_sem, ↓reduceIte, Nat.reduceAdd, Nat.reduceSub, Nat.reduceMul, Nat.reduceLeDiff, Nat.reduceLT, Int.reduceEq, Int.reduceNe, Int.reduceLT, Int.reduceLE, Int.reduceAdd, Int.reduceSub, Int.reduceMul, Int.reduceNeg, Nat.zero_add, Nat.add_zero, Nat.mul_one, Int.toNat_natCast, Int.natCast_zero, Int.cast_ofNat_Int, or_false, false_or, or_true, true_or, Int.reduceToNat, Nat.sub_zero, Int.natCast_nonneg, Int.toNat_zero, Bool.true_and, Bool.and_true, Bool.false_and, Bool.and_false, Bool.true_or, Bool.or_true, Bool.false_or, Bool.or_false, Bool.not_true, Bool.not_false, Bool.not_not, true_and, and_true, false_and, and_false, not_true_eq_false, not_false_eq_true, eq_self, decide_true, decide_false, ne_eq, implies_true, forall_const, true_implies, false_implies, Bool.true_eq_false, Bool.false_eq_true, reduceCtorEq, List.map_cons, List.map_nil, List.all_cons, List.all_nil, List.length_cons, List.length_nil, List.length_map, List.length_append, List.nil_append, List.cons_append, List.set_cons_zero, List.set_cons_succ, List.set_nil, List.drop_zero, List.drop_succ_cons, List.drop_nil, List.take_zero, List.take_succ_cons, List.take_nil, Option.map_some, Option.map_none, Option.isSome_some, Nat.reduceEqDiff, Nat.reduceBEq, Nat.reduceGT, List.all_append, List.all_map, Function.comp_def, decide_eq_true_eq, Bool.and_eq_true, beq_self_eq_true, or_self, and_self, ite_true, ite_false, Nat.le_refl, Bool.not_eq_true, decide_not, Bool.not_eq_true', decide_eq_false_iff_not, Bool.not_eq_false, Bool.or_eq_true, if_true, if_false, ite_self, hlt']
    rw [show sameT a b = true from hall]
    rfl
theorem rnone_s (m : Nat) (a : Tr) (hm : 16 < m) (ha : ∀ i, (a.leaf i).length ≤ 34359738368) : plenumlaw10_none m (tA a) = some (bA (sameT a Tr.zero), []) := by
  have hS := rsame_s m a Tr.zero hm ha (fun _ => Nat.zero_le _)
  rw [tA_def, tA_def] at hS
  rw [plenumlaw10_none_eq]
  simp (config := {maxSteps := 4000000, implicitDefEqProofs := false}) (disch := omega) only [go_sem, ↓reduceIte, Nat.reduceAdd, Nat.reduceSub, Nat.reduceMul, Nat.reduceLeDiff, Nat.reduceLT, Int.reduceEq, Int.reduceNe, Int.reduceLT, Int.reduceLE, Int.reduceAdd, Int.reduceSub, Int.reduceMul, Int.reduceNeg, Nat.zero_add, Nat.add_zero, Nat.mul_one, Int.toNat_natCast, Int.natCast_zero, Int.cast_ofNat_Int, or_false, false_or, or_true, true_or, Int.reduceToNat, Nat.sub_zero, Int.natCast_nonneg, Int.toNat_zero, Bool.true_and, Bool.and_true, Bool.false_and, Bool.and_false, Bool.true_or, Bool.or_true, Bool.false_or, Bool.or_false, Bool.not_true, Bool.not_false, Bool.not_not, true_and, and_true, false_and, and_false, not_true_eq_false, not_false_eq_true, eq_self, decide_true, decide_false, ne_eq, implies_true, forall_const, true_implies, false_implies, Bool.true_eq_false, Bool.false_eq_true, reduceCtorEq, List.map_cons, List.map_nil, List.all_cons, List.all_nil, List.length_cons, List.length_nil, List.length_map, List.length_append, List.nil_append, List.cons_append, List.set_cons_zero, List.set_cons_succ, List.set_nil, List.drop_zero, List.drop_succ_cons, List.drop_nil, List.take_zero, List.take_succ_cons, List.take_nil, Option.map_some, Option.map_none, Option.isSome_some, Nat.reduceEqDiff, Nat.reduceBEq, Nat.reduceGT, List.all_append, List.all_map, Function.comp_def, decide_eq_true_eq, Bool.and_eq_true, beq_self_eq_true, or_self, and_self, ite_true, ite_false, Nat.le_refl, Bool.not_eq_true, decide_not, Bool.not_eq_true', decide_eq_false_iff_not, Bool.not_eq_false, Bool.or_eq_true, if_true, if_false, ite_self, hS, u_bT, tC_len, tC_sure, tC_ltA, tC_lt1, tC_ro, tC_take, tC_all1, zcT_eq, zcI_len, zC_len, zC_ltA, zC_lt1, zC_sure, zC_ro, zC_take, set_tl, set_tv, sc_tt, sc_zt, sc_tz, sc_zz, add16, tA_def, lA_def, natInt, u_tl, u_tv]
def allTo (t : Tr) (k : Nat) : List Item := (List.range k).flatMap t.leaf
theorem allTo_succ (t : Tr) (k : Nat) : allTo t (k + 1) = allTo t k ++ t.leaf k := by simp [allTo, List.range_succ]
theorem allTo_len (t : Tr) : ∀ k, (allTo t k).length = sumTo (fun i => (t.leaf i).length) k
  | 0 => rfl
  | k + 1 => by rw [allTo_succ, List.length_append, allTo_len t k]; rfl
theorem allTo_le (t : Tr) (h : t.Ok) : ∀ k, (allTo t k).length ≤ k * 1000000
  | 0 => Nat.zero_le _
  | k + 1 => by have := allTo_le t h k; have := h.len k; rw [allTo_succ, List.length_append]; omega
theorem lA_app (a b : List Item) : (a ++ b).map (flA Item.cells) = a.map (flA Item.cells) ++ b.map (flA Item.cells) := List.map_append
theorem rall_s (m : Nat) (t : Tr) (hm : 16 < m) (h : t.Ok) : plenumref10_All m (tA t) = some (lA (allTo t 16), []) := by
  rw [plenumref10_All_eq]
  simp (config := {maxSteps := 4000000, implicitDefEqProofs := false}) (disch := omega) only [go_sem, ↓reduceIte, Nat.reduceAdd, Nat.reduceSub, Nat.reduceMul, Nat.reduceLeDiff, Nat.reduceLT, Int.reduceEq, Int.reduceNe, Int.reduceLT, Int.reduceLE, Int.reduceAdd, Int.reduceSub, Int.reduceMul, Int.reduceNeg, Nat.zero_add, Nat.add_zero, Nat.mul_one, Int.toNat_natCast, Int.natCast_zero, Int.cast_ofNat_Int, or_false, false_or, or_true, true_or, Int.reduceToNat, Nat.sub_zero, Int.natCast_nonneg, Int.toNat_zero, Bool.true_and, Bool.and_true, Bool.false_and, Bool.and_false, Bool.true_or, Bool.or_true, Bool.false_or, Bool.or_false, Bool.not_true, Bool.not_false, Bool.not_not, true_and, and_true, false_and, and_false, not_true_eq_false, not_false_eq_true, eq_self, decide_true, decide_false, ne_eq, implies_true, forall_const, true_implies, false_implies, Bool.true_eq_false, Bool.false_eq_true, reduceCtorEq, List.map_cons, List.map_nil, List.all_cons, List.all_nil, List.length_cons, List.length_nil, List.length_map, List.length_append, List.nil_append, List.cons_append, List.set_cons_zero, List.set_cons_succ, List.set_nil, List.drop_zero, List.drop_succ_cons, List.drop_nil, List.take_zero, List.take_succ_cons, List.take_nil, Option.map_some, Option.map_none, Option.isSome_some, Nat.reduceEqDiff, Nat.reduceBEq, Nat.reduceGT, List.all_append, List.all_map, Function.comp_def, decide_eq_true_eq, Bool.and_eq_true, beq_self_eq_true, or_self, and_self, ite_true, ite_false, Nat.le_refl, Bool.not_eq_true, decide_not, Bool.not_eq_true', decide_eq_false_iff_not, Bool.not_eq_false, Bool.or_eq_true, if_true, if_false, ite_self, tC_len, tC_sure, tC_ltA, tC_lt1, tC_ro, tC_take, tC_all1, zcT_eq, zcI_len, zC_len, zC_ltA, zC_lt1, zC_sure, zC_ro, zC_take, set_tl, set_tv, sc_tt, sc_zt, sc_tz, sc_zz, add16, tA_def, lA_def, natInt, u_tl, u_tv]
  refine iter_ind (ι := {k : Nat // k ≤ 16}) (fun k => ⟨[⟨1, ty_api_Trunk, 0, tC t⟩, ⟨2, ty_api_Item, 5, (allTo t k).map (flA Item.cells)⟩], [(1, OP 0 0), (3, OW 1 (allTo t k.1).length), (4, nA k.1)]⟩) (fun k => 16 - k.1) (fun _ => some (lA (allTo t 16), [])) ?_ ⟨0, Nat.zero_le _⟩ (by dsimp only; omega)
  rintro ⟨k, hk⟩ kc hkc
  dsimp only at hkc ⊢
  rw [plenumref10_All_b1_eq]
  by_cases hlt : k < 16
  · have hlt' : (k : Int) < 16 := by omega
    have step := hkc ⟨k + 1, by omega⟩ (by dsimp only; omega)
    dsimp only at step
    rw [allTo_succ, lA_app, List.length_append] at step
    have hle := allTo_le t h k
    have hle2 := h.len k
    have hle3 : (allTo t k).length + (t.leaf k).length ≤ 34359738368 := by omega
    simp (config := {maxSteps := 4000000, implicitDefEqProofs := false}) (disch := omega) only [go_sem, ↓reduceIte, Nat.reduceAdd, Nat.reduceSub, Nat.reduceMul, Nat.reduceLeDiff, Nat.reduceLT, Int.reduceEq, Int.reduceNe, Int.reduceLT, Int.reduceLE, Int.reduceAdd, Int.reduceSub, Int.reduceMul, Int.reduceNeg, Nat.zero_add, Nat.add_zero, Nat.mul_one, Int.toNat_natCast, Int.natCast_zero, Int.cast_ofNat_Int, or_false, false_or, or_true, true_or, Int.reduceToNat, Nat.sub_zero, Int.natCast_nonneg, Int.toNat_zero, Bool.true_and, Bool.and_true, Bool.false_and, Bool.and_false, Bool.true_or, Bool.or_true, Bool.false_or, Bool.or_false, Bool.not_true, Bool.not_false, Bool.not_not, true_and, and_true, false_and, and_false, not_true_eq_false, not_false_eq_true, eq_self, decide_true, decide_false, ne_eq, implies_true, forall_const, true_implies, false_implies, Bool.true_eq_false, Bool.false_eq_true, reduceCtorEq, List.map_cons, List.map_nil, List.all_cons, List.all_nil, List.length_cons, List.length_nil, List.length_map, List.length_append, List.nil_append, List.cons_append, List.set_cons_zero, List.set_cons_succ, List.set_nil, List.drop_zero, List.drop_succ_cons, List.drop_nil, List.take_zero, List.take_succ_cons, List.take_nil, Option.map_some, Option.map_none, Option.isSome_some, Nat.reduceEqDiff, Nat.reduceBEq, Nat.reduceGT, List.all_append, List.all_map, Function.comp_def, decide_eq_true_eq, Bool.and_eq_true, beq_self_eq_true, or_self, and_self, ite_true, ite_false, Nat.le_refl, Bool.not_eq_true, decide_not, Bool.not_eq_true', decide_eq_false_iff_not, Bool.not_eq_false, Bool.or_eq_true, if_true, if_false, ite_self, tC_len, tC_sure, tC_ltA, tC_lt1, tC_ro, tC_take, tC_all1, zcT_eq, zcI_len, zC_len, zC_ltA, zC_lt1, zC_sure, zC_ro, zC_take, set_tl, set_tv, sc_tt, sc_zt, sc_tz, sc_zz, add16, tA_def, lA_def, natInt, u_tl, u_tv, hlt', hle3, w_i64, fl_all5, fl_allA]
    exact step
  · have hlt' : ¬ (k : Int) < 16 := by omega
    have : k = 16 := by omega
    subst this
    simp (config := {maxSteps := 4000000, implicitDefEqProofs := false}) (disch := omega) only [go_sem, ↓reduceIte, Nat.reduceAdd, Nat.reduceSub, Nat.reduceMul, Nat.reduceLeDiff, Nat.reduceLT, Int.reduceEq, Int.reduceNe, Int.reduceLT, Int.reduceLE, Int.reduceAdd, Int.reduceSub, Int.reduceMul, Int.reduceNeg, Nat.zero_add, Nat.add_zero, Nat.mul_one, Int.toNat_natCast, Int.natCast_zero, Int.cast_ofNat_Int, or_false, false_or, or_true, true_or, Int.reduceToNat, Nat.sub_zero, Int.natCast_nonneg, Int.toNat_zero, Bool.true_and, Bool.and_true, Bool.false_and, Bool.and_false, Bool.true_or, Bool.or_true, Bool.false_or, Bool.or_false, Bool.not_true, Bool.not_false, Bool.not_not, true_and, and_true, false_and, and_false, not_true_eq_false, not_false_eq_true, eq_self, decide_true, decide_false, ne_eq, implies_true, forall_const, true_implies, false_implies, Bool.true_eq_false, Bool.false_eq_true, reduceCtorEq, List.map_cons, List.map_nil, List.all_cons, List.all_nil, List.length_cons, List.length_nil, List.length_map, List.length_append, List.nil_append, List.cons_append, List.set_cons_zero, List.set_cons_succ, List.set_nil, List.drop_zero, List.drop_succ_cons, List.drop_nil, List.take_zero, List.take_succ_cons, List.take_nil, Option.map_some, Option.map_none, Option.isSome_some, Nat.reduceEqDiff, Nat.reduceBEq, Nat.reduceGT, List.all_append, List.all_map, Function.comp_def, decide_eq_true_eq, Bool.and_eq_true, beq_self_eq_true, or_self, and_self, ite_true, ite_false, Nat.le_refl, Bool.not_eq_true, decide_not, Bool.not_eq_true', decide_eq_false_iff_not, Bool.not_eq_false, Bool.or_eq_true, if_true, if_false, ite_self, hlt']
    show plenumref10_All_r1 m _ = _
    rw [plenumref10_All_r1_eq, lA_def]
    simp (config := {maxSteps := 4000000, implicitDefEqProofs := false}) (disch := omega) only [go_sem, ↓reduceIte, Nat.reduceAdd, Nat.reduceSub, Nat.reduceMul, Nat.reduceLeDiff, Nat.reduceLT, Int.reduceEq, Int.reduceNe, Int.reduceLT, Int.reduceLE, Int.reduceAdd, Int.reduceSub, Int.reduceMul, Int.reduceNeg, Nat.zero_add, Nat.add_zero, Nat.mul_one, Int.toNat_natCast, Int.natCast_zero, Int.cast_ofNat_Int, or_false, false_or, or_true, true_or, Int.reduceToNat, Nat.sub_zero, Int.natCast_nonneg, Int.toNat_zero, Bool.true_and, Bool.and_true, Bool.false_and, Bool.and_false, Bool.true_or, Bool.or_true, Bool.false_or, Bool.or_false, Bool.not_true, Bool.not_false, Bool.not_not, true_and, and_true, false_and, and_false, not_true_eq_false, not_false_eq_true, eq_self, decide_true, decide_false, ne_eq, implies_true, forall_const, true_implies, false_implies, Bool.true_eq_false, Bool.false_eq_true, reduceCtorEq, List.map_cons, List.map_nil, List.all_cons, List.all_nil, List.length_cons, List.length_nil, List.length_map, List.length_append, List.nil_append, List.cons_append, List.set_cons_zero, List.set_cons_succ, List.set_nil, List.drop_zero, List.drop_succ_cons, List.drop_nil, List.take_zero, List.take_succ_cons, List.take_nil, Option.map_some, Option.map_none, Option.isSome_some, Nat.reduceEqDiff, Nat.reduceBEq, Nat.reduceGT, List.all_append, List.all_map, Function.comp_def, decide_eq_true_eq, Bool.and_eq_true, beq_self_eq_true, or_self, and_self, ite_true, ite_false, Nat.le_refl, Bool.not_eq_true, decide_not, Bool.not_eq_true', decide_eq_false_iff_not, Bool.not_eq_false, Bool.or_eq_true, if_true, if_false, ite_self, tC_len, tC_sure, tC_ltA, tC_lt1, tC_ro, tC_take, tC_all1, zcT_eq, zcI_len, zC_len, zC_ltA, zC_lt1, zC_sure, zC_ro, zC_take, set_tl, set_tv, sc_tt, sc_zt, sc_tz, sc_zz, add16, tA_def, lA_def, natInt, u_tl, u_tv, fl_allA]
end Go.Proofs.YthmnhfabkllgpaaDoor

namespace Go.Proofs.YthmnhfabkllgpaaDoor
open Go.RowKit
set_option linter.unusedVariables false
set_option linter.unusedSimpArgs false
set_option maxRecDepth 20000
def xa : Item := ⟨[97], 2, 1, [], 5⟩
def xq : Item := ⟨[113], 2, 2, [], 4⟩
def T1 : Tr := (Tr.zero.setL 1 [xa]).setV 1 5
def T2 : Tr := (T1.setL 1 []).setV 1 9
theorem ex_put : putT Tr.zero xa = (T1, 0) := by kernel_rfl
theorem ex_old : (putT T1 xq).2 = 18 := by kernel_rfl
theorem ex_old1 : (putT T1 xq).1 = Tr.zero := by kernel_rfl
theorem ex_del : delT T1 [97] 9 = (T2, 0) := by kernel_rfl
theorem ex_unlike : unlikeT T1 Tr.zero = ([1], 0) := by kernel_rfl
theorem ex_count1 : countT T1 = 1 := by kernel_rfl
theorem ex_count2 : countT T2 = 0 := by kernel_rfl
theorem nilOk : ([] : List Item).length ≤ 1000000 ∧ (∀ x ∈ ([] : List Item), x.key.length ≤ maxLen ∧ NumOk x) ∧ weightP [] ≤ 1000000000 := ⟨Nat.zero_le _, (by intro x hx; cases hx), Nat.le_of_ble_eq_true (by kernel_rfl)⟩
theorem ok_zero : Tr.zero.Ok := fun i => nilOk
theorem ok_T1 : T1.Ok := fun i => by
  by_cases h : i = 1
  · subst h
    refine ⟨by decide, (fun x hx => ?_), Nat.le_of_ble_eq_true (by kernel_rfl)⟩
    have : x = xa := by simpa [T1, Tr.setL, Tr.setV, Tr.zero] using hx
    subst this
    exact ⟨by decide, by unfold NumOk; decide⟩
  · have : T1.leaf i = [] := by simp [T1, Tr.setL, Tr.setV, Tr.zero, h]
    rw [this]
    exact nilOk
theorem ok_T2 : T2.Ok := fun i => by
  have : T2.leaf i = [] := by by_cases h : i = 1 <;> simp [T2, T1, Tr.setL, Tr.setV, Tr.zero, h]
  rw [this]
  exact nilOk
theorem rint_s (m : Nat) (i : Int) : plenumref07_Int m (nA i) = some (.agg [nA 2, nA i, sA []], []) := by
  rw [plenumref07_Int_eq]
  rfl
theorem u_bI {R : Type} {K1 : AV → Option R} {a b c d e : Value} : buildE (some pl_api_Item) (some zc_api_Item) [(0, V a), (1, .agg [V b, V c, V d]), (2, V e)] K1 = K1 (.agg [V a, V b, V c, V d, V e]) := _root_.id rfl
theorem nLs_one (i : Nat) : nLs [i] = [nA i] := _root_.id rfl
theorem awake_s (m : Nat) : plenumlaw10_awake m = some (bA true, []) := by
  have h1 := trunk_Put_e m Tr.zero xa ok_zero
  have h2 := trunk_Put_e m T1 xq ok_T1
  have h3 := trunk_Unlike_e m T1 Tr.zero ok_T1 ok_zero
  have h4 := trunk_Delete_e m T1 [97] 9 ok_T1
  have h5 := trunk_Count_e m T1 ok_T1
  have h6 := trunk_Count_e m T2 ok_T2
  rw [ex_put, tA_def, iA_def] at h1
  rw [ex_old, ex_old1, tA_def, iA_def] at h2
  rw [ex_unlike, tA_def, tA_def] at h3
  rw [ex_del, tA_def] at h4
  rw [ex_count1, tA_def] at h5
  rw [ex_count2, tA_def] at h6
  have hi1 := rint_s m 1
  have hi2 := rint_s m 2
  have v1 : T1.ver 1 = 5 := rfl
  have v2 : T2.ver 1 = 9 := rfl
  simp only [xa, xq] at h1 h2
  rw [plenumlaw10_awake_eq]
  simp (config := {maxSteps := 4000000, implicitDefEqProofs := false}) (disch := omega) only [go_sem, ↓reduceIte, Nat.reduceAdd, Nat.reduceSub, Nat.reduceMul, Nat.reduceLeDiff, Nat.reduceLT, Int.reduceEq, Int.reduceNe, Int.reduceLT, Int.reduceLE, Int.reduceAdd, Int.reduceSub, Int.reduceMul, Int.reduceNeg, Nat.zero_add, Nat.add_zero, Nat.mul_one, Int.toNat_natCast, Int.natCast_zero, Int.cast_ofNat_Int, or_false, false_or, or_true, true_or, Int.reduceToNat, Nat.sub_zero, Int.natCast_nonneg, Int.toNat_zero, Bool.true_and, Bool.and_true, Bool.false_and, Bool.and_false, Bool.true_or, Bool.or_true, Bool.false_or, Bool.or_false, Bool.not_true, Bool.not_false, Bool.not_not, true_and, and_true, false_and, and_false, not_true_eq_false, not_false_eq_true, eq_self, decide_true, decide_false, ne_eq, implies_true, forall_const, true_implies, false_implies, Bool.true_eq_false, Bool.false_eq_true, reduceCtorEq, List.map_cons, List.map_nil, List.all_cons, List.all_nil, List.length_cons, List.length_nil, List.length_map, List.length_append, List.nil_append, List.cons_append, List.set_cons_zero, List.set_cons_succ, List.set_nil, List.drop_zero, List.drop_succ_cons, List.drop_nil, List.take_zero, List.take_succ_cons, List.take_nil, Option.map_some, Option.map_none, Option.isSome_some, Nat.reduceEqDiff, Nat.reduceBEq, Nat.reduceGT, List.all_append, List.all_map, Function.comp_def, decide_eq_true_eq, Bool.and_eq_true, beq_self_eq_true, or_self, and_self, ite_true, ite_false, Nat.le_refl, Bool.not_eq_true, decide_not, Bool.not_eq_true', decide_eq_false_iff_not, Bool.not_eq_false, Bool.or_eq_true, if_true, if_false, ite_self, tC_len, tC_sure, tC_ltA, tC_lt1, tC_ro, tC_take, tC_all1, zcT_eq, zcI_len, zC_len, zC_ltA, zC_lt1, zC_sure, zC_ro, zC_take, set_tl, set_tv, sc_tt, sc_zt, sc_tz, sc_zz, add16, tA_def, lA_def, natInt, u_tl, u_tv, u_bT, u_bI, hi1, hi2, h1, h2, h3, h4, h5, h6, nLs_one, v1, v2]
theorem keyB_max {k : Bytes} (h : k.length ≤ 60) : k.length ≤ maxLen := Nat.le_trans h (by decide)
theorem weight_le {l : List Item} (hl : leafB l = true) (hn : ∀ x ∈ l, NumOk x) (hk : ∀ x ∈ l, x.key.length ≤ 60) : weight l ≤ l.length * 160 := by
  have hv := ((leafB_iff l).1 hl).2.1
  clear hl
  unfold weight
  induction l with
  | nil => exact Nat.zero_le _
  | cons x r ih =>
    have h1 := ih (fun y hy => hn y (List.mem_cons_of_mem _ hy)) (fun y hy => hk y (List.mem_cons_of_mem _ hy)) (fun y hy => hv y (List.mem_cons_of_mem _ hy))
    have h2 := hk x (List.mem_cons_self ..)
    have h3 := hn x (List.mem_cons_self ..)
    have h4 := hv x (List.mem_cons_self ..)
    have h5 : valB x.kind x.i x.s = true := by
      unfold itemB at h4
      simp only [Bool.and_eq_true] at h4
      exact h4.1.1.1.2
    have h6 := encV_len h3.1 h3.2 h5
    simp only [List.map_cons, List.sum_cons, List.length_cons]
    omega
def Tr.In (t : Tr) : Prop := ∀ i, (t.leaf i).length ≤ maxLen ∧ (∀ x ∈ t.leaf i, NumOk x) ∧ (16 ≤ i → t.leaf i = [])
theorem few_ok {t : Tr} (h : t.In) : (fewT t 16).Ok := by
  intro i
  by_cases hi : i < 16
  · have e : (fewT t 16).leaf i = fewL (t.leaf i) := by simp [fewT, hi]
    have hlen : (fewL (t.leaf i)).length ≤ 66 := by simp [fewL]; omega
    have hx : ∀ x ∈ fewL (t.leaf i), x.key.length ≤ 60 ∧ NumOk x := by
      intro x hx
      simp only [fewL, List.mem_map] at hx
      obtain ⟨y, hy, rfl⟩ := hx
      exact ⟨by simp [Item.one]; omega, (h i).2.1 y (List.mem_of_mem_take hy)⟩
    rw [e]
    refine ⟨by omega, fun x hq => ⟨keyB_max (hx x hq).1, (hx x hq).2⟩, ?_⟩
    unfold weightP
    split
    · rename_i hl
      have := weight_le hl (fun x hq => (hx x hq).2) (fun x hq => (hx x hq).1)
      omega
    · omega
  · have e : (fewT t 16).leaf i = [] := by simp only [fewT, hi, if_false]; exact (h i).2.2 (by omega)
    rw [e]; exact nilOk
theorem Tr.In.len {t : Tr} (h : t.In) : ∀ i, (t.leaf i).length ≤ maxLen := fun i => (h i).1
end Go.Proofs.YthmnhfabkllgpaaDoor
